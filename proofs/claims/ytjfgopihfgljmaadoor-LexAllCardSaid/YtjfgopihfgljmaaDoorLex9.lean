/-
  The lexer's numbers: Prefix. No conditions on the program.
-/
import Derived.Test.YtjfgopihfgljmaaDoorLex8
namespace Go.Proofs.YtjfgopihfgljmaaDoor
open Go.RowKit
set_option linter.unusedVariables false
set_option linter.unusedSimpArgs false

def decVal (v : Nat) : Value := .agg #[.bool false, .int .u64 ((v / 18446744073709551616 : Nat) : Int), .int .u64 ((v % 18446744073709551616 : Nat) : Int)]
def PrefPost (w : World) (bs : List UInt8) (e : Ending) (w' : World) : Prop :=
  match decM bs with
  | some v => e = .returned (.tuple #[decVal v, .int .i64 (numM bs : Int), .nilIface]) ∧ Fr [] w w'
  | none => e = .returned (.tuple #[decVal 0, .int .i64 (numM bs : Int), .iface 51 (.int .i64 2)]) ∧ Fr [] w w'
theorem valM_cons (v : Nat) (c : UInt8) (r : List UInt8) : valM v (c :: r) = valM (v * 10 + (c.toNat - 48)) r := by simp only [valM, List.foldl_cons]
theorem pow_step (v d n : Nat) (hd : d ≤ 9) (hv : v < 10 ^ n) : v * 10 + d < 10 ^ (n + 1) := by
  have e : 10 ^ (n + 1) = 10 ^ n * 10 := Nat.pow_succ ..
  rw [e]
  generalize 10 ^ n = P at *
  clear e
  omega
theorem valM_lt (l : List UInt8) : ∀ (v n : Nat), (∀ c ∈ l, digM c = true) → v < 10 ^ n → valM v l < 10 ^ (n + l.length) := by
  induction l with
  | nil => intro v n _ hv; exact hv
  | cons c r ih =>
    intro v n h hv
    have hc := h c (by simp)
    have hd : c.toNat - 48 ≤ 9 := by unfold digM at hc; rw [Bool.and_eq_true, decide_eq_true_eq, decide_eq_true_eq] at hc; omega
    have := ih (v * 10 + (c.toNat - 48)) (n + 1) (fun d hd => h d (List.mem_cons_of_mem _ hd)) (pow_step v _ n hd hv)
    rw [valM_cons, List.length_cons, show n + (r.length + 1) = n + 1 + r.length by omega]
    exact this
theorem valM_append (l : List UInt8) (m : List UInt8) (v : Nat) : valM v (l ++ m) = valM (valM v l) m := by simp only [valM, List.foldl_append]
theorem valM_snoc (l : List UInt8) (c : UInt8) (v : Nat) : valM v (l ++ [c]) = valM v l * 10 + (c.toNat - 48) := by simp only [valM, List.foldl_append, List.foldl_cons, List.foldl_nil]
theorem Bytes.back {w W : World} {X : Option Addr} {l : List UInt8} (h : Bytes W X l) (hf : Fr [] w W) (hlt : ∀ b, X = some b → b.block < w.heap.size) : Bytes w X l := by
  rcases h with h | ⟨a1, rfl, _, hcs⟩
  · exact .inl h
  · exact .inr ⟨a1, rfl, hlt a1 rfl, fun j u hu => (hf.cell (p := a1.add j) (by rw [blk_add]; exact hlt a1 rfl) (by simp)).symm.trans (hcs j u hu)⟩
def decC (v : Nat) : Array Value := #[.bool false, .int .u64 ((v / 18446744073709551616 : Nat) : Int), .int .u64 ((v % 18446744073709551616 : Nat) : Int)]
theorem decC_zero : decC 0 = #[.bool false, .int .u64 0, .int .u64 0] := by simp [decC]
theorem decC_form (V : Nat) : ∃ hi lo : Nat, decC V = #[.bool false, .int .u64 (hi : Int), .int .u64 (lo : Int)] := ⟨_, _, rfl⟩
theorem more_dec (V c d : Nat) (hc : c = d + 48) (hd : d ≤ 9) (hV : V * 10 + d < 340282366920938463463374607431768211456) {hi lo hi' lo' : Nat} (h1 : decC V = #[.bool false, .int .u64 (hi : Int), .int .u64 (lo : Int)]) (h2 : decC (V * 10 + d) = #[.bool false, .int .u64 (hi' : Int), .int .u64 (lo' : Int)]) (w : World) :
    Calls Tryd.prog 49 #[.agg #[.bool false, .int .u64 (hi : Int), .int .u64 (lo : Int)], .int .u8 (c : Int)] w fun e w' => e = .returned (.agg #[.bool false, .int .u64 (hi' : Int), .int .u64 (lo' : Int)]) ∧ Fr [] w w' := by
  rw [← h1, ← h2]
  exact more_any V c d hc hd hV w
theorem List.mem_takeWhile_imp_ {α : Type} {p : α → Bool} {l : List α} {x : α} (h : x ∈ l.takeWhile p) : p x = true := by
  induction l with
  | nil => simp at h
  | cons a r ih =>
    rw [List.takeWhile_cons] at h
    split at h
    · rcases List.mem_cons.1 h with rfl | h
      · assumption
      · exact ih h
    · simp at h
theorem bound36 (v d k : Nat) (hk : k ≤ 35) (hd : d ≤ 9) (hv : v < 10 ^ k) : v * 10 + d < 340282366920938463463374607431768211456 := by
  have h1 := pow_step v d k hd hv
  have h2 : 10 ^ (k + 1) ≤ 10 ^ 36 := Nat.pow_le_pow_right (by omega) (by omega)
  have h3 : (10 : Nat) ^ 36 < 340282366920938463463374607431768211456 := by decide +kernel
  omega
theorem take_step (l : List UInt8) {k : Nat} (hk : k < l.length) : l.take (k + 1) = l.take k ++ [l.getD k 0] := by
  rw [List.take_succ_eq_append_getElem hk]; simp [List.getD_eq_getElem?_getD, List.getElem?_eq_getElem hk]
theorem digs_take {l : List UInt8} (h : ∀ c ∈ l, digM c = true) (k : Nat) : ∀ c ∈ l.take k, digM c = true := fun c hc => h c (List.mem_of_mem_take hc)
def lenAt (w : World) (S : Nat) : Nat := match w.cell? ⟨S, 1, none⟩ with
  | some (.slice _ n _) => n
  | _ => 0
/-- The digits of the whole part, without noughts ahead. -/
def strpM (bs : List UInt8) : List UInt8 := (wholeM bs).dropWhile fun c => c.toNat == 48
def fracM (bs : List UInt8) : List UInt8 := (behM bs ++ List.replicate 6 48).take 6
theorem decM_is (bs : List UInt8) : decM bs = if 30 < (strpM bs).length then none else some (valM (valM 0 (strpM bs)) (fracM bs)) := by
  unfold decM strpM fracM behM wholeM
  rfl
theorem behM_dig (bs : List UInt8) : ∀ c ∈ behM bs, digM c = true := by
  intro c hc
  unfold behM at hc
  split at hc
  · simp at hc
  · split at hc
    · exact List.mem_takeWhile_imp_ hc
    · simp at hc
theorem fracM_dig (bs : List UInt8) : ∀ c ∈ fracM bs, digM c = true := by
  intro c hc
  rcases List.mem_append.1 (List.mem_of_mem_take hc) with h | h
  · exact behM_dig bs c h
  · rw [(List.mem_replicate.1 h).2]; rfl
theorem fracM_len (bs : List UInt8) : (fracM bs).length = 6 := by unfold fracM; simp
theorem fracM_get (bs : List UInt8) {i : Nat} (hi : i < 6) : (fracM bs).getD i 0 = if i < (behM bs).length then (behM bs).getD i 0 else 48 := by
  unfold fracM
  rw [List.getD_eq_getElem?_getD, List.getElem?_take, if_pos hi]
  split
  · rename_i h; rw [List.getElem?_append_left h, List.getD_eq_getElem?_getD]
  · rename_i h
    rw [List.getElem?_append_right (by omega), List.getElem?_replicate, if_pos (by omega)]
    rfl
set_option maxRecDepth 100000 in
set_option maxHeartbeats 4000000 in
theorem prefix_any {w : World} {A : Option Addr} {bs : List UInt8} {n cc : Nat} (h : Bytes w A bs) (hn : bs.length = n) (hc : n ≤ cc) (hA : A = none → cc = 0) (hl : bs.length ≤ 100000000) (hne : 0 < bs.length) (h46 : 46 ≤ (bs.getD 0 0).toNat) (hpos : 0 < (wholeM bs).length + (behM bs).length) (hnum : 0 < numM bs) :
    Calls Tryd.prog 44 #[.slice A n cc] w (PrefPost w bs) := by
  obtain ⟨i0, hi0, hz0, hz1, hz2⟩ := u8parts
  obtain ⟨aa, rfl, hab, -⟩ := byte_at h hne
  have hsc := fun (W : World) (hf : Fr [] w W) => scan_any (h.fr_nil hf) hn hc hA hl hne h46 hpos
  have HSC := Lib.hid hsc; clear hsc
  have hwl : (wholeM bs).length ≤ bs.length := (List.takeWhile_sublist _).length_le
  have hbl : (behM bs).length ≤ bs.length := by
    unfold behM
    split
    · simp
    · rename_i c r hcr
      have h1 := congrArg List.length hcr
      split
      · have := (List.takeWhile_sublist (l := r) digM).length_le
        simp at h1; omega
      · simp
  have hn0 : ((numM bs : Int) == 0) = false := by simp; omega
  clear h hpos h46 hne
  go_enter Tryd.func44, Tryd.ntmps44
  go_wp2_with fail
  go_at_call 48
  refine (HSC.out _ ((Fr.refl [] w).alloc _)).mono ?_
  rintro e w2 ⟨X1, c1, X2, c2, rfl, hb1, hb2, hc1, hX1, hx1, hx2, hf2⟩
  have hlt1 : ∀ b, X1 = some b → b.block < w.heap.size := fun b hb => by obtain ⟨a', ha', hbb⟩ := hx1 b hb; injection ha' with ha'; rw [hbb, ← ha']; exact hab
  have hlt2 : ∀ b, X2 = some b → b.block < w.heap.size := fun b hb => by obtain ⟨a', ha', hbb⟩ := hx2 b hb; injection ha' with ha'; rw [hbb, ← ha']; exact hab
  have hfw : Fr [] w w2 := ((Fr.refl [] w).alloc _).trans hf2
  have HB1 := Lib.hid (hb1.back hfw hlt1); have HB2 := Lib.hid (hb2.back hfw hlt2)
  have hR : Bk w2 w.heap.size 41 (decC 0) := by rw [decC_zero]; exact (Bk.new w 41 #[.bool false, .int .u64 0, .int .u64 0]).fr hf2 (by simp)
  have hRS : w.heap.size < w2.heap.size := hR.lt
  have HR := Lib.hid hR; have HFW := Lib.hid hfw; have HL1 := Lib.hid hlt1; have HL2 := Lib.hid hlt2
  clear hb1 hb2 hx1 hx2 hR hfw hlt1 hlt2 hf2
  obtain ⟨R, hRe⟩ : ∃ R, R = w.heap.size := ⟨_, rfl⟩
  have HRE := Lib.hid hRe
  obtain ⟨S, hSe⟩ : ∃ S, S = w2.heap.size := ⟨_, rfl⟩
  have HSE := Lib.hid hSe
  clear hRe hSe
  go_wp2_with fail
  rw [← HRE.out, ← HSE.out]
  go_loopw [15] (fun _ wr => ∃ X c rem, Bk wr S 110 #[.bool false, .slice X (rem : List UInt8).length c, .slice X2 (behM bs).length c2, .int .i64 (numM bs : Int)] ∧ Bk wr R 41 (decC 0) ∧ Bytes w X rem ∧ (∀ b, X = some b → b.block < w.heap.size) ∧ rem.length ≤ c ∧ (X = none → c = 0) ∧ rem.length ≤ bs.length ∧ rem.dropWhile (fun c => c.toNat == 48) = strpM bs ∧ (∀ c ∈ rem, digM c = true) ∧ Fr [] w wr) (fun _ wr => lenAt wr S)
  case atStart =>
    have hbs := Bk.new w2 110 #[.bool false, .slice X1 (wholeM bs).length c1, .slice X2 (behM bs).length c2, .int .i64 (numM bs : Int)]
    refine ⟨X1, c1, wholeM bs, by rw [HSE.out]; exact hbs, by rw [HRE.out]; exact HR.out.alloc _, HB1.out, HL1.out, hc1, hX1, hwl, rfl, fun c hc => (List.mem_takeWhile_imp_ hc), HFW.out.alloc _⟩
  case round =>
    obtain ⟨X, c, rem, hs, hr, hbx, hxl, hcx, hnx, hlx, hst, hdg, hfr⟩ := hrel
    have hsz : S < wr.heap.size := hs.lt
    have hRS' : R < S := by rw [HRE.out, HSE.out]; exact hRS
    have hRw : w.heap.size ≤ R := by rw [HRE.out]; exact Nat.le_refl _
    have s1 := hs.cell_ (i := 1) (v := .slice X rem.length c) rfl
    have s2 := hs.cell_ (i := 2) (v := .slice X2 (behM bs).length c2) rfl
    have s3 := hs.cell_ (i := 3) (v := .int .i64 (numM bs : Int)) rfl
    have z1 := hs.frozen 1
    have hla : lenAt wr S = rem.length := by unfold lenAt; rw [s1]
    have HS := Lib.hid hs; have HRW := Lib.hid hr; have HBX := Lib.hid hbx; have HFR := Lib.hid hfr; have HLA := Lib.hid hla; have HDG := Lib.hid hdg; have HNX := Lib.hid hnx; have HXL := Lib.hid hxl
    clear hs hr hbx hfr hla hdg hnx hxl HR HB1 HFW
    obtain ⟨m, hm⟩ : ∃ m, m = rem.length := ⟨_, rfl⟩
    rw [← hm] at s1 hcx hlx
    have HM := Lib.hid hm
    by_cases hstep : 0 < rem.length ∧ (rem.getD 0 0).toNat = 48
    · obtain ⟨h0, h48⟩ := hstep
      obtain ⟨a, rfl, hba, e0⟩ := byte_at (HBX.out.fr_nil HFR.out) h0
      rw [Addr.add_zero', h48] at e0
      have hcons : rem = rem.getD 0 0 :: rem.drop 1 := by have := drop_cons_ h0; simpa using this
      have HST : Hid ((rem.drop 1).dropWhile (fun c => c.toNat == 48) = strpM bs) := Lib.hid (by rw [← hst]; conv => rhs; rw [hcons, List.dropWhile_cons_of_pos (by simpa using h48)])
      have hm0 : 0 < m := by rw [hm]; exact h0
      clear hst hcons h48 h0 hm
      have HCX := Lib.hid hcx
      go_wp2_with (refine wpList_cut rfl 22 (.tmp 27) (some (.const (.int .i64 1))) none none rfl 5 i0 Tryd.underlying22 hi0 hz1 (some a) m c (by first | rfl | (simp [Act.eval]; done)) (byteVals rem) (HBX.out.fr_nil HFR.out) (by rw [byteVals_length]; exact HM.out.symm) HCX.out (by intro h; cases h) 1 m c (.inr (by first | rfl | (simp [Act.eval]; done))) (.inl ⟨rfl, rfl, rfl⟩) (.inl ⟨rfl, rfl⟩) (by omega) (by omega) (by omega) (by omega) ?_; intro X' hX hX0 hXb; have HXA := Lib.hid hX; have HX0 := Lib.hid hX0; have HXB := Lib.hid hXb; clear hX hX0 hXb)
      have hlr : (rem.drop 1).length = m - 1 := by rw [List.length_drop, HM.out]
      have hb' := HS.out.put 1 (.slice X' (m - 1) (c - 1))
      go_roundw
      case rel =>
        refine ⟨X', c - 1, rem.drop 1, by rw [hlr]; exact hb', HRW.out.far (by simp; omega) _, ?_, ?_, by rw [hlr]; omega, fun h => HX0.out h, by rw [hlr]; omega, HST.out, fun d hd => HDG.out d (List.mem_of_mem_drop hd), HFR.out.setCell (.inr (by simp; omega)) _⟩
        · refine Bytes.back (W := wr) ?_ HFR.out (fun b hb => by obtain ⟨a', ha', hbb⟩ := HXB.out b hb; injection ha' with ha'; rw [hbb, ← ha']; exact HXL.out a rfl)
          have := HXA.out
          rw [List.take_of_length_le (by rw [List.length_drop, byteVals_length, ← HM.out]; exact Nat.le_refl _)] at this
          rw [Bytes, show byteVals (rem.drop 1) = (byteVals rem).drop 1 by simp [byteVals, List.map_drop]]
          exact this
        · intro b hb
          obtain ⟨a', ha', hbb⟩ := HXB.out b hb
          injection ha' with ha'
          rw [hbb, ← ha']; exact HXL.out a rfl
      case measure =>
        have e1 : lenAt (wr.setCell ⟨S, 1, none⟩ (.slice X' (m - 1) (c - 1))) S = m - 1 := by unfold lenAt; rw [hb'.cell_ (i := 1) (v := .slice X' (m - 1) (c - 1)) rfl]
        rw [e1, HLA.out, ← HM.out]; omega
    · have hrem : rem = strpM bs := by
        rw [← hst]
        cases rem with
        | nil => rfl
        | cons q r =>
          rw [List.dropWhile_cons_of_neg]
          simp at hstep ⊢; exact hstep
      have HREM := Lib.hid hrem
      have hcond : (¬ 0 < m) ∨ (0 < m ∧ ∃ a q, X = some a ∧ wr.cell? a = some (.int .u8 ((q : Nat) : Int)) ∧ ((q : Int) == 48) = false) := by
        by_cases h0 : 0 < rem.length
        · right
          obtain ⟨a, ha, hba, e0⟩ := byte_at (HBX.out.fr_nil HFR.out) h0
          rw [Addr.add_zero'] at e0
          exact ⟨by omega, a, _, ha, e0, beq_eq_false_iff_ne.2 (fun e => hstep ⟨h0, by omega⟩)⟩
        · left; omega
      clear hst hrem hstep hm
      by_cases h30 : 30 < m
      · obtain ⟨hm0, a, q, rfl, e0, g48⟩ := hcond.resolve_left (by omega)
        have hr0 := HRW.out
        rw [decC_zero] at hr0
        have p0 := hr0.cell_ (i := 0) (v := .bool false) rfl; have p1 := hr0.cell_ (i := 1) (v := .int .u64 0) rfl; have p2 := hr0.cell_ (i := 2) (v := .int .u64 0) rfl
        have f0 := hr0.frozen 0; have f1 := hr0.frozen 1; have f2 := hr0.frozen 2
        have HR0 := Lib.hid hr0; clear hr0
        go_wp2_with fail
        go_region
        go_wp2_with fail
        refine body_gen fun V hV => ?_
        have hVR : Bk V R 41 #[.bool false, .int .u64 0, .int .u64 0] := by rw [hV]; exact (((HR0.out.put 0 _).put 1 _).put 2 _)
        have hVF : Fr [] w V := by rw [hV]; exact (((HFR.out.setCell (.inr hRw) _).setCell (.inr hRw) _).setCell (.inr hRw) _).drew
        clear hV
        have p0 := hVR.cell_ (i := 0) (v := .bool false) rfl; have p1 := hVR.cell_ (i := 1) (v := .int .u64 0) rfl; have p2 := hVR.cell_ (i := 2) (v := .int .u64 0) rfl
        refine bodyPost_ret (v := .tuple #[.agg #[.bool false, .int .u64 0, .int .u64 0], .int .i64 (numM bs : Int), .iface 51 (.int .i64 2)]) (by simp [results, Tryd.results44, go_sem, p0, p1, p2]) rfl ?_
        unfold PrefPost
        rw [decM_is, if_pos (by rw [← HREM.out, ← HM.out]; exact h30)]
        exact ⟨by rw [show decVal 0 = .agg #[.bool false, .int .u64 0, .int .u64 0] by simp [decVal]], hVF⟩
      · rcases hcond with hm0 | ⟨hm0, a, q, rfl, e0, g48⟩
        all_goals
          go_wp2_with fail
          first
            | go_loopw [41] (fun v41 w4 => ∃ k : Nat, v41 = .int .i64 (k : Int) ∧ k ≤ m ∧ Bk w4 S 110 #[.bool false, .slice X m c, .slice X2 (behM bs).length c2, .int .i64 (numM bs : Int)] ∧ Bk w4 R 41 (decC (valM 0 (rem.take k))) ∧ Fr [] w w4) (fun v41 _ => m - (intOf v41).toNat)
            | go_loopw [41] (fun v41 w4 => ∃ k : Nat, v41 = .int .i64 (k : Int) ∧ k ≤ m ∧ Bk w4 S 110 #[.bool false, .slice (some a) m c, .slice X2 (behM bs).length c2, .int .i64 (numM bs : Int)] ∧ Bk w4 R 41 (decC (valM 0 (rem.take k))) ∧ Fr [] w w4) (fun v41 _ => m - (intOf v41).toNat)
          case atStart => exact ⟨0, rfl, by omega, by have := HS.out; rw [← HM.out] at this; exact this, HRW.out, HFR.out⟩
          case round =>
            obtain ⟨k, rfl, hkm, hs4, hr4, hf4⟩ := hrel
            by_cases hk : k < m
            · try (exfalso; omega)
              all_goals
                have hk' : k < rem.length := by rw [← HM.out]; exact hk
                obtain ⟨a4, ha4, hb4, e4⟩ := byte_at (HBX.out.fr_nil hf4) hk'
                cases ha4
                have hdig := HDG.out (rem.getD k 0) (by rw [List.getD_eq_getElem?_getD, List.getElem?_eq_getElem hk']; simp)
                have hV := valM_lt (rem.take k) 0 0 (digs_take HDG.out k) (by simp)
                rw [Nat.zero_add, List.length_take, Nat.min_eq_left (by omega)] at hV
                obtain ⟨V, hVe⟩ : ∃ V, V = valM 0 (rem.take k) := ⟨_, rfl⟩
                have hVn : valM 0 (rem.take (k + 1)) = V * 10 + ((rem.getD k 0).toNat - 48) := by rw [take_step rem hk', valM_snoc, ← hVe]
                rw [← hVe] at hV hr4
                obtain ⟨q4, hq4⟩ : ∃ q4, q4 = (rem.getD k 0).toNat := ⟨_, rfl⟩
                rw [← hq4] at e4 hVn
                obtain ⟨d, hd⟩ : ∃ d, d = q4 - 48 := ⟨_, rfl⟩
                have hdr : q4 = d + 48 ∧ d ≤ 9 := by unfold digM at hdig; rw [Bool.and_eq_true, decide_eq_true_eq, decide_eq_true_eq] at hdig; omega
                rw [← hd] at hVn
                have hVb := bound36 V d k (by omega) hdr.2 hV
                obtain ⟨hi, lo, hdc⟩ := decC_form V
                obtain ⟨hi', lo', hdc'⟩ := decC_form (V * 10 + d)
                have HMORE := Lib.hid (more_dec V q4 d hdr.1 hdr.2 hVb hdc hdc')
                rw [hdc] at hr4
                have HDC := Lib.hid hdc'; have HVN := Lib.hid hVn
                have p0 := hr4.cell_ (i := 0) (v := .bool false) rfl; have p1 := hr4.cell_ (i := 1) (v := .int .u64 (hi : Int)) rfl; have p2 := hr4.cell_ (i := 2) (v := .int .u64 (lo : Int)) rfl
                have HR4 := Lib.hid hr4; have HS4 := Lib.hid hs4; have HF4 := Lib.hid hf4
                clear hr4 hs4 hf4 hdc hdc' hVn hVb hdr hd hq4 hV hVe hdig
                go_wp2_with fail
                go_at_call 49
                refine (HMORE.out _).mono ?_
                rintro e w5 ⟨rfl, hf5⟩
                have hr5 := HR4.out.fr hf5 (by simp)
                have p0 := hr5.cell_ (i := 0) (v := .bool false) rfl; have p1 := hr5.cell_ (i := 1) (v := .int .u64 (hi : Int)) rfl; have p2 := hr5.cell_ (i := 2) (v := .int .u64 (lo : Int)) rfl
                have f0 := hr5.frozen 0; have f1 := hr5.frozen 1; have f2 := hr5.frozen 2
                have HR5 := Lib.hid hr5; have HS5 := Lib.hid (HS4.out.fr hf5 (by simp)); have HF5 := Lib.hid (HF4.out.trans hf5)
                clear hr5 hf5
                go_wp2_with fail
                go_roundw
                case rel =>
                  refine ⟨k + 1, by go_num, by omega, ((HS5.out.far (by simp; omega) _).far (by simp; omega) _).far (by simp; omega) _, ?_, ((HF5.out.setCell (.inr hRw) _).setCell (.inr hRw) _).setCell (.inr hRw) _⟩
                  rw [HVN.out, HDC.out]
                  exact ((HR5.out.put 0 _).put 1 _).put 2 _
                case measure => simp [intOf]; omega
            · obtain rfl : k = m := by omega
              have htk : rem.take k = rem := List.take_of_length_le (by rw [← HM.out]; exact Nat.le_refl _)
              rw [htk] at hr4
              have hV0 := valM_lt rem 0 0 HDG.out (by simp)
              rw [Nat.zero_add, ← HM.out] at hV0
              have hV30 : valM 0 rem < 10 ^ 30 := Nat.lt_of_lt_of_le hV0 (Nat.pow_le_pow_right (by omega) (by omega))
              obtain ⟨V0, hVe⟩ : ∃ V0, V0 = valM 0 rem := ⟨_, rfl⟩
              rw [← hVe] at hr4 hV30
              have HVE := Lib.hid hVe; have HV30 := Lib.hid hV30
              have HR4 := Lib.hid hr4; have HS4 := Lib.hid hs4; have HF4 := Lib.hid hf4
              clear hr4 hs4 hf4 hVe hV30 hV0 htk
              go_wp2_with fail
              first
                | go_loopw [49] (fun v49 w6 => ∃ i : Nat, v49 = .int .i64 (i : Int) ∧ i ≤ 6 ∧ Bk w6 S 110 #[.bool false, .slice X k c, .slice X2 (behM bs).length c2, .int .i64 (numM bs : Int)] ∧ Bk w6 R 41 (decC (valM V0 ((fracM bs).take i))) ∧ Fr [] w w6) (fun v49 _ => 6 - (intOf v49).toNat)
                | go_loopw [49] (fun v49 w6 => ∃ i : Nat, v49 = .int .i64 (i : Int) ∧ i ≤ 6 ∧ Bk w6 S 110 #[.bool false, .slice (some a) k c, .slice X2 (behM bs).length c2, .int .i64 (numM bs : Int)] ∧ Bk w6 R 41 (decC (valM V0 ((fracM bs).take i))) ∧ Fr [] w w6) (fun v49 _ => 6 - (intOf v49).toNat)
              case atStart => exact ⟨0, rfl, by omega, HS4.out, HR4.out, HF4.out⟩
              case round =>
                obtain ⟨i, rfl, hi6, hs6, hr6, hf6⟩ := hrel
                by_cases hi : i < 6
                · have hV := valM_lt ((fracM bs).take i) V0 30 (digs_take (fracM_dig bs) i) HV30.out
                  rw [List.length_take, fracM_len, Nat.min_eq_left (by omega)] at hV
                  obtain ⟨V, hVe⟩ : ∃ V, V = valM V0 ((fracM bs).take i) := ⟨_, rfl⟩
                  obtain ⟨q4, hq4⟩ : ∃ q4, q4 = ((fracM bs).getD i 0).toNat := ⟨_, rfl⟩
                  have hVn : valM V0 ((fracM bs).take (i + 1)) = V * 10 + (q4 - 48) := by rw [take_step _ (by rw [fracM_len]; exact hi), valM_snoc, ← hVe, hq4]
                  rw [← hVe] at hV hr6
                  have hdig := fracM_dig bs ((fracM bs).getD i 0) (by rw [List.getD_eq_getElem?_getD, List.getElem?_eq_getElem (by rw [fracM_len]; exact hi)]; simp)
                  obtain ⟨d, hd⟩ : ∃ d, d = q4 - 48 := ⟨_, rfl⟩
                  have hdr : q4 = d + 48 ∧ d ≤ 9 := by unfold digM at hdig; rw [Bool.and_eq_true, decide_eq_true_eq, decide_eq_true_eq] at hdig; omega
                  rw [← hd] at hVn
                  have hVb := bound36 V d (30 + i) (by omega) hdr.2 hV
                  obtain ⟨hi', lo, hdc⟩ := decC_form V
                  obtain ⟨hj, lj, hdc'⟩ := decC_form (V * 10 + d)
                  have HMORE := Lib.hid (more_dec V q4 d hdr.1 hdr.2 hVb hdc hdc')
                  rw [hdc] at hr6
                  have HDC := Lib.hid hdc'; have HVN := Lib.hid hVn
                  have p0 := hr6.cell_ (i := 0) (v := .bool false) rfl; have p1 := hr6.cell_ (i := 1) (v := .int .u64 (hi' : Int)) rfl; have p2 := hr6.cell_ (i := 2) (v := .int .u64 (lo : Int)) rfl
                  have s2 := hs6.cell_ (i := 2) (v := .slice X2 (behM bs).length c2) rfl
                  have hgt := fracM_get bs hi
                  have hbb := HB2.out.fr_nil hf6
                  have HR4 := Lib.hid hr6; have HS4 := Lib.hid hs6; have HF4 := Lib.hid hf6
                  clear hr6 hs6 hf6 hdc hdc' hVn hVb hdr hd hV hVe hdig
                  by_cases hib : i < (behM bs).length
                  · rw [if_pos hib] at hgt
                    obtain ⟨a5, ha5, hb5, e5⟩ := byte_at hbb hib
                    cases ha5
                    rw [← hgt, ← hq4] at e5
                    clear hgt hq4 hbb
                    go_wp2_with fail
                    go_region_with (go_at_call 49; refine (HMORE.out _).mono ?_; rintro e w5 ⟨rfl, hf5⟩; have hr5 := HR4.out.drew.fr hf5 (by simp); have p0 := hr5.cell_ (i := 0) (v := .bool false) rfl; have p1 := hr5.cell_ (i := 1) (v := .int .u64 (hi' : Int)) rfl; have p2 := hr5.cell_ (i := 2) (v := .int .u64 (lo : Int)) rfl; have f0 := hr5.frozen 0; have f1 := hr5.frozen 1; have f2 := hr5.frozen 2; have HR5 := Lib.hid hr5; have HS5 := Lib.hid (HS4.out.drew.fr hf5 (by simp)); have HF5 := Lib.hid (HF4.out.drew.trans hf5); clear hr5 hf5)
                    all_goals
                      go_wp2_with fail
                      go_roundw
                      case rel =>
                        refine ⟨i + 1, by go_num, by omega, ((HS5.out.far (by simp; omega) _).far (by simp; omega) _).far (by simp; omega) _, ?_, ((HF5.out.setCell (.inr hRw) _).setCell (.inr hRw) _).setCell (.inr hRw) _⟩
                        rw [HVN.out, HDC.out]
                        exact ((HR5.out.put 0 _).put 1 _).put 2 _
                      case measure => simp [intOf]; omega
                  · rw [if_neg hib] at hgt
                    obtain rfl : q4 = 48 := by rw [hq4, hgt]; rfl
                    clear hgt hq4 hbb
                    go_wp2_with fail
                    go_at_call 49
                    refine (HMORE.out _).mono ?_
                    rintro e w5 ⟨rfl, hf5⟩
                    have hr5 := HR4.out.fr hf5 (by simp)
                    have p0 := hr5.cell_ (i := 0) (v := .bool false) rfl; have p1 := hr5.cell_ (i := 1) (v := .int .u64 (hi' : Int)) rfl; have p2 := hr5.cell_ (i := 2) (v := .int .u64 (lo : Int)) rfl
                    have f0 := hr5.frozen 0; have f1 := hr5.frozen 1; have f2 := hr5.frozen 2
                    have HR5 := Lib.hid hr5; have HS5 := Lib.hid (HS4.out.fr hf5 (by simp)); have HF5 := Lib.hid (HF4.out.trans hf5)
                    clear hr5 hf5
                    go_wp2_with fail
                    go_roundw
                    case rel =>
                      refine ⟨i + 1, by go_num, by omega, ((HS5.out.far (by simp; omega) _).far (by simp; omega) _).far (by simp; omega) _, ?_, ((HF5.out.setCell (.inr hRw) _).setCell (.inr hRw) _).setCell (.inr hRw) _⟩
                      rw [HVN.out, HDC.out]
                      exact ((HR5.out.put 0 _).put 1 _).put 2 _
                    case measure => simp [intOf]; omega
                · obtain rfl : i = 6 := by omega
                  rw [List.take_of_length_le (by rw [fracM_len]; omega)] at hr6
                  obtain ⟨V, hVe⟩ : ∃ V, V = valM V0 (fracM bs) := ⟨_, rfl⟩
                  rw [← hVe] at hr6
                  have hdm : decM bs = some V := by rw [decM_is, if_neg (by rw [← HREM.out, ← HM.out]; omega), hVe, HVE.out, HREM.out]
                  have HDM := Lib.hid hdm
                  obtain ⟨hi', lo, hdc⟩ := decC_form V
                  have hdv : decVal V = .agg #[.bool false, .int .u64 (hi' : Int), .int .u64 (lo : Int)] := by unfold decVal; exact congrArg Value.agg hdc
                  have HDV := Lib.hid hdv
                  rw [hdc] at hr6
                  have p0 := hr6.cell_ (i := 0) (v := .bool false) rfl; have p1 := hr6.cell_ (i := 1) (v := .int .u64 (hi' : Int)) rfl; have p2 := hr6.cell_ (i := 2) (v := .int .u64 (lo : Int)) rfl
                  have f0 := hr6.frozen 0; have f1 := hr6.frozen 1; have f2 := hr6.frozen 2
                  have q0 := hs6.cell_ (i := 0) (v := .bool false) rfl; have q3 := hs6.cell_ (i := 3) (v := .int .i64 (numM bs : Int)) rfl
                  have HR6 := Lib.hid hr6; have HS6 := Lib.hid hs6; have HF6 := Lib.hid hf6
                  clear hr6 hs6 hf6 hdc hVe hdm hdv
                  go_wp2_with fail
                  all_goals
                    refine code_gen fun W hW => ?_
                    have hr7 : Bk W R 41 #[.bool false, .int .u64 (hi' : Int), .int .u64 (lo : Int)] := by
                      rw [hW]
                      first
                        | exact HR6.out
                        | exact HR6.out.put 0 (.bool false)
                    have hf7 : Fr [] w W := by
                      rw [hW]
                      first
                        | exact HF6.out
                        | exact HF6.out.setCell (.inr hRw) _
                    have hq7 : W.cell? ⟨S, 3, none⟩ = some (.int .i64 (numM bs : Int)) := by
                      rw [hW]
                      first
                        | exact q3
                        | exact (HS6.out.far (p := ⟨R, 0, none⟩) (by simp; omega) (.bool false)).cell_ (i := 3) rfl
                    clear hW p0 p1 p2 f0 f1 f2 q0 q3
                    have p0 := hr7.cell_ (i := 0) (v := .bool false) rfl; have p1 := hr7.cell_ (i := 1) (v := .int .u64 (hi' : Int)) rfl; have p2 := hr7.cell_ (i := 2) (v := .int .u64 (lo : Int)) rfl
                    have f0 := hr7.frozen 0; have f1 := hr7.frozen 1; have f2 := hr7.frozen 2
                    have HR7 := Lib.hid hr7; have HF7 := Lib.hid hf7
                    clear hr7 hf7
                    go_region
                    go_wp2_with fail
                    refine body_gen fun U hU => ?_
                    have hUR : Bk U R 41 #[.bool false, .int .u64 (hi' : Int), .int .u64 (lo : Int)] := by
                      have e : Bk (((W.setCell ⟨R, 0, none⟩ (.bool false)).setCell ⟨R, 1, none⟩ (.int .u64 (hi' : Int))).setCell ⟨R, 2, none⟩ (.int .u64 (lo : Int))).drew R 41 #[.bool false, .int .u64 (hi' : Int), .int .u64 (lo : Int)] := ((HR7.out.put 0 (.bool false)).put 1 (.int .u64 (hi' : Int))).put 2 (.int .u64 (lo : Int))
                      rw [hU]
                      clear hU p0 p1 p2 f0 f1 f2 hq7 s1 s2 s3 z1
                      first
                        | exact e
                        | (simp only [*] at e ⊢; exact e)
                    have hUF : Fr [] w U := by rw [hU]; exact (((HF7.out.setCell (.inr hRw) _).setCell (.inr hRw) _).setCell (.inr hRw) _).drew
                    clear hU
                    have u0 := hUR.cell_ (i := 0) (v := .bool false) rfl; have u1 := hUR.cell_ (i := 1) (v := .int .u64 (hi' : Int)) rfl; have u2 := hUR.cell_ (i := 2) (v := .int .u64 (lo : Int)) rfl
                    refine bodyPost_ret (v := .tuple #[.agg #[.bool false, .int .u64 (hi' : Int), .int .u64 (lo : Int)], .int .i64 (numM bs : Int), .nilIface]) (by simp [results, Tryd.results44, go_sem, u0, u1, u2]) rfl ?_
                    unfold PrefPost
                    rw [HDM.out]
                    exact ⟨by rw [HDV.out], hUF⟩
end Go.Proofs.YtjfgopihfgljmaaDoor
