/-
  The walk of MatchPlain. No conditions. 
-/
import Derived.Test.YtekfpipgcpkejaaMaW
import Derived.Test.YtekfpipgcpkejaaMpP
import Derived.Test.YtekfpipgcpkejaaArg
namespace Go.Proofs.Ytekfpipgcpkejaa
open Go.RowKit Go.ChangeShapes Go.WideShapes Go.ChangeAt
set_option linter.unusedVariables false
set_option linter.unusedSimpArgs false

section
variable {P : Program} {Q : Exit → Act → World → Prop} {md : Region.Mode} {G : World → World → Prop} {S : World → Prop} {l r : List Oper} {o : Oper} {i n : Nat} {listed : Array Bool} {a : Act} {w : World}
/-- 's[l:h]' in a region that draws. -/
theorem M_cut2 (t : TypeId) (x ol oh : Operand) (su : Setup P l Q G S) (ho : l.drop i = o :: r) (hop : o.op = .slice t x (some ol) (some oh) none) (e : TypeId) (ti : TypeInfo) (ht : P.underlying t = some (.slice e)) (hi : P.info? e = some ti) (hs : ti.size = 1)
    (A : Option Addr) (len c lo h : Nat) (hxv : a.eval x = .slice A len c) (hl : a.eval ol = .int .i64 (lo : Int)) (hh : a.eval oh = .int .i64 (h : Int)) (h0 : lo ≤ h) (h1 : h ≤ len) (h2 : len ≤ c)
    (hB : ((Region.ready md l.toArray listed).contains i && Region.free md l.toArray listed i) = true) (hS : S w) (hw : Region.wanted o (yielded l.toArray a.tmps) = true)
    (hr : wpAnyM P md l.toArray Q G S n (listed.setIfInBounds i true) (a.put o.dst (.slice (if c = lo then A else A.map (·.add (lo * 1))) (h - lo) (c - lo))) w) : wpAnyM P md l.toArray Q G S (n + 1) listed a w := by
  refine M_val su ho hB hS hw (fun w' _ => ?_) hr
  have hrun : (Instr.sliceAt t (a.eval x) (some (a.eval ol)) (some (a.eval oh)) none).run P w' = .ok (.slice (if c = lo then A else A.map (·.add (lo * 1))) (h - lo) (c - lo)) w' := by
    rw [hxv, hl, hh]
    have hb := run_bounds_ (P := P) len c (some (.int .i64 (lo : Int))) (some (.int .i64 (h : Int))) none lo h c w' (.inr rfl) (.inr rfl) (.inl ⟨rfl, rfl⟩) h0 (Nat.le_trans h1 h2) (Nat.le_refl _)
    simp [Instr.sliceAt, Instr.slice, run_underlying ht, sizeOf, typeInfo, hi, hs, hb]
  unfold execOp
  simp only [hop, Option.map_none, Option.map_some, hrun, Sem.run_bind, Result.andThen_ok, Sem.run_pure]
/-- 'string(b)' in a region that draws. -/
theorem M_str (src dst : TypeId) (x : Operand) (su : Setup P l Q G S) (ho : l.drop i = o :: r) (hop : o.op = .convert src dst x) (e : TypeId) (hs : P.underlying src = some (.slice e)) (he : P.underlying e = some (.int .u8)) (hd : P.underlying dst = some .string)
    (A : Option Addr) (len c : Nat) (hxv : a.eval x = .slice A len c) (bs : List UInt8) (hx : ∀ W, S W → At W A (byteVals bs)) (hn : bs.length = len)
    (hB : ((Region.ready md l.toArray listed).contains i && Region.free md l.toArray listed i) = true) (hS : S w) (hw : Region.wanted o (yielded l.toArray a.tmps) = true)
    (hr : wpAnyM P md l.toArray Q G S n (listed.setIfInBounds i true) (a.put o.dst (.string ⟨bs.toArray⟩)) w) : wpAnyM P md l.toArray Q G S (n + 1) listed a w := by
  refine M_val su ho hB hS hw (fun w' hS' => ?_) hr
  unfold execOp
  simp only [hop, hxv, run_str_ (P := P) src dst e hs he hd A bs len c (hx w' hS') hn, Sem.run_bind, Result.andThen_ok, Sem.run_pure]
end
theorem esc_take {s : List UInt8} {i : Nat} {c : UInt8} (h : s[i]? = some c) : escB (s.take (i + 1)) = escB (s.take i) ++ encB c := by
  rw [List.take_add_one, h, escB_append]
  simp [escB]
theorem own_bytes_cap {w : World} {base n c : Nat} {A : Option Addr} {e : TypeId} {xs : List Value} (h : w.ownsRow base e 1 (.slice A n c) n xs) : n ≤ c ∧ c ≤ maxLen ∧ (A = none → c = 0) ∧ ∀ a, A = some a → base ≤ a.block ∧ a.block < w.heap.size := by
  have hr := own_room h
  obtain ⟨h1, ⟨h2, h3⟩ | ⟨g, cap', cur, h2, h0, hb, h3, h4, h5, h6⟩⟩ := h
  · injection h2 with h2 h2a h2b
    subst h2 h2b
    exact ⟨hr.1, by simp, fun _ => rfl, fun a ha => by cases ha⟩
  · injection h2 with h2 _ h2'
    subst h2 h2'
    refine ⟨hr.1, h4, hr.2, fun a ha => ?_⟩
    injection ha with ha; subst ha
    have hbk : Bk w g e cur := hb
    exact ⟨h0, hbk.lt⟩
/-- What the second loop has found behind place j. -/
def AtI (s tx : List UInt8) (A j : Int) : Prop := (A = -1 ∧ ∀ k : Nat, j < k → k + s.length ≤ tx.length → ¬ s <+: tx.drop k) ∨ ∃ a : Nat, A = (a : Int) ∧ j < a ∧ a + s.length ≤ tx.length ∧ s <+: tx.drop a ∧ ∀ k : Nat, j < k → k + s.length ≤ tx.length → s <+: tx.drop k → a ≤ k
theorem atI_hit {s tx : List UInt8} {k : Nat} (hk : k + s.length ≤ tx.length) (hp : s <+: tx.drop k) : AtI s tx (k : Int) ((k : Int) - 1) :=
  .inr ⟨k, rfl, by omega, hk, hp, fun k' h1 _ _ => by omega⟩
theorem atI_miss {s tx : List UInt8} {A : Int} {k : Nat} (h : AtI s tx A (k : Int)) (hp : ¬ s <+: tx.drop k) : AtI s tx A ((k : Int) - 1) := by
  rcases h with ⟨rfl, h⟩ | ⟨a, rfl, h1, h2, h3, h4⟩
  · refine .inl ⟨rfl, fun k' hk hl hpre => ?_⟩
    rcases Nat.lt_trichotomy k' k with q | rfl | q
    · omega
    · exact hp hpre
    · exact h k' (by omega) hl hpre
  · refine .inr ⟨a, rfl, by omega, h2, h3, fun k' hk hl hpre => ?_⟩
    rcases Nat.lt_trichotomy k' k with q | rfl | q
    · omega
    · exact absurd hpre hp
    · exact h4 k' (by omega) hl hpre
set_option maxRecDepth 100000 in
set_option maxHeartbeats 16000000 in
theorem matchPlain_walk {w : World} (hg : GlobOk w) {A1 A2 : Option Addr} {s tx : List UInt8} {c1 c2 : Nat} (h1 : Bytes w A1 s) (h2 : Bytes w A2 tx) (hc1 : s.length ≤ c1) (hc2 : tx.length ≤ c2) (hA1 : A1 = none → c1 = 0) (hA2 : A2 = none → c2 = 0)
    (hl2 : ∀ a, A2 = some a → a.block < w.heap.size) :
    Calls Try.prog 6 #[.slice A1 s.length c1, .slice A2 tx.length c2] w fun e w' => e = .returned (.bool true) ∧ Fr [] w w' := by
  obtain ⟨m, hm⟩ : ∃ m, m = s.length := ⟨_, rfl⟩
  obtain ⟨n, hn⟩ : ∃ n, n = tx.length := ⟨_, rfl⟩
  obtain ⟨i0, hi0, hz0, hz1, hz2⟩ := u8parts
  rw [← hm, ← hn]
  have HG := Lib.hid hg; have H1 := Lib.hid h1; have H2 := Lib.hid h2; have HM := Lib.hid hm; have HN := Lib.hid hn; have HC1 := Lib.hid hc1; have HC2 := Lib.hid hc2; have HL2 := Lib.hid hl2
  clear hg h1 h2 hm hn hc1 hc2 hl2
  go_enter Try.func6, Try.ntmps6
  go_upto_region 3 with (go_at_call 12; refine (awake_any HG.out).mono ?_; rintro e w1 ⟨rfl, hf1⟩; have HF1 := Lib.hid hf1; clear hf1)
  by_cases hm40 : 40 < m
  · have hmI : (40 : Int) < (m : Int) := by omega
    go_wp2_with fail
    go_ret
    exact ⟨rfl, HF1.out⟩
  have hmI : ¬ ((40 : Int) < (m : Int)) := by omega
  by_cases hn60 : 60 < n
  · have hnI : (60 : Int) < (n : Int) := by omega
    go_wp2_with fail
    go_ret
    exact ⟨rfl, HF1.out⟩
  have hnI : ¬ ((60 : Int) < (n : Int)) := by omega
  have hs40 : s.length ≤ 40 := by have := HM.out; omega
  go_wp2_with fail
  go_loopw [5, 6] (fun v5 v6 wr => ∃ (i : Nat) (A : Option Addr) (c : Nat), v6 = .int .i64 (i : Int) ∧ i ≤ m ∧ v5 = .slice A (escB (s.take i)).length c ∧ wr.ownsRow w.heap.size 5 1 (.slice A (escB (s.take i)).length c) (escB (s.take i)).length (byteVals (escB (s.take i))) ∧ Fr [] w wr) (fun _ v6 _ => m + 1 - (intOf v6).toNat)
  case atStart => exact ⟨0, none, 0, rfl, Nat.zero_le _, rfl, ⟨by simp [escB, byteVals], .inl ⟨rfl, rfl⟩⟩, HF1.out⟩
  case round =>
    obtain ⟨i, A, c, rfl, hi, rfl, hown, hfr⟩ := hrel
    obtain ⟨L, hL⟩ : ∃ L, L = escB (s.take i) := ⟨_, rfl⟩
    rw [← hL] at hown ⊢
    obtain ⟨q, hq⟩ : ∃ q, q = L.length := ⟨_, rfl⟩
    rw [← hq] at hown ⊢
    have hq80 : q ≤ 80 := by
      have := (escB_len (s.take i)).2
      rw [← hL, ← hq, List.length_take] at this
      have := HM.out; omega
    have HOWN := Lib.hid hown; have HFR := Lib.hid hfr; have HL := Lib.hid hL; have HQ := Lib.hid hq
    clear hown hfr hL hq
    rcases Nat.lt_or_ge i m with him | him
    · have himI : (i : Int) < (m : Int) := by omega
      obtain ⟨x, hx⟩ : ∃ x, s[i]? = some x := ⟨s[i]'(by have := HM.out; omega), List.getElem?_eq_getElem _⟩
      obtain ⟨ad, had, hcx⟩ := text_byte (H1.out.fr HFR.out (by simp)) (a := i) (by have := HM.out; omega)
      have hgx : s.getD i 0 = x := by rw [List.getD_eq_getElem?_getD, hx]; rfl
      rw [hgx] at hcx
      subst had
      have hesc := esc_take hx
      rw [← HL.out] at hesc
      have HESC := Lib.hid hesc
      clear hx hgx hesc
      obtain ⟨X, hX⟩ : ∃ X, X = x.toNat := ⟨_, rfl⟩
      rw [← hX] at hcx
      have HX := Lib.hid hX
      clear hX
      have hxl : X < 256 := by rw [HX.out]; exact x.toNat_lt
      by_cases hx1 : 97 ≤ X
      · have hx1I : (97 : Int) ≤ (X : Int) := by omega
        by_cases hx2 : X ≤ 122
        · have hx2I : (X : Int) ≤ 122 := by omega
          have HENC : Hid (encB x = [x]) := Lib.hid (by unfold encB; rw [if_pos (by rw [← HX.out]; omega)])
          go_wp2_with (at_builtin; refine wpList_append_R rfl (.tmp 42) (.tmp 47) 22 rfl w.heap.size 5 i0 _ 1 1 Try.underlying22 hi0 hz0 hz1 hz2 rfl (by omega) (.slice A q c) q (byteVals L) (by first | rfl | (simp [Act.eval]; done)) (own_keep HOWN.out (KeepB.of_nil ((Fr.refl [] wr).alloc _))) ⟨wr.heap.size, 0, none⟩ 1 1 [.int .u8 (X : Int)] (by first | rfl | (simp [Act.eval]; done)) rfl (one_new_ wr 5 _) (by simp [Value.oneCell']) (by unfold maxLen; omega) (by omega) (by have := HFR.out.size; simp; omega) ?_; intro v' w4 hown4 hgr hat4; obtain ⟨A4, c4, rfl⟩ := own_any hown4; have HGR := Lib.hid hgr; have HOWN4 := Lib.hid hown4; clear hown4 hgr hat4)
          have hnq : (escB (s.take (i + 1))).length = q + 1 := by rw [HESC.out, List.length_append, ← HQ.out, HENC.out]; rfl
          have hbv : byteVals (escB (s.take (i + 1))) = byteVals L ++ [.int .u8 (X : Int)] := by rw [HESC.out, byteVals_append, HENC.out, HX.out]; rfl
          have hro : ∀ g, (Value.slice A q c).ownBlock = some g → w.heap.size ≤ g := fun g hg => (own_base HOWN.out g hg).1
          have hf4 : Fr [] w w4 := (HFR.out.alloc _).grown HGR.out (fun g hg => .inr (hro g hg))
          have HF4 := Lib.hid hf4; have HNQ := Lib.hid hnq; have HBV := Lib.hid hbv
          clear hro hf4 hnq hbv
          go_roundw
          case rel => exact ⟨i + 1, A4, c4, by go_num, him, by rw [HNQ.out], by rw [HNQ.out, HBV.out]; exact HOWN4.out, HF4.out⟩
          case measure => first | (simp [intOf]; done) | (simp [intOf]; omega)
        · have hx2I : ¬ ((X : Int) ≤ 122) := by omega
          have HENC : Hid (encB x = [92, x]) := Lib.hid (by unfold encB; rw [if_neg (by rw [← HX.out]; omega)])
          go_wp2_with (at_builtin; refine wpList_append_R rfl (.tmp 49) (.tmp 54) 22 rfl w.heap.size 5 i0 _ 1 1 Try.underlying22 hi0 hz0 hz1 hz2 rfl (by omega) (.slice A q c) q (byteVals L) (by first | rfl | (simp [Act.eval]; done)) (own_keep HOWN.out (KeepB.of_nil ((Fr.refl [] wr).alloc _))) ⟨wr.heap.size, 0, none⟩ 2 2 [.int .u8 92, .int .u8 (X : Int)] (by first | rfl | (simp [Act.eval]; done)) rfl (two_new wr 5 _ _) (by simp [Value.oneCell']) (by unfold maxLen; omega) (by omega) (by have := HFR.out.size; simp; omega) ?_; intro v' w4 hown4 hgr hat4; obtain ⟨A4, c4, rfl⟩ := own_any hown4; have HGR := Lib.hid hgr; have HOWN4 := Lib.hid hown4; clear hown4 hgr hat4)
          have hnq : (escB (s.take (i + 1))).length = q + 2 := by rw [HESC.out, List.length_append, ← HQ.out, HENC.out]; rfl
          have hbv : byteVals (escB (s.take (i + 1))) = byteVals L ++ [.int .u8 92, .int .u8 (X : Int)] := by rw [HESC.out, byteVals_append, HENC.out, HX.out]; rfl
          have hro : ∀ g, (Value.slice A q c).ownBlock = some g → w.heap.size ≤ g := fun g hg => (own_base HOWN.out g hg).1
          have hf4 : Fr [] w w4 := (HFR.out.alloc _).grown HGR.out (fun g hg => .inr (hro g hg))
          have HF4 := Lib.hid hf4; have HNQ := Lib.hid hnq; have HBV := Lib.hid hbv
          clear hro hf4 hnq hbv
          go_roundw
          case rel => exact ⟨i + 1, A4, c4, by go_num, him, by rw [HNQ.out], by rw [HNQ.out, HBV.out]; exact HOWN4.out, HF4.out⟩
          case measure => first | (simp [intOf]; done) | (simp [intOf]; omega)
      · have hx1I : ¬ ((97 : Int) ≤ (X : Int)) := by omega
        have HENC : Hid (encB x = [92, x]) := Lib.hid (by unfold encB; rw [if_neg (by rw [← HX.out]; omega)])
        go_wp2_with (at_builtin; refine wpList_append_R rfl (.tmp 49) (.tmp 54) 22 rfl w.heap.size 5 i0 _ 1 1 Try.underlying22 hi0 hz0 hz1 hz2 rfl (by omega) (.slice A q c) q (byteVals L) (by first | rfl | (simp [Act.eval]; done)) (own_keep HOWN.out (KeepB.of_nil ((Fr.refl [] wr).alloc _))) ⟨wr.heap.size, 0, none⟩ 2 2 [.int .u8 92, .int .u8 (X : Int)] (by first | rfl | (simp [Act.eval]; done)) rfl (two_new wr 5 _ _) (by simp [Value.oneCell']) (by unfold maxLen; omega) (by omega) (by have := HFR.out.size; simp; omega) ?_; intro v' w4 hown4 hgr hat4; obtain ⟨A4, c4, rfl⟩ := own_any hown4; have HGR := Lib.hid hgr; have HOWN4 := Lib.hid hown4; clear hown4 hgr hat4)
        have hnq : (escB (s.take (i + 1))).length = q + 2 := by rw [HESC.out, List.length_append, ← HQ.out, HENC.out]; rfl
        have hbv : byteVals (escB (s.take (i + 1))) = byteVals L ++ [.int .u8 92, .int .u8 (X : Int)] := by rw [HESC.out, byteVals_append, HENC.out, HX.out]; rfl
        have hro : ∀ g, (Value.slice A q c).ownBlock = some g → w.heap.size ≤ g := fun g hg => (own_base HOWN.out g hg).1
        have hf4 : Fr [] w w4 := (HFR.out.alloc _).grown HGR.out (fun g hg => .inr (hro g hg))
        have HF4 := Lib.hid hf4; have HNQ := Lib.hid hnq; have HBV := Lib.hid hbv
        clear hro hf4 hnq hbv
        go_roundw
        case rel => exact ⟨i + 1, A4, c4, by go_num, him, by rw [HNQ.out], by rw [HNQ.out, HBV.out]; exact HOWN4.out, HF4.out⟩
        case measure => first | (simp [intOf]; done) | (simp [intOf]; omega)
    · obtain rfl : i = m := by omega
      have himI : ¬ ((i : Int) < (i : Int)) := by omega
      have hLs : L = escB s := by rw [HL.out, HM.out, List.take_length]
      have hcap := own_bytes_cap HOWN.out
      have hby : Bytes wr A L := At.of_own HOWN.out
      have hpp := parse_plain hs40
      rw [← hLs] at hpp
      have HPP := Lib.hid hpp; have HCAP := Lib.hid hcap; have HBY := Lib.hid hby
      clear hLs hcap hby hpp
      go_upto_region 15 with (go_at_call 22; refine (new_at q HQ.out.symm _ HPP.out (siz_plain hs40) HBY.out (by omega) HCAP.out.1 HCAP.out.2.2.1 HCAP.out.2.1 (HG.out.fr HFR.out)).mono ?_; rintro e w5 ⟨fb, rfl, hn, hf⟩; have HF5 := Lib.hid (HFR.out.trans hf); have HN5 := Lib.hid hn; clear hf hn)
      -- MARK
      obtain ⟨lo, hlo⟩ : ∃ lo, lo = wr.heap.size := ⟨_, rfl⟩
      rw [← hlo] at HN5
      have hsub : IntKind.i64.wrap ((n : Int) - (i : Int)) = (n : Int) - (i : Int) := IntWalk.i64_in _ (by omega)
      clear hlo HOWN HFR HCAP HBY
      go_wp2_with fail
      clear hsub
      go_loopw [9, 10] (fun v9 v10 wr => ∃ (A j : Int), v9 = .int .i64 A ∧ v10 = .int .i64 j ∧ -41 ≤ j ∧ j ≤ (n : Int) - (i : Int) ∧ AtI s tx A j ∧ FinderAt wr lo fb (progT (rowT (rowOf s))) ∧ Fr [] w wr) (fun _ v10 _ => (intOf v10 + 1).toNat)
      case atStart => exact ⟨-1, (n : Int) - (i : Int), rfl, rfl, by omega, by omega, .inl ⟨rfl, fun k h1 h2 => by have := HM.out; have := HN.out; omega⟩, HN5.out, HF5.out⟩
      case round =>
        obtain ⟨A, j, rfl, rfl, hj1, hj2, hat, hfn, hfr⟩ := hrel
        have HAT := Lib.hid hat; have HFN := Lib.hid hfn; have HFR := Lib.hid hfr
        clear hat hfn hfr
        by_cases hj : 0 ≤ j
        · obtain ⟨k, rfl⟩ : ∃ k : Nat, j = (k : Int) := ⟨j.toNat, by omega⟩
          have hki : k + i ≤ n := by omega
          have hkI : (0 : Int) ≤ (k : Int) := by omega
          have HC2N : Hid (n ≤ c2) := Lib.hid (by have := HN.out; have := HC2.out; omega)
          have hsum : IntKind.i64.wrap ((k : Int) + (i : Int)) = ((k + i : Nat) : Int) := by
            have := IntWalk.i64_in ((k : Int) + (i : Int)) (by omega)
            rw [this]; omega
          obtain ⟨p, hp⟩ : ∃ p, p = (tx.drop k).take i := ⟨_, rfl⟩
          have hcut := cut_bytes (lo := k) (h := k + i) (c := c2) ((H2.out.fr HFR.out (by simp)).fr ((Fr.refl [] wr).drew) (by simp)) (by omega) (by have := HN.out; omega) (by have := HN.out; have := HC2.out; omega) hA2
          rw [Nat.add_sub_cancel_left, ← hp] at hcut
          have HPB := Lib.hid hcut.1
          have HPL : Hid (p.length = k + i - k) := Lib.hid (by rw [hp]; have := HN.out; simp; omega)
          have HSB : Hid (Bytes wr.drew A1 s) := Lib.hid ((H1.out.fr HFR.out (by simp)).fr ((Fr.refl [] wr).drew) (by simp))
          have hpre : p = s ↔ s <+: tx.drop k := by
            rw [hp, List.prefix_iff_eq_take, ← HM.out]
            exact eq_comm
          obtain ⟨bt, hbt⟩ : ∃ bt, bt = decide (p = s) := ⟨_, rfl⟩
          have hpb : (p == s) = bt := by rw [hbt, Bool.eq_iff_iff]; simp
          have HBT := Lib.hid hbt; have HPRE := Lib.hid hpre
          clear hp hcut hpre hbt
          go_upto_region 19 with fail
          refine wp_region_M_ (G := fun a b => a = b) (S := fun W => W = wr.drew) ⟨fun _ => rfl, fun a b c h k => h.trans k, fun a b h k => k ▸ h, by kernel_rfl, fun _ _ d _ _ h => by cases d <;> exact h⟩ (by kernel_rfl) fun su => ?_
          have SU := Lib.hid su
          have HS : Hid (wr.drew = wr.drew) := Lib.hid rfl
          clear su
          refine M_move (i := 0) _ SU.out rfl rfl (by kernel_rfl) HS.out rfl ?_
          simp only [Act.put, Act.eval, Array.getD_eq_getD_getElem?, List.setIfInBounds_toArray, List.set_cons_zero, List.set_cons_succ, List.getElem?_toArray, List.getElem?_cons_zero, List.getElem?_cons_succ, Option.getD_some]
          refine M_move (i := 1) _ SU.out rfl rfl (by kernel_rfl) HS.out rfl ?_
          simp only [Act.put, Act.eval, Array.getD_eq_getD_getElem?, List.setIfInBounds_toArray, List.set_cons_zero, List.set_cons_succ, List.getElem?_toArray, List.getElem?_cons_zero, List.getElem?_cons_succ, Option.getD_some]
          refine M_move (i := 2) _ SU.out rfl rfl (by kernel_rfl) HS.out rfl ?_
          simp only [Act.put, Act.eval, Array.getD_eq_getD_getElem?, List.setIfInBounds_toArray, List.set_cons_zero, List.set_cons_succ, List.getElem?_toArray, List.getElem?_cons_zero, List.getElem?_cons_succ, Option.getD_some]
          refine M_move (i := 3) _ SU.out rfl rfl (by kernel_rfl) HS.out rfl ?_
          simp only [Act.put, Act.eval, Array.getD_eq_getD_getElem?, List.setIfInBounds_toArray, List.set_cons_zero, List.set_cons_succ, List.getElem?_toArray, List.getElem?_cons_zero, List.getElem?_cons_succ, Option.getD_some]
          refine M_val (i := 4) (v := .int .i64 (i : Int)) SU.out rfl (by kernel_rfl) HS.out rfl (fun W hS => ?_) ?_
          · obtain rfl := hS
            go_simp
            first | done | rfl | omega | (exact IntWalk.i64_in _ (by omega)) | (simp; done) | (simp; omega)
          simp only [Act.put, List.setIfInBounds_toArray, List.set_cons_zero, List.set_cons_succ]
          refine M_val (i := 5) (v := .int .i64 ((k + i : Nat) : Int)) SU.out rfl (by kernel_rfl) HS.out rfl (fun W hS => ?_) ?_
          · obtain rfl := hS
            go_simp
            first | done | rfl | omega | (exact IntWalk.i64_in _ (by omega)) | (simp; done) | (simp; omega)
          simp only [Act.put, List.setIfInBounds_toArray, List.set_cons_zero, List.set_cons_succ]
          refine M_cut2 (i := 6) 22 (.tmp 76) (.tmp 77) (.tmp 81) SU.out rfl rfl 5 i0 Try.underlying22 hi0 hz1 A2 n c2 k (k + i) (by first | rfl | (simp [Act.eval]; done)) (by first | rfl | (simp [Act.eval]; done)) (by first | rfl | (simp [Act.eval]; done)) (by omega) (by omega) HC2N.out (by kernel_rfl) HS.out rfl ?_
          simp only [Act.put, List.setIfInBounds_toArray, List.set_cons_zero, List.set_cons_succ]
          refine M_str (i := 7) 22 9 (.tmp 82) SU.out rfl rfl 5 Try.underlying22 Try.underlying5 Try.underlying9 (if c2 = k then A2 else A2.map (·.add (k * 1))) (k + i - k) (c2 - k) (by first | rfl | (simp [Act.eval]; done)) p (fun W hS => by rw [hS]; exact HPB.out) HPL.out (by kernel_rfl) HS.out rfl ?_
          simp only [Act.put, List.setIfInBounds_toArray, List.set_cons_zero, List.set_cons_succ]
          refine M_move (i := 8) _ SU.out rfl rfl (by kernel_rfl) HS.out rfl ?_
          simp only [Act.put, Act.eval, Array.getD_eq_getD_getElem?, List.setIfInBounds_toArray, List.set_cons_zero, List.set_cons_succ, List.getElem?_toArray, List.getElem?_cons_zero, List.getElem?_cons_succ, Option.getD_some]
          refine M_str (i := 9) 22 9 (.tmp 84) SU.out rfl rfl 5 Try.underlying22 Try.underlying5 Try.underlying9 A1 i c1 (by first | rfl | (simp [Act.eval]; done)) s (fun W hS => by rw [hS]; exact HSB.out) HM.out.symm (by kernel_rfl) HS.out rfl ?_
          simp only [Act.put, List.setIfInBounds_toArray, List.set_cons_zero, List.set_cons_succ]
          refine M_val (i := 10) (v := .bool bt) SU.out rfl (by kernel_rfl) HS.out rfl (fun W hS => ?_) ?_
          · obtain rfl := hS
            go_simp
            first | done | rfl | omega | (exact IntWalk.i64_in _ (by omega)) | (simp; done) | (simp; omega)
          simp only [Act.put, List.setIfInBounds_toArray, List.set_cons_zero, List.set_cons_succ]
          refine wpAnyM_done (by kernel_rfl) (fun w' hG => ?_)
          obtain rfl := hG
          have hsub1 : IntKind.i64.wrap ((k : Int) - 1) = (k : Int) - 1 := IntWalk.i64_in _ (by omega)
          cases bt with
          | true =>
            have hat2 : AtI s tx (k : Int) ((k : Int) - 1) := atI_hit (by have := HM.out; have := HN.out; omega) (HPRE.out.1 (by have := HBT.out; simpa using this.symm))
            have HAT2 := Lib.hid hat2; clear hat2
            go_wp2_with fail
            go_roundw
            case rel => exact ⟨(k : Int), (k : Int) - 1, rfl, by first | rfl | go_num, by omega, by omega, HAT2.out, HFN.out.fr ((Fr.refl [] wr).drew), HFR.out.trans ((Fr.refl [] wr).drew)⟩
            case measure => first | (simp [intOf]; done) | (simp [intOf]; omega)
          | false =>
            have hat2 : AtI s tx A ((k : Int) - 1) := atI_miss HAT.out (fun h => by have := HBT.out; simp at this; exact this (HPRE.out.2 h))
            have HAT2 := Lib.hid hat2; clear hat2
            go_wp2_with fail
            go_roundw
            case rel => exact ⟨A, (k : Int) - 1, rfl, by first | rfl | go_num, by omega, by omega, HAT2.out, HFN.out.fr ((Fr.refl [] wr).drew), HFR.out.trans ((Fr.refl [] wr).drew)⟩
            case measure => first | (simp [intOf]; done) | (simp [intOf]; omega)
        · have hjI : ¬ (0 ≤ j) := hj
          have HH2 : Hid (∀ a, A2 = some a → a.block < wr.heap.size) := Lib.hid (fun a ha => by have := HL2.out a ha; have := HFR.out.size; omega)
          have HC2N : Hid (n ≤ c2) := Lib.hid (by have := HN.out; have := HC2.out; omega)
          have HFD := Lib.hid (fdl_of (parse_plain hs40) (siz_plain hs40))
          have htk := plain_takes (tx := tx) hs40
          obtain ⟨tk, htk2⟩ : ∃ tk, tk = decide (s = tx) := ⟨_, rfl⟩
          rw [← htk2] at htk
          have hss : (s == tx) = tk := by rw [htk2, Bool.eq_iff_iff]; simp
          have HTKS := Lib.hid htk
          clear htk htk2
          rcases HAT.out with ⟨rfl, hno⟩ | ⟨a, rfl, ha1, ha2, ha3, ha4⟩
          · have hff := plain_none hs40 (fun k hk => hno k (by omega) hk)
            have hfind := find_at (w := wr) n 0 HN.out.symm _ hff HFN.out HFD.out (H2.out.fr HFR.out (by simp)) HC2N.out HH2.out (by omega) (by omega)
            rw [show ((0 : Nat) : Int) = 0 from rfl] at hfind
            have HFI := Lib.hid hfind
            clear hff hfind hno
            go_upto_region 22 with (go_at_call 14; refine HFI.out.mono ?_; rintro e w6 ⟨rfl, hf⟩; have HF6 := Lib.hid (HFR.out.trans hf); have HR6 := Lib.hid (HFN.out.fr hf); have HZ6 : Hid (∀ a, A2 = some a → a.block < w6.heap.size) := Lib.hid (fun a ha => by have := HH2.out a ha; have := hf.size; omega); clear hf; simp only [found3])
            have hfd : Fr [] w6 w6.drew := (Fr.refl [] w6).drew
            have hcall : ∀ V, Fr [] w6.drew V → Calls Try.prog 16 #[.pointer (some ⟨fb, 0, none⟩), .slice A2 n c2] V fun e w' => e = .returned (.bool tk) ∧ Fr [] V w' := fun V hV =>
              takes_at (w := V) n HN.out.symm _ HTKS.out (HR6.out.fr (hfd.trans hV)) HFD.out (H2.out.fr (HF6.out.trans (hfd.trans hV)) (by simp)) HC2N.out (fun a ha => by have := HZ6.out a ha; have := (hfd.trans hV).size; omega) (by omega)
            have hby1 : ∀ V, Fr [] w6.drew V → Bytes V A1 s := fun V hV => H1.out.fr (HF6.out.trans (hfd.trans hV)) (by simp)
            have hby2 : ∀ V, Fr [] w6.drew V → Bytes V A2 tx := fun V hV => H2.out.fr (HF6.out.trans (hfd.trans hV)) (by simp)
            have HCALL := Lib.hid hcall; have HB1 := Lib.hid hby1; have HB2 := Lib.hid hby2; have HFD6 := Lib.hid (HF6.out.trans hfd)
            clear hfd hcall hby1 hby2
            refine wp_region_M_ (G := fun a b => Fr [] a b) (S := fun W => Fr [] w6.drew W) ⟨fun _ => Fr.refl _ _, fun a b c h k => h.trans k, fun a b h k => h.trans k, by kernel_rfl, fun _ _ d _ _ h => by cases d <;> exact h⟩ (by kernel_rfl) fun su => ?_
            have SU := Lib.hid su
            have HS : Hid (Fr [] w6.drew w6.drew) := Lib.hid (Fr.refl _ _)
            clear su
            refine M_move (i := 0) _ SU.out rfl rfl (by kernel_rfl) HS.out rfl ?_
            simp only [Act.put, Act.eval, Array.getD_eq_getD_getElem?, List.setIfInBounds_toArray, List.set_cons_zero, List.set_cons_succ, List.getElem?_toArray, List.getElem?_cons_zero, List.getElem?_cons_succ, Option.getD_some]
            refine M_move (i := 1) _ SU.out rfl rfl (by kernel_rfl) HS.out rfl ?_
            simp only [Act.put, Act.eval, Array.getD_eq_getD_getElem?, List.setIfInBounds_toArray, List.set_cons_zero, List.set_cons_succ, List.getElem?_toArray, List.getElem?_cons_zero, List.getElem?_cons_succ, Option.getD_some]
            refine M_val (i := 2) (v := .bool false) SU.out rfl (by kernel_rfl) HS.out rfl (fun W hS => ?_) ?_
            · obtain hS2 := hS
              go_simp
              first | done | rfl | omega | (exact IntWalk.i64_in _ (by omega)) | (simp; done) | (simp; omega)
            simp only [Act.put, List.setIfInBounds_toArray, List.set_cons_zero, List.set_cons_succ]
            refine M_val (i := 3) (v := .bool true) SU.out rfl (by kernel_rfl) HS.out rfl (fun W hS => ?_) ?_
            · obtain hS2 := hS
              go_simp
              first | done | rfl | omega | (exact IntWalk.i64_in _ (by omega)) | (simp; done) | (simp; omega)
            simp only [Act.put, List.setIfInBounds_toArray, List.set_cons_zero, List.set_cons_succ]
            refine M_move (i := 4) _ SU.out rfl rfl (by kernel_rfl) HS.out rfl ?_
            simp only [Act.put, Act.eval, Array.getD_eq_getD_getElem?, List.setIfInBounds_toArray, List.set_cons_zero, List.set_cons_succ, List.getElem?_toArray, List.getElem?_cons_zero, List.getElem?_cons_succ, Option.getD_some]
            refine M_move (i := 5) _ SU.out rfl rfl (by kernel_rfl) HS.out rfl ?_
            simp only [Act.put, Act.eval, Array.getD_eq_getD_getElem?, List.setIfInBounds_toArray, List.set_cons_zero, List.set_cons_succ, List.getElem?_toArray, List.getElem?_cons_zero, List.getElem?_cons_succ, Option.getD_some]
            refine M_val (i := 6) (v := .bool true) SU.out rfl (by kernel_rfl) HS.out rfl (fun W hS => ?_) ?_
            · obtain hS2 := hS
              go_simp
              first | done | rfl | omega | (exact IntWalk.i64_in _ (by omega)) | (simp; done) | (simp; omega)
            simp only [Act.put, List.setIfInBounds_toArray, List.set_cons_zero, List.set_cons_succ]
            refine M_move (i := 7) _ SU.out rfl rfl (by kernel_rfl) HS.out rfl ?_
            simp only [Act.put, Act.eval, Array.getD_eq_getD_getElem?, List.setIfInBounds_toArray, List.set_cons_zero, List.set_cons_succ, List.getElem?_toArray, List.getElem?_cons_zero, List.getElem?_cons_succ, Option.getD_some]
            refine M_skip (i := 8) SU.out rfl (by kernel_rfl) HS.out rfl ?_
            simp only [Act.put, List.setIfInBounds_toArray, List.set_cons_zero, List.set_cons_succ]
            refine M_skip (i := 9) SU.out rfl (by kernel_rfl) HS.out rfl ?_
            simp only [Act.put, List.setIfInBounds_toArray, List.set_cons_zero, List.set_cons_succ]
            refine M_skip (i := 10) SU.out rfl (by kernel_rfl) HS.out rfl ?_
            simp only [Act.put, List.setIfInBounds_toArray, List.set_cons_zero, List.set_cons_succ]
            refine M_skip (i := 11) SU.out rfl (by kernel_rfl) HS.out rfl ?_
            simp only [Act.put, List.setIfInBounds_toArray, List.set_cons_zero, List.set_cons_succ]
            refine M_skip (i := 12) SU.out rfl (by kernel_rfl) HS.out rfl ?_
            simp only [Act.put, List.setIfInBounds_toArray, List.set_cons_zero, List.set_cons_succ]
            refine M_skip (i := 13) SU.out rfl (by kernel_rfl) HS.out rfl ?_
            simp only [Act.put, List.setIfInBounds_toArray, List.set_cons_zero, List.set_cons_succ]
            refine M_skip (i := 14) SU.out rfl (by kernel_rfl) HS.out rfl ?_
            simp only [Act.put, List.setIfInBounds_toArray, List.set_cons_zero, List.set_cons_succ]
            refine M_skip (i := 15) SU.out rfl (by kernel_rfl) HS.out rfl ?_
            simp only [Act.put, List.setIfInBounds_toArray, List.set_cons_zero, List.set_cons_succ]
            refine M_skip (i := 16) SU.out rfl (by kernel_rfl) HS.out rfl ?_
            simp only [Act.put, List.setIfInBounds_toArray, List.set_cons_zero, List.set_cons_succ]
            refine M_skip (i := 17) SU.out rfl (by kernel_rfl) HS.out rfl ?_
            simp only [Act.put, List.setIfInBounds_toArray, List.set_cons_zero, List.set_cons_succ]
            refine M_skip (i := 18) SU.out rfl (by kernel_rfl) HS.out rfl ?_
            simp only [Act.put, List.setIfInBounds_toArray, List.set_cons_zero, List.set_cons_succ]
            refine M_val (i := 19) (v := .bool true) SU.out rfl (by kernel_rfl) HS.out rfl (fun W hS => ?_) ?_
            · obtain hS2 := hS
              go_simp
              first | done | rfl | omega | (exact IntWalk.i64_in _ (by omega)) | (simp; done) | (simp; omega)
            simp only [Act.put, List.setIfInBounds_toArray, List.set_cons_zero, List.set_cons_succ]
            refine M_val (i := 20) (v := .bool true) SU.out rfl (by kernel_rfl) HS.out rfl (fun W hS => ?_) ?_
            · obtain hS2 := hS
              go_simp
              first | done | rfl | omega | (exact IntWalk.i64_in _ (by omega)) | (simp; done) | (simp; omega)
            simp only [Act.put, List.setIfInBounds_toArray, List.set_cons_zero, List.set_cons_succ]
            refine M_move (i := 21) _ SU.out rfl rfl (by kernel_rfl) HS.out rfl ?_
            simp only [Act.put, Act.eval, Array.getD_eq_getD_getElem?, List.setIfInBounds_toArray, List.set_cons_zero, List.set_cons_succ, List.getElem?_toArray, List.getElem?_cons_zero, List.getElem?_cons_succ, Option.getD_some]
            refine M_move (i := 22) _ SU.out rfl rfl (by kernel_rfl) HS.out rfl ?_
            simp only [Act.put, Act.eval, Array.getD_eq_getD_getElem?, List.setIfInBounds_toArray, List.set_cons_zero, List.set_cons_succ, List.getElem?_toArray, List.getElem?_cons_zero, List.getElem?_cons_succ, Option.getD_some]
            refine M_move (i := 23) _ SU.out rfl rfl (by kernel_rfl) HS.out rfl ?_
            simp only [Act.put, Act.eval, Array.getD_eq_getD_getElem?, List.setIfInBounds_toArray, List.set_cons_zero, List.set_cons_succ, List.getElem?_toArray, List.getElem?_cons_zero, List.getElem?_cons_succ, Option.getD_some]
            refine M_call (i := 24) (v := .bool tk) SU.out rfl (by kernel_rfl) HS.out rfl (fun V hS => HCALL.out V hS) (fun V => ?_) ?_
            · go_simp
              first | done | rfl
            simp only [Act.put, List.setIfInBounds_toArray, List.set_cons_zero, List.set_cons_succ]
            refine M_move (i := 25) _ SU.out rfl rfl (by kernel_rfl) HS.out rfl ?_
            simp only [Act.put, Act.eval, Array.getD_eq_getD_getElem?, List.setIfInBounds_toArray, List.set_cons_zero, List.set_cons_succ, List.getElem?_toArray, List.getElem?_cons_zero, List.getElem?_cons_succ, Option.getD_some]
            refine M_str (i := 26) 22 9 (.tmp 120) SU.out rfl rfl 5 Try.underlying22 Try.underlying5 Try.underlying9 A1 i c1 (by first | rfl | (simp [Act.eval]; done)) s (fun W hS => HB1.out W hS) HM.out.symm (by kernel_rfl) HS.out rfl ?_
            simp only [Act.put, List.setIfInBounds_toArray, List.set_cons_zero, List.set_cons_succ]
            refine M_move (i := 27) _ SU.out rfl rfl (by kernel_rfl) HS.out rfl ?_
            simp only [Act.put, Act.eval, Array.getD_eq_getD_getElem?, List.setIfInBounds_toArray, List.set_cons_zero, List.set_cons_succ, List.getElem?_toArray, List.getElem?_cons_zero, List.getElem?_cons_succ, Option.getD_some]
            refine M_str (i := 28) 22 9 (.tmp 122) SU.out rfl rfl 5 Try.underlying22 Try.underlying5 Try.underlying9 A2 n c2 (by first | rfl | (simp [Act.eval]; done)) tx (fun W hS => HB2.out W hS) HN.out.symm (by kernel_rfl) HS.out rfl ?_
            simp only [Act.put, List.setIfInBounds_toArray, List.set_cons_zero, List.set_cons_succ]
            refine M_val (i := 29) (v := .bool tk) SU.out rfl (by kernel_rfl) HS.out rfl (fun W hS => ?_) ?_
            · obtain hS2 := hS
              go_simp
              first | done | rfl | omega | (exact IntWalk.i64_in _ (by omega)) | (simp; done) | (simp; omega)
            simp only [Act.put, List.setIfInBounds_toArray, List.set_cons_zero, List.set_cons_succ]
            refine M_val (i := 30) (v := .bool true) SU.out rfl (by kernel_rfl) HS.out rfl (fun W hS => ?_) ?_
            · obtain hS2 := hS
              go_simp
              first | done | rfl | omega | (exact IntWalk.i64_in _ (by omega)) | (simp; done) | (simp; omega)
            simp only [Act.put, List.setIfInBounds_toArray, List.set_cons_zero, List.set_cons_succ]
            refine M_val (i := 31) (v := .bool true) SU.out rfl (by kernel_rfl) HS.out rfl (fun W hS => ?_) ?_
            · obtain hS2 := hS
              go_simp
              first | done | rfl | omega | (exact IntWalk.i64_in _ (by omega)) | (simp; done) | (simp; omega)
            simp only [Act.put, List.setIfInBounds_toArray, List.set_cons_zero, List.set_cons_succ]
            refine M_val (i := 32) (v := .bool true) SU.out rfl (by kernel_rfl) HS.out rfl (fun W hS => ?_) ?_
            · obtain hS2 := hS
              go_simp
              first | done | rfl | omega | (exact IntWalk.i64_in _ (by omega)) | (simp; done) | (simp; omega)
            simp only [Act.put, List.setIfInBounds_toArray, List.set_cons_zero, List.set_cons_succ]
            refine wpAnyM_done (by kernel_rfl) (fun w' hG => ?_)
            have HF7 := Lib.hid (HFD6.out.trans hG)
            clear hG
            go_wp2_with fail
            go_ret
            exact ⟨rfl, HF7.out⟩
          · have hff := plain_some hs40 ha2 ha3 (fun k hk hp => ha4 k (by omega) hk hp)
            rw [← HM.out] at hff ha2
            have hfind := find_at (w := wr) n 0 HN.out.symm _ hff HFN.out HFD.out (H2.out.fr HFR.out (by simp)) HC2N.out HH2.out (by omega) (by omega)
            rw [show ((0 : Nat) : Int) = 0 from rfl] at hfind
            have HFI := Lib.hid hfind
            have han : a + i ≤ 60 := by have := HN.out; omega
            have ha0 : (0 : Int) ≤ (a : Int) := by omega
            have hsum : IntKind.i64.wrap ((a : Int) + (i : Int)) = ((a + i : Nat) : Int) := by
              have := IntWalk.i64_in ((a : Int) + (i : Int)) (by omega)
              rw [this]; omega
            clear hff hfind ha1 ha2 ha3 ha4
            go_upto_region 22 with (go_at_call 14; refine HFI.out.mono ?_; rintro e w6 ⟨rfl, hf⟩; have HF6 := Lib.hid (HFR.out.trans hf); have HR6 := Lib.hid (HFN.out.fr hf); have HZ6 : Hid (∀ a, A2 = some a → a.block < w6.heap.size) := Lib.hid (fun a ha => by have := HH2.out a ha; have := hf.size; omega); clear hf; simp only [found3])
            have hfd : Fr [] w6 w6.drew := (Fr.refl [] w6).drew
            have hcall : ∀ V, Fr [] w6.drew V → Calls Try.prog 16 #[.pointer (some ⟨fb, 0, none⟩), .slice A2 n c2] V fun e w' => e = .returned (.bool tk) ∧ Fr [] V w' := fun V hV =>
              takes_at (w := V) n HN.out.symm _ HTKS.out (HR6.out.fr (hfd.trans hV)) HFD.out (H2.out.fr (HF6.out.trans (hfd.trans hV)) (by simp)) HC2N.out (fun a ha => by have := HZ6.out a ha; have := (hfd.trans hV).size; omega) (by omega)
            have hby1 : ∀ V, Fr [] w6.drew V → Bytes V A1 s := fun V hV => H1.out.fr (HF6.out.trans (hfd.trans hV)) (by simp)
            have hby2 : ∀ V, Fr [] w6.drew V → Bytes V A2 tx := fun V hV => H2.out.fr (HF6.out.trans (hfd.trans hV)) (by simp)
            have HCALL := Lib.hid hcall; have HB1 := Lib.hid hby1; have HB2 := Lib.hid hby2; have HFD6 := Lib.hid (HF6.out.trans hfd)
            clear hfd hcall hby1 hby2
            refine wp_region_M_ (G := fun a b => Fr [] a b) (S := fun W => Fr [] w6.drew W) ⟨fun _ => Fr.refl _ _, fun a b c h k => h.trans k, fun a b h k => h.trans k, by kernel_rfl, fun _ _ d _ _ h => by cases d <;> exact h⟩ (by kernel_rfl) fun su => ?_
            have SU := Lib.hid su
            have HS : Hid (Fr [] w6.drew w6.drew) := Lib.hid (Fr.refl _ _)
            clear su
            refine M_move (i := 0) _ SU.out rfl rfl (by kernel_rfl) HS.out rfl ?_
            simp only [Act.put, Act.eval, Array.getD_eq_getD_getElem?, List.setIfInBounds_toArray, List.set_cons_zero, List.set_cons_succ, List.getElem?_toArray, List.getElem?_cons_zero, List.getElem?_cons_succ, Option.getD_some]
            refine M_move (i := 1) _ SU.out rfl rfl (by kernel_rfl) HS.out rfl ?_
            simp only [Act.put, Act.eval, Array.getD_eq_getD_getElem?, List.setIfInBounds_toArray, List.set_cons_zero, List.set_cons_succ, List.getElem?_toArray, List.getElem?_cons_zero, List.getElem?_cons_succ, Option.getD_some]
            refine M_val (i := 2) (v := .bool true) SU.out rfl (by kernel_rfl) HS.out rfl (fun W hS => ?_) ?_
            · obtain hS2 := hS
              go_simp
              first | done | rfl | omega | (exact IntWalk.i64_in _ (by omega)) | (simp; done) | (simp; omega)
            simp only [Act.put, List.setIfInBounds_toArray, List.set_cons_zero, List.set_cons_succ]
            refine M_val (i := 3) (v := .bool true) SU.out rfl (by kernel_rfl) HS.out rfl (fun W hS => ?_) ?_
            · obtain hS2 := hS
              go_simp
              first | done | rfl | omega | (exact IntWalk.i64_in _ (by omega)) | (simp; done) | (simp; omega)
            simp only [Act.put, List.setIfInBounds_toArray, List.set_cons_zero, List.set_cons_succ]
            refine M_move (i := 4) _ SU.out rfl rfl (by kernel_rfl) HS.out rfl ?_
            simp only [Act.put, Act.eval, Array.getD_eq_getD_getElem?, List.setIfInBounds_toArray, List.set_cons_zero, List.set_cons_succ, List.getElem?_toArray, List.getElem?_cons_zero, List.getElem?_cons_succ, Option.getD_some]
            refine M_move (i := 5) _ SU.out rfl rfl (by kernel_rfl) HS.out rfl ?_
            simp only [Act.put, Act.eval, Array.getD_eq_getD_getElem?, List.setIfInBounds_toArray, List.set_cons_zero, List.set_cons_succ, List.getElem?_toArray, List.getElem?_cons_zero, List.getElem?_cons_succ, Option.getD_some]
            refine M_val (i := 6) (v := .bool false) SU.out rfl (by kernel_rfl) HS.out rfl (fun W hS => ?_) ?_
            · obtain hS2 := hS
              go_simp
              first | done | rfl | omega | (exact IntWalk.i64_in _ (by omega)) | (simp; done) | (simp; omega)
            simp only [Act.put, List.setIfInBounds_toArray, List.set_cons_zero, List.set_cons_succ]
            refine M_move (i := 7) _ SU.out rfl rfl (by kernel_rfl) HS.out rfl ?_
            simp only [Act.put, Act.eval, Array.getD_eq_getD_getElem?, List.setIfInBounds_toArray, List.set_cons_zero, List.set_cons_succ, List.getElem?_toArray, List.getElem?_cons_zero, List.getElem?_cons_succ, Option.getD_some]
            refine M_move (i := 8) _ SU.out rfl rfl (by kernel_rfl) HS.out rfl ?_
            simp only [Act.put, Act.eval, Array.getD_eq_getD_getElem?, List.setIfInBounds_toArray, List.set_cons_zero, List.set_cons_succ, List.getElem?_toArray, List.getElem?_cons_zero, List.getElem?_cons_succ, Option.getD_some]
            refine M_move (i := 9) _ SU.out rfl rfl (by kernel_rfl) HS.out rfl ?_
            simp only [Act.put, Act.eval, Array.getD_eq_getD_getElem?, List.setIfInBounds_toArray, List.set_cons_zero, List.set_cons_succ, List.getElem?_toArray, List.getElem?_cons_zero, List.getElem?_cons_succ, Option.getD_some]
            refine M_val (i := 10) (v := .bool true) SU.out rfl (by kernel_rfl) HS.out rfl (fun W hS => ?_) ?_
            · obtain hS2 := hS
              go_simp
              first | done | rfl | omega | (exact IntWalk.i64_in _ (by omega)) | (simp; done) | (simp; omega)
            simp only [Act.put, List.setIfInBounds_toArray, List.set_cons_zero, List.set_cons_succ]
            refine M_move (i := 11) _ SU.out rfl rfl (by kernel_rfl) HS.out rfl ?_
            simp only [Act.put, Act.eval, Array.getD_eq_getD_getElem?, List.setIfInBounds_toArray, List.set_cons_zero, List.set_cons_succ, List.getElem?_toArray, List.getElem?_cons_zero, List.getElem?_cons_succ, Option.getD_some]
            refine M_move (i := 12) _ SU.out rfl rfl (by kernel_rfl) HS.out rfl ?_
            simp only [Act.put, Act.eval, Array.getD_eq_getD_getElem?, List.setIfInBounds_toArray, List.set_cons_zero, List.set_cons_succ, List.getElem?_toArray, List.getElem?_cons_zero, List.getElem?_cons_succ, Option.getD_some]
            refine M_move (i := 13) _ SU.out rfl rfl (by kernel_rfl) HS.out rfl ?_
            simp only [Act.put, Act.eval, Array.getD_eq_getD_getElem?, List.setIfInBounds_toArray, List.set_cons_zero, List.set_cons_succ, List.getElem?_toArray, List.getElem?_cons_zero, List.getElem?_cons_succ, Option.getD_some]
            refine M_move (i := 14) _ SU.out rfl rfl (by kernel_rfl) HS.out rfl ?_
            simp only [Act.put, Act.eval, Array.getD_eq_getD_getElem?, List.setIfInBounds_toArray, List.set_cons_zero, List.set_cons_succ, List.getElem?_toArray, List.getElem?_cons_zero, List.getElem?_cons_succ, Option.getD_some]
            refine M_val (i := 15) (v := .int .i64 (i : Int)) SU.out rfl (by kernel_rfl) HS.out rfl (fun W hS => ?_) ?_
            · obtain hS2 := hS
              go_simp
              first | done | rfl | omega | (exact IntWalk.i64_in _ (by omega)) | (simp; done) | (simp; omega)
            simp only [Act.put, List.setIfInBounds_toArray, List.set_cons_zero, List.set_cons_succ]
            refine M_val (i := 16) (v := .int .i64 ((a + i : Nat) : Int)) SU.out rfl (by kernel_rfl) HS.out rfl (fun W hS => ?_) ?_
            · obtain hS2 := hS
              go_simp
              first | done | rfl | omega | (exact IntWalk.i64_in _ (by omega)) | (simp; done) | (simp; omega)
            simp only [Act.put, List.setIfInBounds_toArray, List.set_cons_zero, List.set_cons_succ]
            refine M_val (i := 17) (v := .bool true) SU.out rfl (by kernel_rfl) HS.out rfl (fun W hS => ?_) ?_
            · obtain hS2 := hS
              go_simp
              first | done | rfl | omega | (exact IntWalk.i64_in _ (by omega)) | (simp; done) | (simp; omega)
            simp only [Act.put, List.setIfInBounds_toArray, List.set_cons_zero, List.set_cons_succ]
            refine M_val (i := 18) (v := .bool true) SU.out rfl (by kernel_rfl) HS.out rfl (fun W hS => ?_) ?_
            · obtain hS2 := hS
              go_simp
              first | done | rfl | omega | (exact IntWalk.i64_in _ (by omega)) | (simp; done) | (simp; omega)
            simp only [Act.put, List.setIfInBounds_toArray, List.set_cons_zero, List.set_cons_succ]
            refine M_val (i := 19) (v := .bool true) SU.out rfl (by kernel_rfl) HS.out rfl (fun W hS => ?_) ?_
            · obtain hS2 := hS
              go_simp
              first | done | rfl | omega | (exact IntWalk.i64_in _ (by omega)) | (simp; done) | (simp; omega)
            simp only [Act.put, List.setIfInBounds_toArray, List.set_cons_zero, List.set_cons_succ]
            refine M_val (i := 20) (v := .bool true) SU.out rfl (by kernel_rfl) HS.out rfl (fun W hS => ?_) ?_
            · obtain hS2 := hS
              go_simp
              first | done | rfl | omega | (exact IntWalk.i64_in _ (by omega)) | (simp; done) | (simp; omega)
            simp only [Act.put, List.setIfInBounds_toArray, List.set_cons_zero, List.set_cons_succ]
            refine M_move (i := 21) _ SU.out rfl rfl (by kernel_rfl) HS.out rfl ?_
            simp only [Act.put, Act.eval, Array.getD_eq_getD_getElem?, List.setIfInBounds_toArray, List.set_cons_zero, List.set_cons_succ, List.getElem?_toArray, List.getElem?_cons_zero, List.getElem?_cons_succ, Option.getD_some]
            refine M_move (i := 22) _ SU.out rfl rfl (by kernel_rfl) HS.out rfl ?_
            simp only [Act.put, Act.eval, Array.getD_eq_getD_getElem?, List.setIfInBounds_toArray, List.set_cons_zero, List.set_cons_succ, List.getElem?_toArray, List.getElem?_cons_zero, List.getElem?_cons_succ, Option.getD_some]
            refine M_move (i := 23) _ SU.out rfl rfl (by kernel_rfl) HS.out rfl ?_
            simp only [Act.put, Act.eval, Array.getD_eq_getD_getElem?, List.setIfInBounds_toArray, List.set_cons_zero, List.set_cons_succ, List.getElem?_toArray, List.getElem?_cons_zero, List.getElem?_cons_succ, Option.getD_some]
            refine M_call (i := 24) (v := .bool tk) SU.out rfl (by kernel_rfl) HS.out rfl (fun V hS => HCALL.out V hS) (fun V => ?_) ?_
            · go_simp
              first | done | rfl
            simp only [Act.put, List.setIfInBounds_toArray, List.set_cons_zero, List.set_cons_succ]
            refine M_move (i := 25) _ SU.out rfl rfl (by kernel_rfl) HS.out rfl ?_
            simp only [Act.put, Act.eval, Array.getD_eq_getD_getElem?, List.setIfInBounds_toArray, List.set_cons_zero, List.set_cons_succ, List.getElem?_toArray, List.getElem?_cons_zero, List.getElem?_cons_succ, Option.getD_some]
            refine M_str (i := 26) 22 9 (.tmp 120) SU.out rfl rfl 5 Try.underlying22 Try.underlying5 Try.underlying9 A1 i c1 (by first | rfl | (simp [Act.eval]; done)) s (fun W hS => HB1.out W hS) HM.out.symm (by kernel_rfl) HS.out rfl ?_
            simp only [Act.put, List.setIfInBounds_toArray, List.set_cons_zero, List.set_cons_succ]
            refine M_move (i := 27) _ SU.out rfl rfl (by kernel_rfl) HS.out rfl ?_
            simp only [Act.put, Act.eval, Array.getD_eq_getD_getElem?, List.setIfInBounds_toArray, List.set_cons_zero, List.set_cons_succ, List.getElem?_toArray, List.getElem?_cons_zero, List.getElem?_cons_succ, Option.getD_some]
            refine M_str (i := 28) 22 9 (.tmp 122) SU.out rfl rfl 5 Try.underlying22 Try.underlying5 Try.underlying9 A2 n c2 (by first | rfl | (simp [Act.eval]; done)) tx (fun W hS => HB2.out W hS) HN.out.symm (by kernel_rfl) HS.out rfl ?_
            simp only [Act.put, List.setIfInBounds_toArray, List.set_cons_zero, List.set_cons_succ]
            refine M_val (i := 29) (v := .bool tk) SU.out rfl (by kernel_rfl) HS.out rfl (fun W hS => ?_) ?_
            · obtain hS2 := hS
              go_simp
              first | done | rfl | omega | (exact IntWalk.i64_in _ (by omega)) | (simp; done) | (simp; omega)
            simp only [Act.put, List.setIfInBounds_toArray, List.set_cons_zero, List.set_cons_succ]
            refine M_val (i := 30) (v := .bool true) SU.out rfl (by kernel_rfl) HS.out rfl (fun W hS => ?_) ?_
            · obtain hS2 := hS
              go_simp
              first | done | rfl | omega | (exact IntWalk.i64_in _ (by omega)) | (simp; done) | (simp; omega)
            simp only [Act.put, List.setIfInBounds_toArray, List.set_cons_zero, List.set_cons_succ]
            refine M_val (i := 31) (v := .bool true) SU.out rfl (by kernel_rfl) HS.out rfl (fun W hS => ?_) ?_
            · obtain hS2 := hS
              go_simp
              first | done | rfl | omega | (exact IntWalk.i64_in _ (by omega)) | (simp; done) | (simp; omega)
            simp only [Act.put, List.setIfInBounds_toArray, List.set_cons_zero, List.set_cons_succ]
            refine M_val (i := 32) (v := .bool true) SU.out rfl (by kernel_rfl) HS.out rfl (fun W hS => ?_) ?_
            · obtain hS2 := hS
              go_simp
              first | done | rfl | omega | (exact IntWalk.i64_in _ (by omega)) | (simp; done) | (simp; omega)
            simp only [Act.put, List.setIfInBounds_toArray, List.set_cons_zero, List.set_cons_succ]
            refine wpAnyM_done (by kernel_rfl) (fun w' hG => ?_)
            have HF7 := Lib.hid (HFD6.out.trans hG)
            clear hG
            go_wp2_with fail
            go_ret
            exact ⟨rfl, HF7.out⟩
set_option maxRecDepth 100000 in
theorem matchPlain_open {H : Type} {enc : TypeId × Value → H} (W : World) (base : Nat) (v0 : Value) (d0 : DataW H) (p0 : List MemPlace) (v1 : Value) (d1 : DataW H) (p1 : List MemPlace)
    (k0 : Value.okWide Try.prog W .any base 22 v0) (k1 : Value.okWide Try.prog W .any base 22 v1)
    (h0 : DataW.Trod enc Try.prog W 0 (fun _ => true) true 22 v0 d0 p0) (h1 : DataW.Trod enc Try.prog W 0 (fun _ => true) true 22 v1 d1 p1) (hg : GlobOk W) :
    Calls Try.prog 6 #[v0, v1] W fun e W' => e = .returned (.bool true) ∧ Below W.heap.size W W' := by
  obtain ⟨A1, c1, b1, rfl, g1, g2, g3, g4⟩ := arg_bytes k0 h0
  obtain ⟨A2, c2, b2, rfl, f1, f2, f3, f4⟩ := arg_bytes k1 h1
  exact (matchPlain_walk hg g4 f4 g1 f1 g3 f3 (fun a ha => by subst ha; exact arg_lt k1)).mono fun e W' ⟨h1, h2⟩ => ⟨h1, h2.below_nil⟩
end Go.Proofs.Ytekfpipgcpkejaa
