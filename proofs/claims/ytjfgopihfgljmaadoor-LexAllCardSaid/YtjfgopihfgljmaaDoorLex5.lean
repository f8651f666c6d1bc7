/-
  The lexer's regex. No conditions on the program.
-/
import Derived.Test.YtjfgopihfgljmaaDoorLex4
import Derived.OwnWalk
namespace Go.Proofs.YtjfgopihfgljmaaDoor
open Go.RowKit
set_option linter.unusedVariables false
set_option linter.unusedSimpArgs false

/-- Every escape has its byte. -/
def closM : List UInt8 → Bool
  | [] => true
  | c :: r => if c.toNat = 92 then (match r with
      | [] => false
      | _ :: r' => closM r') else closM r
theorem closM_cons (c : UInt8) (r : List UInt8) : closM (c :: r) = if c.toNat = 92 then (!r.isEmpty && closM (r.drop 1)) else closM r := by
  cases r <;> rfl
theorem ereM_cons (c : UInt8) (r : List UInt8) : ereM (c :: r) = if c.toNat = 92 then (if r = [] then [] else if (r.headD 0).toNat = 47 then r.headD 0 :: ereM (r.drop 1) else c :: r.headD 0 :: ereM (r.drop 1)) else c :: ereM r := by
  cases r with
  | nil => rfl
  | cons d r' => simp [ereM]
theorem quotM_clos (q : Nat) (s : List UInt8) : ∀ n, quotM q s = some n → n + 1 ≤ s.length ∧ closM (s.take n) = true := by
  induction h : s.length using Nat.strongRecOn generalizing s with
  | _ m ih =>
    intro n hn
    subst h
    cases s with
    | nil => simp [quotM] at hn
    | cons c r =>
      rw [quotM_cons] at hn
      split at hn
      · cases hn
      · split at hn
        · injection hn with hn; subst hn; simp [closM]
        · split at hn
          · split at hn
            · cases hn
            · rename_i h92 hr
              obtain ⟨n', hn', rfl⟩ := Option.map_eq_some_iff.1 hn
              cases r with
              | nil => simp at hr
              | cons d r' =>
                have := ih r'.length (by simp; omega) r' rfl n' (by simpa using hn')
                refine ⟨by simp; omega, ?_⟩
                rw [List.take_succ_cons, closM_cons, if_pos (by omega)]; simpa using this.2
          · rename_i h92
            obtain ⟨n', hn', rfl⟩ := Option.map_eq_some_iff.1 hn
            have := ih r.length (by simp) r rfl n' hn'
            refine ⟨by simp; omega, ?_⟩
            rw [List.take_succ_cons, closM_cons, if_neg h92]; exact this.2
theorem Bk.six {W : World} {b : Nat} {t : TypeId} {v0 v1 v2 v3 v4 v5 : Value} (h : Bk W b t #[v0, v1, v2, v3, v4, v5]) (a0 a1 a2 a3 a4 a5 : Value) :
    Bk ((((((W.setCell ⟨b, 0, none⟩ a0).setCell ⟨b, 1, none⟩ a1).setCell ⟨b, 2, none⟩ a2).setCell ⟨b, 3, none⟩ a3).setCell ⟨b, 4, none⟩ a4).setCell ⟨b, 5, none⟩ a5) b t #[a0, a1, a2, a3, a4, a5] :=
  (((((h.put 0 a0).put 1 a1).put 2 a2).put 3 a3).put 4 a4).put 5 a5
theorem Bk.sixc {W : World} {b : Nat} {t : TypeId} {v0 v1 v2 v3 v4 v5 : Value} (h : Bk W b t #[v0, v1, v2, v3, v4, v5]) :
    W.cell? ⟨b, 0, none⟩ = some v0 ∧ W.cell? ⟨b, 1, none⟩ = some v1 ∧ W.cell? ⟨b, 2, none⟩ = some v2 ∧ W.cell? ⟨b, 3, none⟩ = some v3 ∧ W.cell? ⟨b, 4, none⟩ = some v4 ∧ W.cell? ⟨b, 5, none⟩ = some v5 ∧
      W.frozen? ⟨b, 0, none⟩ = false ∧ W.frozen? ⟨b, 1, none⟩ = false ∧ W.frozen? ⟨b, 2, none⟩ = false ∧ W.frozen? ⟨b, 3, none⟩ = false ∧ W.frozen? ⟨b, 4, none⟩ = false ∧ W.frozen? ⟨b, 5, none⟩ = false :=
  ⟨h.cell_ rfl, h.cell_ rfl, h.cell_ rfl, h.cell_ rfl, h.cell_ rfl, h.cell_ rfl, h.frozen 0, h.frozen 1, h.frozen 2, h.frozen 3, h.frozen 4, h.frozen 5⟩
theorem Fr.six {l : List Nat} {w W : World} {b : Nat} (h : Fr l w W) (hb : b ∈ l ∨ w.heap.size ≤ b) (a0 a1 a2 a3 a4 a5 : Value) :
    Fr l w ((((((W.setCell ⟨b, 0, none⟩ a0).setCell ⟨b, 1, none⟩ a1).setCell ⟨b, 2, none⟩ a2).setCell ⟨b, 3, none⟩ a3).setCell ⟨b, 4, none⟩ a4).setCell ⟨b, 5, none⟩ a5) :=
  (((((h.setCell hb a0).setCell hb a1).setCell hb a2).setCell hb a3).setCell hb a4).setCell hb a5
theorem own_snoc {w : World} {B n m : Nat} {outs : List UInt8} {x : Int} (h : w.ownsRow 0 5 1 (.slice (some ⟨B, 0, none⟩) (m + 1) n) (m + 1) (byteVals outs ++ [.int .u8 x])) (hm : outs.length = m) (d : UInt8) (hx : x = (d.toNat : Int)) :
    w.ownsRow 0 5 1 (.slice (some ⟨B, 0, none⟩) (outs ++ [d]).length n) (outs ++ [d]).length (byteVals (outs ++ [d])) := by
  subst hm hx
  rw [byteVals_append]
  simpa [byteVals] using h
/-- A token as a value. -/
def tokV (k p : Nat) (s : List UInt8) (v : Nat) : Value := .agg #[.int .i64 (k : Int), .int .i64 (p : Int), .string ⟨s.toArray⟩, .bool false, .int .u64 ((v / 18446744073709551616 : Nat) : Int), .int .u64 ((v % 18446744073709551616 : Nat) : Int)]
def tokZ : Value := .agg #[.int .i64 0, .int .i64 0, .string ⟨#[]⟩, .bool false, .int .u64 0, .int .u64 0]
/-- What a token's reader answers. -/
def TokPost (w : World) (g : Nat) (A : Option Addr) (c : Nat) (src : List UInt8) (i : Nat) (L : Value) (r : Except Nat (Nat × List UInt8 × Nat × Nat)) (e : Ending) (w' : World) : Prop :=
  match r with
  | .ok (k, s, v, m) => e = .returned (.tuple #[tokV k i s v, .nilIface]) ∧ Rdr w' g A c src (i + m) L ∧ Fr [g] w w'
  | .error code => ∃ b j, e = .returned (.tuple #[tokZ, .iface 34 (.pointer (some ⟨b, 0, none⟩))]) ∧ fltV w' (.iface 34 (.pointer (some ⟨b, 0, none⟩))) i code ∧ Rdr w' g A c src j L ∧ Fr [g] w w'
theorem byteVals_get {bs : List UInt8} {k : Nat} (h : k < bs.length) : (byteVals bs)[k]? = some (.int .u8 ((bs.getD k 0).toNat : Int)) := by
  simp [byteVals, List.getElem?_eq_getElem h, List.getD_eq_getElem?_getD]

def ereR (s : List UInt8) : Except Nat (Nat × List UInt8 × Nat × Nat) := match quotM 47 s with
  | none => .error 7
  | some n => .ok (4, ereM (s.take n), 0, n + 2)
def textR (s : List UInt8) : Except Nat (Nat × List UInt8 × Nat × Nat) := match quotM 34 s with
  | none => .error 7
  | some n => .ok (3, textM n (s.take n), 0, n + 2)
set_option maxRecDepth 100000 in
set_option maxHeartbeats 4000000 in
theorem regex_any {w : World} {g : Nat} {A : Option Addr} {c : Nat} {src : List UInt8} {i : Nat} {L : Value} (h : Rdr w g A c src i L) (hi : i < src.length) :
    Calls Tryd.prog 33 #[.pointer (some ⟨g, 0, none⟩)] w (TokPost w g A c src i L (ereR (src.drop (i + 1)))) := by
  obtain ⟨c0, c1, c2, f1⟩ := h.cells
  obtain ⟨i0, hi0, hz0, hz1, hz2⟩ := u8parts
  have hl := h.len
  have hgl := h.blk.lt
  have H := Lib.hid h; clear h
  go_enter Tryd.func33, Tryd.ntmps33
  go_wp2_with fail
  go_at_call 45
  refine calls_gen fun W hW => ?_
  have hfW : Fr [] w W := by rw [hW]; exact (Fr.refl [] w).alloc _
  have hb2 : Bk W w.heap.size 43 #[.int .i64 0, .int .i64 0, .string ⟨#[]⟩, .bool false, .int .u64 0, .int .u64 0] := by rw [hW]; exact Bk.new w _ _
  have HB2 := Lib.hid hb2; have HFW := Lib.hid hfW
  clear hW hb2 hfW
  have hgb : w.heap.size ≠ g := by omega
  refine (quoted_any (H.out.fr_nil HFW.out) hi 47 (.inr rfl)).mono ?_
  intro e w2 hp
  unfold QuotPost at hp
  cases hq : quotM 47 (src.drop (i + 1)) with
  | none =>
    rw [hq] at hp
    obtain ⟨b, rfl, hfl, hr2, hf2⟩ := hp
    have h3 := HB2.out.fr hf2 (by simpa using hgb)
    obtain ⟨y0, y1, y2, y3, y4, y5, z0, z1, z2, z3, z4, z5⟩ := h3.sixc
    obtain ⟨fb, hfe, hfb⟩ := hfl
    have H3 := Lib.hid h3; have HFL := Lib.hid hfb; have HR := Lib.hid hr2; have HF := Lib.hid hf2
    clear h3 hfb hr2 hf2
    have HQ := Lib.hid hq; clear hq
    go_wp2_with fail
    refine body_gen fun V hV => ?_
    have hb4 : Bk V w.heap.size 43 #[.int .i64 0, .int .i64 0, .string ⟨#[]⟩, .bool false, .int .u64 0, .int .u64 0] := by rw [hV]; exact H3.out.six _ _ _ _ _ _
    have hf4 : Fr [w.heap.size] w2 V := by rw [hV]; exact (Fr.refl _ _).six (.inl (by simp)) _ _ _ _ _ _
    clear hV
    obtain ⟨k0, k1, k2, k3, k4, k5, -⟩ := hb4.sixc
    refine bodyPost_ret (v := .tuple #[tokZ, .iface 34 (.pointer (some ⟨b, 0, none⟩))]) (by unfold tokZ; simp [results, Tryd.results33, go_sem, k0, k1, k2, k3, k4, k5]) rfl ?_
    unfold ereR
    rw [HQ.out]
    exact ⟨b, i, rfl, ⟨b, rfl, HFL.out.fr hf4 (by simpa using HFL.out.ne_ H3.out (by decide))⟩, HR.out.fr_far hf4 (by simpa using hgl), (HFW.out.nil_.trans HF.out).trans' hf4 (by simp)⟩
  | some n =>
    rw [hq] at hp
    obtain ⟨X, cx, rfl, hbX, hXg, hr2, hf2, hcx, hX0⟩ := hp
    have hcl := quotM_clos 47 _ n hq
    have hbl : ((src.drop (i + 1)).take n).length = n := by simp at hcl ⊢; omega
    obtain ⟨bs, hbs⟩ : ∃ bs, bs = (src.drop (i + 1)).take n := ⟨_, rfl⟩
    rw [← hbs] at hbX hcl hbl
    have h3 := HB2.out.fr hf2 (by simpa using hgb)
    have hn : n ≤ 16384 := by have := hcl.1; simp at this; omega
    have hin : i + n + 2 ≤ src.length := hr2.at_
    have HQ : Hid (ereR (src.drop (i + 1)) = .ok (4, ereM bs, 0, n + 2)) := Lib.hid (by unfold ereR; rw [hq, hbs])
    have hsz : w.heap.size < w2.heap.size := h3.lt
    have H3 := Lib.hid h3; have HR := Lib.hid hr2; have HF := Lib.hid hf2; have HBX := Lib.hid hbX; have HXG := Lib.hid hXg; have HCL := Lib.hid hcl.2
    clear h3 hr2 hf2 hbX hXg hcl hq hbs
    go_wp2_with (refine wpList_make_own _ rfl _ _ 22 rfl 0 5 i0 (.int .u8 0) 1 Tryd.underlying22 hi0 hz0 hz1 .i64 .i64 _ n rfl rfl rfl (by rw [hz2]; omega) (by unfold maxLen; omega) (Nat.zero_le _) ?_; intro w3 hown3 hgr3; have HOWN3 := Lib.hid hown3; have HGR3 := Lib.hid hgr3; clear hown3 hgr3)
    have HF3 : Hid (Fr [] w2 w3) := Lib.hid ((Fr.refl [] w2).grown HGR3.out (by simp))
    obtain ⟨B, hB⟩ : ∃ B, B = w2.heap.size := ⟨_, rfl⟩
    rw [← hB] at HOWN3
    have HBE := Lib.hid hB; clear hB
    go_wp2_with fail
    rw [← HBE.out]
    go_loopw [7, 8] (fun v7 v8 wr => ∃ k : Nat, ∃ outs : List UInt8, v8 = .int .i64 (k : Int) ∧ v7 = .slice (some ⟨B, 0, none⟩) outs.length n ∧ wr.ownsRow 0 5 1 (.slice (some ⟨B, 0, none⟩) outs.length n) outs.length (byteVals outs) ∧ outs.length ≤ k ∧ k ≤ n ∧ outs ++ ereM (bs.drop k) = ereM bs ∧ closM (bs.drop k) = true ∧ Fr [] w2 wr) (fun _ v8 _ => n - (intOf v8).toNat)
    case atStart => exact ⟨0, [], rfl, rfl, HOWN3.out, by simp, by omega, rfl, HCL.out, HF3.out⟩
    case round =>
      obtain ⟨k, outs, rfl, rfl, hown, hok, hkn, hout, hcl, hfr⟩ := hrel
      by_cases hlt : k < n
      · have hlt' : k < bs.length := by omega
        rw [drop_cons_ hlt', ereM_cons] at hout
        rw [drop_cons_ hlt', closM_cons] at hcl
        rw [headD_drop, List.drop_drop] at hout
        rw [List.drop_drop] at hcl
        have hbr : Bytes wr X bs := HBX.out.fr_nil hfr
        obtain ⟨a, rfl, hba, e0⟩ := byte_at hbr hlt'
        obtain ⟨p, hp⟩ : ∃ p, p = bs.getD k 0 := ⟨_, rfl⟩
        rw [← hp] at e0 hout hcl
        by_cases h92 : p.toNat = 92
        · rw [if_pos h92] at hout hcl
          rw [Bool.and_eq_true] at hcl
          have hlt2 : k + 1 < bs.length := by
            rcases Nat.lt_or_ge (k + 1) bs.length with hh | hh
            · exact hh
            · rw [List.drop_eq_nil_of_le hh] at hcl; simp at hcl
          have hne : bs.drop (k + 1) ≠ [] := by intro e; have := congrArg List.length e; simp at this; omega
          rw [if_neg hne] at hout
          obtain ⟨a2, ha2, hba2, e1⟩ := byte_at hbr hlt2
          injection ha2 with ha2; subst ha2
          obtain ⟨d, hd⟩ : ∃ d, d = bs.getD (k + 1) 0 := ⟨_, rfl⟩
          rw [← hd] at e1 hout
          rw [Addr.add_succ'] at e1
          have HOWN := Lib.hid hown; have HCLO := Lib.hid hcl.2; have HFR := Lib.hid hfr
          rw [h92] at e0
          by_cases h47 : d.toNat = 47
          · rw [if_pos h47] at hout
            have HOUT := Lib.hid hout
            rw [h47] at e1
            have HD : Hid ((47 : Int) = (d.toNat : Int)) := Lib.hid (by rw [h47]; rfl)
            clear hout hcl hown hfr hbr hp hd h92 h47 hne
            go_wp2_with (at_builtin; refine wpList_append_fits _ rfl _ _ 22 rfl 0 5 i0 1 Tryd.underlying22 hi0 hz1 B outs.length n (byteVals outs) rfl (HOWN.out.alloc _) ⟨wr.heap.size, 0, none⟩ 1 1 [.int .u8 47] rfl rfl (cell_one_new _ _ _) (ints_oneCell .u8 [47]) (by omega) ?_; intro w4 hown' hgr'; have HOWNw4 := Lib.hid hown'; have HGRw4 := Lib.hid hgr'; clear hown' hgr')
            go_roundw
            case rel => exact ⟨k + 2, outs ++ [d], by go_num, by simp, own_snoc HOWNw4.out rfl d HD.out, by simp; omega, by omega, by simpa [List.append_assoc] using HOUT.out, HCLO.out, (HFR.out.alloc _).grown HGRw4.out (fun g' e => .inr (by injection e with e; rw [← e, HBE.out]; exact Nat.le_refl _))⟩
            case measure => simp [intOf]; omega
          · rw [if_neg h47] at hout
            have g47 : ((d.toNat : Int) == 47) = false := by simp; omega
            have HOUT := Lib.hid hout
            have HP92 := Lib.hid h92
            clear hout hcl hown hfr hbr hp hd h47 hne h92
            generalize hdn : (d.toNat : Int) = dn at *
            have HDN := Lib.hid hdn; clear hdn
            have hkeep : ∀ (o : Obj) (w4 : World), (wr.alloc o).grownBy w4 (some B) → w4.cell? ⟨a.block, a.off + (k + 1), none⟩ = some (.int .u8 dn) := fun o w4 hg => by
              have hf : Fr [B] wr w4 := ((Fr.refl [B] wr).alloc o).grown hg (fun g' e => .inl (by injection e with e; simp [e]))
              have hab : a.block ≠ B := by have := HXG.out a rfl; have := HBE.out; omega
              exact (hf.cell (p := ⟨a.block, a.off + (k + 1), none⟩) hba2 (by simpa using hab)).trans e1
            have HKEEP := Lib.hid hkeep; clear hkeep
            go_wp2_with (first
              | (at_builtin; refine wpList_append_fits _ rfl _ _ 22 rfl 0 5 i0 1 Tryd.underlying22 hi0 hz1 B (outs.length + 1) n (byteVals outs ++ [.int .u8 92]) rfl (HOWNw4.out.alloc _) ⟨w4.heap.size, 0, none⟩ 1 1 [.int .u8 dn] rfl rfl (cell_one_new _ _ _) (ints_oneCell .u8 [dn]) (by omega) ?_; intro w5 hown' hgr'; have HOWNw5 := Lib.hid hown'; have HGRw5 := Lib.hid hgr'; clear hown' hgr')
              | (at_builtin; refine wpList_append_fits _ rfl _ _ 22 rfl 0 5 i0 1 Tryd.underlying22 hi0 hz1 B outs.length n (byteVals outs) rfl (HOWN.out.alloc _) ⟨wr.heap.size, 0, none⟩ 1 1 [.int .u8 92] rfl rfl (cell_one_new _ _ _) (ints_oneCell .u8 [92]) (by omega) ?_; intro w4 hown' hgr'; have e2 := HKEEP.out _ w4 hgr'; have HOWNw4 := Lib.hid hown'; have HGRw4 := Lib.hid hgr'; clear hown' hgr'))
            go_roundw
            case rel => exact ⟨k + 2, outs ++ [p] ++ [d], by go_num, by simp, own_snoc (outs := outs ++ [p]) (by have := HOWNw5.out; rw [byteVals_append]; simpa [byteVals, HP92.out] using this) (by simp) d HDN.out.symm, by simp; omega, by omega, by simpa [List.append_assoc] using HOUT.out, HCLO.out, ((((HFR.out.alloc _).grown HGRw4.out (fun g' e => .inr (by injection e with e; rw [← e, HBE.out]; exact Nat.le_refl _))).alloc _).grown HGRw5.out (fun g' e => .inr (by injection e with e; rw [← e, HBE.out]; exact Nat.le_refl _)))⟩
            case measure => simp [intOf]; omega
        · rw [if_neg h92] at hout hcl
          have HOWN := Lib.hid hown; have HCLO := Lib.hid hcl; have HFR := Lib.hid hfr
          have g92 : ((p.toNat : Int) == 92) = false := by simp; omega
          have HOUT := Lib.hid hout
          clear hout hcl hown hfr hbr hp h92
          generalize hpn : (p.toNat : Int) = pn at *
          have HPN := Lib.hid hpn; clear hpn
          go_wp2_with (at_builtin; refine wpList_append_fits _ rfl _ _ 22 rfl 0 5 i0 1 Tryd.underlying22 hi0 hz1 B outs.length n (byteVals outs) rfl (HOWN.out.alloc _) ⟨wr.heap.size, 0, none⟩ 1 1 [.int .u8 pn] rfl rfl (cell_one_new _ _ _) (ints_oneCell .u8 [pn]) (by omega) ?_; intro w4 hown' hgr'; have HOWNw4 := Lib.hid hown'; have HGRw4 := Lib.hid hgr'; clear hown' hgr')
          go_roundw
          case rel => exact ⟨k + 1, outs ++ [p], by go_num, by simp, own_snoc HOWNw4.out rfl p HPN.out.symm, by simp; omega, by omega, by simpa [List.append_assoc] using HOUT.out, HCLO.out, (HFR.out.alloc _).grown HGRw4.out (fun g' e => .inr (by injection e with e; rw [← e, HBE.out]; exact Nat.le_refl _))⟩
          case measure => simp [intOf]; omega
      · have h0 : bs.drop k = [] := List.drop_eq_nil_of_le (by omega)
        rw [h0] at hout
        have ho : outs = ereM bs := by simpa [ereM] using hout
        have hat : At wr (some ⟨B, 0, none⟩) (byteVals outs) := At.of_own hown
        have HAT := Lib.hid hat
        have h3 := H3.out.fr hfr (by simp)
        obtain ⟨y0, y1, y2, y3, y4, y5, z0, z1, z2, z3, z4, z5⟩ := h3.sixc
        have H3' := Lib.hid h3; have HFR := Lib.hid hfr; have HO := Lib.hid ho
        clear hout hown hfr h0 hat h3 ho hcl
        go_wp2_with (refine wpList_str rfl 22 9 (.tmp 54) rfl 5 Tryd.underlying22 Tryd.underlying5 Tryd.underlying9 (some ⟨B, 0, none⟩) outs.length n (by first | rfl | (simp [Act.eval]; done)) outs HAT.out rfl ?_)
        refine body_gen fun V hV => ?_
        have hb4 : Bk V w.heap.size 43 #[.int .i64 4, .int .i64 (i : Int), .string ⟨outs.toArray⟩, .bool false, .int .u64 0, .int .u64 0] := by rw [hV]; exact H3'.out.six _ _ _ _ _ _
        have hf4 : Fr [w.heap.size] wr V := by rw [hV]; exact (Fr.refl _ _).six (.inl (by simp)) _ _ _ _ _ _
        clear hV
        obtain ⟨k0, k1, k2, k3, k4, k5, -⟩ := hb4.sixc
        refine bodyPost_ret (v := .tuple #[tokV 4 i outs 0, .nilIface]) (by unfold tokV; simp [results, Tryd.results33, go_sem, k0, k1, k2, k3, k4, k5]) rfl ?_
        rw [HQ.out]
        exact ⟨by rw [HO.out], (HR.out.fr_nil HFR.out).fr_far hf4 (by simpa using hgl), (HFW.out.nil_.trans (HF.out.trans HFR.out.nil_)).trans' hf4 (by simp)⟩
end Go.Proofs.YtjfgopihfgljmaaDoor
