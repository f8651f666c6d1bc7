/-
  The lexer's numbers: scan. No conditions on the program.
-/
import Derived.Test.YtjfgopihfgljmaaDoorLex7
namespace Go.Proofs.YtjfgopihfgljmaaDoor
open Go.RowKit
set_option linter.unusedVariables false
set_option linter.unusedSimpArgs false

def wholeM (bs : List UInt8) : List UInt8 := bs.takeWhile digM
def behM (bs : List UInt8) : List UInt8 := match bs.drop (bs.takeWhile digM).length with
  | [] => []
  | c :: r => if c.toNat = 46 then r.takeWhile digM else []
/-- What 'scan' answers. -/
def ScanPost (w : World) (A : Option Addr) (bs : List UInt8) (e : Ending) (w' : World) : Prop :=
  ∃ X1 c1 X2 c2, e = .returned (.agg #[.bool false, .slice X1 (wholeM bs).length c1, .slice X2 (behM bs).length c2, .int .i64 (numM bs : Int)]) ∧ Bytes w' X1 (wholeM bs) ∧ Bytes w' X2 (behM bs) ∧
    (wholeM bs).length ≤ c1 ∧ (X1 = none → c1 = 0) ∧ (∀ b, X1 = some b → ∃ a', A = some a' ∧ b.block = a'.block) ∧ (∀ b, X2 = some b → ∃ a', A = some a' ∧ b.block = a'.block) ∧ Fr [] w w'
set_option maxRecDepth 100000 in
set_option maxHeartbeats 4000000 in
theorem scan_any {w : World} {A : Option Addr} {bs : List UInt8} {n cc : Nat} (h : Bytes w A bs) (hn : bs.length = n) (hc : n ≤ cc) (hA : A = none → cc = 0) (hl : bs.length ≤ 100000000) (hne : 0 < bs.length) (h46 : 46 ≤ (bs.getD 0 0).toNat) (hpos : 0 < (wholeM bs).length + (behM bs).length) :
    Calls Tryd.prog 48 #[.slice A n cc] w (ScanPost w A bs) := by
  subst hn
  obtain ⟨i0, hi0, hz0, hz1, hz2⟩ := u8parts
  obtain ⟨a, rfl, hb, e0⟩ := byte_at h hne
  rw [Addr.add_zero'] at e0
  have HB := Lib.hid h; clear h
  obtain ⟨q, hq⟩ : ∃ q, q = (bs.getD 0 0).toNat := ⟨_, rfl⟩
  rw [← hq] at e0 h46
  clear hq
  have g1 : ((q : Int) == 43) = false := by simp; omega
  have g2 : ((q : Int) == 45) = false := by simp; omega
  have hbk := blank_any q h46
  have HBK := Lib.hid hbk; clear hbk
  obtain ⟨k, hk⟩ : ∃ k, k = (wholeM bs).length := ⟨_, rfl⟩
  have hkl : k ≤ bs.length := by rw [hk]; exact (List.takeWhile_sublist _).length_le
  have HC := Lib.hid hc
  go_enter Tryd.func48, Tryd.ntmps48
  go_wp2_with fail
  refine wp_loop_rounds 1 ?_
  rw [rounds_succ]
  go_wp2_with fail
  go_at_call 51
  refine (HBK.out _).mono ?_
  rintro e w1 ⟨rfl, rfl⟩
  go_wp2_with (refine wpList_cut rfl 22 (.tmp 44) (some (.tmp 45)) none none rfl 5 i0 Tryd.underlying22 hi0 hz1 (some a) bs.length cc (by first | rfl | (simp [Act.eval]; done)) (byteVals bs) ((HB.out.alloc _).alloc _) (byteVals_length _) HC.out (by intro h; cases h) 0 bs.length cc (.inr (by first | rfl | (simp [Act.eval]; done))) (.inl ⟨rfl, rfl, rfl⟩) (.inl ⟨rfl, rfl⟩) (by omega) (by omega) (by omega) (by omega) ?_; intro X hX hX0 hXb; have HXA := Lib.hid hX; have HX0 := Lib.hid hX0; have HXB := Lib.hid hXb; clear hX hX0 hXb)
  have hbx := HXA.out
  rw [List.drop_zero, Nat.sub_zero, List.take_of_length_le (by rw [byteVals_length]; exact Nat.le_refl _)] at hbx
  refine (digits_any (bs := bs) hbx rfl HC.out (fun h => by have := HX0.out h; omega) hl).mono ?_
  rintro e w2 ⟨X1, c1, rfl, hb1, hc1, hn1, hx1, rfl⟩
  have hx1' : ∀ b, X1 = some b → ∃ a', some a = some a' ∧ b.block = a'.block := fun b hb' => by
    obtain ⟨a1, ha1, hb1'⟩ := hx1 b hb'
    obtain ⟨a2, ha2, hb2'⟩ := HXB.out a1 ha1
    exact ⟨a2, ha2, hb1'.trans hb2'⟩
  have hb1' : Bytes w X1 (wholeM bs) := by
    rcases hb1 with h | ⟨a1, rfl, hlt, hcs⟩
    · exact .inl h
    · obtain ⟨a2, ha2, hb2'⟩ := hx1' a1 rfl
      injection ha2 with ha2
      have hlt' : a1.block < w.heap.size := by rw [hb2', ← ha2]; exact hb
      refine .inr ⟨a1, rfl, hlt', fun j u hu => ?_⟩
      have hf : Fr [] w _ := ((Fr.refl [] w).alloc (.cells #[.bool false, .slice none 0 0, .slice none 0 0, .int .i64 0] 110)).alloc (.cells #[.bool false, .slice none 0 0, .slice none 0 0, .int .i64 0] 110)
      exact (hf.cell (p := a1.add j) (by rw [blk_add]; exact hlt') (by simp)).symm.trans (hcs j u hu)
  rw [show (bs.takeWhile digM).length = k from hk.symm]
  have hw : (wholeM bs).length = k := hk.symm
  have HB1 := Lib.hid hb1'; have HX1 := Lib.hid hx1'; have HN1 := Lib.hid hn1
  have hc1' : k ≤ c1 := by rw [hk]; exact hc1
  clear hbx hb1 hb1' hx1 hx1' hc1 hn1 HXA HX0 HXB
  by_cases hend : k = bs.length
  · have hbeh : behM bs = [] := by unfold behM; rw [show (bs.takeWhile digM).length = k from hk.symm, List.drop_eq_nil_of_le (by omega)]
    have hnum : numM bs = k := by unfold numM; simp only; rw [show (bs.takeWhile digM).length = k from hk.symm, List.drop_eq_nil_of_le (by omega)]
    have hk0 : ((k : Int) == 0) = false := by rw [hbeh, hw] at hpos; simp at hpos ⊢; omega
    have HBEH := Lib.hid hbeh; have HNUM := Lib.hid hnum
    have HW := Lib.hid hw; have HK := Lib.hid hk; have HEND := Lib.hid hend
    have hge : ¬ k < bs.length := by omega
    clear hbeh hnum hpos hw hk hend
    go_wp2_with fail
    refine bodyPost_ret (v := .agg #[.bool false, .slice X1 k c1, .slice none 0 0, .int .i64 (k : Int)]) (by simp [results, Tryd.results48, go_sem]) rfl ?_
    refine ⟨X1, c1, none, 0, by rw [HBEH.out, HNUM.out, HW.out]; rfl, ?_, by rw [HBEH.out]; exact .inl rfl, by rw [HW.out]; exact hc1', HN1.out, HX1.out, by simp, ((Fr.refl [] w).alloc _).alloc _⟩
    exact (HB1.out.alloc _).alloc _
  · have hlt : k < bs.length := by omega
    obtain ⟨a2, ha2, hb2, e2⟩ := byte_at HB.out hlt
    injection ha2 with ha2; subst ha2
    have hdr : bs.drop (bs.takeWhile digM).length = bs.getD k 0 :: bs.drop (k + 1) := by rw [show (bs.takeWhile digM).length = k from hk.symm]; exact drop_cons_ hlt
    obtain ⟨d, hd⟩ : ∃ d, d = bs.getD k 0 := ⟨_, rfl⟩
    rw [← hd] at e2 hdr
    have e3 : ∀ o1 o2 : Obj, ((w.alloc o1).alloc o2).cell? (a.add k) = some (.int .u8 (d.toNat : Int)) := fun o1 o2 =>
      ((((Fr.refl [] w).alloc o1).alloc o2).cell (p := a.add k) (by rw [blk_add]; exact hb) (by simp)).trans e2
    by_cases h4 : d.toNat = 46
    · have hbeh : behM bs = (bs.drop (k + 1)).takeWhile digM := by unfold behM; rw [hdr]; simp [h4]
      have hnum : numM bs = k + 1 + (behM bs).length := by rw [hbeh]; unfold numM; simp only; rw [hdr]; simp only; rw [if_pos h4, show (bs.takeWhile digM).length = k from hk.symm]
      rw [h4] at e3
      obtain ⟨j, hj⟩ : ∃ j, j = (behM bs).length := ⟨_, rfl⟩
      have hjl : k + 1 + j ≤ bs.length := by rw [hj, hbeh]; have := (List.takeWhile_sublist (l := bs.drop (k + 1)) digM).length_le; simp at this; omega
      have hk0 : ((k : Int) + (j : Int) == 0) = false := by rw [hw, ← hj] at hpos; simp; omega
      have HBEH := Lib.hid hbeh; have HNUM := Lib.hid hnum; have HW := Lib.hid hw; have HJ := Lib.hid hj
      clear hbeh hnum hpos hw hk hend hj hdr hd h4
      go_wp2_with (refine wpList_cut rfl 22 (.tmp 65) (some (.tmp 67)) none none rfl 5 i0 Tryd.underlying22 hi0 hz1 (some a) bs.length cc (by first | rfl | (simp [Act.eval]; done)) (byteVals bs) ((HB.out.alloc _).alloc _) (byteVals_length _) HC.out (by intro h; cases h) (k + 1) bs.length cc (.inr (by first | rfl | (simp [Act.eval]; done))) (.inl ⟨rfl, rfl, rfl⟩) (.inl ⟨rfl, rfl⟩) (by omega) (by omega) (by omega) (by omega) ?_; intro X hX hX0 hXb; have HXA := Lib.hid hX; have HX0 := Lib.hid hX0; have HXB := Lib.hid hXb; clear hX hX0 hXb)
      have hbx := HXA.out
      rw [List.take_of_length_le (by rw [List.length_drop, byteVals_length]; exact Nat.le_refl _)] at hbx
      rw [show (byteVals bs).drop (k + 1) = byteVals (bs.drop (k + 1)) by simp [byteVals, List.map_drop]] at hbx
      refine (digits_any (bs := bs.drop (k + 1)) hbx (by simp) (by omega) (fun h => by have := HX0.out h; omega) (by simp; omega)).mono ?_
      rintro e w2 ⟨X2, c2, rfl, hb3, hc2, hn2, hx2, rfl⟩
      rw [← HBEH.out, ← HJ.out]
      have hx2' : ∀ b, X2 = some b → ∃ a', some a = some a' ∧ b.block = a'.block := fun b hb' => by
        obtain ⟨a1, ha1, hb1'⟩ := hx2 b hb'
        obtain ⟨a2, ha2, hb2'⟩ := HXB.out a1 ha1
        exact ⟨a2, ha2, hb1'.trans hb2'⟩
      have hb3' : Bytes w X2 (behM bs) := by
        rw [← HBEH.out] at hb3
        rcases hb3 with h | ⟨a1, rfl, hlt, hcs⟩
        · exact .inl h
        · obtain ⟨a2, ha2, hb2'⟩ := hx2' a1 rfl
          injection ha2 with ha2
          have hlt' : a1.block < w.heap.size := by rw [hb2', ← ha2]; exact hb
          refine .inr ⟨a1, rfl, hlt', fun j u hu => ?_⟩
          have hf : Fr [] w _ := ((Fr.refl [] w).alloc (.cells #[.bool false, .slice none 0 0, .slice none 0 0, .int .i64 0] 110)).alloc (.cells #[.bool false, .slice X1 k c1, .slice none 0 0, .int .i64 0] 110)
          exact (hf.cell (p := a1.add j) (by rw [blk_add]; exact hlt') (by simp)).symm.trans (hcs j u hu)
      have HB3 := Lib.hid hb3'; have HX2 := Lib.hid hx2'
      clear hbx hb3 hb3' hx2 hx2' hc2 hn2 HXA HX0 HXB
      go_wp2_with fail
      refine bodyPost_ret (v := .agg #[.bool false, .slice X1 k c1, .slice X2 j c2, .int .i64 ((k : Int) + (1 + (j : Int)))]) (by simp [results, Tryd.results48, go_sem]) rfl ?_
      have hnn : ((numM bs : Nat) : Int) = (k : Int) + (1 + (j : Int)) := by rw [HNUM.out, ← HJ.out]; omega
      refine ⟨X1, c1, X2, c2, by rw [hnn, HW.out, ← HJ.out], ?_, ?_, by rw [HW.out]; exact hc1', HN1.out, HX1.out, HX2.out, ((Fr.refl [] w).alloc _).alloc _⟩
      · exact (HB1.out.alloc _).alloc _
      · exact (HB3.out.alloc _).alloc _
    · have hbeh : behM bs = [] := by unfold behM; rw [hdr]; simp [h4]
      have hnum : numM bs = k := by unfold numM; simp only; rw [hdr]; simp only; rw [if_neg h4]; exact hk.symm
      have hk0 : ((k : Int) == 0) = false := by rw [hbeh, hw] at hpos; simp at hpos ⊢; omega
      have g4 : ((d.toNat : Int) == 46) = false := by simp; omega
      have HBEH := Lib.hid hbeh; have HNUM := Lib.hid hnum; have HW := Lib.hid hw
      clear hbeh hnum hpos hw hk hend hdr hd h4
      generalize d.toNat = p at *
      go_wp2_with fail
      refine bodyPost_ret (v := .agg #[.bool false, .slice X1 k c1, .slice none 0 0, .int .i64 (k : Int)]) (by simp [results, Tryd.results48, go_sem]) rfl ?_
      refine ⟨X1, c1, none, 0, by rw [HBEH.out, HNUM.out, HW.out]; rfl, ?_, by rw [HBEH.out]; exact .inl rfl, by rw [HW.out]; exact hc1', HN1.out, HX1.out, by simp, ((Fr.refl [] w).alloc _).alloc _⟩
      exact (HB1.out.alloc _).alloc _
end Go.Proofs.YtjfgopihfgljmaaDoor
