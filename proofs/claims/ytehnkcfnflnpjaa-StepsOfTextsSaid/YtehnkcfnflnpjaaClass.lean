/-
  The walks over charset.both and charset.Class. No conditions.
-/
import Derived.Test.YtehnkcfnflnpjaaEsc
import Derived.Deep.RegionWith
namespace Go.Proofs.Ytehnkcfnflnpjaa
open Go.RowKit
set_option linter.unusedVariables false
set_option linter.unusedSimpArgs false

def S4.both (a b c d : Nat) : S4 := (S4.range a b).or (S4.range c d)
theorem S4.both_ok (a b c d : Nat) : (S4.both a b c d).ok := S4.or_ok (S4.range_ok _ _) (S4.range_ok _ _)

theorem four_set {w0 w : World} {g : Nat} {t : TypeId} (a b c d : Value) (h : Fr [] w0 w) (hg : w0.heap.size ≤ g) : Fr [] w0 ((((w.setCell ⟨g, 0, none⟩ a).setCell ⟨g, 1, none⟩ b).setCell ⟨g, 2, none⟩ c).setCell ⟨g, 3, none⟩ d) :=
  (((h.setCell (.inr hg) _).setCell (.inr hg) _).setCell (.inr hg) _).setCell (.inr hg) _

theorem both_any (a b c d : Nat) (w : World) (ha : a < 256) (hb : b < 256) (hc : c < 256) (hd : d < 256) :
    Calls Try.prog 57 #[.int .u8 (a : Int), .int .u8 (b : Int), .int .u8 (c : Int), .int .u8 (d : Int)] w fun e w' => e = .returned (S4.both a b c d).val ∧ Fr [] w w' := by
  go_enter Try.func57, Try.ntmps57
  go_wp2_with fail
  refine (range_any a b _ ha hb).mono ?_
  rintro e w1 ⟨rfl, hf1⟩
  go_wp2_with fail
  refine (range_any c d _ hc hd).mono ?_
  rintro e w2 ⟨rfl, hf2⟩
  go_wp2_with fail
  refine (or_any _ _ _ (S4.range_ok _ _) (S4.range_ok _ _)).mono ?_
  rintro e w3 ⟨rfl, hf3⟩
  have hf : Fr [] (w.alloc (.cells S4.empty.cells 26)) w3 := (hf1.trans hf2).trans hf3
  have hk : Bk w3 w.heap.size 26 S4.empty.cells := (Bk.new w _ _).fr hf (by simp)
  have hw : Fr [] w w3 := ((Fr.refl [] w).alloc _).trans hf
  obtain ⟨⟨k0, k1, k2, k3⟩, z0, z1, z2, z3⟩ := S4.four hk
  generalize hR : (S4.range a b).or (S4.range c d) = R at *
  have HW := Lib.hid hw; have HR := Lib.hid hR
  clear hf hk hw hf1 hf2 hf3 hR
  unfold S4.val
  go_wp2_with fail
  exact bodyPost_ret (v := R.val) (by simp [results, Try.results57, go_sem, k0, k1, k2, k3, S4.val]) rfl ⟨by rw [← HR.out]; rfl, four_set (t := 0) _ _ _ _ HW.out (Nat.le_refl _)⟩

theorem class_xdigit (w : World) : Calls Try.prog 50 #[.string ⟨#[120, 100, 105, 103, 105, 116]⟩] w fun e w' => e = .returned (.tuple #[(S4.or (S4.range 48 57) (S4.both 65 70 97 102)).val, .bool true]) ∧ Fr [] w w' := by
  go_enter Try.func50, Try.ntmps50
  go_wp2_with fail
  refine (range_any 48 57 _ (by omega) (by omega)).mono ?_
  rintro e w2 ⟨rfl, hf2⟩
  go_wp2_with fail
  refine (both_any 65 70 97 102 _ (by omega) (by omega) (by omega) (by omega)).mono ?_
  rintro e w3 ⟨rfl, hf3⟩
  go_wp2_with fail
  refine (or_any _ _ _ (S4.range_ok _ _) (S4.both_ok _ _ _ _)).mono ?_
  rintro e w1 ⟨rfl, hf1⟩
  have hf := (hf2.trans hf3).trans hf1
  clear hf1 hf2 hf3
  have hk : Bk w1 w.heap.size 26 S4.empty.cells := (Bk.new w _ _).fr hf (by simp)
  have hw : Fr [] w w1 := ((Fr.refl [] w).alloc _).trans hf
  obtain ⟨⟨k0, k1, k2, k3⟩, z0, z1, z2, z3⟩ := S4.four hk
  generalize hR : (S4.or (S4.range 48 57) (S4.both 65 70 97 102)) = R at *
  have HW := Lib.hid hw; have HR := Lib.hid hR
  clear hf hk hw hR
  unfold S4.val
  go_wp2_with fail
  exact bodyPost_ret (v := .tuple #[R.val, .bool true]) (by simp [results, Try.results50, go_sem, k0, k1, k2, k3, S4.val]) rfl ⟨by rw [← HR.out], four_set (t := 0) _ _ _ _ HW.out (Nat.le_refl _)⟩

theorem class_digit (w : World) : Calls Try.prog 50 #[.string ⟨#[100, 105, 103, 105, 116]⟩] w fun e w' => e = .returned (.tuple #[(S4.range 48 57).val, .bool true]) ∧ Fr [] w w' := by
  go_enter Try.func50, Try.ntmps50
  go_wp2_with fail
  refine (range_any 48 57 _ (by omega) (by omega)).mono ?_
  rintro e w1 ⟨rfl, hf⟩
  have hk : Bk w1 w.heap.size 26 S4.empty.cells := (Bk.new w _ _).fr hf (by simp)
  have hw : Fr [] w w1 := ((Fr.refl [] w).alloc _).trans hf
  obtain ⟨⟨k0, k1, k2, k3⟩, z0, z1, z2, z3⟩ := S4.four hk
  generalize hR : (S4.range 48 57) = R at *
  have HW := Lib.hid hw; have HR := Lib.hid hR
  clear hf hk hw hR
  unfold S4.val
  go_wp2_with fail
  exact bodyPost_ret (v := .tuple #[R.val, .bool true]) (by simp [results, Try.results50, go_sem, k0, k1, k2, k3, S4.val]) rfl ⟨by rw [← HR.out], four_set (t := 0) _ _ _ _ HW.out (Nat.le_refl _)⟩

theorem class_upper (w : World) : Calls Try.prog 50 #[.string ⟨#[117, 112, 112, 101, 114]⟩] w fun e w' => e = .returned (.tuple #[(S4.range 65 90).val, .bool true]) ∧ Fr [] w w' := by
  go_enter Try.func50, Try.ntmps50
  go_wp2_with fail
  refine (range_any 65 90 _ (by omega) (by omega)).mono ?_
  rintro e w1 ⟨rfl, hf⟩
  have hk : Bk w1 w.heap.size 26 S4.empty.cells := (Bk.new w _ _).fr hf (by simp)
  have hw : Fr [] w w1 := ((Fr.refl [] w).alloc _).trans hf
  obtain ⟨⟨k0, k1, k2, k3⟩, z0, z1, z2, z3⟩ := S4.four hk
  generalize hR : (S4.range 65 90) = R at *
  have HW := Lib.hid hw; have HR := Lib.hid hR
  clear hf hk hw hR
  unfold S4.val
  go_wp2_with fail
  exact bodyPost_ret (v := .tuple #[R.val, .bool true]) (by simp [results, Try.results50, go_sem, k0, k1, k2, k3, S4.val]) rfl ⟨by rw [← HR.out], four_set (t := 0) _ _ _ _ HW.out (Nat.le_refl _)⟩

theorem class_lower (w : World) : Calls Try.prog 50 #[.string ⟨#[108, 111, 119, 101, 114]⟩] w fun e w' => e = .returned (.tuple #[(S4.range 97 122).val, .bool true]) ∧ Fr [] w w' := by
  go_enter Try.func50, Try.ntmps50
  go_wp2_with fail
  refine (range_any 97 122 _ (by omega) (by omega)).mono ?_
  rintro e w1 ⟨rfl, hf⟩
  have hk : Bk w1 w.heap.size 26 S4.empty.cells := (Bk.new w _ _).fr hf (by simp)
  have hw : Fr [] w w1 := ((Fr.refl [] w).alloc _).trans hf
  obtain ⟨⟨k0, k1, k2, k3⟩, z0, z1, z2, z3⟩ := S4.four hk
  generalize hR : (S4.range 97 122) = R at *
  have HW := Lib.hid hw; have HR := Lib.hid hR
  clear hf hk hw hR
  unfold S4.val
  go_wp2_with fail
  exact bodyPost_ret (v := .tuple #[R.val, .bool true]) (by simp [results, Try.results50, go_sem, k0, k1, k2, k3, S4.val]) rfl ⟨by rw [← HR.out], four_set (t := 0) _ _ _ _ HW.out (Nat.le_refl _)⟩

theorem class_space (w : World) : Calls Try.prog 50 #[.string ⟨#[115, 112, 97, 99, 101]⟩] w fun e w' => e = .returned (.tuple #[(S4.both 9 13 32 32).val, .bool true]) ∧ Fr [] w w' := by
  go_enter Try.func50, Try.ntmps50
  go_wp2_with fail
  refine (both_any 9 13 32 32 _ (by omega) (by omega) (by omega) (by omega)).mono ?_
  rintro e w1 ⟨rfl, hf⟩
  have hk : Bk w1 w.heap.size 26 S4.empty.cells := (Bk.new w _ _).fr hf (by simp)
  have hw : Fr [] w w1 := ((Fr.refl [] w).alloc _).trans hf
  obtain ⟨⟨k0, k1, k2, k3⟩, z0, z1, z2, z3⟩ := S4.four hk
  generalize hR : (S4.both 9 13 32 32) = R at *
  have HW := Lib.hid hw; have HR := Lib.hid hR
  clear hf hk hw hR
  unfold S4.val
  go_wp2_with fail
  exact bodyPost_ret (v := .tuple #[R.val, .bool true]) (by simp [results, Try.results50, go_sem, k0, k1, k2, k3, S4.val]) rfl ⟨by rw [← HR.out], four_set (t := 0) _ _ _ _ HW.out (Nat.le_refl _)⟩

theorem class_blank (w : World) : Calls Try.prog 50 #[.string ⟨#[98, 108, 97, 110, 107]⟩] w fun e w' => e = .returned (.tuple #[(S4.both 9 9 32 32).val, .bool true]) ∧ Fr [] w w' := by
  go_enter Try.func50, Try.ntmps50
  go_wp2_with fail
  refine (both_any 9 9 32 32 _ (by omega) (by omega) (by omega) (by omega)).mono ?_
  rintro e w1 ⟨rfl, hf⟩
  have hk : Bk w1 w.heap.size 26 S4.empty.cells := (Bk.new w _ _).fr hf (by simp)
  have hw : Fr [] w w1 := ((Fr.refl [] w).alloc _).trans hf
  obtain ⟨⟨k0, k1, k2, k3⟩, z0, z1, z2, z3⟩ := S4.four hk
  generalize hR : (S4.both 9 9 32 32) = R at *
  have HW := Lib.hid hw; have HR := Lib.hid hR
  clear hf hk hw hR
  unfold S4.val
  go_wp2_with fail
  exact bodyPost_ret (v := .tuple #[R.val, .bool true]) (by simp [results, Try.results50, go_sem, k0, k1, k2, k3, S4.val]) rfl ⟨by rw [← HR.out], four_set (t := 0) _ _ _ _ HW.out (Nat.le_refl _)⟩

theorem class_print (w : World) : Calls Try.prog 50 #[.string ⟨#[112, 114, 105, 110, 116]⟩] w fun e w' => e = .returned (.tuple #[(S4.range 32 126).val, .bool true]) ∧ Fr [] w w' := by
  go_enter Try.func50, Try.ntmps50
  go_wp2_with fail
  refine (range_any 32 126 _ (by omega) (by omega)).mono ?_
  rintro e w1 ⟨rfl, hf⟩
  have hk : Bk w1 w.heap.size 26 S4.empty.cells := (Bk.new w _ _).fr hf (by simp)
  have hw : Fr [] w w1 := ((Fr.refl [] w).alloc _).trans hf
  obtain ⟨⟨k0, k1, k2, k3⟩, z0, z1, z2, z3⟩ := S4.four hk
  generalize hR : (S4.range 32 126) = R at *
  have HW := Lib.hid hw; have HR := Lib.hid hR
  clear hf hk hw hR
  unfold S4.val
  go_wp2_with fail
  exact bodyPost_ret (v := .tuple #[R.val, .bool true]) (by simp [results, Try.results50, go_sem, k0, k1, k2, k3, S4.val]) rfl ⟨by rw [← HR.out], four_set (t := 0) _ _ _ _ HW.out (Nat.le_refl _)⟩

theorem class_graph (w : World) : Calls Try.prog 50 #[.string ⟨#[103, 114, 97, 112, 104]⟩] w fun e w' => e = .returned (.tuple #[(S4.range 33 126).val, .bool true]) ∧ Fr [] w w' := by
  go_enter Try.func50, Try.ntmps50
  go_wp2_with fail
  refine (range_any 33 126 _ (by omega) (by omega)).mono ?_
  rintro e w1 ⟨rfl, hf⟩
  have hk : Bk w1 w.heap.size 26 S4.empty.cells := (Bk.new w _ _).fr hf (by simp)
  have hw : Fr [] w w1 := ((Fr.refl [] w).alloc _).trans hf
  obtain ⟨⟨k0, k1, k2, k3⟩, z0, z1, z2, z3⟩ := S4.four hk
  generalize hR : (S4.range 33 126) = R at *
  have HW := Lib.hid hw; have HR := Lib.hid hR
  clear hf hk hw hR
  unfold S4.val
  go_wp2_with fail
  exact bodyPost_ret (v := .tuple #[R.val, .bool true]) (by simp [results, Try.results50, go_sem, k0, k1, k2, k3, S4.val]) rfl ⟨by rw [← HR.out], four_set (t := 0) _ _ _ _ HW.out (Nat.le_refl _)⟩

theorem class_cntrl (w : World) : Calls Try.prog 50 #[.string ⟨#[99, 110, 116, 114, 108]⟩] w fun e w' => e = .returned (.tuple #[(S4.both 0 31 127 127).val, .bool true]) ∧ Fr [] w w' := by
  go_enter Try.func50, Try.ntmps50
  go_wp2_with fail
  refine (both_any 0 31 127 127 _ (by omega) (by omega) (by omega) (by omega)).mono ?_
  rintro e w1 ⟨rfl, hf⟩
  have hk : Bk w1 w.heap.size 26 S4.empty.cells := (Bk.new w _ _).fr hf (by simp)
  have hw : Fr [] w w1 := ((Fr.refl [] w).alloc _).trans hf
  obtain ⟨⟨k0, k1, k2, k3⟩, z0, z1, z2, z3⟩ := S4.four hk
  generalize hR : (S4.both 0 31 127 127) = R at *
  have HW := Lib.hid hw; have HR := Lib.hid hR
  clear hf hk hw hR
  unfold S4.val
  go_wp2_with fail
  exact bodyPost_ret (v := .tuple #[R.val, .bool true]) (by simp [results, Try.results50, go_sem, k0, k1, k2, k3, S4.val]) rfl ⟨by rw [← HR.out], four_set (t := 0) _ _ _ _ HW.out (Nat.le_refl _)⟩

end Go.Proofs.Ytehnkcfnflnpjaa
