/-
 Class, Class2: several small texts in one. No conditions.
-/
import Derived.Test.YtfbmogccmlikaaaGreatDoorGc
import Derived.Deep.RegionWith
namespace Go.Proofs.YtfbmogccmlikaaaGreatDoor
open Go.RowKit
set_option linter.unusedVariables false
set_option linter.unusedSimpArgs false
def S4.both (a b c d : Nat) : S4 := (S4.range a b).or (S4.range c d)
theorem S4.both_ok (a b c d : Nat) : (S4.both a b c d).ok := S4.or_ok (S4.range_ok _ _) (S4.range_ok _ _)
theorem four_set {w0 w : World} {g : Nat} {t : TypeId} (a b c d : Value) (h : Fr [] w0 w) (hg : w0.heap.size ≤ g) : Fr [] w0 ((((w.setCell ⟨g, 0, none⟩ a).setCell ⟨g, 1, none⟩ b).setCell ⟨g, 2, none⟩ c).setCell ⟨g, 3, none⟩ d) :=
 (((h.setCell (.inr hg) _).setCell (.inr hg) _).setCell (.inr hg) _).setCell (.inr hg) _
theorem both_any (a b c d : Nat) (w : World) (ha : a < 256) (hb : b < 256) (hc : c < 256) (hd : d < 256) :
    Calls Tryz.prog 107 #[.int .u8 (a : Int), .int .u8 (b : Int), .int .u8 (c : Int), .int .u8 (d : Int)] w fun e w' => e = .returned (S4.both a b c d).val ∧ Fr [] w w' := by
 go_enter Tryz.func107, Tryz.ntmps107
 go_wp2_with fail
 refine (range_any a b _ ha hb).mono ?_
 rintro e w1 ⟨rfl, hf1⟩
 go_wp2_with fail
 refine (range_any c d _ hc hd).mono ?_
 rintro e w2 ⟨rfl, hf2⟩
 go_wp2_with fail
 refine (or_any _ _ _ (S4.range_ok _ _) (S4.range_ok _ _)).mono ?_
 rintro e w3 ⟨rfl, hf3⟩
 have hf : Fr [] (w.alloc (.cells S4.empty.cells 101)) w3 := (hf1.trans hf2).trans hf3
 have hk : Bk w3 w.heap.size 101 S4.empty.cells := (Bk.new w _ _).fr hf (by simp)
 have hw : Fr [] w w3 := ((Fr.refl [] w).alloc _).trans hf
 obtain ⟨⟨k0, k1, k2, k3⟩, z0, z1, z2, z3⟩ := S4.four hk
 generalize hR : (S4.range a b).or (S4.range c d) = R at *
 have HW := Lib.hid hw; have HR := Lib.hid hR
 clear hf hk hw hf1 hf2 hf3 hR
 unfold S4.val
 go_wp2_with fail
 exact bodyPost_ret (v := R.val) (by simp [results, Tryz.results107, go_sem, k0, k1, k2, k3, S4.val]) rfl ⟨by rw [← HR.out]; rfl, four_set (t := 0) _ _ _ _ HW.out (Nat.le_refl _)⟩
theorem class_xdigit (w : World) : Calls Tryz.prog 105 #[.string ⟨#[120, 100, 105, 103, 105, 116]⟩] w fun e w' => e = .returned (.tuple #[(S4.or (S4.range 48 57) (S4.both 65 70 97 102)).val, .bool true]) ∧ Fr [] w w' := by
 go_enter Tryz.func105, Tryz.ntmps105
 go_wp2_with fail
 refine (range_any 48 57 _ (by omega) (by omega)).mono ?_
 rintro e w2 ⟨rfl, hf2⟩
 go_wp2_with fail
 refine (both_any 65 70 97 102 _ (by omega) (by omega) (by omega) (by omega)).mono ?_
 rintro e w3 ⟨rfl, hf3⟩
 go_wp2_with fail
 refine (or_any _ _ _ (S4.range_ok _ _) (S4.both_ok _ _ _ _)).mono ?_
 rintro e w1 ⟨rfl, hf1⟩
 have hf := (hf2.trans hf3).trans hf1
 clear hf1 hf2 hf3
 have hk : Bk w1 w.heap.size 101 S4.empty.cells := (Bk.new w _ _).fr hf (by simp)
 have hw : Fr [] w w1 := ((Fr.refl [] w).alloc _).trans hf
 obtain ⟨⟨k0, k1, k2, k3⟩, z0, z1, z2, z3⟩ := S4.four hk
 generalize hR : (S4.or (S4.range 48 57) (S4.both 65 70 97 102)) = R at *
 have HW := Lib.hid hw; have HR := Lib.hid hR
 clear hf hk hw hR
 unfold S4.val
 go_wp2_with fail
 exact bodyPost_ret (v := .tuple #[R.val, .bool true]) (by simp [results, Tryz.results105, go_sem, k0, k1, k2, k3, S4.val]) rfl ⟨by rw [← HR.out], four_set (t := 0) _ _ _ _ HW.out (Nat.le_refl _)⟩
theorem class_digit (w : World) : Calls Tryz.prog 105 #[.string ⟨#[100, 105, 103, 105, 116]⟩] w fun e w' => e = .returned (.tuple #[(S4.range 48 57).val, .bool true]) ∧ Fr [] w w' := by
 go_enter Tryz.func105, Tryz.ntmps105
 go_wp2_with fail
 refine (range_any 48 57 _ (by omega) (by omega)).mono ?_
 rintro e w1 ⟨rfl, hf⟩
 have hk : Bk w1 w.heap.size 101 S4.empty.cells := (Bk.new w _ _).fr hf (by simp)
 have hw : Fr [] w w1 := ((Fr.refl [] w).alloc _).trans hf
 obtain ⟨⟨k0, k1, k2, k3⟩, z0, z1, z2, z3⟩ := S4.four hk
 generalize hR : (S4.range 48 57) = R at *
 have HW := Lib.hid hw; have HR := Lib.hid hR
 clear hf hk hw hR
 unfold S4.val
 go_wp2_with fail
 exact bodyPost_ret (v := .tuple #[R.val, .bool true]) (by simp [results, Tryz.results105, go_sem, k0, k1, k2, k3, S4.val]) rfl ⟨by rw [← HR.out], four_set (t := 0) _ _ _ _ HW.out (Nat.le_refl _)⟩
theorem class_upper (w : World) : Calls Tryz.prog 105 #[.string ⟨#[117, 112, 112, 101, 114]⟩] w fun e w' => e = .returned (.tuple #[(S4.range 65 90).val, .bool true]) ∧ Fr [] w w' := by
 go_enter Tryz.func105, Tryz.ntmps105
 go_wp2_with fail
 refine (range_any 65 90 _ (by omega) (by omega)).mono ?_
 rintro e w1 ⟨rfl, hf⟩
 have hk : Bk w1 w.heap.size 101 S4.empty.cells := (Bk.new w _ _).fr hf (by simp)
 have hw : Fr [] w w1 := ((Fr.refl [] w).alloc _).trans hf
 obtain ⟨⟨k0, k1, k2, k3⟩, z0, z1, z2, z3⟩ := S4.four hk
 generalize hR : (S4.range 65 90) = R at *
 have HW := Lib.hid hw; have HR := Lib.hid hR
 clear hf hk hw hR
 unfold S4.val
 go_wp2_with fail
 exact bodyPost_ret (v := .tuple #[R.val, .bool true]) (by simp [results, Tryz.results105, go_sem, k0, k1, k2, k3, S4.val]) rfl ⟨by rw [← HR.out], four_set (t := 0) _ _ _ _ HW.out (Nat.le_refl _)⟩
theorem class_lower (w : World) : Calls Tryz.prog 105 #[.string ⟨#[108, 111, 119, 101, 114]⟩] w fun e w' => e = .returned (.tuple #[(S4.range 97 122).val, .bool true]) ∧ Fr [] w w' := by
 go_enter Tryz.func105, Tryz.ntmps105
 go_wp2_with fail
 refine (range_any 97 122 _ (by omega) (by omega)).mono ?_
 rintro e w1 ⟨rfl, hf⟩
 have hk : Bk w1 w.heap.size 101 S4.empty.cells := (Bk.new w _ _).fr hf (by simp)
 have hw : Fr [] w w1 := ((Fr.refl [] w).alloc _).trans hf
 obtain ⟨⟨k0, k1, k2, k3⟩, z0, z1, z2, z3⟩ := S4.four hk
 generalize hR : (S4.range 97 122) = R at *
 have HW := Lib.hid hw; have HR := Lib.hid hR
 clear hf hk hw hR
 unfold S4.val
 go_wp2_with fail
 exact bodyPost_ret (v := .tuple #[R.val, .bool true]) (by simp [results, Tryz.results105, go_sem, k0, k1, k2, k3, S4.val]) rfl ⟨by rw [← HR.out], four_set (t := 0) _ _ _ _ HW.out (Nat.le_refl _)⟩
theorem class_space (w : World) : Calls Tryz.prog 105 #[.string ⟨#[115, 112, 97, 99, 101]⟩] w fun e w' => e = .returned (.tuple #[(S4.both 9 13 32 32).val, .bool true]) ∧ Fr [] w w' := by
 go_enter Tryz.func105, Tryz.ntmps105
 go_wp2_with fail
 refine (both_any 9 13 32 32 _ (by omega) (by omega) (by omega) (by omega)).mono ?_
 rintro e w1 ⟨rfl, hf⟩
 have hk : Bk w1 w.heap.size 101 S4.empty.cells := (Bk.new w _ _).fr hf (by simp)
 have hw : Fr [] w w1 := ((Fr.refl [] w).alloc _).trans hf
 obtain ⟨⟨k0, k1, k2, k3⟩, z0, z1, z2, z3⟩ := S4.four hk
 generalize hR : (S4.both 9 13 32 32) = R at *
 have HW := Lib.hid hw; have HR := Lib.hid hR
 clear hf hk hw hR
 unfold S4.val
 go_wp2_with fail
 exact bodyPost_ret (v := .tuple #[R.val, .bool true]) (by simp [results, Tryz.results105, go_sem, k0, k1, k2, k3, S4.val]) rfl ⟨by rw [← HR.out], four_set (t := 0) _ _ _ _ HW.out (Nat.le_refl _)⟩
theorem class_blank (w : World) : Calls Tryz.prog 105 #[.string ⟨#[98, 108, 97, 110, 107]⟩] w fun e w' => e = .returned (.tuple #[(S4.both 9 9 32 32).val, .bool true]) ∧ Fr [] w w' := by
 go_enter Tryz.func105, Tryz.ntmps105
 go_wp2_with fail
 refine (both_any 9 9 32 32 _ (by omega) (by omega) (by omega) (by omega)).mono ?_
 rintro e w1 ⟨rfl, hf⟩
 have hk : Bk w1 w.heap.size 101 S4.empty.cells := (Bk.new w _ _).fr hf (by simp)
 have hw : Fr [] w w1 := ((Fr.refl [] w).alloc _).trans hf
 obtain ⟨⟨k0, k1, k2, k3⟩, z0, z1, z2, z3⟩ := S4.four hk
 generalize hR : (S4.both 9 9 32 32) = R at *
 have HW := Lib.hid hw; have HR := Lib.hid hR
 clear hf hk hw hR
 unfold S4.val
 go_wp2_with fail
 exact bodyPost_ret (v := .tuple #[R.val, .bool true]) (by simp [results, Tryz.results105, go_sem, k0, k1, k2, k3, S4.val]) rfl ⟨by rw [← HR.out], four_set (t := 0) _ _ _ _ HW.out (Nat.le_refl _)⟩
theorem class_print (w : World) : Calls Tryz.prog 105 #[.string ⟨#[112, 114, 105, 110, 116]⟩] w fun e w' => e = .returned (.tuple #[(S4.range 32 126).val, .bool true]) ∧ Fr [] w w' := by
 go_enter Tryz.func105, Tryz.ntmps105
 go_wp2_with fail
 refine (range_any 32 126 _ (by omega) (by omega)).mono ?_
 rintro e w1 ⟨rfl, hf⟩
 have hk : Bk w1 w.heap.size 101 S4.empty.cells := (Bk.new w _ _).fr hf (by simp)
 have hw : Fr [] w w1 := ((Fr.refl [] w).alloc _).trans hf
 obtain ⟨⟨k0, k1, k2, k3⟩, z0, z1, z2, z3⟩ := S4.four hk
 generalize hR : (S4.range 32 126) = R at *
 have HW := Lib.hid hw; have HR := Lib.hid hR
 clear hf hk hw hR
 unfold S4.val
 go_wp2_with fail
 exact bodyPost_ret (v := .tuple #[R.val, .bool true]) (by simp [results, Tryz.results105, go_sem, k0, k1, k2, k3, S4.val]) rfl ⟨by rw [← HR.out], four_set (t := 0) _ _ _ _ HW.out (Nat.le_refl _)⟩
theorem class_graph (w : World) : Calls Tryz.prog 105 #[.string ⟨#[103, 114, 97, 112, 104]⟩] w fun e w' => e = .returned (.tuple #[(S4.range 33 126).val, .bool true]) ∧ Fr [] w w' := by
 go_enter Tryz.func105, Tryz.ntmps105
 go_wp2_with fail
 refine (range_any 33 126 _ (by omega) (by omega)).mono ?_
 rintro e w1 ⟨rfl, hf⟩
 have hk : Bk w1 w.heap.size 101 S4.empty.cells := (Bk.new w _ _).fr hf (by simp)
 have hw : Fr [] w w1 := ((Fr.refl [] w).alloc _).trans hf
 obtain ⟨⟨k0, k1, k2, k3⟩, z0, z1, z2, z3⟩ := S4.four hk
 generalize hR : (S4.range 33 126) = R at *
 have HW := Lib.hid hw; have HR := Lib.hid hR
 clear hf hk hw hR
 unfold S4.val
 go_wp2_with fail
 exact bodyPost_ret (v := .tuple #[R.val, .bool true]) (by simp [results, Tryz.results105, go_sem, k0, k1, k2, k3, S4.val]) rfl ⟨by rw [← HR.out], four_set (t := 0) _ _ _ _ HW.out (Nat.le_refl _)⟩
theorem class_cntrl (w : World) : Calls Tryz.prog 105 #[.string ⟨#[99, 110, 116, 114, 108]⟩] w fun e w' => e = .returned (.tuple #[(S4.both 0 31 127 127).val, .bool true]) ∧ Fr [] w w' := by
 go_enter Tryz.func105, Tryz.ntmps105
 go_wp2_with fail
 refine (both_any 0 31 127 127 _ (by omega) (by omega) (by omega) (by omega)).mono ?_
 rintro e w1 ⟨rfl, hf⟩
 have hk : Bk w1 w.heap.size 101 S4.empty.cells := (Bk.new w _ _).fr hf (by simp)
 have hw : Fr [] w w1 := ((Fr.refl [] w).alloc _).trans hf
 obtain ⟨⟨k0, k1, k2, k3⟩, z0, z1, z2, z3⟩ := S4.four hk
 generalize hR : (S4.both 0 31 127 127) = R at *
 have HW := Lib.hid hw; have HR := Lib.hid hR
 clear hf hk hw hR
 unfold S4.val
 go_wp2_with fail
 exact bodyPost_ret (v := .tuple #[R.val, .bool true]) (by simp [results, Tryz.results105, go_sem, k0, k1, k2, k3, S4.val]) rfl ⟨by rw [← HR.out], four_set (t := 0) _ _ _ _ HW.out (Nat.le_refl _)⟩
end Go.Proofs.YtfbmogccmlikaaaGreatDoor
namespace Go.Proofs.YtfbmogccmlikaaaGreatDoor
open Go.RowKit
set_option linter.unusedVariables false
set_option linter.unusedSimpArgs false
theorem code_gen {P : Program} {c : Code} {Q : Exit → Act → World → Prop} {a : Act} {w : World} (h : ∀ W, W = w → c.wp P Q a W) : c.wp P Q a w := h w rfl
theorem class_alpha (w : World) : Calls Tryz.prog 105 #[.string ⟨#[97, 108, 112, 104, 97]⟩] w fun e w' => e = .returned (.tuple #[(S4.or S4.empty (S4.both 65 90 97 122)).val, .bool true]) ∧ Fr [] w w' := by
 go_enter Tryz.func105, Tryz.ntmps105
 go_wp2_with fail
 refine code_gen fun W hW => ?_
 have hk : Bk W w.heap.size 101 S4.empty.cells := by rw [hW]; exact Bk.new w _ _
 have hf : Fr [] w W := by rw [hW]; exact (Fr.refl [] w).alloc _
 obtain ⟨⟨k0, k1, k2, k3⟩, z0, z1, z2, z3⟩ := S4.four hk
 have HK := Lib.hid hk; have HF := Lib.hid hf; clear hk hf hW
 go_region_with (first
  | (go_at_call 107; refine (both_any 65 90 97 122 _ (by omega) (by omega) (by omega) (by omega)).mono ?_; rintro e w2 ⟨rfl, hf2⟩; have HK2 := Lib.hid (HK.out.fr (Fr.trans ((Fr.refl [] W).drew) hf2) (by simp)); have HF2 := Lib.hid (HF.out.trans (Fr.trans ((Fr.refl [] W).drew) hf2)); obtain ⟨⟨j0, j1, j2, j3⟩, y0, y1, y2, y3⟩ := S4.four HK2.out; clear hf2)
  | (go_at_call 101; refine (or_any S4.empty (S4.both 65 90 97 122) _ S4.empty_ok (S4.both_ok _ _ _ _)).mono ?_; rintro e w3 ⟨rfl, hf3⟩; have HK3 := Lib.hid (HK2.out.fr hf3 (by simp)); have HF3 := Lib.hid (HF2.out.trans hf3); obtain ⟨⟨l0, l1, l2, l3⟩, x0, x1, x2, x3⟩ := S4.four HK3.out; clear hf3; unfold S4.val))
 all_goals go_wp2_with fail
 all_goals exact bodyPost_ret (v := .tuple #[(S4.or S4.empty (S4.both 65 90 97 122)).val, .bool true]) (by simp [results, Tryz.results105, go_sem, l0, l1, l2, l3, S4.val]) rfl ⟨rfl, four_set (t := 0) _ _ _ _ HF3.out (Nat.le_refl _)⟩
theorem class_alnum (w : World) : Calls Tryz.prog 105 #[.string ⟨#[97, 108, 110, 117, 109]⟩] w fun e w' => e = .returned (.tuple #[(S4.or (S4.range 48 57) (S4.both 65 90 97 122)).val, .bool true]) ∧ Fr [] w w' := by
 go_enter Tryz.func105, Tryz.ntmps105
 go_wp2_with fail
 refine (range_any 48 57 _ (by omega) (by omega)).mono ?_
 rintro e w1 ⟨rfl, hf1⟩
 have hk1 : Bk w1 w.heap.size 101 S4.empty.cells := (Bk.new w _ _).fr hf1 (by simp)
 have hw1 : Fr [] w w1 := ((Fr.refl [] w).alloc _).trans hf1
 have hlt := hk1.lt
 obtain ⟨⟨k0, k1, k2, k3⟩, z0, z1, z2, z3⟩ := S4.four hk1
 have HK1 := Lib.hid hk1; have HW1 := Lib.hid hw1; clear hk1 hw1 hf1
 unfold S4.val
 go_wp2_with fail
 refine code_gen fun W hW => ?_
 have hk : Bk W w.heap.size 101 (S4.range 48 57).cells := by rw [hW]; exact (((HK1.out.put 0 _).put 1 _).put 2 _).put 3 _
 have hf : Fr [] w W := by rw [hW]; exact four_set (t := 0) _ _ _ _ HW1.out (Nat.le_refl _)
 clear k0 k1 k2 k3 z0 z1 z2 z3
 obtain ⟨⟨k0, k1, k2, k3⟩, z0, z1, z2, z3⟩ := S4.four hk
 have HK := Lib.hid hk; have HF := Lib.hid hf; clear hk hf hW
 go_region_with (first
  | (go_at_call 107; refine (both_any 65 90 97 122 _ (by omega) (by omega) (by omega) (by omega)).mono ?_; rintro e w2 ⟨rfl, hf2⟩; have HK2 := Lib.hid (HK.out.fr (Fr.trans ((Fr.refl [] W).drew) hf2) (by simp)); have HF2 := Lib.hid (HF.out.trans (Fr.trans ((Fr.refl [] W).drew) hf2)); obtain ⟨⟨j0, j1, j2, j3⟩, y0, y1, y2, y3⟩ := S4.four HK2.out; clear hf2)
  | (go_at_call 101; refine (or_any (S4.range 48 57) (S4.both 65 90 97 122) _ (S4.range_ok _ _) (S4.both_ok _ _ _ _)).mono ?_; rintro e w3 ⟨rfl, hf3⟩; have HK3 := Lib.hid (HK2.out.fr hf3 (by simp)); have HF3 := Lib.hid (HF2.out.trans hf3); obtain ⟨⟨l0, l1, l2, l3⟩, x0, x1, x2, x3⟩ := S4.four HK3.out; clear hf3; unfold S4.val))
 all_goals go_wp2_with fail
 all_goals exact bodyPost_ret (v := .tuple #[(S4.or (S4.range 48 57) (S4.both 65 90 97 122)).val, .bool true]) (by simp [results, Tryz.results105, go_sem, l0, l1, l2, l3, S4.val]) rfl ⟨rfl, four_set (t := 0) _ _ _ _ HF3.out (Nat.le_refl _)⟩
set_option maxHeartbeats 2000000 in
theorem class_punct (w : World) : Calls Tryz.prog 105 #[.string ⟨#[112, 117, 110, 99, 116]⟩] w fun e w' => e = .returned (.tuple #[(S4.not (S4.or (S4.not (S4.range 33 126)) (S4.or (S4.range 48 57) (S4.both 65 90 97 122)))).val, .bool true]) ∧ Fr [] w w' := by
 go_enter Tryz.func105, Tryz.ntmps105
 go_wp2_with fail
 refine (class_alnum _).mono ?_
 rintro e w1 ⟨rfl, hf1⟩
 have hk1 : Bk w1 w.heap.size 101 S4.empty.cells := (Bk.new w _ _).fr hf1 (by simp)
 have hw1 : Fr [] w w1 := ((Fr.refl [] w).alloc _).trans hf1
 have hlt := hk1.lt
 obtain ⟨⟨k0, k1, k2, k3⟩, z0, z1, z2, z3⟩ := S4.four hk1
 have HK1 := Lib.hid hk1; have HW1 := Lib.hid hw1; clear hk1 hw1 hf1
 generalize hR : S4.or (S4.range 48 57) (S4.both 65 90 97 122) = R at *
 have hRok : R.ok := by rw [← hR]; exact S4.or_ok (S4.range_ok _ _) (S4.both_ok _ _ _ _)
 have HR := Lib.hid hR; have HRO := Lib.hid hRok; clear hR hRok
 unfold S4.val
 go_wp2_with fail
 refine code_gen fun W hW => ?_
 have hka : Bk W w.heap.size 101 S4.empty.cells := by rw [hW]; exact HK1.out.alloc _
 have hkb : Bk W w1.heap.size 101 R.cells := by rw [hW]; exact Bk.new w1 _ _
 have hf : Fr [] w W := by rw [hW]; exact HW1.out.alloc _
 have hlt2 := hkb.lt
 clear k0 k1 k2 k3 z0 z1 z2 z3
 obtain ⟨⟨k0, k1, k2, k3⟩, -⟩ := S4.four hkb
 have HKA := Lib.hid hka; have HKB := Lib.hid hkb; have HF := Lib.hid hf; clear hka hkb hf hW
 go_region_with (first
  | (go_at_call 96; refine (range_any 33 126 _ (by omega) (by omega)).mono ?_; rintro e w2 ⟨rfl, hf2⟩; have HF2 := Lib.hid (Fr.trans ((Fr.refl [] W).drew) hf2); obtain ⟨⟨j0, j1, j2, j3⟩, -⟩ := S4.four (HKB.out.fr HF2.out (by simp)); clear hf2)
  | (go_at_call 102; ((with_reducible refine (not_any (S4.range 33 126) _ (S4.range_ok _ _)).mono ?_); rintro e w3 ⟨rfl, hf3⟩; have HF3 := Lib.hid (HF2.out.trans hf3); obtain ⟨⟨l0, l1, l2, l3⟩, -⟩ := S4.four (HKB.out.fr HF3.out (by simp)); clear hf3))
  | (go_at_call 101; refine (or_any (S4.not (S4.range 33 126)) R _ (S4.not_ok _) HRO.out).mono ?_; rintro e w4 ⟨rfl, hf4⟩; have HF4 := Lib.hid (HF3.out.trans hf4); clear hf4)
  | (go_at_call 102; ((with_reducible refine (not_any (S4.or (S4.not (S4.range 33 126)) R) _ (S4.or_ok (S4.not_ok _) HRO.out)).mono ?_); rintro e w5 ⟨rfl, hf5⟩; have HF5 := Lib.hid (HF4.out.trans hf5); obtain ⟨⟨m0, m1, m2, m3⟩, y0, y1, y2, y3⟩ := S4.four (HKA.out.fr HF5.out (by simp)); clear hf5; unfold S4.val)))
 all_goals go_wp2_with fail
 all_goals exact bodyPost_ret (v := .tuple #[(S4.not (S4.or (S4.not (S4.range 33 126)) R)).val, .bool true]) (by simp [results, Tryz.results105, go_sem, m0, m1, m2, m3, S4.val]) rfl ⟨by rw [← HR.out], four_set (t := 0) _ _ _ _ (HF.out.trans HF5.out) (Nat.le_refl _)⟩
def classS (l : List UInt8) : Option S4 :=
 if l = [120, 100, 105, 103, 105, 116] then some (S4.or (S4.range 48 57) (S4.both 65 70 97 102))
 else if l = [112, 117, 110, 99, 116] then some (S4.not (S4.or (S4.not (S4.range 33 126)) (S4.or (S4.range 48 57) (S4.both 65 90 97 122))))
 else if l = [97, 108, 110, 117, 109] then some (S4.or (S4.range 48 57) (S4.both 65 90 97 122))
 else if l = [97, 108, 112, 104, 97] then some (S4.or S4.empty (S4.both 65 90 97 122))
 else if l = [100, 105, 103, 105, 116] then some (S4.range 48 57)
 else if l = [117, 112, 112, 101, 114] then some (S4.range 65 90)
 else if l = [108, 111, 119, 101, 114] then some (S4.range 97 122)
 else if l = [115, 112, 97, 99, 101] then some (S4.both 9 13 32 32)
 else if l = [98, 108, 97, 110, 107] then some (S4.both 9 9 32 32)
 else if l = [112, 114, 105, 110, 116] then some (S4.range 32 126)
 else if l = [103, 114, 97, 112, 104] then some (S4.range 33 126)
 else if l = [99, 110, 116, 114, 108] then some (S4.both 0 31 127 127)
 else none
def classV (r : Option S4) : Value := match r with
 | some R => .tuple #[R.val, .bool true]
 | none => .tuple #[S4.empty.val, .bool false]
theorem class_any (l : List UInt8) (hl : l.length ≤ 1000000000) (w : World) : Calls Tryz.prog 105 #[.string ⟨l.toArray⟩] w fun e w' => e = .returned (classV (classS l)) ∧ Fr [] w w' := by
 unfold classS
 by_cases h_xdigit : l = [120, 100, 105, 103, 105, 116]
 ·rw [if_pos h_xdigit]; subst h_xdigit; exact class_xdigit w
 rw [if_neg h_xdigit]
 by_cases h_punct : l = [112, 117, 110, 99, 116]
 ·rw [if_pos h_punct]; subst h_punct; exact class_punct w
 rw [if_neg h_punct]
 by_cases h_alnum : l = [97, 108, 110, 117, 109]
 ·rw [if_pos h_alnum]; subst h_alnum; exact class_alnum w
 rw [if_neg h_alnum]
 by_cases h_alpha : l = [97, 108, 112, 104, 97]
 ·rw [if_pos h_alpha]; subst h_alpha; exact class_alpha w
 rw [if_neg h_alpha]
 by_cases h_digit : l = [100, 105, 103, 105, 116]
 ·rw [if_pos h_digit]; subst h_digit; exact class_digit w
 rw [if_neg h_digit]
 by_cases h_upper : l = [117, 112, 112, 101, 114]
 ·rw [if_pos h_upper]; subst h_upper; exact class_upper w
 rw [if_neg h_upper]
 by_cases h_lower : l = [108, 111, 119, 101, 114]
 ·rw [if_pos h_lower]; subst h_lower; exact class_lower w
 rw [if_neg h_lower]
 by_cases h_space : l = [115, 112, 97, 99, 101]
 ·rw [if_pos h_space]; subst h_space; exact class_space w
 rw [if_neg h_space]
 by_cases h_blank : l = [98, 108, 97, 110, 107]
 ·rw [if_pos h_blank]; subst h_blank; exact class_blank w
 rw [if_neg h_blank]
 by_cases h_print : l = [112, 114, 105, 110, 116]
 ·rw [if_pos h_print]; subst h_print; exact class_print w
 rw [if_neg h_print]
 by_cases h_graph : l = [103, 114, 97, 112, 104]
 ·rw [if_pos h_graph]; subst h_graph; exact class_graph w
 rw [if_neg h_graph]
 by_cases h_cntrl : l = [99, 110, 116, 114, 108]
 ·rw [if_pos h_cntrl]; subst h_cntrl; exact class_cntrl w
 rw [if_neg h_cntrl]
 unfold classV
 have e_xdigit : (l == [120, 100, 105, 103, 105, 116]) = false := by simpa using h_xdigit
 have e_punct : (l == [112, 117, 110, 99, 116]) = false := by simpa using h_punct
 have e_alnum : (l == [97, 108, 110, 117, 109]) = false := by simpa using h_alnum
 have e_alpha : (l == [97, 108, 112, 104, 97]) = false := by simpa using h_alpha
 have e_digit : (l == [100, 105, 103, 105, 116]) = false := by simpa using h_digit
 have e_upper : (l == [117, 112, 112, 101, 114]) = false := by simpa using h_upper
 have e_lower : (l == [108, 111, 119, 101, 114]) = false := by simpa using h_lower
 have e_space : (l == [115, 112, 97, 99, 101]) = false := by simpa using h_space
 have e_blank : (l == [98, 108, 97, 110, 107]) = false := by simpa using h_blank
 have e_print : (l == [112, 114, 105, 110, 116]) = false := by simpa using h_print
 have e_graph : (l == [103, 114, 97, 112, 104]) = false := by simpa using h_graph
 have e_cntrl : (l == [99, 110, 116, 114, 108]) = false := by simpa using h_cntrl
 clear h_xdigit h_punct h_alnum h_alpha h_digit h_upper h_lower h_space h_blank h_print h_graph h_cntrl
 go_enter Tryz.func105, Tryz.ntmps105
 go_wp2_with fail
 exact bodyPost_ret (v := .tuple #[S4.empty.val, .bool false]) (by simp [results, Tryz.results105, go_sem, S4.val, S4.empty]) rfl ⟨rfl, (Fr.refl _ _).alloc _⟩
end Go.Proofs.YtfbmogccmlikaaaGreatDoor
