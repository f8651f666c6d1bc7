/-
  A cutter's Next, its separator one byte. No conditions on the program. (Printed by tools/genrc3.py.)
-/
import Derived.Test.YtecdghjimcfhpaaGreatDoorRc2
namespace Go.Proofs.YtecdghjimcfhpaaGreatDoor
open Go.RowKit
set_option linter.unusedVariables false
set_option linter.unusedSimpArgs false

theorem fst_bounds {c : UInt8} {bs : List UInt8} {en : Bool} {tb nx : Nat} (he : fstM c bs en = (tb, nx, true)) : tb ≤ nx ∧ nx ≤ bs.length := by
  by_cases h : c ∈ bs
  · obtain ⟨a, b, rfl, h2⟩ := cut1 c bs h
    rw [fst_hit c a b h2] at he
    injection he with e1 e2
    injection e2 with e2 e3
    subst e1 e2
    simp
  · rw [fst_miss c bs h] at he
    split at he
    · injection he with e1 e2
      injection e2 with e2 e3
      omega
    · injection he with e1 e2
      injection e2 with e2 e3
      cases e3
set_option maxRecDepth 100000 in
set_option maxHeartbeats 2000000 in
theorem next_ok {w : World} {q : Nat} {x : Cu} {v : Value} (h : CuR w q x v) (hb : x.bs.length ≤ 65536) (tb nx : Nat) (he : fstM x.c x.bs x.en = (tb, nx, true)) :
    Calls Tryz.prog 32 #[.pointer (some ⟨q, 0, none⟩)] w fun e w' => e = .returned (.tuple #[.string ⟨(x.bs.take tb).toArray⟩, .bool true, .nilIface]) ∧ CuTo w q v w' { x with bs := x.bs.drop nx } := by
  obtain ⟨i0, hi0, hz0, hz1, hz2⟩ := u8parts
  obtain ⟨A, cap, rfl, hcap, hmx, -, hnil⟩ := OwnB.val h.2
  obtain ⟨hb1, hb2⟩ := fst_bounds he
  have hr2 : CuR w.drew q x (.slice A x.bs.length cap) := ⟨h.1.drew, Own.fr (l := []) h.2 ((Fr.refl [] w).drew) (by simp)⟩
  have HFD : Hid (Fr [] w w.drew) := Lib.hid (Fr.refl [] w).drew
  have HR2 := Lib.hid hr2
  clear h hr2
  go_enter Tryz.func32, Tryz.ntmps32
  go_upto_region 1 with fail
  obtain ⟨d0, d1, d2, d3, d4, d5⟩ := cu_cells HR2.out.1
  have hby : Bytes w.drew A x.bs := by
    obtain ⟨A', cap', hv, hat, -⟩ := Own.at_ HR2.out.2
    injection hv with e1 e2 e3
    rw [e1]; exact hat
  have HFIRST := Lib.hid (first_any d0 d1 rfl hby hnil hcap (by omega) _ _ _ _ he)
  have HBY := Lib.hid hby
  clear hby he
  obtain ⟨en, hen⟩ : ∃ en, x.en = en := ⟨_, rfl⟩
  rw [hen] at d5 HFIRST
  refine wp_region_M_ (G := fun a b => a = b) (S := fun W => W = w.drew) ⟨fun _ => rfl, fun a b c h k => h.trans k, fun a b h k => k ▸ h, by kernel_rfl, fun _ _ d _ _ h => by cases d <;> exact h⟩ (by kernel_rfl) fun su => ?_
  have SU := Lib.hid su
  have HS : Hid (w.drew = w.drew) := Lib.hid rfl
  clear su
  generalize w.drew = wd at *
  refine M_move (i := 0) _ SU.out rfl rfl (by kernel_rfl) HS.out rfl ?_
  simp only [Act.put, Act.eval, Array.getD_eq_getD_getElem?, List.setIfInBounds_toArray, List.set_cons_zero, List.set_cons_succ, List.getElem?_toArray, List.getElem?_cons_zero, List.getElem?_cons_succ, Option.getD_some]
  refine M_val (i := 1) (v := ?_) SU.out rfl (by kernel_rfl) HS.out rfl (fun W hS => ?_) ?_
  rotate_left
  · obtain rfl := hS
    go_simp
    all_goals first | done | rfl | omega | (simp; done) | (simp; omega)
  simp only [Act.put, List.setIfInBounds_toArray, List.set_cons_zero, List.set_cons_succ]
  refine M_val (i := 2) (v := .pointer (some ⟨q, 0, none⟩)) SU.out rfl (by kernel_rfl) HS.out rfl (fun W hS => ?_) ?_
  · obtain rfl := hS
    go_simp
    all_goals first | done | rfl | omega | (simp; done) | (simp; omega)
  simp only [Act.put, List.setIfInBounds_toArray, List.set_cons_zero, List.set_cons_succ]
  refine M_move (i := 3) _ SU.out rfl rfl (by kernel_rfl) HS.out rfl ?_
  simp only [Act.put, Act.eval, Array.getD_eq_getD_getElem?, List.setIfInBounds_toArray, List.set_cons_zero, List.set_cons_succ, List.getElem?_toArray, List.getElem?_cons_zero, List.getElem?_cons_succ, Option.getD_some]
  refine M_val (i := 4) (v := ?_) SU.out rfl (by kernel_rfl) HS.out rfl (fun W hS => ?_) ?_
  rotate_left
  · obtain rfl := hS
    go_simp
    all_goals first | done | rfl | omega | (simp; done) | (simp; omega)
  simp only [Act.put, List.setIfInBounds_toArray, List.set_cons_zero, List.set_cons_succ]
  refine M_val (i := 5) (v := ?_) SU.out rfl (by kernel_rfl) HS.out rfl (fun W hS => ?_) ?_
  rotate_left
  · obtain rfl := hS
    go_simp
    all_goals first | done | rfl | omega | (simp; done) | (simp; omega)
  simp only [Act.put, List.setIfInBounds_toArray, List.set_cons_zero, List.set_cons_succ]
  refine M_val (i := 6) (v := .slice A x.bs.length cap) SU.out rfl (by kernel_rfl) HS.out rfl (fun W hS => ?_) ?_
  · obtain rfl := hS
    go_simp
    all_goals first | done | rfl | omega | (simp; done) | (simp; omega)
  simp only [Act.put, List.setIfInBounds_toArray, List.set_cons_zero, List.set_cons_succ]
  refine M_move (i := 7) _ SU.out rfl rfl (by kernel_rfl) HS.out rfl ?_
  simp only [Act.put, Act.eval, Array.getD_eq_getD_getElem?, List.setIfInBounds_toArray, List.set_cons_zero, List.set_cons_succ, List.getElem?_toArray, List.getElem?_cons_zero, List.getElem?_cons_succ, Option.getD_some]
  refine M_val (i := 8) (v := ?_) SU.out rfl (by kernel_rfl) HS.out rfl (fun W hS => ?_) ?_
  rotate_left
  · obtain rfl := hS
    go_simp
    all_goals first | done | rfl | omega | (simp; done) | (simp; omega)
  simp only [Act.put, List.setIfInBounds_toArray, List.set_cons_zero, List.set_cons_succ]
  refine M_val (i := 9) (v := ?_) SU.out rfl (by kernel_rfl) HS.out rfl (fun W hS => ?_) ?_
  rotate_left
  · obtain rfl := hS
    go_simp
    all_goals first | done | rfl | omega | (simp; done) | (simp; omega)
  simp only [Act.put, List.setIfInBounds_toArray, List.set_cons_zero, List.set_cons_succ]
  refine M_val (i := 10) (v := .bool en) SU.out rfl (by kernel_rfl) HS.out rfl (fun W hS => ?_) ?_
  · obtain rfl := hS
    go_simp
    all_goals first | done | rfl | omega | (simp; done) | (simp; omega)
  simp only [Act.put, List.setIfInBounds_toArray, List.set_cons_zero, List.set_cons_succ]
  refine M_call (i := 11) SU.out rfl (by kernel_rfl) HS.out rfl (fun W hS => by rw [hS]; exact HFIRST.out) (fun W => ?_) ?_
  · go_simp
    first | done | rfl
  simp only [Act.put, List.setIfInBounds_toArray, List.set_cons_zero, List.set_cons_succ]
  refine M_move (i := 12) _ SU.out rfl rfl (by kernel_rfl) HS.out rfl ?_
  simp only [Act.put, Act.eval, Array.getD_eq_getD_getElem?, List.setIfInBounds_toArray, List.set_cons_zero, List.set_cons_succ, List.getElem?_toArray, List.getElem?_cons_zero, List.getElem?_cons_succ, Option.getD_some]
  refine M_val (i := 13) (v := .int .i64 0) SU.out rfl (by kernel_rfl) HS.out rfl (fun W hS => ?_) ?_
  · obtain rfl := hS
    go_simp
    all_goals first | done | rfl | omega | (simp; done) | (simp; omega)
  simp only [Act.put, List.setIfInBounds_toArray, List.set_cons_zero, List.set_cons_succ]
  refine M_val (i := 14) (v := .int .i64 (tb : Int)) SU.out rfl (by kernel_rfl) HS.out rfl (fun W hS => ?_) ?_
  · obtain rfl := hS
    go_simp
    all_goals first | done | rfl | omega | (simp; done) | (simp; omega)
  simp only [Act.put, List.setIfInBounds_toArray, List.set_cons_zero, List.set_cons_succ]
  refine M_val (i := 15) (v := .int .i64 (nx : Int)) SU.out rfl (by kernel_rfl) HS.out rfl (fun W hS => ?_) ?_
  · obtain rfl := hS
    go_simp
    all_goals first | done | rfl | omega | (simp; done) | (simp; omega)
  simp only [Act.put, List.setIfInBounds_toArray, List.set_cons_zero, List.set_cons_succ]
  refine M_val (i := 16) (v := .bool true) SU.out rfl (by kernel_rfl) HS.out rfl (fun W hS => ?_) ?_
  · obtain rfl := hS
    go_simp
    all_goals first | done | rfl | omega | (simp; done) | (simp; omega)
  simp only [Act.put, List.setIfInBounds_toArray, List.set_cons_zero, List.set_cons_succ]
  refine M_val (i := 17) (v := ?_) SU.out rfl (by kernel_rfl) HS.out rfl (fun W hS => ?_) ?_
  rotate_left
  · obtain rfl := hS
    go_simp
    all_goals first | done | rfl | omega | (simp; done) | (simp; omega)
  simp only [Act.put, List.setIfInBounds_toArray, List.set_cons_zero, List.set_cons_succ]
  refine M_val (i := 18) (v := ?_) SU.out rfl (by kernel_rfl) HS.out rfl (fun W hS => ?_) ?_
  rotate_left
  · obtain rfl := hS
    go_simp
    all_goals first | done | rfl | omega | (simp; done) | (simp; omega)
  simp only [Act.put, List.setIfInBounds_toArray, List.set_cons_zero, List.set_cons_succ]
  refine M_val (i := 19) (v := ?_) SU.out rfl (by kernel_rfl) HS.out rfl (fun W hS => ?_) ?_
  rotate_left
  · obtain rfl := hS
    go_simp
    all_goals first | done | rfl | omega | (simp; done) | (simp; omega)
  simp only [Act.put, List.setIfInBounds_toArray, List.set_cons_zero, List.set_cons_succ]
  refine M_val (i := 20) (v := ?_) SU.out rfl (by kernel_rfl) HS.out rfl (fun W hS => ?_) ?_
  rotate_left
  · obtain rfl := hS
    go_simp
    all_goals first | done | rfl | omega | (simp; done) | (simp; omega)
  simp only [Act.put, List.setIfInBounds_toArray, List.set_cons_zero, List.set_cons_succ]
  refine wpAnyM_done (by kernel_rfl) (fun w' hG => ?_)
  obtain rfl := hG
  clear d0 d1 d2 d3 d5 HFIRST
  have hlx : (byteVals x.bs).length = x.bs.length := byteVals_length _
  go_upto_region 4 with (first
    | (refine wpList_cut rfl 31 (.tmp 29) (some (.tmp 30)) (some (.tmp 31)) none rfl 5 i0 Tryz.underlying31 hi0 hz1 A x.bs.length cap (by rfl) (byteVals x.bs) HBY.out hlx hcap hnil 0 tb cap (.inr (by rfl)) (.inr (by rfl)) (.inl ⟨by rfl, rfl⟩) (by omega) (by omega) (Nat.le_refl _) (by omega) ?_; intro X1 hX1 hX1n hX1b; have HX1 : Hid (At wd X1 (byteVals (x.bs.take tb))) := Lib.hid (by have := hX1; simpa [byteVals, List.map_take] using this); clear hX1 hX1n hX1b)
    | (refine wpList_str rfl 31 9 (.tmp 32) rfl 5 Tryz.underlying31 Tryz.underlying5 Tryz.underlying9 X1 (tb - 0) (cap - 0) (by rfl) (x.bs.take tb) HX1.out (by rw [List.length_take]; omega) ?_))
  have d4' := d4
  go_upto_region 5 with (first
    | (refine wpList_cut rfl 31 (.tmp 38) (some (.tmp 39)) none none rfl 5 i0 Tryz.underlying31 hi0 hz1 A x.bs.length cap (by rfl) (byteVals x.bs) HBY.out hlx hcap hnil nx x.bs.length cap (.inr (by rfl)) (.inl ⟨by rfl, rfl, rfl⟩) (.inl ⟨by rfl, rfl⟩) (by omega) hcap (Nat.le_refl _) (Nat.le_refl _) ?_; intro X2 hX2 hX2n hX2b; have HX2 : Hid (At wd X2 (byteVals (x.bs.drop nx))) := Lib.hid (by have := hX2; rw [List.take_of_length_le (by rw [List.length_drop, hlx]; exact Nat.le_refl _)] at this; simpa [byteVals, List.map_drop] using this); clear hX2 hX2n hX2b)
    | (at_builtin; refine wpList_append_OwnS rfl (.const (.slice none 0 0)) (.tmp 40) 31 rfl 5 i0 _ Tryz.underlying31 hi0 hz0 hz1 rfl (.slice none 0 0) [] 0 rfl (by rfl) (Own.nil_ _ _) X2 (x.bs.length - nx) (cap - nx) (by rfl) (byteVals (x.bs.drop nx)) HX2.out (by rw [byteVals_length, List.length_drop]) (byteVals_one _) (by unfold maxLen; omega) (by rw [hz2]; omega) ?_; intro A3 c3 w3 hown hgr hloc; have HOWN := Lib.hid hown; have HGR := Lib.hid hgr; have HLOC := Lib.hid hloc; have hw3 := HR2.out.1.grown hgr (by simp [Value.ownBlock]); have f4 := hw3.frozen 4; have c4 := hw3.cell_ (i := 4) rfl; have HW3 := Lib.hid hw3; clear hown hgr hloc hw3))
  clear f4 c4 d4 d4'
  go_wp2_with fail
  go_ret3
  have hs : Fr [q] w3 (w3.setCell ⟨q, 4, none⟩ (.slice A3 (x.bs.length - nx) c3)) := (Fr.refl _ _).setCell (.inl (by simp)) _
  have ho3 : OwnB w3 (.slice A3 (x.bs.length - nx) c3) (x.bs.drop nx) := by have := HOWN.out; rw [List.nil_append, Nat.zero_add] at this; exact this
  refine ⟨rfl, .slice A3 (x.bs.length - nx) c3, ⟨(by rw [← hen]; exact HW3.out.put 4 _), Own.fr ho3 hs (fun k hk => by have := Own.ne_bk ho3 HW3.out (by decide); simp; rintro rfl; exact this hk)⟩, ?_, ?_⟩
  · exact (HFD.out.nil_.grown HGR.out (fun g hg => by simp [Value.ownBlock] at hg)).trans' hs (fun i hi => .inl (by simp at hi; simp [hi]))
  · intro k hk
    have hl := HLOC.out
    rw [Nat.zero_add] at hl
    rcases hl with e | e
    · rw [hk] at e; simp [Value.ownBlock] at e
    · rw [hk] at e; injection e with e; have := HFD.out.size; exact .inr (by omega)
set_option maxRecDepth 100000 in
set_option maxHeartbeats 2000000 in
theorem next_done {w : World} {q : Nat} {x : Cu} {v : Value} (h : CuR w q x v) (hb : x.bs.length ≤ 65536) (hen : x.en = true) (he : fstM x.c x.bs x.en = (0, 0, false)) :
    Calls Tryz.prog 32 #[.pointer (some ⟨q, 0, none⟩)] w fun e w' => e = .returned (.tuple #[.string ⟨#[]⟩, .bool false, .nilIface]) ∧ CuTo w q v w' { x with bs := [] } := by
  obtain ⟨i0, hi0, hz0, hz1, hz2⟩ := u8parts
  obtain ⟨A, cap, rfl, hcap, hmx, -, hnil⟩ := OwnB.val h.2
  have hr2 : CuR w.drew q x (.slice A x.bs.length cap) := ⟨h.1.drew, Own.fr (l := []) h.2 ((Fr.refl [] w).drew) (by simp)⟩
  have HFD : Hid (Fr [] w w.drew) := Lib.hid (Fr.refl [] w).drew
  have HR2 := Lib.hid hr2
  clear h hr2
  go_enter Tryz.func32, Tryz.ntmps32
  go_upto_region 1 with fail
  obtain ⟨d0, d1, d2, d3, d4, d5⟩ := cu_cells HR2.out.1
  have hby : Bytes w.drew A x.bs := by
    obtain ⟨A', cap', hv, hat, -⟩ := Own.at_ HR2.out.2
    injection hv with e1 e2 e3
    rw [e1]; exact hat
  have HFIRST := Lib.hid (first_any d0 d1 rfl hby hnil hcap (by omega) _ _ _ _ he)
  have HBY := Lib.hid hby
  clear hby he
  rw [hen] at d5 HFIRST
  clear hen
  refine wp_region_M_ (G := fun a b => a = b) (S := fun W => W = w.drew) ⟨fun _ => rfl, fun a b c h k => h.trans k, fun a b h k => k ▸ h, by kernel_rfl, fun _ _ d _ _ h => by cases d <;> exact h⟩ (by kernel_rfl) fun su => ?_
  have SU := Lib.hid su
  have HS : Hid (w.drew = w.drew) := Lib.hid rfl
  clear su
  generalize w.drew = wd at *
  refine M_move (i := 0) _ SU.out rfl rfl (by kernel_rfl) HS.out rfl ?_
  simp only [Act.put, Act.eval, Array.getD_eq_getD_getElem?, List.setIfInBounds_toArray, List.set_cons_zero, List.set_cons_succ, List.getElem?_toArray, List.getElem?_cons_zero, List.getElem?_cons_succ, Option.getD_some]
  refine M_val (i := 1) (v := ?_) SU.out rfl (by kernel_rfl) HS.out rfl (fun W hS => ?_) ?_
  rotate_left
  · obtain rfl := hS
    go_simp
    all_goals first | done | rfl | omega | (simp; done) | (simp; omega)
  simp only [Act.put, List.setIfInBounds_toArray, List.set_cons_zero, List.set_cons_succ]
  refine M_val (i := 2) (v := .pointer (some ⟨q, 0, none⟩)) SU.out rfl (by kernel_rfl) HS.out rfl (fun W hS => ?_) ?_
  · obtain rfl := hS
    go_simp
    all_goals first | done | rfl | omega | (simp; done) | (simp; omega)
  simp only [Act.put, List.setIfInBounds_toArray, List.set_cons_zero, List.set_cons_succ]
  refine M_move (i := 3) _ SU.out rfl rfl (by kernel_rfl) HS.out rfl ?_
  simp only [Act.put, Act.eval, Array.getD_eq_getD_getElem?, List.setIfInBounds_toArray, List.set_cons_zero, List.set_cons_succ, List.getElem?_toArray, List.getElem?_cons_zero, List.getElem?_cons_succ, Option.getD_some]
  refine M_val (i := 4) (v := ?_) SU.out rfl (by kernel_rfl) HS.out rfl (fun W hS => ?_) ?_
  rotate_left
  · obtain rfl := hS
    go_simp
    all_goals first | done | rfl | omega | (simp; done) | (simp; omega)
  simp only [Act.put, List.setIfInBounds_toArray, List.set_cons_zero, List.set_cons_succ]
  refine M_val (i := 5) (v := ?_) SU.out rfl (by kernel_rfl) HS.out rfl (fun W hS => ?_) ?_
  rotate_left
  · obtain rfl := hS
    go_simp
    all_goals first | done | rfl | omega | (simp; done) | (simp; omega)
  simp only [Act.put, List.setIfInBounds_toArray, List.set_cons_zero, List.set_cons_succ]
  refine M_val (i := 6) (v := .slice A x.bs.length cap) SU.out rfl (by kernel_rfl) HS.out rfl (fun W hS => ?_) ?_
  · obtain rfl := hS
    go_simp
    all_goals first | done | rfl | omega | (simp; done) | (simp; omega)
  simp only [Act.put, List.setIfInBounds_toArray, List.set_cons_zero, List.set_cons_succ]
  refine M_move (i := 7) _ SU.out rfl rfl (by kernel_rfl) HS.out rfl ?_
  simp only [Act.put, Act.eval, Array.getD_eq_getD_getElem?, List.setIfInBounds_toArray, List.set_cons_zero, List.set_cons_succ, List.getElem?_toArray, List.getElem?_cons_zero, List.getElem?_cons_succ, Option.getD_some]
  refine M_val (i := 8) (v := ?_) SU.out rfl (by kernel_rfl) HS.out rfl (fun W hS => ?_) ?_
  rotate_left
  · obtain rfl := hS
    go_simp
    all_goals first | done | rfl | omega | (simp; done) | (simp; omega)
  simp only [Act.put, List.setIfInBounds_toArray, List.set_cons_zero, List.set_cons_succ]
  refine M_val (i := 9) (v := ?_) SU.out rfl (by kernel_rfl) HS.out rfl (fun W hS => ?_) ?_
  rotate_left
  · obtain rfl := hS
    go_simp
    all_goals first | done | rfl | omega | (simp; done) | (simp; omega)
  simp only [Act.put, List.setIfInBounds_toArray, List.set_cons_zero, List.set_cons_succ]
  refine M_val (i := 10) (v := .bool true) SU.out rfl (by kernel_rfl) HS.out rfl (fun W hS => ?_) ?_
  · obtain rfl := hS
    go_simp
    all_goals first | done | rfl | omega | (simp; done) | (simp; omega)
  simp only [Act.put, List.setIfInBounds_toArray, List.set_cons_zero, List.set_cons_succ]
  refine M_call (i := 11) SU.out rfl (by kernel_rfl) HS.out rfl (fun W hS => by rw [hS]; exact HFIRST.out) (fun W => ?_) ?_
  · go_simp
    first | done | rfl
  simp only [Act.put, List.setIfInBounds_toArray, List.set_cons_zero, List.set_cons_succ]
  refine M_move (i := 12) _ SU.out rfl rfl (by kernel_rfl) HS.out rfl ?_
  simp only [Act.put, Act.eval, Array.getD_eq_getD_getElem?, List.setIfInBounds_toArray, List.set_cons_zero, List.set_cons_succ, List.getElem?_toArray, List.getElem?_cons_zero, List.getElem?_cons_succ, Option.getD_some]
  refine M_val (i := 13) (v := .int .i64 0) SU.out rfl (by kernel_rfl) HS.out rfl (fun W hS => ?_) ?_
  · obtain rfl := hS
    go_simp
    all_goals first | done | rfl | omega | (simp; done) | (simp; omega)
  simp only [Act.put, List.setIfInBounds_toArray, List.set_cons_zero, List.set_cons_succ]
  refine M_val (i := 14) (v := .int .i64 0) SU.out rfl (by kernel_rfl) HS.out rfl (fun W hS => ?_) ?_
  · obtain rfl := hS
    go_simp
    all_goals first | done | rfl | omega | (simp; done) | (simp; omega)
  simp only [Act.put, List.setIfInBounds_toArray, List.set_cons_zero, List.set_cons_succ]
  refine M_val (i := 15) (v := .int .i64 0) SU.out rfl (by kernel_rfl) HS.out rfl (fun W hS => ?_) ?_
  · obtain rfl := hS
    go_simp
    all_goals first | done | rfl | omega | (simp; done) | (simp; omega)
  simp only [Act.put, List.setIfInBounds_toArray, List.set_cons_zero, List.set_cons_succ]
  refine M_val (i := 16) (v := .bool false) SU.out rfl (by kernel_rfl) HS.out rfl (fun W hS => ?_) ?_
  · obtain rfl := hS
    go_simp
    all_goals first | done | rfl | omega | (simp; done) | (simp; omega)
  simp only [Act.put, List.setIfInBounds_toArray, List.set_cons_zero, List.set_cons_succ]
  refine M_val (i := 17) (v := ?_) SU.out rfl (by kernel_rfl) HS.out rfl (fun W hS => ?_) ?_
  rotate_left
  · obtain rfl := hS
    go_simp
    all_goals first | done | rfl | omega | (simp; done) | (simp; omega)
  simp only [Act.put, List.setIfInBounds_toArray, List.set_cons_zero, List.set_cons_succ]
  refine M_val (i := 18) (v := ?_) SU.out rfl (by kernel_rfl) HS.out rfl (fun W hS => ?_) ?_
  rotate_left
  · obtain rfl := hS
    go_simp
    all_goals first | done | rfl | omega | (simp; done) | (simp; omega)
  simp only [Act.put, List.setIfInBounds_toArray, List.set_cons_zero, List.set_cons_succ]
  refine M_val (i := 19) (v := ?_) SU.out rfl (by kernel_rfl) HS.out rfl (fun W hS => ?_) ?_
  rotate_left
  · obtain rfl := hS
    go_simp
    all_goals first | done | rfl | omega | (simp; done) | (simp; omega)
  simp only [Act.put, List.setIfInBounds_toArray, List.set_cons_zero, List.set_cons_succ]
  refine M_val (i := 20) (v := ?_) SU.out rfl (by kernel_rfl) HS.out rfl (fun W hS => ?_) ?_
  rotate_left
  · obtain rfl := hS
    go_simp
    all_goals first | done | rfl | omega | (simp; done) | (simp; omega)
  simp only [Act.put, List.setIfInBounds_toArray, List.set_cons_zero, List.set_cons_succ]
  refine wpAnyM_done (by kernel_rfl) (fun w' hG => ?_)
  obtain rfl := hG
  have f4 := HR2.out.1.frozen 4
  clear d0 d1 d2 d3 HFIRST
  go_wp2_with fail
  go_ret3
  have hs : Fr [q] wd (wd.setCell ⟨q, 4, none⟩ (.slice none 0 0)) := (Fr.refl _ _).setCell (.inl (by simp)) _
  refine ⟨rfl, .slice none 0 0, ⟨HR2.out.1.put 4 _, Own.nil_ _ _⟩, HFD.out.nil_.trans' hs (fun i hi => .inl (by simp at hi; simp [hi])), fun k hk => by simp [Value.ownBlock] at hk⟩
set_option maxRecDepth 100000 in
set_option maxHeartbeats 2000000 in
theorem next_long {w : World} {q : Nat} {x : Cu} {v : Value} (h : CuR w q x v) (hb : x.bs.length ≤ 65536) (hen : x.en = false) (he : fstM x.c x.bs x.en = (0, 0, false)) (hl : x.room ≤ (x.bs.length : Int)) :
    Calls Tryz.prog 32 #[.pointer (some ⟨q, 0, none⟩)] w fun e w' => e = .returned (.tuple #[.string ⟨#[]⟩, .bool false, errV 20]) ∧ CuTo w q v w' { x with bs := [], en := true } := by
  obtain ⟨i0, hi0, hz0, hz1, hz2⟩ := u8parts
  obtain ⟨A, cap, rfl, hcap, hmx, -, hnil⟩ := OwnB.val h.2
  have hr2 : CuR w.drew q x (.slice A x.bs.length cap) := ⟨h.1.drew, Own.fr (l := []) h.2 ((Fr.refl [] w).drew) (by simp)⟩
  have HFD : Hid (Fr [] w w.drew) := Lib.hid (Fr.refl [] w).drew
  have HR2 := Lib.hid hr2
  clear h hr2
  go_enter Tryz.func32, Tryz.ntmps32
  go_upto_region 1 with fail
  obtain ⟨d0, d1, d2, d3, d4, d5⟩ := cu_cells HR2.out.1
  have hby : Bytes w.drew A x.bs := by
    obtain ⟨A', cap', hv, hat, -⟩ := Own.at_ HR2.out.2
    injection hv with e1 e2 e3
    rw [e1]; exact hat
  have HFIRST := Lib.hid (first_any d0 d1 rfl hby hnil hcap (by omega) _ _ _ _ he)
  have HBY := Lib.hid hby
  clear hby he
  rw [hen] at d5 HFIRST
  refine wp_region_M_ (G := fun a b => a = b) (S := fun W => W = w.drew) ⟨fun _ => rfl, fun a b c h k => h.trans k, fun a b h k => k ▸ h, by kernel_rfl, fun _ _ d _ _ h => by cases d <;> exact h⟩ (by kernel_rfl) fun su => ?_
  have SU := Lib.hid su
  have HS : Hid (w.drew = w.drew) := Lib.hid rfl
  clear su
  generalize w.drew = wd at *
  refine M_move (i := 0) _ SU.out rfl rfl (by kernel_rfl) HS.out rfl ?_
  simp only [Act.put, Act.eval, Array.getD_eq_getD_getElem?, List.setIfInBounds_toArray, List.set_cons_zero, List.set_cons_succ, List.getElem?_toArray, List.getElem?_cons_zero, List.getElem?_cons_succ, Option.getD_some]
  refine M_val (i := 1) (v := ?_) SU.out rfl (by kernel_rfl) HS.out rfl (fun W hS => ?_) ?_
  rotate_left
  · obtain rfl := hS
    go_simp
    all_goals first | done | rfl | omega | (simp; done) | (simp; omega)
  simp only [Act.put, List.setIfInBounds_toArray, List.set_cons_zero, List.set_cons_succ]
  refine M_val (i := 2) (v := .pointer (some ⟨q, 0, none⟩)) SU.out rfl (by kernel_rfl) HS.out rfl (fun W hS => ?_) ?_
  · obtain rfl := hS
    go_simp
    all_goals first | done | rfl | omega | (simp; done) | (simp; omega)
  simp only [Act.put, List.setIfInBounds_toArray, List.set_cons_zero, List.set_cons_succ]
  refine M_move (i := 3) _ SU.out rfl rfl (by kernel_rfl) HS.out rfl ?_
  simp only [Act.put, Act.eval, Array.getD_eq_getD_getElem?, List.setIfInBounds_toArray, List.set_cons_zero, List.set_cons_succ, List.getElem?_toArray, List.getElem?_cons_zero, List.getElem?_cons_succ, Option.getD_some]
  refine M_val (i := 4) (v := ?_) SU.out rfl (by kernel_rfl) HS.out rfl (fun W hS => ?_) ?_
  rotate_left
  · obtain rfl := hS
    go_simp
    all_goals first | done | rfl | omega | (simp; done) | (simp; omega)
  simp only [Act.put, List.setIfInBounds_toArray, List.set_cons_zero, List.set_cons_succ]
  refine M_val (i := 5) (v := ?_) SU.out rfl (by kernel_rfl) HS.out rfl (fun W hS => ?_) ?_
  rotate_left
  · obtain rfl := hS
    go_simp
    all_goals first | done | rfl | omega | (simp; done) | (simp; omega)
  simp only [Act.put, List.setIfInBounds_toArray, List.set_cons_zero, List.set_cons_succ]
  refine M_val (i := 6) (v := .slice A x.bs.length cap) SU.out rfl (by kernel_rfl) HS.out rfl (fun W hS => ?_) ?_
  · obtain rfl := hS
    go_simp
    all_goals first | done | rfl | omega | (simp; done) | (simp; omega)
  simp only [Act.put, List.setIfInBounds_toArray, List.set_cons_zero, List.set_cons_succ]
  refine M_move (i := 7) _ SU.out rfl rfl (by kernel_rfl) HS.out rfl ?_
  simp only [Act.put, Act.eval, Array.getD_eq_getD_getElem?, List.setIfInBounds_toArray, List.set_cons_zero, List.set_cons_succ, List.getElem?_toArray, List.getElem?_cons_zero, List.getElem?_cons_succ, Option.getD_some]
  refine M_val (i := 8) (v := ?_) SU.out rfl (by kernel_rfl) HS.out rfl (fun W hS => ?_) ?_
  rotate_left
  · obtain rfl := hS
    go_simp
    all_goals first | done | rfl | omega | (simp; done) | (simp; omega)
  simp only [Act.put, List.setIfInBounds_toArray, List.set_cons_zero, List.set_cons_succ]
  refine M_val (i := 9) (v := ?_) SU.out rfl (by kernel_rfl) HS.out rfl (fun W hS => ?_) ?_
  rotate_left
  · obtain rfl := hS
    go_simp
    all_goals first | done | rfl | omega | (simp; done) | (simp; omega)
  simp only [Act.put, List.setIfInBounds_toArray, List.set_cons_zero, List.set_cons_succ]
  refine M_val (i := 10) (v := .bool false) SU.out rfl (by kernel_rfl) HS.out rfl (fun W hS => ?_) ?_
  · obtain rfl := hS
    go_simp
    all_goals first | done | rfl | omega | (simp; done) | (simp; omega)
  simp only [Act.put, List.setIfInBounds_toArray, List.set_cons_zero, List.set_cons_succ]
  refine M_call (i := 11) SU.out rfl (by kernel_rfl) HS.out rfl (fun W hS => by rw [hS]; exact HFIRST.out) (fun W => ?_) ?_
  · go_simp
    first | done | rfl
  simp only [Act.put, List.setIfInBounds_toArray, List.set_cons_zero, List.set_cons_succ]
  refine M_move (i := 12) _ SU.out rfl rfl (by kernel_rfl) HS.out rfl ?_
  simp only [Act.put, Act.eval, Array.getD_eq_getD_getElem?, List.setIfInBounds_toArray, List.set_cons_zero, List.set_cons_succ, List.getElem?_toArray, List.getElem?_cons_zero, List.getElem?_cons_succ, Option.getD_some]
  refine M_val (i := 13) (v := .int .i64 0) SU.out rfl (by kernel_rfl) HS.out rfl (fun W hS => ?_) ?_
  · obtain rfl := hS
    go_simp
    all_goals first | done | rfl | omega | (simp; done) | (simp; omega)
  simp only [Act.put, List.setIfInBounds_toArray, List.set_cons_zero, List.set_cons_succ]
  refine M_val (i := 14) (v := .int .i64 0) SU.out rfl (by kernel_rfl) HS.out rfl (fun W hS => ?_) ?_
  · obtain rfl := hS
    go_simp
    all_goals first | done | rfl | omega | (simp; done) | (simp; omega)
  simp only [Act.put, List.setIfInBounds_toArray, List.set_cons_zero, List.set_cons_succ]
  refine M_val (i := 15) (v := .int .i64 0) SU.out rfl (by kernel_rfl) HS.out rfl (fun W hS => ?_) ?_
  · obtain rfl := hS
    go_simp
    all_goals first | done | rfl | omega | (simp; done) | (simp; omega)
  simp only [Act.put, List.setIfInBounds_toArray, List.set_cons_zero, List.set_cons_succ]
  refine M_val (i := 16) (v := .bool false) SU.out rfl (by kernel_rfl) HS.out rfl (fun W hS => ?_) ?_
  · obtain rfl := hS
    go_simp
    all_goals first | done | rfl | omega | (simp; done) | (simp; omega)
  simp only [Act.put, List.setIfInBounds_toArray, List.set_cons_zero, List.set_cons_succ]
  refine M_val (i := 17) (v := ?_) SU.out rfl (by kernel_rfl) HS.out rfl (fun W hS => ?_) ?_
  rotate_left
  · obtain rfl := hS
    go_simp
    all_goals first | done | rfl | omega | (simp; done) | (simp; omega)
  simp only [Act.put, List.setIfInBounds_toArray, List.set_cons_zero, List.set_cons_succ]
  refine M_val (i := 18) (v := ?_) SU.out rfl (by kernel_rfl) HS.out rfl (fun W hS => ?_) ?_
  rotate_left
  · obtain rfl := hS
    go_simp
    all_goals first | done | rfl | omega | (simp; done) | (simp; omega)
  simp only [Act.put, List.setIfInBounds_toArray, List.set_cons_zero, List.set_cons_succ]
  refine M_val (i := 19) (v := ?_) SU.out rfl (by kernel_rfl) HS.out rfl (fun W hS => ?_) ?_
  rotate_left
  · obtain rfl := hS
    go_simp
    all_goals first | done | rfl | omega | (simp; done) | (simp; omega)
  simp only [Act.put, List.setIfInBounds_toArray, List.set_cons_zero, List.set_cons_succ]
  refine M_val (i := 20) (v := ?_) SU.out rfl (by kernel_rfl) HS.out rfl (fun W hS => ?_) ?_
  rotate_left
  · obtain rfl := hS
    go_simp
    all_goals first | done | rfl | omega | (simp; done) | (simp; omega)
  simp only [Act.put, List.setIfInBounds_toArray, List.set_cons_zero, List.set_cons_succ]
  refine wpAnyM_done (by kernel_rfl) (fun w' hG => ?_)
  obtain rfl := hG
  have t1 : decide (x.room ≤ (x.bs.length : Int)) = true := decide_eq_true hl
  have d3' : wd.drew.cell? ⟨q, 3, none⟩ = some (.int .i64 x.room) := d3
  have d4' : wd.drew.cell? ⟨q, 4, none⟩ = some (.slice A x.bs.length cap) := d4
  have hr3 : CuR wd.drew q x (.slice A x.bs.length cap) := ⟨HR2.out.1.drew, Own.fr (l := []) HR2.out.2 ((Fr.refl [] wd).drew) (by simp)⟩
  have HR3 := Lib.hid hr3
  have HFD2 : Hid (Fr [] w wd.drew) := Lib.hid HFD.out.drew
  have f4 : wd.drew.frozen? ⟨q, 4, none⟩ = false := HR2.out.1.frozen 4
  have f5 : wd.drew.frozen? ⟨q, 5, none⟩ = false := HR2.out.1.frozen 5
  have d5' : wd.drew.cell? ⟨q, 5, none⟩ = some (.bool false) := d5
  clear HFIRST hr3
  go_upto_region 11 with fail
  refine wp_region_M_ (G := fun a b => a = b) (S := fun W => W = wd.drew) ⟨fun _ => rfl, fun a b c h k => h.trans k, fun a b h k => k ▸ h, by kernel_rfl, fun _ _ d _ _ h => by cases d <;> exact h⟩ (by kernel_rfl) fun su => ?_
  have SU := Lib.hid su
  have HS : Hid (wd.drew = wd.drew) := Lib.hid rfl
  clear su
  generalize wd.drew = wD at *
  refine M_move (i := 0) _ SU.out rfl rfl (by kernel_rfl) HS.out rfl ?_
  simp only [Act.put, Act.eval, Array.getD_eq_getD_getElem?, List.setIfInBounds_toArray, List.set_cons_zero, List.set_cons_succ, List.getElem?_toArray, List.getElem?_cons_zero, List.getElem?_cons_succ, Option.getD_some]
  refine M_val (i := 1) (v := ?_) SU.out rfl (by kernel_rfl) HS.out rfl (fun W hS => ?_) ?_
  rotate_left
  · obtain rfl := hS
    go_simp
    all_goals first | done | rfl | omega | (simp; done) | (simp; omega)
  simp only [Act.put, List.setIfInBounds_toArray, List.set_cons_zero, List.set_cons_succ]
  refine M_val (i := 2) (v := ?_) SU.out rfl (by kernel_rfl) HS.out rfl (fun W hS => ?_) ?_
  rotate_left
  · obtain rfl := hS
    go_simp
    all_goals first | done | rfl | omega | (simp; done) | (simp; omega)
  simp only [Act.put, List.setIfInBounds_toArray, List.set_cons_zero, List.set_cons_succ]
  refine M_val (i := 3) (v := .slice A x.bs.length cap) SU.out rfl (by kernel_rfl) HS.out rfl (fun W hS => ?_) ?_
  · obtain rfl := hS
    go_simp
    all_goals first | done | rfl | omega | (simp; done) | (simp; omega)
  simp only [Act.put, List.setIfInBounds_toArray, List.set_cons_zero, List.set_cons_succ]
  refine M_val (i := 4) (v := ?_) SU.out rfl (by kernel_rfl) HS.out rfl (fun W hS => ?_) ?_
  rotate_left
  · obtain rfl := hS
    go_simp
    all_goals first | done | rfl | omega | (simp; done) | (simp; omega)
  simp only [Act.put, List.setIfInBounds_toArray, List.set_cons_zero, List.set_cons_succ]
  refine M_move (i := 5) _ SU.out rfl rfl (by kernel_rfl) HS.out rfl ?_
  simp only [Act.put, Act.eval, Array.getD_eq_getD_getElem?, List.setIfInBounds_toArray, List.set_cons_zero, List.set_cons_succ, List.getElem?_toArray, List.getElem?_cons_zero, List.getElem?_cons_succ, Option.getD_some]
  refine M_val (i := 6) (v := ?_) SU.out rfl (by kernel_rfl) HS.out rfl (fun W hS => ?_) ?_
  rotate_left
  · obtain rfl := hS
    go_simp
    all_goals first | done | rfl | omega | (simp; done) | (simp; omega)
  simp only [Act.put, List.setIfInBounds_toArray, List.set_cons_zero, List.set_cons_succ]
  refine M_val (i := 7) (v := ?_) SU.out rfl (by kernel_rfl) HS.out rfl (fun W hS => ?_) ?_
  rotate_left
  · obtain rfl := hS
    go_simp
    all_goals first | done | rfl | omega | (simp; done) | (simp; omega)
  simp only [Act.put, List.setIfInBounds_toArray, List.set_cons_zero, List.set_cons_succ]
  refine M_val (i := 8) (v := .int .i64 x.room) SU.out rfl (by kernel_rfl) HS.out rfl (fun W hS => ?_) ?_
  · obtain rfl := hS
    go_simp
    all_goals first | done | rfl | omega | (simp; done) | (simp; omega)
  simp only [Act.put, List.setIfInBounds_toArray, List.set_cons_zero, List.set_cons_succ]
  refine M_val (i := 9) (v := .bool true) SU.out rfl (by kernel_rfl) HS.out rfl (fun W hS => ?_) ?_
  · obtain rfl := hS
    go_simp
    all_goals first | done | rfl | omega | (simp; done) | (simp; omega)
  simp only [Act.put, List.setIfInBounds_toArray, List.set_cons_zero, List.set_cons_succ]
  refine wpAnyM_done (by kernel_rfl) (fun w' hG => ?_)
  obtain rfl := hG
  go_wp2_with fail
  go_ret3
  have hs : Fr [q] wD ((wD.setCell ⟨q, 4, none⟩ (.slice none 0 0)).setCell ⟨q, 5, none⟩ (.bool true)) := ((Fr.refl _ _).setCell (.inl (by simp)) _).setCell (.inl (by simp)) _
  refine ⟨rfl, .slice none 0 0, ⟨(HR3.out.1.put 4 _).put 5 _, Own.nil_ _ _⟩, HFD2.out.nil_.trans' hs (fun i hi => .inl (by simp at hi; simp [hi])), fun k hk => by simp [Value.ownBlock] at hk⟩
set_option maxRecDepth 100000 in
set_option maxHeartbeats 2000000 in
theorem next_wait {w : World} {q : Nat} {x : Cu} {v : Value} (h : CuR w q x v) (hb : x.bs.length ≤ 65536) (hen : x.en = false) (he : fstM x.c x.bs x.en = (0, 0, false)) (hl : (x.bs.length : Int) < x.room) :
    Calls Tryz.prog 32 #[.pointer (some ⟨q, 0, none⟩)] w fun e w' => e = .returned (.tuple #[.string ⟨#[]⟩, .bool false, .nilIface]) ∧ CuTo w q v w' x := by
  obtain ⟨i0, hi0, hz0, hz1, hz2⟩ := u8parts
  obtain ⟨A, cap, rfl, hcap, hmx, -, hnil⟩ := OwnB.val h.2
  have hr2 : CuR w.drew q x (.slice A x.bs.length cap) := ⟨h.1.drew, Own.fr (l := []) h.2 ((Fr.refl [] w).drew) (by simp)⟩
  have HFD : Hid (Fr [] w w.drew) := Lib.hid (Fr.refl [] w).drew
  have HR2 := Lib.hid hr2
  clear h hr2
  go_enter Tryz.func32, Tryz.ntmps32
  go_upto_region 1 with fail
  obtain ⟨d0, d1, d2, d3, d4, d5⟩ := cu_cells HR2.out.1
  have hby : Bytes w.drew A x.bs := by
    obtain ⟨A', cap', hv, hat, -⟩ := Own.at_ HR2.out.2
    injection hv with e1 e2 e3
    rw [e1]; exact hat
  have HFIRST := Lib.hid (first_any d0 d1 rfl hby hnil hcap (by omega) _ _ _ _ he)
  have HBY := Lib.hid hby
  clear hby he
  rw [hen] at d5 HFIRST
  refine wp_region_M_ (G := fun a b => a = b) (S := fun W => W = w.drew) ⟨fun _ => rfl, fun a b c h k => h.trans k, fun a b h k => k ▸ h, by kernel_rfl, fun _ _ d _ _ h => by cases d <;> exact h⟩ (by kernel_rfl) fun su => ?_
  have SU := Lib.hid su
  have HS : Hid (w.drew = w.drew) := Lib.hid rfl
  clear su
  generalize w.drew = wd at *
  refine M_move (i := 0) _ SU.out rfl rfl (by kernel_rfl) HS.out rfl ?_
  simp only [Act.put, Act.eval, Array.getD_eq_getD_getElem?, List.setIfInBounds_toArray, List.set_cons_zero, List.set_cons_succ, List.getElem?_toArray, List.getElem?_cons_zero, List.getElem?_cons_succ, Option.getD_some]
  refine M_val (i := 1) (v := ?_) SU.out rfl (by kernel_rfl) HS.out rfl (fun W hS => ?_) ?_
  rotate_left
  · obtain rfl := hS
    go_simp
    all_goals first | done | rfl | omega | (simp; done) | (simp; omega)
  simp only [Act.put, List.setIfInBounds_toArray, List.set_cons_zero, List.set_cons_succ]
  refine M_val (i := 2) (v := .pointer (some ⟨q, 0, none⟩)) SU.out rfl (by kernel_rfl) HS.out rfl (fun W hS => ?_) ?_
  · obtain rfl := hS
    go_simp
    all_goals first | done | rfl | omega | (simp; done) | (simp; omega)
  simp only [Act.put, List.setIfInBounds_toArray, List.set_cons_zero, List.set_cons_succ]
  refine M_move (i := 3) _ SU.out rfl rfl (by kernel_rfl) HS.out rfl ?_
  simp only [Act.put, Act.eval, Array.getD_eq_getD_getElem?, List.setIfInBounds_toArray, List.set_cons_zero, List.set_cons_succ, List.getElem?_toArray, List.getElem?_cons_zero, List.getElem?_cons_succ, Option.getD_some]
  refine M_val (i := 4) (v := ?_) SU.out rfl (by kernel_rfl) HS.out rfl (fun W hS => ?_) ?_
  rotate_left
  · obtain rfl := hS
    go_simp
    all_goals first | done | rfl | omega | (simp; done) | (simp; omega)
  simp only [Act.put, List.setIfInBounds_toArray, List.set_cons_zero, List.set_cons_succ]
  refine M_val (i := 5) (v := ?_) SU.out rfl (by kernel_rfl) HS.out rfl (fun W hS => ?_) ?_
  rotate_left
  · obtain rfl := hS
    go_simp
    all_goals first | done | rfl | omega | (simp; done) | (simp; omega)
  simp only [Act.put, List.setIfInBounds_toArray, List.set_cons_zero, List.set_cons_succ]
  refine M_val (i := 6) (v := .slice A x.bs.length cap) SU.out rfl (by kernel_rfl) HS.out rfl (fun W hS => ?_) ?_
  · obtain rfl := hS
    go_simp
    all_goals first | done | rfl | omega | (simp; done) | (simp; omega)
  simp only [Act.put, List.setIfInBounds_toArray, List.set_cons_zero, List.set_cons_succ]
  refine M_move (i := 7) _ SU.out rfl rfl (by kernel_rfl) HS.out rfl ?_
  simp only [Act.put, Act.eval, Array.getD_eq_getD_getElem?, List.setIfInBounds_toArray, List.set_cons_zero, List.set_cons_succ, List.getElem?_toArray, List.getElem?_cons_zero, List.getElem?_cons_succ, Option.getD_some]
  refine M_val (i := 8) (v := ?_) SU.out rfl (by kernel_rfl) HS.out rfl (fun W hS => ?_) ?_
  rotate_left
  · obtain rfl := hS
    go_simp
    all_goals first | done | rfl | omega | (simp; done) | (simp; omega)
  simp only [Act.put, List.setIfInBounds_toArray, List.set_cons_zero, List.set_cons_succ]
  refine M_val (i := 9) (v := ?_) SU.out rfl (by kernel_rfl) HS.out rfl (fun W hS => ?_) ?_
  rotate_left
  · obtain rfl := hS
    go_simp
    all_goals first | done | rfl | omega | (simp; done) | (simp; omega)
  simp only [Act.put, List.setIfInBounds_toArray, List.set_cons_zero, List.set_cons_succ]
  refine M_val (i := 10) (v := .bool false) SU.out rfl (by kernel_rfl) HS.out rfl (fun W hS => ?_) ?_
  · obtain rfl := hS
    go_simp
    all_goals first | done | rfl | omega | (simp; done) | (simp; omega)
  simp only [Act.put, List.setIfInBounds_toArray, List.set_cons_zero, List.set_cons_succ]
  refine M_call (i := 11) SU.out rfl (by kernel_rfl) HS.out rfl (fun W hS => by rw [hS]; exact HFIRST.out) (fun W => ?_) ?_
  · go_simp
    first | done | rfl
  simp only [Act.put, List.setIfInBounds_toArray, List.set_cons_zero, List.set_cons_succ]
  refine M_move (i := 12) _ SU.out rfl rfl (by kernel_rfl) HS.out rfl ?_
  simp only [Act.put, Act.eval, Array.getD_eq_getD_getElem?, List.setIfInBounds_toArray, List.set_cons_zero, List.set_cons_succ, List.getElem?_toArray, List.getElem?_cons_zero, List.getElem?_cons_succ, Option.getD_some]
  refine M_val (i := 13) (v := .int .i64 0) SU.out rfl (by kernel_rfl) HS.out rfl (fun W hS => ?_) ?_
  · obtain rfl := hS
    go_simp
    all_goals first | done | rfl | omega | (simp; done) | (simp; omega)
  simp only [Act.put, List.setIfInBounds_toArray, List.set_cons_zero, List.set_cons_succ]
  refine M_val (i := 14) (v := .int .i64 0) SU.out rfl (by kernel_rfl) HS.out rfl (fun W hS => ?_) ?_
  · obtain rfl := hS
    go_simp
    all_goals first | done | rfl | omega | (simp; done) | (simp; omega)
  simp only [Act.put, List.setIfInBounds_toArray, List.set_cons_zero, List.set_cons_succ]
  refine M_val (i := 15) (v := .int .i64 0) SU.out rfl (by kernel_rfl) HS.out rfl (fun W hS => ?_) ?_
  · obtain rfl := hS
    go_simp
    all_goals first | done | rfl | omega | (simp; done) | (simp; omega)
  simp only [Act.put, List.setIfInBounds_toArray, List.set_cons_zero, List.set_cons_succ]
  refine M_val (i := 16) (v := .bool false) SU.out rfl (by kernel_rfl) HS.out rfl (fun W hS => ?_) ?_
  · obtain rfl := hS
    go_simp
    all_goals first | done | rfl | omega | (simp; done) | (simp; omega)
  simp only [Act.put, List.setIfInBounds_toArray, List.set_cons_zero, List.set_cons_succ]
  refine M_val (i := 17) (v := ?_) SU.out rfl (by kernel_rfl) HS.out rfl (fun W hS => ?_) ?_
  rotate_left
  · obtain rfl := hS
    go_simp
    all_goals first | done | rfl | omega | (simp; done) | (simp; omega)
  simp only [Act.put, List.setIfInBounds_toArray, List.set_cons_zero, List.set_cons_succ]
  refine M_val (i := 18) (v := ?_) SU.out rfl (by kernel_rfl) HS.out rfl (fun W hS => ?_) ?_
  rotate_left
  · obtain rfl := hS
    go_simp
    all_goals first | done | rfl | omega | (simp; done) | (simp; omega)
  simp only [Act.put, List.setIfInBounds_toArray, List.set_cons_zero, List.set_cons_succ]
  refine M_val (i := 19) (v := ?_) SU.out rfl (by kernel_rfl) HS.out rfl (fun W hS => ?_) ?_
  rotate_left
  · obtain rfl := hS
    go_simp
    all_goals first | done | rfl | omega | (simp; done) | (simp; omega)
  simp only [Act.put, List.setIfInBounds_toArray, List.set_cons_zero, List.set_cons_succ]
  refine M_val (i := 20) (v := ?_) SU.out rfl (by kernel_rfl) HS.out rfl (fun W hS => ?_) ?_
  rotate_left
  · obtain rfl := hS
    go_simp
    all_goals first | done | rfl | omega | (simp; done) | (simp; omega)
  simp only [Act.put, List.setIfInBounds_toArray, List.set_cons_zero, List.set_cons_succ]
  refine wpAnyM_done (by kernel_rfl) (fun w' hG => ?_)
  obtain rfl := hG
  have t1 : decide (x.room ≤ (x.bs.length : Int)) = false := decide_eq_false (by omega)
  have d3' : wd.drew.cell? ⟨q, 3, none⟩ = some (.int .i64 x.room) := d3
  have d4' : wd.drew.cell? ⟨q, 4, none⟩ = some (.slice A x.bs.length cap) := d4
  have hr3 : CuR wd.drew q x (.slice A x.bs.length cap) := ⟨HR2.out.1.drew, Own.fr (l := []) HR2.out.2 ((Fr.refl [] wd).drew) (by simp)⟩
  have HR3 := Lib.hid hr3
  have HFD2 : Hid (Fr [] w wd.drew) := Lib.hid HFD.out.drew
  clear HFIRST hr3
  go_upto_region 11 with fail
  refine wp_region_M_ (G := fun a b => a = b) (S := fun W => W = wd.drew) ⟨fun _ => rfl, fun a b c h k => h.trans k, fun a b h k => k ▸ h, by kernel_rfl, fun _ _ d _ _ h => by cases d <;> exact h⟩ (by kernel_rfl) fun su => ?_
  have SU := Lib.hid su
  have HS : Hid (wd.drew = wd.drew) := Lib.hid rfl
  clear su
  generalize wd.drew = wD at *
  refine M_move (i := 0) _ SU.out rfl rfl (by kernel_rfl) HS.out rfl ?_
  simp only [Act.put, Act.eval, Array.getD_eq_getD_getElem?, List.setIfInBounds_toArray, List.set_cons_zero, List.set_cons_succ, List.getElem?_toArray, List.getElem?_cons_zero, List.getElem?_cons_succ, Option.getD_some]
  refine M_val (i := 1) (v := ?_) SU.out rfl (by kernel_rfl) HS.out rfl (fun W hS => ?_) ?_
  rotate_left
  · obtain rfl := hS
    go_simp
    all_goals first | done | rfl | omega | (simp; done) | (simp; omega)
  simp only [Act.put, List.setIfInBounds_toArray, List.set_cons_zero, List.set_cons_succ]
  refine M_val (i := 2) (v := ?_) SU.out rfl (by kernel_rfl) HS.out rfl (fun W hS => ?_) ?_
  rotate_left
  · obtain rfl := hS
    go_simp
    all_goals first | done | rfl | omega | (simp; done) | (simp; omega)
  simp only [Act.put, List.setIfInBounds_toArray, List.set_cons_zero, List.set_cons_succ]
  refine M_val (i := 3) (v := .slice A x.bs.length cap) SU.out rfl (by kernel_rfl) HS.out rfl (fun W hS => ?_) ?_
  · obtain rfl := hS
    go_simp
    all_goals first | done | rfl | omega | (simp; done) | (simp; omega)
  simp only [Act.put, List.setIfInBounds_toArray, List.set_cons_zero, List.set_cons_succ]
  refine M_val (i := 4) (v := ?_) SU.out rfl (by kernel_rfl) HS.out rfl (fun W hS => ?_) ?_
  rotate_left
  · obtain rfl := hS
    go_simp
    all_goals first | done | rfl | omega | (simp; done) | (simp; omega)
  simp only [Act.put, List.setIfInBounds_toArray, List.set_cons_zero, List.set_cons_succ]
  refine M_move (i := 5) _ SU.out rfl rfl (by kernel_rfl) HS.out rfl ?_
  simp only [Act.put, Act.eval, Array.getD_eq_getD_getElem?, List.setIfInBounds_toArray, List.set_cons_zero, List.set_cons_succ, List.getElem?_toArray, List.getElem?_cons_zero, List.getElem?_cons_succ, Option.getD_some]
  refine M_val (i := 6) (v := ?_) SU.out rfl (by kernel_rfl) HS.out rfl (fun W hS => ?_) ?_
  rotate_left
  · obtain rfl := hS
    go_simp
    all_goals first | done | rfl | omega | (simp; done) | (simp; omega)
  simp only [Act.put, List.setIfInBounds_toArray, List.set_cons_zero, List.set_cons_succ]
  refine M_val (i := 7) (v := ?_) SU.out rfl (by kernel_rfl) HS.out rfl (fun W hS => ?_) ?_
  rotate_left
  · obtain rfl := hS
    go_simp
    all_goals first | done | rfl | omega | (simp; done) | (simp; omega)
  simp only [Act.put, List.setIfInBounds_toArray, List.set_cons_zero, List.set_cons_succ]
  refine M_val (i := 8) (v := .int .i64 x.room) SU.out rfl (by kernel_rfl) HS.out rfl (fun W hS => ?_) ?_
  · obtain rfl := hS
    go_simp
    all_goals first | done | rfl | omega | (simp; done) | (simp; omega)
  simp only [Act.put, List.setIfInBounds_toArray, List.set_cons_zero, List.set_cons_succ]
  refine M_val (i := 9) (v := .bool false) SU.out rfl (by kernel_rfl) HS.out rfl (fun W hS => ?_) ?_
  · obtain rfl := hS
    go_simp
    all_goals first | done | rfl | omega | (simp; done) | (simp; omega)
  simp only [Act.put, List.setIfInBounds_toArray, List.set_cons_zero, List.set_cons_succ]
  refine wpAnyM_done (by kernel_rfl) (fun w' hG => ?_)
  obtain rfl := hG
  go_wp2_with fail
  go_ret3
  exact ⟨rfl, _, HR3.out, HFD2.out.nil_, fun k hk => .inl hk⟩
end Go.Proofs.YtecdghjimcfhpaaGreatDoor
