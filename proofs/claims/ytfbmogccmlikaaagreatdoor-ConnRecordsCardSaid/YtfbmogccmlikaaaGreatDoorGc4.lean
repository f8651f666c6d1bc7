/-
 A cutter's Next, its separator any. No conditions on the program. (Printed by tools/gengc4.py.)
-/
import Derived.Test.YtfbmogccmlikaaaGreatDoorHb
namespace Go.Proofs.YtfbmogccmlikaaaGreatDoor.G
open Go.RowKit
set_option linter.unusedVariables false
set_option linter.unusedSimpArgs false
theorem finder_fr {w w' : World} {lo fb : Nat} {L : List Sp} (h : FinderAt w lo fb L) (hf : Fr [] w w') : FinderAt w' lo fb L := by
 obtain ⟨A, cap, hb, hr⟩ := h
 exact ⟨A, cap, hb.fr hf (by simp), own_fr hr hf (fun _ _ => by simp)⟩
theorem SepV.fr_nil {w w' : World} {k c : Int} {f : Value} {s : Sep} (h : SepV w k c f s) (hf : Fr [] w w') : SepV w' k c f s := by
 cases s with
 | para => exact h
 | one x => exact h
 | expr L =>
  obtain ⟨h1, lo, fb, h2, h3, h4⟩ := h
  exact ⟨h1, lo, fb, h2, finder_fr h3 hf, h4⟩
def skipG : Sep → List UInt8 → List UInt8
 | .para, b => b.drop (nlM b)
 | .one _, b => b
 | .expr _, b => b
theorem recsG_skipG (s : Sep) (b m : List UInt8) : recsG s (b ++ m) = recsG s (skipG s b ++ m) := by
 cases s with
 | para => exact recsG_skip b m
 | one c => rfl
 | expr L => rfl
theorem skipG_len (s : Sep) (b : List UInt8) : (skipG s b).length ≤ b.length := by
 cases s with
 | para => unfold skipG; rw [List.length_drop]; omega
 | one c => exact Nat.le_refl _
 | expr L => exact Nat.le_refl _
set_option maxRecDepth 100000 in
set_option maxHeartbeats 4000000 in
theorem next_ok {w : World} {q : Nat} {x : Cu} {v : Value} {s : Sep} (h : CuR w q x v) (hv : SepV w x.k x.c x.f s) (hs : s.ok) (hg : GlobOk w) (hb : x.bs.length ≤ 10000) (fr tb nx : Nat) (he : firstG s x.bs x.en = some (fr, tb, nx)) (y : Cu) (hy : { x with bs := x.bs.drop nx } = y) (t : List UInt8) (ht : (x.bs.drop fr).take (tb - fr) = t) :
    Calls Tryz.prog 29 #[.pointer (some ⟨q, 0, none⟩)] w fun e w' => e = .returned (.tuple #[.string ⟨t.toArray⟩, .bool true, .nilIface]) ∧ CuTo w q v w' y := by
 obtain ⟨i0, hi0, hz0, hz1, hz2⟩ := u8parts
 obtain ⟨A, cap, rfl, hcap, hmx, hby0, hnil⟩ := OwnB.val h.2
 have hlt0 : ∀ a, A = some a → a.block < w.heap.size := fun a ha => by subst ha; exact Own.lt h.2 _ rfl
 obtain ⟨hb1, hb2, hb3, hb4⟩ := first_bounds hs he
 have HE := Lib.hid he
 subst hy ht
 clear he
 have hfd : Fr [] w w.drew := (Fr.refl [] w).drew
 have hr2 : CuR w.drew q x (.slice A x.bs.length cap) := ⟨h.1.drew, Own.fr (l := []) h.2 hfd (by simp)⟩
 have HFD : Hid (Fr [] w w.drew) := Lib.hid hfd
 have HR2 := Lib.hid hr2
 have HFIRST : Hid (∀ W, Fr [] w.drew W → Calls Tryz.prog 32 #[.pointer (some ⟨q, 0, none⟩), .slice A x.bs.length cap, .bool x.en] W (FstPost W (firstG s x.bs x.en))) := Lib.hid (fun W hW => by
  obtain ⟨d0, d1, d2, -⟩ := cu_cells (hr2.1.fr hW (by simp))
  have h1 := hfd.trans hW
  exact first_gen d0 d1 d2 (hv.fr_nil h1) hs rfl (At.fr_nil hby0 h1) hnil hcap (fun a ha => Nat.lt_of_lt_of_le (hlt0 a ha) h1.size) hb (hg.fr h1) x.en)
 have HBY0 := Lib.hid hby0
 clear h hr2 hfd hby0 hlt0 hg
 go_enter Tryz.func29, Tryz.ntmps29
 go_upto_region 1 with fail
 refine wp_region_M_ (G := fun a b => Fr [] a b) (S := fun W => Fr [] w.drew W) ⟨fun _ => Fr.refl _ _, fun a b c h k => h.trans k, fun a b h k => h.trans k, by kernel_rfl, fun _ _ d _ _ h => by cases d <;> exact h⟩ (by kernel_rfl) fun su => ?_
 have SU := Lib.hid su
 have HS : Hid (Fr [] w.drew w.drew) := Lib.hid (Fr.refl _ _)
 clear su
 generalize w.drew = wd at *
 refine M_move (i := 0) _ SU.out rfl rfl (by kernel_rfl) HS.out rfl ?_
 simp only [Act.put, Act.eval, PE]
 refine M_val (i := 1) (v := ?_) SU.out rfl (by kernel_rfl) HS.out rfl (fun W hS => ?_) ?_
 rotate_left
 ·obtain ⟨d0, d1, d2, d3, d4, d5⟩ := cu_cells (HR2.out.1.fr hS (by simp)); have hS2 := hS
  go_simp
  all_goals first | done | rfl | omega | (simp; done) | (simp; omega)
 simp only [Act.put, PU]
 refine M_val (i := 2) (v := .pointer (some ⟨q, 0, none⟩)) SU.out rfl (by kernel_rfl) HS.out rfl (fun W hS => ?_) ?_
 ·obtain ⟨d0, d1, d2, d3, d4, d5⟩ := cu_cells (HR2.out.1.fr hS (by simp)); have hS2 := hS
  go_simp
  all_goals first | done | rfl | omega | (simp; done) | (simp; omega)
 simp only [Act.put, PU]
 refine M_move (i := 3) _ SU.out rfl rfl (by kernel_rfl) HS.out rfl ?_
 simp only [Act.put, Act.eval, PE]
 refine M_val (i := 4) (v := ?_) SU.out rfl (by kernel_rfl) HS.out rfl (fun W hS => ?_) ?_
 rotate_left
 ·obtain ⟨d0, d1, d2, d3, d4, d5⟩ := cu_cells (HR2.out.1.fr hS (by simp)); have hS2 := hS
  go_simp
  all_goals first | done | rfl | omega | (simp; done) | (simp; omega)
 simp only [Act.put, PU]
 refine M_val (i := 5) (v := ?_) SU.out rfl (by kernel_rfl) HS.out rfl (fun W hS => ?_) ?_
 rotate_left
 ·obtain ⟨d0, d1, d2, d3, d4, d5⟩ := cu_cells (HR2.out.1.fr hS (by simp)); have hS2 := hS
  go_simp
  all_goals first | done | rfl | omega | (simp; done) | (simp; omega)
 simp only [Act.put, PU]
 refine M_val (i := 6) (v := .slice A x.bs.length cap) SU.out rfl (by kernel_rfl) HS.out rfl (fun W hS => ?_) ?_
 ·obtain ⟨d0, d1, d2, d3, d4, d5⟩ := cu_cells (HR2.out.1.fr hS (by simp)); have hS2 := hS
  go_simp
  all_goals first | done | rfl | omega | (simp; done) | (simp; omega)
 simp only [Act.put, PU]
 refine M_move (i := 7) _ SU.out rfl rfl (by kernel_rfl) HS.out rfl ?_
 simp only [Act.put, Act.eval, PE]
 refine M_val (i := 8) (v := ?_) SU.out rfl (by kernel_rfl) HS.out rfl (fun W hS => ?_) ?_
 rotate_left
 ·obtain ⟨d0, d1, d2, d3, d4, d5⟩ := cu_cells (HR2.out.1.fr hS (by simp)); have hS2 := hS
  go_simp
  all_goals first | done | rfl | omega | (simp; done) | (simp; omega)
 simp only [Act.put, PU]
 refine M_val (i := 9) (v := ?_) SU.out rfl (by kernel_rfl) HS.out rfl (fun W hS => ?_) ?_
 rotate_left
 ·obtain ⟨d0, d1, d2, d3, d4, d5⟩ := cu_cells (HR2.out.1.fr hS (by simp)); have hS2 := hS
  go_simp
  all_goals first | done | rfl | omega | (simp; done) | (simp; omega)
 simp only [Act.put, PU]
 refine M_val (i := 10) (v := .bool x.en) SU.out rfl (by kernel_rfl) HS.out rfl (fun W hS => ?_) ?_
 ·obtain ⟨d0, d1, d2, d3, d4, d5⟩ := cu_cells (HR2.out.1.fr hS (by simp)); have hS2 := hS
  go_simp
  all_goals first | done | rfl | omega | (simp; done) | (simp; omega)
 simp only [Act.put, PU]
 refine M_call (i := 11) (v := .tuple #[.int .i64 (fr : Int), .int .i64 (tb : Int), .int .i64 (nx : Int), .bool true]) SU.out rfl (by kernel_rfl) HS.out rfl (fun W hS => by have hF := HFIRST.out W hS; rw [HE.out] at hF; exact hF) (fun W => ?_) ?_
 ·go_simp
  first | done | rfl
 simp only [Act.put, PU]
 refine M_move (i := 12) _ SU.out rfl rfl (by kernel_rfl) HS.out rfl ?_
 simp only [Act.put, Act.eval, PE]
 refine M_val (i := 13) (v := .int .i64 (fr : Int)) SU.out rfl (by kernel_rfl) HS.out rfl (fun W hS => ?_) ?_
 ·obtain ⟨d0, d1, d2, d3, d4, d5⟩ := cu_cells (HR2.out.1.fr hS (by simp)); have hS2 := hS
  go_simp
  all_goals first | done | rfl | omega | (simp; done) | (simp; omega)
 simp only [Act.put, PU]
 refine M_val (i := 14) (v := .int .i64 (tb : Int)) SU.out rfl (by kernel_rfl) HS.out rfl (fun W hS => ?_) ?_
 ·obtain ⟨d0, d1, d2, d3, d4, d5⟩ := cu_cells (HR2.out.1.fr hS (by simp)); have hS2 := hS
  go_simp
  all_goals first | done | rfl | omega | (simp; done) | (simp; omega)
 simp only [Act.put, PU]
 refine M_val (i := 15) (v := .int .i64 (nx : Int)) SU.out rfl (by kernel_rfl) HS.out rfl (fun W hS => ?_) ?_
 ·obtain ⟨d0, d1, d2, d3, d4, d5⟩ := cu_cells (HR2.out.1.fr hS (by simp)); have hS2 := hS
  go_simp
  all_goals first | done | rfl | omega | (simp; done) | (simp; omega)
 simp only [Act.put, PU]
 refine M_val (i := 16) (v := .bool true) SU.out rfl (by kernel_rfl) HS.out rfl (fun W hS => ?_) ?_
 ·obtain ⟨d0, d1, d2, d3, d4, d5⟩ := cu_cells (HR2.out.1.fr hS (by simp)); have hS2 := hS
  go_simp
  all_goals first | done | rfl | omega | (simp; done) | (simp; omega)
 simp only [Act.put, PU]
 refine M_val (i := 17) (v := ?_) SU.out rfl (by kernel_rfl) HS.out rfl (fun W hS => ?_) ?_
 rotate_left
 ·obtain ⟨d0, d1, d2, d3, d4, d5⟩ := cu_cells (HR2.out.1.fr hS (by simp)); have hS2 := hS
  go_simp
  all_goals first | done | rfl | omega | (simp; done) | (simp; omega)
 simp only [Act.put, PU]
 refine M_val (i := 18) (v := ?_) SU.out rfl (by kernel_rfl) HS.out rfl (fun W hS => ?_) ?_
 rotate_left
 ·obtain ⟨d0, d1, d2, d3, d4, d5⟩ := cu_cells (HR2.out.1.fr hS (by simp)); have hS2 := hS
  go_simp
  all_goals first | done | rfl | omega | (simp; done) | (simp; omega)
 simp only [Act.put, PU]
 refine M_val (i := 19) (v := ?_) SU.out rfl (by kernel_rfl) HS.out rfl (fun W hS => ?_) ?_
 rotate_left
 ·obtain ⟨d0, d1, d2, d3, d4, d5⟩ := cu_cells (HR2.out.1.fr hS (by simp)); have hS2 := hS
  go_simp
  all_goals first | done | rfl | omega | (simp; done) | (simp; omega)
 simp only [Act.put, PU]
 refine M_val (i := 20) (v := ?_) SU.out rfl (by kernel_rfl) HS.out rfl (fun W hS => ?_) ?_
 rotate_left
 ·obtain ⟨d0, d1, d2, d3, d4, d5⟩ := cu_cells (HR2.out.1.fr hS (by simp)); have hS2 := hS
  go_simp
  all_goals first | done | rfl | omega | (simp; done) | (simp; omega)
 simp only [Act.put, PU]
 refine wpAnyM_done (by kernel_rfl) (fun wy hG => ?_)
 have hr3 : CuR wy q x (.slice A x.bs.length cap) := ⟨HR2.out.1.fr hG (by simp), Own.fr (l := []) HR2.out.2 hG (by simp)⟩
 have HR3 := Lib.hid hr3; have HFY := Lib.hid (HFD.out.trans hG); have HBY := Lib.hid (At.fr_nil HBY0.out (HFD.out.trans hG))
 obtain ⟨d0, d1, d2, d3, d4, d5⟩ := cu_cells hr3.1
 have f4 := hr3.1.frozen 4
 have f5 := hr3.1.frozen 5
 clear hG hr3 HFD HR2 HFIRST HBY0 HS SU
 clear d0 d1 d2 d3 d5 f4 f5
 have hlx : (byteVals x.bs).length = x.bs.length := byteVals_length _
 go_upto_region 4 with (first
  | (refine wpList_cut rfl 34 (.tmp 29) (some (.tmp 30)) (some (.tmp 31)) none rfl 5 i0 Tryz.underlying34 hi0 hz1 A x.bs.length cap (by rfl) (byteVals x.bs) HBY.out hlx hcap hnil fr tb cap (.inr (by rfl)) (.inr (by rfl)) (.inl ⟨by rfl, rfl⟩) (by omega) (by omega) (Nat.le_refl _) (by omega) ?_; intro X1 hX1 hX1n hX1b; have HX1 : Hid (At wy X1 (byteVals ((x.bs.drop fr).take (tb - fr)))) := Lib.hid (by have := hX1; simpa [byteVals, List.map_take, List.map_drop] using this); clear hX1 hX1n hX1b)
  | (refine wpList_str rfl 34 9 (.tmp 32) rfl 5 Tryz.underlying34 Tryz.underlying5 Tryz.underlying9 X1 (tb - fr) (cap - fr) (by rfl) ((x.bs.drop fr).take (tb - fr)) HX1.out (by rw [List.length_take, List.length_drop]; omega) ?_))
 have d4' := d4
 go_upto_region 5 with (first
  | (refine wpList_cut rfl 34 (.tmp 38) (some (.tmp 39)) none none rfl 5 i0 Tryz.underlying34 hi0 hz1 A x.bs.length cap (by rfl) (byteVals x.bs) HBY.out hlx hcap hnil nx x.bs.length cap (.inr (by rfl)) (.inl ⟨by rfl, rfl, rfl⟩) (.inl ⟨by rfl, rfl⟩) (by omega) hcap (Nat.le_refl _) (Nat.le_refl _) ?_; intro X2 hX2 hX2n hX2b; have HX2 : Hid (At wy X2 (byteVals (x.bs.drop nx))) := Lib.hid (by have := hX2; rw [List.take_of_length_le (by rw [List.length_drop, hlx]; exact Nat.le_refl _)] at this; simpa [byteVals, List.map_drop] using this); clear hX2 hX2n hX2b)
  | (at_builtin; refine wpList_append_OwnS rfl (.const (.slice none 0 0)) (.tmp 40) 34 rfl 5 i0 _ Tryz.underlying34 hi0 hz0 hz1 rfl (.slice none 0 0) [] 0 rfl (by rfl) (Own.nil_ _ _) X2 (x.bs.length - nx) (cap - nx) (by rfl) (byteVals (x.bs.drop nx)) HX2.out (by rw [byteVals_length, List.length_drop]) (byteVals_one _) (by unfold maxLen; omega) (by rw [hz2]; omega) ?_; intro A3 c3 w3 hown hgr hloc; have HOWN := Lib.hid hown; have HGR := Lib.hid hgr; have HLOC := Lib.hid hloc; have hw3 := HR3.out.1.grown hgr (by simp [Value.ownBlock]); have f4 := hw3.frozen 4; have c4 := hw3.cell_ (i := 4) rfl; have HW3 := Lib.hid hw3; clear hown hgr hloc hw3))
 clear f4 c4 d4 d4'
 go_wp2_with fail
 go_ret3
 have hs : Fr [q] w3 (w3.setCell ⟨q, 4, none⟩ (.slice A3 (x.bs.length - nx) c3)) := (Fr.refl _ _).setCell (.inl (by simp)) _
 have ho3 : OwnB w3 (.slice A3 (x.bs.length - nx) c3) (x.bs.drop nx) := by have := HOWN.out; rw [List.nil_append, Nat.zero_add] at this; exact this
 refine ⟨rfl, .slice A3 (x.bs.length - nx) c3, ⟨HW3.out.put 4 _, Own.fr ho3 hs (fun k hk => by have := Own.ne_bk ho3 HW3.out (by decide); simp; rintro rfl; exact this hk)⟩, ?_, ?_⟩
 ·exact (HFY.out.nil_.grown HGR.out (fun g hg => by simp [Value.ownBlock] at hg)).trans' hs (fun i hi => .inl (by simp at hi; simp [hi]))
 ·intro k hk
  have hl := HLOC.out
  rw [Nat.zero_add] at hl
  rcases hl with e | e
  ·rw [hk] at e; simp [Value.ownBlock] at e
  ·rw [hk] at e; injection e with e; have := HFY.out.size; exact .inr (by omega)
set_option maxRecDepth 100000 in
set_option maxHeartbeats 4000000 in
theorem next_done {w : World} {q : Nat} {x : Cu} {v : Value} {s : Sep} (h : CuR w q x v) (hv : SepV w x.k x.c x.f s) (hs : s.ok) (hg : GlobOk w) (hb : x.bs.length ≤ 10000) (hen : x.en = true) (he : firstG s x.bs x.en = none) (y : Cu) (hy : { x with bs := [] } = y) :
    Calls Tryz.prog 29 #[.pointer (some ⟨q, 0, none⟩)] w fun e w' => e = .returned (.tuple #[.string ⟨#[]⟩, .bool false, .nilIface]) ∧ CuTo w q v w' y := by
 obtain ⟨i0, hi0, hz0, hz1, hz2⟩ := u8parts
 obtain ⟨A, cap, rfl, hcap, hmx, hby0, hnil⟩ := OwnB.val h.2
 have hlt0 : ∀ a, A = some a → a.block < w.heap.size := fun a ha => by subst ha; exact Own.lt h.2 _ rfl
 have HE := Lib.hid he
 subst hy
 clear he
 have hfd : Fr [] w w.drew := (Fr.refl [] w).drew
 have hr2 : CuR w.drew q x (.slice A x.bs.length cap) := ⟨h.1.drew, Own.fr (l := []) h.2 hfd (by simp)⟩
 have HFD : Hid (Fr [] w w.drew) := Lib.hid hfd
 have HR2 := Lib.hid hr2
 have HFIRST : Hid (∀ W, Fr [] w.drew W → Calls Tryz.prog 32 #[.pointer (some ⟨q, 0, none⟩), .slice A x.bs.length cap, .bool x.en] W (FstPost W (firstG s x.bs x.en))) := Lib.hid (fun W hW => by
  obtain ⟨d0, d1, d2, -⟩ := cu_cells (hr2.1.fr hW (by simp))
  have h1 := hfd.trans hW
  exact first_gen d0 d1 d2 (hv.fr_nil h1) hs rfl (At.fr_nil hby0 h1) hnil hcap (fun a ha => Nat.lt_of_lt_of_le (hlt0 a ha) h1.size) hb (hg.fr h1) x.en)
 have HBY0 := Lib.hid hby0
 clear h hr2 hfd hby0 hlt0 hg
 go_enter Tryz.func29, Tryz.ntmps29
 go_upto_region 1 with fail
 refine wp_region_M_ (G := fun a b => Fr [] a b) (S := fun W => Fr [] w.drew W) ⟨fun _ => Fr.refl _ _, fun a b c h k => h.trans k, fun a b h k => h.trans k, by kernel_rfl, fun _ _ d _ _ h => by cases d <;> exact h⟩ (by kernel_rfl) fun su => ?_
 have SU := Lib.hid su
 have HS : Hid (Fr [] w.drew w.drew) := Lib.hid (Fr.refl _ _)
 clear su
 generalize w.drew = wd at *
 refine M_move (i := 0) _ SU.out rfl rfl (by kernel_rfl) HS.out rfl ?_
 simp only [Act.put, Act.eval, PE]
 refine M_val (i := 1) (v := ?_) SU.out rfl (by kernel_rfl) HS.out rfl (fun W hS => ?_) ?_
 rotate_left
 ·obtain ⟨d0, d1, d2, d3, d4, d5⟩ := cu_cells (HR2.out.1.fr hS (by simp)); have hS2 := hS
  go_simp
  all_goals first | done | rfl | omega | (simp; done) | (simp; omega)
 simp only [Act.put, PU]
 refine M_val (i := 2) (v := .pointer (some ⟨q, 0, none⟩)) SU.out rfl (by kernel_rfl) HS.out rfl (fun W hS => ?_) ?_
 ·obtain ⟨d0, d1, d2, d3, d4, d5⟩ := cu_cells (HR2.out.1.fr hS (by simp)); have hS2 := hS
  go_simp
  all_goals first | done | rfl | omega | (simp; done) | (simp; omega)
 simp only [Act.put, PU]
 refine M_move (i := 3) _ SU.out rfl rfl (by kernel_rfl) HS.out rfl ?_
 simp only [Act.put, Act.eval, PE]
 refine M_val (i := 4) (v := ?_) SU.out rfl (by kernel_rfl) HS.out rfl (fun W hS => ?_) ?_
 rotate_left
 ·obtain ⟨d0, d1, d2, d3, d4, d5⟩ := cu_cells (HR2.out.1.fr hS (by simp)); have hS2 := hS
  go_simp
  all_goals first | done | rfl | omega | (simp; done) | (simp; omega)
 simp only [Act.put, PU]
 refine M_val (i := 5) (v := ?_) SU.out rfl (by kernel_rfl) HS.out rfl (fun W hS => ?_) ?_
 rotate_left
 ·obtain ⟨d0, d1, d2, d3, d4, d5⟩ := cu_cells (HR2.out.1.fr hS (by simp)); have hS2 := hS
  go_simp
  all_goals first | done | rfl | omega | (simp; done) | (simp; omega)
 simp only [Act.put, PU]
 refine M_val (i := 6) (v := .slice A x.bs.length cap) SU.out rfl (by kernel_rfl) HS.out rfl (fun W hS => ?_) ?_
 ·obtain ⟨d0, d1, d2, d3, d4, d5⟩ := cu_cells (HR2.out.1.fr hS (by simp)); have hS2 := hS
  go_simp
  all_goals first | done | rfl | omega | (simp; done) | (simp; omega)
 simp only [Act.put, PU]
 refine M_move (i := 7) _ SU.out rfl rfl (by kernel_rfl) HS.out rfl ?_
 simp only [Act.put, Act.eval, PE]
 refine M_val (i := 8) (v := ?_) SU.out rfl (by kernel_rfl) HS.out rfl (fun W hS => ?_) ?_
 rotate_left
 ·obtain ⟨d0, d1, d2, d3, d4, d5⟩ := cu_cells (HR2.out.1.fr hS (by simp)); have hS2 := hS
  go_simp
  all_goals first | done | rfl | omega | (simp; done) | (simp; omega)
 simp only [Act.put, PU]
 refine M_val (i := 9) (v := ?_) SU.out rfl (by kernel_rfl) HS.out rfl (fun W hS => ?_) ?_
 rotate_left
 ·obtain ⟨d0, d1, d2, d3, d4, d5⟩ := cu_cells (HR2.out.1.fr hS (by simp)); have hS2 := hS
  go_simp
  all_goals first | done | rfl | omega | (simp; done) | (simp; omega)
 simp only [Act.put, PU]
 refine M_val (i := 10) (v := .bool x.en) SU.out rfl (by kernel_rfl) HS.out rfl (fun W hS => ?_) ?_
 ·obtain ⟨d0, d1, d2, d3, d4, d5⟩ := cu_cells (HR2.out.1.fr hS (by simp)); have hS2 := hS
  go_simp
  all_goals first | done | rfl | omega | (simp; done) | (simp; omega)
 simp only [Act.put, PU]
 refine M_call (i := 11) (v := .tuple #[.int .i64 0, .int .i64 0, .int .i64 0, .bool false]) SU.out rfl (by kernel_rfl) HS.out rfl (fun W hS => by have hF := HFIRST.out W hS; rw [HE.out] at hF; exact hF) (fun W => ?_) ?_
 ·go_simp
  first | done | rfl
 simp only [Act.put, PU]
 refine M_move (i := 12) _ SU.out rfl rfl (by kernel_rfl) HS.out rfl ?_
 simp only [Act.put, Act.eval, PE]
 refine M_val (i := 13) (v := .int .i64 0) SU.out rfl (by kernel_rfl) HS.out rfl (fun W hS => ?_) ?_
 ·obtain ⟨d0, d1, d2, d3, d4, d5⟩ := cu_cells (HR2.out.1.fr hS (by simp)); have hS2 := hS
  go_simp
  all_goals first | done | rfl | omega | (simp; done) | (simp; omega)
 simp only [Act.put, PU]
 refine M_val (i := 14) (v := .int .i64 0) SU.out rfl (by kernel_rfl) HS.out rfl (fun W hS => ?_) ?_
 ·obtain ⟨d0, d1, d2, d3, d4, d5⟩ := cu_cells (HR2.out.1.fr hS (by simp)); have hS2 := hS
  go_simp
  all_goals first | done | rfl | omega | (simp; done) | (simp; omega)
 simp only [Act.put, PU]
 refine M_val (i := 15) (v := .int .i64 0) SU.out rfl (by kernel_rfl) HS.out rfl (fun W hS => ?_) ?_
 ·obtain ⟨d0, d1, d2, d3, d4, d5⟩ := cu_cells (HR2.out.1.fr hS (by simp)); have hS2 := hS
  go_simp
  all_goals first | done | rfl | omega | (simp; done) | (simp; omega)
 simp only [Act.put, PU]
 refine M_val (i := 16) (v := .bool false) SU.out rfl (by kernel_rfl) HS.out rfl (fun W hS => ?_) ?_
 ·obtain ⟨d0, d1, d2, d3, d4, d5⟩ := cu_cells (HR2.out.1.fr hS (by simp)); have hS2 := hS
  go_simp
  all_goals first | done | rfl | omega | (simp; done) | (simp; omega)
 simp only [Act.put, PU]
 refine M_val (i := 17) (v := ?_) SU.out rfl (by kernel_rfl) HS.out rfl (fun W hS => ?_) ?_
 rotate_left
 ·obtain ⟨d0, d1, d2, d3, d4, d5⟩ := cu_cells (HR2.out.1.fr hS (by simp)); have hS2 := hS
  go_simp
  all_goals first | done | rfl | omega | (simp; done) | (simp; omega)
 simp only [Act.put, PU]
 refine M_val (i := 18) (v := ?_) SU.out rfl (by kernel_rfl) HS.out rfl (fun W hS => ?_) ?_
 rotate_left
 ·obtain ⟨d0, d1, d2, d3, d4, d5⟩ := cu_cells (HR2.out.1.fr hS (by simp)); have hS2 := hS
  go_simp
  all_goals first | done | rfl | omega | (simp; done) | (simp; omega)
 simp only [Act.put, PU]
 refine M_val (i := 19) (v := ?_) SU.out rfl (by kernel_rfl) HS.out rfl (fun W hS => ?_) ?_
 rotate_left
 ·obtain ⟨d0, d1, d2, d3, d4, d5⟩ := cu_cells (HR2.out.1.fr hS (by simp)); have hS2 := hS
  go_simp
  all_goals first | done | rfl | omega | (simp; done) | (simp; omega)
 simp only [Act.put, PU]
 refine M_val (i := 20) (v := ?_) SU.out rfl (by kernel_rfl) HS.out rfl (fun W hS => ?_) ?_
 rotate_left
 ·obtain ⟨d0, d1, d2, d3, d4, d5⟩ := cu_cells (HR2.out.1.fr hS (by simp)); have hS2 := hS
  go_simp
  all_goals first | done | rfl | omega | (simp; done) | (simp; omega)
 simp only [Act.put, PU]
 refine wpAnyM_done (by kernel_rfl) (fun wy hG => ?_)
 have hr3 : CuR wy q x (.slice A x.bs.length cap) := ⟨HR2.out.1.fr hG (by simp), Own.fr (l := []) HR2.out.2 hG (by simp)⟩
 have HR3 := Lib.hid hr3; have HFY := Lib.hid (HFD.out.trans hG); have HBY := Lib.hid (At.fr_nil HBY0.out (HFD.out.trans hG))
 obtain ⟨d0, d1, d2, d3, d4, d5⟩ := cu_cells hr3.1
 have f4 := hr3.1.frozen 4
 have f5 := hr3.1.frozen 5
 clear hG hr3 HFD HR2 HFIRST HBY0 HS SU
 rw [hen] at d5
 clear d0 d1 d2 d3 f5
 go_wp2_with fail
 go_ret3
 have hs : Fr [q] wy (wy.setCell ⟨q, 4, none⟩ (.slice none 0 0)) := (Fr.refl _ _).setCell (.inl (by simp)) _
 exact ⟨rfl, .slice none 0 0, ⟨HR3.out.1.put 4 _, Own.nil_ _ _⟩, HFY.out.nil_.trans' hs (fun i hi => .inl (by simp at hi; simp [hi])), fun k hk => by simp [Value.ownBlock] at hk⟩
section
variable {P : Program} {Q : Exit → Act → World → Prop} {md : Region.Mode} {G : World → World → Prop} {S : World → Prop} {F : Nat → Bool} {l r : List Oper} {o : Oper} {i n : Nat} {listed : Array Bool} {a : Act} {w : World}
theorem F_cut3 (t : TypeId) (x ol : Operand) (su : Setup P l Q G S) (ho : l.drop i = o :: r) (hop : o.op = .slice t x (some ol) none none) (e : TypeId) (ti : TypeInfo) (ht : P.underlying t = some (.slice e)) (hi : P.info? e = some ti) (hs : ti.size = 1)
    (A : Option Addr) (len c lo : Nat) (hxv : a.eval x = .slice A len c) (hl : a.eval ol = .int .i64 (lo : Int)) (h0 : lo ≤ len) (h2 : len ≤ c)
    (hB : ((Region.ready md l.toArray listed).contains i && Region.free md l.toArray listed i && waits md l.toArray F i) = true) (hS : S w) (hw : Region.wanted o (yielded l.toArray a.tmps) = true)
    (hr : wpAnyF P md l.toArray Q G S F n (listed.setIfInBounds i true) (a.put o.dst (.slice (if c = lo then A else A.map (·.add (lo * 1))) (len - lo) (c - lo))) w) : wpAnyF P md l.toArray Q G S F (n + 1) listed a w := by
 refine F_val su ho hB hS hw (fun w' _ => ?_) hr
 have hrun : (Instr.sliceAt t (a.eval x) (some (a.eval ol)) none none).run P w' = .ok (.slice (if c = lo then A else A.map (·.add (lo * 1))) (len - lo) (c - lo)) w' := by
  rw [hxv, hl]
  have hb := run_bounds_ (P := P) len c (some (.int .i64 (lo : Int))) none none lo len c w' (.inr rfl) (.inl ⟨rfl, rfl, rfl⟩) (.inl ⟨rfl, rfl⟩) h0 h2 (Nat.le_refl _)
  simp [Instr.sliceAt, Instr.slice, run_underlying ht, sizeOf, typeInfo, hi, hs, hb]
 unfold execOp
 simp only [hop, Option.map_none, Option.map_some, hrun, Sem.run_bind, Result.andThen_ok, Sem.run_pure]
end
theorem cut_drop {w : World} {A : Option Addr} {bs : List UInt8} {c k : Nat} (h : Bytes w A bs) (hk : k ≤ bs.length) (hc : bs.length ≤ c) : At w (if c = k then A else A.map (·.add (k * 1))) (byteVals (bs.drop k)) := by
 by_cases e : c = k
 ·have : bs.drop k = [] := List.drop_of_length_le (by omega)
  rw [this]; exact .inl (by simp [byteVals])
 ·rw [if_neg e, Nat.mul_one]
  have := At.cut h (k := k) (cap := c) (by rw [byteVals_length]; exact hc)
  rw [if_neg e] at this
  simpa [byteVals, List.map_drop] using this
set_option maxRecDepth 100000 in
set_option maxHeartbeats 4000000 in
theorem next0_long {w : World} {q : Nat} {x : Cu} {v : Value} {s : Sep} (h : CuR w q x v) (hv : SepV w x.k x.c x.f s) (hs : s.ok) (hg : GlobOk w) (hb : x.bs.length ≤ 10000) (hen : x.en = false) (he : firstG s x.bs x.en = none) (hk : x.k ≠ 1) (hl : x.room ≤ (x.bs.length : Int)) :
    Calls Tryz.prog 29 #[.pointer (some ⟨q, 0, none⟩)] w fun e w' => e = .returned (.tuple #[.string ⟨#[]⟩, .bool false, errV 20]) ∧ CuTo w q v w' { x with bs := [], en := true } := by
 obtain ⟨i0, hi0, hz0, hz1, hz2⟩ := u8parts
 obtain ⟨A, cap, rfl, hcap, hmx, hby0, hnil⟩ := OwnB.val h.2
 have hlt0 : ∀ a, A = some a → a.block < w.heap.size := fun a ha => by subst ha; exact Own.lt h.2 _ rfl
 have HE := Lib.hid he
 have HK := Lib.hid hk
 clear he hk
 have HL := Lib.hid hl
 clear hl
 have hfd : Fr [] w w.drew := (Fr.refl [] w).drew
 have hr2 : CuR w.drew q x (.slice A x.bs.length cap) := ⟨h.1.drew, Own.fr (l := []) h.2 hfd (by simp)⟩
 have HFD : Hid (Fr [] w w.drew) := Lib.hid hfd
 have HR2 := Lib.hid hr2
 have HFIRST : Hid (∀ W, Fr [] w.drew W → Calls Tryz.prog 32 #[.pointer (some ⟨q, 0, none⟩), .slice A x.bs.length cap, .bool x.en] W (FstPost W (firstG s x.bs x.en))) := Lib.hid (fun W hW => by
  obtain ⟨d0, d1, d2, -⟩ := cu_cells (hr2.1.fr hW (by simp))
  have h1 := hfd.trans hW
  exact first_gen d0 d1 d2 (hv.fr_nil h1) hs rfl (At.fr_nil hby0 h1) hnil hcap (fun a ha => Nat.lt_of_lt_of_le (hlt0 a ha) h1.size) hb (hg.fr h1) x.en)
 have HBY0 := Lib.hid hby0
 clear h hr2 hfd hby0 hlt0 hg
 go_enter Tryz.func29, Tryz.ntmps29
 go_upto_region 1 with fail
 refine wp_region_M_ (G := fun a b => Fr [] a b) (S := fun W => Fr [] w.drew W) ⟨fun _ => Fr.refl _ _, fun a b c h k => h.trans k, fun a b h k => h.trans k, by kernel_rfl, fun _ _ d _ _ h => by cases d <;> exact h⟩ (by kernel_rfl) fun su => ?_
 have SU := Lib.hid su
 have HS : Hid (Fr [] w.drew w.drew) := Lib.hid (Fr.refl _ _)
 clear su
 generalize w.drew = wd at *
 refine M_move (i := 0) _ SU.out rfl rfl (by kernel_rfl) HS.out rfl ?_
 simp only [Act.put, Act.eval, PE]
 refine M_val (i := 1) (v := ?_) SU.out rfl (by kernel_rfl) HS.out rfl (fun W hS => ?_) ?_
 rotate_left
 ·obtain ⟨d0, d1, d2, d3, d4, d5⟩ := cu_cells (HR2.out.1.fr hS (by simp)); have hS2 := hS
  go_simp
  all_goals first | done | rfl | omega | (simp; done) | (simp; omega)
 simp only [Act.put, PU]
 refine M_val (i := 2) (v := .pointer (some ⟨q, 0, none⟩)) SU.out rfl (by kernel_rfl) HS.out rfl (fun W hS => ?_) ?_
 ·obtain ⟨d0, d1, d2, d3, d4, d5⟩ := cu_cells (HR2.out.1.fr hS (by simp)); have hS2 := hS
  go_simp
  all_goals first | done | rfl | omega | (simp; done) | (simp; omega)
 simp only [Act.put, PU]
 refine M_move (i := 3) _ SU.out rfl rfl (by kernel_rfl) HS.out rfl ?_
 simp only [Act.put, Act.eval, PE]
 refine M_val (i := 4) (v := ?_) SU.out rfl (by kernel_rfl) HS.out rfl (fun W hS => ?_) ?_
 rotate_left
 ·obtain ⟨d0, d1, d2, d3, d4, d5⟩ := cu_cells (HR2.out.1.fr hS (by simp)); have hS2 := hS
  go_simp
  all_goals first | done | rfl | omega | (simp; done) | (simp; omega)
 simp only [Act.put, PU]
 refine M_val (i := 5) (v := ?_) SU.out rfl (by kernel_rfl) HS.out rfl (fun W hS => ?_) ?_
 rotate_left
 ·obtain ⟨d0, d1, d2, d3, d4, d5⟩ := cu_cells (HR2.out.1.fr hS (by simp)); have hS2 := hS
  go_simp
  all_goals first | done | rfl | omega | (simp; done) | (simp; omega)
 simp only [Act.put, PU]
 refine M_val (i := 6) (v := .slice A x.bs.length cap) SU.out rfl (by kernel_rfl) HS.out rfl (fun W hS => ?_) ?_
 ·obtain ⟨d0, d1, d2, d3, d4, d5⟩ := cu_cells (HR2.out.1.fr hS (by simp)); have hS2 := hS
  go_simp
  all_goals first | done | rfl | omega | (simp; done) | (simp; omega)
 simp only [Act.put, PU]
 refine M_move (i := 7) _ SU.out rfl rfl (by kernel_rfl) HS.out rfl ?_
 simp only [Act.put, Act.eval, PE]
 refine M_val (i := 8) (v := ?_) SU.out rfl (by kernel_rfl) HS.out rfl (fun W hS => ?_) ?_
 rotate_left
 ·obtain ⟨d0, d1, d2, d3, d4, d5⟩ := cu_cells (HR2.out.1.fr hS (by simp)); have hS2 := hS
  go_simp
  all_goals first | done | rfl | omega | (simp; done) | (simp; omega)
 simp only [Act.put, PU]
 refine M_val (i := 9) (v := ?_) SU.out rfl (by kernel_rfl) HS.out rfl (fun W hS => ?_) ?_
 rotate_left
 ·obtain ⟨d0, d1, d2, d3, d4, d5⟩ := cu_cells (HR2.out.1.fr hS (by simp)); have hS2 := hS
  go_simp
  all_goals first | done | rfl | omega | (simp; done) | (simp; omega)
 simp only [Act.put, PU]
 refine M_val (i := 10) (v := .bool x.en) SU.out rfl (by kernel_rfl) HS.out rfl (fun W hS => ?_) ?_
 ·obtain ⟨d0, d1, d2, d3, d4, d5⟩ := cu_cells (HR2.out.1.fr hS (by simp)); have hS2 := hS
  go_simp
  all_goals first | done | rfl | omega | (simp; done) | (simp; omega)
 simp only [Act.put, PU]
 refine M_call (i := 11) (v := .tuple #[.int .i64 0, .int .i64 0, .int .i64 0, .bool false]) SU.out rfl (by kernel_rfl) HS.out rfl (fun W hS => by have hF := HFIRST.out W hS; rw [HE.out] at hF; exact hF) (fun W => ?_) ?_
 ·go_simp
  first | done | rfl
 simp only [Act.put, PU]
 refine M_move (i := 12) _ SU.out rfl rfl (by kernel_rfl) HS.out rfl ?_
 simp only [Act.put, Act.eval, PE]
 refine M_val (i := 13) (v := .int .i64 0) SU.out rfl (by kernel_rfl) HS.out rfl (fun W hS => ?_) ?_
 ·obtain ⟨d0, d1, d2, d3, d4, d5⟩ := cu_cells (HR2.out.1.fr hS (by simp)); have hS2 := hS
  go_simp
  all_goals first | done | rfl | omega | (simp; done) | (simp; omega)
 simp only [Act.put, PU]
 refine M_val (i := 14) (v := .int .i64 0) SU.out rfl (by kernel_rfl) HS.out rfl (fun W hS => ?_) ?_
 ·obtain ⟨d0, d1, d2, d3, d4, d5⟩ := cu_cells (HR2.out.1.fr hS (by simp)); have hS2 := hS
  go_simp
  all_goals first | done | rfl | omega | (simp; done) | (simp; omega)
 simp only [Act.put, PU]
 refine M_val (i := 15) (v := .int .i64 0) SU.out rfl (by kernel_rfl) HS.out rfl (fun W hS => ?_) ?_
 ·obtain ⟨d0, d1, d2, d3, d4, d5⟩ := cu_cells (HR2.out.1.fr hS (by simp)); have hS2 := hS
  go_simp
  all_goals first | done | rfl | omega | (simp; done) | (simp; omega)
 simp only [Act.put, PU]
 refine M_val (i := 16) (v := .bool false) SU.out rfl (by kernel_rfl) HS.out rfl (fun W hS => ?_) ?_
 ·obtain ⟨d0, d1, d2, d3, d4, d5⟩ := cu_cells (HR2.out.1.fr hS (by simp)); have hS2 := hS
  go_simp
  all_goals first | done | rfl | omega | (simp; done) | (simp; omega)
 simp only [Act.put, PU]
 refine M_val (i := 17) (v := ?_) SU.out rfl (by kernel_rfl) HS.out rfl (fun W hS => ?_) ?_
 rotate_left
 ·obtain ⟨d0, d1, d2, d3, d4, d5⟩ := cu_cells (HR2.out.1.fr hS (by simp)); have hS2 := hS
  go_simp
  all_goals first | done | rfl | omega | (simp; done) | (simp; omega)
 simp only [Act.put, PU]
 refine M_val (i := 18) (v := ?_) SU.out rfl (by kernel_rfl) HS.out rfl (fun W hS => ?_) ?_
 rotate_left
 ·obtain ⟨d0, d1, d2, d3, d4, d5⟩ := cu_cells (HR2.out.1.fr hS (by simp)); have hS2 := hS
  go_simp
  all_goals first | done | rfl | omega | (simp; done) | (simp; omega)
 simp only [Act.put, PU]
 refine M_val (i := 19) (v := ?_) SU.out rfl (by kernel_rfl) HS.out rfl (fun W hS => ?_) ?_
 rotate_left
 ·obtain ⟨d0, d1, d2, d3, d4, d5⟩ := cu_cells (HR2.out.1.fr hS (by simp)); have hS2 := hS
  go_simp
  all_goals first | done | rfl | omega | (simp; done) | (simp; omega)
 simp only [Act.put, PU]
 refine M_val (i := 20) (v := ?_) SU.out rfl (by kernel_rfl) HS.out rfl (fun W hS => ?_) ?_
 rotate_left
 ·obtain ⟨d0, d1, d2, d3, d4, d5⟩ := cu_cells (HR2.out.1.fr hS (by simp)); have hS2 := hS
  go_simp
  all_goals first | done | rfl | omega | (simp; done) | (simp; omega)
 simp only [Act.put, PU]
 refine wpAnyM_done (by kernel_rfl) (fun wy hG => ?_)
 have hr3 : CuR wy q x (.slice A x.bs.length cap) := ⟨HR2.out.1.fr hG (by simp), Own.fr (l := []) HR2.out.2 hG (by simp)⟩
 have HR3 := Lib.hid hr3; have HFY := Lib.hid (HFD.out.trans hG); have HBY := Lib.hid (At.fr_nil HBY0.out (HFD.out.trans hG))
 obtain ⟨d0, d1, d2, d3, d4, d5⟩ := cu_cells hr3.1
 have f4 := hr3.1.frozen 4
 have f5 := hr3.1.frozen 5
 clear hG hr3 HFD HR2 HFIRST HBY0 HS SU
 rw [hen] at d5
 have hk0 : (x.k == 1) = false := beq_eq_false_iff_ne.2 HK.out
 obtain ⟨w6, hw6⟩ : ∃ w6, w6 = wy := ⟨_, rfl⟩
 rw [← hw6]
 have HR6 : Hid (CuR w6 q x (.slice A x.bs.length cap)) := Lib.hid (by rw [hw6]; exact HR3.out)
 have HF6 : Hid (Fr (q :: (Value.slice A x.bs.length cap).ownBlock.toList) w w6) := Lib.hid (by rw [hw6]; exact HFY.out.nil_)
 have HLOC6 : Hid (∀ k, (Value.slice A x.bs.length cap).ownBlock = some k → (Value.slice A x.bs.length cap).ownBlock = some k ∨ w.heap.size ≤ k) := Lib.hid (fun k hk => .inl hk)
 obtain ⟨e0, e1, e2, e3, e4, e5⟩ := cu_cells HR6.out.1
 rw [hen] at e5
 have e0' := e0
 clear d0 d1 d2 d3 d4 d5 f4 f5 e1 e2 hw6
 have t1 : decide (x.room ≤ (x.bs.length : Int)) = true := decide_eq_true HL.out
 go_upto_region 11 with fail
 have e3' : w6.drew.cell? ⟨q, 3, none⟩ = some (.int .i64 x.room) := e3
 have e4' : w6.drew.cell? ⟨q, 4, none⟩ = some (.slice A x.bs.length cap) := e4
 have e5' : w6.drew.cell? ⟨q, 5, none⟩ = some (.bool false) := e5
 have hr7 : CuR w6.drew q x (.slice A x.bs.length cap) := ⟨HR6.out.1.drew, Own.fr (l := []) HR6.out.2 ((Fr.refl [] w6).drew) (by simp)⟩
 have HR7 := Lib.hid hr7
 have HF7 := Lib.hid (HF6.out.trans' ((Fr.refl [] w6).drew) (by simp))
 have f4 := hr7.1.frozen 4
 have f5 := hr7.1.frozen 5
 clear e3 e4 e5 hr7 HR6 HF6
 refine wp_region_M_ (G := fun a b => a = b) (S := fun W => W = w6.drew) ⟨fun _ => rfl, fun a b c h k => h.trans k, fun a b h k => k ▸ h, by kernel_rfl, fun _ _ d _ _ h => by cases d <;> exact h⟩ (by kernel_rfl) fun su => ?_
 have SU := Lib.hid su
 have HS : Hid (w6.drew = w6.drew) := Lib.hid rfl
 clear su
 generalize w6.drew = wD at *
 refine M_move (i := 0) _ SU.out rfl rfl (by kernel_rfl) HS.out rfl ?_
 simp only [Act.put, Act.eval, PE]
 refine M_val (i := 1) (v := ?_) SU.out rfl (by kernel_rfl) HS.out rfl (fun W hS => ?_) ?_
 rotate_left
 ·obtain rfl := hS
  go_simp
  all_goals first | done | rfl | omega | (simp; done) | (simp; omega)
 simp only [Act.put, PU]
 refine M_val (i := 2) (v := ?_) SU.out rfl (by kernel_rfl) HS.out rfl (fun W hS => ?_) ?_
 rotate_left
 ·obtain rfl := hS
  go_simp
  all_goals first | done | rfl | omega | (simp; done) | (simp; omega)
 simp only [Act.put, PU]
 refine M_val (i := 3) (v := .slice A x.bs.length cap) SU.out rfl (by kernel_rfl) HS.out rfl (fun W hS => ?_) ?_
 ·obtain rfl := hS
  go_simp
  all_goals first | done | rfl | omega | (simp; done) | (simp; omega)
 simp only [Act.put, PU]
 refine M_val (i := 4) (v := ?_) SU.out rfl (by kernel_rfl) HS.out rfl (fun W hS => ?_) ?_
 rotate_left
 ·obtain rfl := hS
  go_simp
  all_goals first | done | rfl | omega | (simp; done) | (simp; omega)
 simp only [Act.put, PU]
 refine M_move (i := 5) _ SU.out rfl rfl (by kernel_rfl) HS.out rfl ?_
 simp only [Act.put, Act.eval, PE]
 refine M_val (i := 6) (v := ?_) SU.out rfl (by kernel_rfl) HS.out rfl (fun W hS => ?_) ?_
 rotate_left
 ·obtain rfl := hS
  go_simp
  all_goals first | done | rfl | omega | (simp; done) | (simp; omega)
 simp only [Act.put, PU]
 refine M_val (i := 7) (v := ?_) SU.out rfl (by kernel_rfl) HS.out rfl (fun W hS => ?_) ?_
 rotate_left
 ·obtain rfl := hS
  go_simp
  all_goals first | done | rfl | omega | (simp; done) | (simp; omega)
 simp only [Act.put, PU]
 refine M_val (i := 8) (v := .int .i64 x.room) SU.out rfl (by kernel_rfl) HS.out rfl (fun W hS => ?_) ?_
 ·obtain rfl := hS
  go_simp
  all_goals first | done | rfl | omega | (simp; done) | (simp; omega)
 simp only [Act.put, PU]
 refine M_val (i := 9) (v := .bool true) SU.out rfl (by kernel_rfl) HS.out rfl (fun W hS => ?_) ?_
 ·obtain rfl := hS
  go_simp
  all_goals first | done | rfl | omega | (simp; done) | (simp; omega)
 simp only [Act.put, PU]
 refine wpAnyM_done (by kernel_rfl) (fun w' hG => ?_)
 obtain rfl := hG
 go_wp2_with fail
 go_ret3
 have hs : Fr [q] wD ((wD.setCell ⟨q, 4, none⟩ (.slice none 0 0)).setCell ⟨q, 5, none⟩ (.bool true)) := ((Fr.refl _ _).setCell (.inl (by simp)) _).setCell (.inl (by simp)) _
 exact ⟨rfl, .slice none 0 0, ⟨(HR7.out.1.put 4 _).put 5 _, Own.nil_ _ _⟩, HF7.out.trans' hs (fun i hi => .inl (by simp at hi; simp [hi])), fun k hk => by simp [Value.ownBlock] at hk⟩
set_option maxRecDepth 100000 in
set_option maxHeartbeats 4000000 in
theorem next0_wait {w : World} {q : Nat} {x : Cu} {v : Value} {s : Sep} (h : CuR w q x v) (hv : SepV w x.k x.c x.f s) (hs : s.ok) (hg : GlobOk w) (hb : x.bs.length ≤ 10000) (hen : x.en = false) (he : firstG s x.bs x.en = none) (hk : x.k ≠ 1) (hl : (x.bs.length : Int) < x.room) :
    Calls Tryz.prog 29 #[.pointer (some ⟨q, 0, none⟩)] w fun e w' => e = .returned (.tuple #[.string ⟨#[]⟩, .bool false, .nilIface]) ∧ CuTo w q v w' x := by
 obtain ⟨i0, hi0, hz0, hz1, hz2⟩ := u8parts
 obtain ⟨A, cap, rfl, hcap, hmx, hby0, hnil⟩ := OwnB.val h.2
 have hlt0 : ∀ a, A = some a → a.block < w.heap.size := fun a ha => by subst ha; exact Own.lt h.2 _ rfl
 have HE := Lib.hid he
 have HK := Lib.hid hk
 clear he hk
 have HL := Lib.hid hl
 clear hl
 have hfd : Fr [] w w.drew := (Fr.refl [] w).drew
 have hr2 : CuR w.drew q x (.slice A x.bs.length cap) := ⟨h.1.drew, Own.fr (l := []) h.2 hfd (by simp)⟩
 have HFD : Hid (Fr [] w w.drew) := Lib.hid hfd
 have HR2 := Lib.hid hr2
 have HFIRST : Hid (∀ W, Fr [] w.drew W → Calls Tryz.prog 32 #[.pointer (some ⟨q, 0, none⟩), .slice A x.bs.length cap, .bool x.en] W (FstPost W (firstG s x.bs x.en))) := Lib.hid (fun W hW => by
  obtain ⟨d0, d1, d2, -⟩ := cu_cells (hr2.1.fr hW (by simp))
  have h1 := hfd.trans hW
  exact first_gen d0 d1 d2 (hv.fr_nil h1) hs rfl (At.fr_nil hby0 h1) hnil hcap (fun a ha => Nat.lt_of_lt_of_le (hlt0 a ha) h1.size) hb (hg.fr h1) x.en)
 have HBY0 := Lib.hid hby0
 clear h hr2 hfd hby0 hlt0 hg
 go_enter Tryz.func29, Tryz.ntmps29
 go_upto_region 1 with fail
 refine wp_region_M_ (G := fun a b => Fr [] a b) (S := fun W => Fr [] w.drew W) ⟨fun _ => Fr.refl _ _, fun a b c h k => h.trans k, fun a b h k => h.trans k, by kernel_rfl, fun _ _ d _ _ h => by cases d <;> exact h⟩ (by kernel_rfl) fun su => ?_
 have SU := Lib.hid su
 have HS : Hid (Fr [] w.drew w.drew) := Lib.hid (Fr.refl _ _)
 clear su
 generalize w.drew = wd at *
 refine M_move (i := 0) _ SU.out rfl rfl (by kernel_rfl) HS.out rfl ?_
 simp only [Act.put, Act.eval, PE]
 refine M_val (i := 1) (v := ?_) SU.out rfl (by kernel_rfl) HS.out rfl (fun W hS => ?_) ?_
 rotate_left
 ·obtain ⟨d0, d1, d2, d3, d4, d5⟩ := cu_cells (HR2.out.1.fr hS (by simp)); have hS2 := hS
  go_simp
  all_goals first | done | rfl | omega | (simp; done) | (simp; omega)
 simp only [Act.put, PU]
 refine M_val (i := 2) (v := .pointer (some ⟨q, 0, none⟩)) SU.out rfl (by kernel_rfl) HS.out rfl (fun W hS => ?_) ?_
 ·obtain ⟨d0, d1, d2, d3, d4, d5⟩ := cu_cells (HR2.out.1.fr hS (by simp)); have hS2 := hS
  go_simp
  all_goals first | done | rfl | omega | (simp; done) | (simp; omega)
 simp only [Act.put, PU]
 refine M_move (i := 3) _ SU.out rfl rfl (by kernel_rfl) HS.out rfl ?_
 simp only [Act.put, Act.eval, PE]
 refine M_val (i := 4) (v := ?_) SU.out rfl (by kernel_rfl) HS.out rfl (fun W hS => ?_) ?_
 rotate_left
 ·obtain ⟨d0, d1, d2, d3, d4, d5⟩ := cu_cells (HR2.out.1.fr hS (by simp)); have hS2 := hS
  go_simp
  all_goals first | done | rfl | omega | (simp; done) | (simp; omega)
 simp only [Act.put, PU]
 refine M_val (i := 5) (v := ?_) SU.out rfl (by kernel_rfl) HS.out rfl (fun W hS => ?_) ?_
 rotate_left
 ·obtain ⟨d0, d1, d2, d3, d4, d5⟩ := cu_cells (HR2.out.1.fr hS (by simp)); have hS2 := hS
  go_simp
  all_goals first | done | rfl | omega | (simp; done) | (simp; omega)
 simp only [Act.put, PU]
 refine M_val (i := 6) (v := .slice A x.bs.length cap) SU.out rfl (by kernel_rfl) HS.out rfl (fun W hS => ?_) ?_
 ·obtain ⟨d0, d1, d2, d3, d4, d5⟩ := cu_cells (HR2.out.1.fr hS (by simp)); have hS2 := hS
  go_simp
  all_goals first | done | rfl | omega | (simp; done) | (simp; omega)
 simp only [Act.put, PU]
 refine M_move (i := 7) _ SU.out rfl rfl (by kernel_rfl) HS.out rfl ?_
 simp only [Act.put, Act.eval, PE]
 refine M_val (i := 8) (v := ?_) SU.out rfl (by kernel_rfl) HS.out rfl (fun W hS => ?_) ?_
 rotate_left
 ·obtain ⟨d0, d1, d2, d3, d4, d5⟩ := cu_cells (HR2.out.1.fr hS (by simp)); have hS2 := hS
  go_simp
  all_goals first | done | rfl | omega | (simp; done) | (simp; omega)
 simp only [Act.put, PU]
 refine M_val (i := 9) (v := ?_) SU.out rfl (by kernel_rfl) HS.out rfl (fun W hS => ?_) ?_
 rotate_left
 ·obtain ⟨d0, d1, d2, d3, d4, d5⟩ := cu_cells (HR2.out.1.fr hS (by simp)); have hS2 := hS
  go_simp
  all_goals first | done | rfl | omega | (simp; done) | (simp; omega)
 simp only [Act.put, PU]
 refine M_val (i := 10) (v := .bool x.en) SU.out rfl (by kernel_rfl) HS.out rfl (fun W hS => ?_) ?_
 ·obtain ⟨d0, d1, d2, d3, d4, d5⟩ := cu_cells (HR2.out.1.fr hS (by simp)); have hS2 := hS
  go_simp
  all_goals first | done | rfl | omega | (simp; done) | (simp; omega)
 simp only [Act.put, PU]
 refine M_call (i := 11) (v := .tuple #[.int .i64 0, .int .i64 0, .int .i64 0, .bool false]) SU.out rfl (by kernel_rfl) HS.out rfl (fun W hS => by have hF := HFIRST.out W hS; rw [HE.out] at hF; exact hF) (fun W => ?_) ?_
 ·go_simp
  first | done | rfl
 simp only [Act.put, PU]
 refine M_move (i := 12) _ SU.out rfl rfl (by kernel_rfl) HS.out rfl ?_
 simp only [Act.put, Act.eval, PE]
 refine M_val (i := 13) (v := .int .i64 0) SU.out rfl (by kernel_rfl) HS.out rfl (fun W hS => ?_) ?_
 ·obtain ⟨d0, d1, d2, d3, d4, d5⟩ := cu_cells (HR2.out.1.fr hS (by simp)); have hS2 := hS
  go_simp
  all_goals first | done | rfl | omega | (simp; done) | (simp; omega)
 simp only [Act.put, PU]
 refine M_val (i := 14) (v := .int .i64 0) SU.out rfl (by kernel_rfl) HS.out rfl (fun W hS => ?_) ?_
 ·obtain ⟨d0, d1, d2, d3, d4, d5⟩ := cu_cells (HR2.out.1.fr hS (by simp)); have hS2 := hS
  go_simp
  all_goals first | done | rfl | omega | (simp; done) | (simp; omega)
 simp only [Act.put, PU]
 refine M_val (i := 15) (v := .int .i64 0) SU.out rfl (by kernel_rfl) HS.out rfl (fun W hS => ?_) ?_
 ·obtain ⟨d0, d1, d2, d3, d4, d5⟩ := cu_cells (HR2.out.1.fr hS (by simp)); have hS2 := hS
  go_simp
  all_goals first | done | rfl | omega | (simp; done) | (simp; omega)
 simp only [Act.put, PU]
 refine M_val (i := 16) (v := .bool false) SU.out rfl (by kernel_rfl) HS.out rfl (fun W hS => ?_) ?_
 ·obtain ⟨d0, d1, d2, d3, d4, d5⟩ := cu_cells (HR2.out.1.fr hS (by simp)); have hS2 := hS
  go_simp
  all_goals first | done | rfl | omega | (simp; done) | (simp; omega)
 simp only [Act.put, PU]
 refine M_val (i := 17) (v := ?_) SU.out rfl (by kernel_rfl) HS.out rfl (fun W hS => ?_) ?_
 rotate_left
 ·obtain ⟨d0, d1, d2, d3, d4, d5⟩ := cu_cells (HR2.out.1.fr hS (by simp)); have hS2 := hS
  go_simp
  all_goals first | done | rfl | omega | (simp; done) | (simp; omega)
 simp only [Act.put, PU]
 refine M_val (i := 18) (v := ?_) SU.out rfl (by kernel_rfl) HS.out rfl (fun W hS => ?_) ?_
 rotate_left
 ·obtain ⟨d0, d1, d2, d3, d4, d5⟩ := cu_cells (HR2.out.1.fr hS (by simp)); have hS2 := hS
  go_simp
  all_goals first | done | rfl | omega | (simp; done) | (simp; omega)
 simp only [Act.put, PU]
 refine M_val (i := 19) (v := ?_) SU.out rfl (by kernel_rfl) HS.out rfl (fun W hS => ?_) ?_
 rotate_left
 ·obtain ⟨d0, d1, d2, d3, d4, d5⟩ := cu_cells (HR2.out.1.fr hS (by simp)); have hS2 := hS
  go_simp
  all_goals first | done | rfl | omega | (simp; done) | (simp; omega)
 simp only [Act.put, PU]
 refine M_val (i := 20) (v := ?_) SU.out rfl (by kernel_rfl) HS.out rfl (fun W hS => ?_) ?_
 rotate_left
 ·obtain ⟨d0, d1, d2, d3, d4, d5⟩ := cu_cells (HR2.out.1.fr hS (by simp)); have hS2 := hS
  go_simp
  all_goals first | done | rfl | omega | (simp; done) | (simp; omega)
 simp only [Act.put, PU]
 refine wpAnyM_done (by kernel_rfl) (fun wy hG => ?_)
 have hr3 : CuR wy q x (.slice A x.bs.length cap) := ⟨HR2.out.1.fr hG (by simp), Own.fr (l := []) HR2.out.2 hG (by simp)⟩
 have HR3 := Lib.hid hr3; have HFY := Lib.hid (HFD.out.trans hG); have HBY := Lib.hid (At.fr_nil HBY0.out (HFD.out.trans hG))
 obtain ⟨d0, d1, d2, d3, d4, d5⟩ := cu_cells hr3.1
 have f4 := hr3.1.frozen 4
 have f5 := hr3.1.frozen 5
 clear hG hr3 HFD HR2 HFIRST HBY0 HS SU
 rw [hen] at d5
 have hk0 : (x.k == 1) = false := beq_eq_false_iff_ne.2 HK.out
 obtain ⟨w6, hw6⟩ : ∃ w6, w6 = wy := ⟨_, rfl⟩
 rw [← hw6]
 have HR6 : Hid (CuR w6 q x (.slice A x.bs.length cap)) := Lib.hid (by rw [hw6]; exact HR3.out)
 have HF6 : Hid (Fr (q :: (Value.slice A x.bs.length cap).ownBlock.toList) w w6) := Lib.hid (by rw [hw6]; exact HFY.out.nil_)
 have HLOC6 : Hid (∀ k, (Value.slice A x.bs.length cap).ownBlock = some k → (Value.slice A x.bs.length cap).ownBlock = some k ∨ w.heap.size ≤ k) := Lib.hid (fun k hk => .inl hk)
 obtain ⟨e0, e1, e2, e3, e4, e5⟩ := cu_cells HR6.out.1
 rw [hen] at e5
 have e0' := e0
 clear d0 d1 d2 d3 d4 d5 f4 f5 e1 e2 hw6
 have t1 : decide (x.room ≤ (x.bs.length : Int)) = false := decide_eq_false (by have := HL.out; omega)
 go_upto_region 11 with fail
 have e3' : w6.drew.cell? ⟨q, 3, none⟩ = some (.int .i64 x.room) := e3
 have e4' : w6.drew.cell? ⟨q, 4, none⟩ = some (.slice A x.bs.length cap) := e4
 have e5' : w6.drew.cell? ⟨q, 5, none⟩ = some (.bool false) := e5
 have hr7 : CuR w6.drew q x (.slice A x.bs.length cap) := ⟨HR6.out.1.drew, Own.fr (l := []) HR6.out.2 ((Fr.refl [] w6).drew) (by simp)⟩
 have HR7 := Lib.hid hr7
 have HF7 := Lib.hid (HF6.out.trans' ((Fr.refl [] w6).drew) (by simp))
 have f4 := hr7.1.frozen 4
 have f5 := hr7.1.frozen 5
 clear e3 e4 e5 hr7 HR6 HF6
 refine wp_region_M_ (G := fun a b => a = b) (S := fun W => W = w6.drew) ⟨fun _ => rfl, fun a b c h k => h.trans k, fun a b h k => k ▸ h, by kernel_rfl, fun _ _ d _ _ h => by cases d <;> exact h⟩ (by kernel_rfl) fun su => ?_
 have SU := Lib.hid su
 have HS : Hid (w6.drew = w6.drew) := Lib.hid rfl
 clear su
 generalize w6.drew = wD at *
 refine M_move (i := 0) _ SU.out rfl rfl (by kernel_rfl) HS.out rfl ?_
 simp only [Act.put, Act.eval, PE]
 refine M_val (i := 1) (v := ?_) SU.out rfl (by kernel_rfl) HS.out rfl (fun W hS => ?_) ?_
 rotate_left
 ·obtain rfl := hS
  go_simp
  all_goals first | done | rfl | omega | (simp; done) | (simp; omega)
 simp only [Act.put, PU]
 refine M_val (i := 2) (v := ?_) SU.out rfl (by kernel_rfl) HS.out rfl (fun W hS => ?_) ?_
 rotate_left
 ·obtain rfl := hS
  go_simp
  all_goals first | done | rfl | omega | (simp; done) | (simp; omega)
 simp only [Act.put, PU]
 refine M_val (i := 3) (v := .slice A x.bs.length cap) SU.out rfl (by kernel_rfl) HS.out rfl (fun W hS => ?_) ?_
 ·obtain rfl := hS
  go_simp
  all_goals first | done | rfl | omega | (simp; done) | (simp; omega)
 simp only [Act.put, PU]
 refine M_val (i := 4) (v := ?_) SU.out rfl (by kernel_rfl) HS.out rfl (fun W hS => ?_) ?_
 rotate_left
 ·obtain rfl := hS
  go_simp
  all_goals first | done | rfl | omega | (simp; done) | (simp; omega)
 simp only [Act.put, PU]
 refine M_move (i := 5) _ SU.out rfl rfl (by kernel_rfl) HS.out rfl ?_
 simp only [Act.put, Act.eval, PE]
 refine M_val (i := 6) (v := ?_) SU.out rfl (by kernel_rfl) HS.out rfl (fun W hS => ?_) ?_
 rotate_left
 ·obtain rfl := hS
  go_simp
  all_goals first | done | rfl | omega | (simp; done) | (simp; omega)
 simp only [Act.put, PU]
 refine M_val (i := 7) (v := ?_) SU.out rfl (by kernel_rfl) HS.out rfl (fun W hS => ?_) ?_
 rotate_left
 ·obtain rfl := hS
  go_simp
  all_goals first | done | rfl | omega | (simp; done) | (simp; omega)
 simp only [Act.put, PU]
 refine M_val (i := 8) (v := .int .i64 x.room) SU.out rfl (by kernel_rfl) HS.out rfl (fun W hS => ?_) ?_
 ·obtain rfl := hS
  go_simp
  all_goals first | done | rfl | omega | (simp; done) | (simp; omega)
 simp only [Act.put, PU]
 refine M_val (i := 9) (v := .bool false) SU.out rfl (by kernel_rfl) HS.out rfl (fun W hS => ?_) ?_
 ·obtain rfl := hS
  go_simp
  all_goals first | done | rfl | omega | (simp; done) | (simp; omega)
 simp only [Act.put, PU]
 refine wpAnyM_done (by kernel_rfl) (fun w' hG => ?_)
 obtain rfl := hG
 go_wp2_with fail
 go_ret3
 exact ⟨rfl, _, HR7.out, HF7.out, HLOC6.out⟩
set_option maxRecDepth 100000 in
set_option maxHeartbeats 4000000 in
theorem nextp_long {w : World} {q : Nat} {x : Cu} {v : Value} {s : Sep} (h : CuR w q x v) (hv : SepV w x.k x.c x.f s) (hs : s.ok) (hg : GlobOk w) (hb : x.bs.length ≤ 10000) (hen : x.en = false) (he : firstG s x.bs x.en = none) (hk : x.k = 1) (hl : x.room ≤ ((x.bs.drop (nlM x.bs)).length : Int)) :
    Calls Tryz.prog 29 #[.pointer (some ⟨q, 0, none⟩)] w fun e w' => e = .returned (.tuple #[.string ⟨#[]⟩, .bool false, errV 20]) ∧ CuTo w q v w' { x with bs := [], en := true } := by
 obtain ⟨i0, hi0, hz0, hz1, hz2⟩ := u8parts
 obtain ⟨A, cap, rfl, hcap, hmx, hby0, hnil⟩ := OwnB.val h.2
 have hlt0 : ∀ a, A = some a → a.block < w.heap.size := fun a ha => by subst ha; exact Own.lt h.2 _ rfl
 have HE := Lib.hid he
 have HK := Lib.hid hk
 clear he hk
 obtain ⟨nl, hnl⟩ : ∃ nl, nl = nlM x.bs := ⟨_, rfl⟩
 have hnln : nl ≤ x.bs.length := by rw [hnl]; exact nlM_le _
 rw [← hnl] at hl
 (try rw [← hnl])
 have HNL := Lib.hid hnl
 clear hnl
 have HL := Lib.hid hl
 clear hl
 have hfd : Fr [] w w.drew := (Fr.refl [] w).drew
 have hr2 : CuR w.drew q x (.slice A x.bs.length cap) := ⟨h.1.drew, Own.fr (l := []) h.2 hfd (by simp)⟩
 have HFD : Hid (Fr [] w w.drew) := Lib.hid hfd
 have HR2 := Lib.hid hr2
 have HFIRST : Hid (∀ W, Fr [] w.drew W → Calls Tryz.prog 32 #[.pointer (some ⟨q, 0, none⟩), .slice A x.bs.length cap, .bool x.en] W (FstPost W (firstG s x.bs x.en))) := Lib.hid (fun W hW => by
  obtain ⟨d0, d1, d2, -⟩ := cu_cells (hr2.1.fr hW (by simp))
  have h1 := hfd.trans hW
  exact first_gen d0 d1 d2 (hv.fr_nil h1) hs rfl (At.fr_nil hby0 h1) hnil hcap (fun a ha => Nat.lt_of_lt_of_le (hlt0 a ha) h1.size) hb (hg.fr h1) x.en)
 have HBY0 := Lib.hid hby0
 clear h hr2 hfd hby0 hlt0 hg
 go_enter Tryz.func29, Tryz.ntmps29
 go_upto_region 1 with fail
 refine wp_region_M_ (G := fun a b => Fr [] a b) (S := fun W => Fr [] w.drew W) ⟨fun _ => Fr.refl _ _, fun a b c h k => h.trans k, fun a b h k => h.trans k, by kernel_rfl, fun _ _ d _ _ h => by cases d <;> exact h⟩ (by kernel_rfl) fun su => ?_
 have SU := Lib.hid su
 have HS : Hid (Fr [] w.drew w.drew) := Lib.hid (Fr.refl _ _)
 clear su
 generalize w.drew = wd at *
 refine M_move (i := 0) _ SU.out rfl rfl (by kernel_rfl) HS.out rfl ?_
 simp only [Act.put, Act.eval, PE]
 refine M_val (i := 1) (v := ?_) SU.out rfl (by kernel_rfl) HS.out rfl (fun W hS => ?_) ?_
 rotate_left
 ·obtain ⟨d0, d1, d2, d3, d4, d5⟩ := cu_cells (HR2.out.1.fr hS (by simp)); have hS2 := hS
  go_simp
  all_goals first | done | rfl | omega | (simp; done) | (simp; omega)
 simp only [Act.put, PU]
 refine M_val (i := 2) (v := .pointer (some ⟨q, 0, none⟩)) SU.out rfl (by kernel_rfl) HS.out rfl (fun W hS => ?_) ?_
 ·obtain ⟨d0, d1, d2, d3, d4, d5⟩ := cu_cells (HR2.out.1.fr hS (by simp)); have hS2 := hS
  go_simp
  all_goals first | done | rfl | omega | (simp; done) | (simp; omega)
 simp only [Act.put, PU]
 refine M_move (i := 3) _ SU.out rfl rfl (by kernel_rfl) HS.out rfl ?_
 simp only [Act.put, Act.eval, PE]
 refine M_val (i := 4) (v := ?_) SU.out rfl (by kernel_rfl) HS.out rfl (fun W hS => ?_) ?_
 rotate_left
 ·obtain ⟨d0, d1, d2, d3, d4, d5⟩ := cu_cells (HR2.out.1.fr hS (by simp)); have hS2 := hS
  go_simp
  all_goals first | done | rfl | omega | (simp; done) | (simp; omega)
 simp only [Act.put, PU]
 refine M_val (i := 5) (v := ?_) SU.out rfl (by kernel_rfl) HS.out rfl (fun W hS => ?_) ?_
 rotate_left
 ·obtain ⟨d0, d1, d2, d3, d4, d5⟩ := cu_cells (HR2.out.1.fr hS (by simp)); have hS2 := hS
  go_simp
  all_goals first | done | rfl | omega | (simp; done) | (simp; omega)
 simp only [Act.put, PU]
 refine M_val (i := 6) (v := .slice A x.bs.length cap) SU.out rfl (by kernel_rfl) HS.out rfl (fun W hS => ?_) ?_
 ·obtain ⟨d0, d1, d2, d3, d4, d5⟩ := cu_cells (HR2.out.1.fr hS (by simp)); have hS2 := hS
  go_simp
  all_goals first | done | rfl | omega | (simp; done) | (simp; omega)
 simp only [Act.put, PU]
 refine M_move (i := 7) _ SU.out rfl rfl (by kernel_rfl) HS.out rfl ?_
 simp only [Act.put, Act.eval, PE]
 refine M_val (i := 8) (v := ?_) SU.out rfl (by kernel_rfl) HS.out rfl (fun W hS => ?_) ?_
 rotate_left
 ·obtain ⟨d0, d1, d2, d3, d4, d5⟩ := cu_cells (HR2.out.1.fr hS (by simp)); have hS2 := hS
  go_simp
  all_goals first | done | rfl | omega | (simp; done) | (simp; omega)
 simp only [Act.put, PU]
 refine M_val (i := 9) (v := ?_) SU.out rfl (by kernel_rfl) HS.out rfl (fun W hS => ?_) ?_
 rotate_left
 ·obtain ⟨d0, d1, d2, d3, d4, d5⟩ := cu_cells (HR2.out.1.fr hS (by simp)); have hS2 := hS
  go_simp
  all_goals first | done | rfl | omega | (simp; done) | (simp; omega)
 simp only [Act.put, PU]
 refine M_val (i := 10) (v := .bool x.en) SU.out rfl (by kernel_rfl) HS.out rfl (fun W hS => ?_) ?_
 ·obtain ⟨d0, d1, d2, d3, d4, d5⟩ := cu_cells (HR2.out.1.fr hS (by simp)); have hS2 := hS
  go_simp
  all_goals first | done | rfl | omega | (simp; done) | (simp; omega)
 simp only [Act.put, PU]
 refine M_call (i := 11) (v := .tuple #[.int .i64 0, .int .i64 0, .int .i64 0, .bool false]) SU.out rfl (by kernel_rfl) HS.out rfl (fun W hS => by have hF := HFIRST.out W hS; rw [HE.out] at hF; exact hF) (fun W => ?_) ?_
 ·go_simp
  first | done | rfl
 simp only [Act.put, PU]
 refine M_move (i := 12) _ SU.out rfl rfl (by kernel_rfl) HS.out rfl ?_
 simp only [Act.put, Act.eval, PE]
 refine M_val (i := 13) (v := .int .i64 0) SU.out rfl (by kernel_rfl) HS.out rfl (fun W hS => ?_) ?_
 ·obtain ⟨d0, d1, d2, d3, d4, d5⟩ := cu_cells (HR2.out.1.fr hS (by simp)); have hS2 := hS
  go_simp
  all_goals first | done | rfl | omega | (simp; done) | (simp; omega)
 simp only [Act.put, PU]
 refine M_val (i := 14) (v := .int .i64 0) SU.out rfl (by kernel_rfl) HS.out rfl (fun W hS => ?_) ?_
 ·obtain ⟨d0, d1, d2, d3, d4, d5⟩ := cu_cells (HR2.out.1.fr hS (by simp)); have hS2 := hS
  go_simp
  all_goals first | done | rfl | omega | (simp; done) | (simp; omega)
 simp only [Act.put, PU]
 refine M_val (i := 15) (v := .int .i64 0) SU.out rfl (by kernel_rfl) HS.out rfl (fun W hS => ?_) ?_
 ·obtain ⟨d0, d1, d2, d3, d4, d5⟩ := cu_cells (HR2.out.1.fr hS (by simp)); have hS2 := hS
  go_simp
  all_goals first | done | rfl | omega | (simp; done) | (simp; omega)
 simp only [Act.put, PU]
 refine M_val (i := 16) (v := .bool false) SU.out rfl (by kernel_rfl) HS.out rfl (fun W hS => ?_) ?_
 ·obtain ⟨d0, d1, d2, d3, d4, d5⟩ := cu_cells (HR2.out.1.fr hS (by simp)); have hS2 := hS
  go_simp
  all_goals first | done | rfl | omega | (simp; done) | (simp; omega)
 simp only [Act.put, PU]
 refine M_val (i := 17) (v := ?_) SU.out rfl (by kernel_rfl) HS.out rfl (fun W hS => ?_) ?_
 rotate_left
 ·obtain ⟨d0, d1, d2, d3, d4, d5⟩ := cu_cells (HR2.out.1.fr hS (by simp)); have hS2 := hS
  go_simp
  all_goals first | done | rfl | omega | (simp; done) | (simp; omega)
 simp only [Act.put, PU]
 refine M_val (i := 18) (v := ?_) SU.out rfl (by kernel_rfl) HS.out rfl (fun W hS => ?_) ?_
 rotate_left
 ·obtain ⟨d0, d1, d2, d3, d4, d5⟩ := cu_cells (HR2.out.1.fr hS (by simp)); have hS2 := hS
  go_simp
  all_goals first | done | rfl | omega | (simp; done) | (simp; omega)
 simp only [Act.put, PU]
 refine M_val (i := 19) (v := ?_) SU.out rfl (by kernel_rfl) HS.out rfl (fun W hS => ?_) ?_
 rotate_left
 ·obtain ⟨d0, d1, d2, d3, d4, d5⟩ := cu_cells (HR2.out.1.fr hS (by simp)); have hS2 := hS
  go_simp
  all_goals first | done | rfl | omega | (simp; done) | (simp; omega)
 simp only [Act.put, PU]
 refine M_val (i := 20) (v := ?_) SU.out rfl (by kernel_rfl) HS.out rfl (fun W hS => ?_) ?_
 rotate_left
 ·obtain ⟨d0, d1, d2, d3, d4, d5⟩ := cu_cells (HR2.out.1.fr hS (by simp)); have hS2 := hS
  go_simp
  all_goals first | done | rfl | omega | (simp; done) | (simp; omega)
 simp only [Act.put, PU]
 refine wpAnyM_done (by kernel_rfl) (fun wy hG => ?_)
 have hr3 : CuR wy q x (.slice A x.bs.length cap) := ⟨HR2.out.1.fr hG (by simp), Own.fr (l := []) HR2.out.2 hG (by simp)⟩
 have HR3 := Lib.hid hr3; have HFY := Lib.hid (HFD.out.trans hG); have HBY := Lib.hid (At.fr_nil HBY0.out (HFD.out.trans hG))
 obtain ⟨d0, d1, d2, d3, d4, d5⟩ := cu_cells hr3.1
 have f4 := hr3.1.frozen 4
 have f5 := hr3.1.frozen 5
 clear hG hr3 HFD HR2 HFIRST HBY0 HS SU
 rw [hen] at d5
 rw [HK.out] at d0
 have hnl : Calls Tryz.prog 42 #[.slice A x.bs.length cap, .int .i64 0] wy fun e w' => e = .returned (.int .i64 (nl : Int)) ∧ wy = w' := newlines_0 rfl HBY.out (by omega) nl HNL.out
 have hlx : (byteVals x.bs).length = x.bs.length := byteVals_length _
 go_upto_region 10 with fail
 obtain ⟨wx, hwx⟩ : ∃ wx, wx = wy.drew := ⟨_, rfl⟩
 have hfx : Fr [] wy wx := by rw [hwx]; exact (Fr.refl [] wy).drew
 have hsx : Bk wx q 72 (cuCells x (.slice A x.bs.length cap)) ∧ Bytes wx A x.bs := ⟨HR3.out.1.fr hfx (by simp), At.fr_nil HBY.out hfx⟩
 refine wp_region_F_ (G := fun a b => a = b) (F := fun i => i == 14) (S := fun W => Bk W q 72 (cuCells x (.slice A x.bs.length cap)) ∧ Bytes W A x.bs) ⟨fun _ => rfl, fun a b c h k => h.trans k, fun a b h k => k ▸ h, by kernel_rfl, fun _ _ d _ _ h => by cases d <;> exact h⟩ (by kernel_rfl) fun su => ?_
 have SU := Lib.hid su
 rw [← hwx]
 have HS := Lib.hid hsx
 have HFX := Lib.hid (HFY.out.trans hfx)
 clear su hsx d0 d1 d2 d3 d4 d5 f4 f5 hfx hwx hnl
 refine F_move (i := 0) _ SU.out rfl rfl (by kernel_rfl) HS.out rfl ?_
 simp only [Act.put, Act.eval, PE]
 refine F_move (i := 1) _ SU.out rfl rfl (by kernel_rfl) HS.out rfl ?_
 simp only [Act.put, Act.eval, PE]
 refine F_val (i := 2) (v := ?_) SU.out rfl (by kernel_rfl) HS.out rfl (fun W hS => ?_) ?_
 rotate_left
 ·obtain ⟨-, -, -, -, s1, -⟩ := cu_cells hS.1; have hS2 := hS
  go_simp
  all_goals first | done | rfl
 simp only [Act.put, PU]
 refine F_val (i := 3) (v := .pointer (some ⟨q, 4, none⟩)) SU.out rfl (by kernel_rfl) HS.out rfl (fun W hS => ?_) ?_
 ·obtain ⟨-, -, -, -, s1, -⟩ := cu_cells hS.1; have hS2 := hS
  go_simp
  all_goals first | done | rfl
 simp only [Act.put, PU]
 refine F_val (i := 4) (v := .slice A x.bs.length cap) SU.out rfl (by kernel_rfl) HS.out rfl (fun W hS => ?_) ?_
 ·obtain ⟨-, -, -, -, s1, -⟩ := cu_cells hS.1; have hS2 := hS
  go_simp
  all_goals first | done | rfl
 simp only [Act.put, PU]
 refine F_move (i := 5) _ SU.out rfl rfl (by kernel_rfl) HS.out rfl ?_
 simp only [Act.put, Act.eval, PE]
 refine F_val (i := 6) (v := ?_) SU.out rfl (by kernel_rfl) HS.out rfl (fun W hS => ?_) ?_
 rotate_left
 ·obtain ⟨-, -, -, -, s1, -⟩ := cu_cells hS.1; have hS2 := hS
  go_simp
  all_goals first | done | rfl
 simp only [Act.put, PU]
 refine F_val (i := 7) (v := .pointer (some ⟨q, 4, none⟩)) SU.out rfl (by kernel_rfl) HS.out rfl (fun W hS => ?_) ?_
 ·obtain ⟨-, -, -, -, s1, -⟩ := cu_cells hS.1; have hS2 := hS
  go_simp
  all_goals first | done | rfl
 simp only [Act.put, PU]
 refine F_val (i := 8) (v := .slice A x.bs.length cap) SU.out rfl (by kernel_rfl) HS.out rfl (fun W hS => ?_) ?_
 ·obtain ⟨-, -, -, -, s1, -⟩ := cu_cells hS.1; have hS2 := hS
  go_simp
  all_goals first | done | rfl
 simp only [Act.put, PU]
 refine F_call (i := 9) (f := 42) (args := #[.slice A x.bs.length cap, .int .i64 0]) (v := .int .i64 (nl : Int)) SU.out rfl (by kernel_rfl) HS.out rfl (fun W hS => newlines_0 rfl hS.2 (by omega) nl HNL.out) (fun W => ?_) ?_
 ·go_simp
  first | done | rfl
 simp only [Act.put, PU]
 obtain ⟨X2, hX2⟩ : ∃ X, X = (if cap = nl then A else A.map (·.add (nl * 1))) := ⟨_, rfl⟩
 have hXd : At wx X2 (byteVals (x.bs.drop nl)) := by rw [hX2]; exact cut_drop HS.out.2 hnln hcap
 refine F_cut3 (i := 10) 34 (.tmp 62) (.tmp 67) SU.out rfl rfl 5 i0 Tryz.underlying34 hi0 hz1 A x.bs.length cap nl (by first | rfl | (simp [Act.eval]; done)) (by first | rfl | (simp [Act.eval]; done)) hnln hcap (by kernel_rfl) HS.out rfl ?_
 rw [← hX2]
 clear hX2
 simp only [Act.put, PU]
 refine wpAnyF_all (rs := [11]) (by kernel_rfl) (by simp) (fun w' hG => ?_)
 obtain rfl := hG
 refine allF.head rfl rfl (fun K7 hK7 => ?_) allF.nil
 have hdn : (byteVals (x.bs.drop nl)).length = x.bs.length - nl := by rw [byteVals_length, List.length_drop]
 refine wp_append_OwnS (.const (.slice none 0 0)) (.tmp 68) 34 rfl 5 i0 _ Tryz.underlying34 hi0 hz0 hz1 rfl (.slice none 0 0) [] 0 rfl (by rfl) (Own.nil_ _ _) X2 (x.bs.length - nl) (cap - nl) (by first | rfl | (simp [Act.eval]; done)) (byteVals (x.bs.drop nl)) hXd hdn (byteVals_one _) (by unfold maxLen; omega) (by rw [hz2]; omega) ?_
 intro A3 c3 w3 hown hgr hloc
 rw [Nat.zero_add] at hown hloc
 have hw3 := HS.out.1.grown hgr (by simp [Value.ownBlock])
 have hfg : Fr [] wx w3 := (Fr.refl [] wx).grown hgr (fun g hg => by simp [Value.ownBlock] at hg)
 have hs3 : Bk w3 q 72 (cuCells x (.slice A x.bs.length cap)) ∧ Bytes w3 A x.bs := ⟨hw3, At.fr_nil HS.out.2 hfg⟩
 have f4 := hw3.frozen 4
 have c4 : w3.cell? ⟨q, 4, none⟩ = some (.slice A x.bs.length cap) := hw3.cell_ (i := 4) rfl
 refine hK7.out _ _ (.inr hs3) ?_
 have HOWN := Lib.hid hown; have HFG := Lib.hid (HFX.out.trans hfg); have HLOC := Lib.hid hloc; have HW3 := Lib.hid hw3; have HS3 := Lib.hid hs3
 clear hK7 K7 hw3 hown hgr hloc hfg hs3 hdn hXd
 simp only [Act.put, PU]
 refine wpAnyF_all (rs := [12]) (by kernel_rfl) (by simp) (fun w' hG => ?_)
 obtain rfl := hG
 refine allF.head rfl rfl (fun K9 hK9 => ?_) allF.nil
 go_simp
 refine hK9.out _ _ (.inr HS3.out) ?_
 clear hK9 K9
 refine wpAnyF_all (rs := [13]) (by kernel_rfl) (by simp) (fun w' hG => ?_)
 obtain rfl := hG
 refine allF.head rfl rfl (fun Ka hKa => ?_) allF.nil
 go_simp
 refine hKa.out _ _ (.inr HS3.out) ?_
 clear hKa Ka
 refine wpAnyF_all (rs := [14]) (by kernel_rfl) (by simp) (fun w' hG => ?_)
 obtain rfl := hG
 refine allF.head rfl rfl (fun Kb hKb => ?_) allF.nil
 go_simp
 refine hKb.out _ _ (.inl rfl) ?_
 clear hKb Kb
 refine wpAnyF_done (by kernel_rfl) (fun w' hG => ?_)
 obtain rfl := hG
 have hs : Fr [q] w3 (w3.setCell ⟨q, 4, none⟩ (.slice A3 (x.bs.length - nl) c3)) := (Fr.refl _ _).setCell (.inl (by simp)) _
 have ho3 : OwnB w3 (.slice A3 (x.bs.length - nl) c3) (x.bs.drop nl) := by have := HOWN.out; rw [List.nil_append] at this; exact this
 have hyl : (x.bs.drop nl).length = x.bs.length - nl := by rw [List.length_drop]
 have hr6 : CuR (w3.setCell ⟨q, 4, none⟩ (.slice A3 (x.bs.length - nl) c3)) q { x with bs := x.bs.drop nl } (.slice A3 (x.bs.length - nl) c3) := ⟨HW3.out.put 4 _, Own.fr ho3 hs (fun k hk => by have := Own.ne_bk ho3 HW3.out (by decide); simp; rintro rfl; exact this hk)⟩
 have hloc6 : ∀ k, (Value.slice A3 (x.bs.length - nl) c3).ownBlock = some k → (Value.slice A x.bs.length cap).ownBlock = some k ∨ w.heap.size ≤ k := by
  intro k hk
  rcases HLOC.out with e | e
  ·rw [hk] at e; simp [Value.ownBlock] at e
  ·rw [hk] at e; injection e with e; have := HFX.out.size; exact .inr (by omega)
 obtain ⟨w6, hw6⟩ : ∃ w6, w6 = w3.setCell ⟨q, 4, none⟩ (.slice A3 (x.bs.length - nl) c3) := ⟨_, rfl⟩
 rw [← hw6] at hr6 hs ⊢
 rw [← hyl] at hr6 hloc6 ⊢
 have HR6 := Lib.hid hr6
 have HLOC6 := Lib.hid hloc6
 have HF6 : Hid (Fr (q :: (Value.slice A x.bs.length cap).ownBlock.toList) w w6) := Lib.hid (HFG.out.nil_.trans' hs (fun i hi => .inl (by simp at hi; simp [hi])))
 clear hw6 hr6 hs ho3 hyl f4 c4 HS3 HW3 HLOC HFG HOWN SU HS hloc6
 obtain ⟨y, hy⟩ : ∃ y : Cu, { x with bs := x.bs.drop nl } = y := ⟨_, rfl⟩
 have hyb : x.bs.drop nl = y.bs := by rw [← hy]
 have hyr : x.room = y.room := by rw [← hy]
 have hye : y.en = false := by rw [← hy]; exact hen
 have HY := Lib.hid hy
 rw [hy] at HR6
 rw [hyb] at HR6 HLOC6 ⊢
 clear hy hyb
 obtain ⟨e0, e1, e2, e3, e4, e5⟩ := cu_cells HR6.out.1
 rw [hye] at e5
 clear e0 e1 e2
 rw [hyr, show (x.bs.drop nl).length = y.bs.length by rw [← HY.out]] at HL
 clear hyr hye
 have t1 : decide (y.room ≤ (y.bs.length : Int)) = true := decide_eq_true HL.out
 go_upto_region 11 with fail
 have e3' : w6.drew.cell? ⟨q, 3, none⟩ = some (.int .i64 y.room) := e3
 have e4' : w6.drew.cell? ⟨q, 4, none⟩ = some (.slice A3 y.bs.length c3) := e4
 have e5' : w6.drew.cell? ⟨q, 5, none⟩ = some (.bool false) := e5
 have hr7 : CuR w6.drew q y (.slice A3 y.bs.length c3) := ⟨HR6.out.1.drew, Own.fr (l := []) HR6.out.2 ((Fr.refl [] w6).drew) (by simp)⟩
 have HR7 := Lib.hid hr7
 have HF7 := Lib.hid (HF6.out.trans' ((Fr.refl [] w6).drew) (by simp))
 have f4 := hr7.1.frozen 4
 have f5 := hr7.1.frozen 5
 clear e3 e4 e5 hr7 HR6 HF6
 refine wp_region_M_ (G := fun a b => a = b) (S := fun W => W = w6.drew) ⟨fun _ => rfl, fun a b c h k => h.trans k, fun a b h k => k ▸ h, by kernel_rfl, fun _ _ d _ _ h => by cases d <;> exact h⟩ (by kernel_rfl) fun su => ?_
 have SU := Lib.hid su
 have HS : Hid (w6.drew = w6.drew) := Lib.hid rfl
 clear su
 generalize w6.drew = wD at *
 refine M_move (i := 0) _ SU.out rfl rfl (by kernel_rfl) HS.out rfl ?_
 simp only [Act.put, Act.eval, PE]
 refine M_val (i := 1) (v := ?_) SU.out rfl (by kernel_rfl) HS.out rfl (fun W hS => ?_) ?_
 rotate_left
 ·obtain rfl := hS
  go_simp
  all_goals first | done | rfl | omega | (simp; done) | (simp; omega)
 simp only [Act.put, PU]
 refine M_val (i := 2) (v := ?_) SU.out rfl (by kernel_rfl) HS.out rfl (fun W hS => ?_) ?_
 rotate_left
 ·obtain rfl := hS
  go_simp
  all_goals first | done | rfl | omega | (simp; done) | (simp; omega)
 simp only [Act.put, PU]
 refine M_val (i := 3) (v := .slice A3 y.bs.length c3) SU.out rfl (by kernel_rfl) HS.out rfl (fun W hS => ?_) ?_
 ·obtain rfl := hS
  go_simp
  all_goals first | done | rfl | omega | (simp; done) | (simp; omega)
 simp only [Act.put, PU]
 refine M_val (i := 4) (v := ?_) SU.out rfl (by kernel_rfl) HS.out rfl (fun W hS => ?_) ?_
 rotate_left
 ·obtain rfl := hS
  go_simp
  all_goals first | done | rfl | omega | (simp; done) | (simp; omega)
 simp only [Act.put, PU]
 refine M_move (i := 5) _ SU.out rfl rfl (by kernel_rfl) HS.out rfl ?_
 simp only [Act.put, Act.eval, PE]
 refine M_val (i := 6) (v := ?_) SU.out rfl (by kernel_rfl) HS.out rfl (fun W hS => ?_) ?_
 rotate_left
 ·obtain rfl := hS
  go_simp
  all_goals first | done | rfl | omega | (simp; done) | (simp; omega)
 simp only [Act.put, PU]
 refine M_val (i := 7) (v := ?_) SU.out rfl (by kernel_rfl) HS.out rfl (fun W hS => ?_) ?_
 rotate_left
 ·obtain rfl := hS
  go_simp
  all_goals first | done | rfl | omega | (simp; done) | (simp; omega)
 simp only [Act.put, PU]
 refine M_val (i := 8) (v := .int .i64 y.room) SU.out rfl (by kernel_rfl) HS.out rfl (fun W hS => ?_) ?_
 ·obtain rfl := hS
  go_simp
  all_goals first | done | rfl | omega | (simp; done) | (simp; omega)
 simp only [Act.put, PU]
 refine M_val (i := 9) (v := .bool true) SU.out rfl (by kernel_rfl) HS.out rfl (fun W hS => ?_) ?_
 ·obtain rfl := hS
  go_simp
  all_goals first | done | rfl | omega | (simp; done) | (simp; omega)
 simp only [Act.put, PU]
 refine wpAnyM_done (by kernel_rfl) (fun w' hG => ?_)
 obtain rfl := hG
 have hlast : ({ x with bs := [], en := true } : Cu) = { y with bs := [], en := true } := by rw [← HY.out]
 go_wp2_with fail
 go_ret3
 (try rw [hlast])
 have hs : Fr [q] wD ((wD.setCell ⟨q, 4, none⟩ (.slice none 0 0)).setCell ⟨q, 5, none⟩ (.bool true)) := ((Fr.refl _ _).setCell (.inl (by simp)) _).setCell (.inl (by simp)) _
 exact ⟨rfl, .slice none 0 0, ⟨(HR7.out.1.put 4 _).put 5 _, Own.nil_ _ _⟩, HF7.out.trans' hs (fun i hi => .inl (by simp at hi; simp [hi])), fun k hk => by simp [Value.ownBlock] at hk⟩
set_option maxRecDepth 100000 in
set_option maxHeartbeats 4000000 in
theorem nextp_wait {w : World} {q : Nat} {x : Cu} {v : Value} {s : Sep} (h : CuR w q x v) (hv : SepV w x.k x.c x.f s) (hs : s.ok) (hg : GlobOk w) (hb : x.bs.length ≤ 10000) (hen : x.en = false) (he : firstG s x.bs x.en = none) (hk : x.k = 1) (hl : ((x.bs.drop (nlM x.bs)).length : Int) < x.room) :
    Calls Tryz.prog 29 #[.pointer (some ⟨q, 0, none⟩)] w fun e w' => e = .returned (.tuple #[.string ⟨#[]⟩, .bool false, .nilIface]) ∧ CuTo w q v w' { x with bs := x.bs.drop (nlM x.bs) } := by
 obtain ⟨i0, hi0, hz0, hz1, hz2⟩ := u8parts
 obtain ⟨A, cap, rfl, hcap, hmx, hby0, hnil⟩ := OwnB.val h.2
 have hlt0 : ∀ a, A = some a → a.block < w.heap.size := fun a ha => by subst ha; exact Own.lt h.2 _ rfl
 have HE := Lib.hid he
 have HK := Lib.hid hk
 clear he hk
 obtain ⟨nl, hnl⟩ : ∃ nl, nl = nlM x.bs := ⟨_, rfl⟩
 have hnln : nl ≤ x.bs.length := by rw [hnl]; exact nlM_le _
 rw [← hnl] at hl
 (try rw [← hnl])
 have HNL := Lib.hid hnl
 clear hnl
 have HL := Lib.hid hl
 clear hl
 have hfd : Fr [] w w.drew := (Fr.refl [] w).drew
 have hr2 : CuR w.drew q x (.slice A x.bs.length cap) := ⟨h.1.drew, Own.fr (l := []) h.2 hfd (by simp)⟩
 have HFD : Hid (Fr [] w w.drew) := Lib.hid hfd
 have HR2 := Lib.hid hr2
 have HFIRST : Hid (∀ W, Fr [] w.drew W → Calls Tryz.prog 32 #[.pointer (some ⟨q, 0, none⟩), .slice A x.bs.length cap, .bool x.en] W (FstPost W (firstG s x.bs x.en))) := Lib.hid (fun W hW => by
  obtain ⟨d0, d1, d2, -⟩ := cu_cells (hr2.1.fr hW (by simp))
  have h1 := hfd.trans hW
  exact first_gen d0 d1 d2 (hv.fr_nil h1) hs rfl (At.fr_nil hby0 h1) hnil hcap (fun a ha => Nat.lt_of_lt_of_le (hlt0 a ha) h1.size) hb (hg.fr h1) x.en)
 have HBY0 := Lib.hid hby0
 clear h hr2 hfd hby0 hlt0 hg
 go_enter Tryz.func29, Tryz.ntmps29
 go_upto_region 1 with fail
 refine wp_region_M_ (G := fun a b => Fr [] a b) (S := fun W => Fr [] w.drew W) ⟨fun _ => Fr.refl _ _, fun a b c h k => h.trans k, fun a b h k => h.trans k, by kernel_rfl, fun _ _ d _ _ h => by cases d <;> exact h⟩ (by kernel_rfl) fun su => ?_
 have SU := Lib.hid su
 have HS : Hid (Fr [] w.drew w.drew) := Lib.hid (Fr.refl _ _)
 clear su
 generalize w.drew = wd at *
 refine M_move (i := 0) _ SU.out rfl rfl (by kernel_rfl) HS.out rfl ?_
 simp only [Act.put, Act.eval, PE]
 refine M_val (i := 1) (v := ?_) SU.out rfl (by kernel_rfl) HS.out rfl (fun W hS => ?_) ?_
 rotate_left
 ·obtain ⟨d0, d1, d2, d3, d4, d5⟩ := cu_cells (HR2.out.1.fr hS (by simp)); have hS2 := hS
  go_simp
  all_goals first | done | rfl | omega | (simp; done) | (simp; omega)
 simp only [Act.put, PU]
 refine M_val (i := 2) (v := .pointer (some ⟨q, 0, none⟩)) SU.out rfl (by kernel_rfl) HS.out rfl (fun W hS => ?_) ?_
 ·obtain ⟨d0, d1, d2, d3, d4, d5⟩ := cu_cells (HR2.out.1.fr hS (by simp)); have hS2 := hS
  go_simp
  all_goals first | done | rfl | omega | (simp; done) | (simp; omega)
 simp only [Act.put, PU]
 refine M_move (i := 3) _ SU.out rfl rfl (by kernel_rfl) HS.out rfl ?_
 simp only [Act.put, Act.eval, PE]
 refine M_val (i := 4) (v := ?_) SU.out rfl (by kernel_rfl) HS.out rfl (fun W hS => ?_) ?_
 rotate_left
 ·obtain ⟨d0, d1, d2, d3, d4, d5⟩ := cu_cells (HR2.out.1.fr hS (by simp)); have hS2 := hS
  go_simp
  all_goals first | done | rfl | omega | (simp; done) | (simp; omega)
 simp only [Act.put, PU]
 refine M_val (i := 5) (v := ?_) SU.out rfl (by kernel_rfl) HS.out rfl (fun W hS => ?_) ?_
 rotate_left
 ·obtain ⟨d0, d1, d2, d3, d4, d5⟩ := cu_cells (HR2.out.1.fr hS (by simp)); have hS2 := hS
  go_simp
  all_goals first | done | rfl | omega | (simp; done) | (simp; omega)
 simp only [Act.put, PU]
 refine M_val (i := 6) (v := .slice A x.bs.length cap) SU.out rfl (by kernel_rfl) HS.out rfl (fun W hS => ?_) ?_
 ·obtain ⟨d0, d1, d2, d3, d4, d5⟩ := cu_cells (HR2.out.1.fr hS (by simp)); have hS2 := hS
  go_simp
  all_goals first | done | rfl | omega | (simp; done) | (simp; omega)
 simp only [Act.put, PU]
 refine M_move (i := 7) _ SU.out rfl rfl (by kernel_rfl) HS.out rfl ?_
 simp only [Act.put, Act.eval, PE]
 refine M_val (i := 8) (v := ?_) SU.out rfl (by kernel_rfl) HS.out rfl (fun W hS => ?_) ?_
 rotate_left
 ·obtain ⟨d0, d1, d2, d3, d4, d5⟩ := cu_cells (HR2.out.1.fr hS (by simp)); have hS2 := hS
  go_simp
  all_goals first | done | rfl | omega | (simp; done) | (simp; omega)
 simp only [Act.put, PU]
 refine M_val (i := 9) (v := ?_) SU.out rfl (by kernel_rfl) HS.out rfl (fun W hS => ?_) ?_
 rotate_left
 ·obtain ⟨d0, d1, d2, d3, d4, d5⟩ := cu_cells (HR2.out.1.fr hS (by simp)); have hS2 := hS
  go_simp
  all_goals first | done | rfl | omega | (simp; done) | (simp; omega)
 simp only [Act.put, PU]
 refine M_val (i := 10) (v := .bool x.en) SU.out rfl (by kernel_rfl) HS.out rfl (fun W hS => ?_) ?_
 ·obtain ⟨d0, d1, d2, d3, d4, d5⟩ := cu_cells (HR2.out.1.fr hS (by simp)); have hS2 := hS
  go_simp
  all_goals first | done | rfl | omega | (simp; done) | (simp; omega)
 simp only [Act.put, PU]
 refine M_call (i := 11) (v := .tuple #[.int .i64 0, .int .i64 0, .int .i64 0, .bool false]) SU.out rfl (by kernel_rfl) HS.out rfl (fun W hS => by have hF := HFIRST.out W hS; rw [HE.out] at hF; exact hF) (fun W => ?_) ?_
 ·go_simp
  first | done | rfl
 simp only [Act.put, PU]
 refine M_move (i := 12) _ SU.out rfl rfl (by kernel_rfl) HS.out rfl ?_
 simp only [Act.put, Act.eval, PE]
 refine M_val (i := 13) (v := .int .i64 0) SU.out rfl (by kernel_rfl) HS.out rfl (fun W hS => ?_) ?_
 ·obtain ⟨d0, d1, d2, d3, d4, d5⟩ := cu_cells (HR2.out.1.fr hS (by simp)); have hS2 := hS
  go_simp
  all_goals first | done | rfl | omega | (simp; done) | (simp; omega)
 simp only [Act.put, PU]
 refine M_val (i := 14) (v := .int .i64 0) SU.out rfl (by kernel_rfl) HS.out rfl (fun W hS => ?_) ?_
 ·obtain ⟨d0, d1, d2, d3, d4, d5⟩ := cu_cells (HR2.out.1.fr hS (by simp)); have hS2 := hS
  go_simp
  all_goals first | done | rfl | omega | (simp; done) | (simp; omega)
 simp only [Act.put, PU]
 refine M_val (i := 15) (v := .int .i64 0) SU.out rfl (by kernel_rfl) HS.out rfl (fun W hS => ?_) ?_
 ·obtain ⟨d0, d1, d2, d3, d4, d5⟩ := cu_cells (HR2.out.1.fr hS (by simp)); have hS2 := hS
  go_simp
  all_goals first | done | rfl | omega | (simp; done) | (simp; omega)
 simp only [Act.put, PU]
 refine M_val (i := 16) (v := .bool false) SU.out rfl (by kernel_rfl) HS.out rfl (fun W hS => ?_) ?_
 ·obtain ⟨d0, d1, d2, d3, d4, d5⟩ := cu_cells (HR2.out.1.fr hS (by simp)); have hS2 := hS
  go_simp
  all_goals first | done | rfl | omega | (simp; done) | (simp; omega)
 simp only [Act.put, PU]
 refine M_val (i := 17) (v := ?_) SU.out rfl (by kernel_rfl) HS.out rfl (fun W hS => ?_) ?_
 rotate_left
 ·obtain ⟨d0, d1, d2, d3, d4, d5⟩ := cu_cells (HR2.out.1.fr hS (by simp)); have hS2 := hS
  go_simp
  all_goals first | done | rfl | omega | (simp; done) | (simp; omega)
 simp only [Act.put, PU]
 refine M_val (i := 18) (v := ?_) SU.out rfl (by kernel_rfl) HS.out rfl (fun W hS => ?_) ?_
 rotate_left
 ·obtain ⟨d0, d1, d2, d3, d4, d5⟩ := cu_cells (HR2.out.1.fr hS (by simp)); have hS2 := hS
  go_simp
  all_goals first | done | rfl | omega | (simp; done) | (simp; omega)
 simp only [Act.put, PU]
 refine M_val (i := 19) (v := ?_) SU.out rfl (by kernel_rfl) HS.out rfl (fun W hS => ?_) ?_
 rotate_left
 ·obtain ⟨d0, d1, d2, d3, d4, d5⟩ := cu_cells (HR2.out.1.fr hS (by simp)); have hS2 := hS
  go_simp
  all_goals first | done | rfl | omega | (simp; done) | (simp; omega)
 simp only [Act.put, PU]
 refine M_val (i := 20) (v := ?_) SU.out rfl (by kernel_rfl) HS.out rfl (fun W hS => ?_) ?_
 rotate_left
 ·obtain ⟨d0, d1, d2, d3, d4, d5⟩ := cu_cells (HR2.out.1.fr hS (by simp)); have hS2 := hS
  go_simp
  all_goals first | done | rfl | omega | (simp; done) | (simp; omega)
 simp only [Act.put, PU]
 refine wpAnyM_done (by kernel_rfl) (fun wy hG => ?_)
 have hr3 : CuR wy q x (.slice A x.bs.length cap) := ⟨HR2.out.1.fr hG (by simp), Own.fr (l := []) HR2.out.2 hG (by simp)⟩
 have HR3 := Lib.hid hr3; have HFY := Lib.hid (HFD.out.trans hG); have HBY := Lib.hid (At.fr_nil HBY0.out (HFD.out.trans hG))
 obtain ⟨d0, d1, d2, d3, d4, d5⟩ := cu_cells hr3.1
 have f4 := hr3.1.frozen 4
 have f5 := hr3.1.frozen 5
 clear hG hr3 HFD HR2 HFIRST HBY0 HS SU
 rw [hen] at d5
 rw [HK.out] at d0
 have hnl : Calls Tryz.prog 42 #[.slice A x.bs.length cap, .int .i64 0] wy fun e w' => e = .returned (.int .i64 (nl : Int)) ∧ wy = w' := newlines_0 rfl HBY.out (by omega) nl HNL.out
 have hlx : (byteVals x.bs).length = x.bs.length := byteVals_length _
 go_upto_region 10 with fail
 obtain ⟨wx, hwx⟩ : ∃ wx, wx = wy.drew := ⟨_, rfl⟩
 have hfx : Fr [] wy wx := by rw [hwx]; exact (Fr.refl [] wy).drew
 have hsx : Bk wx q 72 (cuCells x (.slice A x.bs.length cap)) ∧ Bytes wx A x.bs := ⟨HR3.out.1.fr hfx (by simp), At.fr_nil HBY.out hfx⟩
 refine wp_region_F_ (G := fun a b => a = b) (F := fun i => i == 14) (S := fun W => Bk W q 72 (cuCells x (.slice A x.bs.length cap)) ∧ Bytes W A x.bs) ⟨fun _ => rfl, fun a b c h k => h.trans k, fun a b h k => k ▸ h, by kernel_rfl, fun _ _ d _ _ h => by cases d <;> exact h⟩ (by kernel_rfl) fun su => ?_
 have SU := Lib.hid su
 rw [← hwx]
 have HS := Lib.hid hsx
 have HFX := Lib.hid (HFY.out.trans hfx)
 clear su hsx d0 d1 d2 d3 d4 d5 f4 f5 hfx hwx hnl
 refine F_move (i := 0) _ SU.out rfl rfl (by kernel_rfl) HS.out rfl ?_
 simp only [Act.put, Act.eval, PE]
 refine F_move (i := 1) _ SU.out rfl rfl (by kernel_rfl) HS.out rfl ?_
 simp only [Act.put, Act.eval, PE]
 refine F_val (i := 2) (v := ?_) SU.out rfl (by kernel_rfl) HS.out rfl (fun W hS => ?_) ?_
 rotate_left
 ·obtain ⟨-, -, -, -, s1, -⟩ := cu_cells hS.1; have hS2 := hS
  go_simp
  all_goals first | done | rfl
 simp only [Act.put, PU]
 refine F_val (i := 3) (v := .pointer (some ⟨q, 4, none⟩)) SU.out rfl (by kernel_rfl) HS.out rfl (fun W hS => ?_) ?_
 ·obtain ⟨-, -, -, -, s1, -⟩ := cu_cells hS.1; have hS2 := hS
  go_simp
  all_goals first | done | rfl
 simp only [Act.put, PU]
 refine F_val (i := 4) (v := .slice A x.bs.length cap) SU.out rfl (by kernel_rfl) HS.out rfl (fun W hS => ?_) ?_
 ·obtain ⟨-, -, -, -, s1, -⟩ := cu_cells hS.1; have hS2 := hS
  go_simp
  all_goals first | done | rfl
 simp only [Act.put, PU]
 refine F_move (i := 5) _ SU.out rfl rfl (by kernel_rfl) HS.out rfl ?_
 simp only [Act.put, Act.eval, PE]
 refine F_val (i := 6) (v := ?_) SU.out rfl (by kernel_rfl) HS.out rfl (fun W hS => ?_) ?_
 rotate_left
 ·obtain ⟨-, -, -, -, s1, -⟩ := cu_cells hS.1; have hS2 := hS
  go_simp
  all_goals first | done | rfl
 simp only [Act.put, PU]
 refine F_val (i := 7) (v := .pointer (some ⟨q, 4, none⟩)) SU.out rfl (by kernel_rfl) HS.out rfl (fun W hS => ?_) ?_
 ·obtain ⟨-, -, -, -, s1, -⟩ := cu_cells hS.1; have hS2 := hS
  go_simp
  all_goals first | done | rfl
 simp only [Act.put, PU]
 refine F_val (i := 8) (v := .slice A x.bs.length cap) SU.out rfl (by kernel_rfl) HS.out rfl (fun W hS => ?_) ?_
 ·obtain ⟨-, -, -, -, s1, -⟩ := cu_cells hS.1; have hS2 := hS
  go_simp
  all_goals first | done | rfl
 simp only [Act.put, PU]
 refine F_call (i := 9) (f := 42) (args := #[.slice A x.bs.length cap, .int .i64 0]) (v := .int .i64 (nl : Int)) SU.out rfl (by kernel_rfl) HS.out rfl (fun W hS => newlines_0 rfl hS.2 (by omega) nl HNL.out) (fun W => ?_) ?_
 ·go_simp
  first | done | rfl
 simp only [Act.put, PU]
 obtain ⟨X2, hX2⟩ : ∃ X, X = (if cap = nl then A else A.map (·.add (nl * 1))) := ⟨_, rfl⟩
 have hXd : At wx X2 (byteVals (x.bs.drop nl)) := by rw [hX2]; exact cut_drop HS.out.2 hnln hcap
 refine F_cut3 (i := 10) 34 (.tmp 62) (.tmp 67) SU.out rfl rfl 5 i0 Tryz.underlying34 hi0 hz1 A x.bs.length cap nl (by first | rfl | (simp [Act.eval]; done)) (by first | rfl | (simp [Act.eval]; done)) hnln hcap (by kernel_rfl) HS.out rfl ?_
 rw [← hX2]
 clear hX2
 simp only [Act.put, PU]
 refine wpAnyF_all (rs := [11]) (by kernel_rfl) (by simp) (fun w' hG => ?_)
 obtain rfl := hG
 refine allF.head rfl rfl (fun K7 hK7 => ?_) allF.nil
 have hdn : (byteVals (x.bs.drop nl)).length = x.bs.length - nl := by rw [byteVals_length, List.length_drop]
 refine wp_append_OwnS (.const (.slice none 0 0)) (.tmp 68) 34 rfl 5 i0 _ Tryz.underlying34 hi0 hz0 hz1 rfl (.slice none 0 0) [] 0 rfl (by rfl) (Own.nil_ _ _) X2 (x.bs.length - nl) (cap - nl) (by first | rfl | (simp [Act.eval]; done)) (byteVals (x.bs.drop nl)) hXd hdn (byteVals_one _) (by unfold maxLen; omega) (by rw [hz2]; omega) ?_
 intro A3 c3 w3 hown hgr hloc
 rw [Nat.zero_add] at hown hloc
 have hw3 := HS.out.1.grown hgr (by simp [Value.ownBlock])
 have hfg : Fr [] wx w3 := (Fr.refl [] wx).grown hgr (fun g hg => by simp [Value.ownBlock] at hg)
 have hs3 : Bk w3 q 72 (cuCells x (.slice A x.bs.length cap)) ∧ Bytes w3 A x.bs := ⟨hw3, At.fr_nil HS.out.2 hfg⟩
 have f4 := hw3.frozen 4
 have c4 : w3.cell? ⟨q, 4, none⟩ = some (.slice A x.bs.length cap) := hw3.cell_ (i := 4) rfl
 refine hK7.out _ _ (.inr hs3) ?_
 have HOWN := Lib.hid hown; have HFG := Lib.hid (HFX.out.trans hfg); have HLOC := Lib.hid hloc; have HW3 := Lib.hid hw3; have HS3 := Lib.hid hs3
 clear hK7 K7 hw3 hown hgr hloc hfg hs3 hdn hXd
 simp only [Act.put, PU]
 refine wpAnyF_all (rs := [12]) (by kernel_rfl) (by simp) (fun w' hG => ?_)
 obtain rfl := hG
 refine allF.head rfl rfl (fun K9 hK9 => ?_) allF.nil
 go_simp
 refine hK9.out _ _ (.inr HS3.out) ?_
 clear hK9 K9
 refine wpAnyF_all (rs := [13]) (by kernel_rfl) (by simp) (fun w' hG => ?_)
 obtain rfl := hG
 refine allF.head rfl rfl (fun Ka hKa => ?_) allF.nil
 go_simp
 refine hKa.out _ _ (.inr HS3.out) ?_
 clear hKa Ka
 refine wpAnyF_all (rs := [14]) (by kernel_rfl) (by simp) (fun w' hG => ?_)
 obtain rfl := hG
 refine allF.head rfl rfl (fun Kb hKb => ?_) allF.nil
 go_simp
 refine hKb.out _ _ (.inl rfl) ?_
 clear hKb Kb
 refine wpAnyF_done (by kernel_rfl) (fun w' hG => ?_)
 obtain rfl := hG
 have hs : Fr [q] w3 (w3.setCell ⟨q, 4, none⟩ (.slice A3 (x.bs.length - nl) c3)) := (Fr.refl _ _).setCell (.inl (by simp)) _
 have ho3 : OwnB w3 (.slice A3 (x.bs.length - nl) c3) (x.bs.drop nl) := by have := HOWN.out; rw [List.nil_append] at this; exact this
 have hyl : (x.bs.drop nl).length = x.bs.length - nl := by rw [List.length_drop]
 have hr6 : CuR (w3.setCell ⟨q, 4, none⟩ (.slice A3 (x.bs.length - nl) c3)) q { x with bs := x.bs.drop nl } (.slice A3 (x.bs.length - nl) c3) := ⟨HW3.out.put 4 _, Own.fr ho3 hs (fun k hk => by have := Own.ne_bk ho3 HW3.out (by decide); simp; rintro rfl; exact this hk)⟩
 have hloc6 : ∀ k, (Value.slice A3 (x.bs.length - nl) c3).ownBlock = some k → (Value.slice A x.bs.length cap).ownBlock = some k ∨ w.heap.size ≤ k := by
  intro k hk
  rcases HLOC.out with e | e
  ·rw [hk] at e; simp [Value.ownBlock] at e
  ·rw [hk] at e; injection e with e; have := HFX.out.size; exact .inr (by omega)
 obtain ⟨w6, hw6⟩ : ∃ w6, w6 = w3.setCell ⟨q, 4, none⟩ (.slice A3 (x.bs.length - nl) c3) := ⟨_, rfl⟩
 rw [← hw6] at hr6 hs ⊢
 rw [← hyl] at hr6 hloc6 ⊢
 have HR6 := Lib.hid hr6
 have HLOC6 := Lib.hid hloc6
 have HF6 : Hid (Fr (q :: (Value.slice A x.bs.length cap).ownBlock.toList) w w6) := Lib.hid (HFG.out.nil_.trans' hs (fun i hi => .inl (by simp at hi; simp [hi])))
 clear hw6 hr6 hs ho3 hyl f4 c4 HS3 HW3 HLOC HFG HOWN SU HS hloc6
 obtain ⟨y, hy⟩ : ∃ y : Cu, { x with bs := x.bs.drop nl } = y := ⟨_, rfl⟩
 have hyb : x.bs.drop nl = y.bs := by rw [← hy]
 have hyr : x.room = y.room := by rw [← hy]
 have hye : y.en = false := by rw [← hy]; exact hen
 have HY := Lib.hid hy
 rw [hy] at HR6
 rw [hyb] at HR6 HLOC6 ⊢
 clear hy hyb
 obtain ⟨e0, e1, e2, e3, e4, e5⟩ := cu_cells HR6.out.1
 rw [hye] at e5
 clear e0 e1 e2
 rw [hyr, show (x.bs.drop nl).length = y.bs.length by rw [← HY.out]] at HL
 clear hyr hye
 have t1 : decide (y.room ≤ (y.bs.length : Int)) = false := decide_eq_false (by have := HL.out; omega)
 go_upto_region 11 with fail
 have e3' : w6.drew.cell? ⟨q, 3, none⟩ = some (.int .i64 y.room) := e3
 have e4' : w6.drew.cell? ⟨q, 4, none⟩ = some (.slice A3 y.bs.length c3) := e4
 have e5' : w6.drew.cell? ⟨q, 5, none⟩ = some (.bool false) := e5
 have hr7 : CuR w6.drew q y (.slice A3 y.bs.length c3) := ⟨HR6.out.1.drew, Own.fr (l := []) HR6.out.2 ((Fr.refl [] w6).drew) (by simp)⟩
 have HR7 := Lib.hid hr7
 have HF7 := Lib.hid (HF6.out.trans' ((Fr.refl [] w6).drew) (by simp))
 have f4 := hr7.1.frozen 4
 have f5 := hr7.1.frozen 5
 clear e3 e4 e5 hr7 HR6 HF6
 refine wp_region_M_ (G := fun a b => a = b) (S := fun W => W = w6.drew) ⟨fun _ => rfl, fun a b c h k => h.trans k, fun a b h k => k ▸ h, by kernel_rfl, fun _ _ d _ _ h => by cases d <;> exact h⟩ (by kernel_rfl) fun su => ?_
 have SU := Lib.hid su
 have HS : Hid (w6.drew = w6.drew) := Lib.hid rfl
 clear su
 generalize w6.drew = wD at *
 refine M_move (i := 0) _ SU.out rfl rfl (by kernel_rfl) HS.out rfl ?_
 simp only [Act.put, Act.eval, PE]
 refine M_val (i := 1) (v := ?_) SU.out rfl (by kernel_rfl) HS.out rfl (fun W hS => ?_) ?_
 rotate_left
 ·obtain rfl := hS
  go_simp
  all_goals first | done | rfl | omega | (simp; done) | (simp; omega)
 simp only [Act.put, PU]
 refine M_val (i := 2) (v := ?_) SU.out rfl (by kernel_rfl) HS.out rfl (fun W hS => ?_) ?_
 rotate_left
 ·obtain rfl := hS
  go_simp
  all_goals first | done | rfl | omega | (simp; done) | (simp; omega)
 simp only [Act.put, PU]
 refine M_val (i := 3) (v := .slice A3 y.bs.length c3) SU.out rfl (by kernel_rfl) HS.out rfl (fun W hS => ?_) ?_
 ·obtain rfl := hS
  go_simp
  all_goals first | done | rfl | omega | (simp; done) | (simp; omega)
 simp only [Act.put, PU]
 refine M_val (i := 4) (v := ?_) SU.out rfl (by kernel_rfl) HS.out rfl (fun W hS => ?_) ?_
 rotate_left
 ·obtain rfl := hS
  go_simp
  all_goals first | done | rfl | omega | (simp; done) | (simp; omega)
 simp only [Act.put, PU]
 refine M_move (i := 5) _ SU.out rfl rfl (by kernel_rfl) HS.out rfl ?_
 simp only [Act.put, Act.eval, PE]
 refine M_val (i := 6) (v := ?_) SU.out rfl (by kernel_rfl) HS.out rfl (fun W hS => ?_) ?_
 rotate_left
 ·obtain rfl := hS
  go_simp
  all_goals first | done | rfl | omega | (simp; done) | (simp; omega)
 simp only [Act.put, PU]
 refine M_val (i := 7) (v := ?_) SU.out rfl (by kernel_rfl) HS.out rfl (fun W hS => ?_) ?_
 rotate_left
 ·obtain rfl := hS
  go_simp
  all_goals first | done | rfl | omega | (simp; done) | (simp; omega)
 simp only [Act.put, PU]
 refine M_val (i := 8) (v := .int .i64 y.room) SU.out rfl (by kernel_rfl) HS.out rfl (fun W hS => ?_) ?_
 ·obtain rfl := hS
  go_simp
  all_goals first | done | rfl | omega | (simp; done) | (simp; omega)
 simp only [Act.put, PU]
 refine M_val (i := 9) (v := .bool false) SU.out rfl (by kernel_rfl) HS.out rfl (fun W hS => ?_) ?_
 ·obtain rfl := hS
  go_simp
  all_goals first | done | rfl | omega | (simp; done) | (simp; omega)
 simp only [Act.put, PU]
 refine wpAnyM_done (by kernel_rfl) (fun w' hG => ?_)
 obtain rfl := hG
 go_wp2_with fail
 go_ret3
 have hw : ({ k := x.k, c := x.c, f := x.f, room := x.room, bs := x.bs.drop nl, en := false } : Cu) = y := by rw [← hen]; exact HY.out
 (try rw [HY.out])
 (try rw [hw])
 exact ⟨rfl, _, HR7.out, HF7.out, HLOC6.out⟩
end Go.Proofs.YtfbmogccmlikaaaGreatDoor.G
