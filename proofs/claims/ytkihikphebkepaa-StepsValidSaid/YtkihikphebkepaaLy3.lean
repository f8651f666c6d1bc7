/-
  The layer's one and jump; a store into a step. No conditions. (Printed by a program of the prover's.)
-/
import Derived.Test.YtkihikphebkepaaLy2
namespace Go.Proofs.Ytkihikphebkepaa
open Go.RowKit Go.ChangeMaps
set_option linter.unusedVariables false
set_option linter.unusedSimpArgs false

set_option maxRecDepth 100000 in
set_option maxHeartbeats 4000000 in
theorem one_any {w : World} {gy mv : Nat} {l : List Nat} {L : List Sp} (h : LaySt w gy mv l L) (hL : L.length ≤ 100000) (k s0 s1 s2 s3 : Int) :
    Calls Try.prog 27 #[.pointer (some ⟨gy, 0, none⟩), .int .i64 k, .agg #[.int .u64 s0, .int .u64 s1, .int .u64 s2, .int .u64 s3]] w (LayPost w gy mv l (L ++ [⟨k, s0, s1, s2, s3, (L.length : Int) + 1, 0⟩]) (.tuple #[])) := by
  obtain ⟨A, cap, rfl, hb, hr⟩ := h
  obtain ⟨i0, hi0, hz0, hz1, hz2⟩ := stepParts
  obtain ⟨n, hn⟩ : ∃ n, n = L.length := ⟨_, rfl⟩
  rw [← hn] at hb hr ⊢ hL
  have HN := Lib.hid hn; have HB := Lib.hid hb; have HR := Lib.hid hr
  clear hn
  go_enter Try.func27, Try.ntmps27
  go_upto_region 1 with fail
  obtain ⟨wb, hwb⟩ : ∃ wb, wb = w.alloc (.cells #[.int .u64 s0, .int .u64 s1, .int .u64 s2, .int .u64 s3] 27) := ⟨_, rfl⟩
  have hbx : Bk wb w.heap.size 27 #[.int .u64 s0, .int .u64 s1, .int .u64 s2, .int .u64 s3] := by rw [hwb]; exact Bk.new w _ _
  have hbb : Bk wb gy 56 #[.map (some mv), .slice A n cap] := by rw [hwb]; exact hb.alloc _
  have hfb : Fr [] w wb := by rw [hwb]; exact (Fr.refl [] w).alloc _
  have hrb := own_fr hr hfb (by simp)
  rw [← hwb]
  obtain ⟨bx, hbxe⟩ : ∃ bx, bx = w.heap.size := ⟨_, rfl⟩
  rw [← hbxe] at hbx ⊢
  have HBX := Lib.hid hbx; have HBB := Lib.hid hbb; have HFB := Lib.hid hfb; have HRB := Lib.hid hrb
  clear hb hr hbx hbb hfb hrb hwb hbxe
  refine wp_region_F_ (G := fun a b => a = b) (F := fun i => i == 18) (S := fun W => W.cell? ⟨gy, 1, none⟩ = some (.slice A n cap) ∧ Bk W bx 27 #[.int .u64 s0, .int .u64 s1, .int .u64 s2, .int .u64 s3]) ⟨fun _ => rfl, fun a b c h k => h.trans k, fun a b h k => k ▸ h, by kernel_rfl, fun _ _ d _ _ h => by cases d <;> exact h⟩ (by kernel_rfl) fun su => ?_
  have SU := Lib.hid su
  obtain ⟨wd, hwd⟩ : ∃ wd, wd = wb.drew := ⟨_, rfl⟩
  rw [← hwd]
  have HBD : Hid (Bk wd gy 56 #[.map (some mv), .slice A n cap]) := Lib.hid (by rw [hwd]; exact HBB.out.drew)
  have HXD : Hid (Bk wd bx 27 #[.int .u64 s0, .int .u64 s1, .int .u64 s2, .int .u64 s3]) := Lib.hid (by rw [hwd]; exact HBX.out.drew)
  have HRD : Hid (wd.ownsRow 0 48 7 (.slice A n cap) n (L.flatMap Sp.cells)) := Lib.hid (by rw [hwd]; exact HRB.out)
  have HFD : Hid (Fr [] w wd) := Lib.hid (by rw [hwd]; exact HFB.out.drew)
  have HS : Hid (wd.cell? ⟨gy, 1, none⟩ = some (.slice A n cap) ∧ Bk wd bx 27 #[.int .u64 s0, .int .u64 s1, .int .u64 s2, .int .u64 s3]) := Lib.hid ⟨HBD.out.cell_ (i := 1) rfl, HXD.out⟩
  clear su hwd
  refine F_move (i := 0) _ SU.out rfl rfl (by kernel_rfl) HS.out rfl ?_
  simp only [Act.put, Act.eval, Array.getD_eq_getD_getElem?, List.setIfInBounds_toArray, List.set_cons_zero, List.set_cons_succ, List.getElem?_toArray, List.getElem?_cons_zero, List.getElem?_cons_succ, Option.getD_some]
  refine F_move (i := 1) _ SU.out rfl rfl (by kernel_rfl) HS.out rfl ?_
  simp only [Act.put, Act.eval, Array.getD_eq_getD_getElem?, List.setIfInBounds_toArray, List.set_cons_zero, List.set_cons_succ, List.getElem?_toArray, List.getElem?_cons_zero, List.getElem?_cons_succ, Option.getD_some]
  refine F_val (i := 2) (v := ?_) SU.out rfl (by kernel_rfl) HS.out rfl (fun W hS => ?_) ?_
  rotate_left
  · obtain ⟨t0, t1⟩ := hS; have q0 := t1.cell_ (i := 0) rfl; have q1 := t1.cell_ (i := 1) rfl; have q2 := t1.cell_ (i := 2) rfl; have q3 := t1.cell_ (i := 3) rfl
    go_simp
    first | done | rfl | omega | (exact IntWalk.i64_in _ (by omega)) | (simp; done) | (simp; omega)
  simp only [Act.put, List.setIfInBounds_toArray, List.set_cons_zero, List.set_cons_succ]
  refine F_val (i := 3) (v := ?_) SU.out rfl (by kernel_rfl) HS.out rfl (fun W hS => ?_) ?_
  rotate_left
  · obtain ⟨t0, t1⟩ := hS; have q0 := t1.cell_ (i := 0) rfl; have q1 := t1.cell_ (i := 1) rfl; have q2 := t1.cell_ (i := 2) rfl; have q3 := t1.cell_ (i := 3) rfl
    go_simp
    first | done | rfl | omega | (exact IntWalk.i64_in _ (by omega)) | (simp; done) | (simp; omega)
  simp only [Act.put, List.setIfInBounds_toArray, List.set_cons_zero, List.set_cons_succ]
  refine F_val (i := 4) (v := .slice A n cap) SU.out rfl (by kernel_rfl) HS.out rfl (fun W hS => ?_) ?_
  · obtain ⟨t0, t1⟩ := hS; have q0 := t1.cell_ (i := 0) rfl; have q1 := t1.cell_ (i := 1) rfl; have q2 := t1.cell_ (i := 2) rfl; have q3 := t1.cell_ (i := 3) rfl
    go_simp
    first | done | rfl | omega | (exact IntWalk.i64_in _ (by omega)) | (simp; done) | (simp; omega)
  simp only [Act.put, List.setIfInBounds_toArray, List.set_cons_zero, List.set_cons_succ]
  refine F_move (i := 5) _ SU.out rfl rfl (by kernel_rfl) HS.out rfl ?_
  simp only [Act.put, Act.eval, Array.getD_eq_getD_getElem?, List.setIfInBounds_toArray, List.set_cons_zero, List.set_cons_succ, List.getElem?_toArray, List.getElem?_cons_zero, List.getElem?_cons_succ, Option.getD_some]
  refine F_val (i := 6) (v := .agg #[.int .u64 s0, .int .u64 s1, .int .u64 s2, .int .u64 s3]) SU.out rfl (by kernel_rfl) HS.out rfl (fun W hS => ?_) ?_
  · obtain ⟨t0, t1⟩ := hS; have q0 := t1.cell_ (i := 0) rfl; have q1 := t1.cell_ (i := 1) rfl; have q2 := t1.cell_ (i := 2) rfl; have q3 := t1.cell_ (i := 3) rfl
    go_simp
    first | done | rfl | omega | (exact IntWalk.i64_in _ (by omega)) | (simp; done) | (simp; omega)
  simp only [Act.put, List.setIfInBounds_toArray, List.set_cons_zero, List.set_cons_succ]
  refine F_move (i := 7) _ SU.out rfl rfl (by kernel_rfl) HS.out rfl ?_
  simp only [Act.put, Act.eval, Array.getD_eq_getD_getElem?, List.setIfInBounds_toArray, List.set_cons_zero, List.set_cons_succ, List.getElem?_toArray, List.getElem?_cons_zero, List.getElem?_cons_succ, Option.getD_some]
  refine F_val (i := 8) (v := ?_) SU.out rfl (by kernel_rfl) HS.out rfl (fun W hS => ?_) ?_
  rotate_left
  · obtain ⟨t0, t1⟩ := hS; have q0 := t1.cell_ (i := 0) rfl; have q1 := t1.cell_ (i := 1) rfl; have q2 := t1.cell_ (i := 2) rfl; have q3 := t1.cell_ (i := 3) rfl
    go_simp
    first | done | rfl | omega | (exact IntWalk.i64_in _ (by omega)) | (simp; done) | (simp; omega)
  simp only [Act.put, List.setIfInBounds_toArray, List.set_cons_zero, List.set_cons_succ]
  refine F_val (i := 9) (v := ?_) SU.out rfl (by kernel_rfl) HS.out rfl (fun W hS => ?_) ?_
  rotate_left
  · obtain ⟨t0, t1⟩ := hS; have q0 := t1.cell_ (i := 0) rfl; have q1 := t1.cell_ (i := 1) rfl; have q2 := t1.cell_ (i := 2) rfl; have q3 := t1.cell_ (i := 3) rfl
    go_simp
    first | done | rfl | omega | (exact IntWalk.i64_in _ (by omega)) | (simp; done) | (simp; omega)
  simp only [Act.put, List.setIfInBounds_toArray, List.set_cons_zero, List.set_cons_succ]
  refine F_val (i := 10) (v := .slice A n cap) SU.out rfl (by kernel_rfl) HS.out rfl (fun W hS => ?_) ?_
  · obtain ⟨t0, t1⟩ := hS; have q0 := t1.cell_ (i := 0) rfl; have q1 := t1.cell_ (i := 1) rfl; have q2 := t1.cell_ (i := 2) rfl; have q3 := t1.cell_ (i := 3) rfl
    go_simp
    first | done | rfl | omega | (exact IntWalk.i64_in _ (by omega)) | (simp; done) | (simp; omega)
  simp only [Act.put, List.setIfInBounds_toArray, List.set_cons_zero, List.set_cons_succ]
  refine F_val (i := 11) (v := .int .i64 (n : Int)) SU.out rfl (by kernel_rfl) HS.out rfl (fun W hS => ?_) ?_
  · obtain ⟨t0, t1⟩ := hS; have q0 := t1.cell_ (i := 0) rfl; have q1 := t1.cell_ (i := 1) rfl; have q2 := t1.cell_ (i := 2) rfl; have q3 := t1.cell_ (i := 3) rfl
    go_simp
    first | done | rfl | omega | (exact IntWalk.i64_in _ (by omega)) | (simp; done) | (simp; omega)
  simp only [Act.put, List.setIfInBounds_toArray, List.set_cons_zero, List.set_cons_succ]
  refine F_val (i := 12) (v := .int .i64 ((n : Int) + 1)) SU.out rfl (by kernel_rfl) HS.out rfl (fun W hS => ?_) ?_
  · obtain ⟨t0, t1⟩ := hS; have q0 := t1.cell_ (i := 0) rfl; have q1 := t1.cell_ (i := 1) rfl; have q2 := t1.cell_ (i := 2) rfl; have q3 := t1.cell_ (i := 3) rfl
    go_simp
    first | done | rfl | omega | (exact IntWalk.i64_in _ (by omega)) | (simp; done) | (simp; omega)
  simp only [Act.put, List.setIfInBounds_toArray, List.set_cons_zero, List.set_cons_succ]
  refine F_val (i := 13) (v := .agg #[.int .i64 k, .int .u64 s0, .int .u64 s1, .int .u64 s2, .int .u64 s3, .int .i64 ((n : Int) + 1), .int .i64 0]) SU.out rfl (by kernel_rfl) HS.out rfl (fun W hS => ?_) ?_
  · obtain ⟨t0, t1⟩ := hS; have q0 := t1.cell_ (i := 0) rfl; have q1 := t1.cell_ (i := 1) rfl; have q2 := t1.cell_ (i := 2) rfl; have q3 := t1.cell_ (i := 3) rfl
    go_simp
    first | done | rfl | omega | (exact IntWalk.i64_in _ (by omega)) | (simp; done) | (simp; omega)
  simp only [Act.put, List.setIfInBounds_toArray, List.set_cons_zero, List.set_cons_succ]
  refine wpAnyF_all (rs := [14]) (by kernel_rfl) (by simp) (fun w' hG => ?_)
  obtain rfl := hG
  refine allF.head rfl rfl (fun K6 hK6 => ?_) allF.nil
  go_simp
  obtain ⟨we, hwe⟩ : ∃ we, we = wd.alloc (.cells #[.int .i64 k, .int .u64 s0, .int .u64 s1, .int .u64 s2, .int .u64 s3, .int .i64 ((n : Int) + 1), .int .i64 0] 48) := ⟨_, rfl⟩
  rw [← hwe]
  have hBE : Bk we gy 56 #[.map (some mv), .slice A n cap] := by rw [hwe]; exact HBD.out.alloc _
  have hXE : Bk we bx 27 #[.int .u64 s0, .int .u64 s1, .int .u64 s2, .int .u64 s3] := by rw [hwe]; exact HXD.out.alloc _
  have hRE : we.ownsRow 0 48 7 (.slice A n cap) n (L.flatMap Sp.cells) := by rw [hwe]; exact own_fr HRD.out ((Fr.refl [] wd).alloc _) (by simp)
  have hNE : ∀ j u, [.int .i64 k, .int .u64 s0, .int .u64 s1, .int .u64 s2, .int .u64 s3, .int .i64 ((n : Int) + 1), .int .i64 0][j]? = some u → we.cell? ((⟨wd.heap.size, 0, none⟩ : Addr).add j) = some u := by rw [hwe]; exact seven_new wd _ _ _ _ _ _ _ _
  have hFE : Fr [] w we := by rw [hwe]; exact HFD.out.alloc _
  have HBE := Lib.hid hBE; have HXE := Lib.hid hXE; have HRE := Lib.hid hRE; have HNE := Lib.hid hNE; have HFE := Lib.hid hFE
  refine hK6.out _ _ (.inr ⟨hBE.cell_ (i := 1) rfl, hXE⟩) ?_
  clear hK6 K6 hwe hBE hXE hRE hNE hFE
  refine wpAnyF_all (rs := [15]) (by kernel_rfl) (by simp) (fun w' hG => ?_)
  obtain rfl := hG
  refine allF.head rfl rfl (fun K7 hK7 => ?_) allF.nil
  refine wp_append_R (.tmp 10) (.tmp 20) 22 rfl 0 48 i0 _ 7 56 Try.underlying22 hi0 hz0 hz1 hz2 rfl (by omega) (.slice A n cap) n (L.flatMap Sp.cells) (by first | rfl | (simp [Act.eval]; done)) HRE.out ⟨wd.heap.size, 0, none⟩ 1 1 [.int .i64 k, .int .u64 s0, .int .u64 s1, .int .u64 s2, .int .u64 s3, .int .i64 ((n : Int) + 1), .int .i64 0] (by first | rfl | (simp [Act.eval]; done)) rfl HNE.out (by simp [Value.oneCell']) (by unfold maxLen; omega) (by omega) (Nat.zero_le _) ?_
  intro v' w4 hown4 hgr hat
  have hx4 := HXE.out.grown hgr (fun e => own_ne HRE.out HXE.out (by decide) e.symm)
  obtain ⟨A', cap', rfl, hb4, hout⟩ := lay_snoc (s := ⟨k, s0, s1, s2, s3, (n : Int) + 1, 0⟩) HB.out HR.out HN.out HFE.out hown4 hgr (hat.imp id (fun h => by rw [h]))
  have HS4 : Hid (w4.cell? ⟨gy, 1, none⟩ = some (.slice A n cap) ∧ Bk w4 bx 27 #[.int .u64 s0, .int .u64 s1, .int .u64 s2, .int .u64 s3]) := Lib.hid ⟨hb4.cell_ (i := 1) rfl, hx4⟩
  have c1 := HS4.out.1
  have f1 := hb4.frozen 1
  have HOUT := Lib.hid hout
  refine hK7.out _ _ (.inr HS4.out) ?_
  clear hown4 hgr hat hx4 hb4 hout hK7 K7
  simp only [Act.put, List.setIfInBounds_toArray, List.set_cons_zero, List.set_cons_succ]
  refine wpAnyF_all (rs := [16]) (by kernel_rfl) (by simp) (fun w' hG => ?_)
  obtain rfl := hG
  refine allF.head rfl rfl (fun K9 hK9 => ?_) allF.nil
  go_simp
  refine hK9.out _ _ (.inr HS4.out) ?_
  clear hK9 K9
  refine wpAnyF_all (rs := [17]) (by kernel_rfl) (by simp) (fun w' hG => ?_)
  obtain rfl := hG
  refine allF.head rfl rfl (fun K9 hK9 => ?_) allF.nil
  go_simp
  refine hK9.out _ _ (.inr HS4.out) ?_
  clear hK9 K9
  refine wpAnyF_all (rs := [18]) (by kernel_rfl) (by simp) (fun w' hG => ?_)
  obtain rfl := hG
  refine allF.head rfl rfl (fun K9 hK9 => ?_) allF.nil
  go_simp
  refine hK9.out _ _ (.inl rfl) ?_
  clear hK9 K9
  refine wpAnyF_done (by kernel_rfl) (fun w' hG => ?_)
  obtain rfl := hG
  go_wp2_with fail
  go_end0
  exact ⟨rfl, HOUT.out⟩
/-- One cell of a step turned. -/
def Sp.put (s : Sp) (j : Nat) (v : Int) : Sp := if j = 5 then { s with x := v } else { s with y := v }
theorem lay_set {w : World} {gy mv : Nat} {l : List Nat} {L : List Sp} (h : LaySt w gy mv l L) {i : Nat} {s : Sp} (hs : L[i]? = some s) {j : Nat} (hj : j = 5 ∨ j = 6) (v : Int) :
    ∃ B cap, l = [gy, B] ∧ gy ≠ B ∧ w.cell? ⟨gy, 1, none⟩ = some (.slice (some ⟨B, 0, none⟩) L.length cap) ∧ w.frozen? ⟨B, i * 7 + j, none⟩ = false ∧ (∃ u, w.cell? ⟨B, i * 7 + j, none⟩ = some u) ∧
      LaySt (w.setCell ⟨B, i * 7 + j, none⟩ (.int .i64 v)) gy mv l (L.set i (s.put j v)) := by
  obtain ⟨A, cap, rfl, hb, hr⟩ := h
  have hi : i < L.length := (List.getElem?_eq_some_iff.1 hs).1
  have hfl := flat_len sp_len L
  have hne : L.flatMap Sp.cells ≠ [] := fun e => by rw [e] at hfl; simp at hfl; omega
  obtain ⟨B, rfl, hB, hfz, hcl⟩ := own_cells hr hne
  have hgB : gy ≠ B := fun e => own_ne hr hb (by decide) (by rw [e]; rfl)
  have hj7 : j < 7 := by omega
  have hat := flat_at sp_len s j hj7 L i hs
  refine ⟨B, cap, rfl, hgB, hb.cell_ (i := 1) rfl, hfz _, ?_, some ⟨B, 0, none⟩, cap, by rw [List.length_set], ?_, ?_⟩
  · rcases hj with rfl | rfl
    · exact ⟨_, hcl _ _ (hat.trans rfl)⟩
    · exact ⟨_, hcl _ _ (hat.trans rfl)⟩
  · rw [List.length_set]; exact hb.far hgB _
  · rw [List.length_set]
    have h1 := own_set hr (i * 7 + j) (.int .i64 v)
    rw [flat_set sp_len s (s.put j v) j hj7 (.int .i64 v) (by rcases hj with rfl | rfl <;> rfl) L i hs] at h1
    exact h1
end Go.Proofs.Ytkihikphebkepaa
