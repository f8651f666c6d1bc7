/-
  The layer's jump. No conditions. (Printed by a program of the prover's.)
-/
import Derived.Test.YtkihikphebkepaaLy3
namespace Go.Proofs.Ytkihikphebkepaa
open Go.RowKit Go.ChangeMaps
set_option linter.unusedVariables false
set_option linter.unusedSimpArgs false

theorem set_last {α : Type} (L : List α) (x y : α) : (L ++ [x]).set L.length y = L ++ [y] := by
  rw [List.set_append_right _ _ (Nat.le_refl _), Nat.sub_self]; rfl
set_option maxRecDepth 100000 in
set_option maxHeartbeats 4000000 in
theorem jump_any {w : World} {gy mv : Nat} {l : List Nat} {L : List Sp} (h : LaySt w gy mv l L) (hL : L.length ≤ 100000) (to : Nat) :
    Calls Try.prog 38 #[.pointer (some ⟨gy, 0, none⟩), .int .i64 (to : Int)] w (LayPost w gy mv l (L ++ [Sp.fork to to]) (.int .i64 (L.length : Int))) := by
  have H := Lib.hid h; clear h
  go_enter Try.func38, Try.ntmps38
  go_wp2_with fail
  go_at_call 37
  refine (fork_any H.out hL).mono ?_
  rintro e w1 ⟨rfl, hout⟩
  have HOUT := Lib.hid hout
  obtain ⟨l1, h1, hf1, hl1⟩ := hout
  obtain ⟨n, hn⟩ : ∃ n, n = L.length := ⟨_, rfl⟩
  rw [← hn] at hL ⊢
  have hat : (L ++ [Sp.fork (L.length + 1) 0])[n]? = some (Sp.fork (L.length + 1) 0) := by rw [hn]; simp
  have h1d : LaySt w1.drew gy mv l1 (L ++ [Sp.fork (L.length + 1) 0]) := h1.fr_nil ((Fr.refl [] w1).drew)
  obtain ⟨B, cap, hlB, hgB, hc, hz, ⟨u5, hu5⟩, hs5⟩ := lay_set h1d hat (j := 5) (.inl rfl) (to : Int)
  have hat2 : ((L ++ [Sp.fork (L.length + 1) 0]).set n ((Sp.fork (L.length + 1) 0).put 5 to))[n]? = some ((Sp.fork (L.length + 1) 0).put 5 to) := by
    rw [List.getElem?_set_self (by rw [hn]; simp)]
  obtain ⟨B2, cap2, hlB2, -, hc2, hz2, ⟨u6, hu6⟩, hs6⟩ := lay_set hs5 hat2 (j := 6) (.inr rfl) (to : Int)
  have hBB : B2 = B := by rw [hlB] at hlB2; simpa using hlB2.symm
  subst hBB
  have hlen : (L ++ [Sp.fork (L.length + 1) 0]).length = n + 1 := by rw [List.length_append, hn]; rfl
  rw [hlen] at hc
  have hfin : ((L ++ [Sp.fork (L.length + 1) 0]).set n ((Sp.fork (L.length + 1) 0).put 5 to)).set n (((Sp.fork (L.length + 1) 0).put 5 to).put 6 to) = L ++ [Sp.fork to to] := by
    rw [hn, set_last, set_last]; rfl
  rw [hfin] at hs6
  have HS6 := Lib.hid hs6; have HFIN := Lib.hid hfin; have HF1 := Lib.hid hf1; have HL1 := Lib.hid hl1; have HLB := Lib.hid hlB; have HN := Lib.hid hn
  have hn1 : (n : Int) < (n : Int) + 1 := by omega
  have hn2 : n < n + 1 := by omega
  have hlB1 : B2 < w1.heap.size := by have := h1.lt B2 (by rw [hlB]; simp); exact this
  clear h1 hf1 hl1 hat h1d hs5 hat2 hs6 hlB hlB2 hlen hfin hn hc2
  go_upto_region 2 with fail
  refine wp_region_M_ (G := fun a b => a = b) (S := fun W => W.cell? ⟨gy, 1, none⟩ = some (.slice (some ⟨B2, 0, none⟩) (n + 1) cap)) ⟨fun _ => rfl, fun a b c h k => h.trans k, fun a b h k => k ▸ h, by kernel_rfl, fun _ _ d _ _ h => by cases d <;> exact h⟩ (by kernel_rfl) fun su => ?_
  have SU := Lib.hid su
  clear su
  have hfd : Fr [] w1 w1.drew := (Fr.refl [] w1).drew
  have HFD := Lib.hid hfd
  clear hfd
  generalize w1.drew = wd at *
  have HS := Lib.hid hc
  refine M_move (i := 0) _ SU.out rfl rfl (by kernel_rfl) HS.out rfl ?_
  simp only [Act.put, Act.eval, Array.getD_eq_getD_getElem?, List.setIfInBounds_toArray, List.set_cons_zero, List.set_cons_succ, List.getElem?_toArray, List.getElem?_cons_zero, List.getElem?_cons_succ, Option.getD_some]
  refine M_val (i := 1) (v := ?_) SU.out rfl (by kernel_rfl) HS.out rfl (fun W hS => ?_) ?_
  rotate_left
  · have hs1 := hS
    go_simp
    first | done | rfl | omega | (exact IntWalk.i64_in _ (by omega)) | (simp; done) | (simp; omega)
  simp only [Act.put, List.setIfInBounds_toArray, List.set_cons_zero, List.set_cons_succ]
  refine M_val (i := 2) (v := ?_) SU.out rfl (by kernel_rfl) HS.out rfl (fun W hS => ?_) ?_
  rotate_left
  · have hs1 := hS
    go_simp
    first | done | rfl | omega | (exact IntWalk.i64_in _ (by omega)) | (simp; done) | (simp; omega)
  simp only [Act.put, List.setIfInBounds_toArray, List.set_cons_zero, List.set_cons_succ]
  refine M_val (i := 3) (v := .slice (some ⟨B2, 0, none⟩) (n + 1) cap) SU.out rfl (by kernel_rfl) HS.out rfl (fun W hS => ?_) ?_
  · have hs1 := hS
    go_simp
    first | done | rfl | omega | (exact IntWalk.i64_in _ (by omega)) | (simp; done) | (simp; omega)
  simp only [Act.put, List.setIfInBounds_toArray, List.set_cons_zero, List.set_cons_succ]
  refine M_move (i := 4) _ SU.out rfl rfl (by kernel_rfl) HS.out rfl ?_
  simp only [Act.put, Act.eval, Array.getD_eq_getD_getElem?, List.setIfInBounds_toArray, List.set_cons_zero, List.set_cons_succ, List.getElem?_toArray, List.getElem?_cons_zero, List.getElem?_cons_succ, Option.getD_some]
  refine M_move (i := 5) _ SU.out rfl rfl (by kernel_rfl) HS.out rfl ?_
  simp only [Act.put, Act.eval, Array.getD_eq_getD_getElem?, List.setIfInBounds_toArray, List.set_cons_zero, List.set_cons_succ, List.getElem?_toArray, List.getElem?_cons_zero, List.getElem?_cons_succ, Option.getD_some]
  refine M_val (i := 6) (v := ?_) SU.out rfl (by kernel_rfl) HS.out rfl (fun W hS => ?_) ?_
  rotate_left
  · have hs1 := hS
    go_simp
    first | done | rfl | omega | (exact IntWalk.i64_in _ (by omega)) | (simp; done) | (simp; omega)
  simp only [Act.put, List.setIfInBounds_toArray, List.set_cons_zero, List.set_cons_succ]
  refine M_val (i := 7) (v := ?_) SU.out rfl (by kernel_rfl) HS.out rfl (fun W hS => ?_) ?_
  rotate_left
  · have hs1 := hS
    go_simp
    first | done | rfl | omega | (exact IntWalk.i64_in _ (by omega)) | (simp; done) | (simp; omega)
  simp only [Act.put, List.setIfInBounds_toArray, List.set_cons_zero, List.set_cons_succ]
  refine M_val (i := 8) (v := .slice (some ⟨B2, 0, none⟩) (n + 1) cap) SU.out rfl (by kernel_rfl) HS.out rfl (fun W hS => ?_) ?_
  · have hs1 := hS
    go_simp
    first | done | rfl | omega | (exact IntWalk.i64_in _ (by omega)) | (simp; done) | (simp; omega)
  simp only [Act.put, List.setIfInBounds_toArray, List.set_cons_zero, List.set_cons_succ]
  refine M_move (i := 9) _ SU.out rfl rfl (by kernel_rfl) HS.out rfl ?_
  simp only [Act.put, Act.eval, Array.getD_eq_getD_getElem?, List.setIfInBounds_toArray, List.set_cons_zero, List.set_cons_succ, List.getElem?_toArray, List.getElem?_cons_zero, List.getElem?_cons_succ, Option.getD_some]
  refine M_move (i := 10) _ SU.out rfl rfl (by kernel_rfl) HS.out rfl ?_
  simp only [Act.put, Act.eval, Array.getD_eq_getD_getElem?, List.setIfInBounds_toArray, List.set_cons_zero, List.set_cons_succ, List.getElem?_toArray, List.getElem?_cons_zero, List.getElem?_cons_succ, Option.getD_some]
  refine M_move (i := 11) _ SU.out rfl rfl (by kernel_rfl) HS.out rfl ?_
  simp only [Act.put, Act.eval, Array.getD_eq_getD_getElem?, List.setIfInBounds_toArray, List.set_cons_zero, List.set_cons_succ, List.getElem?_toArray, List.getElem?_cons_zero, List.getElem?_cons_succ, Option.getD_some]
  refine M_val (i := 12) (v := .pointer (some ⟨B2, n * 7, none⟩)) SU.out rfl (by kernel_rfl) HS.out rfl (fun W hS => ?_) ?_
  · have hs1 := hS
    go_simp
    first | done | rfl | omega | (exact IntWalk.i64_in _ (by omega)) | (simp; done) | (simp; omega)
  simp only [Act.put, List.setIfInBounds_toArray, List.set_cons_zero, List.set_cons_succ]
  refine M_val (i := 13) (v := .pointer (some ⟨B2, n * 7 + 5, none⟩)) SU.out rfl (by kernel_rfl) HS.out rfl (fun W hS => ?_) ?_
  · have hs1 := hS
    go_simp
    first | done | rfl | omega | (exact IntWalk.i64_in _ (by omega)) | (simp; done) | (simp; omega)
  simp only [Act.put, List.setIfInBounds_toArray, List.set_cons_zero, List.set_cons_succ]
  refine wpAnyM_all (rs := [14]) (by kernel_rfl) (by simp) (fun w' hG => ?_)
  obtain rfl := hG
  refine allM.head rfl rfl (fun K6 hK6 => ?_) allM.nil
  go_simp
  refine hK6.out _ _ (by go_simp) ?_
  clear hK6 K6
  refine wpAnyM_all (rs := [15]) (by kernel_rfl) (by simp) (fun w' hG => ?_)
  obtain rfl := hG
  refine allM.head rfl rfl (fun K6 hK6 => ?_) allM.nil
  go_simp
  refine hK6.out _ _ (by go_simp) ?_
  clear hK6 K6
  refine wpAnyM_all (rs := [16]) (by kernel_rfl) (by simp) (fun w' hG => ?_)
  obtain rfl := hG
  refine allM.head rfl rfl (fun K6 hK6 => ?_) allM.nil
  go_simp
  refine hK6.out _ _ (by go_simp) ?_
  clear hK6 K6
  refine wpAnyM_all (rs := [17]) (by kernel_rfl) (by simp) (fun w' hG => ?_)
  obtain rfl := hG
  refine allM.head rfl rfl (fun K6 hK6 => ?_) allM.nil
  go_simp
  refine hK6.out _ _ (by go_simp) ?_
  clear hK6 K6
  refine wpAnyM_done (by kernel_rfl) (fun w' hG => ?_)
  obtain rfl := hG
  go_wp2_with fail
  go_ret
  have hfr : Fr l1 w1 ((wd.setCell ⟨B2, n * 7 + 5, none⟩ (.int .i64 (to : Int))).setCell ⟨B2, n * 7 + 6, none⟩ (.int .i64 (to : Int))) := by
    rw [HLB.out]
    exact ((HFD.out.nil_).setCell (.inl (by simp)) _).setCell (.inl (by simp)) _
  exact ⟨by rw [← HN.out]; rfl, l1, HS6.out, HF1.out.trans' hfr HL1.out, HL1.out⟩
end Go.Proofs.Ytkihikphebkepaa
