/-
  What happens to a net: a connection comes in. No conditions on the program.
-/
import Derived.Test.YtedcheicnaphmaaNet
import Derived.Test.YtedcheicnaphmaaDrawnF
import Derived.Deep.CutRange
namespace Go.Proofs.Ytedcheicnaphmaa
open Go.RowKit
set_option linter.unusedVariables false
set_option linter.unusedSimpArgs false

theorem within_any (x lo hi : Int) (w : World) : Calls Try.prog 28 #[.int .i64 x, .int .i64 lo, .int .i64 hi] w fun e w' => e = .returned (.bool (decide (lo ≤ x) && decide (x ≤ hi))) ∧ w = w' := by
  by_cases h : lo ≤ x
  · have d : decide (lo ≤ x) = true := by simpa using h
    go_enter Try.func28, Try.ntmps28
    go_wp2_with fail
    go_ret
    exact ⟨by simp [h], rfl⟩
  · have d : decide (lo ≤ x) = false := by simpa using h
    go_enter Try.func28, Try.ntmps28
    go_wp2_with fail
    go_ret
    exact ⟨by simp [h], rfl⟩
/-- An event. -/
def evC (k c N : Int) (bv : Value) : Array Value := #[.int .i64 k, .int .i64 c, .int .i64 N, bv]
theorem right_n (k c N : Int) (bv : Value) (hk : k = 0 ∨ k = 4 ∨ k = 5) (h0 : 0 ≤ N) (h1 : N ≤ 65536) (w : World) : Calls Try.prog 21 #[.agg (evC k c N bv)] w fun e w' => e = .returned (.bool true) ∧ Fr [] w w' := by
  unfold evC
  have hb : (decide ((0 : Int) ≤ N) && decide (N ≤ 65536)) = true := by simp [h0, h1]
  rcases hk with rfl | rfl | rfl
  all_goals
    go_enter Try.func21, Try.ntmps21
    go_wp2_with fail
    go_at_call 28
    refine (within_any N 0 65536 _).mono ?_
    rintro e w1 ⟨rfl, rfl⟩
    rw [hb]
    go_wp2_with fail
    go_ret
    exact ⟨rfl, (Fr.refl [] w).alloc _⟩
/-- A wire that came in. -/
def cameW (N : Int) : Wr := ⟨1, [], [], N, [], false, false, false, true⟩
set_option maxRecDepth 100000 in
set_option maxHeartbeats 1000000 in
theorem arrive_yes {w : World} {B n : Nat} {now : Int} {ws : List Wr} (h : NetS w B n now ws) (hB : B ≤ w.heap.size) (hl : ws.length < 64) (c N : Int) (bv : Value) (hbv : ∃ A n c, bv = .slice A n c) (h0 : 0 ≤ N) (h1 : N ≤ 65536) :
    Calls Try.prog 10 #[.pointer (some ⟨n, 0, none⟩), .agg (evC 0 c N bv)] w fun e w' => e = .returned .nilIface ∧ NetS w' B n now (ws ++ [cameW N]) ∧ NFr B w w' := by
  obtain ⟨bA, bn, bc, rfl⟩ := hbv
  have hri := fun w => right_n 0 c N (.slice bA bn bc) (.inl rfl) h0 h1 w
  have HRI := Lib.hid hri; clear hri
  unfold evC at *
  go_enter Try.func10, Try.ntmps10
  go_wp2_with fail
  go_at_call 21
  refine (HRI.out _).mono ?_
  rintro e w1 ⟨rfl, hf⟩
  have hf1 : Fr [] w w1 := ((Fr.refl [] w).alloc _).trans hf
  have hev : Bk w1 w.heap.size 34 #[.int .i64 0, .int .i64 c, .int .i64 N, .slice bA bn bc] := (Bk.new w _ _).fr hf (by simp)
  obtain ⟨v, G, IV, GV, h⟩ := h
  have h' := h.fr_nil hf1
  obtain ⟨A, cap, hv, hc1, hc2, -⟩ := h'.row_at
  subst hv
  have c1 := h'.net.cell_ (i := 1) rfl
  have d0 := hev.cell_ (i := 0) rfl
  have d2 := hev.cell_ (i := 2) rfl
  have hB1 : B ≤ w1.heap.size := Nat.le_trans hB hf1.size
  have HF1 := Lib.hid hf1; have H1 := Lib.hid h'; have HEV1 := Lib.hid hev
  clear hf hf1 hev h h'
  generalize w.heap.size = ge at *
  obtain ⟨i0, hi0, hz0, hz1, hz2⟩ := ptrParts
  unfold maxLen at hc2
  go_upto_region 14 with fail
  refine wp_region_F_ (G := fun a b => a = b) (F := fun i => i == 14) (S := fun W => W.cell? ⟨n, 1, none⟩ = some (.slice A ws.length cap) ∧ W.cell? ⟨ge, 2, none⟩ = some (.int .i64 N)) ⟨fun _ => rfl, fun a b c h k => h.trans k, fun a b h k => k ▸ h, by kernel_rfl, fun _ _ d _ _ h => by cases d <;> exact h⟩ (by kernel_rfl) fun su => ?_
  have SU := Lib.hid su
  have H := Lib.hid (H1.out.fr_nil (Fr.refl [] w1).drew)
  have HEV := Lib.hid (HEV1.out.drew)
  have HFD := Lib.hid (HF1.out.drew)
  have HBD : Hid (B ≤ w1.drew.heap.size) := Lib.hid hB1
  have HS : Hid (w1.drew.cell? ⟨n, 1, none⟩ = some (.slice A ws.length cap) ∧ w1.drew.cell? ⟨ge, 2, none⟩ = some (.int .i64 N)) := Lib.hid ⟨c1, d2⟩
  clear su c1 d0 d2 H1 HEV1 HF1 hB1
  generalize w1.drew = wd at *
  have keepS : ∀ (W : World) (o : Obj), (W.cell? ⟨n, 1, none⟩ = some (.slice A ws.length cap) ∧ W.cell? ⟨ge, 2, none⟩ = some (.int .i64 N)) → ((W.alloc o).cell? ⟨n, 1, none⟩ = some (.slice A ws.length cap) ∧ (W.alloc o).cell? ⟨ge, 2, none⟩ = some (.int .i64 N)) := by
    intro W o ⟨s1, s2⟩
    exact ⟨by rw [World.cell?_alloc_some _ _ _ (by rw [s1]; rfl)]; exact s1, by rw [World.cell?_alloc_some _ _ _ (by rw [s2]; rfl)]; exact s2⟩
  have HKEEP := Lib.hid keepS; clear keepS
  refine F_move (i := 0) _ SU.out rfl rfl (by kernel_rfl) HS.out rfl ?_
  simp only [Act.put, Act.eval, List.setIfInBounds_toArray, List.set_cons_zero, List.set_cons_succ, List.getElem?_toArray, List.getElem?_cons_zero, List.getElem?_cons_succ, Option.getD_some]
  refine F_move (i := 1) _ SU.out rfl rfl (by kernel_rfl) HS.out rfl ?_
  simp only [Act.put, Act.eval, List.setIfInBounds_toArray, List.set_cons_zero, List.set_cons_succ, List.getElem?_toArray, List.getElem?_cons_zero, List.getElem?_cons_succ, Option.getD_some]
  refine F_val (i := 2) (v := ?_) SU.out rfl (by kernel_rfl) HS.out rfl (fun W hS => ?_) ?_
  rotate_left
  · go_simp
    first | done | rfl
  simp only [Act.put, List.setIfInBounds_toArray, List.set_cons_zero, List.set_cons_succ]
  refine F_val (i := 3) (v := ?_) SU.out rfl (by kernel_rfl) HS.out rfl (fun W hS => ?_) ?_
  rotate_left
  · go_simp
    first | done | rfl
  simp only [Act.put, List.setIfInBounds_toArray, List.set_cons_zero, List.set_cons_succ]
  refine F_val (i := 4) (v := .slice A ws.length cap) SU.out rfl (by kernel_rfl) HS.out rfl (fun W hS => ?_) ?_
  · obtain ⟨s1, s2⟩ := hS
    go_simp
    first | done | rfl
  simp only [Act.put, List.setIfInBounds_toArray, List.set_cons_zero, List.set_cons_succ]
  refine F_val (i := 5) (v := ?_) SU.out rfl (by kernel_rfl) HS.out rfl (fun W hS => ?_) ?_
  rotate_left
  · go_simp
    first | done | rfl
  simp only [Act.put, List.setIfInBounds_toArray, List.set_cons_zero, List.set_cons_succ]
  refine F_val (i := 6) (v := .int .i64 N) SU.out rfl (by kernel_rfl) HS.out rfl (fun W hS => ?_) ?_
  · obtain ⟨s1, s2⟩ := hS
    go_simp
    first | done | rfl
  simp only [Act.put, List.setIfInBounds_toArray, List.set_cons_zero, List.set_cons_succ]
  refine F_val (i := 7) (v := ?_) SU.out rfl (by kernel_rfl) HS.out rfl (fun W hS => ?_) ?_
  rotate_left
  · go_simp
    first | done | rfl
  simp only [Act.put, List.setIfInBounds_toArray, List.set_cons_zero, List.set_cons_succ]
  refine F_val (i := 8) (v := ?_) SU.out rfl (by kernel_rfl) HS.out rfl (fun W hS => ?_) ?_
  rotate_left
  · go_simp
    first | done | rfl
  simp only [Act.put, List.setIfInBounds_toArray, List.set_cons_zero, List.set_cons_succ]
  refine wpAnyF_all (rs := [9]) (by kernel_rfl) (by simp) (fun w' hG => ?_)
  obtain rfl := hG
  refine allF.head rfl rfl (fun K5 hK5 => ?_) allF.nil
  go_simp
  refine hK5.out _ _ (.inr (HKEEP.out _ _ HS.out)) ?_
  clear hK5 K5
  refine wpAnyF_all (rs := [10]) (by kernel_rfl) (by simp) (fun w' hG => ?_)
  obtain rfl := hG
  refine allF.head rfl rfl (fun K6 hK6 => ?_) allF.nil
  go_simp
  refine hK6.out _ _ (.inr (HKEEP.out _ _ (HKEEP.out _ _ HS.out))) ?_
  clear hK6 K6
  refine wpAnyF_all (rs := [11]) (by kernel_rfl) (by simp) (fun w' hG => ?_)
  obtain rfl := hG
  refine allF.head rfl rfl (fun K7 hK7 => ?_) allF.nil
  refine wp_append_OwnS (.tmp 49) (.tmp 55) 55 rfl 58 i0 _ Try.underlying55 hi0 hz0 hz1 rfl (.slice A ws.length cap) (ptrs G ws.length) ws.length (ptrs_length _ _) (by first | rfl | (simp [Act.eval]; done)) ((H.out.row.fr ((Fr.refl [] wd).alloc (.cells (wCells (cameW N) (.slice none 0 0) (.slice none 0 0)) 60)) (by simp)).fr ((Fr.refl [] _).alloc (.cells #[.pointer (some ⟨wd.heap.size, 0, none⟩)] 58)) (by simp)) (some ⟨wd.heap.size + 1, 0, none⟩) 1 1 (by first | rfl | (simp [Act.eval]; done)) [.pointer (some ⟨wd.heap.size, 0, none⟩)] (one_ptr wd _ _) rfl (by simp [Value.oneCell']) (by unfold maxLen; omega) (by rw [hz2]; omega) ?_
  intro A3 c3 w3 hown hgr hloc
  have hn3 := (hgr.block n (by have := H.out.net.lt; simp; omega) (net_row H.out)).trans (net_two H.out _ _)
  have he3 : Bk w3 ge 34 _ := ((HEV.out.alloc _).alloc _).grown hgr (fun e => H.out.row.ne_bk HEV.out (by decide) e.symm)
  have c1 := Bk.cell_ (g := n) hn3 (i := 1) rfl
  have f1 := Bk.frozen (g := n) hn3 1
  have hs3 : w3.cell? ⟨n, 1, none⟩ = some (.slice A ws.length cap) ∧ w3.cell? ⟨ge, 2, none⟩ = some (.int .i64 N) := ⟨c1, he3.cell_ rfl⟩
  have HS3 := Lib.hid hs3
  refine hK7.out _ _ (.inr hs3) ?_
  clear hs3
  have HOWN := Lib.hid hown; have HGR := Lib.hid hgr; have HLOC := Lib.hid hloc
  clear hK7 K7 hn3 he3 hown hgr hloc
  simp only [Act.put, List.setIfInBounds_toArray, List.set_cons_zero, List.set_cons_succ]
  refine wpAnyF_all (rs := [12]) (by kernel_rfl) (by simp) (fun w' hG => ?_)
  obtain rfl := hG
  refine allF.head rfl rfl (fun K9 hK9 => ?_) allF.nil
  go_simp
  refine hK9.out _ _ (.inr HS3.out) ?_
  clear hK9 K9
  refine wpAnyF_all (rs := [13]) (by kernel_rfl) (by simp) (fun w' hG => ?_)
  obtain rfl := hG
  refine allF.head rfl rfl (fun Ka hKa => ?_) allF.nil
  go_simp
  refine hKa.out _ _ (.inr HS3.out) ?_
  clear hKa Ka
  refine wpAnyF_all (rs := [14]) (by kernel_rfl) (by simp) (fun w' hG => ?_)
  obtain rfl := hG
  refine allF.head rfl rfl (fun K8 hK8 => ?_) allF.nil
  go_simp
  refine hK8.out _ _ (.inl rfl) ?_
  clear hK8 K8 c1 f1
  refine wpAnyF_done (by kernel_rfl) (fun w' hG => ?_)
  obtain rfl := hG
  go_wp2_with fail
  go_ret
  have hp := net_pushed H.out HBD.out (cameW N) rfl rfl HOWN.out HGR.out HLOC.out
  exact ⟨rfl, hp.1, (NFr.of_fr HFD.out).trans hp.2⟩
end Go.Proofs.Ytedcheicnaphmaa
