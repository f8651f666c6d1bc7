/-
  What happens to a wire: its window grows. No conditions on the program.
-/
import Derived.Test.YtedcheicnaphmaaNet8
namespace Go.Proofs.Ytedcheicnaphmaa
open Go.RowKit
set_option linter.unusedVariables false
set_option linter.unusedSimpArgs false

set_option maxRecDepth 100000 in
set_option maxHeartbeats 2000000 in
theorem wwindow_yes {w : World} {B n : Nat} {now : Int} {ws : List Wr} (v : Value) (G : Nat → Nat) (IV GV : Nat → Value) (h : NetR w B n now ws v G IV GV) (hB : B ≤ w.heap.size) {k : Nat} (hk : k < ws.length) (x : Wr) (hx : ws.getD k default = x) (hst : x.st = 1) (hw0 : 0 ≤ x.win) (hw1 : x.win ≤ 1048576) (c N : Int) (h0 : 0 ≤ N) (h1 : N ≤ 65536) (bA : Option Addr) (bn bc : Nat) (M : Int) (hM : (if 1048576 < x.win + N then 1048576 else x.win + N) = M) :
    Calls Try.prog 22 #[.pointer (some ⟨G k, 0, none⟩), .agg (evC 4 c N (.slice bA bn bc))] w fun e w' => e = .returned .nilIface ∧ NetS w' B n now (ws.set k { x with win := M }) ∧ NFr B w w' := by
  have hw := h.wire k hk
  rw [hx] at hw
  obtain ⟨d0, -, -, d3, -, d5, -⟩ := w_cells hw
  have hgl := hw.lt
  rw [hst] at d0
  have hwr : IntKind.i64.wrap (x.win + N) = x.win + N := by rw [IntKind.wrap_i64]; omega
  have hev : Bk (w.alloc (.cells (evC 4 c N (.slice bA bn bc)) 34)) w.heap.size 34 (evC 4 c N (.slice bA bn bc)) := Bk.new w _ _
  have HEV1 := Lib.hid hev
  have H0 := Lib.hid h; have HX := Lib.hid hx
  clear h hw hev hx
  unfold evC at *
  go_enter Try.func22, Try.ntmps22
  go_upto_region 21 with fail
  refine code_gen fun W hW => ?_
  have hfW : Fr [] w W := by rw [hW]; exact (Fr.refl [] w).alloc _
  have HEVW : Hid (Bk W w.heap.size 34 #[.int .i64 4, .int .i64 c, .int .i64 N, .slice bA bn bc]) := Lib.hid (by rw [hW]; exact HEV1.out)
  clear hW HEV1
  have H := Lib.hid (H0.out.fr_nil (hfW.drew))
  have HEV := Lib.hid (HEVW.out.drew)
  have HFD := Lib.hid hfW.drew
  generalize w.heap.size = ge at *
  have hwd := H.out.wire k hk
  rw [HX.out] at hwd
  have c3 := hwd.cell_ (i := 3) (v := .int .i64 x.win) rfl
  have f3 := hwd.frozen 3
  have c2 := HEV.out.cell_ (i := 2) (v := .int .i64 N) rfl
  refine wp_region_F_ (G := fun a b => a = b) (F := fun i => i == 13) (S := fun W => W.cell? ⟨G k, 3, none⟩ = some (.int .i64 x.win) ∧ W.cell? ⟨ge, 2, none⟩ = some (.int .i64 N)) ⟨fun _ => rfl, fun a b c h k => h.trans k, fun a b h k => k ▸ h, by kernel_rfl, fun _ _ d _ _ h => by cases d <;> exact h⟩ (by kernel_rfl) fun su => ?_
  have SU := Lib.hid su
  have HS : Hid (W.drew.cell? ⟨G k, 3, none⟩ = some (.int .i64 x.win) ∧ W.drew.cell? ⟨ge, 2, none⟩ = some (.int .i64 N)) := Lib.hid ⟨c3, c2⟩
  have HWD := Lib.hid hwd
  clear su c2 hwd H0 HEVW HEV hfW hB d0 d3 d5 hgl
  generalize W.drew = wd at *
  refine F_move (i := 0) _ SU.out rfl rfl (by kernel_rfl) HS.out rfl ?_
  simp only [Act.put, Act.eval, List.setIfInBounds_toArray, List.set_cons_zero, List.set_cons_succ, List.getElem?_toArray, List.getElem?_cons_zero, List.getElem?_cons_succ, Option.getD_some]
  refine F_move (i := 1) _ SU.out rfl rfl (by kernel_rfl) HS.out rfl ?_
  simp only [Act.put, Act.eval, List.setIfInBounds_toArray, List.set_cons_zero, List.set_cons_succ, List.getElem?_toArray, List.getElem?_cons_zero, List.getElem?_cons_succ, Option.getD_some]
  refine F_val (i := 2) (v := ?_) SU.out rfl (by kernel_rfl) HS.out rfl (fun W hS => ?_) ?_
  rotate_left
  · go_simp
    first | done | rfl
  simp only [Act.put, List.setIfInBounds_toArray, List.set_cons_zero, List.set_cons_succ]
  refine F_val (i := 3) (v := ?_) SU.out rfl (by kernel_rfl) HS.out rfl (fun W hS => ?_) ?_
  rotate_left
  · go_simp
    first | done | rfl
  simp only [Act.put, List.setIfInBounds_toArray, List.set_cons_zero, List.set_cons_succ]
  refine F_val (i := 4) (v := ?_) SU.out rfl (by kernel_rfl) HS.out rfl (fun W hS => ?_) ?_
  rotate_left
  · go_simp
    first | done | rfl
  simp only [Act.put, List.setIfInBounds_toArray, List.set_cons_zero, List.set_cons_succ]
  refine F_val (i := 5) (v := .int .i64 x.win) SU.out rfl (by kernel_rfl) HS.out rfl (fun W hS => ?_) ?_
  · obtain ⟨s1, s2⟩ := hS
    go_simp
    first | done | rfl
  simp only [Act.put, List.setIfInBounds_toArray, List.set_cons_zero, List.set_cons_succ]
  refine F_val (i := 6) (v := ?_) SU.out rfl (by kernel_rfl) HS.out rfl (fun W hS => ?_) ?_
  rotate_left
  · go_simp
    first | done | rfl
  simp only [Act.put, List.setIfInBounds_toArray, List.set_cons_zero, List.set_cons_succ]
  refine F_val (i := 7) (v := .int .i64 N) SU.out rfl (by kernel_rfl) HS.out rfl (fun W hS => ?_) ?_
  · obtain ⟨s1, s2⟩ := hS
    go_simp
    first | done | rfl
  simp only [Act.put, List.setIfInBounds_toArray, List.set_cons_zero, List.set_cons_succ]
  refine F_val (i := 8) (v := .int .i64 (x.win + N)) SU.out rfl (by kernel_rfl) HS.out rfl (fun W hS => ?_) ?_
  · go_simp
    first | done | rfl
  simp only [Act.put, List.setIfInBounds_toArray, List.set_cons_zero, List.set_cons_succ]
  refine F_val (i := 9) (v := .int .i64 M) SU.out rfl (by kernel_rfl) HS.out rfl (fun W hS => ?_) ?_
  · go_simp
    first | done | rfl | (simp [Builtin.min_, Builtin.min2, hM]; done)
  simp only [Act.put, List.setIfInBounds_toArray, List.set_cons_zero, List.set_cons_succ]
  refine wpAnyF_all (rs := [10]) (by kernel_rfl) (by simp) (fun w' hG => ?_)
  obtain rfl := hG
  refine allF.head rfl rfl (fun K9 hK9 => ?_) allF.nil
  go_simp
  refine hK9.out _ _ (.inr HS.out) ?_
  clear hK9 K9
  refine wpAnyF_all (rs := [11]) (by kernel_rfl) (by simp) (fun w' hG => ?_)
  obtain rfl := hG
  refine allF.head rfl rfl (fun Ka hKa => ?_) allF.nil
  go_simp
  refine hKa.out _ _ (.inr HS.out) ?_
  clear hKa Ka
  refine wpAnyF_all (rs := [12]) (by kernel_rfl) (by simp) (fun w' hG => ?_)
  obtain rfl := hG
  refine allF.head rfl rfl (fun Kb hKb => ?_) allF.nil
  go_simp
  refine hKb.out _ _ (.inr HS.out) ?_
  clear hKb Kb
  refine wpAnyF_all (rs := [13]) (by kernel_rfl) (by simp) (fun w' hG => ?_)
  obtain rfl := hG
  refine allF.head rfl rfl (fun K8 hK8 => ?_) allF.nil
  go_simp
  refine hK8.out _ _ (.inl rfl) ?_
  clear hK8 K8 c3 f3
  refine wpAnyF_done (by kernel_rfl) (fun w' hG => ?_)
  obtain rfl := hG
  go_wp2_with fail
  go_ret
  have hf5 : Fr [G k] wd (wd.setCell ⟨G k, 3, none⟩ (.int .i64 M)) := (Fr.refl _ _).setCell (.inl (by simp)) _
  have hq := H.out.putW hk { x with win := M } hf5 (HWD.out.put 3 _) (by rw [HX.out]) (by rw [HX.out])
  refine ⟨rfl, ⟨_, _, _, _, hq⟩, (NFr.of_fr HFD.out).trans (NFr.own [G k] hf5 ?_)⟩
  intro j hj
  rw [List.mem_singleton.1 hj]
  exact ⟨H.out.bg k hk, .inr ⟨_, _, _, HWD.out, .inr (.inr (.inl rfl))⟩⟩

set_option maxRecDepth 100000 in
set_option maxHeartbeats 2000000 in
theorem window_yes {w : World} {B n : Nat} {now : Int} {ws : List Wr} (h : NetS w B n now ws) (hB : B ≤ w.heap.size) (hlen : ws.length ≤ 64) {k : Nat} (hk : k < ws.length) (x : Wr) (hx : ws.getD k default = x) (hst : x.st = 1) (hw0 : 0 ≤ x.win) (hw1 : x.win ≤ 1048576) (N : Int) (h0 : 0 ≤ N) (h1 : N ≤ 65536) (bA : Option Addr) (bn bc : Nat) (M : Int) (hM : (if 1048576 < x.win + N then 1048576 else x.win + N) = M) :
    Calls Try.prog 10 #[.pointer (some ⟨n, 0, none⟩), .agg (evC 4 ((k : Int) + 1) N (.slice bA bn bc))] w fun e w' => e = .returned .nilIface ∧ NetS w' B n now (ws.set k { x with win := M }) ∧ NFr B w w' := by
  obtain ⟨v, G, IV, GV, h⟩ := h
  have hri := fun w => right_n 4 ((k : Int) + 1) N (.slice bA bn bc) (.inr (.inl rfl)) h0 h1 w
  have HRI := Lib.hid hri; clear hri
  have H := Lib.hid h
  clear h
  have hev : Bk (w.alloc (.cells (evC 4 ((k : Int) + 1) N (.slice bA bn bc)) 34)) w.heap.size 34 (evC 4 ((k : Int) + 1) N (.slice bA bn bc)) := Bk.new w _ _
  have HEV := Lib.hid hev; clear hev
  have hdt := fun (w : World) (h : NetR w B n now ws v G IV GV) (hB : B ≤ w.heap.size) => wwindow_yes v G IV GV h hB hk x hx hst hw0 hw1 ((k : Int) + 1) N h0 h1 bA bn bc M hM
  have HDT := Lib.hid hdt; clear hdt hx hM
  unfold evC at *
  go_enter Try.func10, Try.ntmps10
  go_wp2_with fail
  go_at_call 20
  refine (at_yes (H.out.fr_nil ((Fr.refl [] w).alloc _)) hlen k hk).mono ?_
  rintro e w1 ⟨rfl, rfl⟩
  go_wp2_with fail
  go_at_call 21
  refine (HRI.out _).mono ?_
  rintro e w2 ⟨rfl, hf⟩
  have hf2 : Fr [] w w2 := ((Fr.refl [] w).alloc _).trans hf
  have he2 := HEV.out.fr hf (by simp)
  have d0 := he2.cell_ (i := 0) rfl; have d1 := he2.cell_ (i := 1) rfl; have d2 := he2.cell_ (i := 2) rfl; have d3 := he2.cell_ (i := 3) rfl
  have HF2 := Lib.hid hf2
  clear hf hf2 he2
  go_wp2_with fail
  go_at_call 22
  refine (HDT.out _ (H.out.fr_nil HF2.out) (Nat.le_trans hB HF2.out.size)).mono ?_
  rintro e w3 ⟨rfl, hs, hn⟩
  go_wp2_with fail
  go_ret
  exact ⟨rfl, hs, (NFr.of_fr HF2.out).trans hn⟩
end Go.Proofs.Ytedcheicnaphmaa
