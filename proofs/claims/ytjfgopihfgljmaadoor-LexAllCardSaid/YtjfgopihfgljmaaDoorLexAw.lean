/-
  awake of law 12. No conditions on the program.
-/
import Derived.Test.YtjfgopihfgljmaaDoorLex14
namespace Go.Proofs.YtjfgopihfgljmaaDoor
open Go.RowKit
set_option linter.unusedVariables false
set_option linter.unusedSimpArgs false

theorem all_a : lexAllM [97, 32, 47, 32, 98] = .ok [⟨5, 0, [97], 0⟩, ⟨9, 2, [47], 0⟩, ⟨5, 4, [98], 0⟩, ⟨0, 5, [], 0⟩] := by kernel_rfl
theorem all_b : lexAllM [126, 32, 47, 98, 47] = .ok [⟨9, 0, [126], 0⟩, ⟨4, 2, [98], 0⟩, ⟨0, 5, [], 0⟩] := by kernel_rfl
theorem all_c : lexAllM [102, 40] = .ok [⟨6, 0, [102], 0⟩, ⟨9, 1, [40], 0⟩, ⟨0, 2, [], 0⟩] := by kernel_rfl
theorem flat_at (ts : List Tk) (t : Tk) (j : Nat) (hj : j < 6) : ∀ k : Nat, ts[k]? = some t → (ts.flatMap Tk.cells)[k * 6 + j]? = (Tk.cells t)[j]? := by
  induction ts with
  | nil => intro k h; simp at h
  | cons a r ih =>
    intro k h
    have hl : a.cells.length = 6 := rfl
    rw [List.flatMap_cons]
    cases k with
    | zero => injection h with h; subst h; rw [List.getElem?_append_left (by omega)]; simp
    | succ k =>
      rw [List.getElem?_append_right (by omega), hl, show (k + 1) * 6 + j - 6 = k * 6 + j by omega]
      exact ih k (by simpa using h)
/-- The tokens' cells, where the list is not empty. -/
theorem Toks.at_ {w : World} {L : Value} {ts : List Tk} (h : Toks w L ts) (hne : ts ≠ []) :
    ∃ b cap, L = .slice (some ⟨b, 0, none⟩) ts.length cap ∧ ts.length ≤ cap ∧ cap ≤ maxLen ∧ ∀ i v, (ts.flatMap Tk.cells)[i]? = some v → w.cell? ⟨b, i, none⟩ = some v := by
  obtain ⟨h1, ⟨-, h2⟩ | ⟨b, cap, cur, rfl, -, hb, h3, h4, h5, h6⟩⟩ := h
  · exact absurd (List.eq_nil_of_length_eq_zero h2) hne
  · refine ⟨b, cap, rfl, h3, h4, fun i v hv => ?_⟩
    rw [cell_of_row w b _ cur 43 (0, 0) hb]
    rw [← h6, List.getElem?_take] at hv
    split at hv
    · rw [← hv]; simp
    · cases hv
theorem src_a (w : World) : At (w.alloc (.cells #[.int .u8 97, .int .u8 32, .int .u8 47, .int .u8 32, .int .u8 98] 5)) (some ⟨w.heap.size, 0, none⟩) (byteVals [97, 32, 47, 32, 98]) :=
  At.of_bk (n := 5) (Bk.new w _ _) (by simp [byteVals])
theorem src_b (w : World) : At (w.alloc (.cells #[.int .u8 126, .int .u8 32, .int .u8 47, .int .u8 98, .int .u8 47] 5)) (some ⟨w.heap.size, 0, none⟩) (byteVals [126, 32, 47, 98, 47]) :=
  At.of_bk (n := 5) (Bk.new w _ _) (by simp [byteVals])
theorem src_c (w : World) : At (w.alloc (.cells #[.int .u8 102, .int .u8 40] 5)) (some ⟨w.heap.size, 0, none⟩) (byteVals [102, 40]) :=
  At.of_bk (n := 2) (Bk.new w _ _) (by simp [byteVals])
set_option maxRecDepth 100000 in
set_option maxHeartbeats 4000000 in
theorem awake_any (w : World) : Calls Tryd.prog 4 #[] w fun e w' => e = .returned (.bool true) ∧ Fr [] w w' := by
  go_enter Tryd.func4, Tryd.ntmps4
  go_wp2_with (refine wpList_same rfl 22 (.tmp 8) rfl 5 Tryd.underlying22 Tryd.underlying5 ⟨w.heap.size, 0, none⟩ 5 5 (by first | rfl | (simp [Act.eval]; done)) (byteVals [97, 32, 47, 32, 98]) (src_a w) ?_; intro w1 hS hF1; have HBa := Lib.hid hS; have HFa : Hid (Fr [] w w1) := Lib.hid (((Fr.refl [] w).alloc _).trans' hF1 (by simp)); clear hS hF1)
  go_at_call 5
  refine (all_any (src := [97, 32, 47, 32, 98]) HBa.out (by simp) (by simp)).mono ?_
  intro e w2 hp
  unfold AllPost at hp
  rw [all_a] at hp
  obtain ⟨La, rfl, hta, -, hfa⟩ := hp
  have HTa := Lib.hid hta; have HGa := Lib.hid hfa
  clear hta hfa
  go_wp2_with (refine wpList_same rfl 22 (.tmp 14) rfl 5 Tryd.underlying22 Tryd.underlying5 ⟨w2.heap.size, 0, none⟩ 5 5 (by first | rfl | (simp [Act.eval]; done)) (byteVals [126, 32, 47, 98, 47]) (src_b w2) ?_; intro w3 hS hF1; have HBb := Lib.hid hS; have HFb : Hid (Fr [] w2 w3) := Lib.hid (((Fr.refl [] w2).alloc _).trans' hF1 (by simp)); clear hS hF1)
  go_at_call 5
  refine (all_any (src := [126, 32, 47, 98, 47]) HBb.out (by simp) (by simp)).mono ?_
  intro e w4 hp
  unfold AllPost at hp
  rw [all_b] at hp
  obtain ⟨Lb, rfl, htb, -, hfb⟩ := hp
  have HTb := Lib.hid htb; have HGb := Lib.hid hfb
  clear htb hfb
  go_wp2_with (refine wpList_same rfl 22 (.tmp 20) rfl 5 Tryd.underlying22 Tryd.underlying5 ⟨w4.heap.size, 0, none⟩ 2 2 (by first | rfl | (simp [Act.eval]; done)) (byteVals [102, 40]) (src_c w4) ?_; intro w5 hS hF1; have HBc := Lib.hid hS; have HFc : Hid (Fr [] w4 w5) := Lib.hid (((Fr.refl [] w4).alloc _).trans' hF1 (by simp)); clear hS hF1)
  go_at_call 5
  refine (all_any (src := [102, 40]) HBc.out (by simp) (by simp)).mono ?_
  intro e w6 hp
  unfold AllPost at hp
  rw [all_c] at hp
  obtain ⟨Lc, rfl, htc, -, hfc⟩ := hp
  have HTc := Lib.hid htc; have HGc := Lib.hid hfc
  clear htc hfc
  have ta := ((((HTa.out.fr HFb.out (by simp)).fr HGb.out (by simp)).fr HFc.out (by simp)).fr HGc.out (by simp))
  have tb := ((HTb.out.fr HFc.out (by simp)).fr HGc.out (by simp))
  have tc := HTc.out
  obtain ⟨ba, ca, ea, hca, -, xa⟩ := ta.at_ (by simp)
  obtain ⟨bb, cb, eb, hcb, -, xb⟩ := tb.at_ (by simp)
  obtain ⟨bc, cc, ec, hcc, -, xc⟩ := tc.at_ (by simp)
  have ea' : La = .slice (some ⟨ba, 0, none⟩) 4 ca := ea
  have eb' : Lb = .slice (some ⟨bb, 0, none⟩) 3 cb := eb
  have ec' : Lc = .slice (some ⟨bc, 0, none⟩) 3 cc := ec
  have a8 : w6.cell? ⟨ba, 8, none⟩ = some (.string ⟨#[47]⟩) := xa 8 _ rfl
  have b6 : w6.cell? ⟨bb, 6, none⟩ = some (.int .i64 4) := xb 6 _ rfl
  have b8 : w6.cell? ⟨bb, 8, none⟩ = some (.string ⟨#[98]⟩) := xb 8 _ rfl
  have c0 : w6.cell? ⟨bc, 0, none⟩ = some (.int .i64 6) := xc 0 _ rfl
  have hf : Fr [] w w6 := ((((HFa.out.trans HGa.out).trans HFb.out).trans HGb.out).trans HFc.out).trans HGc.out
  have HF := Lib.hid hf
  clear ta tb tc ea eb ec xa xb xc hf HTa HTb HTc hca hcb hcc
  subst ea' eb' ec'
  go_wp2_with fail
  go_ret
  exact ⟨rfl, HF.out⟩
end Go.Proofs.YtjfgopihfgljmaaDoor
