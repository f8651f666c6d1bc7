/-
  awake of law 20. No conditions.
-/
import Derived.Test.YtedcheicnaphmaaNet8
namespace Go.Proofs.Ytedcheicnaphmaa
open Go.RowKit
set_option linter.unusedVariables false
set_option linter.unusedSimpArgs false

theorem sep_ab (w : World) : At (w.alloc (.cells #[.int .u8 97, .int .u8 98] 5)) (some ⟨w.heap.size, 0, none⟩) (byteVals [97, 98]) :=
  At.of_bk (n := 2) (Bk.new w _ _) (by simp [byteVals])
theorem sep_xyz (w : World) : At (w.alloc (.cells #[.int .u8 120, .int .u8 121, .int .u8 122] 5)) (some ⟨w.heap.size, 0, none⟩) (byteVals [120, 121, 122]) :=
  At.of_bk (n := 3) (Bk.new w _ _) (by simp [byteVals])
set_option maxRecDepth 100000 in
set_option maxHeartbeats 4000000 in
theorem awake_any (w : World) : Calls Try.prog 7 #[] w fun e w' => e = .returned (.bool true) ∧ Fr [] w w' := by
  go_enter Try.func7, Try.ntmps7
  go_wp2_with fail
  go_at_call 8
  refine (new_any w).mono ?_
  rintro e w1 ⟨rfl, hw1⟩
  have hs1 : NetS w1 w.heap.size w.heap.size 0 [] := by rw [hw1]; exact net_new (Nat.le_refl _)
  have hn1 : NFr w.heap.size w w1 := NFr.of_fr (by rw [hw1]; exact (Fr.refl [] w).alloc _)
  have HS1 := Lib.hid hs1; have HN1 := Lib.hid hn1
  clear hw1 hs1 hn1
  generalize hB : w.heap.size = B at *
  go_wp2_with fail
  go_at_call 10
  refine (arrive_yes HS1.out (hB ▸ HN1.out.size) (by simp) 0 2 (.slice none 0 0) ⟨_, _, _, rfl⟩ (by omega) (by omega)).mono ?_
  rintro e w2 ⟨rfl, hs2, hn2⟩
  have HS2 := Lib.hid hs2; have HN2 := Lib.hid (HN1.out.trans hn2)
  clear hs2 hn2
  go_wp2_with (refine wpList_same rfl 32 (.tmp 18) rfl 5 Try.underlying32 Try.underlying5 ⟨w2.heap.size, 0, none⟩ 2 2 (by first | rfl | (simp [Act.eval]; done)) (byteVals [97, 98]) (sep_ab w2) ?_; intro w3 hS hF1; have HB3 := Lib.hid hS; have HF3 : Hid (Fr [] w2 w3) := Lib.hid (((Fr.refl [] w2).alloc _).trans' hF1 (by simp)); clear hS hF1)
  go_at_call 10
  refine (data_yes (bs := [97, 98]) (HS2.out.fr_nil HF3.out) (by have := HN2.out.size; have := HF3.out.size; omega) (by simp) (k := 0) (by simp) (cameW 2) rfl rfl rfl 0 (some ⟨w2.heap.size, 0, none⟩) 2 HB3.out (by simp [cameW]) (by simp)).mono ?_
  rintro e w4 ⟨rfl, hs4, hn4⟩
  have HS4 := Lib.hid hs4; have HN4 := Lib.hid ((HN2.out.trans (NFr.of_fr HF3.out)).trans hn4)
  clear hs4 hn4
  go_wp2_with fail
  go_at_call 11
  refine (accept_yes HS4.out (by simp) 0 (by simp) (by simp [cameW]) (by omega)).mono ?_
  rintro e w5 ⟨rfl, hs5, hn5⟩
  have HS5 := Lib.hid hs5; have HN5 := Lib.hid (HN4.out.trans hn5)
  clear hs5 hn5
  go_wp2_with fail
  go_at_call 16
  refine (read_yes HS5.out (by have := HN5.out.size; omega) (by simp [toldW]) (k := 0) (by simp [toldW]) ⟨1, [], [97, 98], 2, [], false, false, false, false⟩ (by simp [toldW, cameW]) rfl (by simp) 9 2 (by simp [clampN])).mono ?_
  rintro e w6 ⟨A6, c6, rfl, hb6, ⟨v6, G6, IV6, GV6, hr6, hne6⟩, hn6⟩
  have HR6 := Lib.hid hr6; have HN6 := Lib.hid (HN5.out.trans hn6); have HB6 := Lib.hid hb6; have HNE := Lib.hid hne6
  clear hr6 hn6 hb6 hne6
  go_wp2_with (refine wpList_same rfl 32 (.tmp 35) rfl 5 Try.underlying32 Try.underlying5 ⟨w6.heap.size, 0, none⟩ 3 3 (by first | rfl | (simp [Act.eval]; done)) (byteVals [120, 121, 122]) (sep_xyz w6) ?_; intro w7 hS hF1; have HB7 := Lib.hid hS; have HF7 : Hid (Fr [] w6 w7) := Lib.hid (((Fr.refl [] w6).alloc _).trans' hF1 (by simp)); clear hS hF1)
  go_at_call 13
  refine (write_yesR v6 G6 IV6 GV6 (HR6.out.fr_nil HF7.out) (by have := HN6.out.size; have := HF7.out.size; omega) (by simp [toldW]) (k := 0) (by simp [toldW]) ⟨1, [], [], 2, [], false, false, false, false⟩ (by simp [toldW, cameW, settleW]) rfl rfl (by simp) (by simp) (by simp) (some ⟨w6.heap.size, 0, none⟩) [120, 121, 122] 3 HB7.out (by simp) (by simp) 2 (by simp; omega)).mono ?_
  rintro e w8 ⟨rfl, hs8, hn8, hk8⟩
  have hb8 : Bytes w8 A6 [97, 98] := by
    have h7 : Bytes w7 A6 [97, 98] := HB6.out.fr_nil HF7.out
    rcases h7 with h | ⟨a, rfl, hb, hc⟩
    · exact .inl h
    · have hcb : ∀ p : Addr, p.block = a.block → w8.cell? p = w7.cell? p := fun p hp => World.cell?_of_block (w := w7) (hk8 p.block (by rw [hp]; exact hb) (by rw [hp]; exact fun e => (HNE.out a rfl).2 e.symm) (by rw [hp]; exact (HNE.out a rfl).1))
      exact .inr ⟨a, rfl, Nat.lt_of_lt_of_le hb hn8.size, fun j u hu => (hcb _ (blk_add a j)).trans (hc j u hu)⟩
  have HB8 := Lib.hid hb8; have HS8 := Lib.hid hs8
  have HN8 := Lib.hid ((HN6.out.trans (NFr.of_fr HF7.out)).trans hn8)
  clear hb8 hs8 hn8 hk8
  go_wp2_with (refine wpList_str rfl 32 9 (.tmp 54) rfl 5 Try.underlying32 Try.underlying5 Try.underlying9 A6 2 c6 (by first | rfl | (simp [Act.eval]; done)) [97, 98] HB8.out rfl ?_)
  go_at_call 12
  refine (len_any HS8.out).mono ?_
  rintro e w9 ⟨rfl, rfl⟩
  simp only [toldW, List.length_set, List.length_append, List.length_nil, List.length_cons]
  go_wp2_with fail
  go_ret
  exact ⟨rfl, Fr.of_below (hB ▸ HN8.out.below (by rw [hB]; exact Nat.le_refl _))⟩
end Go.Proofs.Ytedcheicnaphmaa
