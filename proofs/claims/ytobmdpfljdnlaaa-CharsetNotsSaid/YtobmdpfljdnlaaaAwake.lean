/-
  The walk over awake of the laws of charset.
-/
import Derived.Test.YtobmdpfljdnlaaaBracket
import Derived.Test.YtobmdpfljdnlaaaCount
namespace Go.Proofs.Ytobmdpfljdnlaaa
open Go.RowKit
set_option linter.unusedVariables false
set_option linter.unusedSimpArgs false

theorem bracket_any {w : World} {A : Option Addr} {bs : List UInt8} {c : Nat} (h : Bytes w A bs) (i : Nat) (hl : bs.length ≤ 1000000000) (hi : i + 1 < bs.length) (hc : bs.length ≤ c) (hA : A = none → c = 0) (hcm : c ≤ maxLen) (hg : GlobOk w) (h91 : bn bs i = 91) :
    Calls Try.prog 18 #[.slice A bs.length c, .int .i64 (i : Int)] w (MemberPost w (bracketS bs i)) := by
  unfold bracketS
  by_cases h94 : bn bs (i + 1) = 94
  · rw [if_pos ⟨hi, h94⟩]; exact bracket_not h i hl hi hc hA hcm hg h91 h94
  · rw [if_neg (by simp [h94])]; exact bracket_plain h i hl hi hc hA hcm hg h91 h94

def T1 : S4 := ⟨0, 60129542144, 0, 0⟩
def T2 : S4 := ⟨0, 1610612736, 0, 0⟩
theorem br1 : bracketS [91, 97, 45, 99, 93, 120] 0 = .ok (T1, 5) := by kernel_rfl
theorem br2 : bracketS [91, 93, 94, 93] 0 = .ok (T2, 4) := by kernel_rfl
theorem T1_ok : T1.ok := by unfold S4.ok T1; simp
theorem T2_ok : T2.ok := by unfold S4.ok T2; simp
theorem t1_count (w : World) : Calls Try.prog 17 #[.agg #[.int .u64 0, .int .u64 60129542144, .int .u64 0, .int .u64 0]] w fun e w' => e = .returned (.int .i64 3) ∧ Fr [] w w' := by
  have h := count_any T1 w T1_ok
  have e : T1.count = 3 := by kernel_rfl
  rw [e] at h
  exact h
theorem t2_count (w : World) : Calls Try.prog 17 #[.agg #[.int .u64 0, .int .u64 1610612736, .int .u64 0, .int .u64 0]] w fun e w' => e = .returned (.int .i64 2) ∧ Fr [] w w' := by
  have h := count_any T2 w T2_ok
  have e : T2.count = 2 := by kernel_rfl
  rw [e] at h
  exact h
theorem t1_has (w : World) : Calls Try.prog 13 #[.agg #[.int .u64 0, .int .u64 60129542144, .int .u64 0, .int .u64 0], .int .u8 98] w fun e w' => e = .returned (.bool true) ∧ Fr [] w w' := by
  have h := has_any T1 98 w (by omega) T1_ok
  have e : T1.mem 98 = true := by kernel_rfl
  rw [e] at h
  exact h
theorem t2_has (w : World) : Calls Try.prog 13 #[.agg #[.int .u64 0, .int .u64 1610612736, .int .u64 0, .int .u64 0], .int .u8 93] w fun e w' => e = .returned (.bool true) ∧ Fr [] w w' := by
  have h := has_any T2 93 w (by omega) T2_ok
  have e : T2.mem 93 = true := by kernel_rfl
  rw [e] at h
  exact h
theorem sep2_at (w : World) (o : Obj) : At ((w.alloc o).alloc (.cells #[.int .u8 91, .int .u8 93, .int .u8 94, .int .u8 93] 5)) (some ⟨w.heap.size + 1, 0, none⟩) (byteVals [91, 93, 94, 93]) := by
  have h := Bk.new (w.alloc o) 5 #[.int .u8 91, .int .u8 93, .int .u8 94, .int .u8 93]
  rw [World.size_alloc] at h
  exact At.of_bk (n := 4) h (by simp [byteVals])
/-- The two sets lie in their blocks. -/
def Two (w0 w : World) (g1 g2 : Nat) : Prop :=
  Bk w g1 25 #[.int .u64 0, .int .u64 60129542144, .int .u64 0, .int .u64 0] ∧ Bk w g2 25 #[.int .u64 0, .int .u64 1610612736, .int .u64 0, .int .u64 0] ∧ Fr [] w0 w
theorem Two.fr {w0 w w' : World} {g1 g2 : Nat} (h : Two w0 w g1 g2) (hf : Fr [] w w') : Two w0 w' g1 g2 := ⟨h.1.fr hf (by simp), h.2.1.fr hf (by simp), h.2.2.trans hf⟩
theorem Two.one {w0 w : World} {g1 g2 : Nat} (h : Two w0 w g1 g2) : w.cell? ⟨g1, 0, none⟩ = some (.int .u64 0) ∧ w.cell? ⟨g1, 1, none⟩ = some (.int .u64 60129542144) ∧ w.cell? ⟨g1, 2, none⟩ = some (.int .u64 0) ∧ w.cell? ⟨g1, 3, none⟩ = some (.int .u64 0) := ⟨h.1.cell_ rfl, h.1.cell_ rfl, h.1.cell_ rfl, h.1.cell_ rfl⟩
theorem Two.two {w0 w : World} {g1 g2 : Nat} (h : Two w0 w g1 g2) : w.cell? ⟨g2, 0, none⟩ = some (.int .u64 0) ∧ w.cell? ⟨g2, 1, none⟩ = some (.int .u64 1610612736) ∧ w.cell? ⟨g2, 2, none⟩ = some (.int .u64 0) ∧ w.cell? ⟨g2, 3, none⟩ = some (.int .u64 0) := ⟨h.2.1.cell_ rfl, h.2.1.cell_ rfl, h.2.1.cell_ rfl, h.2.1.cell_ rfl⟩
set_option maxRecDepth 100000 in
set_option maxHeartbeats 4000000 in
theorem awake_any {w : World} (hg : GlobOk w) : Calls Try.prog 8 #[] w fun e w' => e = .returned (.bool true) ∧ Fr [] w w' := by
  go_enter Try.func8, Try.ntmps8
  go_wp2_with (refine wpList_same rfl 38 (.tmp 8) rfl 5 Try.underlying38 Try.underlying5 ⟨w.heap.size, 0, none⟩ 6 6 (by first | rfl | (simp [Act.eval]; done)) (byteVals [91, 97, 45, 99, 93, 120]) (At.of_bk (n := 6) (Bk.new w _ _) (by simp [byteVals])) ?_; intro w1 hS hF1; have HS1 := Lib.hid hS; have HF1 := Lib.hid (((Fr.refl [] w).alloc _).trans' hF1 (by simp)); clear hS hF1)
  go_at_call 18
  refine (bracket_any (bs := [91, 97, 45, 99, 93, 120]) HS1.out 0 (by simp) (by simp) (by simp) (by simp) (by simp [maxLen]) (hg.fr HF1.out) rfl).mono ?_
  rintro e w2 hp
  rw [br1] at hp
  obtain ⟨rfl, hf2⟩ := hp
  have HF2 := Lib.hid (HF1.out.trans hf2)
  clear hf2
  rw [show T1.val = .agg #[.int .u64 0, .int .u64 60129542144, .int .u64 0, .int .u64 0] from rfl, show ((5 : Nat) : Int) = 5 from rfl]
  go_wp2_with (refine wpList_same rfl 38 (.tmp 15) rfl 5 Try.underlying38 Try.underlying5 ⟨w2.heap.size + 1, 0, none⟩ 4 4 (by first | rfl | (simp [Act.eval]; done)) (byteVals [91, 93, 94, 93]) (sep2_at w2 _) ?_; intro w3 hS hF1; have HS3 := Lib.hid hS; have HF3 := Lib.hid (((Fr.refl [] (w2.alloc (.cells #[.int .u64 0, .int .u64 60129542144, .int .u64 0, .int .u64 0] 25))).alloc _).trans' hF1 (by simp)); clear hS hF1)
  go_at_call 18
  refine (bracket_any (bs := [91, 93, 94, 93]) HS3.out 0 (by simp) (by simp) (by simp) (by simp) (by simp [maxLen]) ((hg.fr (HF2.out.alloc _)).fr HF3.out) rfl).mono ?_
  rintro e w4 hp
  rw [br2] at hp
  obtain ⟨rfl, hf4⟩ := hp
  rw [show T2.val = .agg #[.int .u64 0, .int .u64 1610612736, .int .u64 0, .int .u64 0] from rfl, show ((4 : Nat) : Int) = 4 from rfl]
  have H4 := Lib.hid (show Two w (w4.alloc (.cells #[.int .u64 0, .int .u64 1610612736, .int .u64 0, .int .u64 0] 25)) w2.heap.size w4.heap.size from
    ⟨((Bk.new w2 _ _).fr (HF3.out.trans hf4) (by simp)).alloc _, Bk.new w4 _ _, (((HF2.out.alloc _).trans HF3.out).trans hf4).alloc _⟩)
  have k0 : w4.cell? ⟨w2.heap.size, 0, none⟩ = some (.int .u64 0) := ((Bk.new w2 _ _).fr (HF3.out.trans hf4) (by simp)).cell_ rfl
  have k1 : w4.cell? ⟨w2.heap.size, 1, none⟩ = some (.int .u64 60129542144) := ((Bk.new w2 _ _).fr (HF3.out.trans hf4) (by simp)).cell_ rfl
  have k2 : w4.cell? ⟨w2.heap.size, 2, none⟩ = some (.int .u64 0) := ((Bk.new w2 _ _).fr (HF3.out.trans hf4) (by simp)).cell_ rfl
  have k3 : w4.cell? ⟨w2.heap.size, 3, none⟩ = some (.int .u64 0) := ((Bk.new w2 _ _).fr (HF3.out.trans hf4) (by simp)).cell_ rfl
  have hlt : w2.heap.size < w4.heap.size := ((Bk.new w2 _ _).fr (HF3.out.trans hf4) (by simp)).lt
  clear hf4
  go_wp2_with fail
  go_at_call 17
  refine (t1_count _).mono ?_
  rintro e w5 ⟨rfl, hf⟩
  have H5 := Lib.hid (H4.out.fr hf)
  clear hf k0 k1 k2 k3
  obtain ⟨k0, k1, k2, k3⟩ := H5.out.one
  go_wp2_with fail
  go_at_call 13
  refine (t1_has _).mono ?_
  rintro e w6 ⟨rfl, hf⟩
  have H6 := Lib.hid (H5.out.fr hf)
  clear hf k0 k1 k2 k3
  obtain ⟨k0, k1, k2, k3⟩ := H6.out.two
  go_wp2_with fail
  go_at_call 17
  refine (t2_count _).mono ?_
  rintro e w7 ⟨rfl, hf⟩
  have H7 := Lib.hid (H6.out.fr hf)
  clear hf k0 k1 k2 k3
  obtain ⟨k0, k1, k2, k3⟩ := H7.out.two
  go_wp2_with fail
  go_at_call 13
  refine (t2_has _).mono ?_
  rintro e w8 ⟨rfl, hf⟩
  have H8 := Lib.hid (H7.out.fr hf)
  clear hf k0 k1 k2 k3
  go_wp2_with fail
  go_ret
  exact ⟨rfl, H8.out.2.2⟩
end Go.Proofs.Ytobmdpfljdnlaaa
