/-
  The walk over the reference's In: cntrl. (Printed by mkin.py.)
-/
import Derived.Test.YtobmdpfljdnlaaaClass2
namespace Go.Proofs.Ytobmdpfljdnlaaa
open Go.RowKit
set_option linter.unusedVariables false
set_option linter.unusedSimpArgs false
set_option maxRecDepth 100000 in
theorem in_cntrl_0 (c : Nat) (h1 : 0 ≤ c) (h2 : c < 32) (w : World) : Calls Try.prog 10 #[.string ⟨#[99, 110, 116, 114, 108]⟩, .int .i64 (c : Int)] w fun e w' => e = .returned (.tuple #[.bool true, .bool true]) ∧ w = w' := by
  have e127 : ((c : Int) == 127) = false := by simp; omega
  go_enter Try.func10, Try.ntmps10
  go_wp2_with fail
  go_ret2
  refine ⟨?_, rfl⟩
  first | rfl | (simp; done) | (simp; omega)
set_option maxRecDepth 100000 in
theorem in_cntrl_32 (c : Nat) (h1 : 32 ≤ c) (h2 : c < 48) (w : World) : Calls Try.prog 10 #[.string ⟨#[99, 110, 116, 114, 108]⟩, .int .i64 (c : Int)] w fun e w' => e = .returned (.tuple #[.bool false, .bool true]) ∧ w = w' := by
  have e127 : ((c : Int) == 127) = false := by simp; omega
  go_enter Try.func10, Try.ntmps10
  go_wp2_with fail
  go_ret2
  refine ⟨?_, rfl⟩
  first | rfl | (simp; done) | (simp; omega)
set_option maxRecDepth 100000 in
theorem in_cntrl_48 (c : Nat) (h1 : 48 ≤ c) (h2 : c < 58) (w : World) : Calls Try.prog 10 #[.string ⟨#[99, 110, 116, 114, 108]⟩, .int .i64 (c : Int)] w fun e w' => e = .returned (.tuple #[.bool false, .bool true]) ∧ w = w' := by
  have e127 : ((c : Int) == 127) = false := by simp; omega
  go_enter Try.func10, Try.ntmps10
  go_wp2_with fail
  go_ret2
  refine ⟨?_, rfl⟩
  first | rfl | (simp; done) | (simp; omega)
set_option maxRecDepth 100000 in
theorem in_cntrl_58 (c : Nat) (h1 : 58 ≤ c) (h2 : c < 65) (w : World) : Calls Try.prog 10 #[.string ⟨#[99, 110, 116, 114, 108]⟩, .int .i64 (c : Int)] w fun e w' => e = .returned (.tuple #[.bool false, .bool true]) ∧ w = w' := by
  have e127 : ((c : Int) == 127) = false := by simp; omega
  go_enter Try.func10, Try.ntmps10
  go_wp2_with fail
  go_ret2
  refine ⟨?_, rfl⟩
  first | rfl | (simp; done) | (simp; omega)
set_option maxRecDepth 100000 in
theorem in_cntrl_65 (c : Nat) (h1 : 65 ≤ c) (h2 : c < 91) (w : World) : Calls Try.prog 10 #[.string ⟨#[99, 110, 116, 114, 108]⟩, .int .i64 (c : Int)] w fun e w' => e = .returned (.tuple #[.bool false, .bool true]) ∧ w = w' := by
  have e127 : ((c : Int) == 127) = false := by simp; omega
  go_enter Try.func10, Try.ntmps10
  go_wp2_with fail
  go_ret2
  refine ⟨?_, rfl⟩
  first | rfl | (simp; done) | (simp; omega)
set_option maxRecDepth 100000 in
theorem in_cntrl_91 (c : Nat) (h1 : 91 ≤ c) (h2 : c < 97) (w : World) : Calls Try.prog 10 #[.string ⟨#[99, 110, 116, 114, 108]⟩, .int .i64 (c : Int)] w fun e w' => e = .returned (.tuple #[.bool false, .bool true]) ∧ w = w' := by
  have e127 : ((c : Int) == 127) = false := by simp; omega
  go_enter Try.func10, Try.ntmps10
  go_wp2_with fail
  go_ret2
  refine ⟨?_, rfl⟩
  first | rfl | (simp; done) | (simp; omega)
set_option maxRecDepth 100000 in
theorem in_cntrl_97 (c : Nat) (h1 : 97 ≤ c) (h2 : c < 123) (w : World) : Calls Try.prog 10 #[.string ⟨#[99, 110, 116, 114, 108]⟩, .int .i64 (c : Int)] w fun e w' => e = .returned (.tuple #[.bool false, .bool true]) ∧ w = w' := by
  have e127 : ((c : Int) == 127) = false := by simp; omega
  go_enter Try.func10, Try.ntmps10
  go_wp2_with fail
  go_ret2
  refine ⟨?_, rfl⟩
  first | rfl | (simp; done) | (simp; omega)
set_option maxRecDepth 100000 in
theorem in_cntrl_123 (c : Nat) (h1 : 123 ≤ c) (h2 : c < 127) (w : World) : Calls Try.prog 10 #[.string ⟨#[99, 110, 116, 114, 108]⟩, .int .i64 (c : Int)] w fun e w' => e = .returned (.tuple #[.bool false, .bool true]) ∧ w = w' := by
  have e127 : ((c : Int) == 127) = false := by simp; omega
  go_enter Try.func10, Try.ntmps10
  go_wp2_with fail
  go_ret2
  refine ⟨?_, rfl⟩
  first | rfl | (simp; done) | (simp; omega)
set_option maxRecDepth 100000 in
theorem in_cntrl_127 (c : Nat) (h1 : 127 ≤ c) (h2 : c < 128) (w : World) : Calls Try.prog 10 #[.string ⟨#[99, 110, 116, 114, 108]⟩, .int .i64 (c : Int)] w fun e w' => e = .returned (.tuple #[.bool true, .bool true]) ∧ w = w' := by
  have e127 : ((c : Int) == 127) = true := by simp; omega
  go_enter Try.func10, Try.ntmps10
  go_wp2_with fail
  go_ret2
  refine ⟨?_, rfl⟩
  first | rfl | (simp; done) | (simp; omega)
set_option maxRecDepth 100000 in
theorem in_cntrl_128 (c : Nat) (h1 : 128 ≤ c) (h2 : c < 256) (w : World) : Calls Try.prog 10 #[.string ⟨#[99, 110, 116, 114, 108]⟩, .int .i64 (c : Int)] w fun e w' => e = .returned (.tuple #[.bool false, .bool true]) ∧ w = w' := by
  have e127 : ((c : Int) == 127) = false := by simp; omega
  go_enter Try.func10, Try.ntmps10
  go_wp2_with fail
  go_ret2
  refine ⟨?_, rfl⟩
  first | rfl | (simp; done) | (simp; omega)
end Go.Proofs.Ytobmdpfljdnlaaa
