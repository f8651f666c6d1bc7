/-
  errors.Is and fieldfarelaw01.Code over an api.Fault that wraps a number of api.Errno. No conditions.
-/
import Derived.Test.YtmecogilhoebgaaCode
import Derived.Test.YtmecogilhoebgaaEsc
namespace Go.Proofs.Ytmecogilhoebgaa
open Go.RowKit Go.Extern.Stop Go.Stop Go.Extern
set_option linter.unusedVariables false
set_option linter.unusedSimpArgs false

theorem noIsF (v : Value) (xT : TypeId) (w : World) : (Instr.typeAssert (.iface 48 v) xT 59 true).run Try.prog w = .ok (.tuple #[.nilIface, .bool false]) w := run_typeAssert_lacksB Try.underlying59 (by kernel_rfl) (by kernel_rfl) v xT w
theorem hasUnwrapF (v : Value) (xT : TypeId) (w : World) : (Instr.typeAssert (.iface 48 v) xT 62 true).run Try.prog w = .ok (.tuple #[.iface 48 v, .bool true]) w := run_typeAssert_hasB Try.underlying62 (by kernel_rfl) v xT w
theorem methodUnwrapF (v : Value) (w : World) : (Go.method 224 48 v "Unwrap").run Try.prog w = .ok (62, v) w := by kernel_rfl
theorem is_fault_same (g : Nat) (a : Int) (w : World) (h1 : w.cell? ⟨g, 1, none⟩ = some (.iface 41 (.int .i64 a))) :
    Calls Try.prog 13 #[.iface 48 (.pointer (some ⟨g, 0, none⟩)), .iface 41 (.int .i64 a)] w fun e w' => e = .returned (.bool true) ∧ w = w' := by
  obtain ⟨i, hi, hcmp⟩ := Option.map_eq_some_iff.1 errnoComp
  have h8 := @run_callFunc_extern Try.prog 17 _ Extern.ReflectliteType.typeOf Try.func17 (by kernel_rfl) (by kernel_rfl) (by kernel_rfl) (by kernel_rfl)
  have h32 := @run_callFunc_extern Try.prog 66 _ cmpRow Try.func66 (by kernel_rfl) (by kernel_rfl) (by kernel_rfl) cmpRow_is
  have tT := isTypeOf
  have cT := isComparable
  have mR := isMethodComparable
  have nF := noIsF
  have uF := hasUnwrapF
  have mU := methodUnwrapF
  have heq : ∀ w, (binOp .eql 31 (.iface 41 (.int .i64 a)) (.iface 41 (.int .i64 a))).run Try.prog w = .ok (.bool true) w := fun w => by
    rw [run_eql_errno (P := Try.prog) w a a Try.underlying31 Try.underlying41 hi hcmp]; simp
  have hty := run_eql_iface_types (P := Try.prog) 48 41 (.pointer (some ⟨g, 0, none⟩)) (.int .i64 a) Try.underlying31 (by decide) w
  go_enter Try.func13, Try.ntmps13
  go_wp2
  refine wp_loop_rounds 2 ?_
  rw [rounds_succ]
  go_wp2
  rw [rounds_succ]
  go_wp2
  go_ret
  exact ⟨rfl, rfl⟩
theorem is_fault_other (g : Nat) (a b : Int) (hab : a ≠ b) (w : World) (h1 : w.cell? ⟨g, 1, none⟩ = some (.iface 41 (.int .i64 a))) :
    Calls Try.prog 13 #[.iface 48 (.pointer (some ⟨g, 0, none⟩)), .iface 41 (.int .i64 b)] w fun e w' => e = .returned (.bool false) ∧ w = w' := by
  obtain ⟨i, hi, hcmp⟩ := Option.map_eq_some_iff.1 errnoComp
  have h8 := @run_callFunc_extern Try.prog 17 _ Extern.ReflectliteType.typeOf Try.func17 (by kernel_rfl) (by kernel_rfl) (by kernel_rfl) (by kernel_rfl)
  have h32 := @run_callFunc_extern Try.prog 66 _ cmpRow Try.func66 (by kernel_rfl) (by kernel_rfl) (by kernel_rfl) cmpRow_is
  have tT := isTypeOf
  have cT := isComparable
  have mR := isMethodComparable
  have nE := noIsE
  have uE := noUnwrapE
  have vE := noUnwrapsE
  have nF := noIsF
  have uF := hasUnwrapF
  have mU := methodUnwrapF
  have heq : ∀ w, (binOp .eql 31 (.iface 41 (.int .i64 a)) (.iface 41 (.int .i64 b))).run Try.prog w = .ok (.bool false) w := fun w => by
    rw [run_eql_errno (P := Try.prog) w a b Try.underlying31 Try.underlying41 hi hcmp]; simp [hab]
  clear hab
  have hty := run_eql_iface_types (P := Try.prog) 48 41 (.pointer (some ⟨g, 0, none⟩)) (.int .i64 b) Try.underlying31 (by decide) w
  go_enter Try.func13, Try.ntmps13
  go_wp2
  refine wp_loop_rounds 2 ?_
  rw [rounds_succ]
  go_wp2
  rw [rounds_succ]
  go_wp2
  go_ret
  exact ⟨rfl, rfl⟩
theorem code_fault {w : World} {v : Value} {p a : Int} (h : FaultV w v p a) (h1 : 1 ≤ a) (h2 : a ≤ 25) : Calls Try.prog 7 #[v] w fun e w' => e = .returned (.int .i64 a) ∧ w = w' := by
  obtain ⟨g, rfl, hb⟩ := h
  have hc := hb.cell_ (i := 1) rfl
  have HC := Lib.hid hc
  clear hc hb
  go_enter Try.func7, Try.ntmps7
  go_wp2_with fail
  go_loop [3] (fun i => ∃ n : Int, 1 ≤ n ∧ n ≤ a ∧ i = .int .i64 n) (fun i => (26 - intOf i).toNat)
  case atStart => exact ⟨1, by omega, by omega, rfl⟩
  case round =>
    obtain ⟨n, hn1, hn2, rfl⟩ := hrel
    by_cases h : n = a
    · subst h
      go_wp2_with (go_at_call 13; refine (is_fault_same _ _ _ HC.out).mono ?_; rintro e w' ⟨rfl, rfl⟩)
      go_ret
      exact ⟨rfl, rfl⟩
    · go_wp2_with (go_at_call 13; refine (is_fault_other _ _ _ (by omega) _ HC.out).mono ?_; rintro e w' ⟨rfl, rfl⟩)
      go_round
      case rel => exact ⟨n + 1, by omega, by omega, rfl⟩
      case measure => simp [intOf]; omega
end Go.Proofs.Ytmecogilhoebgaa
