/-
  (Without Esc: chapter 12.) errors.Is and fieldfarelaw01.Code over an api.Fault that wraps a number of api.Errno. No conditions.
-/
import Derived.Test.YtjfgopihfgljmaaDoorCode
namespace Go.Proofs.YtjfgopihfgljmaaDoor
open Go.RowKit Go.Extern.Stop Go.Stop Go.Extern
set_option linter.unusedVariables false
set_option linter.unusedSimpArgs false

theorem noIsF (v : Value) (xT : TypeId) (w : World) : (Instr.typeAssert (.iface 34 v) xT 106 true).run Tryd.prog w = .ok (.tuple #[.nilIface, .bool false]) w := run_typeAssert_lacksB Tryd.underlying106 (by kernel_rfl) (by kernel_rfl) v xT w
theorem hasUnwrapF (v : Value) (xT : TypeId) (w : World) : (Instr.typeAssert (.iface 34 v) xT 96 true).run Tryd.prog w = .ok (.tuple #[.iface 34 v, .bool true]) w := run_typeAssert_hasB Tryd.underlying96 (by kernel_rfl) v xT w
theorem methodUnwrapF (v : Value) (w : World) : (Go.method 247 34 v "Unwrap").run Tryd.prog w = .ok (74, v) w := by kernel_rfl
theorem is_fault_same (g : Nat) (a : Int) (w : World) (h1 : w.cell? ⟨g, 1, none⟩ = some (.iface 51 (.int .i64 a))) :
    Calls Tryd.prog 20 #[.iface 34 (.pointer (some ⟨g, 0, none⟩)), .iface 51 (.int .i64 a)] w fun e w' => e = .returned (.bool true) ∧ w = w' := by
  obtain ⟨i, hi, hcmp⟩ := Option.map_eq_some_iff.1 errnoComp
  have h8 := @run_callFunc_extern Tryd.prog 40 _ Extern.ReflectliteType.typeOf Tryd.func40 (by kernel_rfl) (by kernel_rfl) (by kernel_rfl) (by kernel_rfl)
  have h32 := @run_callFunc_extern Tryd.prog 81 _ cmpRow Tryd.func81 (by kernel_rfl) (by kernel_rfl) (by kernel_rfl) cmpRow_is
  have tT := isTypeOf
  have cT := isComparable
  have mR := isMethodComparable
  have nF := noIsF
  have uF := hasUnwrapF
  have mU := methodUnwrapF
  have heq : ∀ w, (binOp .eql 26 (.iface 51 (.int .i64 a)) (.iface 51 (.int .i64 a))).run Tryd.prog w = .ok (.bool true) w := fun w => by
    rw [run_eql_errno (P := Tryd.prog) w a a Tryd.underlying26 Tryd.underlying51 hi hcmp]; simp
  have hty := run_eql_iface_types (P := Tryd.prog) 34 51 (.pointer (some ⟨g, 0, none⟩)) (.int .i64 a) Tryd.underlying26 (by decide) w
  go_enter Tryd.func20, Tryd.ntmps20
  go_wp2
  refine wp_loop_rounds 2 ?_
  rw [rounds_succ]
  go_wp2
  rw [rounds_succ]
  go_wp2
  go_ret
  exact ⟨rfl, rfl⟩
theorem is_fault_other (g : Nat) (a b : Int) (hab : a ≠ b) (w : World) (h1 : w.cell? ⟨g, 1, none⟩ = some (.iface 51 (.int .i64 a))) :
    Calls Tryd.prog 20 #[.iface 34 (.pointer (some ⟨g, 0, none⟩)), .iface 51 (.int .i64 b)] w fun e w' => e = .returned (.bool false) ∧ w = w' := by
  obtain ⟨i, hi, hcmp⟩ := Option.map_eq_some_iff.1 errnoComp
  have h8 := @run_callFunc_extern Tryd.prog 40 _ Extern.ReflectliteType.typeOf Tryd.func40 (by kernel_rfl) (by kernel_rfl) (by kernel_rfl) (by kernel_rfl)
  have h32 := @run_callFunc_extern Tryd.prog 81 _ cmpRow Tryd.func81 (by kernel_rfl) (by kernel_rfl) (by kernel_rfl) cmpRow_is
  have tT := isTypeOf
  have cT := isComparable
  have mR := isMethodComparable
  have nE := noIsE
  have uE := noUnwrapE
  have vE := noUnwrapsE
  have nF := noIsF
  have uF := hasUnwrapF
  have mU := methodUnwrapF
  have heq : ∀ w, (binOp .eql 26 (.iface 51 (.int .i64 a)) (.iface 51 (.int .i64 b))).run Tryd.prog w = .ok (.bool false) w := fun w => by
    rw [run_eql_errno (P := Tryd.prog) w a b Tryd.underlying26 Tryd.underlying51 hi hcmp]; simp [hab]
  clear hab
  have hty := run_eql_iface_types (P := Tryd.prog) 34 51 (.pointer (some ⟨g, 0, none⟩)) (.int .i64 b) Tryd.underlying26 (by decide) w
  go_enter Tryd.func20, Tryd.ntmps20
  go_wp2
  refine wp_loop_rounds 2 ?_
  rw [rounds_succ]
  go_wp2
  rw [rounds_succ]
  go_wp2
  go_ret
  exact ⟨rfl, rfl⟩
theorem code_fault {w : World} {v : Value} {p a : Int} (h : ∃ b, v = .iface 34 (.pointer (some ⟨b, 0, none⟩)) ∧ Bk w b 38 #[.int .i64 p, .iface 51 (.int .i64 a)]) (h1 : 1 ≤ a) (h2 : a ≤ 25) : Calls Tryd.prog 7 #[v] w fun e w' => e = .returned (.int .i64 a) ∧ w = w' := by
  obtain ⟨g, rfl, hb⟩ := h
  have hc := hb.cell_ (i := 1) rfl
  have HC := Lib.hid hc
  clear hc hb
  go_enter Tryd.func7, Tryd.ntmps7
  go_wp2_with fail
  go_loop [3] (fun i => ∃ n : Int, 1 ≤ n ∧ n ≤ a ∧ i = .int .i64 n) (fun i => (26 - intOf i).toNat)
  case atStart => exact ⟨1, by omega, by omega, rfl⟩
  case round =>
    obtain ⟨n, hn1, hn2, rfl⟩ := hrel
    by_cases h : n = a
    · subst h
      go_wp2_with (go_at_call 20; refine (is_fault_same _ _ _ HC.out).mono ?_; rintro e w' ⟨rfl, rfl⟩)
      go_ret
      exact ⟨rfl, rfl⟩
    · go_wp2_with (go_at_call 20; refine (is_fault_other _ _ _ (by omega) _ HC.out).mono ?_; rintro e w' ⟨rfl, rfl⟩)
      go_round
      case rel => exact ⟨n + 1, by omega, by omega, rfl⟩
      case measure => simp [intOf]; omega
end Go.Proofs.YtjfgopihfgljmaaDoor
