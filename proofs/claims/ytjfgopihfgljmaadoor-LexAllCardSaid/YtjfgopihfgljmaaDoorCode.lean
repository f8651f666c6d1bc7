/-
  errors.Is over numbers of api.Errno, and fieldfarelaw01.Code. No conditions.
-/
import Derived.Test.YtjfgopihfgljmaaDoorRows
import Derived.Test.YtjfgopihfgljmaaDoorBase
import Derived.LaidEql
import Derived.Stop.Asserts
import Derived.RowKitTokens
import Derived.LoopTactic
namespace Go.Proofs.YtjfgopihfgljmaaDoor
open Go.RowKit Go.Extern.Stop Go.Stop Go.Extern
set_option linter.unusedVariables false
set_option linter.unusedSimpArgs false

theorem run_equalIn_errno {P : Program} (w : World) (d : Nat) {ti tn : TypeId} {ms : Array (String × TypeId)} {i : TypeInfo} {k : IntKind} (a b : Int)
    (hi : P.underlying ti = some (.interface ms)) (hn : P.underlying tn = some (.int k)) (hinfo : P.info? tn = some i) (hcomp : i.comparable = true) :
    (Op.equalIn (d + 2) ti (.iface tn (.int k a)) (.iface tn (.int k b))).run P w = .ok (a == b) w := by
  simp [Op.equalIn, run_underlying hi, run_underlying hn, typeInfo, hinfo, hcomp]
theorem run_eql_errno {P : Program} (w : World) {ti tn : TypeId} {ms : Array (String × TypeId)} {i : TypeInfo} {k : IntKind} (a b : Int)
    (hi : P.underlying ti = some (.interface ms)) (hn : P.underlying tn = some (.int k)) (hinfo : P.info? tn = some i) (hcomp : i.comparable = true) :
    (binOp .eql ti (.iface tn (.int k a)) (.iface tn (.int k b))).run P w = .ok (.bool (a == b)) w := by
  simp only [binOp]
  simp [Op.equal, Op.maxDepth, run_equalIn_errno w 9998 a b hi hn hinfo hcomp]

theorem errnoComp : (Tryd.prog.info? 51).map (·.comparable) = some true := by kernel_rfl
theorem isTypeOf (v : Value) (w : World) : (Extern.ReflectliteType.typeOf #[.iface 51 v]).run Tryd.prog w = .ok (.iface 89 (.agg #[.pointer (some ⟨2, 51, none⟩)])) w := by kernel_rfl
def cmpRow : Array Value → Sem Value := Extern.ReflectliteType.method fun t => do Extern.Rtype.noPackHeld "Comparable" t; pure (.bool (← typeInfo t).comparable)
theorem cmpRow_is : Extern.find Tryd.f81 = some cmpRow := by kernel_rfl
theorem isComparable (w : World) : (cmpRow #[.agg #[.pointer (some ⟨2, 51, none⟩)]]).run Tryd.prog w = .ok (.bool true) w := by kernel_rfl
theorem isMethodComparable (v : Value) (w : World) : (Go.method 247 89 v "Comparable").run Tryd.prog w = .ok (81, v) w := by kernel_rfl
theorem noIsE (v : Value) (xT : TypeId) (w : World) : (Instr.typeAssert (.iface 51 v) xT 106 true).run Tryd.prog w = .ok (.tuple #[.nilIface, .bool false]) w := run_typeAssert_lacksB Tryd.underlying106 (by kernel_rfl) (by kernel_rfl) v xT w
theorem noUnwrapE (v : Value) (xT : TypeId) (w : World) : (Instr.typeAssert (.iface 51 v) xT 96 true).run Tryd.prog w = .ok (.tuple #[.nilIface, .bool false]) w := run_typeAssert_lacksB Tryd.underlying96 (by kernel_rfl) (by kernel_rfl) v xT w
theorem noUnwrapsE (v : Value) (xT : TypeId) (w : World) : (Instr.typeAssert (.iface 51 v) xT 98 true).run Tryd.prog w = .ok (.tuple #[.nilIface, .bool false]) w := run_typeAssert_lacksB Tryd.underlying98 (by kernel_rfl) (by kernel_rfl) v xT w

theorem is_errno_same (a : Int) (w : World) :
    Calls Tryd.prog 20 #[.iface 51 (.int .i64 a), .iface 51 (.int .i64 a)] w fun e w' => e = .returned (.bool true) ∧ w = w' := by
  obtain ⟨i, hi, hcmp⟩ := Option.map_eq_some_iff.1 errnoComp
  have h8 := @run_callFunc_extern Tryd.prog 40 _ Extern.ReflectliteType.typeOf Tryd.func40 (by kernel_rfl) (by kernel_rfl) (by kernel_rfl) (by kernel_rfl)
  have h32 := @run_callFunc_extern Tryd.prog 81 _ cmpRow Tryd.func81 (by kernel_rfl) (by kernel_rfl) (by kernel_rfl) cmpRow_is
  have tT := isTypeOf
  have cT := isComparable
  have mR := isMethodComparable
  have heq : ∀ w, (binOp .eql 26 (.iface 51 (.int .i64 a)) (.iface 51 (.int .i64 a))).run Tryd.prog w = .ok (.bool true) w := fun w => by
    rw [run_eql_errno (P := Tryd.prog) w a a Tryd.underlying26 Tryd.underlying51 hi hcmp]; simp
  go_enter Tryd.func20, Tryd.ntmps20
  go_wp2
  refine wp_loop_rounds 1 ?_
  rw [rounds_succ]
  go_wp2
  go_ret
  exact ⟨rfl, rfl⟩

theorem is_errno_other (a b : Int) (hab : a ≠ b) (w : World) :
    Calls Tryd.prog 20 #[.iface 51 (.int .i64 a), .iface 51 (.int .i64 b)] w fun e w' => e = .returned (.bool false) ∧ w = w' := by
  obtain ⟨i, hi, hcmp⟩ := Option.map_eq_some_iff.1 errnoComp
  have h8 := @run_callFunc_extern Tryd.prog 40 _ Extern.ReflectliteType.typeOf Tryd.func40 (by kernel_rfl) (by kernel_rfl) (by kernel_rfl) (by kernel_rfl)
  have h32 := @run_callFunc_extern Tryd.prog 81 _ cmpRow Tryd.func81 (by kernel_rfl) (by kernel_rfl) (by kernel_rfl) cmpRow_is
  have tT := isTypeOf
  have cT := isComparable
  have mR := isMethodComparable
  have nE := noIsE
  have uE := noUnwrapE
  have vE := noUnwrapsE
  have heq : ∀ w, (binOp .eql 26 (.iface 51 (.int .i64 a)) (.iface 51 (.int .i64 b))).run Tryd.prog w = .ok (.bool false) w := fun w => by
    rw [run_eql_errno (P := Tryd.prog) w a b Tryd.underlying26 Tryd.underlying51 hi hcmp]; simp [hab]
  clear hab
  go_enter Tryd.func20, Tryd.ntmps20
  go_wp2
  refine wp_loop_rounds 1 ?_
  rw [rounds_succ]
  go_wp2
  go_ret
  exact ⟨rfl, rfl⟩

theorem code_nil (w : World) : Calls Tryd.prog 7 #[.nilIface] w fun e w' => e = .returned (.int .i64 0) ∧ w = w' := by
  go_enter Tryd.func7, Tryd.ntmps7
  go_wp2
  go_ret
  exact ⟨rfl, rfl⟩

theorem code_errno (a : Int) (w : World) (h1 : 1 ≤ a) (h2 : a ≤ 25) : Calls Tryd.prog 7 #[.iface 51 (.int .i64 a)] w fun e w' => e = .returned (.int .i64 a) ∧ w = w' := by
  go_enter Tryd.func7, Tryd.ntmps7
  go_wp2_with fail
  go_loop [3] (fun i => ∃ n : Int, 1 ≤ n ∧ n ≤ a ∧ i = .int .i64 n) (fun i => (26 - intOf i).toNat)
  case atStart => exact ⟨1, by omega, by omega, rfl⟩
  case round =>
    obtain ⟨n, hn1, hn2, rfl⟩ := hrel
    by_cases h : n = a
    · subst h
      go_wp2_with (go_at_call 20; refine (is_errno_same _ _).mono ?_; rintro e w' ⟨rfl, rfl⟩)
      go_ret
      exact ⟨rfl, rfl⟩
    · go_wp2_with (go_at_call 20; refine (is_errno_other _ _ (by omega) _).mono ?_; rintro e w' ⟨rfl, rfl⟩)
      go_round
      case rel => exact ⟨n + 1, by omega, by omega, rfl⟩
      case measure => simp [intOf]; omega
end Go.Proofs.YtjfgopihfgljmaaDoor
