/-
  Code, CodeF, Door, As: several small texts in one. No conditions.
-/
import Derived.Test.YtgcalmefijmhaaaGreatDoorRows
import Derived.Test.YtgcalmefijmhaaaGreatDoorBase
import Derived.LaidEql
import Derived.Stop.Asserts
import Derived.RowKitTokens
import Derived.LoopTactic
import Derived.Test.YtgcalmefijmhaaaGreatDoorGc
import Derived.HandedShaped
import Derived.ProofKit
import Derived.LaidMore
namespace Go.Proofs.YtgcalmefijmhaaaGreatDoor
open Go.RowKit Go.Extern.Stop Go.Stop Go.Extern
set_option linter.unusedVariables false
set_option linter.unusedSimpArgs false

theorem run_equalIn_errno {P : Program} (w : World) (d : Nat) {ti tn : TypeId} {ms : Array (String × TypeId)} {i : TypeInfo} {k : IntKind} (a b : Int)
    (hi : P.underlying ti = some (.interface ms)) (hn : P.underlying tn = some (.int k)) (hinfo : P.info? tn = some i) (hcomp : i.comparable = true) :
    (Op.equalIn (d + 2) ti (.iface tn (.int k a)) (.iface tn (.int k b))).run P w = .ok (a == b) w := by
  simp [Op.equalIn, run_underlying hi, run_underlying hn, typeInfo, hinfo, hcomp]
theorem run_eql_errno {P : Program} (w : World) {ti tn : TypeId} {ms : Array (String × TypeId)} {i : TypeInfo} {k : IntKind} (a b : Int)
    (hi : P.underlying ti = some (.interface ms)) (hn : P.underlying tn = some (.int k)) (hinfo : P.info? tn = some i) (hcomp : i.comparable = true) :
    (binOp .eql ti (.iface tn (.int k a)) (.iface tn (.int k b))).run P w = .ok (.bool (a == b)) w := by
  simp only [binOp]
  simp [Op.equal, Op.maxDepth, run_equalIn_errno w 9998 a b hi hn hinfo hcomp]

theorem errnoComp : (Tryz.prog.info? 64).map (·.comparable) = some true := by kernel_rfl
theorem isTypeOf (v : Value) (w : World) : (Extern.ReflectliteType.typeOf #[.iface 64 v]).run Tryz.prog w = .ok (.iface 108 (.agg #[.pointer (some ⟨2, 64, none⟩)])) w := by kernel_rfl
def cmpRow : Array Value → Sem Value := Extern.ReflectliteType.method fun t => do Extern.Rtype.noPackHeld "Comparable" t; pure (.bool (← typeInfo t).comparable)
theorem cmpRow_is : Extern.find Tryz.f112 = some cmpRow := by kernel_rfl
theorem isComparable (w : World) : (cmpRow #[.agg #[.pointer (some ⟨2, 64, none⟩)]]).run Tryz.prog w = .ok (.bool true) w := by kernel_rfl
theorem isMethodComparable (v : Value) (w : World) : (Go.method 310 108 v "Comparable").run Tryz.prog w = .ok (112, v) w := by kernel_rfl
theorem noIsE (v : Value) (xT : TypeId) (w : World) : (Instr.typeAssert (.iface 64 v) xT 134 true).run Tryz.prog w = .ok (.tuple #[.nilIface, .bool false]) w := run_typeAssert_lacksB Tryz.underlying134 (by kernel_rfl) (by kernel_rfl) v xT w
theorem noUnwrapE (v : Value) (xT : TypeId) (w : World) : (Instr.typeAssert (.iface 64 v) xT 115 true).run Tryz.prog w = .ok (.tuple #[.nilIface, .bool false]) w := run_typeAssert_lacksB Tryz.underlying115 (by kernel_rfl) (by kernel_rfl) v xT w
theorem noUnwrapsE (v : Value) (xT : TypeId) (w : World) : (Instr.typeAssert (.iface 64 v) xT 117 true).run Tryz.prog w = .ok (.tuple #[.nilIface, .bool false]) w := run_typeAssert_lacksB Tryz.underlying117 (by kernel_rfl) (by kernel_rfl) v xT w

theorem is_errno_same (a : Int) (w : World) :
    Calls Tryz.prog 16 #[.iface 64 (.int .i64 a), .iface 64 (.int .i64 a)] w fun e w' => e = .returned (.bool true) ∧ w = w' := by
  obtain ⟨i, hi, hcmp⟩ := Option.map_eq_some_iff.1 errnoComp
  have h8 := @run_callFunc_extern Tryz.prog 31 _ Extern.ReflectliteType.typeOf Tryz.func31 (by kernel_rfl) (by kernel_rfl) (by kernel_rfl) (by kernel_rfl)
  have h32 := @run_callFunc_extern Tryz.prog 112 _ cmpRow Tryz.func112 (by kernel_rfl) (by kernel_rfl) (by kernel_rfl) cmpRow_is
  have tT := isTypeOf
  have cT := isComparable
  have mR := isMethodComparable
  have heq : ∀ w, (binOp .eql 26 (.iface 64 (.int .i64 a)) (.iface 64 (.int .i64 a))).run Tryz.prog w = .ok (.bool true) w := fun w => by
    rw [run_eql_errno (P := Tryz.prog) w a a Tryz.underlying26 Tryz.underlying64 hi hcmp]; simp
  go_enter Tryz.func16, Tryz.ntmps16
  go_wp2
  refine wp_loop_rounds 1 ?_
  rw [rounds_succ]
  go_wp2
  go_ret
  exact ⟨rfl, rfl⟩

theorem is_errno_other (a b : Int) (hab : a ≠ b) (w : World) :
    Calls Tryz.prog 16 #[.iface 64 (.int .i64 a), .iface 64 (.int .i64 b)] w fun e w' => e = .returned (.bool false) ∧ w = w' := by
  obtain ⟨i, hi, hcmp⟩ := Option.map_eq_some_iff.1 errnoComp
  have h8 := @run_callFunc_extern Tryz.prog 31 _ Extern.ReflectliteType.typeOf Tryz.func31 (by kernel_rfl) (by kernel_rfl) (by kernel_rfl) (by kernel_rfl)
  have h32 := @run_callFunc_extern Tryz.prog 112 _ cmpRow Tryz.func112 (by kernel_rfl) (by kernel_rfl) (by kernel_rfl) cmpRow_is
  have tT := isTypeOf
  have cT := isComparable
  have mR := isMethodComparable
  have nE := noIsE
  have uE := noUnwrapE
  have vE := noUnwrapsE
  have heq : ∀ w, (binOp .eql 26 (.iface 64 (.int .i64 a)) (.iface 64 (.int .i64 b))).run Tryz.prog w = .ok (.bool false) w := fun w => by
    rw [run_eql_errno (P := Tryz.prog) w a b Tryz.underlying26 Tryz.underlying64 hi hcmp]; simp [hab]
  clear hab
  go_enter Tryz.func16, Tryz.ntmps16
  go_wp2
  refine wp_loop_rounds 1 ?_
  rw [rounds_succ]
  go_wp2
  go_ret
  exact ⟨rfl, rfl⟩

theorem code_nil (w : World) : Calls Tryz.prog 7 #[.nilIface] w fun e w' => e = .returned (.int .i64 0) ∧ w = w' := by
  go_enter Tryz.func7, Tryz.ntmps7
  go_wp2
  go_ret
  exact ⟨rfl, rfl⟩

theorem code_errno (a : Int) (w : World) (h1 : 1 ≤ a) (h2 : a ≤ 25) : Calls Tryz.prog 7 #[.iface 64 (.int .i64 a)] w fun e w' => e = .returned (.int .i64 a) ∧ w = w' := by
  go_enter Tryz.func7, Tryz.ntmps7
  go_wp2_with fail
  go_loop [3] (fun i => ∃ n : Int, 1 ≤ n ∧ n ≤ a ∧ i = .int .i64 n) (fun i => (26 - intOf i).toNat)
  case atStart => exact ⟨1, by omega, by omega, rfl⟩
  case round =>
    obtain ⟨n, hn1, hn2, rfl⟩ := hrel
    by_cases h : n = a
    · subst h
      go_wp2_with (go_at_call 16; refine (is_errno_same _ _).mono ?_; rintro e w' ⟨rfl, rfl⟩)
      go_ret
      exact ⟨rfl, rfl⟩
    · go_wp2_with (go_at_call 16; refine (is_errno_other _ _ (by omega) _).mono ?_; rintro e w' ⟨rfl, rfl⟩)
      go_round
      case rel => exact ⟨n + 1, by omega, by omega, rfl⟩
      case measure => simp [intOf]; omega
end Go.Proofs.YtgcalmefijmhaaaGreatDoor
namespace Go.Proofs.YtgcalmefijmhaaaGreatDoor
open Go.RowKit Go.Extern.Stop Go.Stop Go.Extern
set_option linter.unusedVariables false
set_option linter.unusedSimpArgs false

theorem noIsF (v : Value) (xT : TypeId) (w : World) : (Instr.typeAssert (.iface 37 v) xT 134 true).run Tryz.prog w = .ok (.tuple #[.nilIface, .bool false]) w := run_typeAssert_lacksB Tryz.underlying134 (by kernel_rfl) (by kernel_rfl) v xT w
theorem hasUnwrapF (v : Value) (xT : TypeId) (w : World) : (Instr.typeAssert (.iface 37 v) xT 115 true).run Tryz.prog w = .ok (.tuple #[.iface 37 v, .bool true]) w := run_typeAssert_hasB Tryz.underlying115 (by kernel_rfl) v xT w
theorem methodUnwrapF (v : Value) (w : World) : (Go.method 310 37 v "Unwrap").run Tryz.prog w = .ok (105, v) w := by kernel_rfl
theorem is_fault_same (g : Nat) (a : Int) (w : World) (h1 : w.cell? ⟨g, 1, none⟩ = some (.iface 64 (.int .i64 a))) :
    Calls Tryz.prog 16 #[.iface 37 (.pointer (some ⟨g, 0, none⟩)), .iface 64 (.int .i64 a)] w fun e w' => e = .returned (.bool true) ∧ w = w' := by
  obtain ⟨i, hi, hcmp⟩ := Option.map_eq_some_iff.1 errnoComp
  have h8 := @run_callFunc_extern Tryz.prog 31 _ Extern.ReflectliteType.typeOf Tryz.func31 (by kernel_rfl) (by kernel_rfl) (by kernel_rfl) (by kernel_rfl)
  have h32 := @run_callFunc_extern Tryz.prog 112 _ cmpRow Tryz.func112 (by kernel_rfl) (by kernel_rfl) (by kernel_rfl) cmpRow_is
  have tT := isTypeOf
  have cT := isComparable
  have mR := isMethodComparable
  have nF := noIsF
  have uF := hasUnwrapF
  have mU := methodUnwrapF
  have heq : ∀ w, (binOp .eql 26 (.iface 64 (.int .i64 a)) (.iface 64 (.int .i64 a))).run Tryz.prog w = .ok (.bool true) w := fun w => by
    rw [run_eql_errno (P := Tryz.prog) w a a Tryz.underlying26 Tryz.underlying64 hi hcmp]; simp
  have hty := run_eql_iface_types (P := Tryz.prog) 37 64 (.pointer (some ⟨g, 0, none⟩)) (.int .i64 a) Tryz.underlying26 (by decide) w
  go_enter Tryz.func16, Tryz.ntmps16
  go_wp2
  refine wp_loop_rounds 2 ?_
  rw [rounds_succ]
  go_wp2
  rw [rounds_succ]
  go_wp2
  go_ret
  exact ⟨rfl, rfl⟩
theorem is_fault_other (g : Nat) (a b : Int) (hab : a ≠ b) (w : World) (h1 : w.cell? ⟨g, 1, none⟩ = some (.iface 64 (.int .i64 a))) :
    Calls Tryz.prog 16 #[.iface 37 (.pointer (some ⟨g, 0, none⟩)), .iface 64 (.int .i64 b)] w fun e w' => e = .returned (.bool false) ∧ w = w' := by
  obtain ⟨i, hi, hcmp⟩ := Option.map_eq_some_iff.1 errnoComp
  have h8 := @run_callFunc_extern Tryz.prog 31 _ Extern.ReflectliteType.typeOf Tryz.func31 (by kernel_rfl) (by kernel_rfl) (by kernel_rfl) (by kernel_rfl)
  have h32 := @run_callFunc_extern Tryz.prog 112 _ cmpRow Tryz.func112 (by kernel_rfl) (by kernel_rfl) (by kernel_rfl) cmpRow_is
  have tT := isTypeOf
  have cT := isComparable
  have mR := isMethodComparable
  have nE := noIsE
  have uE := noUnwrapE
  have vE := noUnwrapsE
  have nF := noIsF
  have uF := hasUnwrapF
  have mU := methodUnwrapF
  have heq : ∀ w, (binOp .eql 26 (.iface 64 (.int .i64 a)) (.iface 64 (.int .i64 b))).run Tryz.prog w = .ok (.bool false) w := fun w => by
    rw [run_eql_errno (P := Tryz.prog) w a b Tryz.underlying26 Tryz.underlying64 hi hcmp]; simp [hab]
  clear hab
  have hty := run_eql_iface_types (P := Tryz.prog) 37 64 (.pointer (some ⟨g, 0, none⟩)) (.int .i64 b) Tryz.underlying26 (by decide) w
  go_enter Tryz.func16, Tryz.ntmps16
  go_wp2
  refine wp_loop_rounds 2 ?_
  rw [rounds_succ]
  go_wp2
  rw [rounds_succ]
  go_wp2
  go_ret
  exact ⟨rfl, rfl⟩
theorem code_fault {w : World} {v : Value} {p a : Int} (h : FaultV w v p a) (h1 : 1 ≤ a) (h2 : a ≤ 25) : Calls Tryz.prog 7 #[v] w fun e w' => e = .returned (.int .i64 a) ∧ w = w' := by
  obtain ⟨g, rfl, hb⟩ := h
  have hc := hb.cell_ (i := 1) rfl
  have HC := Lib.hid hc
  clear hc hb
  go_enter Tryz.func7, Tryz.ntmps7
  go_wp2_with fail
  go_loop [3] (fun i => ∃ n : Int, 1 ≤ n ∧ n ≤ a ∧ i = .int .i64 n) (fun i => (26 - intOf i).toNat)
  case atStart => exact ⟨1, by omega, by omega, rfl⟩
  case round =>
    obtain ⟨n, hn1, hn2, rfl⟩ := hrel
    by_cases h : n = a
    · subst h
      go_wp2_with (go_at_call 16; refine (is_fault_same _ _ _ HC.out).mono ?_; rintro e w' ⟨rfl, rfl⟩)
      go_ret
      exact ⟨rfl, rfl⟩
    · go_wp2_with (go_at_call 16; refine (is_fault_other _ _ _ (by omega) _ HC.out).mono ?_; rintro e w' ⟨rfl, rfl⟩)
      go_round
      case rel => exact ⟨n + 1, by omega, by omega, rfl⟩
      case measure => simp [intOf]; omega
end Go.Proofs.YtgcalmefijmhaaaGreatDoor
namespace Go.Proofs.YtgcalmefijmhaaaGreatDoor
open Go.ChangeShapes Go.WideShapes Go.ChangeAt Go.RowKit
set_option linter.unusedVariables false

theorem handed_door {H : Type} {enc : TypeId × Value → H} {a : Assume} {C : Checked} {os : Os} {f : FuncId} {fn : Func} {s : ChangeSpec} {conds : List PathCond} {apart fresh handsOn again : Bool} {X : World → Prop}
    (hX : ∀ (w w' : World), w.heap = w'.heap → X w → X w') (own : ownKnob C.prog.godebug = none) (started : os.Started) (noInit : C.prog.inits.idxOf? f = none) (hfn : C.prog.funcs[f]? = some fn)
    (witness : ∃ (w : World) (tape : Tape) (i : Input), w.os = os ∧ (w.forCall tape i).Shaped C.prog ∧ i.vars = [] ∧ Input.okWide C.prog (w.forCall tape i) .any w.heap.size f i ∧
      ((s.pre enc C.prog fn conds apart (w.forCall tape i).memory i.args ∧ X (w.forCall tape i).memory) ∧ sizedMet enc C.prog fn (OpenSpec.ofChange s) apart (w.forCall tape i).memory i.args) ∧ a.holds C.prog (lone (Frame.enter C.prog f i.args .normal) [] (w.forCall tape i)))
    (contract : ∀ (W : World) (base : Nat) (args : Array Value) (ds gs : List (DataW H)) (before : List MemPlace),
      (∀ (j : Nat) t v, fn.params[j]? = some t → args[j]? = some v → Value.okWide C.prog W .any base t v) → DataW.Whole enc C.prog fn.params.toList s.vars apart W args.toList ds gs before → W.ShapedOpen C.prog → X W →
      Calls C.prog f args W fun e W' => ∃ v, e = .returned v ∧ s.post enc C.prog fn apart fresh handsOn again W args v W') :
    ReturnsInHanded a C os f .any (fun w args => (s.pre enc C.prog fn conds apart w args ∧ X w) ∧ sizedMet enc C.prog fn (OpenSpec.ofChange s) apart w args) (s.post enc C.prog fn apart fresh handsOn again) := by
  refine returnsInHanded_of_calls own started noInit witness ?_
  intro w tape i _ hsh _ hok hpre _
  obtain ⟨_, _, _, fn', hfn', _, _, _, _, hval⟩ := hok
  obtain rfl : fn' = fn := Option.some.inj (hfn'.symm.trans hfn)
  obtain ⟨⟨⟨ds, gs, before, hw, _⟩, hx⟩, _⟩ := hpre
  refine (contract (w.forCall tape i) w.heap.size i.args ds gs before hval (DataW.Whole.of_heap (w' := w.forCall tape i) (by rfl) hw) hsh (hX _ _ (by rfl) hx)).mono fun e W' ⟨v, he, hp⟩ => ?_
  subst he
  exact ChangeSpec.post_blind hp
end Go.Proofs.YtgcalmefijmhaaaGreatDoor
namespace Go.Proofs.YtgcalmefijmhaaaGreatDoor
open Go.RowKit Go.Extern.Stop Go.Stop Go.Extern
set_option linter.unusedVariables false
set_option linter.unusedSimpArgs false

theorem as_valueOf27 (t : Addr) (w : World) : (ReflectliteValue.unpack (.iface 40 (.pointer (some t)))).run Tryz.prog w
    = .ok (.agg #[.pointer (some ⟨2, 40, none⟩), .pointer (some ⟨w.heap.size, 0, none⟩), .int .u64 150]) (w.alloc (.cells #[.pointer (some t)] 40)) := by kernel_rfl
theorem as_type27 (a : Addr) (w : World) : (ReflectliteValue.methodAny (ReflectliteValue.valueError "reflectlite.Value.Type" 0) (fun t _ _ _ => ReflectliteType.toType t) #[.agg #[.pointer (some ⟨2, 40, none⟩), .pointer (some a), .int .u64 150]]).run Tryz.prog w
    = .ok (.iface 108 (.agg #[.pointer (some ⟨2, 40, none⟩)])) w := by kernel_rfl
theorem as_methodKind (h : Value) (w : World) : (Go.method 310 108 (.agg #[h]) "Kind").run Tryz.prog w = .ok (101, h) w := by kernel_rfl
theorem as_kind27 (w : World) : ((ReflectliteType.abiMethod fun t => (fun a : Nat => Value.int IntKind.u8 (a : Int)) <$> Rtype.kind t) #[.pointer (some ⟨2, 40, none⟩)]).run Tryz.prog w = .ok (.int .u8 22) w := by kernel_rfl
theorem as_kind25 (w : World) : ((ReflectliteType.abiMethod fun t => (fun a : Nat => Value.int IntKind.u8 (a : Int)) <$> Rtype.kind t) #[.pointer (some ⟨2, 37, none⟩)]).run Tryz.prog w = .ok (.int .u8 22) w := by kernel_rfl

theorem rlm (z : Sem Value) (f : TypeId → Addr → Nat → Nat → Sem Value) (v : Value) :
    ReflectliteValue.method z f #[v] = (do match ← ReflectliteValue.parts v with | none => z | some (t, a, fl) => f t a fl (fl % 32)) := rfl
theorem as_parts27 (a : Addr) (w : World) : (ReflectliteValue.parts (.agg #[.pointer (some ⟨2, 40, none⟩), .pointer (some a), .int .u64 150])).run Tryz.prog w = .ok (some (40, a, 150)) w := by kernel_rfl
theorem as_isNil27 (a p : Addr) (W : World) (ha : W.cell? a = some (.pointer (some p))) :
    (ReflectliteValue.method (ReflectliteValue.valueError "reflectlite.Value.IsNil" 0) ReflectliteValue.isNil #[.agg #[.pointer (some ⟨2, 40, none⟩), .pointer (some a), .int .u64 150]]).run Tryz.prog W = .ok (.bool false) W := by
  rw [rlm]
  simp only [Sem.run_bind, as_parts27, Result.andThen]
  simp [ReflectliteValue.isNil, loadVar, isAgg, underlying, Tryz.underlying40, ha, Result.andThen]

theorem as_methodElem (h : Value) (w : World) : (Go.method 310 108 (.agg #[h]) "Elem").run Tryz.prog w = .ok (113, .agg #[h]) w := by kernel_rfl
theorem as_methodImplements (h : Value) (w : World) : (Go.method 310 108 (.agg #[h]) "Implements").run Tryz.prog w = .ok (114, .agg #[h]) w := by kernel_rfl
theorem as_methodAssignableTo (h : Value) (w : World) : (Go.method 310 108 (.agg #[h]) "AssignableTo").run Tryz.prog w = .ok (111, .agg #[h]) w := by kernel_rfl
theorem as_elem27 (w : World) : (ReflectliteType.method ReflectliteType.elem #[.agg #[.pointer (some ⟨2, 40, none⟩)]]).run Tryz.prog w = .ok (.iface 108 (.agg #[.pointer (some ⟨2, 37, none⟩)])) w := by kernel_rfl
theorem as_implements25 (w : World) : (ReflectliteType.relation "Implements" ReflectliteType.implements_ #[.agg #[.pointer (some ⟨2, 37, none⟩)], .iface 108 (.agg #[.pointer (some ⟨2, 26, none⟩)])]).run Tryz.prog w = .ok (.bool true) w := by kernel_rfl
theorem as_typeOf25 (v : Value) (w : World) : (ReflectliteType.typeOf #[.iface 37 v]).run Tryz.prog w = .ok (.iface 108 (.agg #[.pointer (some ⟨2, 37, none⟩)])) w := by kernel_rfl
theorem as_assignable25 (w : World) : (ReflectliteType.relation "AssignableTo" ReflectliteType.assignableTo #[.agg #[.pointer (some ⟨2, 37, none⟩)], .iface 108 (.agg #[.pointer (some ⟨2, 37, none⟩)])]).run Tryz.prog w = .ok (.bool true) w := by kernel_rfl
theorem as_valueOf25 (e : Addr) (w : World) : (ReflectliteValue.unpack (.iface 37 (.pointer (some e)))).run Tryz.prog w
    = .ok (.agg #[.pointer (some ⟨2, 37, none⟩), .pointer (some ⟨w.heap.size, 0, none⟩), .int .u64 150]) (w.alloc (.cells #[.pointer (some e)] 37)) := by kernel_rfl

theorem as_elemOf27 (w : World) : (Rtype.elem? 40).run Tryz.prog w = .ok (some 37) w := by kernel_rfl
theorem as_mk25 (p : Addr) (w : World) : (ReflectliteValue.mk 37 p ReflectliteValue.flagAddr).run Tryz.prog w = .ok (.agg #[.pointer (some ⟨2, 37, none⟩), .pointer (some p), .int .u64 406]) w := by kernel_rfl
theorem as_elemV27 (a p : Addr) (W : World) (ha : W.cell? a = some (.pointer (some p))) :
    (ReflectliteValue.method (ReflectliteValue.valueError "reflectlite.Value.Elem" 0) ReflectliteValue.elem #[.agg #[.pointer (some ⟨2, 40, none⟩), .pointer (some a), .int .u64 150]]).run Tryz.prog W
      = .ok (.agg #[.pointer (some ⟨2, 37, none⟩), .pointer (some p), .int .u64 406]) W := by
  rw [rlm]
  simp only [Sem.run_bind, as_parts27, Result.andThen]
  simp [ReflectliteValue.elem, loadVar, isAgg, underlying, Tryz.underlying40, ha, Result.andThen, as_elemOf27, as_mk25]
theorem rls (v x : Value) : ReflectliteValue.set #[v, x] = (do
    let (some (dst, a, fl), some (src, b, _)) := (← ReflectliteValue.parts v, ← ReflectliteValue.parts x)
      | unsupported (.noEntry "extern/(internal/reflectlite.Value).Set.zeroValue")
    if fl / ReflectliteValue.flagAddr % 2 == 0 then unsupported (.noEntry "extern/(internal/reflectlite.Value).Set.unaddressable")
    let val ← loadVar src b
    if ← Rtype.directlyAssignable dst src then storeVar dst a val
    else if ← Rtype.implements dst src then
      if (← Rtype.kind src) == 20 then
        match val with
        | .nilIface => unsupported (.noEntry "extern/reflectlite: a nil value of one interface type handed on as a value of another")
        | _ => storeVar dst a val
      else storeVar dst a (.iface src val)
    else panicString ("reflectlite.Set: value of type " ++ (← Rtype.spelt src) ++ " is not assignable to type " ++ (← Rtype.spelt dst))
    pure (.tuple #[])) := rfl
theorem as_parts25a (a : Addr) (w : World) : (ReflectliteValue.parts (.agg #[.pointer (some ⟨2, 37, none⟩), .pointer (some a), .int .u64 406])).run Tryz.prog w = .ok (some (37, a, 406)) w := by kernel_rfl
theorem as_parts25 (a : Addr) (w : World) : (ReflectliteValue.parts (.agg #[.pointer (some ⟨2, 37, none⟩), .pointer (some a), .int .u64 150])).run Tryz.prog w = .ok (some (37, a, 150)) w := by kernel_rfl
theorem as_direct25 (w : World) : (Rtype.directlyAssignable 37 37).run Tryz.prog w = .ok true w := by kernel_rfl
theorem as_size25 (w : World) : (sizeOf 37).run Tryz.prog w = .ok 1 w := by kernel_rfl
theorem as_set25 (ta b e : Addr) (old : Value) (W : World) (hb : W.cell? b = some (.pointer (some e))) (ht : W.cell? ta = some old) (hf : W.frozen? ta = false) :
    (ReflectliteValue.set #[.agg #[.pointer (some ⟨2, 37, none⟩), .pointer (some ta), .int .u64 406], .agg #[.pointer (some ⟨2, 37, none⟩), .pointer (some b), .int .u64 150]]).run Tryz.prog W
      = .ok (.tuple #[]) (W.setCell ta (.pointer (some e))) := by
  rw [rls]
  simp only [Sem.run_bind, as_parts25a, as_parts25, Result.andThen]
  simp [ReflectliteValue.flagAddr, loadVar, isAgg, underlying, Tryz.underlying37, hb, Result.andThen, as_direct25, storeVar, Value.cells, storeCells, Addr.add]
  rw [run_store Tryz.prog W ta _ _ (by rfl)]
  simp [ht, hf]

set_option maxHeartbeats 4000000 in
theorem as_hit (e t : Addr) (old : Value) (w : World) (hg : w.cell? ⟨0, 0, none⟩ = some (.iface 108 (.agg #[.pointer (some ⟨2, 26, none⟩)]))) (ht0 : w.cell? t = some old) (hf0 : w.frozen? t = false) :
    Calls Tryz.prog 8 #[.iface 37 (.pointer (some e)), .iface 40 (.pointer (some t))] w fun ev w' => ev = .returned (.bool true) ∧ w' = ((((w.alloc (.cells #[.pointer (some t)] 40)).alloc (.cells #[.pointer (some ⟨2, 40, none⟩), .pointer (some ⟨w.heap.size, 0, none⟩), .int .u64 150] 68)).alloc (.cells #[.pointer (some ⟨2, 40, none⟩), .pointer (some ⟨w.heap.size, 0, none⟩), .int .u64 150] 68)).alloc (.cells #[.pointer (some e)] 37)).setCell t (.pointer (some e)) := by
  have h6 := @run_callFunc_extern Tryz.prog 17 _ (fun args => ReflectliteValue.unpack (args.getD 0 (.tuple #[]))) Tryz.func17 (by kernel_rfl) (by kernel_rfl) (by kernel_rfl) (by kernel_rfl)
  have h7 := @run_callFunc_extern Tryz.prog 18 _ (ReflectliteValue.methodAny (ReflectliteValue.valueError "reflectlite.Value.Type" 0) (fun t _ _ _ => ReflectliteType.toType t)) Tryz.func18 (by kernel_rfl) (by kernel_rfl) (by kernel_rfl) (by kernel_rfl)
  have h8 := @run_callFunc_extern Tryz.prog 19 _ (ReflectliteValue.method (ReflectliteValue.valueError "reflectlite.Value.IsNil" 0) ReflectliteValue.isNil) Tryz.func19 (by kernel_rfl) (by kernel_rfl) (by kernel_rfl) (by kernel_rfl)
  have h27 := @run_callFunc_extern Tryz.prog 101 _ (ReflectliteType.abiMethod fun t => do pure (.int .u8 (← Rtype.kind t))) Tryz.func101 (by kernel_rfl) (by kernel_rfl) (by kernel_rfl) (by kernel_rfl)
  have h37 := @run_callFunc_extern Tryz.prog 113 _ (ReflectliteType.method ReflectliteType.elem) Tryz.func113 (by kernel_rfl) (by kernel_rfl) (by kernel_rfl) (by kernel_rfl)
  have h38 := @run_callFunc_extern Tryz.prog 114 _ (ReflectliteType.relation "Implements" ReflectliteType.implements_) Tryz.func114 (by kernel_rfl) (by kernel_rfl) (by kernel_rfl) (by kernel_rfl)
  have h10 := @run_callFunc_extern Tryz.prog 31 _ ReflectliteType.typeOf Tryz.func31 (by kernel_rfl) (by kernel_rfl) (by kernel_rfl) (by kernel_rfl)
  have h35 := @run_callFunc_extern Tryz.prog 111 _ (ReflectliteType.relation "AssignableTo" ReflectliteType.assignableTo) Tryz.func111 (by kernel_rfl) (by kernel_rfl) (by kernel_rfl) (by kernel_rfl)
  have h11 := @run_callFunc_extern Tryz.prog 33 _ (ReflectliteValue.method (ReflectliteValue.valueError "reflectlite.Value.Elem" 0) ReflectliteValue.elem) Tryz.func33 (by kernel_rfl) (by kernel_rfl) (by kernel_rfl) (by kernel_rfl)
  have h12 := @run_callFunc_extern Tryz.prog 34 _ ReflectliteValue.set Tryz.func34 (by kernel_rfl) (by kernel_rfl) (by kernel_rfl) (by kernel_rfl)
  have tO := as_typeOf25
  have mA := as_methodAssignableTo
  have a25 := as_assignable25
  have v25 := as_valueOf25
  have f6 := as_valueOf27
  have f7 := as_type27
  have mK := as_methodKind
  have mE := as_methodElem
  have mI := as_methodImplements
  have k27 := as_kind27
  have k25 := as_kind25
  have e27 := as_elem27
  have i25 := as_implements25
  have n8 := as_isNil27 ⟨w.heap.size, 0, none⟩ t ((w.alloc (.cells #[.pointer (some t)] 40)).alloc (.cells #[.pointer (some ⟨2, 40, none⟩), .pointer (some ⟨w.heap.size, 0, none⟩), .int .u64 150] 68)) (by simp)
  have hlt : 0 < w.heap.size := by
    rcases Nat.eq_zero_or_pos w.heap.size with h0 | h
    · simp [World.cell?, h0] at hg
    · exact h
  have hg2 : ((w.alloc (.cells #[.pointer (some t)] 40)).alloc (.cells #[.pointer (some ⟨2, 40, none⟩), .pointer (some ⟨w.heap.size, 0, none⟩), .int .u64 150] 68)).cell? ⟨0, 0, none⟩ = some (.iface 108 (.agg #[.pointer (some ⟨2, 26, none⟩)])) := by
    rw [World.cell?_alloc_lt _ _ ⟨0, 0, none⟩ (by simp), World.cell?_alloc_lt _ _ ⟨0, 0, none⟩ hlt]; exact hg
  have htl : t.block < w.heap.size := by
    rcases Nat.lt_or_ge t.block w.heap.size with h | h
    · exact h
    · simp [World.cell?, Array.getElem?_eq_none h] at ht0
  have el := as_elemV27 ⟨w.heap.size, 0, none⟩ t (((w.alloc (.cells #[.pointer (some t)] 40)).alloc (.cells #[.pointer (some ⟨2, 40, none⟩), .pointer (some ⟨w.heap.size, 0, none⟩), .int .u64 150] 68)).alloc (.cells #[.pointer (some ⟨2, 40, none⟩), .pointer (some ⟨w.heap.size, 0, none⟩), .int .u64 150] 68)) (by rw [World.cell?_alloc_lt _ _ ⟨w.heap.size, 0, none⟩ (by simp; omega)]; simp)
  have st := as_set25 t ⟨w.heap.size + 1 + 1 + 1, 0, none⟩ e old ((((w.alloc (.cells #[.pointer (some t)] 40)).alloc (.cells #[.pointer (some ⟨2, 40, none⟩), .pointer (some ⟨w.heap.size, 0, none⟩), .int .u64 150] 68)).alloc (.cells #[.pointer (some ⟨2, 40, none⟩), .pointer (some ⟨w.heap.size, 0, none⟩), .int .u64 150] 68)).alloc (.cells #[.pointer (some e)] 37))
    (by rw [World.cell?_alloc_at _ _ _ _ (by simp)]; rfl)
    (by rw [World.cell?_alloc_lt _ _ t (by simp; omega), World.cell?_alloc_lt _ _ t (by simp; omega), World.cell?_alloc_lt _ _ t (by simp; omega), World.cell?_alloc_lt _ _ t htl]; exact ht0)
    (by rw [World.frozen?_alloc_old _ _ t (by simp; omega), World.frozen?_alloc_old _ _ t (by simp; omega), World.frozen?_alloc_old _ _ t (by simp; omega), World.frozen?_alloc_old _ _ t (Nat.ne_of_lt htl)]; exact hf0)
  go_enter Tryz.func8, Tryz.ntmps8
  go_wp2
  refine wp_loop_rounds 1 ?_
  rw [rounds_succ]
  go_wp2
  go_ret
  exact ⟨rfl, rfl⟩
end Go.Proofs.YtgcalmefijmhaaaGreatDoor
