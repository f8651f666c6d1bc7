/-
  Small texts in one (Code, CodeF, As, Read, Arg, Door, NwP). No conditions.
-/
import Derived.Test.YtfofechcccodeaaGreatDoorRows
import Derived.Test.YtfofechcccodeaaGreatDoorQaa
import Derived.LaidEql
import Derived.Stop.Asserts
import Derived.RowKitTokens
import Derived.LoopTactic
import Derived.Test.YtfofechcccodeaaGreatDoorQac
import Derived.ProofKit
import Derived.OpenShut
import Derived.ShutString
import Derived.ChangeOld
import Derived.Deep.Slices
import Derived.HandedShaped
import Derived.LaidMore
import Derived.Test.YtfofechcccodeaaGreatDoorQat
namespace Go.Proofs.YtfofechcccodeaaGreatDoor
open Go.RowKit Go.Extern.Stop Go.Stop Go.Extern Go.Proofs.Tryz
set_option linter.unusedVariables false
set_option linter.unusedSimpArgs false
theorem run_equalIn_errno {P:Program} (w:World) (d:Nat) {ti tn:TypeId} {ms:Array (String × TypeId)} {i:TypeInfo} {k:IntKind} (a b:Int)
    (hi:P.underlying ti=some (.interface ms)) (hn:P.underlying tn=some (.int k)) (hinfo:P.info? tn=some i) (hcomp:i.comparable=true) :
    (Op.equalIn (d+2) ti (.iface tn (.int k a)) (.iface tn (.int k b))).run P w = .ok (a == b) w:=by
 simp [Op.equalIn,run_underlying hi,run_underlying hn,typeInfo,hinfo,hcomp]
theorem run_eql_errno {P:Program} (w:World) {ti tn:TypeId} {ms:Array (String × TypeId)} {i:TypeInfo} {k:IntKind} (a b:Int)
    (hi:P.underlying ti=some (.interface ms)) (hn:P.underlying tn=some (.int k)) (hinfo:P.info? tn=some i) (hcomp:i.comparable=true) :
    (binOp .eql ti (.iface tn (.int k a)) (.iface tn (.int k b))).run P w = .ok (.bool (a == b)) w:=by
 simp only [binOp];simp [Op.equal,Op.maxDepth,run_equalIn_errno w 9998 a b hi hn hinfo hcomp]
theorem errnoComp:(prog.info? 55).map (·.comparable)=some true:=by kernel_rfl
theorem isTypeOf (v:Value) (w:World):(Extern.ReflectliteType.typeOf #[.iface 55 v]).run prog w = .ok (.iface 144 (.agg #[.pointer (some ⟨4,55,none⟩)])) w:=by kernel_rfl
def cmpRow : Array Value → Sem Value := Extern.ReflectliteType.method fun t => do Extern.Rtype.noPackHeld "Comparable" t; pure (.bool (← typeInfo t).comparable)
theorem cmpRow_is:Extern.find Tryz.f168=some cmpRow:=by kernel_rfl
theorem isComparable (w:World):(cmpRow #[.agg #[.pointer (some ⟨4,55,none⟩)]]).run prog w = .ok (.bool true) w:=by kernel_rfl
theorem isMethodComparable (v : Value) (w : World) : (Go.method 372 144 v "Comparable").run prog w = .ok (168, v) w := by kernel_rfl
theorem noIsE (v:Value) (xT:TypeId) (w:World):(Instr.typeAssert (.iface 55 v) xT 146 true).run prog w = .ok (.tuple #[.nilIface,.bool false]) w:=run_typeAssert_lacksB underlying146 (by kernel_rfl) (by kernel_rfl) v xT w
theorem noUnwrapE (v:Value) (xT:TypeId) (w:World):(Instr.typeAssert (.iface 55 v) xT 149 true).run prog w = .ok (.tuple #[.nilIface,.bool false]) w:=run_typeAssert_lacksB underlying149 (by kernel_rfl) (by kernel_rfl) v xT w
theorem noUnwrapsE (v:Value) (xT:TypeId) (w:World):(Instr.typeAssert (.iface 55 v) xT 151 true).run prog w = .ok (.tuple #[.nilIface,.bool false]) w:=run_typeAssert_lacksB underlying151 (by kernel_rfl) (by kernel_rfl) v xT w
theorem is_errno_same (a:Int) (w:World) :
    Calls prog 29 #[.iface 55 (.int .i64 a),.iface 55 (.int .i64 a)] w fun e w'=>e = .returned (.bool true)/\w=w':=by
 obtain ⟨i,hi,hcmp⟩:=Option.map_eq_some_iff.1 errnoComp;have h8:=@run_callFunc_extern prog 42 _ Extern.ReflectliteType.typeOf func42 (by kernel_rfl) (by kernel_rfl) (by kernel_rfl) (by kernel_rfl);have h32:=@run_callFunc_extern prog 168 _ cmpRow func168 (by kernel_rfl) (by kernel_rfl) (by kernel_rfl) cmpRow_is;have tT:=isTypeOf;have cT:=isComparable;have mR:=isMethodComparable
 have heq:∀ w,(binOp .eql 34 (.iface 55 (.int .i64 a)) (.iface 55 (.int .i64 a))).run prog w = .ok (.bool true) w:=fun w=>by
  rw [run_eql_errno (P:=prog) w a a underlying34 underlying55 hi hcmp];simp
 go_enter func29,ntmps29
 go_wp2
 refine wp_loop_rounds 1 ?_;rw [rounds_succ]
 go_wp2
 go_ret
 exact ⟨rfl,rfl⟩
theorem is_errno_other (a b:Int) (hab:a ≠ b) (w:World) :
    Calls prog 29 #[.iface 55 (.int .i64 a),.iface 55 (.int .i64 b)] w fun e w'=>e = .returned (.bool false)/\w=w':=by
 obtain ⟨i,hi,hcmp⟩:=Option.map_eq_some_iff.1 errnoComp;have h8:=@run_callFunc_extern prog 42 _ Extern.ReflectliteType.typeOf func42 (by kernel_rfl) (by kernel_rfl) (by kernel_rfl) (by kernel_rfl);have h32:=@run_callFunc_extern prog 168 _ cmpRow func168 (by kernel_rfl) (by kernel_rfl) (by kernel_rfl) cmpRow_is;have tT:=isTypeOf;have cT:=isComparable;have mR:=isMethodComparable;have nE:=noIsE;have uE:=noUnwrapE;have vE:=noUnwrapsE
 have heq:∀ w,(binOp .eql 34 (.iface 55 (.int .i64 a)) (.iface 55 (.int .i64 b))).run prog w = .ok (.bool false) w:=fun w=>by
  rw [run_eql_errno (P:=prog) w a b underlying34 underlying55 hi hcmp];simp [hab]
 clear hab;go_enter func29,ntmps29
 go_wp2
 refine wp_loop_rounds 1 ?_;rw [rounds_succ]
 go_wp2
 go_ret
 exact ⟨rfl,rfl⟩
theorem code_nil (w:World):Calls prog 16 #[.nilIface] w fun e w'=>e = .returned (.int .i64 0)/\w=w':=by
 go_enter func16,ntmps16
 go_wp2
 go_ret
 exact ⟨rfl,rfl⟩
theorem code_errno (a:Int) (w:World) (h1:1 <= a) (h2:a <= 25):Calls prog 16 #[.iface 55 (.int .i64 a)] w fun e w'=>e = .returned (.int .i64 a)/\w=w':=by
 go_enter func16,ntmps16
 go_wp2_with fail
 go_loop [3] (fun i=>∃ n:Int,1 <= n/\n <= a/\i = .int .i64 n) (fun i=>(26 - intOf i).toNat)
 case atStart=>exact ⟨1,by omega,by omega,rfl⟩
 case round=>
  obtain ⟨n,hn1,hn2,rfl⟩:=hrel;by_cases h:n=a
  ·subst h;go_wp2_with (go_at_call 29;refine (is_errno_same _ _).mono ?_;rintro e w' ⟨rfl,rfl⟩)
   go_ret
   exact ⟨rfl,rfl⟩
  go_wp2_with (go_at_call 29;refine (is_errno_other _ _ (by omega) _).mono ?_;rintro e w' ⟨rfl,rfl⟩)
  go_round
  case rel=>exact ⟨n+1,by omega,by omega,rfl⟩
  case measure=>simp [intOf];omega
end Go.Proofs.YtfofechcccodeaaGreatDoor
namespace Go.Proofs.YtfofechcccodeaaGreatDoor
open Go.RowKit Go.Extern.Stop Go.Stop Go.Extern Go.Proofs.Tryz
set_option linter.unusedVariables false
set_option linter.unusedSimpArgs false
theorem noIsF (v:Value) (xT:TypeId) (w:World):(Instr.typeAssert (.iface 74 v) xT 146 true).run prog w = .ok (.tuple #[.nilIface,.bool false]) w:=run_typeAssert_lacksB underlying146 (by kernel_rfl) (by kernel_rfl) v xT w
theorem hasUnwrapF (v:Value) (xT:TypeId) (w:World):(Instr.typeAssert (.iface 74 v) xT 149 true).run prog w = .ok (.tuple #[.iface 74 v,.bool true]) w:=run_typeAssert_hasB underlying149 (by kernel_rfl) v xT w
theorem methodUnwrapF (v : Value) (w : World) : (Go.method 372 74 v "Unwrap").run prog w = .ok (161, v) w := by kernel_rfl
theorem is_fault_same (g:Nat) (a:Int) (w:World) (h1:w.cell? ⟨g,1,none⟩=some (.iface 55 (.int .i64 a))) :
    Calls prog 29 #[.iface 74 (.pointer (some ⟨g,0,none⟩)),.iface 55 (.int .i64 a)] w fun e w'=>e = .returned (.bool true)/\w=w':=by
 obtain ⟨i,hi,hcmp⟩:=Option.map_eq_some_iff.1 errnoComp;have h8:=@run_callFunc_extern prog 42 _ Extern.ReflectliteType.typeOf func42 (by kernel_rfl) (by kernel_rfl) (by kernel_rfl) (by kernel_rfl);have h32:=@run_callFunc_extern prog 168 _ cmpRow func168 (by kernel_rfl) (by kernel_rfl) (by kernel_rfl) cmpRow_is;have tT:=isTypeOf;have cT:=isComparable;have mR:=isMethodComparable;have nF:=noIsF;have uF:=hasUnwrapF;have mU:=methodUnwrapF
 have heq:∀ w,(binOp .eql 34 (.iface 55 (.int .i64 a)) (.iface 55 (.int .i64 a))).run prog w = .ok (.bool true) w:=fun w=>by
  rw [run_eql_errno (P:=prog) w a a underlying34 underlying55 hi hcmp];simp
 have hty:=run_eql_iface_types (P:=prog) 74 55 (.pointer (some ⟨g,0,none⟩)) (.int .i64 a) underlying34 (by decide) w;go_enter func29,ntmps29
 go_wp2
 refine wp_loop_rounds 2 ?_;rw [rounds_succ]
 go_wp2
 rw [rounds_succ]
 go_wp2
 go_ret
 exact ⟨rfl,rfl⟩
theorem is_fault_other (g:Nat) (a b:Int) (hab:a ≠ b) (w:World) (h1:w.cell? ⟨g,1,none⟩=some (.iface 55 (.int .i64 a))) :
    Calls prog 29 #[.iface 74 (.pointer (some ⟨g,0,none⟩)),.iface 55 (.int .i64 b)] w fun e w'=>e = .returned (.bool false)/\w=w':=by
 obtain ⟨i,hi,hcmp⟩:=Option.map_eq_some_iff.1 errnoComp;have h8:=@run_callFunc_extern prog 42 _ Extern.ReflectliteType.typeOf func42 (by kernel_rfl) (by kernel_rfl) (by kernel_rfl) (by kernel_rfl);have h32:=@run_callFunc_extern prog 168 _ cmpRow func168 (by kernel_rfl) (by kernel_rfl) (by kernel_rfl) cmpRow_is;have tT:=isTypeOf;have cT:=isComparable;have mR:=isMethodComparable;have nE:=noIsE;have uE:=noUnwrapE;have vE:=noUnwrapsE;have nF:=noIsF;have uF:=hasUnwrapF;have mU:=methodUnwrapF
 have heq:∀ w,(binOp .eql 34 (.iface 55 (.int .i64 a)) (.iface 55 (.int .i64 b))).run prog w = .ok (.bool false) w:=fun w=>by
  rw [run_eql_errno (P:=prog) w a b underlying34 underlying55 hi hcmp];simp [hab]
 clear hab;have hty:=run_eql_iface_types (P:=prog) 74 55 (.pointer (some ⟨g,0,none⟩)) (.int .i64 b) underlying34 (by decide) w;go_enter func29,ntmps29
 go_wp2
 refine wp_loop_rounds 2 ?_;rw [rounds_succ]
 go_wp2
 rw [rounds_succ]
 go_wp2
 go_ret
 exact ⟨rfl,rfl⟩
theorem code_fault {w:World} {v:Value} {p a:Int} (h:FaultV w v p a) (h1:1 <= a) (h2:a <= 25):Calls prog 16 #[v] w fun e w'=>e = .returned (.int .i64 a)/\w=w':=by
 obtain ⟨g,rfl,hb⟩:=h;have hc:=hb.cell_ (i:=1) rfl;have HC:=zh hc;clear hc hb;go_enter func16,ntmps16
 go_wp2_with fail
 go_loop [3] (fun i=>∃ n:Int,1 <= n/\n <= a/\i = .int .i64 n) (fun i=>(26 - intOf i).toNat)
 case atStart=>exact ⟨1,by omega,by omega,rfl⟩
 case round=>
  obtain ⟨n,hn1,hn2,rfl⟩:=hrel;by_cases h:n=a
  ·subst h;go_wp2_with (go_at_call 29;refine (is_fault_same _ _ _ HC.out).mono ?_;rintro e w' ⟨rfl,rfl⟩)
   go_ret
   exact ⟨rfl,rfl⟩
  go_wp2_with (go_at_call 29;refine (is_fault_other _ _ _ (by omega) _ HC.out).mono ?_;rintro e w' ⟨rfl,rfl⟩)
  go_round
  case rel=>exact ⟨n+1,by omega,by omega,rfl⟩
  case measure=>simp [intOf];omega
end Go.Proofs.YtfofechcccodeaaGreatDoor
namespace Go.Proofs.YtfofechcccodeaaGreatDoor
open Go.RowKit Go.Extern.Stop Go.Stop Go.Extern Go.Proofs.Tryz
set_option linter.unusedVariables false
set_option linter.unusedSimpArgs false
set_option maxHeartbeats 4000000
theorem as_valueOf27 (t:Addr) (w:World):(ReflectliteValue.unpack (.iface 76 (.pointer (some t)))).run prog w
    = .ok (.agg #[.pointer (some ⟨4,76,none⟩),.pointer (some ⟨w.heap.size,0,none⟩),.int .u64 150]) (w.alloc (.cells #[.pointer (some t)] 76)):=by kernel_rfl
theorem as_type27 (a : Addr) (w : World) : (ReflectliteValue.methodAny (ReflectliteValue.valueError "reflectlite.Value.Type" 0) (fun t _ _ _ => ReflectliteType.toType t) #[.agg #[.pointer (some ⟨4, 76, none⟩), .pointer (some a), .int .u64 150]]).run prog w
    = .ok (.iface 144 (.agg #[.pointer (some ⟨4,76,none⟩)])) w:=by kernel_rfl
theorem as_methodKind (h : Value) (w : World) : (Go.method 372 144 (.agg #[h]) "Kind").run prog w = .ok (155, h) w := by kernel_rfl
theorem as_kind27 (w:World):((ReflectliteType.abiMethod fun t=>(fun a:Nat=>Value.int IntKind.u8 (a:Int)) <$> Rtype.kind t) #[.pointer (some ⟨4,76,none⟩)]).run prog w = .ok (.int .u8 22) w:=by kernel_rfl
theorem as_kind25 (w:World):((ReflectliteType.abiMethod fun t=>(fun a:Nat=>Value.int IntKind.u8 (a:Int)) <$> Rtype.kind t) #[.pointer (some ⟨4,74,none⟩)]).run prog w = .ok (.int .u8 22) w:=by kernel_rfl
theorem rlm (z:Sem Value) (f:TypeId->Addr->Nat->Nat->Sem Value) (v:Value) :
    ReflectliteValue.method z f #[v]=(do match <-ReflectliteValue.parts v with | none=>z | some (t,a,fl)=>f t a fl (fl % 32)):=rfl
theorem as_parts27 (a:Addr) (w:World):(ReflectliteValue.parts (.agg #[.pointer (some ⟨4,76,none⟩),.pointer (some a),.int .u64 150])).run prog w = .ok (some (76,a,150)) w:=by kernel_rfl
theorem as_isNil27 (a p:Addr) (W:World) (ha:W.cell? a=some (.pointer (some p))) :
    (ReflectliteValue.method (ReflectliteValue.valueError "reflectlite.Value.IsNil" 0) ReflectliteValue.isNil #[.agg #[.pointer (some ⟨4, 76, none⟩), .pointer (some a), .int .u64 150]]).run prog W = .ok (.bool false) W := by
 rw [rlm];simp only [Sem.run_bind,as_parts27,Result.andThen];simp [ReflectliteValue.isNil,loadVar,isAgg,underlying,underlying76,ha,Result.andThen]
theorem as_methodElem (h : Value) (w : World) : (Go.method 372 144 (.agg #[h]) "Elem").run prog w = .ok (169, .agg #[h]) w := by kernel_rfl
theorem as_methodImplements (h : Value) (w : World) : (Go.method 372 144 (.agg #[h]) "Implements").run prog w = .ok (170, .agg #[h]) w := by kernel_rfl
theorem as_methodAssignableTo (h : Value) (w : World) : (Go.method 372 144 (.agg #[h]) "AssignableTo").run prog w = .ok (167, .agg #[h]) w := by kernel_rfl
theorem as_elem27 (w:World):(ReflectliteType.method ReflectliteType.elem #[.agg #[.pointer (some ⟨4,76,none⟩)]]).run prog w = .ok (.iface 144 (.agg #[.pointer (some ⟨4,74,none⟩)])) w:=by kernel_rfl
theorem as_implements25 (w : World) : (ReflectliteType.relation "Implements" ReflectliteType.implements_ #[.agg #[.pointer (some ⟨4, 74, none⟩)], .iface 144 (.agg #[.pointer (some ⟨4, 34, none⟩)])]).run prog w = .ok (.bool true) w := by kernel_rfl
theorem as_typeOf25 (v:Value) (w:World):(ReflectliteType.typeOf #[.iface 74 v]).run prog w = .ok (.iface 144 (.agg #[.pointer (some ⟨4,74,none⟩)])) w:=by kernel_rfl
theorem as_assignable25 (w : World) : (ReflectliteType.relation "AssignableTo" ReflectliteType.assignableTo #[.agg #[.pointer (some ⟨4, 74, none⟩)], .iface 144 (.agg #[.pointer (some ⟨4, 74, none⟩)])]).run prog w = .ok (.bool true) w := by kernel_rfl
theorem as_valueOf25 (e:Addr) (w:World):(ReflectliteValue.unpack (.iface 74 (.pointer (some e)))).run prog w
    = .ok (.agg #[.pointer (some ⟨4,74,none⟩),.pointer (some ⟨w.heap.size,0,none⟩),.int .u64 150]) (w.alloc (.cells #[.pointer (some e)] 74)):=by kernel_rfl
theorem as_elemOf27 (w:World):(Rtype.elem? 76).run prog w = .ok (some 74) w:=by kernel_rfl
theorem as_mk25 (p:Addr) (w:World):(ReflectliteValue.mk 74 p ReflectliteValue.flagAddr).run prog w = .ok (.agg #[.pointer (some ⟨4,74,none⟩),.pointer (some p),.int .u64 406]) w:=by kernel_rfl
theorem as_elemV27 (a p:Addr) (W:World) (ha:W.cell? a=some (.pointer (some p))) :
    (ReflectliteValue.method (ReflectliteValue.valueError "reflectlite.Value.Elem" 0) ReflectliteValue.elem #[.agg #[.pointer (some ⟨4, 76, none⟩), .pointer (some a), .int .u64 150]]).run prog W
     = .ok (.agg #[.pointer (some ⟨4,74,none⟩),.pointer (some p),.int .u64 406]) W:=by
 rw [rlm];simp only [Sem.run_bind,as_parts27,Result.andThen];simp [ReflectliteValue.elem,loadVar,isAgg,underlying,underlying76,ha,Result.andThen,as_elemOf27,as_mk25]
theorem rls (v x:Value):ReflectliteValue.set #[v,x]=(do
    let (some (dst,a,fl),some (src,b,_)):=(<- ReflectliteValue.parts v,<-ReflectliteValue.parts x)
     | unsupported (.noEntry "extern/(internal/reflectlite.Value).Set.zeroValue")
    if fl / ReflectliteValue.flagAddr % 2 == 0 then unsupported (.noEntry "extern/(internal/reflectlite.Value).Set.unaddressable")
    let val <-loadVar src b
    if <-Rtype.directlyAssignable dst src then storeVar dst a val
    else if <-Rtype.implements dst src then
     if (<- Rtype.kind src) == 20 then
      match val with
      | .nilIface => unsupported (.noEntry "extern/reflectlite: a nil value of one interface type handed on as a value of another")
      | _=>storeVar dst a val
     else storeVar dst a (.iface src val)
    else panicString ("reflectlite.Set: value of type " ++ (← Rtype.spelt src) ++ " is not assignable to type " ++ (← Rtype.spelt dst))
    pure (.tuple #[])):=rfl
theorem as_parts25a (a:Addr) (w:World):(ReflectliteValue.parts (.agg #[.pointer (some ⟨4,74,none⟩),.pointer (some a),.int .u64 406])).run prog w = .ok (some (74,a,406)) w:=by kernel_rfl
theorem as_parts25 (a:Addr) (w:World):(ReflectliteValue.parts (.agg #[.pointer (some ⟨4,74,none⟩),.pointer (some a),.int .u64 150])).run prog w = .ok (some (74,a,150)) w:=by kernel_rfl
theorem as_direct25 (w:World):(Rtype.directlyAssignable 74 74).run prog w = .ok true w:=by kernel_rfl
theorem as_set25 (ta b e:Addr) (old:Value) (W:World) (hb:W.cell? b=some (.pointer (some e))) (ht:W.cell? ta=some old) (hf:W.frozen? ta=false) :
    (ReflectliteValue.set #[.agg #[.pointer (some ⟨4,74,none⟩),.pointer (some ta),.int .u64 406],.agg #[.pointer (some ⟨4,74,none⟩),.pointer (some b),.int .u64 150]]).run prog W
     = .ok (.tuple #[]) (W.setCell ta (.pointer (some e))):=by
 rw [rls];simp only [Sem.run_bind,as_parts25a,as_parts25,Result.andThen];simp [ReflectliteValue.flagAddr,loadVar,isAgg,underlying,underlying74,hb,Result.andThen,as_direct25,storeVar,Value.cells,storeCells,Addr.add];rw [run_store prog W ta _ _ (by rfl)];simp [ht,hf]
theorem as_hit (e t:Addr) (old:Value) (w:World) (hg:w.cell? ⟨0,0,none⟩=some (.iface 144 (.agg #[.pointer (some ⟨4,34,none⟩)]))) (ht0:w.cell? t=some old) (hf0:w.frozen? t=false) :
    Calls prog 30 #[.iface 74 (.pointer (some e)),.iface 76 (.pointer (some t))] w fun ev w'=>ev = .returned (.bool true)/\w'=((((w.alloc (.cells #[.pointer (some t)] 76)).alloc (.cells #[.pointer (some ⟨4,76,none⟩),.pointer (some ⟨w.heap.size,0,none⟩),.int .u64 150] 105)).alloc (.cells #[.pointer (some ⟨4,76,none⟩),.pointer (some ⟨w.heap.size,0,none⟩),.int .u64 150] 105)).alloc (.cells #[.pointer (some e)] 74)).setCell t (.pointer (some e)):=by
 have h6 := @run_callFunc_extern prog 44 _ (fun args => ReflectliteValue.unpack (args.getD 0 (.tuple #[]))) func44 (by kernel_rfl) (by kernel_rfl) (by kernel_rfl) (by kernel_rfl); have h7 := @run_callFunc_extern prog 45 _ (ReflectliteValue.methodAny (ReflectliteValue.valueError "reflectlite.Value.Type" 0) (fun t _ _ _ => ReflectliteType.toType t)) func45 (by kernel_rfl) (by kernel_rfl) (by kernel_rfl) (by kernel_rfl); have h8 := @run_callFunc_extern prog 46 _ (ReflectliteValue.method (ReflectliteValue.valueError "reflectlite.Value.IsNil" 0) ReflectliteValue.isNil) func46 (by kernel_rfl) (by kernel_rfl) (by kernel_rfl) (by kernel_rfl); have h27 := @run_callFunc_extern prog 155 _ (ReflectliteType.abiMethod fun t => do pure (.int .u8 (← Rtype.kind t))) func155 (by kernel_rfl) (by kernel_rfl) (by kernel_rfl) (by kernel_rfl); have h37 := @run_callFunc_extern prog 169 _ (ReflectliteType.method ReflectliteType.elem) func169 (by kernel_rfl) (by kernel_rfl) (by kernel_rfl) (by kernel_rfl); have h38 := @run_callFunc_extern prog 170 _ (ReflectliteType.relation "Implements" ReflectliteType.implements_) func170 (by kernel_rfl) (by kernel_rfl) (by kernel_rfl) (by kernel_rfl); have h10 := @run_callFunc_extern prog 42 _ ReflectliteType.typeOf func42 (by kernel_rfl) (by kernel_rfl) (by kernel_rfl) (by kernel_rfl); have h35 := @run_callFunc_extern prog 167 _ (ReflectliteType.relation "AssignableTo" ReflectliteType.assignableTo) func167 (by kernel_rfl) (by kernel_rfl) (by kernel_rfl) (by kernel_rfl); have h11 := @run_callFunc_extern prog 60 _ (ReflectliteValue.method (ReflectliteValue.valueError "reflectlite.Value.Elem" 0) ReflectliteValue.elem) func60 (by kernel_rfl) (by kernel_rfl) (by kernel_rfl) (by kernel_rfl); have h12 := @run_callFunc_extern prog 61 _ ReflectliteValue.set func61 (by kernel_rfl) (by kernel_rfl) (by kernel_rfl) (by kernel_rfl); have tO := as_typeOf25; have mA := as_methodAssignableTo; have a25 := as_assignable25; have v25 := as_valueOf25; have f6 := as_valueOf27; have f7 := as_type27; have mK := as_methodKind; have mE := as_methodElem; have mI := as_methodImplements; have k27 := as_kind27; have k25 := as_kind25; have e27 := as_elem27; have i25 := as_implements25; have n8 := as_isNil27 ⟨w.heap.size, 0, none⟩ t ((w.alloc (.cells #[.pointer (some t)] 76)).alloc (.cells #[.pointer (some ⟨4, 76, none⟩), .pointer (some ⟨w.heap.size, 0, none⟩), .int .u64 150] 105)) (by simp)
 have hlt:0 < w.heap.size:=by
  rcases Nat.eq_zero_or_pos w.heap.size with h0 | h
  ·simp [World.cell?,h0] at hg
  exact h
 have hg2:((w.alloc (.cells #[.pointer (some t)] 76)).alloc (.cells #[.pointer (some ⟨4,76,none⟩),.pointer (some ⟨w.heap.size,0,none⟩),.int .u64 150] 105)).cell? ⟨0,0,none⟩=some (.iface 144 (.agg #[.pointer (some ⟨4,34,none⟩)])):=by
  rw [World.cell?_alloc_lt _ _ ⟨0,0,none⟩ (by simp),World.cell?_alloc_lt _ _ ⟨0,0,none⟩ hlt];exact hg
 have htl:t.block < w.heap.size:=by
  rcases Nat.lt_or_ge t.block w.heap.size with h | h
  ·exact h
  simp [World.cell?,Array.getElem?_eq_none h] at ht0
 have el:=as_elemV27 ⟨w.heap.size,0,none⟩ t (((w.alloc (.cells #[.pointer (some t)] 76)).alloc (.cells #[.pointer (some ⟨4,76,none⟩),.pointer (some ⟨w.heap.size,0,none⟩),.int .u64 150] 105)).alloc (.cells #[.pointer (some ⟨4,76,none⟩),.pointer (some ⟨w.heap.size,0,none⟩),.int .u64 150] 105)) (by rw [World.cell?_alloc_lt _ _ ⟨w.heap.size,0,none⟩ (by simp;omega)];simp)
 have st:=as_set25 t ⟨w.heap.size+1+1+1,0,none⟩ e old ((((w.alloc (.cells #[.pointer (some t)] 76)).alloc (.cells #[.pointer (some ⟨4,76,none⟩),.pointer (some ⟨w.heap.size,0,none⟩),.int .u64 150] 105)).alloc (.cells #[.pointer (some ⟨4,76,none⟩),.pointer (some ⟨w.heap.size,0,none⟩),.int .u64 150] 105)).alloc (.cells #[.pointer (some e)] 74))
  (by rw [World.cell?_alloc_at _ _ _ _ (by simp)];rfl)
  (by rw [World.cell?_alloc_lt _ _ t (by simp;omega),World.cell?_alloc_lt _ _ t (by simp;omega),World.cell?_alloc_lt _ _ t (by simp;omega),World.cell?_alloc_lt _ _ t htl];exact ht0)
  (by rw [World.frozen?_alloc_old _ _ t (by simp;omega),World.frozen?_alloc_old _ _ t (by simp;omega),World.frozen?_alloc_old _ _ t (by simp;omega),World.frozen?_alloc_old _ _ t (Nat.ne_of_lt htl)];exact hf0)
 go_enter func30,ntmps30
 go_wp2
 refine wp_loop_rounds 1 ?_;rw [rounds_succ]
 go_wp2
 go_ret
 exact ⟨rfl,rfl⟩
end Go.Proofs.YtfofechcccodeaaGreatDoor
namespace Go.Proofs.YtfofechcccodeaaGreatDoor
open Go.ChangeShapes Go.WideShapes Go.ChangeAt Go.RowKit Go.Deep
set_option linter.unusedVariables false
set_option linter.unusedSimpArgs false
section
variable {H:Type} {enc:TypeId × Value->H} {P:Program} {w:World} {base:Nat} {spare:Nat->Bool} {held:Bool}
def Rd (enc:TypeId × Value->H) (P:Program) (w:World) (base:Nat) (spare:Nat->Bool) (held:Bool) (t:TypeId) (cs:List Value):Prop:=
 ∃ fuel x,DataW.trod enc P w base spare held fuel t cs=some x
theorem Rd.of_trod {t:TypeId} {v:Value} {d:DataW H} {p:List MemPlace} (h:DataW.Trod enc P w base spare held t v d p):Rd enc P w base spare held t v.cells.toList:=by
 obtain ⟨fuel,hf⟩:=h;exact ⟨fuel,_,hf⟩
theorem Rd.int_ {t:TypeId} {cs:List Value} {k:IntKind} (ht:P.underlying t=some (.int k)) (h:Rd enc P w base spare held t cs):∃ n,cs=[.int k n]/\(Lit.int k n).wf=true:=by
 obtain ⟨fuel,x,hx⟩:=h;obtain ⟨n,h1,_,h3⟩:=DataW.trod_int ht hx;exact ⟨n,h1,h3⟩
theorem Rd.string_ {t:TypeId} {cs:List Value} (ht:P.underlying t=some .string) (h:Rd enc P w base spare held t cs):∃ s:ByteArray,cs=[.string s]/\s.size <= maxLen:=by
 obtain ⟨fuel,x,hx⟩:=h;obtain ⟨n,h1,_,h3⟩:=DataW.trod_string ht hx;exact ⟨n,h1,h3⟩
theorem Rd.struct_ {t:TypeId} {fs:Array Field} {cs:List Value} (ht:P.underlying t=some (.struct fs)) (h:Rd enc P w base spare held t cs) :
    cs.length=P.cellsOf t/\∀ (i:Nat) (f:Field),fs[i]?=some f->Rd enc P w base spare held f.type ((cs.drop f.offset).take (P.cellsOf f.type)):=by
 obtain ⟨fuel,x,hx⟩:=h;obtain ⟨xs,n,_,_,hl,hxs,hf⟩:=DataW.trod_struct ht hx;refine ⟨hl,fun i f hi=>?_⟩;have h1:i < xs.length:=by rw [hxs];exact (Array.getElem?_eq_some_iff.1 hi).1
 exact ⟨n,xs[i],by rw [hf i f hi];exact List.getElem?_eq_getElem h1⟩
theorem Rd.slice_ {t e:TypeId} {cs:List Value} (ht:P.underlying t=some (.slice e)) (hc:0 < P.cellsOf e) (h:Rd enc P w base spare held t cs) :
    ∃ A len cap,cs=[.slice A len cap]/\len <= cap/\cap <= maxLen/\(A=none->cap=0) /\
     ∀ i,i < len->∃ b off es,A=some ⟨b,off,none⟩/\b < w.heap.size/\es.length=P.cellsOf e/\(∀ j,j < P.cellsOf e->w.cell? ⟨b,off+i * P.cellsOf e+j,none⟩=es[j]?)/\Rd enc P w base spare held e es:=by
 obtain ⟨fuel,x,hx⟩:=h;rcases open_slice ht hx with ⟨rfl,_⟩ | ⟨a,len,cap,m,n,D,Pl,rfl,hb,hl,hm,hmm,_,hi⟩
 ·exact ⟨none,0,0,rfl,Nat.le_refl _,by simp,fun _=>rfl,fun i hi=>absurd hi (by omega)⟩
 refine ⟨some a,len,cap,rfl,hl,hm,by simp,fun i hil=>?_⟩;have hlm:len <= m:=by rw [hmm];split <;> omega
 obtain ⟨es,h1,h2⟩:=hi i (by omega);obtain ⟨es0,g1,g2⟩:=hi 0 (by omega);obtain ⟨_,h3,h4⟩:=World.cells?_some h1;obtain ⟨_,g3,g4⟩:=World.cells?_some g1;have hc0:=g4 0 hc;rw [Nat.zero_mul] at hc0;have ha0:(a.add 0).add 0=a:=by simp [Addr.add]
 rw [ha0] at hc0;have hsome:w.cell? a=some (es0[0]'(by omega)):=by rw [hc0];exact List.getElem?_eq_getElem (by omega)
 have hlt:=World.block_lt_of_cell? w a hsome;obtain ⟨b,off,spot⟩:=a
 have hsp:spot=none:=by
  cases spot with
  | none=>rfl
  | some s=>
   exfalso
   unfold World.cell? at hsome;split at hsome
   ·simp at hsome
   cases hsome
 subst hsp;refine ⟨b,off,es,rfl,hlt,h3,fun j hj=>?_,⟨n,_,h2⟩⟩;rw [<-h4 j hj,add_add_]
 congr 1
 unfold Addr.add;split <;> simp_all [Nat.add_assoc]
end
section
variable {H:Type} {enc:TypeId × Value->H} {P:Program} {w:World} {base base':Nat} {spare:Nat->Bool} {held:Bool} {r:Reach}
theorem arg_int {t:TypeId} {v:Value} {d:DataW H} {p:List MemPlace} {k:IntKind} (ht:P.underlying t=some (.int k)) (hv:Value.okWide P w r base' t v) (h:DataW.Trod enc P w base spare held t v d p):∃ n,v = .int k n/\(Lit.int k n).wf=true:=by
 obtain ⟨n,rfl,_,_,h3⟩:=open_int ht hv h;exact ⟨n,rfl,h3⟩
theorem arg_slice {t e:TypeId} {v:Value} {d:DataW H} {p:List MemPlace} (ht:P.underlying t=some (.slice e)) (hc:0 < P.cellsOf e) (hv:Value.okWide P w r base' t v) (h:DataW.Trod enc P w base spare held t v d p) :
    ∃ A len cap,v = .slice A len cap/\len <= cap/\cap <= maxLen/\(A=none->cap=0) /\
     ∀ i,i < len->∃ b off es,A=some ⟨b,off,none⟩/\b < w.heap.size/\es.length=P.cellsOf e/\(∀ j,j < P.cellsOf e->w.cell? ⟨b,off+i * P.cellsOf e+j,none⟩=es[j]?)/\Rd enc P w base spare held e es:=by
 obtain ⟨A,len,cap,rfl⟩:=okWide_slice ht hv;obtain ⟨A',len',cap',h1,h2⟩:=(Rd.of_trod h).slice_ ht hc;simp [Value.cells] at h1;obtain ⟨rfl,rfl,rfl⟩:=h1;exact ⟨_,_,_,rfl,h2⟩
end
end Go.Proofs.YtfofechcccodeaaGreatDoor
namespace Go.Proofs.YtfofechcccodeaaGreatDoor
open Go.RowKit
set_option linter.unusedVariables false
set_option linter.unusedSimpArgs false
end Go.Proofs.YtfofechcccodeaaGreatDoor
namespace Go.Proofs.YtfofechcccodeaaGreatDoor
open Go.ChangeShapes Go.WideShapes Go.ChangeAt Go.RowKit
set_option linter.unusedVariables false
theorem handed_door {H:Type} {enc:TypeId × Value->H} {a:Assume} {C:Checked} {os:Os} {f:FuncId} {fn:Func} {s:ChangeSpec} {conds:List PathCond} {apart fresh handsOn again:Bool} {X:World->Prop}
    (hX:∀ (w w':World),w.heap=w'.heap->X w->X w') (own:ownKnob C.prog.godebug=none) (started:os.Started) (noInit:C.prog.inits.idxOf? f=none) (hfn:C.prog.funcs[f]?=some fn)
    (witness:∃ (w:World) (tape:Tape) (i:Input),w.os=os/\(w.forCall tape i).Shaped C.prog/\i.vars=[]/\Input.okWide C.prog (w.forCall tape i) .any w.heap.size f i /\
     ((s.pre enc C.prog fn conds apart (w.forCall tape i).memory i.args/\X (w.forCall tape i).memory)/\sizedMet enc C.prog fn (OpenSpec.ofChange s) apart (w.forCall tape i).memory i.args)/\a.holds C.prog (lone (Frame.enter C.prog f i.args .normal) [] (w.forCall tape i)))
    (contract:∀ (W:World) (base:Nat) (args:Array Value) (ds gs:List (DataW H)) (before:List MemPlace),
     (∀ (j:Nat) t v,fn.params[j]?=some t->args[j]?=some v->Value.okWide C.prog W .any base t v)->DataW.Whole enc C.prog fn.params.toList s.vars apart W args.toList ds gs before->W.ShapedOpen C.prog->X W ->
     Calls C.prog f args W fun e W'=>∃ v,e = .returned v/\s.post enc C.prog fn apart fresh handsOn again W args v W') :
    ReturnsInHanded a C os f .any (fun w args=>(s.pre enc C.prog fn conds apart w args/\X w)/\sizedMet enc C.prog fn (OpenSpec.ofChange s) apart w args) (s.post enc C.prog fn apart fresh handsOn again):=by
 refine returnsInHanded_of_calls own started noInit witness ?_;intro w tape i _ hsh _ hok hpre _;obtain ⟨_,_,_,fn',hfn',_,_,_,_,hval⟩:=hok;obtain rfl:fn'=fn:=Option.some.inj (hfn'.symm.trans hfn);obtain ⟨⟨⟨ds,gs,before,hw,_⟩,hx⟩,_⟩:=hpre;refine (contract (w.forCall tape i) w.heap.size i.args ds gs before hval (DataW.Whole.of_heap (w':=w.forCall tape i) (by rfl) hw) hsh (hX _ _ (by rfl) hx)).mono fun e W' ⟨v,he,hp⟩=>?_;subst he;exact ChangeSpec.post_blind hp
end Go.Proofs.YtfofechcccodeaaGreatDoor
namespace Go.Proofs.YtfofechcccodeaaGreatDoor
set_option linter.unusedVariables false
set_option linter.unusedSimpArgs false
def NwCd (c:Nat):Prop:=1 <= c/\c <= 25
theorem nw_cd_err {α : Type} {q:Nat × Nat} {p c:Nat} (h:(Except.error q:Except (Nat × Nat) α) = .error (p,c)) (hq:NwCd q.2):NwCd c:=by
 injection h with h;subst h;exact hq
theorem nw_member_code {bs:List UInt8} {i p c:Nat} (h:memberS bs i = .error (p,c)):NwCd c:=by
 unfold memberS at h
 (repeat' split at h) <;> first | (exact nw_cd_err h (by unfold NwCd;omega)) | (exact nw_cd_err h (by constructor <;> (dsimp only;omega))) | cases h
theorem nw_brkL_code {bs:List UInt8} {first:Nat}:∀ (k nx:Nat) (S:S4) (p c:Nat),brkL bs first k nx S = .error (p,c)->NwCd c
 | 0,nx,S,p,c,h=>by unfold brkL at h;cases h
 | k+1,nx,S,p,c,h=>by
  unfold brkL at h;split at h
  ·cases hm:memberS bs nx with
   | error q=>
    rw [hm] at h;obtain ⟨q1,q2⟩:=q;exact nw_cd_err h (nw_member_code hm)
   | ok q=>
    obtain ⟨R,n⟩:=q;rw [hm] at h;exact nw_brkL_code k n _ p c h
  cases h
theorem nw_brkE_code {neg:Bool} {i p c:Nat} {r:Except (Nat × Nat) (S4 × Nat)} (h:brkE neg i r = .error (p,c)):r = .error (p,c):=by
 cases r with
 | error q=>simpa [brkE] using h
 | ok q=>obtain ⟨S,m⟩:=q;simp [brkE] at h
theorem nw_bracket_code {bs:List UInt8} {i p c:Nat} (h:bracketS bs i = .error (p,c)):NwCd c:=by
 unfold bracketS at h;split at h
 ·exact nw_brkL_code _ _ _ _ _ (nw_brkE_code h)
 exact nw_brkL_code _ _ _ _ _ (nw_brkE_code h)
theorem nw_plain_code {bs:List UInt8} {i p c:Nat} (h:plainS bs i = .error (p,c)):NwCd c:=by
 unfold plainS at h;split at h
 ·exact nw_cd_err h (by constructor <;> (dsimp only;omega))
 split at h
 ·cases hb:bracketS bs i with
  | error q=>
   rw [hb] at h;obtain ⟨q1,q2⟩:=q;exact nw_cd_err h (nw_bracket_code hb)
  | ok q=>
   obtain ⟨S,n⟩:=q;rw [hb] at h;simp [setR] at h
 (repeat' split at h) <;> first | (exact nw_cd_err h (by constructor <;> (dsimp only;omega))) | (cases h;done)
theorem nw_signs_code {bs:List UInt8}:∀ (k:Nat) (t:RT) (i p c:Nat),signsL bs k t i = .error (p,c)->NwCd c
 | 0,t,i,p,c,h=>by
  unfold signsL at h
  (repeat' split at h) <;> first | (exact nw_cd_err h (by constructor <;> (dsimp only;omega))) | (cases h;done)
 | k+1,t,i,p,c,h=>by
  unfold signsL at h;split at h
  ·cases h
  split at h
  ·exact nw_cd_err h (by constructor <;> (dsimp only;omega))
  exact nw_signs_code k _ _ p c h
theorem nw_readF_code (bs:List UInt8):∀ f:Nat,
    (∀ d i acc p c,i <= bs.length->6 * (bs.length - i)+5 <= f->exprF bs f d i acc = .error (p,c)->NwCd c) /\
    (∀ d i acc p c,i <= bs.length->6 * (bs.length - i)+4 <= f->branchF bs f d i acc = .error (p,c)->NwCd c) /\
    (∀ d i p c,i < bs.length->6 * (bs.length - i)+3 <= f->pieceF bs f d i = .error (p,c)->NwCd c) /\
    (∀ d i p c,i < bs.length->6 * (bs.length - i)+2 <= f->atomF bs f d i = .error (p,c)->NwCd c)
 | 0=>⟨fun _ _ _ _ _ _ h _=>by omega,fun _ _ _ _ _ _ h _=>by omega,fun _ _ _ _ _ h _=>by omega,fun _ _ _ _ _ h _=>by omega⟩
 | f+1=>by
  obtain ⟨hE,hB,hP,hA⟩:=nw_readF_code bs f;obtain ⟨lE,lB,lP,lA⟩:=readF_le bs f;refine ⟨fun d i acc p c hi hf h=>?_,fun d i acc p c hi hf h=>?_,fun d i p c hi hf h=>?_,fun d i p c hi hf h=>?_⟩
  ·unfold exprF at h
   cases hb:branchF bs f d i [] with
   | error q=>
    rw [hb] at h;obtain ⟨q1,q2⟩:=q;exact nw_cd_err h (hB d i [] q1 q2 hi (by omega) hb)
   | ok q=>
    obtain ⟨t1,j1⟩:=q;rw [hb] at h;have h1:=lB d i [] t1 j1 hi hb;simp only at h;split at h
    ·rename_i h2
     have h3:=bn_pos h2 (by omega);exact hE d (j1+1) _ p c (by omega) (by omega) h
    cases h
  ·unfold branchF at h;split at h
   ·rename_i hg
    cases hb:pieceF bs f d i with
    | error q=>
     rw [hb] at h;obtain ⟨q1,q2⟩:=q;exact nw_cd_err h (hP d i q1 q2 hg.1 (by omega) hb)
    | ok q=>
     obtain ⟨t1,j1⟩:=q;rw [hb] at h;have h1:=lP d i t1 j1 hg.1 hb;exact hB d j1 _ p c h1.2 (by omega) h
   cases h
  ·unfold pieceF at h
   cases hb:atomF bs f d i with
   | error q=>
    rw [hb] at h;obtain ⟨q1,q2⟩:=q;exact nw_cd_err h (hA d i q1 q2 hi (by omega) hb)
   | ok q=>
    obtain ⟨t1,j1⟩:=q;rw [hb] at h;exact nw_signs_code 8 t1 j1 p c h
  unfold atomF at h;split at h
  ·split at h
   ·exact nw_cd_err h (by constructor <;> (dsimp only;omega))
   cases hb:exprF bs f (d+1) (i+1) [] with
   | error q=>
    rw [hb] at h;obtain ⟨q1,q2⟩:=q;exact nw_cd_err h (hE (d+1) (i+1) [] q1 q2 (by omega) (by omega) hb)
   | ok q=>
    obtain ⟨t1,j1⟩:=q;rw [hb] at h;unfold closeT at h;simp only at h;split at h
    ·cases h
    exact nw_cd_err h (by constructor <;> (dsimp only;omega))
  exact nw_plain_code h
theorem nw_parse_code {bs:List UInt8} {p c:Nat} (h:parseS bs = .error (p,c)):1 <= c/\c <= 25:=by
 unfold parseS at h;split at h
 ·exact nw_cd_err h (by constructor <;> (dsimp only;omega))
 cases hb:exprF bs (6 * bs.length+5) 0 0 [] with
 | error q=>
  rw [hb] at h;obtain ⟨q1,q2⟩:=q;exact nw_cd_err h ((nw_readF_code bs _).1 0 0 [] q1 q2 (Nat.zero_le _) (by omega) hb)
 | ok q=>
  obtain ⟨t1,j1⟩:=q;rw [hb] at h;simp only at h;split at h
  ·exact nw_cd_err h (by constructor <;> (dsimp only;omega))
  cases h
end Go.Proofs.YtfofechcccodeaaGreatDoor
