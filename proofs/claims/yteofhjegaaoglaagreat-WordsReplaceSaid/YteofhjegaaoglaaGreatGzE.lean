/-
 Code, Read, Arg: several small texts in one. No conditions.
-/
import Derived.Test.YteofhjegaaoglaaGreatRows
import Derived.Test.YteofhjegaaoglaaGreatBase
import Derived.LaidEql
import Derived.Stop.Asserts
import Derived.RowKitTokens
import Derived.LoopTactic
import Derived.ProofKit
import Derived.OpenShut
import Derived.ShutString
import Derived.ChangeOld
import Derived.Deep.Slices
namespace Go.Proofs.YteofhjegaaoglaaGreat
open Go.RowKit Go.Extern.Stop Go.Stop Go.Extern
set_option linter.unusedVariables false
set_option linter.unusedSimpArgs false
theorem run_equalIn_errno {P : Program} (w : World) (d : Nat) {ti tn : TypeId} {ms : Array (String × TypeId)} {i : TypeInfo} {k : IntKind} (a b : Int)
    (hi : P.underlying ti = some (.interface ms)) (hn : P.underlying tn = some (.int k)) (hinfo : P.info? tn = some i) (hcomp : i.comparable = true) :
    (Op.equalIn (d + 2) ti (.iface tn (.int k a)) (.iface tn (.int k b))).run P w = .ok (a == b) w := by
 simp [Op.equalIn, run_underlying hi, run_underlying hn, typeInfo, hinfo, hcomp]
theorem run_eql_errno {P : Program} (w : World) {ti tn : TypeId} {ms : Array (String × TypeId)} {i : TypeInfo} {k : IntKind} (a b : Int)
    (hi : P.underlying ti = some (.interface ms)) (hn : P.underlying tn = some (.int k)) (hinfo : P.info? tn = some i) (hcomp : i.comparable = true) :
    (binOp .eql ti (.iface tn (.int k a)) (.iface tn (.int k b))).run P w = .ok (.bool (a == b)) w := by
 simp only [binOp]; simp [Op.equal, Op.maxDepth, run_equalIn_errno w 9998 a b hi hn hinfo hcomp]
theorem errnoComp : (Tryz.prog.info? 46).map (·.comparable) = some true := by kernel_rfl
theorem isTypeOf (v : Value) (w : World) : (Extern.ReflectliteType.typeOf #[.iface 46 v]).run Tryz.prog w = .ok (.iface 113 (.agg #[.pointer (some ⟨1, 46, none⟩)])) w := by kernel_rfl
def cmpRow : Array Value → Sem Value := Extern.ReflectliteType.method fun t => do Extern.Rtype.noPackHeld "Comparable" t; pure (.bool (← typeInfo t).comparable)
theorem cmpRow_is : Extern.find Tryz.f121 = some cmpRow := by kernel_rfl
theorem isComparable (w : World) : (cmpRow #[.agg #[.pointer (some ⟨1, 46, none⟩)]]).run Tryz.prog w = .ok (.bool true) w := by kernel_rfl
theorem isMethodComparable (v : Value) (w : World) : (Go.method 321 113 v "Comparable").run Tryz.prog w = .ok (121, v) w := by kernel_rfl
theorem noIsE (v : Value) (xT : TypeId) (w : World) : (Instr.typeAssert (.iface 46 v) xT 115 true).run Tryz.prog w = .ok (.tuple #[.nilIface, .bool false]) w := run_typeAssert_lacksB Tryz.underlying115 (by kernel_rfl) (by kernel_rfl) v xT w
theorem noUnwrapE (v : Value) (xT : TypeId) (w : World) : (Instr.typeAssert (.iface 46 v) xT 118 true).run Tryz.prog w = .ok (.tuple #[.nilIface, .bool false]) w := run_typeAssert_lacksB Tryz.underlying118 (by kernel_rfl) (by kernel_rfl) v xT w
theorem noUnwrapsE (v : Value) (xT : TypeId) (w : World) : (Instr.typeAssert (.iface 46 v) xT 120 true).run Tryz.prog w = .ok (.tuple #[.nilIface, .bool false]) w := run_typeAssert_lacksB Tryz.underlying120 (by kernel_rfl) (by kernel_rfl) v xT w
theorem is_errno_same (a : Int) (w : World) :
    Calls Tryz.prog 16 #[.iface 46 (.int .i64 a), .iface 46 (.int .i64 a)] w fun e w' => e = .returned (.bool true) ∧ w = w' := by
 obtain ⟨i, hi, hcmp⟩ := Option.map_eq_some_iff.1 errnoComp; have h8 := @run_callFunc_extern Tryz.prog 28 _ Extern.ReflectliteType.typeOf Tryz.func28 (by kernel_rfl) (by kernel_rfl) (by kernel_rfl) (by kernel_rfl); have h32 := @run_callFunc_extern Tryz.prog 121 _ cmpRow Tryz.func121 (by kernel_rfl) (by kernel_rfl) (by kernel_rfl) cmpRow_is; have tT := isTypeOf; have cT := isComparable; have mR := isMethodComparable
 have heq : ∀ w, (binOp .eql 25 (.iface 46 (.int .i64 a)) (.iface 46 (.int .i64 a))).run Tryz.prog w = .ok (.bool true) w := fun w => by
  rw [run_eql_errno (P := Tryz.prog) w a a Tryz.underlying25 Tryz.underlying46 hi hcmp]; simp
 go_enter Tryz.func16, Tryz.ntmps16
 go_wp2
 refine wp_loop_rounds 1 ?_; rw [rounds_succ]
 go_wp2
 go_ret
 exact ⟨rfl, rfl⟩
theorem is_errno_other (a b : Int) (hab : a ≠ b) (w : World) :
    Calls Tryz.prog 16 #[.iface 46 (.int .i64 a), .iface 46 (.int .i64 b)] w fun e w' => e = .returned (.bool false) ∧ w = w' := by
 obtain ⟨i, hi, hcmp⟩ := Option.map_eq_some_iff.1 errnoComp; have h8 := @run_callFunc_extern Tryz.prog 28 _ Extern.ReflectliteType.typeOf Tryz.func28 (by kernel_rfl) (by kernel_rfl) (by kernel_rfl) (by kernel_rfl); have h32 := @run_callFunc_extern Tryz.prog 121 _ cmpRow Tryz.func121 (by kernel_rfl) (by kernel_rfl) (by kernel_rfl) cmpRow_is; have tT := isTypeOf; have cT := isComparable; have mR := isMethodComparable; have nE := noIsE; have uE := noUnwrapE; have vE := noUnwrapsE
 have heq : ∀ w, (binOp .eql 25 (.iface 46 (.int .i64 a)) (.iface 46 (.int .i64 b))).run Tryz.prog w = .ok (.bool false) w := fun w => by
  rw [run_eql_errno (P := Tryz.prog) w a b Tryz.underlying25 Tryz.underlying46 hi hcmp]; simp [hab]
 clear hab; go_enter Tryz.func16, Tryz.ntmps16
 go_wp2
 refine wp_loop_rounds 1 ?_; rw [rounds_succ]
 go_wp2
 go_ret
 exact ⟨rfl, rfl⟩
theorem code_nil (w : World) : Calls Tryz.prog 6 #[.nilIface] w fun e w' => e = .returned (.int .i64 0) ∧ w = w' := by
 go_enter Tryz.func6, Tryz.ntmps6
 go_wp2
 go_ret
 exact ⟨rfl, rfl⟩
theorem code_errno (a : Int) (w : World) (h1 : 1 ≤ a) (h2 : a ≤ 25) : Calls Tryz.prog 6 #[.iface 46 (.int .i64 a)] w fun e w' => e = .returned (.int .i64 a) ∧ w = w' := by
 go_enter Tryz.func6, Tryz.ntmps6
 go_wp2_with fail
 go_loop [3] (fun i => ∃ n : Int, 1 ≤ n ∧ n ≤ a ∧ i = .int .i64 n) (fun i => (26 - intOf i).toNat)
 case atStart => exact ⟨1, by omega, by omega, rfl⟩
 case round =>
  obtain ⟨n, hn1, hn2, rfl⟩ := hrel; by_cases h : n = a
  ·subst h; go_wp2_with (go_at_call 16; refine (is_errno_same _ _).mono ?_; rintro e w' ⟨rfl, rfl⟩)
   go_ret
   exact ⟨rfl, rfl⟩
  ·go_wp2_with (go_at_call 16; refine (is_errno_other _ _ (by omega) _).mono ?_; rintro e w' ⟨rfl, rfl⟩)
   go_round
   case rel => exact ⟨n + 1, by omega, by omega, rfl⟩
   case measure => simp [intOf]; omega
end Go.Proofs.YteofhjegaaoglaaGreat
namespace Go.Proofs.YteofhjegaaoglaaGreat
open Go.ChangeShapes Go.WideShapes Go.ChangeAt Go.RowKit Go.Deep
set_option linter.unusedVariables false
set_option linter.unusedSimpArgs false
section
variable {H : Type} {enc : TypeId × Value → H} {P : Program} {w : World} {base : Nat} {spare : Nat → Bool} {held : Bool}
def Rd (enc : TypeId × Value → H) (P : Program) (w : World) (base : Nat) (spare : Nat → Bool) (held : Bool) (t : TypeId) (cs : List Value) : Prop :=
 ∃ fuel x, DataW.trod enc P w base spare held fuel t cs = some x
theorem Rd.of_trod {t : TypeId} {v : Value} {d : DataW H} {p : List MemPlace} (h : DataW.Trod enc P w base spare held t v d p) : Rd enc P w base spare held t v.cells.toList := by
 obtain ⟨fuel, hf⟩ := h; exact ⟨fuel, _, hf⟩
theorem Rd.int_ {t : TypeId} {cs : List Value} {k : IntKind} (ht : P.underlying t = some (.int k)) (h : Rd enc P w base spare held t cs) : ∃ n, cs = [.int k n] ∧ (Lit.int k n).wf = true := by
 obtain ⟨fuel, x, hx⟩ := h; obtain ⟨n, h1, _, h3⟩ := DataW.trod_int ht hx; exact ⟨n, h1, h3⟩
theorem Rd.slice_ {t e : TypeId} {cs : List Value} (ht : P.underlying t = some (.slice e)) (hc : 0 < P.cellsOf e) (h : Rd enc P w base spare held t cs) :
    ∃ A len cap, cs = [.slice A len cap] ∧ len ≤ cap ∧ cap ≤ maxLen ∧ (A = none → cap = 0) ∧
     ∀ i, i < len → ∃ b off es, A = some ⟨b, off, none⟩ ∧ b < w.heap.size ∧ es.length = P.cellsOf e ∧ (∀ j, j < P.cellsOf e → w.cell? ⟨b, off + i * P.cellsOf e + j, none⟩ = es[j]?) ∧ Rd enc P w base spare held e es := by
 obtain ⟨fuel, x, hx⟩ := h; rcases open_slice ht hx with ⟨rfl, _⟩ | ⟨a, len, cap, m, n, D, Pl, rfl, hb, hl, hm, hmm, _, hi⟩
 ·exact ⟨none, 0, 0, rfl, Nat.le_refl _, by simp, fun _ => rfl, fun i hi => absurd hi (by omega)⟩
 ·refine ⟨some a, len, cap, rfl, hl, hm, by simp, fun i hil => ?_⟩; have hlm : len ≤ m := by rw [hmm]; split <;> omega
  obtain ⟨es, h1, h2⟩ := hi i (by omega); obtain ⟨es0, g1, g2⟩ := hi 0 (by omega); obtain ⟨_, h3, h4⟩ := World.cells?_some h1; obtain ⟨_, g3, g4⟩ := World.cells?_some g1; have hc0 := g4 0 hc; rw [Nat.zero_mul] at hc0; have ha0 : (a.add 0).add 0 = a := by simp [Addr.add]
  rw [ha0] at hc0; have hsome : w.cell? a = some (es0[0]'(by omega)) := by rw [hc0]; exact List.getElem?_eq_getElem (by omega)
  have hlt := World.block_lt_of_cell? w a hsome; obtain ⟨b, off, spot⟩ := a
  have hsp : spot = none := by
   cases spot with
   | none => rfl
   | some s =>
    exfalso
    unfold World.cell? at hsome; split at hsome
    ·simp at hsome
    ·cases hsome
  subst hsp; refine ⟨b, off, es, rfl, hlt, h3, fun j hj => ?_, ⟨n, _, h2⟩⟩; rw [← h4 j hj, add_add_]
  congr 1
  unfold Addr.add; split <;> simp_all [Nat.add_assoc]
end
section
variable {H : Type} {enc : TypeId × Value → H} {P : Program} {w : World} {base base' : Nat} {spare : Nat → Bool} {held : Bool} {r : Reach}
theorem arg_bool {t : TypeId} {v : Value} {d : DataW H} {p : List MemPlace} (ht : P.underlying t = some .bool) (hv : Value.okWide P w r base' t v) (h : DataW.Trod enc P w base spare held t v d p) : ∃ n, v = .bool n := by
 obtain ⟨n, rfl, _⟩ := open_bool ht hv h; exact ⟨n, rfl⟩
theorem arg_string {t : TypeId} {v : Value} {d : DataW H} {p : List MemPlace} (ht : P.underlying t = some .string) (hv : Value.okWide P w r base' t v) (h : DataW.Trod enc P w base spare held t v d p) : ∃ s : ByteArray, v = .string s ∧ s.size ≤ maxLen := by
 obtain ⟨s, rfl, _, _, h3⟩ := Go.ChangeMaps.open_string ht hv h; exact ⟨s, rfl, h3⟩
theorem arg_slice {t e : TypeId} {v : Value} {d : DataW H} {p : List MemPlace} (ht : P.underlying t = some (.slice e)) (hc : 0 < P.cellsOf e) (hv : Value.okWide P w r base' t v) (h : DataW.Trod enc P w base spare held t v d p) :
    ∃ A len cap, v = .slice A len cap ∧ len ≤ cap ∧ cap ≤ maxLen ∧ (A = none → cap = 0) ∧
     ∀ i, i < len → ∃ b off es, A = some ⟨b, off, none⟩ ∧ b < w.heap.size ∧ es.length = P.cellsOf e ∧ (∀ j, j < P.cellsOf e → w.cell? ⟨b, off + i * P.cellsOf e + j, none⟩ = es[j]?) ∧ Rd enc P w base spare held e es := by
 obtain ⟨A, len, cap, rfl⟩ := okWide_slice ht hv; obtain ⟨A', len', cap', h1, h2⟩ := (Rd.of_trod h).slice_ ht hc; simp [Value.cells] at h1; obtain ⟨rfl, rfl, rfl⟩ := h1; exact ⟨_, _, _, rfl, h2⟩
theorem Rd.bytes_ {t e : TypeId} {cs : List Value} (ht : P.underlying t = some (.slice e)) (he : P.underlying e = some (.int .u8)) (hc : P.cellsOf e = 1) (h : Rd enc P w base spare held t cs) :
    ∃ A cap bs, cs = [.slice A bs.length cap] ∧ bs.length ≤ cap ∧ cap ≤ maxLen ∧ (A = none → cap = 0) ∧ Bytes w A bs := by
 obtain ⟨A, len, cap, rfl, hl, hm, hA, hi⟩ := h.slice_ ht (by omega)
 have hx : ∀ i, i < len → ∃ x : UInt8, ∀ b off, A = some ⟨b, off, none⟩ → b < w.heap.size ∧ w.cell? ⟨b, off + i, none⟩ = some (.int .u8 x.toNat) := by
  intro i hil; obtain ⟨b, off, es, hA', hb, hel, hcell, hrd⟩ := hi i hil; obtain ⟨n, rfl, hw⟩ := hrd.int_ he; refine ⟨UInt8.ofNat n.toNat, fun b' off' e => ?_⟩; rw [hA'] at e; obtain ⟨rfl, rfl⟩ : b = b' ∧ off = off' := by simpa using e
  have := hcell 0 (by omega); rw [hc] at this; simp only [Nat.mul_one, Nat.add_zero] at this; refine ⟨hb, this.trans ?_⟩; have hb' : 0 ≤ n ∧ n ≤ 255 := by simpa [Lit.wf, IntKind.min, IntKind.max, IntKind.signed, IntKind.bits] using hw
  simp; omega
 obtain ⟨f, hf⟩ := choose_lt (α := UInt8) hx; refine ⟨A, cap, (List.range len).map f, by simp, by simpa using hl, hm, hA, ?_⟩; by_cases h0 : len = 0
 ·left; subst h0; simp [byteVals]
 ·obtain ⟨b, off, _, hA', hb, _⟩ := hi 0 (by omega); refine .inr ⟨_, hA', hb, fun j u hu => ?_⟩
  have hj : j < len := by
   rcases Nat.lt_or_ge j len with h | h
   ·exact h
   ·rw [List.getElem?_eq_none (by simpa [byteVals] using h)] at hu; cases hu
  have hadd : (⟨b, off, none⟩ : Addr).add j = ⟨b, off + j, none⟩ := by unfold Addr.add; split <;> simp_all
  rw [hadd, (hf j hj b off hA').2]; simp [byteVals, hj] at hu; rw [← hu]
end
end Go.Proofs.YteofhjegaaoglaaGreat
namespace Go.Proofs.YteofhjegaaoglaaGreat
open Go.RowKit
set_option linter.unusedVariables false
set_option linter.unusedSimpArgs false
theorem u8c : Tryz.prog.cellsOf 5 = 1 := by kernel_rfl
set_option maxRecDepth 100000 in
theorem arg_bytes {H : Type} {enc : TypeId × Value → H} {w : World} {base base' : Nat} {spare : Nat → Bool} {held : Bool} {r : Reach} {v : Value} {d : DataW H} {p : List MemPlace}
    (hv : Value.okWide Tryz.prog w r base' 22 v) (h : DataW.Trod enc Tryz.prog w base spare held 22 v d p) :
    ∃ (A : Option Addr) (c : Nat) (bs : List UInt8), v = .slice A bs.length c ∧ bs.length ≤ c ∧ c ≤ maxLen ∧ (A = none → c = 0) ∧ Bytes w A bs := by
 obtain ⟨A, n, c, rfl, h1, h2, h3, hi⟩ := arg_slice Tryz.underlying22 (by rw [u8c]; omega) hv h; obtain ⟨A', c', bs, hbs, g1, g2, g3, g4⟩ := (Rd.of_trod h).bytes_ Tryz.underlying22 Tryz.underlying5 u8c; have : (Value.slice A n c).cells.toList = [Value.slice A n c] := rfl; rw [this] at hbs
 injection hbs with hbs
 injection hbs with e1 e2 e3
 subst e1 e2 e3; exact ⟨A, c, bs, rfl, g1, g2, g3, g4⟩
end Go.Proofs.YteofhjegaaoglaaGreat
