/-
 How arguments are read: what a reading of a slice, a struct, a number gives of the cells. Without a program; no conditions.
-/
import Derived.Test.YtfbmogccmlikaaaGreatDoorBase
import Derived.ProofKit
import Derived.OpenShut
import Derived.ShutString
import Derived.ChangeOld
import Derived.Deep.Slices
namespace Go.Proofs.YtfbmogccmlikaaaGreatDoor
open Go.ChangeShapes Go.WideShapes Go.ChangeAt Go.RowKit Go.Deep
set_option linter.unusedVariables false
set_option linter.unusedSimpArgs false
section
variable {H : Type} {enc : TypeId × Value → H} {P : Program} {w : World} {base : Nat} {spare : Nat → Bool} {held : Bool}
def Rd (enc : TypeId × Value → H) (P : Program) (w : World) (base : Nat) (spare : Nat → Bool) (held : Bool) (t : TypeId) (cs : List Value) : Prop :=
 ∃ fuel x, DataW.trod enc P w base spare held fuel t cs = some x
theorem Rd.of_trod {t : TypeId} {v : Value} {d : DataW H} {p : List MemPlace} (h : DataW.Trod enc P w base spare held t v d p) : Rd enc P w base spare held t v.cells.toList := by
 obtain ⟨fuel, hf⟩ := h
 exact ⟨fuel, _, hf⟩
theorem Rd.int_ {t : TypeId} {cs : List Value} {k : IntKind} (ht : P.underlying t = some (.int k)) (h : Rd enc P w base spare held t cs) : ∃ n, cs = [.int k n] ∧ (Lit.int k n).wf = true := by
 obtain ⟨fuel, x, hx⟩ := h
 obtain ⟨n, h1, _, h3⟩ := DataW.trod_int ht hx
 exact ⟨n, h1, h3⟩
theorem Rd.bool_ {t : TypeId} {cs : List Value} (ht : P.underlying t = some .bool) (h : Rd enc P w base spare held t cs) : ∃ b, cs = [.bool b] := by
 obtain ⟨fuel, x, hx⟩ := h
 obtain ⟨n, h1, _⟩ := DataW.trod_bool ht hx
 exact ⟨n, h1⟩
theorem Rd.struct_ {t : TypeId} {fs : Array Field} {cs : List Value} (ht : P.underlying t = some (.struct fs)) (h : Rd enc P w base spare held t cs) :
    cs.length = P.cellsOf t ∧ ∀ (i : Nat) (f : Field), fs[i]? = some f → Rd enc P w base spare held f.type ((cs.drop f.offset).take (P.cellsOf f.type)) := by
 obtain ⟨fuel, x, hx⟩ := h
 obtain ⟨xs, n, _, _, hl, hxs, hf⟩ := DataW.trod_struct ht hx
 refine ⟨hl, fun i f hi => ?_⟩
 have h1 : i < xs.length := by rw [hxs]; exact (Array.getElem?_eq_some_iff.1 hi).1
 exact ⟨n, xs[i], by rw [hf i f hi]; exact List.getElem?_eq_getElem h1⟩
theorem Rd.slice_ {t e : TypeId} {cs : List Value} (ht : P.underlying t = some (.slice e)) (hc : 0 < P.cellsOf e) (h : Rd enc P w base spare held t cs) :
    ∃ A len cap, cs = [.slice A len cap] ∧ len ≤ cap ∧ cap ≤ maxLen ∧ (A = none → cap = 0) ∧
     ∀ i, i < len → ∃ b off es, A = some ⟨b, off, none⟩ ∧ b < w.heap.size ∧ es.length = P.cellsOf e ∧ (∀ j, j < P.cellsOf e → w.cell? ⟨b, off + i * P.cellsOf e + j, none⟩ = es[j]?) ∧ Rd enc P w base spare held e es := by
 obtain ⟨fuel, x, hx⟩ := h
 rcases open_slice ht hx with ⟨rfl, _⟩ | ⟨a, len, cap, m, n, D, Pl, rfl, hb, hl, hm, hmm, _, hi⟩
 ·exact ⟨none, 0, 0, rfl, Nat.le_refl _, by simp, fun _ => rfl, fun i hi => absurd hi (by omega)⟩
 ·refine ⟨some a, len, cap, rfl, hl, hm, by simp, fun i hil => ?_⟩
  have hlm : len ≤ m := by rw [hmm]; split <;> omega
  obtain ⟨es, h1, h2⟩ := hi i (by omega)
  obtain ⟨es0, g1, g2⟩ := hi 0 (by omega)
  obtain ⟨_, h3, h4⟩ := World.cells?_some h1
  obtain ⟨_, g3, g4⟩ := World.cells?_some g1
  have hc0 := g4 0 hc
  rw [Nat.zero_mul] at hc0
  have ha0 : (a.add 0).add 0 = a := by simp [Addr.add]
  rw [ha0] at hc0
  have hsome : w.cell? a = some (es0[0]'(by omega)) := by rw [hc0]; exact List.getElem?_eq_getElem (by omega)
  have hlt := World.block_lt_of_cell? w a hsome
  obtain ⟨b, off, spot⟩ := a
  have hsp : spot = none := by
   cases spot with
   | none => rfl
   | some s =>
    exfalso
    unfold World.cell? at hsome
    split at hsome
    ·simp at hsome
    ·cases hsome
  subst hsp
  refine ⟨b, off, es, rfl, hlt, h3, fun j hj => ?_, ⟨n, _, h2⟩⟩
  rw [← h4 j hj, add_add_]
  congr 1
  unfold Addr.add
  split <;> simp_all [Nat.add_assoc]
end
section
variable {H : Type} {enc : TypeId × Value → H} {P : Program} {w : World} {base base' : Nat} {spare : Nat → Bool} {held : Bool} {r : Reach}
theorem arg_string {t : TypeId} {v : Value} {d : DataW H} {p : List MemPlace} (ht : P.underlying t = some .string) (hv : Value.okWide P w r base' t v) (h : DataW.Trod enc P w base spare held t v d p) : ∃ s : ByteArray, v = .string s ∧ s.size ≤ maxLen := by
 obtain ⟨s, rfl, _, _, h3⟩ := Go.ChangeMaps.open_string ht hv h
 exact ⟨s, rfl, h3⟩
theorem arg_slice {t e : TypeId} {v : Value} {d : DataW H} {p : List MemPlace} (ht : P.underlying t = some (.slice e)) (hc : 0 < P.cellsOf e) (hv : Value.okWide P w r base' t v) (h : DataW.Trod enc P w base spare held t v d p) :
    ∃ A len cap, v = .slice A len cap ∧ len ≤ cap ∧ cap ≤ maxLen ∧ (A = none → cap = 0) ∧
     ∀ i, i < len → ∃ b off es, A = some ⟨b, off, none⟩ ∧ b < w.heap.size ∧ es.length = P.cellsOf e ∧ (∀ j, j < P.cellsOf e → w.cell? ⟨b, off + i * P.cellsOf e + j, none⟩ = es[j]?) ∧ Rd enc P w base spare held e es := by
 obtain ⟨A, len, cap, rfl⟩ := okWide_slice ht hv
 obtain ⟨A', len', cap', h1, h2⟩ := (Rd.of_trod h).slice_ ht hc
 simp [Value.cells] at h1
 obtain ⟨rfl, rfl, rfl⟩ := h1
 exact ⟨_, _, _, rfl, h2⟩
theorem Rd.bytes_ {t e : TypeId} {cs : List Value} (ht : P.underlying t = some (.slice e)) (he : P.underlying e = some (.int .u8)) (hc : P.cellsOf e = 1) (h : Rd enc P w base spare held t cs) :
    ∃ A cap bs, cs = [.slice A bs.length cap] ∧ bs.length ≤ cap ∧ cap ≤ maxLen ∧ (A = none → cap = 0) ∧ Bytes w A bs := by
 obtain ⟨A, len, cap, rfl, hl, hm, hA, hi⟩ := h.slice_ ht (by omega)
 have hx : ∀ i, i < len → ∃ x : UInt8, ∀ b off, A = some ⟨b, off, none⟩ → b < w.heap.size ∧ w.cell? ⟨b, off + i, none⟩ = some (.int .u8 x.toNat) := by
  intro i hil
  obtain ⟨b, off, es, hA', hb, hel, hcell, hrd⟩ := hi i hil
  obtain ⟨n, rfl, hw⟩ := hrd.int_ he
  refine ⟨UInt8.ofNat n.toNat, fun b' off' e => ?_⟩
  rw [hA'] at e
  obtain ⟨rfl, rfl⟩ : b = b' ∧ off = off' := by simpa using e
  have := hcell 0 (by omega)
  rw [hc] at this
  simp only [Nat.mul_one, Nat.add_zero] at this
  refine ⟨hb, this.trans ?_⟩
  have hb' : 0 ≤ n ∧ n ≤ 255 := by simpa [Lit.wf, IntKind.min, IntKind.max, IntKind.signed, IntKind.bits] using hw
  simp
  omega
 obtain ⟨f, hf⟩ := choose_lt (α := UInt8) hx
 refine ⟨A, cap, (List.range len).map f, by simp, by simpa using hl, hm, hA, ?_⟩
 by_cases h0 : len = 0
 ·left; subst h0; simp [byteVals]
 ·obtain ⟨b, off, _, hA', hb, _⟩ := hi 0 (by omega)
  refine .inr ⟨_, hA', hb, fun j u hu => ?_⟩
  have hj : j < len := by
   rcases Nat.lt_or_ge j len with h | h
   ·exact h
   ·rw [List.getElem?_eq_none (by simpa [byteVals] using h)] at hu; cases hu
  have hadd : (⟨b, off, none⟩ : Addr).add j = ⟨b, off + j, none⟩ := by unfold Addr.add; split <;> simp_all
  rw [hadd, (hf j hj b off hA').2]
  simp [byteVals, hj] at hu
  rw [← hu]
end
end Go.Proofs.YtfbmogccmlikaaaGreatDoor
