/-
  Read, Arg, MyB, ErR, NwP: several small texts in one. No conditions.
-/
import Derived.Test.YtgcalmefijmhaaaGreatDoorBase
import Derived.ProofKit
import Derived.OpenShut
import Derived.ShutString
import Derived.ChangeOld
import Derived.Deep.Slices
import Derived.Test.YtgcalmefijmhaaaGreatDoorRows
import Derived.Test.YtgcalmefijmhaaaGreatDoorOwn
import Derived.Test.YtgcalmefijmhaaaGreatDoorGh
namespace Go.Proofs.YtgcalmefijmhaaaGreatDoor
open Go.ChangeShapes Go.WideShapes Go.ChangeAt Go.RowKit Go.Deep
set_option linter.unusedVariables false
set_option linter.unusedSimpArgs false
section
variable {H : Type} {enc : TypeId × Value → H} {P : Program} {w : World} {base : Nat} {spare : Nat → Bool} {held : Bool}

def Rd (enc : TypeId × Value → H) (P : Program) (w : World) (base : Nat) (spare : Nat → Bool) (held : Bool) (t : TypeId) (cs : List Value) : Prop :=
  ∃ fuel x, DataW.trod enc P w base spare held fuel t cs = some x

theorem Rd.of_trod {t : TypeId} {v : Value} {d : DataW H} {p : List MemPlace} (h : DataW.Trod enc P w base spare held t v d p) : Rd enc P w base spare held t v.cells.toList := by
  obtain ⟨fuel, hf⟩ := h
  exact ⟨fuel, _, hf⟩

theorem Rd.int_ {t : TypeId} {cs : List Value} {k : IntKind} (ht : P.underlying t = some (.int k)) (h : Rd enc P w base spare held t cs) : ∃ n, cs = [.int k n] ∧ (Lit.int k n).wf = true := by
  obtain ⟨fuel, x, hx⟩ := h
  obtain ⟨n, h1, _, h3⟩ := DataW.trod_int ht hx
  exact ⟨n, h1, h3⟩
theorem Rd.bool_ {t : TypeId} {cs : List Value} (ht : P.underlying t = some .bool) (h : Rd enc P w base spare held t cs) : ∃ b, cs = [.bool b] := by
  obtain ⟨fuel, x, hx⟩ := h
  obtain ⟨n, h1, _⟩ := DataW.trod_bool ht hx
  exact ⟨n, h1⟩
theorem Rd.string_ {t : TypeId} {cs : List Value} (ht : P.underlying t = some .string) (h : Rd enc P w base spare held t cs) : ∃ s : ByteArray, cs = [.string s] ∧ s.size ≤ maxLen := by
  obtain ⟨fuel, x, hx⟩ := h
  obtain ⟨n, h1, _, h3⟩ := DataW.trod_string ht hx
  exact ⟨n, h1, h3⟩
theorem Rd.struct_ {t : TypeId} {fs : Array Field} {cs : List Value} (ht : P.underlying t = some (.struct fs)) (h : Rd enc P w base spare held t cs) :
    cs.length = P.cellsOf t ∧ ∀ (i : Nat) (f : Field), fs[i]? = some f → Rd enc P w base spare held f.type ((cs.drop f.offset).take (P.cellsOf f.type)) := by
  obtain ⟨fuel, x, hx⟩ := h
  obtain ⟨xs, n, _, _, hl, hxs, hf⟩ := DataW.trod_struct ht hx
  refine ⟨hl, fun i f hi => ?_⟩
  have h1 : i < xs.length := by rw [hxs]; exact (Array.getElem?_eq_some_iff.1 hi).1
  exact ⟨n, xs[i], by rw [hf i f hi]; exact List.getElem?_eq_getElem h1⟩
theorem Rd.slice_ {t e : TypeId} {cs : List Value} (ht : P.underlying t = some (.slice e)) (hc : 0 < P.cellsOf e) (h : Rd enc P w base spare held t cs) :
    ∃ A len cap, cs = [.slice A len cap] ∧ len ≤ cap ∧ cap ≤ maxLen ∧ (A = none → cap = 0) ∧
      ∀ i, i < len → ∃ b off es, A = some ⟨b, off, none⟩ ∧ b < w.heap.size ∧ es.length = P.cellsOf e ∧ (∀ j, j < P.cellsOf e → w.cell? ⟨b, off + i * P.cellsOf e + j, none⟩ = es[j]?) ∧ Rd enc P w base spare held e es := by
  obtain ⟨fuel, x, hx⟩ := h
  rcases open_slice ht hx with ⟨rfl, _⟩ | ⟨a, len, cap, m, n, D, Pl, rfl, hb, hl, hm, hmm, _, hi⟩
  · exact ⟨none, 0, 0, rfl, Nat.le_refl _, by simp, fun _ => rfl, fun i hi => absurd hi (by omega)⟩
  · refine ⟨some a, len, cap, rfl, hl, hm, by simp, fun i hil => ?_⟩
    have hlm : len ≤ m := by rw [hmm]; split <;> omega
    obtain ⟨es, h1, h2⟩ := hi i (by omega)
    obtain ⟨es0, g1, g2⟩ := hi 0 (by omega)
    obtain ⟨_, h3, h4⟩ := World.cells?_some h1
    obtain ⟨_, g3, g4⟩ := World.cells?_some g1
    have hc0 := g4 0 hc
    rw [Nat.zero_mul] at hc0
    have ha0 : (a.add 0).add 0 = a := by simp [Addr.add]
    rw [ha0] at hc0
    have hsome : w.cell? a = some (es0[0]'(by omega)) := by rw [hc0]; exact List.getElem?_eq_getElem (by omega)
    have hlt := World.block_lt_of_cell? w a hsome
    obtain ⟨b, off, spot⟩ := a
    have hsp : spot = none := by
      cases spot with
      | none => rfl
      | some s =>
        exfalso
        unfold World.cell? at hsome
        split at hsome
        · simp at hsome
        · cases hsome
    subst hsp
    refine ⟨b, off, es, rfl, hlt, h3, fun j hj => ?_, ⟨n, _, h2⟩⟩
    rw [← h4 j hj, add_add_]
    congr 1
    unfold Addr.add
    split <;> simp_all [Nat.add_assoc]
end

section
variable {H : Type} {enc : TypeId × Value → H} {P : Program} {w : World} {base base' : Nat} {spare : Nat → Bool} {held : Bool} {r : Reach}
theorem arg_int {t : TypeId} {v : Value} {d : DataW H} {p : List MemPlace} {k : IntKind} (ht : P.underlying t = some (.int k)) (hv : Value.okWide P w r base' t v) (h : DataW.Trod enc P w base spare held t v d p) : ∃ n, v = .int k n ∧ (Lit.int k n).wf = true := by
  obtain ⟨n, rfl, _, _, h3⟩ := open_int ht hv h
  exact ⟨n, rfl, h3⟩
theorem arg_bool {t : TypeId} {v : Value} {d : DataW H} {p : List MemPlace} (ht : P.underlying t = some .bool) (hv : Value.okWide P w r base' t v) (h : DataW.Trod enc P w base spare held t v d p) : ∃ n, v = .bool n := by
  obtain ⟨n, rfl, _⟩ := open_bool ht hv h
  exact ⟨n, rfl⟩
theorem arg_string {t : TypeId} {v : Value} {d : DataW H} {p : List MemPlace} (ht : P.underlying t = some .string) (hv : Value.okWide P w r base' t v) (h : DataW.Trod enc P w base spare held t v d p) : ∃ s : ByteArray, v = .string s ∧ s.size ≤ maxLen := by
  obtain ⟨s, rfl, _, _, h3⟩ := Go.ChangeMaps.open_string ht hv h
  exact ⟨s, rfl, h3⟩
theorem arg_slice {t e : TypeId} {v : Value} {d : DataW H} {p : List MemPlace} (ht : P.underlying t = some (.slice e)) (hc : 0 < P.cellsOf e) (hv : Value.okWide P w r base' t v) (h : DataW.Trod enc P w base spare held t v d p) :
    ∃ A len cap, v = .slice A len cap ∧ len ≤ cap ∧ cap ≤ maxLen ∧ (A = none → cap = 0) ∧
      ∀ i, i < len → ∃ b off es, A = some ⟨b, off, none⟩ ∧ b < w.heap.size ∧ es.length = P.cellsOf e ∧ (∀ j, j < P.cellsOf e → w.cell? ⟨b, off + i * P.cellsOf e + j, none⟩ = es[j]?) ∧ Rd enc P w base spare held e es := by
  obtain ⟨A, len, cap, rfl⟩ := okWide_slice ht hv
  obtain ⟨A', len', cap', h1, h2⟩ := (Rd.of_trod h).slice_ ht hc
  simp [Value.cells] at h1
  obtain ⟨rfl, rfl, rfl⟩ := h1
  exact ⟨_, _, _, rfl, h2⟩
theorem Rd.bytes_ {t e : TypeId} {cs : List Value} (ht : P.underlying t = some (.slice e)) (he : P.underlying e = some (.int .u8)) (hc : P.cellsOf e = 1) (h : Rd enc P w base spare held t cs) :
    ∃ A cap bs, cs = [.slice A bs.length cap] ∧ bs.length ≤ cap ∧ cap ≤ maxLen ∧ (A = none → cap = 0) ∧ Bytes w A bs := by
  obtain ⟨A, len, cap, rfl, hl, hm, hA, hi⟩ := h.slice_ ht (by omega)
  have hx : ∀ i, i < len → ∃ x : UInt8, ∀ b off, A = some ⟨b, off, none⟩ → b < w.heap.size ∧ w.cell? ⟨b, off + i, none⟩ = some (.int .u8 x.toNat) := by
    intro i hil
    obtain ⟨b, off, es, hA', hb, hel, hcell, hrd⟩ := hi i hil
    obtain ⟨n, rfl, hw⟩ := hrd.int_ he
    refine ⟨UInt8.ofNat n.toNat, fun b' off' e => ?_⟩
    rw [hA'] at e
    obtain ⟨rfl, rfl⟩ : b = b' ∧ off = off' := by simpa using e
    have := hcell 0 (by omega)
    rw [hc] at this
    simp only [Nat.mul_one, Nat.add_zero] at this
    refine ⟨hb, this.trans ?_⟩
    have hb' : 0 ≤ n ∧ n ≤ 255 := by simpa [Lit.wf, IntKind.min, IntKind.max, IntKind.signed, IntKind.bits] using hw
    simp
    omega
  obtain ⟨f, hf⟩ := choose_lt (α := UInt8) hx
  refine ⟨A, cap, (List.range len).map f, by simp, by simpa using hl, hm, hA, ?_⟩
  by_cases h0 : len = 0
  · left; subst h0; simp [byteVals]
  · obtain ⟨b, off, _, hA', hb, _⟩ := hi 0 (by omega)
    refine .inr ⟨_, hA', hb, fun j u hu => ?_⟩
    have hj : j < len := by
      rcases Nat.lt_or_ge j len with h | h
      · exact h
      · rw [List.getElem?_eq_none (by simpa [byteVals] using h)] at hu; cases hu
    have hadd : (⟨b, off, none⟩ : Addr).add j = ⟨b, off + j, none⟩ := by unfold Addr.add; split <;> simp_all
    rw [hadd, (hf j hj b off hA').2]
    simp [byteVals, hj] at hu
    rw [← hu]
end
end Go.Proofs.YtgcalmefijmhaaaGreatDoor
namespace Go.Proofs.YtgcalmefijmhaaaGreatDoor
open Go.RowKit
set_option linter.unusedVariables false
set_option linter.unusedSimpArgs false

theorem u8c : Tryz.prog.cellsOf 5 = 1 := by kernel_rfl
set_option maxRecDepth 100000 in
theorem arg_bytes {H : Type} {enc : TypeId × Value → H} {w : World} {base base' : Nat} {spare : Nat → Bool} {held : Bool} {r : Reach} {v : Value} {d : DataW H} {p : List MemPlace}
    (hv : Value.okWide Tryz.prog w r base' 22 v) (h : DataW.Trod enc Tryz.prog w base spare held 22 v d p) :
    ∃ (A : Option Addr) (c : Nat) (bs : List UInt8), v = .slice A bs.length c ∧ bs.length ≤ c ∧ c ≤ maxLen ∧ (A = none → c = 0) ∧ Bytes w A bs := by
  obtain ⟨A, n, c, rfl, h1, h2, h3, hi⟩ := arg_slice Tryz.underlying22 (by rw [u8c]; omega) hv h
  obtain ⟨A', c', bs, hbs, g1, g2, g3, g4⟩ := (Rd.of_trod h).bytes_ Tryz.underlying22 Tryz.underlying5 u8c
  have : (Value.slice A n c).cells.toList = [Value.slice A n c] := rfl
  rw [this] at hbs
  injection hbs with hbs
  injection hbs with e1 e2 e3
  subst e1 e2 e3
  exact ⟨A, c, bs, rfl, g1, g2, g3, g4⟩
set_option maxRecDepth 100000 in
theorem arg_lt {w : World} {b : Nat} {a : Addr} {n c : Nat} (hv : Value.okWide Tryz.prog w .any b 22 (.slice (some a) n c)) : a.block < w.heap.size := by
  have h : World.has Tryz.prog w .any b a 5 c := by
    unfold Value.okWide at hv
    rw [Tryz.underlying22] at hv
    have hv' : Cell.okWide Tryz.prog w .any b 22 (.slice (some a) n c) := hv
    unfold Cell.okWide at hv'
    rw [Tryz.underlying22] at hv'
    have hv2 : Cell.ok Tryz.prog w .any b 22 (.slice (some a) n c) := hv'
    unfold Cell.ok at hv2
    rw [Tryz.underlying22] at hv2
    exact hv2.2.2
  obtain ⟨-, -, row, cells, hs, -⟩ := h
  unfold World.shape? at hs
  rcases Nat.lt_or_ge a.block w.heap.size with h' | h'
  · exact h'
  · rw [Array.getElem?_eq_none h'] at hs; cases hs
end Go.Proofs.YtgcalmefijmhaaaGreatDoor
namespace Go.Proofs.YtgcalmefijmhaaaGreatDoor
open Go.RowKit
set_option linter.unusedVariables false
set_option linter.unusedSimpArgs false

def MyB (w wr : World) (v : Value) (bs : List UInt8) : Prop := Own wr 5 v (byteVals bs) ∧ (∀ b, v.ownBlock = some b → w.heap.size ≤ b) ∧ Fr [] w wr
theorem MyB.snoc {w wr w' : World} {v v' : Value} {bs : List UInt8} {x : UInt8} {O : Obj} (h : MyB w wr v bs) (h1 : Own w' 5 v' (byteVals bs ++ [.int .u8 (x.toNat : Int)])) (h2 : (wr.alloc O).grownBy w' v.ownBlock)
    (h3 : v'.ownBlock = v.ownBlock ∨ v'.ownBlock = some (wr.alloc O).heap.size) : MyB w w' v' (bs ++ [x]) := by
  obtain ⟨-, k2, k3⟩ := h
  refine ⟨by rw [byteVals_append]; exact h1, fun b hb => ?_, (k3.alloc O).grown h2 (fun g hg => .inr (k2 g hg))⟩
  rcases h3 with h3 | h3
  · exact k2 b (by rw [← h3]; exact hb)
  · rw [h3] at hb; injection hb with hb
    have := k3.size
    simp at hb; omega
theorem one_byte (w : World) (x : Int) : At (w.alloc (.cells #[.int .u8 x] 5)) (some ⟨w.heap.size, 0, none⟩) [.int .u8 x] :=
  At.of_bk (n := 1) (Bk.new w 5 #[.int .u8 x]) (by simp)
theorem MyB.cat {w wr w' : World} {v v' : Value} {bs cs : List UInt8} (h : MyB w wr v bs) (h1 : Own w' 5 v' (byteVals bs ++ byteVals cs)) (h2 : wr.grownBy w' v.ownBlock) (h3 : v'.ownBlock = v.ownBlock ∨ v'.ownBlock = some wr.heap.size) : MyB w w' v' (bs ++ cs) := by
  obtain ⟨-, k2, k3⟩ := h
  refine ⟨by rw [byteVals_append]; exact h1, fun b hb => ?_, k3.grown h2 (fun g hg => .inr (k2 g hg))⟩
  rcases h3 with h3 | h3
  · exact k2 b (by rw [← h3]; exact hb)
  · rw [h3] at hb; injection hb with hb
    have := k3.size
    omega
theorem len_ok (xs : List UInt8) (m : Nat) {bytes : Nat} (hb : bytes = 1) (hx : xs.length + m ≤ 1000) : (byteVals xs).length + m ≤ maxLen ∧ ((byteVals xs).length + m) * bytes ≤ 140737488355328 := by
  rw [byteVals_length, hb]; unfold maxLen; omega
theorem MyB.alloc {w wr : World} {v : Value} {bs : List UInt8} (h : MyB w wr v bs) (O : Obj) : MyB w (wr.alloc O) v bs :=
  ⟨h.1.fr ((Fr.refl [] wr).alloc O) (by simp), h.2.1, h.2.2.alloc O⟩
theorem own_new (w : World) (bs : List UInt8) (hl : bs.length ≤ maxLen) : MyB w (w.alloc (.cells (byteVals bs).toArray 5)) (.slice (some ⟨w.heap.size, 0, none⟩) bs.length bs.length) bs := by
  refine ⟨⟨_, bs.length, by rw [byteVals_length], by rw [byteVals_length]; exact Nat.le_refl _, hl, .inr ⟨w.heap.size, 0, (byteVals bs).toArray, rfl, heap_alloc_new w _, by simp [byteVals], by simp⟩⟩, fun b hb => ?_, (Fr.refl [] w).alloc _⟩
  simp [Value.ownBlock] at hb; omega
theorem MyB.form {w wr : World} {v : Value} {bs : List UInt8} (h : MyB w wr v bs) : ∃ A c, v = .slice A (byteVals bs).length c ∧ Bytes wr A bs ∧ (byteVals bs).length ≤ c ∧ c ≤ maxLen ∧ (A = none → c = 0) ∧ Fr [] w wr := by
  obtain ⟨A, c, hv, hat, h1, h2, h3, -⟩ := h.1.at_
  exact ⟨A, c, hv, hat, h1, h2, h3, h.2.2⟩
end Go.Proofs.YtgcalmefijmhaaaGreatDoor
namespace Go.Proofs.YtgcalmefijmhaaaGreatDoor
open Go.RowKit
set_option linter.unusedVariables false
set_option linter.unusedSimpArgs false

mutual
def rightT : RT → Bool | .mk k _ mn mx l => rightK k mn mx l.length && (if inner k then rightTL l else true)
def rightTL : List RT → Bool | [] => true | t :: r => rightT t && rightTL r
end
mutual
def cntT : RT → Nat | .mk _ _ _ _ l => cntTL l + 1
def cntTL : List RT → Nat | [] => 0 | t :: r => cntT t + cntTL r
end
mutual
theorem RepP.right : ∀ (t : RT) (p : PT), RepP t p → rightP p = rightT t
  | .mk k s mn mx l, p, h => by
    rw [RepP] at h
    obtain ⟨h1, -, -, -, -, h6, h7, h8⟩ := h
    rw [rightP_eq, rightT, h1, h6, h7, h8.len, RepL.right l p.l h8]
theorem RepL.right : ∀ (ts : List RT) (ps : List PT), RepL ts ps → rightL ps = rightTL ts
  | [], ps, h => by rw [RepL_nil] at h; subst h; rw [rightL, rightTL]
  | t :: r, [], h => by rw [RepL] at h; exact h.elim
  | t :: r, p :: ps, h => by rw [RepL_cons] at h; rw [rightL, rightTL, RepP.right t p h.1, RepL.right r ps h.2]
end
mutual
theorem RepP.cnt : ∀ (t : RT) (p : PT), RepP t p → cntP p = cntT t
  | .mk k s mn mx l, p, h => by
    rw [RepP] at h
    rw [cntP_eq, cntT, RepL.cnt l p.l h.2.2.2.2.2.2.2]
theorem RepL.cnt : ∀ (ts : List RT) (ps : List PT), RepL ts ps → cntL ps = cntTL ts
  | [], ps, h => by rw [RepL_nil] at h; subst h; rw [cntL, cntTL]
  | t :: r, [], h => by rw [RepL] at h; exact h.elim
  | t :: r, p :: ps, h => by rw [RepL_cons] at h; rw [cntL, cntTL, RepP.cnt t p h.1, RepL.cnt r ps h.2]
end
theorem rightTL_append : ∀ (a b : List RT), rightTL (a ++ b) = (rightTL a && rightTL b)
  | [], b => by rw [rightTL]; rfl
  | t :: r, b => by rw [List.cons_append, rightTL, rightTL_append r b, rightTL, Bool.and_assoc]
theorem cntTL_append : ∀ (a b : List RT), cntTL (a ++ b) = cntTL a + cntTL b
  | [], b => by rw [cntTL]; simp
  | t :: r, b => by rw [List.cons_append, cntTL, cntTL_append r b, cntTL]; omega
theorem rightTL_one (t : RT) : rightTL [t] = rightT t := by rw [rightTL, rightTL, Bool.and_true]
theorem cntTL_one (t : RT) : cntTL [t] = cntT t := by rw [cntTL, cntTL]; omega
theorem right_leaf (k : Int) (s : S4) (h : k = 0 ∨ k = 1 ∨ k = 5 ∨ k = 6) : rightT (.mk k s 0 0 []) = true := by
  rcases h with rfl | rfl | rfl | rfl <;> (rw [rightT]; simp [rightK, inner])
theorem right_row {l : List RT} (h : rightTL l = true) : rightT (rowT l) = true := by
  match l, h with
  | [], h => exact right_leaf 0 _ (.inl rfl)
  | [t], h => rw [rightTL_one] at h; exact h
  | a :: b :: r, h => show rightT (.mk 2 S4.empty 0 0 (a :: b :: r)) = true; rw [rightT, h]; simp [rightK, inner]
theorem right_join {l : List RT} (h : rightTL l = true) (hl : l ≠ []) : rightT (joinT l) = true := by
  match l, h, hl with
  | [t], h, _ => rw [rightTL_one] at h; exact h
  | a :: b :: r, h, _ => show rightT (.mk 3 S4.empty 0 0 (a :: b :: r)) = true; rw [rightT, h]; simp [rightK, inner]
theorem intervalT_range (l : List UInt8) (v n : Nat) : 0 ≤ (intervalT l v n).1 ∧ -1 ≤ (intervalT l v n).2.1 := by
  unfold intervalT
  (repeat' split) <;> simp <;> omega
theorem signS_range (bs : List UInt8) (i : Nat) : 0 ≤ (signS bs i).1 ∧ -1 ≤ (signS bs i).2.1 := by
  unfold signS
  split
  · simp
  · split
    · simp
    · split
      · simp
      · split
        · exact intervalT_range _ _ _
        · simp
theorem right_times {bs : List UInt8} {i : Nat} {t : RT} (ht : rightT t = true) (hb : badS (signS bs i) ≠ true) : rightT (tTimes (signS bs i).1 (signS bs i).2.1 t) = true := by
  obtain ⟨h1, h2⟩ := signS_range bs i
  generalize signS bs i = g at *
  obtain ⟨a, b, n⟩ := g
  unfold badS at hb
  simp at hb h1 h2
  obtain ⟨b1, b2, b3⟩ := hb
  unfold tTimes
  rw [rightT, rightTL_one, ht]
  simp [rightK, inner]
  refine ⟨h1, by omega, by omega, by omega, ?_⟩
  by_cases hb1 : b = -1
  · left; omega
  · right
    have := b3 hb1
    omega
theorem signs_good {bs : List UInt8} : ∀ (k : Nat) (t : RT) (i : Nat) (t' : RT) (j : Nat), rightT t = true → signsL bs k t i = .ok (t', j) → rightT t' = true ∧ cntT t' + 2 * i ≤ cntT t + 2 * j
  | 0, t, i, t', j, ht, h => by
    rw [signsL] at h
    split at h
    · injection h with h; injection h with h1 h2; subst h1 h2; exact ⟨ht, Nat.le_refl _⟩
    · split at h <;> cases h
  | k + 1, t, i, t', j, ht, h => by
    rw [signsL] at h
    split at h
    · injection h with h; injection h with h1 h2; subst h1 h2; exact ⟨ht, Nat.le_refl _⟩
    · rename_i h0
      split at h
      · cases h
      · rename_i hb
        have ih := signs_good k _ _ _ _ (right_times ht hb) h
        refine ⟨ih.1, ?_⟩
        have h3 := ih.2
        unfold tTimes at h3
        rw [cntT, cntTL_one] at h3
        omega
theorem plain_good {bs : List UInt8} {i j : Nat} {t : RT} (hi : i < bs.length) (h : plainS bs i = .ok (t, j)) : rightT t = true ∧ cntT t = 1 := by
  have leaf : ∀ (k : Int) (s : S4), (k = 0 ∨ k = 1 ∨ k = 5 ∨ k = 6) → rightT (.mk k s 0 0 []) = true ∧ cntT (.mk k s 0 0 []) = 1 := fun k s hk => ⟨right_leaf k s hk, by rw [cntT, cntTL]⟩
  unfold plainS at h
  split at h
  · cases h
  · split at h
    · cases hb : bracketS bs i with
      | error p => rw [hb] at h; cases h
      | ok p =>
        obtain ⟨S, n⟩ := p
        rw [hb] at h
        simp only [setR] at h
        injection h with h; injection h with h1 h2; rw [← h1]; exact leaf _ _ (by omega)
    · (repeat' split at h) <;> first | (injection h with h; injection h with h1 h2; rw [← h1]; exact leaf _ _ (by omega)) | cases h
theorem read_good (bs : List UInt8) : ∀ f : Nat,
    (∀ d i acc t j, i ≤ bs.length → rightTL acc = true → exprF bs f d i acc = .ok (t, j) → rightT t = true ∧ ∀ i0, i0 ≤ i → cntTL acc + acc.length + 2 * i0 ≤ 2 * i → cntT t + 2 * i0 ≤ 2 * j + 1) ∧
    (∀ d i acc t j, i ≤ bs.length → rightTL acc = true → branchF bs f d i acc = .ok (t, j) → rightT t = true ∧ ∀ i0, i0 ≤ i → cntTL acc + acc.length + 2 * i0 ≤ 2 * i → cntT t + 2 * i0 ≤ 2 * j + 1) ∧
    (∀ d i t j, i < bs.length → pieceF bs f d i = .ok (t, j) → rightT t = true ∧ cntT t + 1 + 2 * i ≤ 2 * j) ∧
    (∀ d i t j, i < bs.length → atomF bs f d i = .ok (t, j) → rightT t = true ∧ cntT t + 1 + 2 * i ≤ 2 * j)
  | 0 => ⟨fun _ _ _ _ _ _ _ h => (by rw [exprF] at h; cases h), fun _ _ _ _ _ _ _ h => (by rw [branchF] at h; cases h), fun _ _ _ _ _ h => (by rw [pieceF] at h; cases h), fun _ _ _ _ _ h => (by rw [atomF] at h; cases h)⟩
  | f + 1 => by
    obtain ⟨hE, hB, hP, hA⟩ := read_good bs f
    obtain ⟨-, lB, lP, lA⟩ := readF_le bs f
    refine ⟨fun d i acc t j hi hr h => ?_, fun d i acc t j hi hr h => ?_, fun d i t j hi h => ?_, fun d i t j hi h => ?_⟩
    · rw [exprF] at h
      cases hb : branchF bs f d i [] with
      | error p => rw [hb] at h; cases h
      | ok p =>
        obtain ⟨t1, j1⟩ := p
        rw [hb] at h
        simp only at h
        have h1 := lB d i [] t1 j1 hi hb
        obtain ⟨g1, g2⟩ := hB d i [] t1 j1 hi (by rw [rightTL]) hb
        have g3 := g2 i (Nat.le_refl _) (by rw [cntTL]; simp)
        have hr' : rightTL (acc ++ [t1]) = true := by rw [rightTL_append, hr, rightTL_one, g1]; rfl
        by_cases h124 : bn bs j1 = 124
        · rw [if_pos h124] at h
          have := bn_pos h124 (by omega)
          obtain ⟨k1, k2⟩ := hE d (j1 + 1) _ t j (by omega) hr' h
          refine ⟨k1, fun i0 hi0 hc => k2 i0 (by omega) ?_⟩
          rw [cntTL_append, cntTL_one, List.length_append]
          simp; omega
        · rw [if_neg h124] at h
          injection h with h; injection h with h2 h3
          subst h2 h3
          refine ⟨right_join hr' (by simp), fun i0 hi0 hc => ?_⟩
          match acc, hc with
          | [], hc =>
            show cntT t1 + 2 * i0 ≤ _
            rw [cntTL] at hc
            simp at hc; omega
          | a :: r, hc =>
            have hj : joinT (a :: r ++ [t1]) = .mk 3 S4.empty 0 0 (a :: r ++ [t1]) := by
              match r with
              | [] => rfl
              | b :: r => rfl
            rw [hj, cntT, cntTL_append, cntTL_one]
            simp at hc ⊢; omega
    · rw [branchF] at h
      by_cases hg : goesOn bs i
      · rw [if_pos hg] at h
        cases hb : pieceF bs f d i with
        | error p => rw [hb] at h; cases h
        | ok p =>
          obtain ⟨t1, j1⟩ := p
          rw [hb] at h
          have h1 := lP d i t1 j1 hg.1 hb
          obtain ⟨g1, g2⟩ := hP d i t1 j1 hg.1 hb
          have hr' : rightTL (acc ++ [t1]) = true := by rw [rightTL_append, hr, rightTL_one, g1]; rfl
          obtain ⟨k1, k2⟩ := hB d j1 _ t j h1.2 hr' h
          refine ⟨k1, fun i0 hi0 hc => k2 i0 (by omega) ?_⟩
          rw [cntTL_append, cntTL_one, List.length_append]
          simp; omega
      · rw [if_neg hg] at h
        injection h with h; injection h with h2 h3
        subst h2 h3
        refine ⟨right_row hr, fun i0 hi0 hc => ?_⟩
        match acc, hc with
        | [], hc => show cntT tNone + 2 * i0 ≤ _; unfold tNone; rw [cntT, cntTL]; omega
        | [a], hc => show cntT a + 2 * i0 ≤ _; rw [cntTL_one] at hc; simp at hc; omega
        | a :: b :: r, hc =>
          show cntT (.mk 2 S4.empty 0 0 (a :: b :: r)) + 2 * i0 ≤ _
          rw [cntT]
          simp at hc; omega
    · rw [pieceF] at h
      cases hb : atomF bs f d i with
      | error p => rw [hb] at h; cases h
      | ok p =>
        obtain ⟨t1, j1⟩ := p
        rw [hb] at h
        obtain ⟨g1, g2⟩ := hA d i t1 j1 hi hb
        obtain ⟨k1, k2⟩ := signs_good 8 t1 j1 t j g1 h
        exact ⟨k1, by omega⟩
    · rw [atomF] at h
      split at h
      · split at h
        · cases h
        · cases hb : exprF bs f (d + 1) (i + 1) [] with
          | error p => rw [hb] at h; cases h
          | ok p =>
            obtain ⟨t1, j1⟩ := p
            rw [hb] at h
            simp only [closeT] at h
            split at h
            · injection h with h; injection h with h2 h3
              subst h2 h3
              obtain ⟨g1, g2⟩ := hE (d + 1) (i + 1) [] t1 j1 (by omega) (by rw [rightTL]) hb
              have g3 := g2 (i + 1) (Nat.le_refl _) (by rw [cntTL]; simp)
              exact ⟨g1, by omega⟩
            · cases h
      · obtain ⟨g1, g2⟩ := plain_good hi h
        have := plainS_le hi h
        exact ⟨g1, by omega⟩
theorem parse_good {bs : List UInt8} {t : RT} (h : parseS bs = .ok t) : rightT t = true ∧ cntT t ≤ 2 * bs.length + 1 := by
  unfold parseS at h
  by_cases h1 : 1000 < bs.length
  · rw [if_pos h1] at h; cases h
  · rw [if_neg h1] at h
    cases hb : exprF bs (6 * bs.length + 5) 0 0 [] with
    | error q => rw [hb] at h; cases h
    | ok q =>
      obtain ⟨t1, j⟩ := q
      rw [hb] at h
      simp only at h
      have hle := (readF_le bs _).1 0 0 [] t1 j (Nat.zero_le _) hb
      obtain ⟨g1, g2⟩ := (read_good bs _).1 0 0 [] t1 j (Nat.zero_le _) (by rw [rightTL]) hb
      have g3 := g2 0 (Nat.le_refl _) (by rw [cntTL]; simp)
      by_cases h2 : j < bs.length
      · rw [if_pos h2] at h; cases h
      · rw [if_neg h2] at h
        injection h with h
        subst h
        exact ⟨g1, by omega⟩
end Go.Proofs.YtgcalmefijmhaaaGreatDoor
namespace Go.Proofs.YtgcalmefijmhaaaGreatDoor
set_option linter.unusedVariables false
set_option linter.unusedSimpArgs false

def NwCd (c : Nat) : Prop := 1 ≤ c ∧ c ≤ 25
theorem nw_cd_err {α : Type} {q : Nat × Nat} {p c : Nat} (h : (Except.error q : Except (Nat × Nat) α) = .error (p, c)) (hq : NwCd q.2) : NwCd c := by
  injection h with h; subst h; exact hq
theorem nw_member_code {bs : List UInt8} {i p c : Nat} (h : memberS bs i = .error (p, c)) : NwCd c := by
  unfold memberS at h
  (repeat' split at h) <;> first | (exact nw_cd_err h (by unfold NwCd; omega)) | (exact nw_cd_err h (by constructor <;> (dsimp only; omega))) | cases h
theorem nw_brkL_code {bs : List UInt8} {first : Nat} : ∀ (k nx : Nat) (S : S4) (p c : Nat), brkL bs first k nx S = .error (p, c) → NwCd c
  | 0, nx, S, p, c, h => by unfold brkL at h; cases h
  | k + 1, nx, S, p, c, h => by
    unfold brkL at h
    split at h
    · cases hm : memberS bs nx with
      | error q =>
        rw [hm] at h
        obtain ⟨q1, q2⟩ := q
        exact nw_cd_err h (nw_member_code hm)
      | ok q =>
        obtain ⟨R, n⟩ := q
        rw [hm] at h
        exact nw_brkL_code k n _ p c h
    · cases h
theorem nw_brkE_code {neg : Bool} {i p c : Nat} {r : Except (Nat × Nat) (S4 × Nat)} (h : brkE neg i r = .error (p, c)) : r = .error (p, c) := by
  cases r with
  | error q => simpa [brkE] using h
  | ok q => obtain ⟨S, m⟩ := q; simp [brkE] at h
theorem nw_bracket_code {bs : List UInt8} {i p c : Nat} (h : bracketS bs i = .error (p, c)) : NwCd c := by
  unfold bracketS at h
  split at h
  · exact nw_brkL_code _ _ _ _ _ (nw_brkE_code h)
  · exact nw_brkL_code _ _ _ _ _ (nw_brkE_code h)
theorem nw_plain_code {bs : List UInt8} {i p c : Nat} (h : plainS bs i = .error (p, c)) : NwCd c := by
  unfold plainS at h
  split at h
  · exact nw_cd_err h (by constructor <;> (dsimp only; omega))
  · split at h
    · cases hb : bracketS bs i with
      | error q =>
        rw [hb] at h
        obtain ⟨q1, q2⟩ := q
        exact nw_cd_err h (nw_bracket_code hb)
      | ok q =>
        obtain ⟨S, n⟩ := q
        rw [hb] at h
        simp [setR] at h
    · (repeat' split at h) <;> first | (exact nw_cd_err h (by constructor <;> (dsimp only; omega))) | (cases h; done)
theorem nw_signs_code {bs : List UInt8} : ∀ (k : Nat) (t : RT) (i p c : Nat), signsL bs k t i = .error (p, c) → NwCd c
  | 0, t, i, p, c, h => by
    unfold signsL at h
    (repeat' split at h) <;> first | (exact nw_cd_err h (by constructor <;> (dsimp only; omega))) | (cases h; done)
  | k + 1, t, i, p, c, h => by
    unfold signsL at h
    split at h
    · cases h
    · split at h
      · exact nw_cd_err h (by constructor <;> (dsimp only; omega))
      · exact nw_signs_code k _ _ p c h
theorem nw_readF_code (bs : List UInt8) : ∀ f : Nat,
    (∀ d i acc p c, i ≤ bs.length → 6 * (bs.length - i) + 5 ≤ f → exprF bs f d i acc = .error (p, c) → NwCd c) ∧
    (∀ d i acc p c, i ≤ bs.length → 6 * (bs.length - i) + 4 ≤ f → branchF bs f d i acc = .error (p, c) → NwCd c) ∧
    (∀ d i p c, i < bs.length → 6 * (bs.length - i) + 3 ≤ f → pieceF bs f d i = .error (p, c) → NwCd c) ∧
    (∀ d i p c, i < bs.length → 6 * (bs.length - i) + 2 ≤ f → atomF bs f d i = .error (p, c) → NwCd c)
  | 0 => ⟨fun _ _ _ _ _ _ h _ => by omega, fun _ _ _ _ _ _ h _ => by omega, fun _ _ _ _ _ h _ => by omega, fun _ _ _ _ _ h _ => by omega⟩
  | f + 1 => by
    obtain ⟨hE, hB, hP, hA⟩ := nw_readF_code bs f
    obtain ⟨lE, lB, lP, lA⟩ := readF_le bs f
    refine ⟨fun d i acc p c hi hf h => ?_, fun d i acc p c hi hf h => ?_, fun d i p c hi hf h => ?_, fun d i p c hi hf h => ?_⟩
    · unfold exprF at h
      cases hb : branchF bs f d i [] with
      | error q =>
        rw [hb] at h
        obtain ⟨q1, q2⟩ := q
        exact nw_cd_err h (hB d i [] q1 q2 hi (by omega) hb)
      | ok q =>
        obtain ⟨t1, j1⟩ := q
        rw [hb] at h
        have h1 := lB d i [] t1 j1 hi hb
        simp only at h
        split at h
        · rename_i h2
          have h3 := bn_pos h2 (by omega)
          exact hE d (j1 + 1) _ p c (by omega) (by omega) h
        · cases h
    · unfold branchF at h
      split at h
      · rename_i hg
        cases hb : pieceF bs f d i with
        | error q =>
          rw [hb] at h
          obtain ⟨q1, q2⟩ := q
          exact nw_cd_err h (hP d i q1 q2 hg.1 (by omega) hb)
        | ok q =>
          obtain ⟨t1, j1⟩ := q
          rw [hb] at h
          have h1 := lP d i t1 j1 hg.1 hb
          exact hB d j1 _ p c h1.2 (by omega) h
      · cases h
    · unfold pieceF at h
      cases hb : atomF bs f d i with
      | error q =>
        rw [hb] at h
        obtain ⟨q1, q2⟩ := q
        exact nw_cd_err h (hA d i q1 q2 hi (by omega) hb)
      | ok q =>
        obtain ⟨t1, j1⟩ := q
        rw [hb] at h
        exact nw_signs_code 8 t1 j1 p c h
    · unfold atomF at h
      split at h
      · split at h
        · exact nw_cd_err h (by constructor <;> (dsimp only; omega))
        · cases hb : exprF bs f (d + 1) (i + 1) [] with
          | error q =>
            rw [hb] at h
            obtain ⟨q1, q2⟩ := q
            exact nw_cd_err h (hE (d + 1) (i + 1) [] q1 q2 (by omega) (by omega) hb)
          | ok q =>
            obtain ⟨t1, j1⟩ := q
            rw [hb] at h
            unfold closeT at h
            simp only at h
            split at h
            · cases h
            · exact nw_cd_err h (by constructor <;> (dsimp only; omega))
      · exact nw_plain_code h
theorem nw_parse_code {bs : List UInt8} {p c : Nat} (h : parseS bs = .error (p, c)) : 1 ≤ c ∧ c ≤ 25 := by
  unfold parseS at h
  split at h
  · exact nw_cd_err h (by constructor <;> (dsimp only; omega))
  · cases hb : exprF bs (6 * bs.length + 5) 0 0 [] with
    | error q =>
      rw [hb] at h
      obtain ⟨q1, q2⟩ := q
      exact nw_cd_err h ((nw_readF_code bs _).1 0 0 [] q1 q2 (Nat.zero_le _) (by omega) hb)
    | ok q =>
      obtain ⟨t1, j1⟩ := q
      rw [hb] at h
      simp only at h
      split at h
      · exact nw_cd_err h (by constructor <;> (dsimp only; omega))
      · cases h
end Go.Proofs.YtgcalmefijmhaaaGreatDoor
