/-
  The acts of layer 19, as they are read. No conditions.
-/
import Derived.Test.YtphgpgdilipakaaRead
import Derived.Test.YtphgpgdilipakaaQuLaw
namespace Go.Proofs.Ytphgpgdilipakaa
open Go.ChangeShapes Go.WideShapes Go.ChangeAt Go.RowKit Go.Deep
set_option linter.unusedVariables false
set_option linter.unusedSimpArgs false

theorem act_cells : Try.prog.cellsOf 29 = 3 := by kernel_rfl
theorem u8_cells : Try.prog.cellsOf 5 = 1 := by kernel_rfl
theorem int_cells : Try.prog.cellsOf 3 = 1 := by kernel_rfl
theorem bytes_cells : Try.prog.cellsOf 27 = 1 := by kernel_rfl

theorem acts_open {H : Type} {enc : TypeId × Value → H} {w : World} {base base' : Nat} {spare : Nat → Bool} {held : Bool} {r : Reach} {v : Value} {d : DataW H} {p : List MemPlace}
    (hv : Value.okWide Try.prog w r base' 22 v) (h : DataW.Trod enc Try.prog w base spare held 22 v d p) :
    ∃ (A : Option Addr) (n c : Nat) (K N : Nat → Int) (BA : Nat → Option Addr) (BC : Nat → Nat) (BB : Nat → List UInt8), v = .slice A n c ∧ n ≤ maxLen ∧ (∀ i, i < n → (Lit.int .i64 (K i)).wf = true ∧ (Lit.int .i64 (N i)).wf = true) ∧ Acts w A n K N BA BC BB := by
  obtain ⟨A, n, c, rfl, h1, h2, h3, hi⟩ := arg_slice Try.underlying22 (by rw [act_cells]; omega) hv h
  rw [act_cells] at hi
  have hx : ∀ i, i < n → ∃ x : (Int × Int) × (Option Addr × Nat × List UInt8), ((Lit.int .i64 x.1.1).wf = true ∧ (Lit.int .i64 x.1.2).wf = true) ∧ ∃ b off, A = some ⟨b, off, none⟩ ∧ b < w.heap.size ∧ w.cell? ⟨b, off + i * 3, none⟩ = some (.int .i64 x.1.1) ∧ w.cell? ⟨b, off + i * 3 + 1, none⟩ = some (.int .i64 x.1.2) ∧
      w.cell? ⟨b, off + i * 3 + 2, none⟩ = some (.slice x.2.1 x.2.2.2.length x.2.2.1) ∧ Bytes w x.2.1 x.2.2.2 ∧ x.2.2.2.length ≤ maxLen := by
    intro i hil
    obtain ⟨b, off, es, hA, hb, hel, hcell, hrd⟩ := hi i hil
    obtain ⟨_, hf⟩ := hrd.struct_ Try.underlying29
    match es, hel with
    | [e0, e1, e2], _ =>
      obtain ⟨k, hk, wk⟩ := (hf 0 _ rfl).int_ Try.underlying3
      obtain ⟨m, hm, wm⟩ := (hf 1 _ rfl).int_ Try.underlying3
      obtain ⟨BA, BC, bs, hbs, g1, g2, g3, g4⟩ := (hf 2 _ rfl).bytes_ Try.underlying27 Try.underlying5 u8_cells
      simp [int_cells, bytes_cells] at hk hm hbs
      subst hk hm hbs
      have c0 := hcell 0 (by omega)
      have c1 := hcell 1 (by omega)
      have c2 := hcell 2 (by omega)
      exact ⟨((k, m), (BA, BC, bs)), ⟨wk, wm⟩, b, off, hA, hb, c0, c1, c2, g4, Nat.le_trans g1 g2⟩
  obtain ⟨f, hf⟩ := choose_lt (α := (Int × Int) × (Option Addr × Nat × List UInt8)) hx
  exact ⟨A, n, c, fun i => (f i).1.1, fun i => (f i).1.2, fun i => (f i).2.1, fun i => (f i).2.2.1, fun i => (f i).2.2.2, rfl, Nat.le_trans h1 h2, fun i h => (hf i h).1, fun i h => (hf i h).2⟩
end Go.Proofs.Ytphgpgdilipakaa
