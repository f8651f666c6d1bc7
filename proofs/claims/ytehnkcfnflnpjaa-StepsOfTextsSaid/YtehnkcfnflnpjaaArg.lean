/-
  What an argument of bytes gives. No conditions.
-/
import Derived.Test.YtehnkcfnflnpjaaRows
import Derived.Test.YtehnkcfnflnpjaaBase
import Derived.Test.YtehnkcfnflnpjaaRead
namespace Go.Proofs.Ytehnkcfnflnpjaa
open Go.RowKit
set_option linter.unusedVariables false
set_option linter.unusedSimpArgs false

theorem u8c : Try.prog.cellsOf 5 = 1 := by kernel_rfl
set_option maxRecDepth 100000 in
theorem arg_bytes {H : Type} {enc : TypeId × Value → H} {w : World} {base base' : Nat} {spare : Nat → Bool} {held : Bool} {r : Reach} {v : Value} {d : DataW H} {p : List MemPlace}
    (hv : Value.okWide Try.prog w r base' 22 v) (h : DataW.Trod enc Try.prog w base spare held 22 v d p) :
    ∃ (A : Option Addr) (c : Nat) (bs : List UInt8), v = .slice A bs.length c ∧ bs.length ≤ c ∧ c ≤ maxLen ∧ (A = none → c = 0) ∧ Bytes w A bs := by
  obtain ⟨A, n, c, rfl, h1, h2, h3, hi⟩ := arg_slice Try.underlying22 (by rw [u8c]; omega) hv h
  obtain ⟨A', c', bs, hbs, g1, g2, g3, g4⟩ := (Rd.of_trod h).bytes_ Try.underlying22 Try.underlying5 u8c
  have : (Value.slice A n c).cells.toList = [Value.slice A n c] := rfl
  rw [this] at hbs
  injection hbs with hbs
  injection hbs with e1 e2 e3
  subst e1 e2 e3
  exact ⟨A, c, bs, rfl, g1, g2, g3, g4⟩
set_option maxRecDepth 100000 in
theorem arg_lt {w : World} {b : Nat} {a : Addr} {n c : Nat} (hv : Value.okWide Try.prog w .any b 22 (.slice (some a) n c)) : a.block < w.heap.size := by
  have h : World.has Try.prog w .any b a 5 c := by
    unfold Value.okWide at hv
    rw [Try.underlying22] at hv
    have hv' : Cell.okWide Try.prog w .any b 22 (.slice (some a) n c) := hv
    unfold Cell.okWide at hv'
    rw [Try.underlying22] at hv'
    have hv2 : Cell.ok Try.prog w .any b 22 (.slice (some a) n c) := hv'
    unfold Cell.ok at hv2
    rw [Try.underlying22] at hv2
    exact hv2.2.2
  obtain ⟨-, -, row, cells, hs, -⟩ := h
  unfold World.shape? at hs
  rcases Nat.lt_or_ge a.block w.heap.size with h' | h'
  · exact h'
  · rw [Array.getElem?_eq_none h'] at hs; cases hs
end Go.Proofs.Ytehnkcfnflnpjaa
