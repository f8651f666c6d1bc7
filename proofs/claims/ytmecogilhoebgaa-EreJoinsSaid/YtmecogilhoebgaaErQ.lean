/-
  EreJoins over raw arguments. No conditions.
-/
import Derived.Test.YtmecogilhoebgaaErV
import Derived.Test.YtmecogilhoebgaaRead
namespace Go.Proofs.Ytmecogilhoebgaa
open Go.RowKit
set_option linter.unusedVariables false
set_option linter.unusedSimpArgs false

theorem u8c : Try.prog.cellsOf 5 = 1 := by kernel_rfl
set_option maxRecDepth 100000 in
theorem arg_bytes {H : Type} {enc : TypeId × Value → H} {w : World} {base base' : Nat} {spare : Nat → Bool} {held : Bool} {r : Reach} {v : Value} {d : DataW H} {p : List MemPlace}
    (hv : Value.okWide Try.prog w r base' 22 v) (h : DataW.Trod enc Try.prog w base spare held 22 v d p) :
    ∃ (A : Option Addr) (c : Nat) (bs : List UInt8), v = .slice A bs.length c ∧ bs.length ≤ c ∧ c ≤ maxLen ∧ (A = none → c = 0) ∧ Bytes w A bs := by
  obtain ⟨A, n, c, rfl, h1, h2, h3, hi⟩ := arg_slice Try.underlying22 (by rw [u8c]; omega) hv h
  obtain ⟨A', c', bs, hbs, g1, g2, g3, g4⟩ := (Rd.of_trod h).bytes_ Try.underlying22 Try.underlying5 u8c
  have : (Value.slice A n c).cells.toList = [Value.slice A n c] := rfl
  rw [this] at hbs
  injection hbs with hbs
  injection hbs with e1 e2 e3
  subst e1 e2 e3
  exact ⟨A, c, bs, rfl, g1, g2, g3, g4⟩
set_option maxRecDepth 100000 in
theorem ereJoins_open {H : Type} {enc : TypeId × Value → H} (W : World) (base : Nat) (v0 : Value) (d0 : DataW H) (p0 : List MemPlace) (v1 : Value) (d1 : DataW H) (p1 : List MemPlace)
    (k0 : Value.okWide Try.prog W .any base 22 v0) (k1 : Value.okWide Try.prog W .any base 22 v1)
    (h0 : DataW.Trod enc Try.prog W 0 (fun _ => true) true 22 v0 d0 p0) (h1 : DataW.Trod enc Try.prog W 0 (fun _ => true) true 22 v1 d1 p1) (hg : GlobOk W) :
    Calls Try.prog 3 #[v0, v1] W fun e W' => e = .returned (.bool true) ∧ Below W.heap.size W W' := by
  obtain ⟨A1, c1, b1, rfl, g1, g2, g3, g4⟩ := arg_bytes k0 h0
  obtain ⟨A2, c2, b2, rfl, f1, f2, f3, f4⟩ := arg_bytes k1 h1
  exact (ereJoins_walk hg g4 f4 g1 f1 g3 f3 g2 f2).mono fun e W' ⟨h1, h2⟩ => ⟨h1, h2.below_nil⟩
end Go.Proofs.Ytmecogilhoebgaa
