/-
  How an argument of type [4]uint64 is read.
-/
import Derived.Test.YtobmdpfljdnlaaaRead
import Derived.Test.YtobmdpfljdnlaaaSet
namespace Go.Proofs.Ytobmdpfljdnlaaa
open Go.ChangeShapes Go.WideShapes Go.ChangeAt Go.RowKit Go.Deep
set_option linter.unusedVariables false
set_option linter.unusedSimpArgs false
theorem u64_of {n : Int} (h : (Lit.int .u64 n).wf = true) : ∃ m : Nat, n = (m : Int) ∧ m < 18446744073709551616 := by
  have h2 : 0 ≤ n ∧ n ≤ 18446744073709551615 := by (simp [Lit.wf, IntKind.min, IntKind.max, IntKind.signed, IntKind.bits] at h; omega)
  exact ⟨n.toNat, by omega, by omega⟩
theorem arg_set {H : Type} {enc : TypeId × Value → H} {w : World} {base base' : Nat} {spare : Nat → Bool} {held : Bool} {r : Reach} {v : Value} {d : DataW H} {p : List MemPlace}
    (hv : Value.okWide Try.prog w r base' 25 v) (h : DataW.Trod enc Try.prog w base spare held 25 v d p) : ∃ s : S4, v = s.val ∧ s.ok := by
  unfold Value.okWide at hv
  rw [Try.underlying25] at hv
  obtain ⟨cs, rfl, hsz, -⟩ := hv
  obtain ⟨fuel, hx⟩ := h
  obtain ⟨xs, n, _, _, hl, hxs, hf⟩ := DataW.trod_array Try.underlying25 hx
  have h4 : Try.prog.cellsOf 25 = 4 := by kernel_rfl
  have h1 : Try.prog.cellsOf 23 = 1 := by kernel_rfl
  rw [h4] at hsz
  obtain ⟨a, b, c, e, rfl⟩ : ∃ a b c e, cs = #[a, b, c, e] := by
    match cs, hsz with
    | ⟨[a, b, c, e]⟩, _ => exact ⟨a, b, c, e, rfl⟩
  have hr : ∀ i, i < 4 → Rd enc Try.prog w base spare held 23 (([a, b, c, e].drop i).take 1) := fun i hi => by
    have := hf i hi
    rw [h1, Nat.mul_one] at this
    exact ⟨n, xs[i], this.trans (List.getElem?_eq_getElem (by omega))⟩
  obtain ⟨n0, e0, w0⟩ := (hr 0 (by omega)).int_ Try.underlying23
  obtain ⟨n1, e1, w1⟩ := (hr 1 (by omega)).int_ Try.underlying23
  obtain ⟨n2, e2, w2⟩ := (hr 2 (by omega)).int_ Try.underlying23
  obtain ⟨n3, e3, w3⟩ := (hr 3 (by omega)).int_ Try.underlying23
  obtain ⟨m0, rfl, l0⟩ := u64_of w0
  obtain ⟨m1, rfl, l1⟩ := u64_of w1
  obtain ⟨m2, rfl, l2⟩ := u64_of w2
  obtain ⟨m3, rfl, l3⟩ := u64_of w3
  simp at e0 e1 e2 e3
  subst e0 e1 e2 e3
  exact ⟨⟨m0, m1, m2, m3⟩, rfl, l0, l1, l2, l3⟩
end Go.Proofs.Ytobmdpfljdnlaaa
