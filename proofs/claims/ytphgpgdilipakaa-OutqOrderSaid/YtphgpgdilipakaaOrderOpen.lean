/-
  OutqOrder over raw arguments. No conditions.
-/
import Derived.Test.YtphgpgdilipakaaQuOpen
import Derived.Test.YtphgpgdilipakaaOrder
namespace Go.Proofs.Ytphgpgdilipakaa
open Go.ChangeShapes Go.WideShapes Go.ChangeAt Go.RowKit Go.Deep
set_option linter.unusedVariables false
theorem outqOrder_open {H : Type} {enc : TypeId × Value → H} (W : World) (base : Nat) (v0 : Value) (d0 : DataW H) (p0 : List MemPlace) (v1 : Value) (d1 : DataW H) (p1 : List MemPlace) (v2 : Value) (d2 : DataW H) (p2 : List MemPlace) (v3 : Value) (d3 : DataW H) (p3 : List MemPlace)
    (k0 : Value.okWide Try.prog W .any base 3 v0) (k1 : Value.okWide Try.prog W .any base 3 v1) (k2 : Value.okWide Try.prog W .any base 3 v2) (k3 : Value.okWide Try.prog W .any base 22 v3)
    (h0 : DataW.Trod enc Try.prog W 0 (fun _ => true) true 3 v0 d0 p0) (h1 : DataW.Trod enc Try.prog W 0 (fun _ => true) true 3 v1 d1 p1) (h2 : DataW.Trod enc Try.prog W 0 (fun _ => true) true 3 v2 d2 p2) (h3 : DataW.Trod enc Try.prog W 0 (fun _ => true) true 22 v3 d3 p3) :
    Calls Try.prog 3 #[v0, v1, v2, v3] W fun e W' => e = .returned (.bool true) ∧ Below W.heap.size W W' := by
  obtain ⟨lo, rfl, -⟩ := arg_int Try.underlying3 k0 h0
  obtain ⟨hi, rfl, -⟩ := arg_int Try.underlying3 k1 h1
  obtain ⟨room, rfl, -⟩ := arg_int Try.underlying3 k2 h2
  obtain ⟨A, n, c, K, N, BA, BC, BB, rfl, hn, -, ha⟩ := acts_open k3 h3
  exact order_walk ha hn lo hi room
end Go.Proofs.Ytphgpgdilipakaa
