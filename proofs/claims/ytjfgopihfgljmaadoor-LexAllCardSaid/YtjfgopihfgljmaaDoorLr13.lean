/-
  LexAll over raw arguments; what the row's condition gives. Under what the listed variables hold.
-/
import Derived.Test.YtjfgopihfgljmaaDoorLr12
import Derived.LaidHandle
namespace Go.Proofs.YtjfgopihfgljmaaDoor
open Go.RowKit
set_option linter.unusedVariables false
set_option linter.unusedSimpArgs false

theorem et_name : Tryd.prog.globalNamed "errors.errorType" = some 0 := by kernel_rfl
theorem rt_name : (Tryd.prog.cutTypes.find? (·.1 == "internal/reflectlite.rtype")).map (·.2) = some 89 := by kernel_rfl
theorem one_row : ((List.range (247 - 100)).filter fun t => Tryd.prog.rowNamed t [101, 114, 114, 111, 114]) = [26] := by kernel_rfl
theorem types_n : Tryd.prog.types.size = 247 - 100 := by kernel_rfl
theorem errT_of_laid {W : World} (h : laidMetH Tryd.prog Rows.lexAllRow.laid W) : ErrT W := by
  have h' : laidMet Tryd.prog [] W ∧ handlesMet Tryd.prog Rows.lexAllRow.laid W := h
  obtain ⟨name, u, ty, e1, e2, e3, e4, e5⟩ := h'.2 _ (List.mem_singleton.2 rfl)
  have en : name = [101, 114, 114, 111, 114] := (Option.some.inj e1).symm
  subst en
  obtain rfl := Option.some.inj (rt_name.symm.trans e2)
  have hm : ty ∈ (List.range (247 - 100)).filter fun t => Tryd.prog.rowNamed t [101, 114, 114, 111, 114] := List.mem_filter.2 ⟨List.mem_range.2 (by rw [← types_n]; exact e3), e4⟩
  rw [one_row] at hm
  obtain rfl := List.mem_singleton.1 hm
  have hh : typeHandle Tryd.prog 26 = .pointer (some ⟨2, 26, none⟩) := by kernel_rfl
  rw [hh] at e5
  unfold ErrT
  simpa using World.var?_cell et_name e5 0
set_option maxRecDepth 100000 in
theorem lexAll_open {H : Type} {enc : TypeId × Value → H} (W : World) (base : Nat) (v0 : Value) (d0 : DataW H) (p0 : List MemPlace)
    (k0 : Value.okWide Tryd.prog W .any base 22 v0) (h0 : DataW.Trod enc Tryd.prog W 0 (fun _ => true) true 22 v0 d0 p0) (hl : laidMetH Tryd.prog Rows.lexAllRow.laid W) :
    Calls Tryd.prog 3 #[v0] W fun e W' => e = .returned (.bool true) ∧ Below W.heap.size W W' := by
  obtain ⟨A, c, bs, rfl, g1, g2, g3, g4⟩ := arg_bytes k0 h0
  exact (lexAll_walk (errT_of_laid hl) g4 g1 g2 g3).mono fun e W' ⟨h1, h2⟩ => ⟨h1, h2.below_nil⟩
end Go.Proofs.YtjfgopihfgljmaaDoor
