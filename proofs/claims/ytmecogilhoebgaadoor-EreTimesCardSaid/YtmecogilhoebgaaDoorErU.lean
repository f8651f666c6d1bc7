/-
  EreTimes over raw arguments; what the row's condition gives. Under what the listed variables hold.
-/
import Derived.Test.YtmecogilhoebgaaDoorErS
import Derived.LaidHandle
namespace Go.Proofs.YtmecogilhoebgaaDoor
open Go.RowKit
set_option linter.unusedVariables false
set_option linter.unusedSimpArgs false

theorem et_name : Tryd.prog.globalNamed "errors.errorType" = some 0 := by kernel_rfl
theorem rt_name : (Tryd.prog.cutTypes.find? (·.1 == "internal/reflectlite.rtype")).map (·.2) = some 66 := by kernel_rfl
theorem one_row : ((List.range (235 - 100)).filter fun t => Tryd.prog.rowNamed t [101, 114, 114, 111, 114]) = [32] := by kernel_rfl
theorem types_n : Tryd.prog.types.size = 235 - 100 := by kernel_rfl
theorem errT_of_laid {W : World} (h : laidMetH Tryd.prog Rows.ereTimesRow.laid W) : ErrT W := by
  have h' : laidMet Tryd.prog [] W ∧ handlesMet Tryd.prog Rows.ereTimesRow.laid W := h
  obtain ⟨name, u, ty, e1, e2, e3, e4, e5⟩ := h'.2 _ (List.mem_singleton.2 rfl)
  have en : name = [101, 114, 114, 111, 114] := (Option.some.inj e1).symm
  subst en
  obtain rfl := Option.some.inj (rt_name.symm.trans e2)
  have hm : ty ∈ (List.range (235 - 100)).filter fun t => Tryd.prog.rowNamed t [101, 114, 114, 111, 114] := List.mem_filter.2 ⟨List.mem_range.2 (by rw [← types_n]; exact e3), e4⟩
  rw [one_row] at hm
  obtain rfl := List.mem_singleton.1 hm
  have hh : typeHandle Tryd.prog 32 = .pointer (some ⟨2, 32, none⟩) := by kernel_rfl
  rw [hh] at e5
  unfold ErrT
  simpa using World.var?_cell et_name e5 0
set_option maxRecDepth 100000 in
theorem u16_of_ (n : Int) (h : (Lit.int .u16 n).wf = true) : ∃ c : Nat, c < 65536 ∧ n = (c : Int) := by
  have h2 : 0 ≤ n ∧ n ≤ 65535 := by (simp [Lit.wf, IntKind.min, IntKind.max, IntKind.signed, IntKind.bits] at h; omega)
  exact ⟨n.toNat, by omega, by omega⟩
set_option maxRecDepth 100000 in
theorem ereTimes_open {H : Type} {enc : TypeId × Value → H} (W : World) (base : Nat) (v0 : Value) (d0 : DataW H) (p0 : List MemPlace) (v1 : Value) (d1 : DataW H) (p1 : List MemPlace) (v2 : Value) (d2 : DataW H) (p2 : List MemPlace)
    (k0 : Value.okWide Tryd.prog W .any base 22 v0) (k1 : Value.okWide Tryd.prog W .any base 22 v1) (k2 : Value.okWide Tryd.prog W .any base 4 v2)
    (h0 : DataW.Trod enc Tryd.prog W 0 (fun _ => true) true 22 v0 d0 p0) (h1 : DataW.Trod enc Tryd.prog W 0 (fun _ => true) true 22 v1 d1 p1) (h2 : DataW.Trod enc Tryd.prog W 0 (fun _ => true) true 4 v2 d2 p2) (hg : GlobOk W) (hl : laidMetH Tryd.prog Rows.ereTimesRow.laid W) :
    Calls Tryd.prog 3 #[v0, v1, v2] W fun e W' => e = .returned (.bool true) ∧ Below W.heap.size W W' := by
  obtain ⟨n0, rfl, hn0⟩ := arg_int Tryd.underlying22 k0 h0
  obtain ⟨n1, rfl, hn1⟩ := arg_int Tryd.underlying22 k1 h1
  obtain ⟨o, rfl⟩ := arg_bool Tryd.underlying4 k2 h2
  obtain ⟨a, ha, rfl⟩ := u16_of_ n0 hn0
  obtain ⟨b, hb, rfl⟩ := u16_of_ n1 hn1
  exact (ereTimes_walk hg (errT_of_laid hl) a b o ha hb).mono fun e W' ⟨h1, h2⟩ => ⟨h1, h2.below_nil⟩
end Go.Proofs.YtmecogilhoebgaaDoor
