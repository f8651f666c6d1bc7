/-
  For AssocAgain: all elements, set in their order into an empty array, are the same array; Weight over cells. No conditions.
-/
import Derived.Test.YtfabmbemdaelcaaAcA
namespace Go.Proofs.Ytfabmbemdaelcaa.C
open Go.RowKit Go.ChangeShapes Go.WideShapes Go.Maps
set_option linter.unusedVariables false
set_option linter.unusedSimpArgs false

theorem refill (l : List (List UInt8 × CV)) : ∀ pre : List (List UInt8 × CV), l.Pairwise (fun a b => a.1 ≠ b.1) → (∀ p ∈ pre, ∀ q ∈ l, p.1 ≠ q.1) →
    l.foldl (fun a p => setE a p.1 p.2) (pre.map some) = (pre ++ l).map some := by
  induction l with
  | nil => intro pre _ _; simp
  | cons p r ih =>
    intro pre hd hp
    have hd' := List.pairwise_cons.1 hd
    have hn : idxOf (pre.map some) p.1 = none := by
      refine idxOf_none.2 fun e he => ?_
      obtain ⟨x, hx, rfl⟩ := List.mem_map.1 he
      have := hp x hx p (by simp)
      simp [keyIs, this]
    have e1 : setE (pre.map some) p.1 p.2 = (pre ++ [p]).map some := by unfold setE; rw [hn]; simp
    rw [List.foldl_cons, e1, ih (pre ++ [p]) hd'.2 (fun x hx q hq => by
      rcases List.mem_append.1 hx with hx | hx
      · exact hp x hx q (by simp [hq])
      · simp at hx; subst hx; exact hd'.1 q hq)]
    simp
theorem live_pairs {es : List (Ent CV)} (hd : Dist es) : (live es).Pairwise (fun a b => a.1 ≠ b.1) := by
  have h := live_dist hd
  unfold Dist at h
  rw [List.pairwise_map] at h
  refine h.imp fun {a b} hab e => ?_
  have h1 := hab a.1 (by simp [keyIs])
  simp [keyIs] at h1
  exact h1 e.symm
/-- All elements set in their order into an empty array. -/
theorem refill_all {es : List (Ent CV)} (hd : Dist es) : (live es).foldl (fun a p => setE a p.1 p.2) ([] : List (Ent CV)) = (live es).map some :=
  refill (live es) [] (live_pairs hd) (by simp)
/-- .. answers as the first one. -/
theorem refill_same (es : List (Ent CV)) : live ((live es).map some) = live es ∧ wt ((live es).map some) = wt es ∧ ∀ k, getE ((live es).map some) k = getE es k :=
  ⟨live_live es, by unfold wt; rw [live_live], getE_live es⟩
theorem weight_any {w : World} {g : Nat} {l : List Nat} {es : List (Ent CV)} (h : Arr w g l es) :
    Calls Try.prog 24 #[.pointer (some ⟨g, 0, none⟩)] w fun e w' => (∃ W0, e = .returned (.int .i64 W0) ∧ W0 = IntKind.i64.wrap (wt es : Int)) ∧ w' = w := by
  obtain ⟨mv, A, cap, D, W0, rfl, hb, hm, M, hr, hW0⟩ := h
  have c2 := hb.cell_ (i := 2) rfl
  have HW0 := Lib.hid hW0
  clear hm M hr hb hW0
  go_enter Try.func24, Try.ntmps24
  go_wp2_with fail
  go_ret
  exact ⟨⟨W0, rfl, HW0.out⟩, rfl⟩
end Go.Proofs.Ytfabmbemdaelcaa.C
