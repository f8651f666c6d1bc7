/-
  The document's list, and what it is for an array with gaps. No program, no conditions.
-/
import Derived.Test.YtfabmbemdaelcaaAcG
namespace Go.Proofs.Ytfabmbemdaelcaa.C
set_option linter.unusedVariables false
set_option linter.unusedSimpArgs false

abbrev LP := List (List UInt8 × CV)
def fndP (x : LP) (k : List UInt8) : Option Nat := idxOf (x.map some : List (Ent CV)) k
def setP (x : LP) (k : List UInt8) (v : CV) : LP := match fndP x k with
  | some i => x.set i (k, v)
  | none => x ++ [(k, v)]
def dropP (x : LP) (k : List UInt8) : LP := x.filter fun p => p.1 != k
def wtP (x : LP) : Nat := (x.map fun p => 32 + p.1.length).sum
def valP (x : LP) (k : List UInt8) : CV := valC (x.map some : List (Ent CV)) k
theorem fnd_live (es : List (Ent CV)) (k : List UInt8) : (fndP (live es) k).isSome = (idxOf es k).isSome := by
  unfold fndP
  rw [(getE_is _ k).1, getE_live, (getE_is es k).1]
theorem val_live (es : List (Ent CV)) (k : List UInt8) : valP (live es) k = valC es k := by
  unfold valP
  rw [(getE_is _ k).2, getE_live, (getE_is es k).2]
theorem wt_live (es : List (Ent CV)) : wt es = wtP (live es) := rfl
theorem set_live_some {es : List (Ent CV)} {k : List UInt8} (v : CV) : ∀ {i : Nat}, idxOf es k = some i → ∃ j, fndP (live es) k = some j ∧ live (es.set i (some (k, v))) = (live es).set j (k, v) := by
  induction es with
  | nil => intro i h; cases h
  | cons e r ih =>
    intro i h
    rw [idxOf] at h
    split at h
    · rename_i hk
      injection h with h; subst h
      obtain ⟨u, rfl⟩ := keyIs_iff.1 hk
      exact ⟨0, by simp [fndP, live, idxOf, keyIs], by simp [live]⟩
    · rename_i hk
      obtain ⟨j, hj, rfl⟩ := Option.map_eq_some_iff.1 h
      obtain ⟨m, h1, h2⟩ := ih hj
      cases e with
      | none => exact ⟨m, h1, by simpa [live] using h2⟩
      | some p =>
        refine ⟨m + 1, ?_, ?_⟩
        · have e1 : fndP (live (some p :: r)) k = (fndP (live r) k).map (· + 1) := by
            show idxOf (some p :: (live r).map some : List (Ent CV)) k = _
            rw [idxOf, if_neg hk]; rfl
          rw [e1, h1]; rfl
        · have e1 : live ((some p :: r).set (j + 1) (some (k, v))) = p :: live (r.set j (some (k, v))) := rfl
          have e2 : live (some p :: r) = p :: live r := rfl
          rw [e1, e2, h2, List.set_cons_succ]
theorem set_live (es : List (Ent CV)) (k : List UInt8) (v : CV) : live (setE es k v) = setP (live es) k v := by
  unfold setE setP
  cases hi : idxOf es k with
  | some i =>
    obtain ⟨j, h1, h2⟩ := set_live_some v hi
    rw [h1]; exact h2
  | none =>
    have h := fnd_live es k
    rw [hi] at h
    cases hf : fndP (live es) k with
    | some j => rw [hf] at h; cases h
    | none => rw [live_append]; rfl
theorem drop_live_none {es : List (Ent CV)} {k : List UInt8} (h : ∀ e ∈ es, keyIs k e = false) : dropP (live es) k = live es := by
  unfold dropP
  rw [List.filter_eq_self]
  intro p hp
  obtain ⟨e, he, hep⟩ := List.mem_filterMap.1 hp
  simp at hep; subst hep
  have := h _ he
  simpa [keyIs] using this
theorem drop_live_some {es : List (Ent CV)} (hd : Dist es) {k : List UInt8} : ∀ {i : Nat}, idxOf es k = some i → live (es.set i none) = dropP (live es) k := by
  induction es with
  | nil => intro i h; cases h
  | cons e r ih =>
    intro i h
    have hd' := List.pairwise_cons.1 hd
    rw [idxOf] at h
    split at h
    · rename_i hk
      injection h with h; subst h
      obtain ⟨u, rfl⟩ := keyIs_iff.1 hk
      have e1 : live ((some (k, u) :: r : List (Ent CV)).set 0 none) = live r := rfl
      have e2 : dropP (live (some (k, u) :: r : List (Ent CV))) k = dropP (live r) k := by
        show ((k, u) :: live r).filter _ = _
        rw [List.filter_cons_of_neg (by simp)]; rfl
      rw [e1, e2, drop_live_none (fun b hb => hd'.1 b hb k hk)]
    · rename_i hk
      obtain ⟨j, hj, rfl⟩ := Option.map_eq_some_iff.1 h
      have h2 := ih hd'.2 hj
      cases e with
      | none => simpa [live] using h2
      | some p =>
        have e1 : live ((some p :: r).set (j + 1) none) = p :: live (r.set j none) := rfl
        have e2 : dropP (live (some p :: r)) k = p :: dropP (live r) k := by
          show (p :: live r).filter _ = _
          rw [List.filter_cons_of_pos (by simpa [keyIs] using hk)]; rfl
        rw [e1, e2, h2]
theorem drop_live {es : List (Ent CV)} (hd : Dist es) (k : List UInt8) : live (dropC es k) = dropP (live es) k := by
  unfold dropC
  cases hi : idxOf es k with
  | none => exact (drop_live_none (idxOf_none.1 hi)).symm
  | some i =>
    dsimp only
    split
    · exact drop_live_some hd hi
    · rw [live_live]; exact drop_live_some hd hi
theorem wtP_take (x : LP) (i : Nat) (p : List UInt8 × CV) (h : x[i]? = some p) : wtP (x.take (i + 1)) = wtP (x.take i) + (32 + p.1.length) := by
  unfold wtP
  rw [List.take_add_one, h]; simp
theorem wtP_le {n : Nat} (x : LP) (h : ∀ p ∈ x, p.1.length ≤ n) : wtP x ≤ x.length * (32 + n) := by
  induction x with
  | nil => simp [wtP]
  | cons p r ih =>
    have h1 := h p (by simp)
    have h2 := ih fun q hq => h q (by simp [hq])
    have e : wtP (p :: r) = 32 + p.1.length + wtP r := by simp [wtP]
    rw [e, List.length_cons, Nat.succ_mul]; omega
theorem dropP_take (x : LP) (k : List UInt8) (i : Nat) (p : List UInt8 × CV) (h : x[i]? = some p) : dropP (x.take (i + 1)) k = dropP (x.take i) k ++ (if p.1 = k then [] else [p]) := by
  unfold dropP
  rw [List.take_add_one, h, List.filter_append]
  by_cases e : p.1 = k <;> simp [e]
theorem setP_ne (x : LP) (k : List UInt8) (v : CV) : setP x k v ≠ [] := by
  unfold setP
  cases hf : fndP x k with
  | none => simp
  | some i =>
    have := idxOf_lt hf
    simp at this
    intro e
    have := congrArg List.length e
    simp at this
    subst this; simp at *
end Go.Proofs.Ytfabmbemdaelcaa.C
