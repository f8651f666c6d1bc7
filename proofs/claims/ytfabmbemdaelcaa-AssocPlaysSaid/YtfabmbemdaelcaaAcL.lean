/-
  What stands at a key, behind Set, Drop (with a new list) and Clear. No program, no conditions.
-/
import Derived.Test.YtfabmbemdaelcaaAc8
namespace Go.Proofs.Ytfabmbemdaelcaa.C
set_option linter.unusedVariables false
set_option linter.unusedSimpArgs false

/-- What stands at a key. -/
def getE : List (Ent CV) → List UInt8 → Option CV
  | [], _ => none
  | e :: r, k => if keyIs k e = true then e.map Prod.snd else getE r k
theorem getE_some {es : List (Ent CV)} {k : List UInt8} : ∀ {i : Nat}, idxOf es k = some i → ∃ v, es[i]? = some (some (k, v)) ∧ getE es k = some v := by
  induction es with
  | nil => intro i h; cases h
  | cons e r ih =>
    intro i h
    rw [idxOf] at h
    rw [getE]
    split at h
    · rename_i hk
      injection h with h; subst h
      obtain ⟨v, rfl⟩ := keyIs_iff.1 hk
      exact ⟨v, rfl, by rw [if_pos hk]; rfl⟩
    · rename_i hk
      obtain ⟨j, hj, rfl⟩ := Option.map_eq_some_iff.1 h
      obtain ⟨v, h1, h2⟩ := ih hj
      exact ⟨v, by simpa using h1, by rw [if_neg hk]; exact h2⟩
theorem getE_none {es : List (Ent CV)} {k : List UInt8} (h : ∀ e ∈ es, keyIs k e = false) : getE es k = none := by
  induction es with
  | nil => rfl
  | cons e r ih =>
    rw [getE, if_neg (by rw [h e (by simp)]; exact Bool.false_ne_true)]
    exact ih fun x hx => h x (by simp [hx])
theorem getE_is (es : List (Ent CV)) (k : List UInt8) : (idxOf es k).isSome = (getE es k).isSome ∧ valC es k = (getE es k).getD CV.zero := by
  unfold valC
  cases hi : idxOf es k with
  | none => rw [getE_none (idxOf_none.1 hi)]; exact ⟨rfl, rfl⟩
  | some i => obtain ⟨v, h1, h2⟩ := getE_some hi; rw [h2]; simp [h1]
theorem getE_set {es : List (Ent CV)} {k : List UInt8} (v : CV) (k' : List UInt8) : ∀ {i : Nat}, idxOf es k = some i → getE (es.set i (some (k, v))) k' = if k' = k then some v else getE es k' := by
  induction es with
  | nil => intro i h; cases h
  | cons e r ih =>
    intro i h
    rw [idxOf] at h
    split at h
    · rename_i hk
      injection h with h; subst h
      obtain ⟨u, rfl⟩ := keyIs_iff.1 hk
      rw [List.set_cons_zero, getE, getE]
      by_cases e : k' = k
      · subst e; simp [keyIs]
      · have : ¬ k = k' := fun e' => e e'.symm
        simp [keyIs, e, this]
    · rename_i hk
      obtain ⟨j, hj, rfl⟩ := Option.map_eq_some_iff.1 h
      rw [List.set_cons_succ, getE, getE, ih hj]
      by_cases e' : k' = k
      · subst e'; rw [if_neg hk, if_pos rfl, if_pos rfl]
      · rw [if_neg e', if_neg e']
theorem getE_app (es : List (Ent CV)) (k : List UInt8) (v : CV) (k' : List UInt8) (h : idxOf es k = none) : getE (es ++ [some (k, v)]) k' = if k' = k then some v else getE es k' := by
  have h2 := idxOf_none.1 h
  clear h
  induction es with
  | nil =>
    by_cases e : k' = k
    · subst e; simp [getE, keyIs]
    · have : ¬ k = k' := fun e' => e e'.symm
      simp [getE, keyIs, e, this]
  | cons a r ih =>
    rw [List.cons_append, getE, getE, ih fun x hx => h2 x (by simp [hx])]
    by_cases e : k' = k
    · subst e; rw [if_neg (by rw [h2 a (by simp)]; exact Bool.false_ne_true), if_pos rfl, if_pos rfl]
    · rw [if_neg e, if_neg e]
theorem getE_gap {es : List (Ent CV)} (hd : Dist es) {k : List UInt8} (k' : List UInt8) : ∀ {i : Nat}, idxOf es k = some i → getE (es.set i none) k' = if k' = k then none else getE es k' := by
  induction es with
  | nil => intro i h; cases h
  | cons e r ih =>
    intro i h
    rw [idxOf] at h
    have hd' := List.pairwise_cons.1 hd
    split at h
    · rename_i hk
      injection h with h; subst h
      obtain ⟨u, rfl⟩ := keyIs_iff.1 hk
      rw [List.set_cons_zero, getE, getE, if_neg (by simp [keyIs])]
      by_cases e : k' = k
      · subst e; rw [if_pos rfl, getE_none (fun b hb => hd'.1 b hb k' hk)]
      · have : ¬ k = k' := fun e' => e e'.symm
        rw [if_neg e]; simp [keyIs, this]
    · rename_i hk
      obtain ⟨j, hj, rfl⟩ := Option.map_eq_some_iff.1 h
      rw [List.set_cons_succ, getE, getE, ih hd'.2 hj]
      by_cases e' : k' = k
      · subst e'; rw [if_neg hk, if_pos rfl, if_pos rfl]
      · rw [if_neg e', if_neg e']
theorem getE_live (es : List (Ent CV)) (k : List UInt8) : getE ((live es).map some) k = getE es k := by
  induction es with
  | nil => rfl
  | cons e r ih =>
    cases e with
    | none =>
      have e1 : live (none :: r) = live r := rfl
      rw [e1, ih, getE, if_neg (by simp [keyIs])]
    | some p =>
      have e1 : live (some p :: r) = p :: live r := rfl
      rw [e1, List.map_cons, getE, getE, ih]
theorem getE_setE (es : List (Ent CV)) (k : List UInt8) (v : CV) (k' : List UInt8) : getE (setE es k v) k' = if k' = k then some v else getE es k' := by
  unfold setE
  cases hi : idxOf es k with
  | none => exact getE_app es k v k' hi
  | some i => exact getE_set v k' hi
theorem getE_drop {es : List (Ent CV)} (hd : Dist es) (k k' : List UInt8) : getE (dropC es k) k' = if k' = k then none else getE es k' := by
  unfold dropC
  cases hi : idxOf es k with
  | none =>
    by_cases e : k' = k
    · subst e; rw [if_pos rfl]; exact getE_none (idxOf_none.1 hi)
    · rw [if_neg e]
  | some i =>
    dsimp only
    split
    · exact getE_gap hd k' hi
    · rw [getE_live]; exact getE_gap hd k' hi
/-- The keys' lengths. -/
def KeysOk (n : Nat) (es : List (Ent CV)) : Prop := ∀ p ∈ live es, p.1.length ≤ n
theorem KeysOk.set {n : Nat} {es : List (Ent CV)} (h : KeysOk n es) (k : List UInt8) (v : CV) (hk : k.length ≤ n) : KeysOk n (setE es k v) := by
  intro p hp
  unfold setE live at hp
  obtain ⟨e, he, hep⟩ := List.mem_filterMap.1 hp
  simp at hep; subst hep
  split at he
  · rcases List.mem_or_eq_of_mem_set he with he | he
    · exact h p (by unfold live; exact List.mem_filterMap.2 ⟨some p, he, rfl⟩)
    · injection he with he; subst he; exact hk
  · rcases List.mem_append.1 he with he | he
    · exact h p (by unfold live; exact List.mem_filterMap.2 ⟨some p, he, rfl⟩)
    · simp at he; subst he; exact hk
theorem KeysOk.drop {n : Nat} {es : List (Ent CV)} (h : KeysOk n es) (k : List UInt8) : KeysOk n (dropC es k) := by
  unfold dropC
  cases hi : idxOf es k with
  | none => exact h
  | some i =>
    dsimp only
    split
    · exact fun p hp => h p (live_gap_mem hp)
    · intro p hp; rw [live_live] at hp; exact h p (live_gap_mem hp)
theorem dropC_len (es : List (Ent CV)) (k : List UInt8) : (dropC es k).length ≤ es.length := by
  unfold dropC
  cases hi : idxOf es k with
  | none => exact Nat.le_refl _
  | some i =>
    dsimp only
    split
    · simp
    · rw [List.length_map]; have := live_le (es.set i none); simp at this; exact this
theorem dropC_none {es : List (Ent CV)} (hd : Dist es) (k : List UInt8) : idxOf (dropC es k) k = none := by
  have h1 := (getE_is (dropC es k) k).1
  rw [getE_drop hd, if_pos rfl] at h1
  cases hi : idxOf (dropC es k) k with
  | none => rfl
  | some i => rw [hi] at h1; cases h1
end Go.Proofs.Ytfabmbemdaelcaa.C
