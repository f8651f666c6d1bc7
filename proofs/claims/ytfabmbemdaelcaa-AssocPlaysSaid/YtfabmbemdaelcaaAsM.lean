/-
  An array with gaps as a plain list, and the map that leads to its places. No program, no conditions.
-/
import Derived.Test.YtfabmbemdaelcaaBase
import Derived.Maps.OwnSet
namespace Go.Proofs.Ytfabmbemdaelcaa
open Go.WideShapes
set_option linter.unusedVariables false
set_option linter.unusedSimpArgs false
set_option linter.unusedSectionVars false

section
variable {V : Type}
/-- An element, or the gap of a dropped one. -/
abbrev Ent (V : Type) := Option (List UInt8 × V)
def keyIs (k : List UInt8) : Ent V → Bool
  | some (k', _) => k' == k
  | none => false
def idxOf : List (Ent V) → List UInt8 → Option Nat
  | [], _ => none
  | e :: r, k => if keyIs k e = true then some 0 else (idxOf r k).map (· + 1)
def live (es : List (Ent V)) : List (List UInt8 × V) := es.filterMap id
def wt (es : List (Ent V)) : Nat := ((live es).map fun p => 32 + p.1.length).sum
def Dist (es : List (Ent V)) : Prop := es.Pairwise fun a b => ∀ k, keyIs k a = true → keyIs k b = false
def setE (es : List (Ent V)) (k : List UInt8) (v : V) : List (Ent V) := match idxOf es k with
  | some i => es.set i (some (k, v))
  | none => es ++ [some (k, v)]

theorem keyIs_iff {k : List UInt8} {e : Ent V} : keyIs k e = true ↔ ∃ v, e = some (k, v) := by
  cases e with
  | none => simp [keyIs]
  | some p => obtain ⟨k', v⟩ := p; simp [keyIs]; 
theorem idxOf_some {es : List (Ent V)} {k : List UInt8} : ∀ {i : Nat}, idxOf es k = some i → ∃ v, es[i]? = some (some (k, v)) := by
  induction es with
  | nil => intro i h; cases h
  | cons e r ih =>
    intro i h
    rw [idxOf] at h
    split at h
    · rename_i hk
      injection h with h; subst h
      obtain ⟨v, rfl⟩ := keyIs_iff.1 hk
      exact ⟨v, rfl⟩
    · obtain ⟨j, hj, rfl⟩ := Option.map_eq_some_iff.1 h
      obtain ⟨v, hv⟩ := ih hj
      exact ⟨v, by simpa using hv⟩
theorem idxOf_lt {es : List (Ent V)} {k : List UInt8} {i : Nat} (h : idxOf es k = some i) : i < es.length := by
  obtain ⟨v, hv⟩ := idxOf_some h
  exact (List.getElem?_eq_some_iff.1 hv).1
theorem idxOf_none {es : List (Ent V)} {k : List UInt8} : idxOf es k = none ↔ ∀ e ∈ es, keyIs k e = false := by
  induction es with
  | nil => simp [idxOf]
  | cons e r ih =>
    rw [idxOf]
    cases hk : keyIs k e with
    | true => simp [hk]
    | false => simp [hk, ih]
theorem idxOf_append (es fs : List (Ent V)) (k : List UInt8) : idxOf (es ++ fs) k = match idxOf es k with
    | some i => some i
    | none => (idxOf fs k).map (· + es.length) := by
  induction es with
  | nil => simp [idxOf]
  | cons e r ih =>
    rw [List.cons_append, idxOf, idxOf, ih]
    cases hk : keyIs k e with
    | true => rfl
    | false =>
      cases idxOf r k with
      | some i => rfl
      | none => simp [Option.map_map]; cases idxOf fs k <;> simp; omega
theorem idxOf_set {es : List (Ent V)} {k : List UInt8} (v : V) (k' : List UInt8) : ∀ {i : Nat}, idxOf es k = some i → idxOf (es.set i (some (k, v))) k' = idxOf es k' := by
  induction es with
  | nil => intro i h; cases h
  | cons e r ih =>
    intro i h
    rw [idxOf] at h
    split at h
    · rename_i hk
      injection h with h; subst h
      obtain ⟨u, rfl⟩ := keyIs_iff.1 hk
      rw [List.set_cons_zero, idxOf, idxOf]; rfl
    · obtain ⟨j, hj, rfl⟩ := Option.map_eq_some_iff.1 h
      rw [List.set_cons_succ, idxOf, idxOf, ih hj]
theorem idxOf_gap {es : List (Ent V)} {k : List UInt8} (hd : Dist es) (k' : List UInt8) : ∀ {i : Nat}, idxOf es k = some i → idxOf (es.set i none) k' = if k' = k then none else idxOf es k' := by
  induction es with
  | nil => intro i h; cases h
  | cons e r ih =>
    intro i h
    rw [idxOf] at h
    have hd' := List.pairwise_cons.1 hd
    split at h
    · rename_i hk
      injection h with h; subst h
      obtain ⟨u, rfl⟩ := keyIs_iff.1 hk
      rw [List.set_cons_zero, idxOf, idxOf]
      by_cases hkk : k' = k
      · subst hkk
        rw [if_pos rfl, if_neg (by simp [keyIs]), idxOf_none.2 (fun e he => hd'.1 e he _ hk)]; rfl
      · have : keyIs k' (some (k, u) : Ent V) = false := by simp [keyIs]; exact fun e => hkk e.symm
        rw [if_neg hkk, if_neg (by simp [keyIs]), if_neg (by rw [this]; exact Bool.false_ne_true)]
    · rename_i hk
      obtain ⟨j, hj, rfl⟩ := Option.map_eq_some_iff.1 h
      rw [List.set_cons_succ, idxOf, idxOf, ih hd'.2 hj]
      by_cases hkk : k' = k
      · subst hkk; rw [if_pos rfl, if_pos rfl, if_neg hk]; rfl
      · rw [if_neg hkk, if_neg hkk]
theorem live_append (es fs : List (Ent V)) : live (es ++ fs) = live es ++ live fs := List.filterMap_append ..
theorem live_set_len {es : List (Ent V)} {i : Nat} {k : List UInt8} {u : V} (v : V) (h : es[i]? = some (some (k, u))) : (live (es.set i (some (k, v)))).length = (live es).length ∧ wt (es.set i (some (k, v))) = wt es := by
  induction es generalizing i with
  | nil => simp at h
  | cons e r ih =>
    cases i with
    | zero => simp at h; subst h; simp [live, wt]
    | succ i =>
      obtain ⟨h1, h2⟩ := ih (i := i) (by simpa using h)
      cases e with
      | none => simp only [List.set_cons_succ]; simpa [live, wt] using ⟨h1, h2⟩
      | some p => simp only [List.set_cons_succ]; constructor
                  · simpa [live] using h1
                  · simpa [live, wt] using h2
theorem live_gap_len {es : List (Ent V)} {i : Nat} {k : List UInt8} {u : V} (h : es[i]? = some (some (k, u))) : (live (es.set i none)).length + 1 = (live es).length ∧ wt (es.set i none) + (32 + k.length) = wt es := by
  induction es generalizing i with
  | nil => simp at h
  | cons e r ih =>
    cases i with
    | zero => simp at h; subst h; simp [live, wt]; omega
    | succ i =>
      obtain ⟨h1, h2⟩ := ih (i := i) (by simpa using h)
      cases e with
      | none => simp only [List.set_cons_succ]; simpa [live, wt] using ⟨h1, h2⟩
      | some p => simp only [List.set_cons_succ]; constructor
                  · simpa [live] using h1
                  · simp [live, wt] at h2 ⊢; omega
theorem Dist.set {es : List (Ent V)} {i : Nat} {k : List UInt8} {u : V} (hd : Dist es) (v : V) (h : es[i]? = some (some (k, u))) : Dist (es.set i (some (k, v))) := by
  induction es generalizing i with
  | nil => simp at h
  | cons e r ih =>
    have hd' := List.pairwise_cons.1 hd
    cases i with
    | zero =>
      simp at h; subst h
      exact List.pairwise_cons.2 ⟨fun b hb k' hk => hd'.1 b hb k' hk, hd'.2⟩
    | succ i =>
      have hri : r[i]? = some (some (k, u)) := by simpa using h
      refine List.pairwise_cons.2 ⟨fun b hb k' hk => ?_, ih hd'.2 hri⟩
      rcases List.mem_or_eq_of_mem_set hb with hb | rfl
      · exact hd'.1 b hb k' hk
      · exact hd'.1 (some (k, u)) (List.mem_of_getElem? hri) k' hk
theorem Dist.gap {es : List (Ent V)} (hd : Dist es) (i : Nat) : Dist (es.set i none) := by
  induction es generalizing i with
  | nil => exact hd
  | cons e r ih =>
    have hd' := List.pairwise_cons.1 hd
    cases i with
    | zero => exact List.pairwise_cons.2 ⟨fun b hb k hk => (by cases hk), hd'.2⟩
    | succ i =>
      refine List.pairwise_cons.2 ⟨fun b hb k hk => ?_, ih hd'.2 i⟩
      rcases List.mem_or_eq_of_mem_set hb with hb | rfl
      · exact hd'.1 b hb k hk
      · rfl
theorem Dist.snoc {es : List (Ent V)} {k : List UInt8} (hd : Dist es) (v : V) (h : idxOf es k = none) : Dist (es ++ [some (k, v)]) := by
  refine List.pairwise_append.2 ⟨hd, List.pairwise_singleton .., fun a ha b hb k' hk => ?_⟩
  simp at hb; subst hb
  cases hb : keyIs k' (some (k, v) : Ent V) with
  | false => rfl
  | true =>
    have : k = k' := by simpa [keyIs] using hb
    subst this
    rw [idxOf_none.1 h a ha] at hk; cases hk
/-- The map leads to the places. -/
structure Mp {H : Type} (D : DataW H) (es : List (Ent V)) : Prop where
  has : ∀ k, Maps.has D (.string k) = (idxOf es k).isSome
  at_ : ∀ k i, idxOf es k = some i → D.atKey (.string k) (.lit (.int .i64 0)) = .lit (.int .i64 (i : Int))
  size : Maps.size D = (live es).length
  tidy : Maps.Tidy D
  dist : Dist es
variable {H : Type} {D : DataW H} {es : List (Ent V)} {k : List UInt8}
theorem Mp.nil_ : Mp (.map [] : DataW H) ([] : List (Ent V)) := ⟨fun k => rfl, fun k i h => (by cases h), rfl, Maps.tidy_empty, List.Pairwise.nil⟩
theorem keyLit (k : List UInt8) : WideAt.IsKeyLit (.string k) := by first | trivial | (simp [WideAt.IsKeyLit])
theorem strNe {k k' : List UInt8} (h : k' ≠ k) : (Lit.string k') ≠ Lit.string k := fun e => h (by injection e)
theorem Mp.new (h : Mp D es) (v : V) (hk : idxOf es k = none) : Mp (D.put (.string k) (.lit (.int .i64 (es.length : Int)))) (es ++ [some (k, v)]) := by
  have e1 : ∀ k', idxOf (es ++ [some (k, v)]) k' = if k' = k then some es.length else idxOf es k' := by
    intro k'
    rw [idxOf_append]
    by_cases e : k' = k
    · subst e; rw [hk, if_pos rfl]; simp [idxOf, keyIs]
    · rw [if_neg e]
      have : keyIs k' (some (k, v) : Ent V) = false := by simp [keyIs]; exact fun e' => e e'.symm
      cases idxOf es k' with
      | some i => rfl
      | none => simp [idxOf, this]
  have hn : Maps.has D (.string k) = false := by rw [h.has, hk]; rfl
  refine ⟨fun k' => ?_, fun k' i hi => ?_, ?_, h.tidy.put (keyLit k) _, h.dist.snoc v hk⟩
  · rw [e1]
    by_cases e : k' = k
    · subst e; rw [Maps.has_put_same h.tidy.isMap (keyLit _), if_pos rfl]; rfl
    · rw [Maps.has_put_other (strNe e), if_neg e, h.has]
  · rw [e1] at hi
    by_cases e : k' = k
    · subst e; rw [if_pos rfl] at hi; injection hi with hi; subst hi; exact Maps.atKey_put_same h.tidy.isMap (keyLit _) _ _
    · rw [if_neg e] at hi; rw [Maps.atKey_put_other (strNe e)]; exact h.at_ _ _ hi
  · rw [Maps.size_put h.tidy, hn, h.size, live_append]; simp [live]
theorem Mp.set {i : Nat} (h : Mp D es) (v : V) (hk : idxOf es k = some i) : Mp D (es.set i (some (k, v))) := by
  obtain ⟨u, hu⟩ := idxOf_some hk
  refine ⟨fun k' => ?_, fun k' j hj => ?_, ?_, h.tidy, h.dist.set v hu⟩
  · rw [idxOf_set v k' hk, h.has]
  · rw [idxOf_set v k' hk] at hj; exact h.at_ _ _ hj
  · rw [(live_set_len v hu).1, h.size]
theorem Mp.del {i : Nat} (h : Mp D es) (hk : idxOf es k = some i) : Mp (D.del (.string k)) (es.set i none) := by
  obtain ⟨u, hu⟩ := idxOf_some hk
  have hh : Maps.has D (.string k) = true := by rw [h.has, hk]; rfl
  refine ⟨fun k' => ?_, fun k' j hj => ?_, ?_, h.tidy.del _, h.dist.gap i⟩
  · rw [idxOf_gap h.dist k' hk]
    by_cases e : k' = k
    · subst e; rw [Maps.has_del_same, if_pos rfl]; rfl
    · rw [Maps.has_del_other (strNe e), if_neg e, h.has]
  · rw [idxOf_gap h.dist k' hk] at hj
    by_cases e : k' = k
    · rw [if_pos e] at hj; cases hj
    · rw [if_neg e] at hj; rw [Maps.atKey_del_other (strNe e)]; exact h.at_ _ _ hj
  · have h1 := Maps.size_del h.tidy (k := .string k)
    rw [hh, h.size] at h1
    have h2 := (live_gap_len hu).1
    simp at h1; omega
end
end Go.Proofs.Ytfabmbemdaelcaa
