/-
  The plain law of AssocOrder: what is dropped leaves the order of the others. No program, no conditions.
-/
import Derived.Test.YtfabmbemdaelcaaAsM
namespace Go.Proofs.Ytfabmbemdaelcaa
set_option linter.unusedVariables false
set_option linter.unusedSimpArgs false

section
variable {V : Type}
/-- The keys, in order. -/
def keysE (es : List (Ent V)) : List (List UInt8) := (live es).map Prod.fst
/-- No gaps, and short keys. -/
def Full (es : List (Ent V)) : Prop := ∀ e ∈ es, ∃ p, e = some p ∧ p.1.length ≤ 60
theorem Full.len {es : List (Ent V)} (h : Full es) : (live es).length = es.length := by
  induction es with
  | nil => rfl
  | cons e r ih =>
    obtain ⟨p, rfl, -⟩ := h e (by simp)
    have := ih (fun x hx => h x (by simp [hx]))
    simpa [live] using this
theorem Full.wt_le {es : List (Ent V)} (h : Full es) : wt es ≤ es.length * 92 := by
  induction es with
  | nil => simp [wt, live]
  | cons e r ih =>
    obtain ⟨p, rfl, hp⟩ := h e (by simp)
    have := ih (fun x hx => h x (by simp [hx]))
    simp [wt, live] at this ⊢; omega
theorem Full.set {es : List (Ent V)} (h : Full es) (k : List UInt8) (v : V) (hk : k.length ≤ 60) : Full (setE es k v) := by
  unfold setE
  intro e he
  split at he
  · rcases List.mem_or_eq_of_mem_set he with he | rfl
    · exact h e he
    · exact ⟨_, rfl, hk⟩
  · rcases List.mem_append.1 he with he | he
    · exact h e he
    · simp at he; subst he; exact ⟨_, rfl, hk⟩
theorem Full.key {es : List (Ent V)} (h : Full es) {k : List UInt8} {i : Nat} (hi : idxOf es k = some i) : k.length ≤ 60 := by
  obtain ⟨v, hv⟩ := idxOf_some hi
  obtain ⟨p, hp, hl⟩ := h _ (List.mem_of_getElem? hv)
  injection hp with hp; subst hp; exact hl
theorem setE_len (es : List (Ent V)) (k : List UInt8) (v : V) : (setE es k v).length ≤ es.length + 1 := by
  unfold setE; split <;> simp
theorem keys_set {es : List (Ent V)} {k : List UInt8} {i : Nat} (v : V) (hi : idxOf es k = some i) : keysE (es.set i (some (k, v))) = keysE es := by
  obtain ⟨u, hu⟩ := idxOf_some hi
  clear hi
  unfold keysE
  induction es generalizing i with
  | nil => simp at hu
  | cons e r ih =>
    cases i with
    | zero => simp at hu; subst hu; rfl
    | succ i =>
      have := ih (i := i) (by simpa using hu)
      cases e <;> simpa [live] using this
theorem keysE_none (r : List (Ent V)) : keysE (none :: r) = keysE r := rfl
theorem keysE_some (p : List UInt8 × V) (r : List (Ent V)) : keysE (some p :: r) = p.1 :: keysE r := rfl
theorem keys_notin {k : List UInt8} {r : List (Ent V)} (h : ∀ e ∈ r, keyIs k e = false) : (keysE r).filter (fun x => !(x == k)) = keysE r := by
  induction r with
  | nil => rfl
  | cons e r ih =>
    have h2 := ih fun x hx => h x (by simp [hx])
    cases e with
    | none => exact h2
    | some p =>
      have h1 : (p.1 == k) = false := h (some p) (by simp)
      rw [keysE_some, List.filter_cons, h1, h2]; rfl
theorem keys_gap {es : List (Ent V)} (hd : Dist es) {k : List UInt8} : ∀ {i : Nat}, idxOf es k = some i → keysE (es.set i none) = (keysE es).filter (fun x => !(x == k)) := by
  induction es with
  | nil => intro i h; cases h
  | cons e r ih =>
    intro i h
    rw [idxOf] at h
    have hd' := List.pairwise_cons.1 hd
    split at h
    · rename_i hk
      injection h with h; subst h
      obtain ⟨u, rfl⟩ := keyIs_iff.1 hk
      rw [List.set_cons_zero, keysE_none, keysE_some, List.filter_cons, keys_notin (fun b hb => hd'.1 b hb k hk)]
      simp
    · rename_i hk
      obtain ⟨j, hj, rfl⟩ := Option.map_eq_some_iff.1 h
      rw [List.set_cons_succ]
      cases e with
      | none => rw [keysE_none, keysE_none]; exact ih hd'.2 hj
      | some p =>
        have h1 : (p.1 == k) = false := by simpa [keyIs] using hk
        rw [keysE_some, keysE_some, List.filter_cons, h1, ih hd'.2 hj]; rfl
/-- As set, where the key is there. -/
def dropSet (es : List (Ent Int)) (q : List UInt8) : List (Ent Int) := match idxOf es q with
  | some j => es.set j (some (q, -1))
  | none => es
theorem keys_dropSet (es : List (Ent Int)) (q : List UInt8) : keysE (dropSet es q) = keysE es := by
  unfold dropSet
  cases hi : idxOf es q with
  | none => rfl
  | some j => exact keys_set _ hi
theorem len_dropSet (es : List (Ent Int)) (q : List UInt8) : (dropSet es q).length = es.length := by
  unfold dropSet; cases idxOf es q <;> simp
theorem Full.dropSet {es : List (Ent Int)} (h : Full es) (q : List UInt8) : Full (dropSet es q) := by
  have h2 := fun hk => h.set q (-1) hk
  unfold setE at h2
  unfold Go.Proofs.Ytfabmbemdaelcaa.dropSet
  cases hi : idxOf es q with
  | none => exact h
  | some j => rw [hi] at h2; exact h2 (h.key hi)
/-- What is left behind Drop. -/
def dropE (es : List (Ent Int)) (k : List UInt8) : List (Ent Int) := match idxOf es k with
  | some i => es.set i none
  | none => es
theorem len_drop (es : List (Ent Int)) (k : List UInt8) : (dropE es k).length = es.length := by
  unfold dropE; cases idxOf es k <;> simp
theorem keys_drop {es : List (Ent Int)} (hd : Dist es) (k : List UInt8) : keysE (dropE es k) = (keysE es).filter (fun x => !(x == k)) := by
  unfold dropE
  cases hi : idxOf es k with
  | none => exact (keys_notin (idxOf_none.1 hi)).symm
  | some i => exact keys_gap hd hi
/-- Behind the k-th key that stays, k keys that stay lie ahead. -/
theorem filter_at (K : List (List UInt8)) (d : List UInt8) (i : Nat) (x : List UInt8) (hi : K[i]? = some x) :
    ((K.take (i + 1)).filter (fun y => !(y == d))).length = ((K.take i).filter (fun y => !(y == d))).length + (if x == d then 0 else 1) ∧
    ((x == d) = false → (K.filter (fun y => !(y == d)))[((K.take i).filter (fun y => !(y == d))).length]? = some x) := by
  have e1 : K.take (i + 1) = K.take i ++ [x] := by rw [List.take_add_one, hi]; rfl
  constructor
  · rw [e1, List.filter_append, List.length_append]
    cases hx : (x == d) <;> simp [List.filter_cons, hx]
  · intro hx
    have e2 : K = K.take (i + 1) ++ K.drop (i + 1) := (List.take_append_drop _ _).symm
    conv => lhs; arg 1; rw [e2, e1]
    rw [List.append_assoc, List.filter_append, List.getElem?_append_right (Nat.le_refl _), Nat.sub_self]
    simp [List.filter_cons, hx]
end
end Go.Proofs.Ytfabmbemdaelcaa
