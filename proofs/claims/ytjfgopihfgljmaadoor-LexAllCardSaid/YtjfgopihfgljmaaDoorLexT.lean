/-
  The tokens of a source, as the program's loop makes them. No program, no conditions.
-/
import Derived.Test.YtjfgopihfgljmaaDoorLexM
namespace Go.Proofs.YtjfgopihfgljmaaDoor
set_option linter.unusedVariables false
set_option linter.unusedSimpArgs false

/-- As lexM, where nothing that may be passed over stands ahead. -/
def lexT (n : Nat) (op : Bool) (p : Nat) (s : List UInt8) : Except (Nat × Nat) (List Tk) :=
  match s with
  | [] => .ok [⟨0, p, [], 0⟩]
  | c :: r =>
    match nextM op (c :: r) with
    | .error e => .error (e, p)
    | .ok (k, t, v, m) =>
      match lexM n (operM k t) (p + m) ((c :: r).drop m) with
      | .error e => .error e
      | .ok l => .ok (⟨k, p, t, v⟩ :: l)
theorem lexM_succ (n : Nat) (op : Bool) (p : Nat) (s : List UInt8) : lexM (n + 1) op p s = lexT n op (p + skipM s) (s.drop (skipM s)) := by
  unfold lexT
  rw [lexM]
  cases s.drop (skipM s) <;> rfl
theorem numM_pos {s : List UInt8} (h : digM (s.headD 0) = true ∨ ((s.headD 0).toNat = 46 ∧ digM ((s.drop 1).headD 0) = true)) : 1 ≤ numM s := by
  cases s with
  | nil => rcases h with h | h <;> simp [digM] at h
  | cons c r =>
    unfold numM
    rcases h with h | ⟨h, -⟩
    · have h : digM c = true := h
      rw [List.takeWhile_cons_of_pos h]
      simp only [List.length_cons]
      split
      · omega
      · split <;> omega
    · have hc : digM c = false := by have : c.toNat = 46 := h; simp [digM, this]
      rw [List.takeWhile_cons_of_neg (by simp [hc])]
      simp only [List.length_nil, List.drop_zero]
      have h : c.toNat = 46 := h
      rw [if_pos h]; omega
theorem quotM_le (q : Nat) (s : List UInt8) : ∀ n, quotM q s = some n → n + 1 ≤ s.length := by
  induction h : s.length using Nat.strongRecOn generalizing s with
  | _ m ih =>
    intro n hn
    subst h
    cases s with
    | nil => simp [quotM] at hn
    | cons c r =>
      rw [quotM_cons] at hn
      split at hn
      · cases hn
      · split at hn
        · injection hn with hn; subst hn; simp
        · split at hn
          · split at hn
            · cases hn
            · rename_i hr
              obtain ⟨n', hn', rfl⟩ := Option.map_eq_some_iff.1 hn
              cases r with
              | nil => simp at hr
              | cons d r' =>
                have := ih r'.length (by simp; omega) r' rfl n' (by simpa using hn')
                simp; omega
          · obtain ⟨n', hn', rfl⟩ := Option.map_eq_some_iff.1 hn
            have := ih r.length (by simp) r rfl n' hn'
            simp; omega
theorem nextM_ok {op : Bool} {s : List UInt8} {k : Nat} {t : List UInt8} {v m : Nat} (h : nextM op s = .ok (k, t, v, m)) : 1 ≤ m ∧ k ≤ 9 ∧ 1 ≤ k := by
  cases s with
  | nil => simp [nextM] at h
  | cons c r =>
    unfold nextM at h
    simp only at h
    split at h
    · injection h with h; injection h with h1 h; injection h with h2 h; injection h with h3 h4; subst h1 h4; omega
    · split at h
      · rename_i hnum
        split at h
        · cases h
        · injection h with h; injection h with h1 h; injection h with h2 h; injection h with h3 h4
          have := numM_pos (s := c :: r) (by
            rcases hnum with h | h
            · exact .inr h
            · exact .inl h)
          subst h1 h4; omega
      · split at h
        · split at h
          · cases h
          · injection h with h; injection h with h1 h; injection h with h2 h; injection h with h3 h4; subst h1 h4; omega
        · split at h
          · split at h
            · cases h
            · injection h with h; injection h with h1 h; injection h with h2 h; injection h with h3 h4; subst h1 h4; omega
          · split at h
            · rename_i hlet
              injection h with h; injection h with h1 h; injection h with h2 h; injection h with h3 h4
              have : wrdM c = true := by unfold wrdM; rw [hlet]; rfl
              rw [List.takeWhile_cons_of_pos this] at h4
              simp at h4
              refine ⟨by omega, ?_, ?_⟩
              · rw [← h1]; (repeat' split) <;> omega
              · rw [← h1]; (repeat' split) <;> omega
            · split at h
              · injection h with h; injection h with h1 h; injection h with h2 h; injection h with h3 h4; subst h1 h4; omega
              · split at h
                · injection h with h; injection h with h1 h; injection h with h2 h; injection h with h3 h4; subst h1 h4; omega
                · cases h
end Go.Proofs.YtjfgopihfgljmaaDoor
