/-
  Which errors tokens may have. No program, no conditions.
-/
import Derived.Test.YtjfgopihfgljmaaDoorLexJ
namespace Go.Proofs.YtjfgopihfgljmaaDoor
set_option linter.unusedVariables false
set_option linter.unusedSimpArgs false

theorem nextM_err {op : Bool} {s : List UInt8} {e : Nat} (h : nextM op s = .error e) : 1 ≤ e ∧ e ≤ 7 := by
  cases s with
  | nil => unfold nextM at h; injection h with h; omega
  | cons c r =>
    unfold nextM at h
    dsimp only at h
    split at h
    · cases h
    · split at h
      · split at h
        · injection h with h; omega
        · cases h
      · split at h
        · split at h
          · injection h with h; omega
          · cases h
        · split at h
          · split at h
            · injection h with h; omega
            · cases h
          · split at h
            · cases h
            · split at h
              · cases h
              · split at h
                · cases h
                · injection h with h; omega
theorem lexM_err : ∀ (n : Nat) (op : Bool) (p e q : Nat) (s : List UInt8), s.length < n → lexM n op p s = .error (e, q) → 1 ≤ e ∧ e ≤ 7
  | 0, op, p, e, q, s, h, _ => by omega
  | n + 1, op, p, e, q, s, h, hl => by
    rw [lexM] at hl
    cases hd : s.drop (skipM s) with
    | nil => rw [hd] at hl; cases hl
    | cons c r =>
      rw [hd] at hl
      dsimp only at hl
      have hlen : (c :: r).length ≤ s.length := by rw [← hd, List.length_drop]; omega
      cases hn : nextM op (c :: r) with
      | error e' =>
        rw [hn] at hl
        injection hl with hl
        injection hl with h1 h2
        subst h1
        exact nextM_err hn
      | ok x =>
        obtain ⟨k, t, v, m⟩ := x
        rw [hn] at hl
        dsimp only at hl
        have hm := (nextM_ok hn).1
        cases hr : lexM n (operM k t) (p + skipM s + m) ((c :: r).drop m) with
        | error y =>
          rw [hr] at hl
          injection hl with hl
          subst hl
          exact lexM_err n _ _ e q _ (by have h0 : (c :: r).length = r.length + 1 := rfl; rw [List.length_drop]; omega) hr
        | ok l => rw [hr] at hl; cases hl
theorem lexAllM_err {s : List UInt8} {e q : Nat} (h : lexAllM s = .error (e, q)) : 1 ≤ e ∧ e ≤ 7 := by
  unfold lexAllM at h
  split at h
  · injection h with h; injection h with h1 h2; omega
  · exact lexM_err _ _ _ _ _ _ (by omega) h
theorem lexM_ne {n : Nat} {op : Bool} {p : Nat} {s : List UInt8} {l : List Tk} (hl : lexM n op p s = .ok l) : l ≠ [] := by
  cases n with
  | zero => cases hl
  | succ n =>
    rw [lexM] at hl
    cases hd : s.drop (skipM s) with
    | nil => rw [hd] at hl; injection hl with hl; subst hl; simp
    | cons c r =>
      rw [hd] at hl
      dsimp only at hl
      cases hn : nextM op (c :: r) with
      | error e' => rw [hn] at hl; cases hl
      | ok x =>
        obtain ⟨k, t, v, m⟩ := x
        rw [hn] at hl
        dsimp only at hl
        cases hr : lexM n (operM k t) (p + skipM s + m) ((c :: r).drop m) with
        | error y => rw [hr] at hl; cases hl
        | ok l' => rw [hr] at hl; injection hl with hl; subst hl; simp
theorem lexAllM_ne {s : List UInt8} {l : List Tk} (h : lexAllM s = .ok l) : l ≠ [] := by
  unfold lexAllM at h
  split at h
  · cases h
  · exact lexM_ne h
end Go.Proofs.YtjfgopihfgljmaaDoor
