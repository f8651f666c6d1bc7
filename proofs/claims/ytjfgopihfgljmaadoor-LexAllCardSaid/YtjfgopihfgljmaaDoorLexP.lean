/-
  The tokens of a source begin at rising places, the last one at the end. No program, no conditions.
-/
import Derived.Test.YtjfgopihfgljmaaDoorLexT
namespace Go.Proofs.YtjfgopihfgljmaaDoor
set_option linter.unusedVariables false
set_option linter.unusedSimpArgs false

theorem takeWhile_le {α : Type} (f : α → Bool) (l : List α) : (l.takeWhile f).length ≤ l.length := by
  induction l with
  | nil => simp
  | cons a r ih => rw [List.takeWhile_cons]; split <;> simp <;> omega
theorem numM_le (s : List UInt8) : numM s ≤ s.length := by
  unfold numM
  have h := takeWhile_le digM s
  dsimp only
  split
  · exact h
  · rename_i c r hd
    have e := congrArg List.length hd
    simp at e
    have h2 := takeWhile_le digM r
    split <;> omega
theorem nextM_le {op : Bool} {s : List UInt8} {k : Nat} {t : List UInt8} {v m : Nat} (h : nextM op s = .ok (k, t, v, m)) : m ≤ s.length := by
  cases s with
  | nil => simp [nextM] at h
  | cons c r =>
    unfold nextM at h
    simp only at h
    split at h
    · injection h with h; injection h with h1 h; injection h with h2 h; injection h with h3 h4; subst h4; simp
    · split at h
      · split at h
        · cases h
        · injection h with h; injection h with h1 h; injection h with h2 h; injection h with h3 h4
          subst h4; exact numM_le _
      · split at h
        · split at h
          · cases h
          · rename_i hq
            injection h with h; injection h with h1 h; injection h with h2 h; injection h with h3 h4; subst h4
            have := quotM_le _ _ _ hq; simp; omega
        · split at h
          · split at h
            · cases h
            · rename_i hq
              injection h with h; injection h with h1 h; injection h with h2 h; injection h with h3 h4; subst h4
              have := quotM_le _ _ _ hq; simp; omega
          · split at h
            · injection h with h; injection h with h1 h; injection h with h2 h; injection h with h3 h4; subst h4
              exact takeWhile_le _ _
            · split at h
              · rename_i hp
                injection h with h; injection h with h1 h; injection h with h2 h; injection h with h3 h4; subst h4
                cases r with
                | nil => simp [pairs] at hp
                | cons d r' => simp
              · split at h
                · injection h with h; injection h with h1 h; injection h with h2 h; injection h with h3 h4; subst h4; simp
                · cases h
/-- Tokens from p on, up to the end of them all at N. -/
def risesM : Nat → Nat → List Tk → Prop
  | _, _, [] => False
  | p, N, t :: r => p ≤ t.p ∧ ((r = [] ∧ t.k = 0 ∧ t.p = N) ∨ (t.k ≠ 0 ∧ t.p < N ∧ risesM (t.p + 1) N r))
theorem risesM.mono {p q N : Nat} {l : List Tk} (h : risesM q N l) (hp : p ≤ q) : risesM p N l := by
  cases l with
  | nil => exact h
  | cons t r => exact ⟨Nat.le_trans hp h.1, h.2⟩
theorem lexM_rises (n : Nat) : ∀ (op : Bool) (p : Nat) (s : List UInt8) (l : List Tk), lexM n op p s = .ok l → risesM p (p + s.length) l := by
  induction n with
  | zero => intro op p s l h; cases h
  | succ n ih =>
    intro op p s l h
    have hs := skipM_le s
    rw [lexM] at h
    split at h
    · rename_i hd
      injection h with h; subst h
      have e := congrArg List.length hd
      simp at e
      exact ⟨by simp, .inl ⟨rfl, rfl, by simp; omega⟩⟩
    · rename_i c r hd
      have e := congrArg List.length hd
      simp at e
      split at h
      · cases h
      · rename_i k t v m hnm
        split at h
        · cases h
        · rename_i l' hl'
          injection h with h; subst h
          obtain ⟨hm1, hk9, hk1⟩ := nextM_ok hnm
          have hml := nextM_le hnm
          have := ih _ _ _ _ hl'
          simp only [List.length_drop, List.length_cons] at this hml
          rw [show p + skipM s + m + (r.length + 1 - m) = p + s.length by omega] at this
          exact ⟨by simp, .inr ⟨by simp; omega, by simp; omega, this.mono (by simp; omega)⟩⟩
end Go.Proofs.YtjfgopihfgljmaaDoor
