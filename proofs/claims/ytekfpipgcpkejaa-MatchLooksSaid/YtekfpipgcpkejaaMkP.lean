/-
  A look that is sure: the plain law of MatchLooks. No program, no conditions.
-/
import Derived.Test.YtekfpipgcpkejaaGg
namespace Go.Proofs.Ytekfpipgcpkejaa
set_option linter.unusedVariables false
set_option linter.unusedSimpArgs false

def lookS (L : List Sp) (tx : List UInt8) : Option (Nat × Nat) := match (runS L tx true false 0).2 with
  | none => none
  | some q => if (runS L tx true false 0).1.any (fun t => decide (t.2 ≤ q.1)) = true then none else some q
theorem Wk.longer {L : List Sp} {tx m : List UInt8} {opn : Bool} {k a j b : Nat} (h : Wk L tx true k a j b) : Wk L (tx ++ m) opn k a j b := by
  induction h with
  | refl => exact .refl
  | eps _ h ih =>
    refine .eps ih ?_
    unfold metT at h ⊢
    split
    · rename_i hk; rw [if_pos hk] at h; exact h
    · rename_i hk; rw [if_neg hk] at h
      split
      · rename_i hk2; rw [if_pos hk2] at h; exact h
      · rename_i hk2; rw [if_neg hk2] at h
        split at h
        · split at h
          · cases h
          · cases h
        · cases h
  | @byte i b _ h1 h2 h3 ih =>
    refine .byte ih h1 (by rw [List.length_append]; omega) ?_
    have e : (tx ++ m).getD b 0 = tx.getD b 0 := by
      rw [List.getD_eq_getElem?_getD, List.getElem?_append_left h2, List.getD_eq_getElem?_getD]
    rw [e]; exact h3
theorem Wk.shorter {L : List Sp} {tx m : List UInt8} {opn : Bool} {a j b z : Nat} (h : Wk L (tx ++ m) opn 0 a j b) (ha : a ≤ z) (hz : z ≤ tx.length)
    (hno : ∀ k, Wk L tx true 0 a k z → ¬ note L tx.length true z k) : b ≤ z ∧ Wk L tx true 0 a j b := by
  induction h with
  | refl => exact ⟨ha, .refl⟩
  | @eps i j b _ h ih =>
    obtain ⟨hb, hw⟩ := ih
    refine ⟨hb, .eps hw ?_⟩
    unfold metT at h ⊢
    split
    · rename_i hk; rw [if_pos hk] at h; exact h
    · rename_i hk; rw [if_neg hk] at h
      split
      · rename_i hk2; rw [if_pos hk2] at h; exact h
      · rename_i hk2; rw [if_neg hk2] at h
        split at h
        · rename_i hk3
          split at h
          · cases h
          · rename_i hge
            exfalso
            rw [List.length_append] at hge
            have hbz : b = z := by omega
            subst hbz
            exact hno _ hw (.inr (.inr ⟨hk3, by omega, rfl⟩))
        · cases h
  | @byte i b _ h1 h2 h3 ih =>
    obtain ⟨hb, hw⟩ := ih
    have hlt : b < z := by
      rcases Nat.lt_or_ge b z with h | h
      · exact h
      · have hbz : b = z := by omega
        subst hbz
        exact absurd (.inl h1) (hno _ hw)
    refine ⟨hlt, .byte hw h1 (by omega) ?_⟩
    have e : (tx ++ m).getD b 0 = tx.getD b 0 := by
      rw [List.getD_eq_getElem?_getD, List.getElem?_append_left (by omega), List.getD_eq_getElem?_getD]
    rw [← e]; exact h3
theorem look_ok {L : List Sp} {tx : List UInt8} {q : Nat × Nat} (hok : ProgOk L) (h0 : 0 < L.length) (h : lookS L tx = some q) (m : List UInt8) : findS L (tx ++ m) 0 = some q ∧ lookS L (tx ++ m) = some q := by
  obtain ⟨z, hz, hr⟩ := run_ok (L := L) (tx := tx) (opn := true) (there := false) (from_ := 0) hok h0 (Nat.zero_le _)
  have hal : ∀ t, allowed false 0 t := fun t => .inr ⟨rfl, Nat.zero_le _⟩
  have hq : (runS L tx true false 0).2 = some q ∧ ∀ t ∈ (runS L tx true false 0).1, q.1 < t.2 := by
    unfold lookS at h
    split at h
    · cases h
    · rename_i q' hq'
      split at h
      · cases h
      · rename_i hn
        injection h with h
        subst h
        refine ⟨hq', fun t ht => ?_⟩
        rcases Nat.lt_or_ge q'.1 t.2 with h2 | h2
        · exact h2
        · exact absurd (List.any_eq_true.2 ⟨t, ht, by simpa using h2⟩) hn
  obtain ⟨hq, hno⟩ := hq
  obtain ⟨-, hq1, hq2, hqm⟩ := hr.fd q hq
  have hnn : ∀ t, t ≤ q.1 → ∀ k, Wk L tx true 0 t k z → ¬ note L tx.length true z k := by
    intro t ht k hw hn
    rcases hr.nt t k (hal t) (by omega) hw hn with ⟨q', h1, h2⟩ | ⟨t', h1, h2⟩
    · rw [hq] at h1; injection h1 with h1; subst h1; omega
    · have h3 : q.1 < t' := hno _ h2
      omega
  have hfor : ∀ (o : Bool) t e, t ≤ q.1 → Mt L (tx ++ m) o t e → q.1 = t ∧ e ≤ q.2 := by
    intro o t e ht ⟨k, hw, hk⟩
    obtain ⟨h1, h2⟩ := hw.shorter (by omega) hz (hnn t ht)
    obtain ⟨q', h3, h4⟩ := hr.all t e (hal t) (by omega) ⟨k, h2, hk⟩
    rw [hq] at h3; injection h3 with h3; subst h3
    omega
  have hmt : ∀ o : Bool, Mt L (tx ++ m) o q.1 q.2 := fun o => by
    obtain ⟨k, hw, hk⟩ := hqm
    exact ⟨k, hw.longer, hk⟩
  have hlen : (tx ++ m).length = tx.length + m.length := List.length_append
  refine ⟨findS_eq hok h0 (Nat.zero_le _) ⟨Nat.zero_le _, hq1, by omega, hmt _, fun t e _ htl hm => ?_⟩, ?_⟩
  · rcases Nat.lt_or_ge q.1 t with h1 | h1
    · exact .inl h1
    · exact .inr (hfor _ t e h1 hm)
  · obtain ⟨z', hz', hr'⟩ := run_ok (L := L) (tx := tx ++ m) (opn := true) (there := false) (from_ := 0) hok h0 (Nat.zero_le _)
    obtain ⟨q', h1, h2⟩ := hr'.all q.1 q.2 (hal _) (by omega) (hmt true)
    obtain ⟨-, h3, h4, h5⟩ := hr'.fd q' h1
    have h6 := hfor true q'.1 q'.2 (by omega) h5
    have e : q' = q := Prod.ext (by omega) (by omega)
    subst e
    unfold lookS
    rw [h1]
    dsimp only
    rw [if_neg]
    intro ha
    obtain ⟨t, ht, ht2⟩ := List.any_eq_true.1 ha
    have ht3 : t.2 ≤ q'.1 := by simpa using ht2
    obtain ⟨-, g1, g2⟩ := hr'.nx t ht
    obtain ⟨g3, g4⟩ := g2.shorter (by omega) hz (hnn t.2 ht3)
    rcases hr'.stop with g5 | ⟨-, g5⟩
    · have g6 : z' = z := by omega
      have g7 : (tx ++ m).length = tx.length := by omega
      rw [g6] at g4 g1
      rw [g7] at g1
      exact hnn t.2 ht3 _ g4 g1
    · rw [g5] at ht; cases ht
end Go.Proofs.Ytekfpipgcpkejaa
