/-
  Reading an expression within a longer text: brackets, atoms. No program, no conditions.
-/
import Derived.Test.YtmecogilhoebgaaErX
namespace Go.Proofs.Ytmecogilhoebgaa
set_option linter.unusedVariables false
set_option linter.unusedSimpArgs false

theorem prefix_in {a b : UInt8} : ∀ {l r : List UInt8}, 2 ≤ l.length → List.isPrefixOf [a, b] (l ++ r) = List.isPrefixOf [a, b] l
  | [], r, h => by simp at h
  | [x], r, h => by simp at h
  | x :: y :: l, r, h => by simp [List.isPrefixOf]
theorem index_in {a b : UInt8} : ∀ {l r : List UInt8}, 0 ≤ Lib.index l [a, b] → Lib.index (l ++ r) [a, b] = Lib.index l [a, b]
  | [], r, h => by simp [Lib.index] at h
  | c :: l, r, h => by
    have hge := index_bd l [a, b]
    rw [List.cons_append]
    unfold Lib.index at h ⊢
    by_cases hp : List.isPrefixOf [a, b] (c :: l) = true
    · have h2 : 2 ≤ (c :: l).length := by
        cases l with
        | nil => simp [List.isPrefixOf] at hp
        | cons d l => simp
      have := prefix_in (a := a) (b := b) (r := r) h2
      rw [List.cons_append] at this
      rw [if_pos hp, this, if_pos hp]
    · rw [if_neg hp] at h ⊢
      by_cases h1 : (Lib.index l [a, b] == -1) = true
      · rw [if_pos h1] at h; omega
      · rw [if_neg h1] at h ⊢
        have h3 : Lib.index l [a, b] ≠ -1 := by simpa using h1
        have ih := index_in (r := r) (show 0 ≤ Lib.index l [a, b] by omega)
        have he := index_end a b l (by omega)
        have h2 : 2 ≤ (c :: l).length := by simp; omega
        have hpre := prefix_in (a := a) (b := b) (r := r) h2
        rw [List.cons_append] at hpre
        rw [hpre, if_neg hp, ih, if_neg h1]
section
variable {pre bs post : List UInt8}
theorem memberS_in (hp : Stops post) {i n : Nat} {R : S4} (hi : i ≤ bs.length) (h : memberS bs i = .ok (R, n)) (hn : n + 1 < bs.length ∨ bn bs n ≠ 45) : memberS (pre ++ bs ++ post) (i + pre.length) = .ok (R, n + pre.length) := by
  unfold memberS at h ⊢
  rw [opensS_in hp hi]
  by_cases ho : opensS bs i = true
  · rw [if_pos ho] at h ⊢
    have hi2 : i + 2 ≤ bs.length := by unfold opensS at ho; simp at ho; omega
    rw [show i + pre.length + 2 = (i + 2) + pre.length by omega, drop_in pre bs post hi2]
    by_cases hx : Lib.index (bs.drop (i + 2)) [58, 93] < 0
    · rw [if_pos hx] at h; cases h
    · rw [if_neg hx] at h
      have he := index_end 58 93 (bs.drop (i + 2)) (by omega)
      rw [index_in (by omega), if_neg hx]
      have ht : ((bs.drop (i + 2)) ++ post).take (Lib.index (bs.drop (i + 2)) [58, 93]).toNat = (bs.drop (i + 2)).take (Lib.index (bs.drop (i + 2)) [58, 93]).toNat := List.take_append_of_le_length (by omega)
      rw [ht]
      cases hc : classS ((bs.drop (i + 2)).take (Lib.index (bs.drop (i + 2)) [58, 93]).toNat) with
      | none => rw [hc] at h; cases h
      | some S =>
        rw [hc] at h
        simp only at h ⊢
        injection h with h; injection h with h1 h2
        rw [h1, ← h2]
        congr 2; omega
  · rw [if_neg ho] at h ⊢
    cases hs : singleS bs i with
    | none => rw [hs] at h; cases h
    | some p =>
      obtain ⟨f, nx⟩ := p
      rw [hs] at h
      rw [singleS_in hs]
      have hlt := singleS_lt hs
      simp only at h ⊢
      by_cases hc : bs.length ≤ nx + 1 ∨ bn bs nx ≠ 45 ∨ bn bs (nx + 1) = 93
      · rw [if_pos hc] at h
        injection h with h; injection h with h1 h2
        subst h2
        have hc' : (pre ++ bs ++ post).length ≤ nx + pre.length + 1 ∨ bn (pre ++ bs ++ post) (nx + pre.length) ≠ 45 ∨ bn (pre ++ bs ++ post) (nx + pre.length + 1) = 93 := by
          by_cases hnx : nx < bs.length
          · rw [bn_in pre bs post hnx]
            rcases hn with hn | hn
            · rw [show nx + pre.length + 1 = (nx + 1) + pre.length by omega, bn_in pre bs post (by omega)]
              rcases hc with hc | hc | hc
              · omega
              · exact .inr (.inl hc)
              · exact .inr (.inr hc)
            · exact .inr (.inl hn)
          · have e : nx = bs.length := by omega
            rw [e, bn_out]
            exact .inr (.inl (hp.ne (by omega) (by omega) (by omega)))
        rw [if_pos hc', h1]
      · rw [if_neg hc] at h
        have hc1 : nx + 1 < bs.length ∧ bn bs nx = 45 ∧ bn bs (nx + 1) ≠ 93 := by omega
        have hc' : ¬ ((pre ++ bs ++ post).length ≤ nx + pre.length + 1 ∨ bn (pre ++ bs ++ post) (nx + pre.length) ≠ 45 ∨ bn (pre ++ bs ++ post) (nx + pre.length + 1) = 93) := by
          rw [bn_in pre bs post (by omega), show nx + pre.length + 1 = (nx + 1) + pre.length by omega, bn_in pre bs post hc1.1]
          simp; omega
        rw [if_neg hc', show nx + pre.length + 1 = (nx + 1) + pre.length by omega, opensS_in hp (by omega)]
        by_cases ho2 : opensS bs (nx + 1) = true
        · rw [if_pos ho2] at h; cases h
        · rw [if_neg ho2] at h ⊢
          cases hs2 : singleS bs (nx + 1) with
          | none => rw [hs2] at h; cases h
          | some q =>
            obtain ⟨t, nx2⟩ := q
            rw [hs2] at h
            rw [singleS_in hs2]
            simp only at h ⊢
            by_cases htf : t < f
            · rw [if_pos htf] at h; cases h
            · rw [if_neg htf] at h ⊢
              injection h with h; injection h with h1 h2
              rw [h1, h2]
/-- Where a bracket's members end. -/
theorem brkL_end {first : Nat} : ∀ (k nx : Nat) (S0 S : S4) (m : Nat), bs.length + 1 ≤ nx + k → nx ≤ bs.length → brkL bs first k nx S0 = .ok (S, m) → nx ≤ m ∧ m < bs.length ∧ bn bs m = 93
  | 0, nx, S0, S, m, h1, h2, _ => by omega
  | k + 1, nx, S0, S, m, h1, h2, h => by
    unfold brkL at h
    split at h
    · cases hm : memberS bs nx with
      | error p => rw [hm] at h; cases h
      | ok p =>
        obtain ⟨R, n⟩ := p
        rw [hm] at h
        obtain ⟨hr, h3, h4⟩ := memberS_ok hm
        have := brkL_end k n (S0.or R) S m (by omega) h4 h
        exact ⟨by omega, this.2⟩
    · rename_i hg
      injection h with h; injection h with h5 h6
      subst h6
      exact ⟨Nat.le_refl _, by omega, by omega⟩
theorem brkL_in (hp : Stops post) {first : Nat} : ∀ (k nx : Nat) (S0 S : S4) (m k' : Nat), bs.length + 1 ≤ nx + k → nx ≤ bs.length → (pre ++ bs ++ post).length + 1 ≤ nx + pre.length + k' → brkL bs first k nx S0 = .ok (S, m) →
    brkL (pre ++ bs ++ post) (first + pre.length) k' (nx + pre.length) S0 = .ok (S, m + pre.length)
  | 0, nx, S0, S, m, k', h1, h2, _, _ => by omega
  | k + 1, nx, S0, S, m, k', h1, h2, h3, h => by
    have hend := brkL_end _ _ _ _ _ h1 h2 h
    have hlW : (pre ++ bs ++ post).length = pre.length + bs.length + post.length := by simp; omega
    obtain ⟨k'', rfl⟩ : ∃ k'', k' = k'' + 1 := ⟨k' - 1, by omega⟩
    unfold brkL at h ⊢
    by_cases hg : nx = first ∨ bs.length ≤ nx ∨ bn bs nx ≠ 93
    · rw [if_pos hg] at h
      cases hm : memberS bs nx with
      | error p => rw [hm] at h; cases h
      | ok p =>
        obtain ⟨R, n⟩ := p
        rw [hm] at h
        simp only at h
        obtain ⟨hr, h4, h5⟩ := memberS_ok hm
        have hend2 := brkL_end _ _ _ _ _ (show bs.length + 1 ≤ n + k by omega) h5 h
        have hn : n + 1 < bs.length ∨ bn bs n ≠ 45 := by
          by_cases hl : n + 1 < bs.length
          · exact .inl hl
          · right
            have : m = n := by omega
            subst this; omega
        have hg' : nx + pre.length = first + pre.length ∨ (pre ++ bs ++ post).length ≤ nx + pre.length ∨ bn (pre ++ bs ++ post) (nx + pre.length) ≠ 93 := by
          rcases hg with hg | hg | hg
          · left; omega
          · omega
          · right; right; rw [bn_in pre bs post (by omega)]; exact hg
        rw [if_pos hg', memberS_in hp h2 hm hn]
        simp only
        exact brkL_in hp k n (S0.or R) S m k'' (by omega) h5 (by omega) h
    · rw [if_neg hg] at h
      injection h with h; injection h with h5 h6
      subst h5 h6
      have hg' : ¬ (nx + pre.length = first + pre.length ∨ (pre ++ bs ++ post).length ≤ nx + pre.length ∨ bn (pre ++ bs ++ post) (nx + pre.length) ≠ 93) := by
        rw [bn_in pre bs post (by omega)]
        omega
      rw [if_neg hg']
theorem brkE_ok {neg : Bool} {i : Nat} {r : Except (Nat × Nat) (S4 × Nat)} {S : S4} {n : Nat} (h : brkE neg i r = .ok (S, n)) : ∃ S' m, r = .ok (S', m) ∧ n = m + 1 - i ∧ S = (if neg then S'.not else S') := by
  cases r with
  | error p => cases h
  | ok p =>
    obtain ⟨S', m⟩ := p
    simp only [brkE] at h
    injection h with h; injection h with h1 h2
    exact ⟨S', m, rfl, h2.symm, h1.symm⟩
theorem bracketS_in (hp : Stops post) {i n : Nat} {S : S4} (hi : i < bs.length) (h : bracketS bs i = .ok (S, n)) : bracketS (pre ++ bs ++ post) (i + pre.length) = .ok (S, n) := by
  have hlW : (pre ++ bs ++ post).length = pre.length + bs.length + post.length := by simp; omega
  by_cases hlast : i + 1 = bs.length
  · exfalso
    have h0 : bracketS bs i = .error (bs.length, 7) := by
      have hm : memberS bs (i + 1) = .error (bs.length, 7) := by
        have h1 : opensS bs (i + 1) = false := by unfold opensS; simp; omega
        have h2 : singleS bs (i + 1) = none := by unfold singleS; rw [if_pos (by omega)]
        unfold memberS; rw [h1, h2]; simp
      unfold bracketS
      rw [if_neg (by omega), brkL, if_pos (.inl rfl), hm]
      rfl
    rw [h0] at h; cases h
  · have e : i + pre.length + 1 = (i + 1) + pre.length := by omega
    unfold bracketS at h ⊢
    rw [e, bn_in pre bs post (by omega)]
    by_cases h94 : bn bs (i + 1) = 94
    · rw [if_pos ⟨by omega, h94⟩] at h ⊢
      obtain ⟨S', m, h1, h2, h3⟩ := brkE_ok h
      have hb := brkL_in (pre := pre) hp _ _ _ _ _ ((pre ++ bs ++ post).length + 1) (by omega) (by omega) (by omega) h1
      rw [show i + pre.length + 2 = (i + 2) + pre.length by omega, hb]
      simp only [brkE]
      rw [h3, h2]
      congr 2; omega
    · rw [if_neg (by omega)] at h
      rw [if_neg (by omega)]
      obtain ⟨S', m, h1, h2, h3⟩ := brkE_ok h
      have hb := brkL_in (pre := pre) hp _ _ _ _ _ ((pre ++ bs ++ post).length + 1) (by omega) (by omega) (by omega) h1
      rw [hb]
      simp only [brkE]
      rw [h3, h2]
      congr 2; omega
theorem plainS_in (hp : Stops post) {i j : Nat} {t : RT} (hi : i < bs.length) (h : plainS bs i = .ok (t, j)) : plainS (pre ++ bs ++ post) (i + pre.length) = .ok (t, j + pre.length) := by
  unfold plainS at h ⊢
  rw [bn_in pre bs post hi]
  by_cases h1 : bn bs i = 42 ∨ bn bs i = 43 ∨ bn bs i = 63
  · rw [if_pos h1] at h; cases h
  rw [if_neg h1] at h ⊢
  by_cases h2 : bn bs i = 91
  · rw [if_pos h2] at h ⊢
    cases hb : bracketS bs i with
    | error p => rw [hb] at h; cases h
    | ok p =>
      obtain ⟨S, n⟩ := p
      rw [hb] at h
      rw [bracketS_in hp hi hb]
      simp only [setR] at h ⊢
      injection h with h; injection h with h3 h4
      rw [h3, ← h4]
      congr 2; omega
  rw [if_neg h2] at h ⊢
  have fin : ∀ (u : RT) (a : Nat), (Except.ok (u, i + a) : Res) = .ok (t, j) → (Except.ok (u, i + pre.length + a) : Res) = .ok (t, j + pre.length) := fun u a h => by
    injection h with h; injection h with h3 h4
    rw [h3, ← h4]
    congr 2; omega
  by_cases h3 : bn bs i = 46
  · rw [if_pos h3] at h ⊢; exact fin _ _ h
  rw [if_neg h3] at h ⊢
  by_cases h4 : bn bs i = 94
  · rw [if_pos h4] at h ⊢; exact fin _ _ h
  rw [if_neg h4] at h ⊢
  by_cases h5 : bn bs i = 36
  · rw [if_pos h5] at h ⊢; exact fin _ _ h
  rw [if_neg h5] at h ⊢
  by_cases h6 : bn bs i = 92
  · rw [if_pos h6] at h ⊢
    by_cases h7 : bs.length ≤ i + 1
    · rw [if_pos h7] at h; cases h
    · rw [if_neg h7] at h
      rw [if_neg (by simp; omega), show i + pre.length + 1 = (i + 1) + pre.length by omega, bn_in pre bs post (by omega)]
      exact fin _ _ h
  rw [if_neg h6] at h ⊢
  exact fin _ _ h
end
end Go.Proofs.Ytmecogilhoebgaa
