/-
  Reading an expression within a longer text: the small functions. No program, no conditions.
-/
import Derived.Test.YtmecogilhoebgaaErD
namespace Go.Proofs.Ytmecogilhoebgaa
set_option linter.unusedVariables false
set_option linter.unusedSimpArgs false

/-- What may stand behind an expression. -/
def Stops (post : List UInt8) : Prop := bn post 0 = 124 ∨ bn post 0 = 41 ∨ post = []
theorem Stops.ne {post : List UInt8} (h : Stops post) {x : Nat} (h1 : x ≠ 124) (h2 : x ≠ 41) (h3 : x ≠ 0) : bn post 0 ≠ x := by
  rcases h with h | h | h
  · omega
  · omega
  · subst h; intro h; exact h3 h.symm
theorem bnx (a b : List UInt8) (i : Nat) : bn (a ++ b) i = if i < a.length then bn a i else bn b (i - a.length) := by
  unfold bn
  split
  · rename_i h; simp [List.getD_eq_getElem?_getD, List.getElem?_append_left h]
  · rename_i h; simp [List.getD_eq_getElem?_getD, List.getElem?_append_right (Nat.le_of_not_lt h)]
theorem drop_in (pre bs post : List UInt8) {i : Nat} (h : i ≤ bs.length) : (pre ++ bs ++ post).drop (i + pre.length) = bs.drop i ++ post := by
  rw [List.append_assoc, Nat.add_comm, ← List.drop_drop, List.drop_left, List.drop_append_of_le_length h]
theorem bn_in (pre bs post : List UInt8) {i : Nat} (h : i < bs.length) : bn (pre ++ bs ++ post) (i + pre.length) = bn bs i := by
  rw [List.append_assoc, bnx, if_neg (by omega), bnx, if_pos (by omega)]
  congr 1; omega
theorem bn_out (pre bs post : List UInt8) : bn (pre ++ bs ++ post) (bs.length + pre.length) = bn post 0 := by
  rw [List.append_assoc, bnx, if_neg (by omega), bnx, if_neg (by omega)]
  congr 1; omega
theorem bn_over {bs : List UInt8} {i : Nat} (h : bs.length ≤ i) : bn bs i = 0 := by
  unfold bn; simp [List.getD_eq_getElem?_getD, List.getElem?_eq_none h]
theorem take_in {post : List UInt8} (hp : Stops post) : ∀ x : List UInt8, (x ++ post).takeWhile isDig = x.takeWhile isDig
  | [] => by
    cases post with
    | nil => rfl
    | cons p r =>
      have : isDig p = false := by
        rcases hp with h | h | h
        · unfold isDig; simp [bn] at h ⊢; omega
        · unfold isDig; simp [bn] at h ⊢; omega
        · cases h
      simp [List.takeWhile_cons, this]
  | c :: r => by
    simp only [List.cons_append, List.takeWhile_cons]
    cases isDig c
    · rfl
    · simp only [if_true]; rw [take_in hp r]
theorem numS_in {post : List UInt8} (hp : Stops post) (x : List UInt8) : numS (x ++ post) = numS x := by
  unfold numS; rw [take_in hp]
theorem intervalS_in {post : List UInt8} (hp : Stops post) (x : List UInt8) (hx : 0 < x.length) : intervalS (x ++ post) = intervalS x := by
  unfold intervalS
  rw [List.drop_append_of_le_length (by omega), numS_in hp]
  obtain ⟨h1, -, -⟩ := numS_le (x.drop 1)
  rw [List.length_drop] at h1
  generalize (numS (x.drop 1)).1 = v
  generalize (numS (x.drop 1)).2 = n at h1
  have hz : ∀ k, k ≤ x.length → k ≠ x.length ∨ (bn (x ++ post) k = bn post 0 ∧ bn x k = 0) := fun k hk => by
    by_cases h : k = x.length
    · right; subst h; exact ⟨by rw [bnx, if_neg (by omega), Nat.sub_self], bn_over (Nat.le_refl _)⟩
    · exact .inl h
  have hsame : ∀ k, k < x.length → bn (x ++ post) k = bn x k := fun k hk => by rw [bnx, if_pos hk]
  unfold intervalT
  by_cases h0 : n = 0
  · rw [if_pos h0, if_pos h0]
  · rw [if_neg h0, if_neg h0]
    rcases hz (n + 1) (by omega) with h | ⟨h, h'⟩
    · rw [hsame (n + 1) (by omega)]
      by_cases h44 : bn x (n + 1) = 44
      · rw [if_pos h44, if_pos h44, List.drop_append_of_le_length (by omega), numS_in hp]
        obtain ⟨h2, -, -⟩ := numS_le (x.drop (n + 2))
        rw [List.length_drop] at h2
        rcases hz (n + 2 + (numS (x.drop (n + 2))).2) (by omega) with h3 | ⟨h3, h4⟩
        · rw [hsame _ (by omega)]
        · rw [h3, h4, if_neg (hp.ne (by omega) (by omega) (by omega)), if_neg (by omega)]
      · rw [if_neg h44, if_neg h44]
    · rw [h, h', if_neg (hp.ne (by omega) (by omega) (by omega)), if_neg (hp.ne (by omega) (by omega) (by omega)), if_neg (by omega), if_neg (by omega)]
section
variable {pre bs post : List UInt8}
theorem signS_in (hp : Stops post) {i : Nat} (hi : i ≤ bs.length) : signS (pre ++ bs ++ post) (i + pre.length) = signS bs i := by
  by_cases h : i < bs.length
  · unfold signS
    rw [bn_in pre bs post h, drop_in pre bs post hi, intervalS_in hp _ (by rw [List.length_drop]; omega)]
  · obtain rfl : i = bs.length := by omega
    unfold signS
    rw [bn_out, bn_over (Nat.le_refl _)]
    rw [if_neg (hp.ne (by omega) (by omega) (by omega)), if_neg (hp.ne (by omega) (by omega) (by omega)), if_neg (hp.ne (by omega) (by omega) (by omega)), if_neg (hp.ne (by omega) (by omega) (by omega))]
    rfl
theorem signsL_in (hp : Stops post) : ∀ (k : Nat) (t : RT) (i : Nat) (t' : RT) (j : Nat), i ≤ bs.length → signsL bs k t i = .ok (t', j) → signsL (pre ++ bs ++ post) k t (i + pre.length) = .ok (t', j + pre.length)
  | 0, t, i, t', j, hi, h => by
    rw [signsL] at h ⊢
    rw [signS_in hp hi]
    by_cases h0 : (signS bs i).2.2 = 0
    · rw [if_pos h0] at h ⊢
      injection h with h; injection h with h1 h2; subst h1 h2; rfl
    · rw [if_neg h0] at h
      split at h <;> cases h
  | k + 1, t, i, t', j, hi, h => by
    rw [signsL] at h ⊢
    rw [signS_in hp hi]
    by_cases h0 : (signS bs i).2.2 = 0
    · rw [if_pos h0] at h ⊢
      injection h with h; injection h with h1 h2; subst h1 h2; rfl
    · rw [if_neg h0] at h ⊢
      by_cases hb : badS (signS bs i) = true
      · rw [if_pos hb] at h; cases h
      · rw [if_neg hb] at h ⊢
        have := signsL_in hp k _ (i + (signS bs i).2.2) t' j (signS_le bs i hi) h
        rw [show i + pre.length + (signS bs i).2.2 = i + (signS bs i).2.2 + pre.length by omega]
        exact this
theorem opensS_in (hp : Stops post) {i : Nat} (hi : i ≤ bs.length) : opensS (pre ++ bs ++ post) (i + pre.length) = opensS bs i := by
  unfold opensS
  have e : i + pre.length + 1 = (i + 1) + pre.length := by omega
  rw [e]
  by_cases h1 : i + 1 < bs.length
  · rw [bn_in pre bs post (by omega), bn_in pre bs post h1]
    have : (i + 1) + pre.length < (pre ++ bs ++ post).length := by simp; omega
    simp [h1, this]
    omega
  · have hf : decide (i + 1 < bs.length) = false := by simpa using h1
    rw [hf, Bool.false_and]
    by_cases h2 : i = bs.length
    · subst h2
      rw [bn_out]
      have := hp.ne (x := 91) (by omega) (by omega) (by omega)
      have h3 : ((bn post 0 : Int) == 91) = false := by simp; omega
      rw [h3]; simp
    · have h4 : i + 1 = bs.length := by omega
      rw [h4, bn_out]
      have := hp.ne (x := 58) (by omega) (by omega) (by omega)
      have h3 : ((bn post 0 : Int) == 58) = false := by simp; omega
      rw [h3]; simp
theorem singleS_in {i f n : Nat} (h : singleS bs i = some (f, n)) : singleS (pre ++ bs ++ post) (i + pre.length) = some (f, n + pre.length) := by
  have hlt := singleS_lt h
  have hi : i < bs.length := by omega
  unfold singleS at h ⊢
  rw [if_neg (by omega)] at h
  rw [if_neg (by simp; omega), bn_in pre bs post hi]
  by_cases h92 : bn bs i = 92
  · rw [if_neg (by omega)] at h ⊢
    by_cases h1 : bs.length ≤ i + 1
    · rw [if_pos h1] at h; cases h
    · rw [if_neg h1] at h
      rw [if_neg (by simp; omega)]
      injection h with h; injection h with h2 h3
      rw [show i + pre.length + 1 = (i + 1) + pre.length by omega, bn_in pre bs post (by omega), ← h2, ← h3]
      congr 2; omega
  · rw [if_pos h92] at h ⊢
    injection h with h; injection h with h2 h3
    rw [← h2, ← h3]
    congr 2; omega
end
end Go.Proofs.Ytmecogilhoebgaa
