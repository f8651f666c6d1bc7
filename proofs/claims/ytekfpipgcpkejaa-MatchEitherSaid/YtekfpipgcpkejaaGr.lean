/-
  ErD, ErX, ErY, ErZ, ErJ, MeP, MeQ: several small texts in one. No conditions.
-/
import Derived.Test.YtekfpipgcpkejaaGh
import Derived.Test.YtekfpipgcpkejaaMbP
import Derived.Test.YtekfpipgcpkejaaGk
import Derived.Test.YtekfpipgcpkejaaMaW
namespace Go.Proofs.Ytekfpipgcpkejaa
set_option linter.unusedVariables false
set_option linter.unusedSimpArgs false
def deepL (k : Nat) : List UInt8 := List.replicate k 40 ++ 97 :: List.replicate k 41
def Stops (post : List UInt8) : Prop := bn post 0 = 124 ∨ bn post 0 = 41 ∨ post = []
theorem Stops.ne {post : List UInt8} (h : Stops post) {x : Nat} (h1 : x ≠ 124) (h2 : x ≠ 41) (h3 : x ≠ 0) : bn post 0 ≠ x := by
  rcases h with h | h | h
  · omega
  · omega
  · subst h; intro h; exact h3 h.symm
theorem bnx (a b : List UInt8) (i : Nat) : bn (a ++ b) i = if i < a.length then bn a i else bn b (i - a.length) := by
  unfold bn
  split
  · rename_i h; simp [List.getD_eq_getElem?_getD, List.getElem?_append_left h]
  · rename_i h; simp [List.getD_eq_getElem?_getD, List.getElem?_append_right (Nat.le_of_not_lt h)]
theorem drop_in (pre bs post : List UInt8) {i : Nat} (h : i ≤ bs.length) : (pre ++ bs ++ post).drop (i + pre.length) = bs.drop i ++ post := by
  rw [List.append_assoc, Nat.add_comm, ← List.drop_drop, List.drop_left, List.drop_append_of_le_length h]
theorem bn_in (pre bs post : List UInt8) {i : Nat} (h : i < bs.length) : bn (pre ++ bs ++ post) (i + pre.length) = bn bs i := by
  rw [List.append_assoc, bnx, if_neg (by omega), bnx, if_pos (by omega)]
  congr 1; omega
theorem bn_out (pre bs post : List UInt8) : bn (pre ++ bs ++ post) (bs.length + pre.length) = bn post 0 := by
  rw [List.append_assoc, bnx, if_neg (by omega), bnx, if_neg (by omega)]
  congr 1; omega
theorem bn_over {bs : List UInt8} {i : Nat} (h : bs.length ≤ i) : bn bs i = 0 := by
  unfold bn; simp [List.getD_eq_getElem?_getD, List.getElem?_eq_none h]
theorem take_in {post : List UInt8} (hp : Stops post) : ∀ x : List UInt8, (x ++ post).takeWhile isDig = x.takeWhile isDig
  | [] => by
    cases post with
    | nil => rfl
    | cons p r =>
      have : isDig p = false := by
        rcases hp with h | h | h
        · unfold isDig; simp [bn] at h ⊢; omega
        · unfold isDig; simp [bn] at h ⊢; omega
        · cases h
      simp [List.takeWhile_cons, this]
  | c :: r => by
    simp only [List.cons_append, List.takeWhile_cons]
    cases isDig c
    · rfl
    · simp only [if_true]; rw [take_in hp r]
theorem numS_in {post : List UInt8} (hp : Stops post) (x : List UInt8) : numS (x ++ post) = numS x := by
  unfold numS; rw [take_in hp]
theorem intervalS_in {post : List UInt8} (hp : Stops post) (x : List UInt8) (hx : 0 < x.length) : intervalS (x ++ post) = intervalS x := by
  unfold intervalS
  rw [List.drop_append_of_le_length (by omega), numS_in hp]
  obtain ⟨h1, -, -⟩ := numS_le (x.drop 1)
  rw [List.length_drop] at h1
  generalize (numS (x.drop 1)).1 = v
  generalize (numS (x.drop 1)).2 = n at h1
  have hz : ∀ k, k ≤ x.length → k ≠ x.length ∨ (bn (x ++ post) k = bn post 0 ∧ bn x k = 0) := fun k hk => by
    by_cases h : k = x.length
    · right; subst h; exact ⟨by rw [bnx, if_neg (by omega), Nat.sub_self], bn_over (Nat.le_refl _)⟩
    · exact .inl h
  have hsame : ∀ k, k < x.length → bn (x ++ post) k = bn x k := fun k hk => by rw [bnx, if_pos hk]
  unfold intervalT
  by_cases h0 : n = 0
  · rw [if_pos h0, if_pos h0]
  · rw [if_neg h0, if_neg h0]
    rcases hz (n + 1) (by omega) with h | ⟨h, h'⟩
    · rw [hsame (n + 1) (by omega)]
      by_cases h44 : bn x (n + 1) = 44
      · rw [if_pos h44, if_pos h44, List.drop_append_of_le_length (by omega), numS_in hp]
        obtain ⟨h2, -, -⟩ := numS_le (x.drop (n + 2))
        rw [List.length_drop] at h2
        rcases hz (n + 2 + (numS (x.drop (n + 2))).2) (by omega) with h3 | ⟨h3, h4⟩
        · rw [hsame _ (by omega)]
        · rw [h3, h4, if_neg (hp.ne (by omega) (by omega) (by omega)), if_neg (by omega)]
      · rw [if_neg h44, if_neg h44]
    · rw [h, h', if_neg (hp.ne (by omega) (by omega) (by omega)), if_neg (hp.ne (by omega) (by omega) (by omega)), if_neg (by omega), if_neg (by omega)]
section
variable {pre bs post : List UInt8}
theorem signS_in (hp : Stops post) {i : Nat} (hi : i ≤ bs.length) : signS (pre ++ bs ++ post) (i + pre.length) = signS bs i := by
  by_cases h : i < bs.length
  · unfold signS
    rw [bn_in pre bs post h, drop_in pre bs post hi, intervalS_in hp _ (by rw [List.length_drop]; omega)]
  · obtain rfl : i = bs.length := by omega
    unfold signS
    rw [bn_out, bn_over (Nat.le_refl _)]
    rw [if_neg (hp.ne (by omega) (by omega) (by omega)), if_neg (hp.ne (by omega) (by omega) (by omega)), if_neg (hp.ne (by omega) (by omega) (by omega)), if_neg (hp.ne (by omega) (by omega) (by omega))]
    rfl
theorem signsL_in (hp : Stops post) : ∀ (k : Nat) (t : RT) (i : Nat) (t' : RT) (j : Nat), i ≤ bs.length → signsL bs k t i = .ok (t', j) → signsL (pre ++ bs ++ post) k t (i + pre.length) = .ok (t', j + pre.length)
  | 0, t, i, t', j, hi, h => by
    rw [signsL] at h ⊢
    rw [signS_in hp hi]
    by_cases h0 : (signS bs i).2.2 = 0
    · rw [if_pos h0] at h ⊢
      injection h with h; injection h with h1 h2; subst h1 h2; rfl
    · rw [if_neg h0] at h
      split at h <;> cases h
  | k + 1, t, i, t', j, hi, h => by
    rw [signsL] at h ⊢
    rw [signS_in hp hi]
    by_cases h0 : (signS bs i).2.2 = 0
    · rw [if_pos h0] at h ⊢
      injection h with h; injection h with h1 h2; subst h1 h2; rfl
    · rw [if_neg h0] at h ⊢
      by_cases hb : badS (signS bs i) = true
      · rw [if_pos hb] at h; cases h
      · rw [if_neg hb] at h ⊢
        have := signsL_in hp k _ (i + (signS bs i).2.2) t' j (signS_le bs i hi) h
        rw [show i + pre.length + (signS bs i).2.2 = i + (signS bs i).2.2 + pre.length by omega]
        exact this
theorem opensS_in (hp : Stops post) {i : Nat} (hi : i ≤ bs.length) : opensS (pre ++ bs ++ post) (i + pre.length) = opensS bs i := by
  unfold opensS
  have e : i + pre.length + 1 = (i + 1) + pre.length := by omega
  rw [e]
  by_cases h1 : i + 1 < bs.length
  · rw [bn_in pre bs post (by omega), bn_in pre bs post h1]
    have : (i + 1) + pre.length < (pre ++ bs ++ post).length := by simp; omega
    simp [h1, this]
    omega
  · have hf : decide (i + 1 < bs.length) = false := by simpa using h1
    rw [hf, Bool.false_and]
    by_cases h2 : i = bs.length
    · subst h2
      rw [bn_out]
      have := hp.ne (x := 91) (by omega) (by omega) (by omega)
      have h3 : ((bn post 0 : Int) == 91) = false := by simp; omega
      rw [h3]; simp
    · have h4 : i + 1 = bs.length := by omega
      rw [h4, bn_out]
      have := hp.ne (x := 58) (by omega) (by omega) (by omega)
      have h3 : ((bn post 0 : Int) == 58) = false := by simp; omega
      rw [h3]; simp
theorem singleS_in {i f n : Nat} (h : singleS bs i = some (f, n)) : singleS (pre ++ bs ++ post) (i + pre.length) = some (f, n + pre.length) := by
  have hlt := singleS_lt h
  have hi : i < bs.length := by omega
  unfold singleS at h ⊢
  rw [if_neg (by omega)] at h
  rw [if_neg (by simp; omega), bn_in pre bs post hi]
  by_cases h92 : bn bs i = 92
  · rw [if_neg (by omega)] at h ⊢
    by_cases h1 : bs.length ≤ i + 1
    · rw [if_pos h1] at h; cases h
    · rw [if_neg h1] at h
      rw [if_neg (by simp; omega)]
      injection h with h; injection h with h2 h3
      rw [show i + pre.length + 1 = (i + 1) + pre.length by omega, bn_in pre bs post (by omega), ← h2, ← h3]
      congr 2; omega
  · rw [if_pos h92] at h ⊢
    injection h with h; injection h with h2 h3
    rw [← h2, ← h3]
    congr 2; omega
end
theorem prefix_in {a b : UInt8} : ∀ {l r : List UInt8}, 2 ≤ l.length → List.isPrefixOf [a, b] (l ++ r) = List.isPrefixOf [a, b] l
  | [], r, h => by simp at h
  | [x], r, h => by simp at h
  | x :: y :: l, r, h => by simp [List.isPrefixOf]
theorem index_in {a b : UInt8} : ∀ {l r : List UInt8}, 0 ≤ Lib.index l [a, b] → Lib.index (l ++ r) [a, b] = Lib.index l [a, b]
  | [], r, h => by simp [Lib.index] at h
  | c :: l, r, h => by
    have hge := index_bd l [a, b]
    rw [List.cons_append]
    unfold Lib.index at h ⊢
    by_cases hp : List.isPrefixOf [a, b] (c :: l) = true
    · have h2 : 2 ≤ (c :: l).length := by
        cases l with
        | nil => simp [List.isPrefixOf] at hp
        | cons d l => simp
      have := prefix_in (a := a) (b := b) (r := r) h2
      rw [List.cons_append] at this
      rw [if_pos hp, this, if_pos hp]
    · rw [if_neg hp] at h ⊢
      by_cases h1 : (Lib.index l [a, b] == -1) = true
      · rw [if_pos h1] at h; omega
      · rw [if_neg h1] at h ⊢
        have h3 : Lib.index l [a, b] ≠ -1 := by simpa using h1
        have ih := index_in (r := r) (show 0 ≤ Lib.index l [a, b] by omega)
        have he := index_end a b l (by omega)
        have h2 : 2 ≤ (c :: l).length := by simp; omega
        have hpre := prefix_in (a := a) (b := b) (r := r) h2
        rw [List.cons_append] at hpre
        rw [hpre, if_neg hp, ih, if_neg h1]
section
variable {pre bs post : List UInt8}
theorem memberS_in (hp : Stops post) {i n : Nat} {R : S4} (hi : i ≤ bs.length) (h : memberS bs i = .ok (R, n)) (hn : n + 1 < bs.length ∨ bn bs n ≠ 45) : memberS (pre ++ bs ++ post) (i + pre.length) = .ok (R, n + pre.length) := by
  unfold memberS at h ⊢
  rw [opensS_in hp hi]
  by_cases ho : opensS bs i = true
  · rw [if_pos ho] at h ⊢
    have hi2 : i + 2 ≤ bs.length := by unfold opensS at ho; simp at ho; omega
    rw [show i + pre.length + 2 = (i + 2) + pre.length by omega, drop_in pre bs post hi2]
    by_cases hx : Lib.index (bs.drop (i + 2)) [58, 93] < 0
    · rw [if_pos hx] at h; cases h
    · rw [if_neg hx] at h
      have he := index_end 58 93 (bs.drop (i + 2)) (by omega)
      rw [index_in (by omega), if_neg hx]
      have ht : ((bs.drop (i + 2)) ++ post).take (Lib.index (bs.drop (i + 2)) [58, 93]).toNat = (bs.drop (i + 2)).take (Lib.index (bs.drop (i + 2)) [58, 93]).toNat := List.take_append_of_le_length (by omega)
      rw [ht]
      cases hc : classS ((bs.drop (i + 2)).take (Lib.index (bs.drop (i + 2)) [58, 93]).toNat) with
      | none => rw [hc] at h; cases h
      | some S =>
        rw [hc] at h
        simp only at h ⊢
        injection h with h; injection h with h1 h2
        rw [h1, ← h2]
        congr 2; omega
  · rw [if_neg ho] at h ⊢
    cases hs : singleS bs i with
    | none => rw [hs] at h; cases h
    | some p =>
      obtain ⟨f, nx⟩ := p
      rw [hs] at h
      rw [singleS_in hs]
      have hlt := singleS_lt hs
      simp only at h ⊢
      by_cases hc : bs.length ≤ nx + 1 ∨ bn bs nx ≠ 45 ∨ bn bs (nx + 1) = 93
      · rw [if_pos hc] at h
        injection h with h; injection h with h1 h2
        subst h2
        have hc' : (pre ++ bs ++ post).length ≤ nx + pre.length + 1 ∨ bn (pre ++ bs ++ post) (nx + pre.length) ≠ 45 ∨ bn (pre ++ bs ++ post) (nx + pre.length + 1) = 93 := by
          by_cases hnx : nx < bs.length
          · rw [bn_in pre bs post hnx]
            rcases hn with hn | hn
            · rw [show nx + pre.length + 1 = (nx + 1) + pre.length by omega, bn_in pre bs post (by omega)]
              rcases hc with hc | hc | hc
              · omega
              · exact .inr (.inl hc)
              · exact .inr (.inr hc)
            · exact .inr (.inl hn)
          · have e : nx = bs.length := by omega
            rw [e, bn_out]
            exact .inr (.inl (hp.ne (by omega) (by omega) (by omega)))
        rw [if_pos hc', h1]
      · rw [if_neg hc] at h
        have hc1 : nx + 1 < bs.length ∧ bn bs nx = 45 ∧ bn bs (nx + 1) ≠ 93 := by omega
        have hc' : ¬ ((pre ++ bs ++ post).length ≤ nx + pre.length + 1 ∨ bn (pre ++ bs ++ post) (nx + pre.length) ≠ 45 ∨ bn (pre ++ bs ++ post) (nx + pre.length + 1) = 93) := by
          rw [bn_in pre bs post (by omega), show nx + pre.length + 1 = (nx + 1) + pre.length by omega, bn_in pre bs post hc1.1]
          simp; omega
        rw [if_neg hc', show nx + pre.length + 1 = (nx + 1) + pre.length by omega, opensS_in hp (by omega)]
        by_cases ho2 : opensS bs (nx + 1) = true
        · rw [if_pos ho2] at h; cases h
        · rw [if_neg ho2] at h ⊢
          cases hs2 : singleS bs (nx + 1) with
          | none => rw [hs2] at h; cases h
          | some q =>
            obtain ⟨t, nx2⟩ := q
            rw [hs2] at h
            rw [singleS_in hs2]
            simp only at h ⊢
            by_cases htf : t < f
            · rw [if_pos htf] at h; cases h
            · rw [if_neg htf] at h ⊢
              injection h with h; injection h with h1 h2
              rw [h1, h2]
theorem brkL_end {first : Nat} : ∀ (k nx : Nat) (S0 S : S4) (m : Nat), bs.length + 1 ≤ nx + k → nx ≤ bs.length → brkL bs first k nx S0 = .ok (S, m) → nx ≤ m ∧ m < bs.length ∧ bn bs m = 93
  | 0, nx, S0, S, m, h1, h2, _ => by omega
  | k + 1, nx, S0, S, m, h1, h2, h => by
    unfold brkL at h
    split at h
    · cases hm : memberS bs nx with
      | error p => rw [hm] at h; cases h
      | ok p =>
        obtain ⟨R, n⟩ := p
        rw [hm] at h
        obtain ⟨hr, h3, h4⟩ := memberS_ok hm
        have := brkL_end k n (S0.or R) S m (by omega) h4 h
        exact ⟨by omega, this.2⟩
    · rename_i hg
      injection h with h; injection h with h5 h6
      subst h6
      exact ⟨Nat.le_refl _, by omega, by omega⟩
theorem brkL_in (hp : Stops post) {first : Nat} : ∀ (k nx : Nat) (S0 S : S4) (m k' : Nat), bs.length + 1 ≤ nx + k → nx ≤ bs.length → (pre ++ bs ++ post).length + 1 ≤ nx + pre.length + k' → brkL bs first k nx S0 = .ok (S, m) →
    brkL (pre ++ bs ++ post) (first + pre.length) k' (nx + pre.length) S0 = .ok (S, m + pre.length)
  | 0, nx, S0, S, m, k', h1, h2, _, _ => by omega
  | k + 1, nx, S0, S, m, k', h1, h2, h3, h => by
    have hend := brkL_end _ _ _ _ _ h1 h2 h
    have hlW : (pre ++ bs ++ post).length = pre.length + bs.length + post.length := by simp; omega
    obtain ⟨k'', rfl⟩ : ∃ k'', k' = k'' + 1 := ⟨k' - 1, by omega⟩
    unfold brkL at h ⊢
    by_cases hg : nx = first ∨ bs.length ≤ nx ∨ bn bs nx ≠ 93
    · rw [if_pos hg] at h
      cases hm : memberS bs nx with
      | error p => rw [hm] at h; cases h
      | ok p =>
        obtain ⟨R, n⟩ := p
        rw [hm] at h
        simp only at h
        obtain ⟨hr, h4, h5⟩ := memberS_ok hm
        have hend2 := brkL_end _ _ _ _ _ (show bs.length + 1 ≤ n + k by omega) h5 h
        have hn : n + 1 < bs.length ∨ bn bs n ≠ 45 := by
          by_cases hl : n + 1 < bs.length
          · exact .inl hl
          · right
            have : m = n := by omega
            subst this; omega
        have hg' : nx + pre.length = first + pre.length ∨ (pre ++ bs ++ post).length ≤ nx + pre.length ∨ bn (pre ++ bs ++ post) (nx + pre.length) ≠ 93 := by
          rcases hg with hg | hg | hg
          · left; omega
          · omega
          · right; right; rw [bn_in pre bs post (by omega)]; exact hg
        rw [if_pos hg', memberS_in hp h2 hm hn]
        simp only
        exact brkL_in hp k n (S0.or R) S m k'' (by omega) h5 (by omega) h
    · rw [if_neg hg] at h
      injection h with h; injection h with h5 h6
      subst h5 h6
      have hg' : ¬ (nx + pre.length = first + pre.length ∨ (pre ++ bs ++ post).length ≤ nx + pre.length ∨ bn (pre ++ bs ++ post) (nx + pre.length) ≠ 93) := by
        rw [bn_in pre bs post (by omega)]
        omega
      rw [if_neg hg']
theorem brkE_ok {neg : Bool} {i : Nat} {r : Except (Nat × Nat) (S4 × Nat)} {S : S4} {n : Nat} (h : brkE neg i r = .ok (S, n)) : ∃ S' m, r = .ok (S', m) ∧ n = m + 1 - i ∧ S = (if neg then S'.not else S') := by
  cases r with
  | error p => cases h
  | ok p =>
    obtain ⟨S', m⟩ := p
    simp only [brkE] at h
    injection h with h; injection h with h1 h2
    exact ⟨S', m, rfl, h2.symm, h1.symm⟩
theorem bracketS_in (hp : Stops post) {i n : Nat} {S : S4} (hi : i < bs.length) (h : bracketS bs i = .ok (S, n)) : bracketS (pre ++ bs ++ post) (i + pre.length) = .ok (S, n) := by
  have hlW : (pre ++ bs ++ post).length = pre.length + bs.length + post.length := by simp; omega
  by_cases hlast : i + 1 = bs.length
  · exfalso
    have h0 : bracketS bs i = .error (bs.length, 7) := by
      have hm : memberS bs (i + 1) = .error (bs.length, 7) := by
        have h1 : opensS bs (i + 1) = false := by unfold opensS; simp; omega
        have h2 : singleS bs (i + 1) = none := by unfold singleS; rw [if_pos (by omega)]
        unfold memberS; rw [h1, h2]; simp
      unfold bracketS
      rw [if_neg (by omega), brkL, if_pos (.inl rfl), hm]
      rfl
    rw [h0] at h; cases h
  · have e : i + pre.length + 1 = (i + 1) + pre.length := by omega
    unfold bracketS at h ⊢
    rw [e, bn_in pre bs post (by omega)]
    by_cases h94 : bn bs (i + 1) = 94
    · rw [if_pos ⟨by omega, h94⟩] at h ⊢
      obtain ⟨S', m, h1, h2, h3⟩ := brkE_ok h
      have hb := brkL_in (pre := pre) hp _ _ _ _ _ ((pre ++ bs ++ post).length + 1) (by omega) (by omega) (by omega) h1
      rw [show i + pre.length + 2 = (i + 2) + pre.length by omega, hb]
      simp only [brkE]
      rw [h3, h2]
      congr 2; omega
    · rw [if_neg (by omega)] at h
      rw [if_neg (by omega)]
      obtain ⟨S', m, h1, h2, h3⟩ := brkE_ok h
      have hb := brkL_in (pre := pre) hp _ _ _ _ _ ((pre ++ bs ++ post).length + 1) (by omega) (by omega) (by omega) h1
      rw [hb]
      simp only [brkE]
      rw [h3, h2]
      congr 2; omega
theorem plainS_in (hp : Stops post) {i j : Nat} {t : RT} (hi : i < bs.length) (h : plainS bs i = .ok (t, j)) : plainS (pre ++ bs ++ post) (i + pre.length) = .ok (t, j + pre.length) := by
  unfold plainS at h ⊢
  rw [bn_in pre bs post hi]
  by_cases h1 : bn bs i = 42 ∨ bn bs i = 43 ∨ bn bs i = 63
  · rw [if_pos h1] at h; cases h
  rw [if_neg h1] at h ⊢
  by_cases h2 : bn bs i = 91
  · rw [if_pos h2] at h ⊢
    cases hb : bracketS bs i with
    | error p => rw [hb] at h; cases h
    | ok p =>
      obtain ⟨S, n⟩ := p
      rw [hb] at h
      rw [bracketS_in hp hi hb]
      simp only [setR] at h ⊢
      injection h with h; injection h with h3 h4
      rw [h3, ← h4]
      congr 2; omega
  rw [if_neg h2] at h ⊢
  have fin : ∀ (u : RT) (a : Nat), (Except.ok (u, i + a) : Res) = .ok (t, j) → (Except.ok (u, i + pre.length + a) : Res) = .ok (t, j + pre.length) := fun u a h => by
    injection h with h; injection h with h3 h4
    rw [h3, ← h4]
    congr 2; omega
  by_cases h3 : bn bs i = 46
  · rw [if_pos h3] at h ⊢; exact fin _ _ h
  rw [if_neg h3] at h ⊢
  by_cases h4 : bn bs i = 94
  · rw [if_pos h4] at h ⊢; exact fin _ _ h
  rw [if_neg h4] at h ⊢
  by_cases h5 : bn bs i = 36
  · rw [if_pos h5] at h ⊢; exact fin _ _ h
  rw [if_neg h5] at h ⊢
  by_cases h6 : bn bs i = 92
  · rw [if_pos h6] at h ⊢
    by_cases h7 : bs.length ≤ i + 1
    · rw [if_pos h7] at h; cases h
    · rw [if_neg h7] at h
      rw [if_neg (by simp; omega), show i + pre.length + 1 = (i + 1) + pre.length by omega, bn_in pre bs post (by omega)]
      exact fin _ _ h
  rw [if_neg h6] at h ⊢
  exact fin _ _ h
end
def noFuel : Res := .error (0, 99)
theorem fuel_one (bs : List UInt8) : ∀ f : Nat,
    (∀ d i acc r, exprF bs f d i acc = r → r ≠ noFuel → exprF bs (f + 1) d i acc = r) ∧
    (∀ d i acc r, branchF bs f d i acc = r → r ≠ noFuel → branchF bs (f + 1) d i acc = r) ∧
    (∀ d i r, pieceF bs f d i = r → r ≠ noFuel → pieceF bs (f + 1) d i = r) ∧
    (∀ d i r, atomF bs f d i = r → r ≠ noFuel → atomF bs (f + 1) d i = r)
  | 0 => ⟨fun _ _ _ _ h hr => (hr (by rw [← h, exprF]; rfl)).elim, fun _ _ _ _ h hr => (hr (by rw [← h, branchF]; rfl)).elim, fun _ _ _ h hr => (hr (by rw [← h, pieceF]; rfl)).elim, fun _ _ _ h hr => (hr (by rw [← h, atomF]; rfl)).elim⟩
  | f + 1 => by
    obtain ⟨hE, hB, hP, hA⟩ := fuel_one bs f
    refine ⟨fun d i acc r h hr => ?_, fun d i acc r h hr => ?_, fun d i r h hr => ?_, fun d i r h hr => ?_⟩
    · rw [exprF] at h ⊢
      cases hb : branchF bs f d i [] with
      | error p =>
        rw [hb] at h
        rw [hB d i [] _ hb (by intro e; apply hr; rw [← h]; exact e)]; exact h
      | ok p =>
        rw [hb] at h
        rw [hB d i [] _ hb (by intro e; cases e)]
        obtain ⟨t, j⟩ := p
        simp only at h ⊢
        split
        · rename_i h1; rw [if_pos h1] at h; exact hE _ _ _ _ h hr
        · rename_i h1; rw [if_neg h1] at h; exact h
    · rw [branchF] at h ⊢
      split
      · rename_i h1
        rw [if_pos h1] at h
        cases hb : pieceF bs f d i with
        | error p =>
          rw [hb] at h
          rw [hP d i _ hb (by intro e; apply hr; rw [← h]; exact e)]; exact h
        | ok p =>
          rw [hb] at h
          rw [hP d i _ hb (by intro e; cases e)]
          exact hB _ _ _ _ h hr
      · rename_i h1; rw [if_neg h1] at h; exact h
    · rw [pieceF] at h ⊢
      cases hb : atomF bs f d i with
      | error p =>
        rw [hb] at h
        rw [hA d i _ hb (by intro e; apply hr; rw [← h]; exact e)]; exact h
      | ok p =>
        rw [hb] at h
        rw [hA d i _ hb (by intro e; cases e)]; exact h
    · rw [atomF] at h ⊢
      split
      · rename_i h1
        rw [if_pos h1] at h
        split
        · rename_i h2; rw [if_pos h2] at h; exact h
        · rename_i h2
          rw [if_neg h2] at h
          cases hb : exprF bs f (d + 1) (i + 1) [] with
          | error p =>
            rw [hb] at h
            rw [hE _ _ _ _ hb (by intro e; apply hr; rw [← h]; exact e)]; exact h
          | ok p =>
            rw [hb] at h
            rw [hE _ _ _ _ hb (by intro e; cases e)]; exact h
      · rename_i h1; rw [if_neg h1] at h; exact h
theorem expr_fuel (bs : List UInt8) {f d i : Nat} {acc : List RT} {r : Res} (h : exprF bs f d i acc = r) (hr : r ≠ noFuel) : ∀ g, exprF bs (f + g) d i acc = r
  | 0 => h
  | g + 1 => (fuel_one bs (f + g)).1 d i acc r (expr_fuel bs h hr g) hr
theorem branch_fuel (bs : List UInt8) {f d i : Nat} {acc : List RT} {r : Res} (h : branchF bs f d i acc = r) (hr : r ≠ noFuel) : ∀ g, branchF bs (f + g) d i acc = r
  | 0 => h
  | g + 1 => (fuel_one bs (f + g)).2.1 d i acc r (branch_fuel bs h hr g) hr
theorem signsL_kind {bs : List UInt8} : ∀ (k : Nat) (t : RT) (i : Nat) (t' : RT) (j : Nat), signsL bs k t i = .ok (t', j) → t' = t ∨ t'.k = 4
  | 0, t, i, t', j, h => by
    rw [signsL] at h
    split at h
    · injection h with h; injection h with h1 h2; exact .inl h1.symm
    · split at h <;> cases h
  | k + 1, t, i, t', j, h => by
    rw [signsL] at h
    split at h
    · injection h with h; injection h with h1 h2; exact .inl h1.symm
    · split at h
      · cases h
      · rcases signsL_kind k _ _ _ _ h with h1 | h1
        · right; rw [h1]; rfl
        · exact .inr h1
theorem plainS_kind {bs : List UInt8} {i j : Nat} {t : RT} (h : plainS bs i = .ok (t, j)) : t.k ≠ 3 := by
  unfold plainS at h
  split at h
  · cases h
  · split at h
    · cases hb : bracketS bs i with
      | error p => rw [hb] at h; cases h
      | ok p =>
        obtain ⟨S, n⟩ := p
        rw [hb] at h
        simp only [setR] at h
        injection h with h; injection h with h1 h2; rw [← h1]; simp [tSet, RT.k]
    · (repeat' split at h) <;> first | (injection h with h; injection h with h1 h2; rw [← h1]; simp [tSet, RT.k]) | cases h
theorem branch_many {bs : List UInt8} : ∀ (f d i : Nat) (acc : List RT) (t : RT) (j : Nat), 2 ≤ acc.length → branchF bs f d i acc = .ok (t, j) → t.k = 2
  | 0, d, i, acc, t, j, _, h => by rw [branchF] at h; cases h
  | f + 1, d, i, acc, t, j, ha, h => by
    rw [branchF] at h
    split at h
    · cases hb : pieceF bs f d i with
      | error p => rw [hb] at h; cases h
      | ok p =>
        obtain ⟨t1, j1⟩ := p
        rw [hb] at h
        exact branch_many f d j1 _ t j (by simp; omega) h
    · injection h with h; injection h with h1 h2
      rw [← h1]
      match acc, ha with
      | a :: b :: r, _ => rfl
theorem branch_three {bs : List UInt8} {f d i j : Nat} {t : RT} (h : branchF bs f d i [] = .ok (t, j)) (hk : t.k = 3) : bn bs i = 40 := by
  rcases f with _ | f
  · rw [branchF] at h; cases h
  rw [branchF] at h
  split at h
  · cases hb : pieceF bs f d i with
    | error p => rw [hb] at h; cases h
    | ok p =>
      obtain ⟨t1, j1⟩ := p
      rw [hb] at h
      simp only [List.nil_append] at h
      have ht : t = t1 := by
        rcases f with _ | f
        · rw [branchF] at h; cases h
        rw [branchF] at h
        split at h
        · cases hb2 : pieceF bs f d j1 with
          | error p => rw [hb2] at h; cases h
          | ok p =>
            obtain ⟨t2, j2⟩ := p
            rw [hb2] at h
            have := branch_many f d j2 _ t j (by simp) h
            omega
        · injection h with h; injection h with h1 h2; exact h1.symm
      subst ht
      rcases f with _ | f
      · rw [pieceF] at hb; cases hb
      rw [pieceF] at hb
      cases ha : atomF bs f d i with
      | error p => rw [ha] at hb; cases hb
      | ok p =>
        obtain ⟨t2, j2⟩ := p
        rw [ha] at hb
        rcases signsL_kind 8 t2 j2 t j1 hb with h1 | h1
        · subst h1
          rcases f with _ | f
          · rw [atomF] at ha; cases ha
          rw [atomF] at ha
          split at ha
          · assumption
          · exact absurd hk (plainS_kind ha)
        · omega
  · injection h with h; injection h with h1 h2
    rw [← h1] at hk; simp [rowT, tNone, RT.k] at hk
section
variable {pre bs post : List UInt8}
theorem goesOn_in (hp : Stops post) {i : Nat} (hi : i ≤ bs.length) : goesOn (pre ++ bs ++ post) (i + pre.length) ↔ goesOn bs i := by
  unfold goesOn
  have hlW : (pre ++ bs ++ post).length = pre.length + bs.length + post.length := by simp; omega
  by_cases h : i < bs.length
  · rw [bn_in pre bs post h]
    constructor
    · intro h1; exact ⟨h, h1.2⟩
    · intro h1; exact ⟨by omega, h1.2⟩
  · obtain rfl : i = bs.length := by omega
    rw [bn_out]
    constructor
    · intro h1
      rcases hp with h2 | h2 | h2
      · exact absurd h2 h1.2.1
      · exact absurd h2 h1.2.2
      · subst h2; have := h1.1; simp at this; omega
    · intro h1; exact absurd h1.1 h
theorem read_in (hp : Stops post) {e : Nat} (he : e ≤ 1) : ∀ f : Nat,
    (∀ d i acc t j, i ≤ bs.length → d + e ≤ 64 → exprF bs f d i acc = .ok (t, j) → (j < bs.length ∨ bn post 0 ≠ 124) →
      ∃ l, l ≠ [] ∧ t = joinT (acc ++ l) ∧ (∀ t1, l = [t1] → t1.k = 3 → bn bs i = 40) ∧
        ((∀ acc', exprF (pre ++ bs ++ post) f (d + e) (i + pre.length) acc' = .ok (joinT (acc' ++ l), j + pre.length)) ∨ (e ≠ 0 ∧ ∃ p, ∀ acc', exprF (pre ++ bs ++ post) f (d + e) (i + pre.length) acc' = .error (p, 6)))) ∧
    (∀ d i acc t j, i ≤ bs.length → d + e ≤ 64 → branchF bs f d i acc = .ok (t, j) → branchF (pre ++ bs ++ post) f (d + e) (i + pre.length) acc = .ok (t, j + pre.length) ∨ (e ≠ 0 ∧ ∃ p, branchF (pre ++ bs ++ post) f (d + e) (i + pre.length) acc = .error (p, 6))) ∧
    (∀ d i t j, i < bs.length → d + e ≤ 64 → pieceF bs f d i = .ok (t, j) → pieceF (pre ++ bs ++ post) f (d + e) (i + pre.length) = .ok (t, j + pre.length) ∨ (e ≠ 0 ∧ ∃ p, pieceF (pre ++ bs ++ post) f (d + e) (i + pre.length) = .error (p, 6))) ∧
    (∀ d i t j, i < bs.length → d + e ≤ 64 → atomF bs f d i = .ok (t, j) → atomF (pre ++ bs ++ post) f (d + e) (i + pre.length) = .ok (t, j + pre.length) ∨ (e ≠ 0 ∧ ∃ p, atomF (pre ++ bs ++ post) f (d + e) (i + pre.length) = .error (p, 6)))
  | 0 => ⟨fun _ _ _ _ _ _ _ h => (by rw [exprF] at h; cases h), fun _ _ _ _ _ _ _ h => (by rw [branchF] at h; cases h), fun _ _ _ _ _ _ h => (by rw [pieceF] at h; cases h), fun _ _ _ _ _ _ h => (by rw [atomF] at h; cases h)⟩
  | f + 1 => by
    obtain ⟨hE, hB, hP, hA⟩ := read_in hp he f
    obtain ⟨-, lB, lP, lA⟩ := readF_le bs f
    refine ⟨fun d i acc t j hi hd h hj => ?_, fun d i acc t j hi hd h => ?_, fun d i t j hi hd h => ?_, fun d i t j hi hd h => ?_⟩
    · rw [exprF] at h
      cases hb : branchF bs f d i [] with
      | error p => rw [hb] at h; cases h
      | ok p =>
        obtain ⟨t1, j1⟩ := p
        rw [hb] at h
        simp only at h
        have hl1 := lB d i [] t1 j1 hi hb
        have hW := hB d i [] t1 j1 hi hd hb
        by_cases h124 : bn bs j1 = 124
        · rw [if_pos h124] at h
          have hj1 := bn_pos h124 (by omega)
          obtain ⟨l, hl, ht, -, hor⟩ := hE d (j1 + 1) (acc ++ [t1]) t j (by omega) hd h hj
          refine ⟨t1 :: l, by simp, by rw [ht, List.append_assoc]; rfl, fun t2 h2 => ?_, ?_⟩
          · injection h2 with h2 h3; exact absurd h3 hl
          · rcases hW with hW | ⟨he0, p, hW⟩
            · have hbW : bn (pre ++ bs ++ post) (j1 + pre.length) = 124 := by rw [bn_in pre bs post hj1]; exact h124
              rcases hor with hor | ⟨he0, p, hor⟩
              · left; intro acc'
                rw [exprF, hW]
                simp only
                rw [if_pos hbW, show j1 + pre.length + 1 = j1 + 1 + pre.length by omega, hor, List.append_assoc]; rfl
              · right; refine ⟨he0, p, fun acc' => ?_⟩
                rw [exprF, hW]
                simp only
                rw [if_pos hbW, show j1 + pre.length + 1 = j1 + 1 + pre.length by omega, hor]
            · right; refine ⟨he0, p, fun acc' => ?_⟩
              rw [exprF, hW]
        · rw [if_neg h124] at h
          injection h with h; injection h with h1 h2
          subst h2
          refine ⟨[t1], by simp, h1.symm, fun t2 h2 hk => ?_, ?_⟩
          · injection h2 with h2 _; subst h2; exact branch_three hb hk
          · rcases hW with hW | ⟨he0, p, hW⟩
            · left; intro acc'
              have hbW : bn (pre ++ bs ++ post) (j1 + pre.length) ≠ 124 := by
                by_cases hlt : j1 < bs.length
                · rw [bn_in pre bs post hlt]; exact h124
                · have : j1 = bs.length := by omega
                  rw [this, bn_out]
                  rcases hj with hj | hj
                  · omega
                  · exact hj
              rw [exprF, hW]
              simp only
              rw [if_neg hbW]
            · right; refine ⟨he0, p, fun acc' => ?_⟩
              rw [exprF, hW]
    · rw [branchF] at h ⊢
      by_cases hg : goesOn bs i
      · rw [if_pos hg] at h
        rw [if_pos ((goesOn_in hp hi).2 hg)]
        cases hb : pieceF bs f d i with
        | error p => rw [hb] at h; cases h
        | ok p =>
          obtain ⟨t1, j1⟩ := p
          rw [hb] at h
          have hl1 := lP d i t1 j1 hg.1 hb
          rcases hP d i t1 j1 hg.1 hd hb with hW | ⟨he0, p, hW⟩
          · rw [hW]; exact hB d j1 _ t j hl1.2 hd h
          · rw [hW]; exact .inr ⟨he0, p, rfl⟩
      · rw [if_neg hg] at h
        rw [if_neg (fun hh => hg ((goesOn_in hp hi).1 hh))]
        injection h with h; injection h with h1 h2
        subst h1 h2
        exact .inl rfl
    · rw [pieceF] at h ⊢
      cases hb : atomF bs f d i with
      | error p => rw [hb] at h; cases h
      | ok p =>
        obtain ⟨t1, j1⟩ := p
        rw [hb] at h
        have hl1 := lA d i t1 j1 hi hb
        rcases hA d i t1 j1 hi hd hb with hW | ⟨he0, p, hW⟩
        · rw [hW]; exact .inl (signsL_in hp 8 t1 j1 t j hl1.2 h)
        · rw [hW]; exact .inr ⟨he0, p, rfl⟩
    · rw [atomF] at h ⊢
      rw [bn_in pre bs post hi]
      by_cases h40 : bn bs i = 40
      · rw [if_pos h40] at h ⊢
        by_cases h64 : d = 64
        · rw [if_pos h64] at h; cases h
        · rw [if_neg h64] at h
          cases hb : exprF bs f (d + 1) (i + 1) [] with
          | error p => rw [hb] at h; cases h
          | ok p =>
            obtain ⟨t1, j1⟩ := p
            rw [hb] at h
            simp only [closeT] at h
            by_cases h41 : bn bs j1 = 41
            · rw [if_pos h41] at h
              have hj1 := bn_pos h41 (by omega)
              injection h with h; injection h with h1 h2
              by_cases h64' : d + e = 64
              · rw [if_pos h64']; exact .inr ⟨by omega, _, rfl⟩
              · rw [if_neg h64', show d + e + 1 = d + 1 + e by omega, show i + pre.length + 1 = i + 1 + pre.length by omega]
                obtain ⟨l, hl, ht, -, hor⟩ := hE (d + 1) (i + 1) [] t1 j1 (by omega) (by omega) hb (.inl hj1)
                rcases hor with hor | ⟨he0, p, hor⟩
                · rw [hor []]
                  simp only [closeT]
                  rw [bn_in pre bs post hj1, if_pos h41, ← ht, h1, ← h2]
                  left; congr 2; omega
                · rw [hor []]; exact .inr ⟨he0, p, rfl⟩
            · rw [if_neg h41] at h; cases h
      · rw [if_neg h40] at h ⊢
        exact .inl (plainS_in hp hi h)
end
theorem parse_read {a : List UInt8} {p : RT} (h : parseS a = .ok p) : a.length ≤ 1000 ∧ exprF a (6 * a.length + 5) 0 0 [] = .ok (p, a.length) := by
  unfold parseS at h
  by_cases h1 : 1000 < a.length
  · rw [if_pos h1] at h; cases h
  · rw [if_neg h1] at h
    cases hb : exprF a (6 * a.length + 5) 0 0 [] with
    | error q => rw [hb] at h; cases h
    | ok q =>
      obtain ⟨t, j⟩ := q
      rw [hb] at h
      simp only at h
      have hle := (readF_le a _).1 0 0 [] t j (Nat.zero_le _) hb
      by_cases h2 : j < a.length
      · rw [if_pos h2] at h; cases h
      · rw [if_neg h2] at h
        injection h with h
        exact ⟨by omega, by rw [h]; congr 2; omega⟩
theorem parse_of {a : List UInt8} {p : RT} (hl : a.length ≤ 1000) (h : exprF a (6 * a.length + 5) 0 0 [] = .ok (p, a.length)) : parseS a = .ok p := by
  unfold parseS
  rw [if_neg (by omega), h]
  simp
theorem read_first {a b : List UInt8} : ∀ (f i : Nat) (acc : List RT) (t : RT), i ≤ a.length → exprF a f 0 i acc = .ok (t, a.length) →
    ∃ l, l ≠ [] ∧ t = joinT (acc ++ l) ∧ (∀ t1, l = [t1] → t1.k = 3 → bn a i = 40) ∧
      ∀ (g : Nat) (acc' : List RT) (R : Res), exprF (a ++ 124 :: b) g 0 (a.length + 1) (acc' ++ l) = R → R ≠ noFuel → exprF (a ++ 124 :: b) (f + g) 0 i acc' = R
  | 0, i, acc, t, hi, h => by rw [exprF] at h; cases h
  | f + 1, i, acc, t, hi, h => by
    have hst : Stops (124 :: b) := .inl rfl
    rw [exprF] at h
    cases hb : branchF a f 0 i [] with
    | error p => rw [hb] at h; cases h
    | ok p =>
      obtain ⟨t1, j1⟩ := p
      rw [hb] at h
      simp only at h
      have hl1 := (readF_le a f).2.1 0 i [] t1 j1 hi hb
      have hW0 : branchF (a ++ 124 :: b) f 0 i [] = .ok (t1, j1) := by
        rcases (read_in (pre := []) (bs := a) (post := 124 :: b) hst (Nat.zero_le 1) f).2.1 0 i [] t1 j1 hi (by omega) hb with h1 | ⟨h1, -⟩
        · simpa using h1
        · exact absurd rfl h1
      by_cases h124 : bn a j1 = 124
      · rw [if_pos h124] at h
        have hj1 := bn_pos h124 (by omega)
        obtain ⟨l, hl, ht, -, hgo⟩ := read_first (b := b) f (j1 + 1) (acc ++ [t1]) t (by omega) h
        refine ⟨t1 :: l, by simp, by rw [ht, List.append_assoc]; rfl, fun t2 h2 => ?_, fun g acc' R hR hne => ?_⟩
        · injection h2 with h2 h3; exact absurd h3 hl
        · have hWg := branch_fuel _ hW0 (by intro e; cases e) g
          have hbW : bn (a ++ 124 :: b) j1 = 124 := by
            have := bn_in [] a (124 :: b) hj1
            simpa [h124] using this
          rw [show f + 1 + g = f + g + 1 by omega, exprF, hWg]
          simp only
          rw [if_pos hbW]
          exact hgo g (acc' ++ [t1]) R (by rw [List.append_assoc]; exact hR) hne
      · rw [if_neg h124] at h
        injection h with h; injection h with h1 h2
        refine ⟨[t1], by simp, h1.symm, fun t2 h3 hk => ?_, fun g acc' R hR hne => ?_⟩
        · injection h3 with h3 _; subst h3; exact branch_three hb hk
        · have hWg := branch_fuel _ hW0 (by intro e; cases e) g
          have hbW : bn (a ++ 124 :: b) j1 = 124 := by
            have := bn_out [] a (124 :: b)
            rw [h2]
            exact (show bn (a ++ 124 :: b) a.length = bn (124 :: b) 0 by simpa using this).trans rfl
          rw [show f + 1 + g = f + g + 1 by omega, exprF, hWg]
          simp only
          rw [if_pos hbW, h2]
          have := expr_fuel _ hR hne f
          rw [Nat.add_comm f g]; exact this
theorem parse_or {a b : List UInt8} {p q : RT} (hla : a.length ≤ 100) (hlb : b.length ≤ 100) (ha : parseS a = .ok p) (hb : parseS b = .ok q) :
    ∃ la lb : List RT, la ≠ [] ∧ lb ≠ [] ∧ p = joinT la ∧ q = joinT lb ∧ (∀ t, la = [t] → t.k = 3 → bn a 0 = 40) ∧ (∀ t, lb = [t] → t.k = 3 → bn b 0 = 40) ∧
      parseS (a ++ 124 :: b) = .ok (.mk 3 S4.empty 0 0 (la ++ lb)) := by
  obtain ⟨-, hra⟩ := parse_read ha
  obtain ⟨-, hrb⟩ := parse_read hb
  obtain ⟨la, hla0, hpa, hka, hgo⟩ := read_first (b := b) _ 0 [] p (Nat.zero_le _) hra
  rw [List.nil_append] at hpa
  have hW : (a ++ [124]) ++ b ++ [] = a ++ 124 :: b := by simp
  obtain ⟨lb, hlb0, hpb, hkb, hor⟩ := (read_in (pre := a ++ [124]) (bs := b) (post := []) (.inr (.inr rfl)) (Nat.zero_le 1) _).1 0 0 [] q b.length (Nat.zero_le _) (by omega) hrb (.inr (by decide))
  rw [List.nil_append] at hpb
  refine ⟨la, lb, hla0, hlb0, hpa, hpb, hka, hkb, ?_⟩
  rcases hor with hor | ⟨h0, -⟩
  · have h1 := hor la
    rw [hW] at h1
    have hp : (a ++ [124]).length = a.length + 1 := by simp
    rw [hp] at h1
    have h1' : exprF (a ++ 124 :: b) (6 * b.length + 5) 0 (a.length + 1) ([] ++ la) = .ok (joinT (la ++ lb), b.length + (a.length + 1)) := by simp only [Nat.zero_add] at h1; exact h1
    have h2 := hgo _ [] _ h1' (by intro e; cases e)
    have hlen : (a ++ 124 :: b).length = a.length + b.length + 1 := by rw [List.length_append, List.length_cons]; omega
    have h3 := expr_fuel _ h2 (by intro e; cases e) 1
    have hj : joinT (la ++ lb) = .mk 3 S4.empty 0 0 (la ++ lb) := by
      match la, lb, hla0, hlb0 with
      | [x], y :: r, _, _ => rfl
      | x :: y :: r, s, _, _ => rfl
    rw [hj] at h3
    refine parse_of (by omega) ?_
    rw [hlen, show 6 * (a.length + b.length + 1) + 5 = 6 * a.length + 5 + (6 * b.length + 5) + 1 by omega, h3]
    congr 2 <;> omega
  · exact absurd rfl h0
def eitherS (r s : Option (Nat × Nat)) : Option (Nat × Nat) := match r, s with
  | none, s => s
  | some p, none => some p
  | some p, some q => if q.1 < p.1 ∨ (q.1 = p.1 ∧ p.2 < q.2) then some q else some p
theorem Fst.left {L1 L2 L3 : List Sp} {tx : List UInt8} {from_ : Nat} {p : Nat × Nat} (hm : ∀ a c, a ≤ tx.length → (Mt L3 tx false a c ↔ Mt L1 tx false a c ∨ Mt L2 tx false a c)) (F : Fst L1 tx from_ p)
    (h : ∀ t e, from_ ≤ t → t ≤ tx.length → Mt L2 tx false t e → p.1 < t ∨ p.1 = t ∧ e ≤ p.2) : Fst L3 tx from_ p :=
  ⟨F.fr, F.le, F.len, (hm _ _ (Nat.le_trans F.le F.len)).2 (.inl F.mt), fun t e h1 h2 h3 => ((hm _ _ h2).1 h3).elim (F.all t e h1 h2) (h t e h1 h2)⟩
theorem find_either {L1 L2 L3 : List Sp} {tx : List UInt8} {from_ : Nat} (h1 : ProgOk L1) (h2 : ProgOk L2) (h3 : ProgOk L3) (z1 : 0 < L1.length) (z2 : 0 < L2.length) (z3 : 0 < L3.length) (hfr : from_ ≤ tx.length)
    (hm : ∀ a c, a ≤ tx.length → (Mt L3 tx false a c ↔ Mt L1 tx false a c ∨ Mt L2 tx false a c)) : findS L3 tx from_ = eitherS (findS L1 tx from_) (findS L2 tx from_) := by
  have hm' : ∀ a c, a ≤ tx.length → (Mt L3 tx false a c ↔ Mt L2 tx false a c ∨ Mt L1 tx false a c) := fun a c h => (hm a c h).trans Or.comm
  cases e1 : findS L1 tx from_ with
  | none =>
    have n1 := findS_none h1 z1 hfr e1
    cases e2 : findS L2 tx from_ with
    | none =>
      have n2 := findS_none h2 z2 hfr e2
      cases e3 : findS L3 tx from_ with
      | none => rfl
      | some q =>
        have F := findS_some h3 z3 hfr e3
        exfalso
        have hl := Nat.le_trans F.le F.len
        exact ((hm _ _ hl).1 F.mt).elim (n1 _ _ F.fr hl) (n2 _ _ F.fr hl)
    | some q =>
      exact findS_eq h3 z3 hfr ((findS_some h2 z2 hfr e2).left hm' fun t e a b c => absurd c (n1 t e a b))
  | some p =>
    have F1 := findS_some h1 z1 hfr e1
    cases e2 : findS L2 tx from_ with
    | none =>
      have n2 := findS_none h2 z2 hfr e2
      exact findS_eq h3 z3 hfr (F1.left hm fun t e a b c => absurd c (n2 t e a b))
    | some q =>
      have F2 := findS_some h2 z2 hfr e2
      unfold eitherS
      dsimp only
      split
      · rename_i hc
        refine findS_eq h3 z3 hfr (F2.left hm' fun t e a b c => ?_)
        have := F1.all t e a b c
        omega
      · rename_i hc
        refine findS_eq h3 z3 hfr (F1.left hm fun t e a b c => ?_)
        have := F2.all t e a b c
        omega
theorem semO_append (tx : List UInt8) : ∀ (l m : List PT) (a c : Nat), semO tx (l ++ m) a c ↔ semO tx l a c ∨ semO tx m a c
  | [], m, a, c => by rw [List.nil_append, semO]; exact ⟨.inr, fun h => h.elim (fun h => h.elim) id⟩
  | t :: r, m, a, c => by
    rw [List.cons_append, semO, semO]
    show (semP tx t a c ∨ semO tx (r ++ m) a c) ↔ (semP tx t a c ∨ semO tx r a c) ∨ semO tx m a c
    rw [semO_append tx r m a c, or_assoc]
theorem semO_join (tx : List UInt8) {l : List RT} (hl : l ≠ []) (a c : Nat) : semP tx (toP (joinT l)) a c ↔ semO tx (toL l) a c := by
  match l, hl with
  | [t], _ =>
    have e : joinT [t] = t := rfl
    rw [e, toL, toL, semO, semO]
    exact ⟨.inl, fun h => h.elim id (fun h => h.elim)⟩
  | x :: y :: r, _ =>
    have e : joinT (x :: y :: r) = .mk 3 S4.empty 0 0 (x :: y :: r) := rfl
    rw [e, toP, semP]
    simp
theorem toL_app : ∀ a b : List RT, toL (a ++ b) = toL a ++ toL b
  | [], b => by rw [toL]; rfl
  | t :: r, b => by rw [List.cons_append, toL, toL, toL_app r b]; rfl
theorem either_mt {a b : List UInt8} {p q t : RT} (hla : a.length ≤ 100) (hlb : b.length ≤ 100) (ha : parseS a = .ok p) (hb : parseS b = .ok q) (ht : parseS (a ++ 124 :: b) = .ok t) (tx : List UInt8) (x y : Nat) (hx : x ≤ tx.length) :
    Mt (progT t) tx false x y ↔ Mt (progT p) tx false x y ∨ Mt (progT q) tx false x y := by
  obtain ⟨la, lb, h1, h2, h3, h4, -, -, h5⟩ := parse_or hla hlb ha hb
  rw [ht] at h5
  injection h5 with h5
  rw [parse_mt ht tx hx, parse_mt ha tx hx, parse_mt hb tx hx, h3, h4, semO_join tx h1, semO_join tx h2, h5]
  have e : semP tx (toP (.mk 3 S4.empty 0 0 (la ++ lb))) x y ↔ semO tx (toL (la ++ lb)) x y := by rw [toP, semP]; simp
  rw [e, toL_app, semO_append]
theorem either_find {a b : List UInt8} {p q t : RT} (hla : a.length ≤ 100) (hlb : b.length ≤ 100) (ha : parseS a = .ok p) (hb : parseS b = .ok q) (ht : parseS (a ++ 124 :: b) = .ok t) (hp : FdL (progT p)) (hq : FdL (progT q)) (hT : FdL (progT t)) (tx : List UInt8) :
    findS (progT t) tx 0 = eitherS (findS (progT p) tx 0) (findS (progT q) tx 0) :=
  find_either hp.1 hq.1 hT.1 hp.2.1 hq.2.1 hT.2.1 (Nat.zero_le _) fun x y hx => either_mt hla hlb ha hb ht tx x y hx
end Go.Proofs.Ytekfpipgcpkejaa
