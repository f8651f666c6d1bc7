/-
  What is read is right, and has at most two parts a byte and one. No conditions.
-/
import Derived.Test.YtehnkcfnflnpjaaGh
namespace Go.Proofs.Ytehnkcfnflnpjaa
open Go.RowKit
set_option linter.unusedVariables false
set_option linter.unusedSimpArgs false

mutual
def rightT : RT → Bool | .mk k _ mn mx l => rightK k mn mx l.length && (if inner k then rightTL l else true)
def rightTL : List RT → Bool | [] => true | t :: r => rightT t && rightTL r
end
mutual
def cntT : RT → Nat | .mk _ _ _ _ l => cntTL l + 1
def cntTL : List RT → Nat | [] => 0 | t :: r => cntT t + cntTL r
end
mutual
theorem RepP.right : ∀ (t : RT) (p : PT), RepP t p → rightP p = rightT t
  | .mk k s mn mx l, p, h => by
    rw [RepP] at h
    obtain ⟨h1, -, -, -, -, h6, h7, h8⟩ := h
    rw [rightP_eq, rightT, h1, h6, h7, h8.len, RepL.right l p.l h8]
theorem RepL.right : ∀ (ts : List RT) (ps : List PT), RepL ts ps → rightL ps = rightTL ts
  | [], ps, h => by rw [RepL_nil] at h; subst h; rw [rightL, rightTL]
  | t :: r, [], h => by rw [RepL] at h; exact h.elim
  | t :: r, p :: ps, h => by rw [RepL_cons] at h; rw [rightL, rightTL, RepP.right t p h.1, RepL.right r ps h.2]
end
mutual
theorem RepP.cnt : ∀ (t : RT) (p : PT), RepP t p → cntP p = cntT t
  | .mk k s mn mx l, p, h => by
    rw [RepP] at h
    rw [cntP_eq, cntT, RepL.cnt l p.l h.2.2.2.2.2.2.2]
theorem RepL.cnt : ∀ (ts : List RT) (ps : List PT), RepL ts ps → cntL ps = cntTL ts
  | [], ps, h => by rw [RepL_nil] at h; subst h; rw [cntL, cntTL]
  | t :: r, [], h => by rw [RepL] at h; exact h.elim
  | t :: r, p :: ps, h => by rw [RepL_cons] at h; rw [cntL, cntTL, RepP.cnt t p h.1, RepL.cnt r ps h.2]
end
theorem rightTL_append : ∀ (a b : List RT), rightTL (a ++ b) = (rightTL a && rightTL b)
  | [], b => by rw [rightTL]; rfl
  | t :: r, b => by rw [List.cons_append, rightTL, rightTL_append r b, rightTL, Bool.and_assoc]
theorem cntTL_append : ∀ (a b : List RT), cntTL (a ++ b) = cntTL a + cntTL b
  | [], b => by rw [cntTL]; simp
  | t :: r, b => by rw [List.cons_append, cntTL, cntTL_append r b, cntTL]; omega
theorem rightTL_one (t : RT) : rightTL [t] = rightT t := by rw [rightTL, rightTL, Bool.and_true]
theorem cntTL_one (t : RT) : cntTL [t] = cntT t := by rw [cntTL, cntTL]; omega
theorem right_leaf (k : Int) (s : S4) (h : k = 0 ∨ k = 1 ∨ k = 5 ∨ k = 6) : rightT (.mk k s 0 0 []) = true := by
  rcases h with rfl | rfl | rfl | rfl <;> (rw [rightT]; simp [rightK, inner])
theorem right_row {l : List RT} (h : rightTL l = true) : rightT (rowT l) = true := by
  match l, h with
  | [], h => exact right_leaf 0 _ (.inl rfl)
  | [t], h => rw [rightTL_one] at h; exact h
  | a :: b :: r, h => show rightT (.mk 2 S4.empty 0 0 (a :: b :: r)) = true; rw [rightT, h]; simp [rightK, inner]
theorem right_join {l : List RT} (h : rightTL l = true) (hl : l ≠ []) : rightT (joinT l) = true := by
  match l, h, hl with
  | [t], h, _ => rw [rightTL_one] at h; exact h
  | a :: b :: r, h, _ => show rightT (.mk 3 S4.empty 0 0 (a :: b :: r)) = true; rw [rightT, h]; simp [rightK, inner]
theorem intervalT_range (l : List UInt8) (v n : Nat) : 0 ≤ (intervalT l v n).1 ∧ -1 ≤ (intervalT l v n).2.1 := by
  unfold intervalT
  (repeat' split) <;> simp <;> omega
theorem signS_range (bs : List UInt8) (i : Nat) : 0 ≤ (signS bs i).1 ∧ -1 ≤ (signS bs i).2.1 := by
  unfold signS
  split
  · simp
  · split
    · simp
    · split
      · simp
      · split
        · exact intervalT_range _ _ _
        · simp
theorem right_times {bs : List UInt8} {i : Nat} {t : RT} (ht : rightT t = true) (hb : badS (signS bs i) ≠ true) : rightT (tTimes (signS bs i).1 (signS bs i).2.1 t) = true := by
  obtain ⟨h1, h2⟩ := signS_range bs i
  generalize signS bs i = g at *
  obtain ⟨a, b, n⟩ := g
  unfold badS at hb
  simp at hb h1 h2
  obtain ⟨b1, b2, b3⟩ := hb
  unfold tTimes
  rw [rightT, rightTL_one, ht]
  simp [rightK, inner]
  refine ⟨h1, by omega, by omega, by omega, ?_⟩
  by_cases hb1 : b = -1
  · left; omega
  · right
    have := b3 hb1
    omega
theorem signs_good {bs : List UInt8} : ∀ (k : Nat) (t : RT) (i : Nat) (t' : RT) (j : Nat), rightT t = true → signsL bs k t i = .ok (t', j) → rightT t' = true ∧ cntT t' + 2 * i ≤ cntT t + 2 * j
  | 0, t, i, t', j, ht, h => by
    rw [signsL] at h
    split at h
    · injection h with h; injection h with h1 h2; subst h1 h2; exact ⟨ht, Nat.le_refl _⟩
    · split at h <;> cases h
  | k + 1, t, i, t', j, ht, h => by
    rw [signsL] at h
    split at h
    · injection h with h; injection h with h1 h2; subst h1 h2; exact ⟨ht, Nat.le_refl _⟩
    · rename_i h0
      split at h
      · cases h
      · rename_i hb
        have ih := signs_good k _ _ _ _ (right_times ht hb) h
        refine ⟨ih.1, ?_⟩
        have h3 := ih.2
        unfold tTimes at h3
        rw [cntT, cntTL_one] at h3
        omega
theorem plain_good {bs : List UInt8} {i j : Nat} {t : RT} (hi : i < bs.length) (h : plainS bs i = .ok (t, j)) : rightT t = true ∧ cntT t = 1 := by
  have leaf : ∀ (k : Int) (s : S4), (k = 0 ∨ k = 1 ∨ k = 5 ∨ k = 6) → rightT (.mk k s 0 0 []) = true ∧ cntT (.mk k s 0 0 []) = 1 := fun k s hk => ⟨right_leaf k s hk, by rw [cntT, cntTL]⟩
  unfold plainS at h
  split at h
  · cases h
  · split at h
    · cases hb : bracketS bs i with
      | error p => rw [hb] at h; cases h
      | ok p =>
        obtain ⟨S, n⟩ := p
        rw [hb] at h
        simp only [setR] at h
        injection h with h; injection h with h1 h2; rw [← h1]; exact leaf _ _ (by omega)
    · (repeat' split at h) <;> first | (injection h with h; injection h with h1 h2; rw [← h1]; exact leaf _ _ (by omega)) | cases h
theorem read_good (bs : List UInt8) : ∀ f : Nat,
    (∀ d i acc t j, i ≤ bs.length → rightTL acc = true → exprF bs f d i acc = .ok (t, j) → rightT t = true ∧ ∀ i0, i0 ≤ i → cntTL acc + acc.length + 2 * i0 ≤ 2 * i → cntT t + 2 * i0 ≤ 2 * j + 1) ∧
    (∀ d i acc t j, i ≤ bs.length → rightTL acc = true → branchF bs f d i acc = .ok (t, j) → rightT t = true ∧ ∀ i0, i0 ≤ i → cntTL acc + acc.length + 2 * i0 ≤ 2 * i → cntT t + 2 * i0 ≤ 2 * j + 1) ∧
    (∀ d i t j, i < bs.length → pieceF bs f d i = .ok (t, j) → rightT t = true ∧ cntT t + 1 + 2 * i ≤ 2 * j) ∧
    (∀ d i t j, i < bs.length → atomF bs f d i = .ok (t, j) → rightT t = true ∧ cntT t + 1 + 2 * i ≤ 2 * j)
  | 0 => ⟨fun _ _ _ _ _ _ _ h => (by rw [exprF] at h; cases h), fun _ _ _ _ _ _ _ h => (by rw [branchF] at h; cases h), fun _ _ _ _ _ h => (by rw [pieceF] at h; cases h), fun _ _ _ _ _ h => (by rw [atomF] at h; cases h)⟩
  | f + 1 => by
    obtain ⟨hE, hB, hP, hA⟩ := read_good bs f
    obtain ⟨-, lB, lP, lA⟩ := readF_le bs f
    refine ⟨fun d i acc t j hi hr h => ?_, fun d i acc t j hi hr h => ?_, fun d i t j hi h => ?_, fun d i t j hi h => ?_⟩
    · rw [exprF] at h
      cases hb : branchF bs f d i [] with
      | error p => rw [hb] at h; cases h
      | ok p =>
        obtain ⟨t1, j1⟩ := p
        rw [hb] at h
        simp only at h
        have h1 := lB d i [] t1 j1 hi hb
        obtain ⟨g1, g2⟩ := hB d i [] t1 j1 hi (by rw [rightTL]) hb
        have g3 := g2 i (Nat.le_refl _) (by rw [cntTL]; simp)
        have hr' : rightTL (acc ++ [t1]) = true := by rw [rightTL_append, hr, rightTL_one, g1]; rfl
        by_cases h124 : bn bs j1 = 124
        · rw [if_pos h124] at h
          have := bn_pos h124 (by omega)
          obtain ⟨k1, k2⟩ := hE d (j1 + 1) _ t j (by omega) hr' h
          refine ⟨k1, fun i0 hi0 hc => k2 i0 (by omega) ?_⟩
          rw [cntTL_append, cntTL_one, List.length_append]
          simp; omega
        · rw [if_neg h124] at h
          injection h with h; injection h with h2 h3
          subst h2 h3
          refine ⟨right_join hr' (by simp), fun i0 hi0 hc => ?_⟩
          match acc, hc with
          | [], hc =>
            show cntT t1 + 2 * i0 ≤ _
            rw [cntTL] at hc
            simp at hc; omega
          | a :: r, hc =>
            have hj : joinT (a :: r ++ [t1]) = .mk 3 S4.empty 0 0 (a :: r ++ [t1]) := by
              match r with
              | [] => rfl
              | b :: r => rfl
            rw [hj, cntT, cntTL_append, cntTL_one]
            simp at hc ⊢; omega
    · rw [branchF] at h
      by_cases hg : goesOn bs i
      · rw [if_pos hg] at h
        cases hb : pieceF bs f d i with
        | error p => rw [hb] at h; cases h
        | ok p =>
          obtain ⟨t1, j1⟩ := p
          rw [hb] at h
          have h1 := lP d i t1 j1 hg.1 hb
          obtain ⟨g1, g2⟩ := hP d i t1 j1 hg.1 hb
          have hr' : rightTL (acc ++ [t1]) = true := by rw [rightTL_append, hr, rightTL_one, g1]; rfl
          obtain ⟨k1, k2⟩ := hB d j1 _ t j h1.2 hr' h
          refine ⟨k1, fun i0 hi0 hc => k2 i0 (by omega) ?_⟩
          rw [cntTL_append, cntTL_one, List.length_append]
          simp; omega
      · rw [if_neg hg] at h
        injection h with h; injection h with h2 h3
        subst h2 h3
        refine ⟨right_row hr, fun i0 hi0 hc => ?_⟩
        match acc, hc with
        | [], hc => show cntT tNone + 2 * i0 ≤ _; unfold tNone; rw [cntT, cntTL]; omega
        | [a], hc => show cntT a + 2 * i0 ≤ _; rw [cntTL_one] at hc; simp at hc; omega
        | a :: b :: r, hc =>
          show cntT (.mk 2 S4.empty 0 0 (a :: b :: r)) + 2 * i0 ≤ _
          rw [cntT]
          simp at hc; omega
    · rw [pieceF] at h
      cases hb : atomF bs f d i with
      | error p => rw [hb] at h; cases h
      | ok p =>
        obtain ⟨t1, j1⟩ := p
        rw [hb] at h
        obtain ⟨g1, g2⟩ := hA d i t1 j1 hi hb
        obtain ⟨k1, k2⟩ := signs_good 8 t1 j1 t j g1 h
        exact ⟨k1, by omega⟩
    · rw [atomF] at h
      split at h
      · split at h
        · cases h
        · cases hb : exprF bs f (d + 1) (i + 1) [] with
          | error p => rw [hb] at h; cases h
          | ok p =>
            obtain ⟨t1, j1⟩ := p
            rw [hb] at h
            simp only [closeT] at h
            split at h
            · injection h with h; injection h with h2 h3
              subst h2 h3
              obtain ⟨g1, g2⟩ := hE (d + 1) (i + 1) [] t1 j1 (by omega) (by rw [rightTL]) hb
              have g3 := g2 (i + 1) (Nat.le_refl _) (by rw [cntTL]; simp)
              exact ⟨g1, by omega⟩
            · cases h
      · obtain ⟨g1, g2⟩ := plain_good hi h
        have := plainS_le hi h
        exact ⟨g1, by omega⟩
theorem parse_good {bs : List UInt8} {t : RT} (h : parseS bs = .ok t) : rightT t = true ∧ cntT t ≤ 2 * bs.length + 1 := by
  unfold parseS at h
  by_cases h1 : 1000 < bs.length
  · rw [if_pos h1] at h; cases h
  · rw [if_neg h1] at h
    cases hb : exprF bs (6 * bs.length + 5) 0 0 [] with
    | error q => rw [hb] at h; cases h
    | ok q =>
      obtain ⟨t1, j⟩ := q
      rw [hb] at h
      simp only at h
      have hle := (readF_le bs _).1 0 0 [] t1 j (Nat.zero_le _) hb
      obtain ⟨g1, g2⟩ := (read_good bs _).1 0 0 [] t1 j (Nat.zero_le _) (by rw [rightTL]) hb
      have g3 := g2 0 (Nat.le_refl _) (by rw [cntTL]; simp)
      by_cases h2 : j < bs.length
      · rw [if_pos h2] at h; cases h
      · rw [if_neg h2] at h
        injection h with h
        subst h
        exact ⟨g1, by omega⟩
end Go.Proofs.Ytehnkcfnflnpjaa
