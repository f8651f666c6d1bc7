/-
  Plain law of EreJoins: two expressions with | between; one in brackets. No program, no conditions.
-/
import Derived.Test.YtmecogilhoebgaaErZ
namespace Go.Proofs.Ytmecogilhoebgaa
set_option linter.unusedVariables false
set_option linter.unusedSimpArgs false

theorem parse_read {a : List UInt8} {p : RT} (h : parseS a = .ok p) : a.length ≤ 1000 ∧ exprF a (6 * a.length + 5) 0 0 [] = .ok (p, a.length) := by
  unfold parseS at h
  by_cases h1 : 1000 < a.length
  · rw [if_pos h1] at h; cases h
  · rw [if_neg h1] at h
    cases hb : exprF a (6 * a.length + 5) 0 0 [] with
    | error q => rw [hb] at h; cases h
    | ok q =>
      obtain ⟨t, j⟩ := q
      rw [hb] at h
      simp only at h
      have hle := (readF_le a _).1 0 0 [] t j (Nat.zero_le _) hb
      by_cases h2 : j < a.length
      · rw [if_pos h2] at h; cases h
      · rw [if_neg h2] at h
        injection h with h
        exact ⟨by omega, by rw [h]; congr 2; omega⟩
theorem parse_of {a : List UInt8} {p : RT} (hl : a.length ≤ 1000) (h : exprF a (6 * a.length + 5) 0 0 [] = .ok (p, a.length)) : parseS a = .ok p := by
  unfold parseS
  rw [if_neg (by omega), h]
  simp
/-- In brackets. -/
theorem parse_in {a : List UInt8} {p : RT} (hl : a.length ≤ 900) (h : parseS a = .ok p) : parseS ([40] ++ a ++ [41]) = .ok p ∨ ∃ q, parseS ([40] ++ a ++ [41]) = .error (q, 6) := by
  obtain ⟨-, hr⟩ := parse_read h
  obtain ⟨F, hF⟩ : ∃ F, F = 6 * a.length + 5 := ⟨_, rfl⟩
  rw [← hF] at hr
  obtain ⟨l, hl0, hp, -, hor⟩ := (read_in (pre := [40]) (bs := a) (post := [41]) (.inr (.inl rfl)) (Nat.le_refl 1) F).1 0 0 [] p a.length (Nat.zero_le _) (by omega) hr (.inr (by decide))
  rw [List.nil_append] at hp
  have hlen : ([40] ++ a ++ [41]).length = a.length + 2 := by simp
  have hfu : 6 * ([40] ++ a ++ [41]).length + 5 = F + 9 + 3 := by rw [hlen, hF]; omega
  have hb0 : bn ([40] ++ a ++ [41]) 0 = 40 := rfl
  have hg : goesOn ([40] ++ a ++ [41]) 0 := ⟨by rw [hlen]; omega, by omega, by omega⟩
  have hbe : bn ([40] ++ a ++ [41]) (a.length + 1) = 41 := by
    have := bn_out [40] a [41]
    exact this
  have hend : bn ([40] ++ a ++ [41]) (a.length + 2) = 0 := bn_over (by rw [hlen]; omega)
  rcases hor with hor | ⟨-, q, hor⟩
  · left
    have h1 := hor []
    rw [List.nil_append, ← hp] at h1
    have h2 := expr_fuel _ h1 (by intro e; cases e) 8
    have hat : atomF ([40] ++ a ++ [41]) (F + 9) 0 0 = .ok (p, a.length + 2) := by
      rw [atomF, if_pos hb0, if_neg (by omega)]
      have h3 : exprF ([40] ++ a ++ [41]) (F + 8) (0 + 1) (0 + 1) [] = .ok (p, a.length + 1) := h2
      rw [h3]
      simp only [closeT]
      rw [if_pos hbe]
    have hs : (signS ([40] ++ a ++ [41]) (a.length + 2)).2.2 = 0 := signS_none (by omega) (by omega) (by omega) (by omega)
    have hx := expr_atom (d := 0) hg hat hs (fun hh => by have := hh.1; omega) (by omega)
    refine parse_of (by omega) ?_
    rw [hfu, hx, hlen]
  · right
    have h1 := hor []
    have h2 := expr_fuel _ h1 (by intro e; cases e) 8
    have hat : atomF ([40] ++ a ++ [41]) (F + 9) 0 0 = .error (q, 6) := by
      rw [atomF, if_pos hb0, if_neg (by omega)]
      have h3 : exprF ([40] ++ a ++ [41]) (F + 8) (0 + 1) (0 + 1) [] = .error (q, 6) := h2
      rw [h3]
      rfl
    have hx := expr_atom_bad (d := 0) hg hat
    refine ⟨q, ?_⟩
    unfold parseS
    rw [if_neg (by omega), hfu, hx]
/-- The first of two: what it adds, and that reading goes on. -/
theorem read_first {a b : List UInt8} : ∀ (f i : Nat) (acc : List RT) (t : RT), i ≤ a.length → exprF a f 0 i acc = .ok (t, a.length) →
    ∃ l, l ≠ [] ∧ t = joinT (acc ++ l) ∧ (∀ t1, l = [t1] → t1.k = 3 → bn a i = 40) ∧
      ∀ (g : Nat) (acc' : List RT) (R : Res), exprF (a ++ 124 :: b) g 0 (a.length + 1) (acc' ++ l) = R → R ≠ noFuel → exprF (a ++ 124 :: b) (f + g) 0 i acc' = R
  | 0, i, acc, t, hi, h => by rw [exprF] at h; cases h
  | f + 1, i, acc, t, hi, h => by
    have hst : Stops (124 :: b) := .inl rfl
    rw [exprF] at h
    cases hb : branchF a f 0 i [] with
    | error p => rw [hb] at h; cases h
    | ok p =>
      obtain ⟨t1, j1⟩ := p
      rw [hb] at h
      simp only at h
      have hl1 := (readF_le a f).2.1 0 i [] t1 j1 hi hb
      have hW0 : branchF (a ++ 124 :: b) f 0 i [] = .ok (t1, j1) := by
        rcases (read_in (pre := []) (bs := a) (post := 124 :: b) hst (Nat.zero_le 1) f).2.1 0 i [] t1 j1 hi (by omega) hb with h1 | ⟨h1, -⟩
        · simpa using h1
        · exact absurd rfl h1
      by_cases h124 : bn a j1 = 124
      · rw [if_pos h124] at h
        have hj1 := bn_pos h124 (by omega)
        obtain ⟨l, hl, ht, -, hgo⟩ := read_first (b := b) f (j1 + 1) (acc ++ [t1]) t (by omega) h
        refine ⟨t1 :: l, by simp, by rw [ht, List.append_assoc]; rfl, fun t2 h2 => ?_, fun g acc' R hR hne => ?_⟩
        · injection h2 with h2 h3; exact absurd h3 hl
        · have hWg := branch_fuel _ hW0 (by intro e; cases e) g
          have hbW : bn (a ++ 124 :: b) j1 = 124 := by
            have := bn_in [] a (124 :: b) hj1
            simpa [h124] using this
          rw [show f + 1 + g = f + g + 1 by omega, exprF, hWg]
          simp only
          rw [if_pos hbW]
          exact hgo g (acc' ++ [t1]) R (by rw [List.append_assoc]; exact hR) hne
      · rw [if_neg h124] at h
        injection h with h; injection h with h1 h2
        refine ⟨[t1], by simp, h1.symm, fun t2 h3 hk => ?_, fun g acc' R hR hne => ?_⟩
        · injection h3 with h3 _; subst h3; exact branch_three hb hk
        · have hWg := branch_fuel _ hW0 (by intro e; cases e) g
          have hbW : bn (a ++ 124 :: b) j1 = 124 := by
            have := bn_out [] a (124 :: b)
            rw [h2]
            exact (show bn (a ++ 124 :: b) a.length = bn (124 :: b) 0 by simpa using this).trans rfl
          rw [show f + 1 + g = f + g + 1 by omega, exprF, hWg]
          simp only
          rw [if_pos hbW, h2]
          have := expr_fuel _ hR hne f
          rw [Nat.add_comm f g]; exact this
/-- Two with | between. -/
theorem parse_or {a b : List UInt8} {p q : RT} (hla : a.length ≤ 100) (hlb : b.length ≤ 100) (ha : parseS a = .ok p) (hb : parseS b = .ok q) :
    ∃ la lb : List RT, la ≠ [] ∧ lb ≠ [] ∧ p = joinT la ∧ q = joinT lb ∧ (∀ t, la = [t] → t.k = 3 → bn a 0 = 40) ∧ (∀ t, lb = [t] → t.k = 3 → bn b 0 = 40) ∧
      parseS (a ++ 124 :: b) = .ok (.mk 3 S4.empty 0 0 (la ++ lb)) := by
  obtain ⟨-, hra⟩ := parse_read ha
  obtain ⟨-, hrb⟩ := parse_read hb
  obtain ⟨la, hla0, hpa, hka, hgo⟩ := read_first (b := b) _ 0 [] p (Nat.zero_le _) hra
  rw [List.nil_append] at hpa
  have hW : (a ++ [124]) ++ b ++ [] = a ++ 124 :: b := by simp
  obtain ⟨lb, hlb0, hpb, hkb, hor⟩ := (read_in (pre := a ++ [124]) (bs := b) (post := []) (.inr (.inr rfl)) (Nat.zero_le 1) _).1 0 0 [] q b.length (Nat.zero_le _) (by omega) hrb (.inr (by decide))
  rw [List.nil_append] at hpb
  refine ⟨la, lb, hla0, hlb0, hpa, hpb, hka, hkb, ?_⟩
  rcases hor with hor | ⟨h0, -⟩
  · have h1 := hor la
    rw [hW] at h1
    have hp : (a ++ [124]).length = a.length + 1 := by simp
    rw [hp] at h1
    have h1' : exprF (a ++ 124 :: b) (6 * b.length + 5) 0 (a.length + 1) ([] ++ la) = .ok (joinT (la ++ lb), b.length + (a.length + 1)) := by simp only [Nat.zero_add] at h1; exact h1
    have h2 := hgo _ [] _ h1' (by intro e; cases e)
    have hlen : (a ++ 124 :: b).length = a.length + b.length + 1 := by rw [List.length_append, List.length_cons]; omega
    have h3 := expr_fuel _ h2 (by intro e; cases e) 1
    have hj : joinT (la ++ lb) = .mk 3 S4.empty 0 0 (la ++ lb) := by
      match la, lb, hla0, hlb0 with
      | [x], y :: r, _, _ => rfl
      | x :: y :: r, s, _, _ => rfl
    rw [hj] at h3
    refine parse_of (by omega) ?_
    rw [hlen, show 6 * (a.length + b.length + 1) + 5 = 6 * a.length + 5 + (6 * b.length + 5) + 1 by omega, h3]
    congr 2 <;> omega
  · exact absurd rfl h0
end Go.Proofs.Ytmecogilhoebgaa
