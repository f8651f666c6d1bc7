/-
  The reader of expressions as plain functions over bytes and places. No program, no conditions.
-/
import Derived.Test.YtmecogilhoebgaaBracket
import Derived.Test.YtmecogilhoebgaaErN
namespace Go.Proofs.Ytmecogilhoebgaa
set_option linter.unusedVariables false
set_option linter.unusedSimpArgs false

/-- A part without places: its kind, set, bounds, its parts. -/
inductive RT where
  | mk (k : Int) (s : S4) (mn mx : Int) (l : List RT)
namespace RT
def k : RT → Int | mk k _ _ _ _ => k
def s : RT → S4 | mk _ s _ _ _ => s
def mn : RT → Int | mk _ _ m _ _ => m
def mx : RT → Int | mk _ _ _ m _ => m
def l : RT → List RT | mk _ _ _ _ l => l
end RT

abbrev Res := Except (Nat × Nat) (RT × Nat)
def tSet (s : S4) : RT := .mk 1 s 0 0 []
def tNone : RT := .mk 0 S4.empty 0 0 []
def tTimes (a b : Int) (t : RT) : RT := .mk 4 S4.empty a b [t]
def badS (g : Int × Int × Nat) : Bool := decide (255 < g.1) || (decide (255 < g.2.1) || (!(g.2.1 == -1) && decide (g.2.1 < g.1)))
/-- The signs behind an atom. -/
def signsL (bs : List UInt8) : Nat → RT → Nat → Res
  | 0, t, i => if (signS bs i).2.2 = 0 then .ok (t, i) else if badS (signS bs i) = true then .error (i, 5) else .error (i, 6)
  | k + 1, t, i => if (signS bs i).2.2 = 0 then .ok (t, i) else if badS (signS bs i) = true then .error (i, 5)
      else signsL bs k (tTimes (signS bs i).1 (signS bs i).2.1 t) (i + (signS bs i).2.2)
def joinT (l : List RT) : RT := match l with | [t] => t | l => .mk 3 S4.empty 0 0 l
def rowT (l : List RT) : RT := match l with | [] => tNone | [t] => t | l => .mk 2 S4.empty 0 0 l
def setR : Except (Nat × Nat) (S4 × Nat) → Nat → Res
  | .error p, _ => .error p
  | .ok (S, n), i => .ok (tSet S, i + n)
/-- An atom that is no group, whose byte is c. -/
def plainS (bs : List UInt8) (i : Nat) : Res :=
  if bn bs i = 42 ∨ bn bs i = 43 ∨ bn bs i = 63 then .error (i, 4)
  else if bn bs i = 91 then setR (bracketS bs i) i
  else if bn bs i = 46 then .ok (tSet (S4.range 0 255), i + 1)
  else if bn bs i = 94 then .ok (.mk 5 S4.empty 0 0 [], i + 1)
  else if bn bs i = 36 then .ok (.mk 6 S4.empty 0 0 [], i + 1)
  else if bn bs i = 92 then (if bs.length ≤ i + 1 then .error (bs.length, 7) else .ok (tSet (S4.range (escN (bn bs (i + 1))) (escN (bn bs (i + 1)))), i + 2))
  else .ok (tSet (S4.range (bn bs i) (bn bs i)), i + 1)
def closeT (bs : List UInt8) : Res → Res
  | .error p => .error p
  | .ok (t, j) => if bn bs j = 41 then .ok (t, j + 1) else .error (bs.length, 7)
def goesOn (bs : List UInt8) (i : Nat) : Prop := i < bs.length ∧ bn bs i ≠ 124 ∧ bn bs i ≠ 41
instance (bs : List UInt8) (i : Nat) : Decidable (goesOn bs i) := by unfold goesOn; infer_instance
mutual
def exprF (bs : List UInt8) : Nat → Nat → Nat → List RT → Res
  | 0, _, _, _ => .error (0, 99)
  | f + 1, d, i, acc => match branchF bs f d i [] with
    | .error p => .error p
    | .ok (t, j) => if bn bs j = 124 then exprF bs f d (j + 1) (acc ++ [t]) else .ok (joinT (acc ++ [t]), j)
def branchF (bs : List UInt8) : Nat → Nat → Nat → List RT → Res
  | 0, _, _, _ => .error (0, 99)
  | f + 1, d, i, acc => if goesOn bs i then (match pieceF bs f d i with
    | .error p => .error p
    | .ok (t, j) => branchF bs f d j (acc ++ [t])) else .ok (rowT acc, i)
def pieceF (bs : List UInt8) : Nat → Nat → Nat → Res
  | 0, _, _ => .error (0, 99)
  | f + 1, d, i => match atomF bs f d i with
    | .error p => .error p
    | .ok (t, j) => signsL bs 8 t j
def atomF (bs : List UInt8) : Nat → Nat → Nat → Res
  | 0, _, _ => .error (0, 99)
  | f + 1, d, i => if bn bs i = 40 then (if d = 64 then .error (i, 6) else closeT bs (exprF bs f (d + 1) (i + 1) [])) else plainS bs i
end
/-- An expression as a whole. -/
def parseS (bs : List UInt8) : Except (Nat × Nat) RT :=
  if 1000 < bs.length then .error (0, 5)
  else match exprF bs (6 * bs.length + 5) 0 0 [] with
    | .error p => .error p
    | .ok (t, j) => if j < bs.length then .error (j, 4) else .ok t

/-! Where reading ends. -/
theorem signsL_le (bs : List UInt8) : ∀ (k : Nat) (t : RT) (i : Nat) (t' : RT) (j : Nat), i ≤ bs.length → signsL bs k t i = .ok (t', j) → i ≤ j ∧ j ≤ bs.length
  | 0, t, i, t', j, hi, h => by
    unfold signsL at h
    split at h
    · injection h with h; injection h with h1 h2; omega
    · split at h <;> cases h
  | k + 1, t, i, t', j, hi, h => by
    unfold signsL at h
    split at h
    · injection h with h; injection h with h1 h2; omega
    · split at h
      · cases h
      · have h0 := signS_le bs i hi
        have := signsL_le bs k _ _ t' j h0 h
        omega
theorem bracketS_le {bs : List UInt8} {i n : Nat} {S : S4} (hi : i < bs.length) (h : bracketS bs i = .ok (S, n)) : 0 < n ∧ i + n ≤ bs.length ∧ S.ok := by
  have hL : ∀ (first k nx : Nat) (S0 S : S4) (m : Nat), S0.ok → bs.length + 1 ≤ nx + k → (nx ≤ bs.length) → brkL bs first k nx S0 = .ok (S, m) → nx ≤ m ∧ m < bs.length ∧ S.ok := by
    intro first k
    induction k with
    | zero => intro nx S0 S m _ h1 h2 _; omega
    | succ k ih =>
      intro nx S0 S m hok h1 h2 h
      unfold brkL at h
      split at h
      · cases hm : memberS bs nx with
        | error p => rw [hm] at h; cases h
        | ok p =>
          obtain ⟨R, n⟩ := p
          rw [hm] at h
          obtain ⟨hr, h3, h4⟩ := memberS_ok hm
          have := ih n (S0.or R) S m (S4.or_ok hok hr) (by omega) h4 h
          exact ⟨by omega, this.2⟩
      · rename_i hg
        injection h with h; injection h with h5 h6
        subst h5 h6
        exact ⟨Nat.le_refl _, by omega, hok⟩
  have hE : ∀ (neg : Bool) (r : Except (Nat × Nat) (S4 × Nat)) (S : S4) (n : Nat), brkE neg i r = .ok (S, n) → ∃ S' m, r = .ok (S', m) ∧ n = m + 1 - i ∧ (S'.ok → S.ok) := by
    intro neg r S n h
    cases r with
    | error p => cases h
    | ok p =>
      obtain ⟨S', m⟩ := p
      simp only [brkE] at h
      injection h with h; injection h with h1 h2
      refine ⟨S', m, rfl, h2.symm, fun hok => ?_⟩
      subst h1
      cases neg
      · exact hok
      · exact S4.not_ok _
  unfold bracketS at h
  split at h
  · obtain ⟨S', m, h1, h2, h3⟩ := hE _ _ _ _ h
    have := hL _ _ _ _ _ _ S4.empty_ok (by omega) (by omega) h1
    exact ⟨by omega, by omega, h3 this.2.2⟩
  · obtain ⟨S', m, h1, h2, h3⟩ := hE _ _ _ _ h
    have := hL _ _ _ _ _ _ S4.empty_ok (by omega) (by omega) h1
    exact ⟨by omega, by omega, h3 this.2.2⟩
theorem plainS_le {bs : List UInt8} {i j : Nat} {t : RT} (hi : i < bs.length) (h : plainS bs i = .ok (t, j)) : i < j ∧ j ≤ bs.length := by
  unfold plainS at h
  split at h
  · cases h
  · split at h
    · cases hb : bracketS bs i with
      | error p => rw [hb] at h; cases h
      | ok p =>
        obtain ⟨S, n⟩ := p
        rw [hb] at h
        have := bracketS_le hi hb
        simp only [setR] at h
        injection h with h; injection h with h1 h2
        omega
    · (repeat' split at h) <;> first | (injection h with h; injection h with h1 h2; omega) | cases h
/-- Reading ends behind where it began, and within the text. -/
theorem readF_le (bs : List UInt8) : ∀ f : Nat,
    (∀ d i acc t j, i ≤ bs.length → exprF bs f d i acc = .ok (t, j) → i ≤ j ∧ j ≤ bs.length) ∧
    (∀ d i acc t j, i ≤ bs.length → branchF bs f d i acc = .ok (t, j) → i ≤ j ∧ j ≤ bs.length) ∧
    (∀ d i t j, i < bs.length → pieceF bs f d i = .ok (t, j) → i < j ∧ j ≤ bs.length) ∧
    (∀ d i t j, i < bs.length → atomF bs f d i = .ok (t, j) → i < j ∧ j ≤ bs.length)
  | 0 => ⟨fun _ _ _ _ _ _ h => (by simp [exprF, branchF, pieceF, atomF] at h), fun _ _ _ _ _ _ h => (by simp [exprF, branchF, pieceF, atomF] at h), fun _ _ _ _ _ h => (by simp [exprF, branchF, pieceF, atomF] at h), fun _ _ _ _ _ h => (by simp [exprF, branchF, pieceF, atomF] at h)⟩
  | f + 1 => by
    obtain ⟨hE, hB, hP, hA⟩ := readF_le bs f
    refine ⟨fun d i acc t j hi h => ?_, fun d i acc t j hi h => ?_, fun d i t j hi h => ?_, fun d i t j hi h => ?_⟩
    · unfold exprF at h
      cases hb : branchF bs f d i [] with
      | error p => rw [hb] at h; cases h
      | ok p =>
        obtain ⟨t1, j1⟩ := p
        rw [hb] at h
        have h1 := hB d i [] t1 j1 hi hb
        simp only at h
        split at h
        · rename_i h2
          have h3 := bn_pos h2 (by omega)
          have := hE d (j1 + 1) _ t j (by omega) h
          omega
        · injection h with h; injection h with h3 h4; omega
    · unfold branchF at h
      split at h
      · rename_i hg
        cases hb : pieceF bs f d i with
        | error p => rw [hb] at h; cases h
        | ok p =>
          obtain ⟨t1, j1⟩ := p
          rw [hb] at h
          have h1 := hP d i t1 j1 hg.1 hb
          have := hB d j1 _ t j h1.2 h
          omega
      · injection h with h; injection h with h3 h4; omega
    · unfold pieceF at h
      cases hb : atomF bs f d i with
      | error p => rw [hb] at h; cases h
      | ok p =>
        obtain ⟨t1, j1⟩ := p
        rw [hb] at h
        have h1 := hA d i t1 j1 hi hb
        have := signsL_le bs 8 t1 j1 t j h1.2 h
        omega
    · unfold atomF at h
      split at h
      · split at h
        · cases h
        · cases hb : exprF bs f (d + 1) (i + 1) [] with
          | error p => rw [hb] at h; cases h
          | ok p =>
            obtain ⟨t1, j1⟩ := p
            rw [hb] at h
            have h1 := hE _ _ _ t1 j1 (by omega) hb
            simp only [closeT] at h
            split at h
            · rename_i h2
              have := bn_pos h2 (by omega)
              injection h with h; injection h with h3 h4; omega
            · cases h
      · exact plainS_le hi h
end Go.Proofs.Ytmecogilhoebgaa
