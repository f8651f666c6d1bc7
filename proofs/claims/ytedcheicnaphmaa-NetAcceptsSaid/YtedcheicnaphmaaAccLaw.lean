/-
  The connections of NetAccepts: what was asked for, what came in, in their order. No program, no conditions.
-/
import Derived.Test.YtedcheicnaphmaaNetAw
namespace Go.Proofs.Ytedcheicnaphmaa
open Go.RowKit
set_option linter.unusedVariables false
set_option linter.unusedSimpArgs false

def nameB : List UInt8 := [110, 97, 109, 101]
/-- The wires behind n rounds, of which those below m are told. -/
def wsT (bl : Nat → Bool) (n m : Nat) : List Wr := (List.range n).map fun j => if bl j then askedW nameB else { cameW 0 with fr := decide (m ≤ j) }
theorem wsT_length (bl : Nat → Bool) (n m : Nat) : (wsT bl n m).length = n := by simp [wsT]
theorem wsT_get (bl : Nat → Bool) {n m j : Nat} (h : j < n) : (wsT bl n m).getD j default = if bl j then askedW nameB else { cameW 0 with fr := decide (m ≤ j) } := by simp [wsT, h]
theorem wsT_succ (bl : Nat → Bool) (n : Nat) : wsT bl (n + 1) 0 = wsT bl n 0 ++ [if bl n then askedW nameB else cameW 0] := by
  unfold wsT
  rw [List.range_succ, List.map_append]
  congr 1
/-- The numbers of those that came in. -/
def inL (bl : Nat → Bool) : Nat → List Int
  | 0 => []
  | n + 1 => if bl n then inL bl n else inL bl n ++ [(n : Int) + 1]
theorem inL_le (bl : Nat → Bool) (n : Nat) : (inL bl n).length ≤ n := by
  induction n with
  | zero => simp [inL]
  | succ n ih =>
    rw [inL]
    split
    · omega
    · rw [List.length_append, List.length_singleton]; omega
theorem inL_same (bl : Nat → Bool) (m n : Nat) (h : m ≤ n) (hb : ∀ j, m ≤ j → j < n → bl j = true) : inL bl n = inL bl m := by
  induction n with
  | zero => have : m = 0 := by omega
            subst this; rfl
  | succ n ih =>
    by_cases e : m = n + 1
    · subst e; rfl
    · have := hb n (by omega) (by omega)
      rw [show inL bl (n + 1) = inL bl n by rw [inL, if_pos this]]
      exact ih (by omega) fun j h1 h2 => hb j h1 (by omega)
theorem inL_get (bl : Nat → Bool) (i n : Nat) (h : i < n) (hb : bl i = false) : (inL bl n)[(inL bl i).length]? = some ((i : Int) + 1) := by
  induction n with
  | zero => omega
  | succ n ih =>
    by_cases e : i = n
    · subst e
      rw [inL, if_neg (by rw [hb]; simp)]
      simp
    · have h1 := ih (by omega)
      rw [inL]
      split
      · exact h1
      · have : (inL bl i).length < (inL bl n).length := by
          rcases Nat.lt_or_ge (inL bl i).length (inL bl n).length with h2 | h2
          · exact h2
          · rw [List.getElem?_eq_none h2] at h1; cases h1
        rw [List.getElem?_append_left this]; exact h1
theorem next_false (bl : Nat → Bool) (n : Nat) : ∀ d m, m + d = n → (∃ i, m ≤ i ∧ i < n ∧ bl i = false ∧ ∀ j, m ≤ j → j < i → bl j = true) ∨ ∀ j, m ≤ j → j < n → bl j = true := by
  intro d
  induction d with
  | zero => intro m h; exact .inr fun j h1 h2 => by omega
  | succ d ih =>
    intro m h
    cases hb : bl m with
    | false => exact .inl ⟨m, Nat.le_refl _, by omega, hb, fun j h1 h2 => by omega⟩
    | true =>
      rcases ih (m + 1) (by omega) with ⟨i, h1, h2, h3, h4⟩ | h1
      · exact .inl ⟨i, by omega, h2, h3, fun j h5 h6 => by
          by_cases e : j = m
          · subst e; exact hb
          · exact h4 j (by omega) h6⟩
      · exact .inr fun j h5 h6 => by
          by_cases e : j = m
          · subst e; exact hb
          · exact h1 j (by omega) h6
theorem wsT_told (bl : Nat → Bool) (n m i : Nat) (h1 : m ≤ i) (h2 : i < n) (hb : bl i = false) (hj : ∀ j, m ≤ j → j < i → bl j = true) : toldW (wsT bl n m) i = wsT bl n (i + 1) := by
  unfold toldW
  apply List.ext_getElem?
  intro j
  by_cases e : j = i
  · subst e
    rw [List.getElem?_set_self (by rw [wsT_length]; exact h2), wsT_get bl h2]
    simp [wsT, h2, hb, cameW]
  · rw [List.getElem?_set_ne (Ne.symm e)]
    by_cases hn : j < n
    · simp only [wsT, List.getElem?_map, List.getElem?_range hn, Option.map_some]
      cases hbj : bl j with
      | true => simp
      | false =>
        have : ¬ (m ≤ j ∧ j < i) := fun ⟨h3, h4⟩ => by rw [hj j h3 h4] at hbj; cases hbj
        have e2 : decide (m ≤ j) = decide (i + 1 ≤ j) := by rw [Bool.eq_iff_iff]; simp; omega
        rw [e2]
    · rw [List.getElem?_eq_none (by rw [wsT_length]; omega), List.getElem?_eq_none (by rw [wsT_length]; omega)]
def intVals (l : List Int) : List Value := l.map (.int .i64)
theorem intVals_length (l : List Int) : (intVals l).length = l.length := by simp [intVals]
theorem intVals_append (a b : List Int) : intVals (a ++ b) = intVals a ++ intVals b := by simp [intVals]

theorem Own.nfr {w w' : World} {B : Nat} {e : TypeId} {v : Value} {xs : List Value} (h : Own w e v xs) (hf : NFr B w w') (h1 : e ≠ 5) (h2 : e ≠ 58) (h3 : e ≠ 60) (h4 : e ≠ 57) : Own w' e v xs := by
  refine h.kept fun k hk => ?_
  obtain ⟨A, cap, rfl, -, -, ⟨rfl, -⟩ | ⟨g, off, cur, rfl, hg, -⟩⟩ := h
  · simp [Value.ownBlock] at hk
  · simp [Value.ownBlock] at hk
    subst hk
    exact NFr.bk hf hg h1 h2 h3 h4 |>.trans hg.symm
/-- A net stays where a row of another type grows. -/
theorem NetR.kept {w w' : World} {B n : Nat} {now : Int} {ws : List Wr} {v : Value} {G : Nat → Nat} {IV GV : Nat → Value} (h : NetR w B n now ws v G IV GV) {e : TypeId} {u : Value} {xs : List Value} (hu : Own w e u xs) (h1 : e ≠ 5) (h2 : e ≠ 58) (h3 : e ≠ 60) (h4 : e ≠ 57) (hg : w.grownBy w' u.ownBlock) : NetR w' B n now ws v G IV GV :=
  { h with
    net := h.net.grown hg (fun x => hu.ne_bk h.net h4 x.symm)
    row := h.row.grown hg (fun k hk x => hu.ne_own h.row h2 k x.symm hk)
    wire := fun i hi => (h.wire i hi).grown hg (fun x => hu.ne_bk (h.wire i hi) h3 x.symm)
    inn := fun i hi => (h.inn i hi).grown hg (fun k hk x => hu.ne_own (h.inn i hi) h1 k x.symm hk)
    got := fun i hi => (h.got i hi).grown hg (fun k hk x => hu.ne_own (h.got i hi) h1 k x.symm hk) }
theorem inL_mono (bl : Nat → Bool) (m n : Nat) (h : m ≤ n) : (inL bl m).length ≤ (inL bl n).length := by
  induction n with
  | zero => have : m = 0 := by omega
            subst this; exact Nat.le_refl _
  | succ n ih =>
    by_cases e : m = n + 1
    · subst e; exact Nat.le_refl _
    · have := ih (by omega)
      rw [show (inL bl (n + 1)) = if bl n then inL bl n else inL bl n ++ [(n : Int) + 1] from rfl]
      split
      · exact this
      · rw [List.length_append]; omega
theorem inL_false (bl : Nat → Bool) {i : Nat} (hb : bl i = false) : inL bl (i + 1) = inL bl i ++ [(i : Int) + 1] := by rw [inL, if_neg (by rw [hb]; simp)]
theorem Own.cell_at {w : World} {e : TypeId} {A : Option Addr} {n c : Nat} {xs : List Value} (h : Own w e (.slice A n c) xs) {i : Nat} (hi : i < xs.length) : ∃ b off, A = some ⟨b, off, none⟩ ∧ w.cell? ⟨b, off + i, none⟩ = xs[i]? := by
  obtain ⟨A', cap, hv, h1, h2, h3⟩ := h
  injection hv with e1 e2 e3
  subst e1
  rcases h3 with ⟨rfl, h3⟩ | ⟨g, off, cur, rfl, hg, h4, h5⟩
  · omega
  · refine ⟨g, off, rfl, ?_⟩
    have hb : Bk w g e cur := hg
    rw [hb.cell]
    have hx : xs[i]? = ((cur.toList.drop off).take xs.length)[i]? := by rw [h5]
    rw [hx, List.getElem?_take, if_pos hi, List.getElem?_drop]
    simp
end Go.Proofs.Ytedcheicnaphmaa
