/-
  The reference of numbers as plain functions: digits, twice them, what stands in front. No program, no conditions.
-/
import Derived.Test.YtjfgopihfgljmaaDoorLexM
namespace Go.Proofs.YtjfgopihfgljmaaDoor
set_option linter.unusedVariables false
set_option linter.unusedSimpArgs false

/-- The digits of a number, the least first, without a 0 as greatest one. -/
def digF : Nat → Nat → List Nat
  | 0, _ => []
  | n + 1, v => if v = 0 then [] else (v % 10) :: digF n (v / 10)
theorem digF_fuel : ∀ (n m v : Nat), v ≤ n → v ≤ m → digF n v = digF m v
  | 0, m, v, h, _ => by
    obtain rfl : v = 0 := by omega
    cases m <;> simp [digF]
  | n + 1, 0, v, _, h => by
    obtain rfl : v = 0 := by omega
    simp [digF]
  | n + 1, m + 1, v, h1, h2 => by
    rw [digF, digF]
    by_cases hv : v = 0
    · simp [hv]
    · rw [if_neg hv, if_neg hv, digF_fuel n m (v / 10) (by omega) (by omega)]
def digs (v : Nat) : List Nat := digF v v
theorem digs_zero : digs 0 = [] := rfl
theorem digs_eq (v : Nat) : digs v = if v = 0 then [] else (v % 10) :: digs (v / 10) := by
  unfold digs
  cases v with
  | zero => rfl
  | succ v =>
    rw [digF, digF_fuel v ((v + 1) / 10) ((v + 1) / 10) (by omega) (by omega)]
theorem digs_nil {v : Nat} : digs v = [] ↔ v = 0 := by
  rw [digs_eq]
  by_cases h : v = 0
  · simp [h]
  · simp [h]
theorem digs_lt (v : Nat) : ∀ x ∈ digs v, x < 10 := by
  induction h : v using Nat.strongRecOn generalizing v with
  | _ n ih =>
    subst h
    rw [digs_eq]
    by_cases hv : v = 0
    · simp [hv]
    · rw [if_neg hv]
      intro x hx
      rcases List.mem_cons.1 hx with rfl | hx
      · omega
      · exact ih (v / 10) (by omega) _ rfl x hx
/-- The number of digits, the least first. -/
def valD : List Nat → Nat
  | [] => 0
  | x :: r => x + 10 * valD r
theorem valD_digs (v : Nat) : valD (digs v) = v := by
  induction h : v using Nat.strongRecOn generalizing v with
  | _ n ih =>
    subst h
    rw [digs_eq]
    by_cases hv : v = 0
    · simp [hv, valD]
    · rw [if_neg hv, valD, ih (v / 10) (by omega) _ rfl]; omega
theorem digs_inj {a b : Nat} (h : digs a = digs b) : a = b := by rw [← valD_digs a, h, valD_digs]
/-- How many digits stand ahead of the greatest ones that are 0. -/
def topD : List Nat → Nat
  | [] => 0
  | x :: r => if topD r = 0 ∧ x = 0 then 0 else topD r + 1
theorem topD_le : ∀ l : List Nat, topD l ≤ l.length
  | [] => Nat.le_refl _
  | x :: r => by
    rw [topD, List.length_cons]
    have := topD_le r
    split <;> omega
theorem topD_zero : ∀ l : List Nat, topD l = 0 → valD l = 0
  | [], _ => rfl
  | x :: r, h => by
    rw [topD] at h
    split at h
    · rename_i h1
      rw [valD, topD_zero r h1.1, h1.2]
    · omega
theorem take_topD : ∀ l : List Nat, (∀ x ∈ l, x < 10) → l.take (topD l) = digs (valD l)
  | [], _ => by simp [topD, valD, digs_zero]
  | x :: r, h => by
    have hx := h x (List.mem_cons_self ..)
    have ih := take_topD r (fun y hy => h y (List.mem_cons_of_mem _ hy))
    rw [topD, valD]
    by_cases h0 : topD r = 0 ∧ x = 0
    · rw [if_pos h0, h0.2, topD_zero r h0.1]; rfl
    · rw [if_neg h0, List.take_succ_cons, ih, digs_eq (x + 10 * valD r)]
      have hne : ¬ (x + 10 * valD r = 0) := by
        intro e
        apply h0
        have hv : valD r = 0 := by omega
        have ih2 : min (topD r) r.length = 0 := by rw [← List.length_take, ih, hv]; rfl
        have := topD_le r
        exact ⟨by omega, by omega⟩
      rw [if_neg hne]
      congr 1
      · omega
      · congr 1; omega
/-- A step of the search for the greatest digit that isn't 0. -/
theorem topD_take {l : List Nat} {n : Nat} (hn : n ≤ l.length) (h : topD (l.take n) = topD l) : n = 0 ∨ (l.getD (n - 1) 0 = 0 ∧ topD (l.take (n - 1)) = topD l) ∨ (l.getD (n - 1) 0 ≠ 0 ∧ topD l = n) := by
  have key : ∀ (l : List Nat) (x : Nat), topD (l ++ [x]) = if x = 0 then topD l else l.length + 1 := by
    intro l
    induction l with
    | nil => intro x; by_cases hx : x = 0 <;> simp [topD, hx]
    | cons y r ih =>
      intro x
      rw [List.cons_append, topD, ih]
      by_cases hx : x = 0
      · simp [hx, topD]
      · simp [hx]
  cases n with
  | zero => exact .inl rfl
  | succ n =>
    right
    have e : l.take (n + 1) = l.take n ++ [l.getD n 0] := by
      rw [List.take_add_one, List.getElem?_eq_getElem (by omega), List.getD_eq_getElem?_getD, List.getElem?_eq_getElem (by omega)]; rfl
    rw [e, key] at h
    rw [Nat.add_sub_cancel]
    by_cases hx : l.getD n 0 = 0
    · rw [if_pos hx] at h; exact .inl ⟨hx, h⟩
    · rw [if_neg hx, List.length_take] at h; exact .inr ⟨hx, by omega⟩
/-- Twice digits, and a bit. -/
def dblD : List Nat → Nat → List Nat
  | [], b => if 0 < b then [b] else []
  | x :: r, b => ((2 * x + b) % 10) :: dblD r ((2 * x + b) / 10)
theorem dbl_digs (v : Nat) : ∀ b, b ≤ 1 → dblD (digs v) b = digs (2 * v + b) := by
  induction h : v using Nat.strongRecOn generalizing v with
  | _ n ih =>
    subst h
    intro b hb
    by_cases hv : v = 0
    · subst hv
      rw [digs_zero, dblD]
      match b, hb with
      | 0, _ => rfl
      | 1, _ => rfl
    · rw [digs_eq v, if_neg hv, dblD, ih (v / 10) (by omega) _ rfl _ (by omega), digs_eq (2 * v + b), if_neg (by omega)]
      congr 1
      · omega
      · congr 1; omega
theorem dblD_len : ∀ (l : List Nat) (b : Nat), (dblD l b).length ≤ l.length + 1
  | [], b => by rw [dblD]; split <;> simp
  | x :: r, b => by rw [dblD, List.length_cons, List.length_cons]; have := dblD_len r ((2 * x + b) / 10); omega
theorem digs_len {v n : Nat} (h : v < 10 ^ n) : (digs v).length ≤ n := by
  induction n generalizing v with
  | zero =>
    obtain rfl : v = 0 := by simp at h; exact h
    simp [digs_zero]
  | succ n ih =>
    rw [digs_eq]
    by_cases hv : v = 0
    · simp [hv]
    · rw [if_neg hv, List.length_cons]
      have := ih (v := v / 10) (by rw [Nat.pow_succ] at h; omega)
      omega
theorem digs_len_ge {v n : Nat} (h : 10 ^ n ≤ v) : n < (digs v).length := by
  induction n generalizing v with
  | zero =>
    have : v ≠ 0 := by simp at h; omega
    have h2 : digs v ≠ [] := fun e => this (digs_nil.1 e)
    cases hd : digs v with
    | nil => exact absurd hd h2
    | cons a b => simp
  | succ n ih =>
    have h0 : v ≠ 0 := by have : 0 < 10 ^ (n + 1) := Nat.pow_pos (by omega); omega
    rw [digs_eq, if_neg h0, List.length_cons]
    have := ih (v := v / 10) (by rw [Nat.pow_succ] at h; omega)
    omega
end Go.Proofs.YtjfgopihfgljmaaDoor
