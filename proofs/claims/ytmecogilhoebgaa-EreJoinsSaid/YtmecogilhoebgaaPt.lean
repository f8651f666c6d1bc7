/-
  Parts of expressions as plain trees: which are right, how many steps they have, and which. No program, no conditions.
-/
import Derived.Test.YtmecogilhoebgaaStV
namespace Go.Proofs.Ytmecogilhoebgaa
set_option linter.unusedVariables false
set_option linter.unusedSimpArgs false

/-- A part: its kind, set, bounds, the slice of its parts (address, room), its parts. -/
inductive PT where
  | mk (k s0 s1 s2 s3 mn mx : Int) (A : Option Addr) (c : Nat) (l : List PT)
namespace PT
def k : PT → Int | mk k _ _ _ _ _ _ _ _ _ => k
def s0 : PT → Int | mk _ s _ _ _ _ _ _ _ _ => s
def s1 : PT → Int | mk _ _ s _ _ _ _ _ _ _ => s
def s2 : PT → Int | mk _ _ _ s _ _ _ _ _ _ => s
def s3 : PT → Int | mk _ _ _ _ s _ _ _ _ _ => s
def mn : PT → Int | mk _ _ _ _ _ s _ _ _ _ => s
def mx : PT → Int | mk _ _ _ _ _ _ s _ _ _ => s
def A : PT → Option Addr | mk _ _ _ _ _ _ _ a _ _ => a
def c : PT → Nat | mk _ _ _ _ _ _ _ _ a _ => a
def l : PT → List PT | mk _ _ _ _ _ _ _ _ _ a => a
def cells (t : PT) : List Value := [.int .i64 t.k, .int .u64 t.s0, .int .u64 t.s1, .int .u64 t.s2, .int .u64 t.s3, .int .i64 t.mn, .int .i64 t.mx, .slice t.A t.l.length t.c]
end PT

/-! How many parts. -/
mutual
def cntP : PT → Nat | .mk _ _ _ _ _ _ _ _ _ l => cntL l + 1
def cntL : List PT → Nat | [] => 0 | t :: r => cntP t + cntL r
end
/-! Are they right? -/
def rightK (k mn mx : Int) (n : Nat) : Bool :=
  if k < 0 ∨ k > 6 then false
  else if k = 3 then decide (0 < n)
  else if k = 4 then decide (n = 1 ∧ 0 ≤ mn ∧ mn ≤ 255 ∧ -1 ≤ mx ∧ mx ≤ 255 ∧ (0 ≤ mx → mn ≤ mx))
  else true
def inner (k : Int) : Bool := k == 2 || k == 3 || k == 4
mutual
def rightP : PT → Bool | .mk k _ _ _ _ mn mx _ _ l => rightK k mn mx l.length && (if inner k then rightL l else true)
def rightL : List PT → Bool | [] => true | t :: r => rightP t && rightL r
end
/-! How many steps. -/
mutual
def sizP : PT → Nat
  | .mk k _ _ _ _ mn mx _ _ l =>
    if k = 1 ∨ k = 5 ∨ k = 6 then 1
    else if k = 2 then sizL l
    else if k = 3 then sizL l + 2 * (l.length - 1)
    else if k = 4 then (if mx < 0 then (mn.toNat + 1) * sizL l + 2 else mx.toNat * sizL l + (mx.toNat - mn.toNat))
    else 0
def sizL : List PT → Nat | [] => 0 | t :: r => sizP t + sizL r
end
/-! How deep, as the program counts. -/
mutual
def depP : PT → Nat | .mk k _ _ _ _ _ _ _ _ l => if inner k then depL l + 1 else 1
def depL : List PT → Nat | [] => 0 | t :: r => max (depP t) (depL r)
end
/-! The steps. -/
def Sp.fork (x y : Nat) : Sp := ⟨1, 0, 0, 0, 0, x, y⟩
/-- The same some times, each as long as n. -/
def timesP (f : Nat → List Sp) (n : Nat) : Nat → Nat → List Sp
  | 0, at_ => []
  | k + 1, at_ => f at_ ++ timesP f n k (at_ + n)
/-- .. each with a fork ahead that leads to the end. -/
def maybeP (f : Nat → List Sp) (n : Nat) (all : Nat) : Nat → Nat → List Sp
  | 0, at_ => []
  | k + 1, at_ => Sp.fork (at_ + 1) all :: (f (at_ + 1) ++ maybeP f n all k (at_ + 1 + n))
mutual
def layP : PT → Nat → List Sp
  | .mk k s0 s1 s2 s3 mn mx _ _ l, at_ =>
    if k = 1 then [⟨0, s0, s1, s2, s3, (at_ : Int) + 1, 0⟩]
    else if k = 5 then [⟨2, 0, 0, 0, 0, (at_ : Int) + 1, 0⟩]
    else if k = 6 then [⟨3, 0, 0, 0, 0, (at_ : Int) + 1, 0⟩]
    else if k = 2 then layL l at_
    else if k = 3 then layO l at_ (at_ + (sizL l + 2 * (l.length - 1)))
    else if k = 4 then
      timesP (layL l) (sizL l) mn.toNat at_ ++
      (if mx < 0 then
        Sp.fork (at_ + mn.toNat * sizL l + 1) (at_ + (mn.toNat + 1) * sizL l + 2) :: (layL l (at_ + mn.toNat * sizL l + 1) ++ [Sp.fork (at_ + mn.toNat * sizL l) (at_ + mn.toNat * sizL l)])
      else maybeP (layL l) (sizL l) (at_ + (mx.toNat * sizL l + (mx.toNat - mn.toNat))) (mx.toNat - mn.toNat) (at_ + mn.toNat * sizL l))
    else []
def layL : List PT → Nat → List Sp
  | [], _ => []
  | t :: r, at_ => layP t at_ ++ layL r (at_ + sizP t)
def layO : List PT → Nat → Nat → List Sp
  | [], _, _ => []
  | t :: r, at_, all => if r.isEmpty then layP t at_ else Sp.fork (at_ + 1) (at_ + 2 + sizP t) :: (layP t (at_ + 1) ++ Sp.fork all all :: layO r (at_ + 2 + sizP t) all)
end

theorem PT.eta (t : PT) : t = .mk t.k t.s0 t.s1 t.s2 t.s3 t.mn t.mx t.A t.c t.l := by cases t; rfl
theorem cntP_eq (t : PT) : cntP t = cntL t.l + 1 := by cases t; rw [cntP]; rfl
theorem rightP_eq (t : PT) : rightP t = (rightK t.k t.mn t.mx t.l.length && (if inner t.k then rightL t.l else true)) := by cases t; rw [rightP]; rfl
theorem depP_eq (t : PT) : depP t = if inner t.k then depL t.l + 1 else 1 := by cases t; rw [depP]; rfl
theorem sizP_eq (t : PT) : sizP t = if t.k = 1 ∨ t.k = 5 ∨ t.k = 6 then 1
    else if t.k = 2 then sizL t.l
    else if t.k = 3 then sizL t.l + 2 * (t.l.length - 1)
    else if t.k = 4 then (if t.mx < 0 then (t.mn.toNat + 1) * sizL t.l + 2 else t.mx.toNat * sizL t.l + (t.mx.toNat - t.mn.toNat))
    else 0 := by cases t; rw [sizP]; rfl
theorem cntL_len : ∀ l : List PT, l.length ≤ cntL l
  | [] => by simp
  | t :: r => by have := cntL_len r; have h := cntP_eq t; simp [cntL]; omega
theorem cntL_mem {l : List PT} {t : PT} (h : t ∈ l) : cntP t ≤ cntL l := by
  induction l with
  | nil => cases h
  | cons a r ih =>
    rcases List.mem_cons.1 h with rfl | h
    · simp [cntL]
    · have := ih h; simp [cntL]; omega
theorem inner_iff {k : Int} : inner k = true ↔ k = 2 ∨ k = 3 ∨ k = 4 := by simp [inner]; omega
mutual
theorem depP_le : ∀ t : PT, depP t ≤ cntP t
  | .mk k _ _ _ _ _ _ _ _ l => by
    have := depL_le l
    simp only [depP, cntP]
    split <;> omega
theorem depL_le : ∀ l : List PT, depL l ≤ cntL l
  | [] => by simp [depL]
  | t :: r => by
    have h1 := depP_le t; have h2 := depL_le r
    simp only [depL, cntL]; omega
end
theorem timesP_len (f : Nat → List Sp) (n : Nat) (hf : ∀ a, (f a).length = n) : ∀ k a, (timesP f n k a).length = k * n
  | 0, a => by simp [timesP]
  | k + 1, a => by rw [timesP, List.length_append, timesP_len f n hf k, hf, Nat.succ_mul]; omega
theorem maybeP_len (f : Nat → List Sp) (n all : Nat) (hf : ∀ a, (f a).length = n) : ∀ k a, (maybeP f n all k a).length = k * (n + 1)
  | 0, a => by simp [maybeP]
  | k + 1, a => by rw [maybeP, List.length_cons, List.length_append, maybeP_len f n all hf k, hf, Nat.succ_mul]; omega
theorem rep_arith (a b s : Nat) (h : a ≤ b) : a * s + (b - a) * (s + 1) = b * s + (b - a) := by
  obtain ⟨d, rfl⟩ := Nat.exists_eq_add_of_le h
  have : a + d - a = d := by omega
  rw [this, Nat.add_mul, Nat.mul_add]; omega
mutual
theorem layP_len : ∀ (t : PT) (a : Nat), rightP t = true → (layP t a).length = sizP t
  | .mk k s0 s1 s2 s3 mn mx A c l, a, hr => by
    have hl := layL_len l
    have ho := layO_len l
    rw [rightP_eq] at hr
    simp only [PT.k, PT.mn, PT.mx, PT.l, Bool.and_eq_true] at hr
    obtain ⟨hk, hi⟩ := hr
    simp only [layP, sizP]
    by_cases h1 : k = 1
    · subst h1; simp
    by_cases h5 : k = 5
    · subst h5; simp
    by_cases h6 : k = 6
    · subst h6; simp
    by_cases h2 : k = 2
    · subst h2
      simp [inner] at hi
      simp [hl a hi]
    by_cases h3 : k = 3
    · subst h3
      simp [inner] at hi
      simp [rightK] at hk
      simp [ho a _ hi hk]
    by_cases h4 : k = 4
    · subst h4
      simp [inner] at hi
      simp [rightK] at hk
      have hl' := fun a => hl a hi
      simp only [List.length_append]
      simp
      rw [timesP_len _ _ hl']
      by_cases hm : mx < 0
      · simp [hm, hl', Nat.add_mul]
        omega
      · simp only [if_neg hm]
        rw [maybeP_len _ _ _ hl']
        have : mn.toNat ≤ mx.toNat := by omega
        rw [rep_arith _ _ _ this]
    · simp [h1, h2, h3, h4, h5, h6]
theorem layL_len : ∀ (l : List PT) (a : Nat), rightL l = true → (layL l a).length = sizL l
  | [], a, _ => by simp [layL, sizL]
  | t :: r, a, h => by
    simp only [rightL, Bool.and_eq_true] at h
    simp only [layL, sizL, List.length_append, layP_len t a h.1, layL_len r _ h.2]
theorem layO_len : ∀ (l : List PT) (a all : Nat), rightL l = true → 0 < l.length → (layO l a all).length = sizL l + 2 * (l.length - 1)
  | [], a, all, _, h => by simp at h
  | t :: r, a, all, h, _ => by
    simp only [rightL, Bool.and_eq_true] at h
    have h1 := layP_len t a h.1
    have h1' := layP_len t (a + 1) h.1
    cases r with
    | nil => simp [layO, sizL, h1]
    | cons u v =>
      have h2 := layO_len (u :: v) (a + 2 + sizP t) all h.2 (by simp)
      rw [layO]
      simp only [List.isEmpty_cons, if_false, Bool.false_eq_true, List.length_cons, List.length_append, h1', h2]
      simp only [sizL, List.length_cons]
      omega
end
end Go.Proofs.Ytmecogilhoebgaa
