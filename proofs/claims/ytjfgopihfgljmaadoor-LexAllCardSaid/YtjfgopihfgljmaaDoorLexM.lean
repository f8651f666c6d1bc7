/-
  The lexer as plain functions on lists of bytes. No program, no conditions.
-/
import Derived.Test.YtjfgopihfgljmaaDoorBase
namespace Go.Proofs.YtjfgopihfgljmaaDoor
set_option linter.unusedVariables false
set_option linter.unusedSimpArgs false

def digM (c : UInt8) : Bool := decide (48 ≤ c.toNat) && decide (c.toNat ≤ 57)
def letM (c : UInt8) : Bool := (decide (65 ≤ c.toNat) && decide (c.toNat ≤ 90)) || (decide (97 ≤ c.toNat) && decide (c.toNat ≤ 122)) || decide (c.toNat = 95)
def wrdM (c : UInt8) : Bool := letM c || digM c
/-- How many bytes may stand ahead of a token. -/
def skipM : List UInt8 → Nat
  | [] => 0
  | c :: r =>
    if c.toNat = 9 ∨ c.toNat = 13 ∨ c.toNat = 32 then skipM r + 1
    else if c.toNat = 92 then (match r with
      | [] => 0
      | d :: r' => if d.toNat = 10 then skipM r' + 2 else 0)
    else if c.toNat = 35 then (r.takeWhile fun d => d.toNat != 10).length + 1
    else 0
/-- How many bytes stand ahead of the closing sign. -/
def quotM (q : Nat) : List UInt8 → Option Nat
  | [] => none
  | c :: r =>
    if c.toNat = 10 then none
    else if c.toNat = q then some 0
    else if c.toNat = 92 then (match r with
      | [] => none
      | d :: r' => if d.toNat = 10 then none else (quotM q r').map (· + 2))
    else (quotM q r).map (· + 1)
def octM (c : UInt8) : Bool := decide (48 ≤ c.toNat) && decide (c.toNat ≤ 55)
/-- What an escape stands for, by number. -/
def escM (c : Nat) : Nat := if c = 110 then 10 else if c = 116 then 9 else if c = 114 then 13 else if c = 102 then 12 else if c = 118 then 11 else if c = 97 then 7 else if c = 98 then 8 else c
/-- How many octal digits (at most so many) begin bytes, and their number; behind k that are read, of the number n. -/
def octsF : Nat → Nat → Nat → List UInt8 → Nat × Nat
  | 0, n, k, _ => (k, n)
  | _ + 1, n, k, [] => (k, n)
  | b + 1, n, k, c :: r => if octM c = true then octsF b (n * 8 + (c.toNat - 48)) (k + 1) r else (k, n)
def octsM (r : List UInt8) : Nat × Nat := octsF 3 0 0 r
/-- The bytes that a text's inside stands for. -/
def textM : Nat → List UInt8 → List UInt8
  | 0, _ => []
  | _ + 1, [] => []
  | n + 1, c :: r =>
    if c.toNat = 92 then
      (if (octsM r).1 = 0 then (match r with | [] => [] | d :: r' => UInt8.ofNat (escM d.toNat) :: textM n r')
       else UInt8.ofNat ((octsM r).2 % 256) :: textM n (r.drop (octsM r).1))
    else c :: textM n r
/-- The bytes of a regular expression's inside. -/
def ereM : List UInt8 → List UInt8
  | [] => []
  | c :: r =>
    if c.toNat = 92 then (match r with
      | [] => []
      | d :: r' => if d.toNat = 47 then d :: ereM r' else c :: d :: ereM r')
    else c :: ereM r
/-- How many bytes a number has. -/
def numM (s : List UInt8) : Nat :=
  let d := (s.takeWhile digM).length
  match s.drop d with
  | [] => d
  | c :: r => if c.toNat = 46 then d + 1 + (r.takeWhile digM).length else d
/-- The number of digits. -/
def valM (v : Nat) (l : List UInt8) : Nat := l.foldl (fun v c => v * 10 + (c.toNat - 48)) v
/-- A number's value in millionths; none: it is too great. -/
def decM (s : List UInt8) : Option Nat :=
  let whole := (s.takeWhile digM).dropWhile fun c => c.toNat == 48
  let behind := match s.drop (s.takeWhile digM).length with
    | [] => []
    | c :: r => if c.toNat = 46 then r.takeWhile digM else []
  if 30 < whole.length then none else some (valM (valM 0 whole) ((behind ++ List.replicate 6 48).take 6))
def words : List (List UInt8) := [[66, 69, 71, 73, 78], [69, 78, 68], [79, 80, 69, 78], [67, 76, 79, 83, 69], [102, 117, 110, 99, 116, 105, 111, 110], [105, 102], [101, 108, 115, 101], [119, 104, 105, 108, 101], [102, 111, 114], [100, 111], [98, 114, 101, 97, 107],
  [99, 111, 110, 116, 105, 110, 117, 101], [110, 101, 120, 116], [101, 120, 105, 116], [114, 101, 116, 117, 114, 110], [100, 101, 108, 101, 116, 101], [105, 110], [103, 101, 116, 108, 105, 110, 101], [112, 114, 105, 110, 116], [112, 114, 105, 110, 116, 102]]
def builts : List (List UInt8) := [[108, 101, 110, 103, 116, 104], [115, 117, 98, 115, 116, 114], [105, 110, 100, 101, 120], [115, 112, 108, 105, 116], [115, 117, 98], [103, 115, 117, 98], [109, 97, 116, 99, 104], [115, 112, 114, 105, 110, 116, 102], [105, 110, 116], [116, 111, 108, 111, 119, 101, 114], [116, 111, 117, 112, 112, 101, 114], [99, 108, 111, 115, 101]]
def singles : List UInt8 := [123, 125, 40, 41, 91, 93, 59, 44, 43, 45, 42, 47, 37, 94, 33, 62, 60, 63, 58, 126, 36, 61]
def pairs : List (List UInt8) := [[124, 38], [124, 124], [38, 38], [33, 126], [61, 61], [33, 61], [60, 61], [62, 61], [43, 43], [45, 45], [43, 61], [45, 61], [42, 61], [47, 61], [37, 61], [94, 61]]
/-- A token. -/
structure Tk where
  k : Nat
  p : Nat
  s : List UInt8
  v : Nat
deriving DecidableEq
def Tk.cells (t : Tk) : List Value := [.int .i64 (t.k : Int), .int .i64 (t.p : Int), .string ⟨t.s.toArray⟩, .bool false, .int .u64 ((t.v / 18446744073709551616 : Nat) : Int), .int .u64 ((t.v % 18446744073709551616 : Nat) : Int)]
/-- May an operand stand behind such a token? -/
def operM (k : Nat) (s : List UInt8) : Bool := k == 1 || k == 7 || (k == 9 && s != [41] && s != [93] && s != [43, 43] && s != [45, 45])
/-- The token that begins bytes: its kind, text, value, and how many bytes it has; or the error's number. -/
def nextM (op : Bool) (s : List UInt8) : Except Nat (Nat × List UInt8 × Nat × Nat) :=
  match s with
  | [] => .error 4
  | c :: r =>
    if c.toNat = 10 then .ok (1, [], 0, 1)
    else if c.toNat = 46 ∧ digM (r.headD 0) = true ∨ digM c = true then
      (match decM (s.take (numM s)) with
       | none => .error 2
       | some v => .ok (2, [], v, numM s))
    else if c.toNat = 34 then
      (match quotM 34 r with
       | none => .error 7
       | some n => .ok (3, textM n (r.take n), 0, n + 2))
    else if c.toNat = 47 ∧ op = true then
      (match quotM 47 r with
       | none => .error 7
       | some n => .ok (4, ereM (r.take n), 0, n + 2))
    else if letM c = true then
      let w := s.takeWhile wrdM
      .ok (if w ∈ words then 7 else if w ∈ builts then 8 else if ((s.drop w.length).headD 0).toNat = 40 then 6 else 5, w, 0, w.length)
    else
      if s.take 2 ∈ pairs then .ok (9, s.take 2, 0, 2)
      else if c ∈ singles then .ok (9, [c], 0, 1)
      else .error 4
/-- The tokens of bytes from a place on, behind a token that an operand may follow or not; or the error and its place. -/
def lexM : Nat → Bool → Nat → List UInt8 → Except (Nat × Nat) (List Tk)
  | 0, _, _, _ => .error (0, 0)
  | n + 1, op, p, s =>
    match s.drop (skipM s) with
    | [] => .ok [⟨0, p + skipM s, [], 0⟩]
    | c :: r =>
      match nextM op (c :: r) with
      | .error e => .error (e, p + skipM s)
      | .ok (k, t, v, m) =>
        match lexM n (operM k t) (p + skipM s + m) ((c :: r).drop m) with
        | .error e => .error e
        | .ok l => .ok (⟨k, p + skipM s, t, v⟩ :: l)
def lexAllM (s : List UInt8) : Except (Nat × Nat) (List Tk) := if 16384 < s.length then .error (5, 0) else lexM (s.length + 1) true 0 s

theorem skipM_cons (c : UInt8) (r : List UInt8) : skipM (c :: r) = if c.toNat = 9 ∨ c.toNat = 13 ∨ c.toNat = 32 then skipM r + 1
    else if c.toNat = 92 then (if (r.headD 0).toNat = 10 then skipM (r.drop 1) + 2 else 0)
    else if c.toNat = 35 then (r.takeWhile fun d => d.toNat != 10).length + 1
    else 0 := by
  cases r <;> rfl
theorem skipM_le (s : List UInt8) : skipM s ≤ s.length := by
  induction h : s.length using Nat.strongRecOn generalizing s with
  | _ n ih =>
    subst h
    cases s with
    | nil => simp [skipM]
    | cons c r =>
      have h1 := ih r.length (by simp) r rfl
      have h3 := (List.takeWhile_sublist (l := r) (fun d : UInt8 => d.toNat != 10)).length_le
      rw [skipM_cons]
      split
      · simp; omega
      · split
        · split
          · cases r with
            | nil => rename_i h; simp at h
            | cons d r' =>
              have h2 := ih r'.length (by simp; omega) r' rfl
              simp; omega
          · simp
        · split
          · simp; omega
          · simp
theorem quotM_cons (q : Nat) (c : UInt8) (r : List UInt8) : quotM q (c :: r) = if c.toNat = 10 then none else if c.toNat = q then some 0
    else if c.toNat = 92 then (if r = [] ∨ (r.headD 0).toNat = 10 then none else (quotM q (r.drop 1)).map (· + 2)) else (quotM q r).map (· + 1) := by
  cases r with
  | nil => rfl
  | cons d r' => simp [quotM]
theorem octsF_le : ∀ (b n k : Nat) (r : List UInt8), k ≤ (octsF b n k r).1 ∧ (octsF b n k r).1 ≤ k + b ∧ (octsF b n k r).1 ≤ k + r.length
  | 0, n, k, r => by cases r <;> simp [octsF]
  | b + 1, n, k, [] => by simp [octsF]
  | b + 1, n, k, c :: r => by
    have := octsF_le b (n * 8 + (c.toNat - 48)) (k + 1) r
    rw [octsF]
    split
    · simp; omega
    · simp
theorem octsM_le (r : List UInt8) : (octsM r).1 ≤ 3 ∧ (octsM r).1 ≤ r.length := by
  have := octsF_le 3 0 0 r
  unfold octsM; omega
theorem textM_succ (n : Nat) (c : UInt8) (r : List UInt8) : textM (n + 1) (c :: r) = if c.toNat = 92 then (if (octsM r).1 = 0 then (if r = [] then [] else UInt8.ofNat (escM (r.headD 0).toNat) :: textM n (r.drop 1)) else UInt8.ofNat ((octsM r).2 % 256) :: textM n (r.drop (octsM r).1)) else c :: textM n r := by
  cases r with
  | nil => rfl
  | cons d r' => simp [textM]
theorem textM_fuel (f : Nat) : ∀ (g : Nat) (s : List UInt8), s.length ≤ f → s.length ≤ g → textM f s = textM g s := by
  induction f with
  | zero =>
    intro g s h1 h2
    obtain rfl : s = [] := List.eq_nil_of_length_eq_zero (by omega)
    cases g <;> rfl
  | succ f ih =>
    intro g s h1 h2
    cases s with
    | nil => cases g <;> rfl
    | cons c r =>
      cases g with
      | zero => simp at h2
      | succ g =>
        simp only [List.length_cons] at h1 h2
        rw [textM_succ, textM_succ]
        split
        · split
          · split
            · rfl
            · rw [ih g (r.drop 1) (by simp; omega) (by simp; omega)]
          · rw [ih g _ (by simp; omega) (by simp; omega)]
        · rw [ih g r (by omega) (by omega)]
def textL (s : List UInt8) : List UInt8 := textM s.length s
theorem textL_of {n : Nat} {s : List UInt8} (h : s.length ≤ n) : textM n s = textL s := textM_fuel _ _ _ h (Nat.le_refl _)
theorem textL_cons (c : UInt8) (r : List UInt8) : textL (c :: r) = if c.toNat = 92 then (if (octsM r).1 = 0 then (if r = [] then [] else UInt8.ofNat (escM (r.headD 0).toNat) :: textL (r.drop 1)) else UInt8.ofNat ((octsM r).2 % 256) :: textL (r.drop (octsM r).1)) else c :: textL r := by
  unfold textL
  rw [List.length_cons, textM_succ]
  rw [textM_fuel r.length (r.drop 1).length (r.drop 1) (by simp) (Nat.le_refl _), textM_fuel r.length (r.drop (octsM r).1).length _ (by simp) (Nat.le_refl _)]
end Go.Proofs.YtjfgopihfgljmaaDoor
