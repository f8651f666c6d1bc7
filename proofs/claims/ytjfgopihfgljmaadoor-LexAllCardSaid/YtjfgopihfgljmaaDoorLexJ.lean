/-
  Two sources with a newline between them are the tokens of both. No program, no conditions.
-/
import Derived.Test.YtjfgopihfgljmaaDoorLexP
namespace Go.Proofs.YtjfgopihfgljmaaDoor
set_option linter.unusedVariables false
set_option linter.unusedSimpArgs false

theorem tw_app (f : UInt8 → Bool) (c : UInt8) (hc : f c = false) (s b : List UInt8) : (s ++ c :: b).takeWhile f = s.takeWhile f := by
  induction s with
  | nil => simp [hc]
  | cons a r ih => rw [List.cons_append, List.takeWhile_cons, List.takeWhile_cons, ih]
theorem skipM_nl (b : List UInt8) : skipM (10 :: b) = 0 := by rw [skipM_cons]; rfl
theorem skipM_app (s b : List UInt8) : (∀ x, s.getLast? = some x → x.toNat ≠ 92) → skipM (s ++ 10 :: b) = skipM s := by
  induction h : s.length using Nat.strongRecOn generalizing s with
  | _ n ih =>
    intro hl
    subst h
    cases s with
    | nil => exact skipM_nl b
    | cons c r =>
      have h1 := ih r.length (by simp) r rfl
      have hr : ∀ x, r.getLast? = some x → x.toNat ≠ 92 := fun x hx => hl x (by rw [List.getLast?_cons, hx]; rfl)
      rw [List.cons_append, skipM_cons, skipM_cons, h1 hr, tw_app _ 10 rfl]
      split
      · rfl
      · split
        · rename_i h92
          cases r with
          | nil => exact absurd h92 (hl c rfl)
          | cons d r' =>
            have h2 := ih r'.length (by simp; omega) r' rfl fun x hx => hr x (by rw [List.getLast?_cons, hx]; rfl)
            simp only [List.cons_append, List.headD_cons, List.drop_succ_cons, List.drop_zero, h2]
        · rfl
theorem quotM_app (q : Nat) (b : List UInt8) (s : List UInt8) : quotM q (s ++ 10 :: b) = quotM q s := by
  induction h : s.length using Nat.strongRecOn generalizing s with
  | _ n ih =>
    subst h
    cases s with
    | nil => rw [List.nil_append, quotM_cons]; rfl
    | cons c r =>
      have h1 := ih r.length (by simp) r rfl
      rw [List.cons_append, quotM_cons, quotM_cons, h1]
      cases r with
      | nil =>
        split
        · rfl
        · split
          · rfl
          · split
            · rfl
            · rfl
      | cons d r' =>
        have h2 := ih r'.length (by simp; omega) r' rfl
        simp only [List.cons_append, List.headD_cons, List.drop_succ_cons, List.drop_zero, h2]
        simp
theorem numM_app (s b : List UInt8) : numM (s ++ 10 :: b) = numM s := by
  unfold numM
  rw [tw_app digM 10 rfl]
  have hd : (s ++ 10 :: b).drop (s.takeWhile digM).length = s.drop (s.takeWhile digM).length ++ 10 :: b := List.drop_append_of_le_length (takeWhile_le _ _)
  dsimp only
  rw [hd]
  cases s.drop (s.takeWhile digM).length with
  | nil => rfl
  | cons c r => simp only [List.cons_append]; rw [tw_app digM 10 rfl]
theorem nextM_app {op : Bool} {s : List UInt8} (hs : s ≠ []) (b : List UInt8) : nextM op (s ++ 10 :: b) = nextM op s := by
  cases s with
  | nil => exact absurd rfl hs
  | cons c r =>
    have e1 : digM ((r ++ 10 :: b).headD 0) = digM (r.headD 0) := by cases r <;> rfl
    have e2 : (c :: (r ++ 10 :: b)).take (numM (c :: r)) = (c :: r).take (numM (c :: r)) := by
      rw [← List.cons_append, List.take_append_of_le_length (numM_le _)]
    have e3 : numM (c :: (r ++ 10 :: b)) = numM (c :: r) := by rw [← List.cons_append, numM_app]
    have e4 : (c :: (r ++ 10 :: b)).takeWhile wrdM = (c :: r).takeWhile wrdM := by rw [← List.cons_append, tw_app wrdM 10 rfl]
    have e5 : ((((c :: (r ++ 10 :: b)).drop ((c :: r).takeWhile wrdM).length).headD 0).toNat = 40) = ((((c :: r).drop ((c :: r).takeWhile wrdM).length).headD 0).toNat = 40) := by
      rw [← List.cons_append, List.drop_append_of_le_length (takeWhile_le _ _)]
      cases (c :: r).drop ((c :: r).takeWhile wrdM).length with
      | nil => simp
      | cons d q => rfl
    have e6 : ((c :: (r ++ 10 :: b)).take 2 ∈ pairs) = ((c :: r).take 2 ∈ pairs) := by
      cases r with
      | nil =>
        simp only [List.nil_append, List.take, pairs, List.mem_cons, List.cons.injEq, List.not_mem_nil, List.nil_eq, reduceCtorEq, and_false, and_true, or_false]
        simp
      | cons d r' => rfl
    have e7 : ((c :: r).take 2 ∈ pairs) → (c :: (r ++ 10 :: b)).take 2 = (c :: r).take 2 := by
      cases r with
      | nil => intro h; simp [pairs] at h
      | cons d r' => intro; rfl
    rw [List.cons_append]
    unfold nextM
    dsimp only
    rw [e1, e3, e2, quotM_app, quotM_app, e4]
    simp only [e5]
    split
    · rfl
    · split
      · rfl
      · split
        · cases hq : quotM 34 r with
          | none => rfl
          | some n => have := quotM_le _ _ _ hq; simp only []; rw [List.take_append_of_le_length (by omega)]
        · split
          · cases hq : quotM 47 r with
            | none => rfl
            | some n => have := quotM_le _ _ _ hq; simp only []; rw [List.take_append_of_le_length (by omega)]
          · split
            · rfl
            · by_cases hp : (c :: r).take 2 ∈ pairs
              · rw [if_pos (e6 ▸ hp), if_pos hp, e7 hp]
              · rw [if_neg (e6 ▸ hp), if_neg hp]
theorem lexM_fuel (n : Nat) : ∀ (N : Nat) (op : Bool) (p : Nat) (s : List UInt8), s.length < n → s.length < N → lexM n op p s = lexM N op p s := by
  induction n with
  | zero => intro N op p s h; omega
  | succ n ih =>
    intro N op p s h1 h2
    cases N with
    | zero => omega
    | succ N =>
      rw [lexM_succ, lexM_succ]
      have hl : (s.drop (skipM s)).length ≤ s.length := by simp
      cases hd : s.drop (skipM s) with
      | nil => rfl
      | cons c r =>
        rw [hd] at hl
        unfold lexT
        dsimp only
        cases hm : nextM op (c :: r) with
        | error e => rfl
        | ok x =>
          obtain ⟨k, t, v, m⟩ := x
          obtain ⟨hm1, -, -⟩ := nextM_ok hm
          dsimp only
          rw [ih N _ _ _ (by simp at hl ⊢; omega) (by simp at hl ⊢; omega)]
def joinL (ts : List Tk) (r : Except (Nat × Nat) (List Tk)) : Except (Nat × Nat) (List Tk) := match r with
  | .error e => .error e
  | .ok l => .ok (ts ++ l)
def Tk.up (d : Nat) (t : Tk) : Tk := ⟨t.k, t.p + d, t.s, t.v⟩
def shiftL (d : Nat) (r : Except (Nat × Nat) (List Tk)) : Except (Nat × Nat) (List Tk) := match r with
  | .error e => .error (e.1, e.2 + d)
  | .ok l => .ok (l.map (Tk.up d))
theorem lexM_shift (d n : Nat) : ∀ (op : Bool) (p : Nat) (s : List UInt8), s.length < n → lexM n op (p + d) s = shiftL d (lexM n op p s) := by
  induction n with
  | zero => intro op p s h; omega
  | succ n ih =>
    intro op p s h
    rw [lexM_succ, lexM_succ]
    have hl : (s.drop (skipM s)).length ≤ s.length := by simp
    cases hd : s.drop (skipM s) with
    | nil => simp [lexT, shiftL, Tk.up]; omega
    | cons c r =>
      rw [hd] at hl
      unfold lexT
      dsimp only
      cases hm : nextM op (c :: r) with
      | error e => simp [shiftL]; omega
      | ok x =>
        obtain ⟨k, t, v, m⟩ := x
        obtain ⟨hm1, -, -⟩ := nextM_ok hm
        dsimp only
        rw [show p + d + skipM s + m = p + skipM s + m + d by omega, ih _ _ _ (by simp at hl ⊢; omega)]
        cases lexM n (operM k t) (p + skipM s + m) ((c :: r).drop m) with
        | error e => rfl
        | ok l => simp [shiftL, Tk.up]; omega
theorem last_drop {s : List UInt8} (h : ∀ x, s.getLast? = some x → x.toNat ≠ 92) (k : Nat) : ∀ x, (s.drop k).getLast? = some x → x.toNat ≠ 92 := by
  intro x hx
  rw [List.getLast?_drop] at hx
  split at hx
  · cases hx
  · exact h x hx
theorem lexM_app (b : List UInt8) (n : Nat) : ∀ (op : Bool) (p : Nat) (s : List UInt8) (l : List Tk) (N : Nat), lexM n op p s = .ok l → (∀ x, s.getLast? = some x → x.toNat ≠ 92) → s.length + 1 + b.length < N →
    ∃ l0, l = l0 ++ [⟨0, p + s.length, [], 0⟩] ∧ lexM N op p (s ++ 10 :: b) = joinL (l0 ++ [⟨1, p + s.length, [], 0⟩]) (lexM (b.length + 1) true (p + s.length + 1) b) := by
  induction n with
  | zero => intro op p s l N h; cases h
  | succ n ih =>
    intro op p s l N h hl hN
    obtain ⟨N, rfl⟩ : ∃ M, N = M + 1 := ⟨N - 1, by omega⟩
    have hsk := skipM_le s
    rw [lexM_succ] at h ⊢
    rw [skipM_app s b hl, List.drop_append_of_le_length hsk]
    have hl' := last_drop hl (skipM s)
    have hlen : (s.drop (skipM s)).length = s.length - skipM s := by simp
    cases hd : s.drop (skipM s) with
    | nil =>
      rw [hd] at h hlen
      simp only [List.length_nil] at hlen
      have hp : p + skipM s = p + s.length := by omega
      injection h with h
      refine ⟨[], by rw [← h, hp]; rfl, ?_⟩
      rw [hp]
      unfold lexT
      simp only [List.nil_append]
      rw [show nextM op (10 :: b) = .ok (1, [], 0, 1) from rfl]
      dsimp only
      rw [List.drop_succ_cons, List.drop_zero, show operM 1 [] = true from rfl, lexM_fuel N (b.length + 1) _ _ _ (by omega) (by omega)]
      cases lexM (b.length + 1) true (p + s.length + 1) b with
      | error e => rfl
      | ok m => rfl
    | cons c r =>
      rw [hd] at h hl' hlen
      unfold lexT at h ⊢
      have hnx := nextM_app (op := op) (s := c :: r) (by simp) b
      rw [List.cons_append] at hnx ⊢
      dsimp only at h ⊢
      rw [hnx]
      cases hm : nextM op (c :: r) with
      | error e => rw [hm] at h; cases h
      | ok x =>
        obtain ⟨k, t, v, m⟩ := x
        rw [hm] at h
        obtain ⟨hm1, -, -⟩ := nextM_ok hm
        have hml := nextM_le hm
        dsimp only at h ⊢
        cases hr : lexM n (operM k t) (p + skipM s + m) ((c :: r).drop m) with
        | error e => rw [hr] at h; cases h
        | ok l' =>
          rw [hr] at h
          injection h with h
          have hdl : ((c :: r).drop m).length = s.length - skipM s - m := by rw [List.length_drop, hlen]
          have hq : p + skipM s + m + ((c :: r).drop m).length = p + s.length := by omega
          obtain ⟨l0, h1, h2⟩ := ih _ _ _ _ N hr (last_drop hl' m) (by omega)
          rw [hq] at h1 h2
          refine ⟨⟨k, p + skipM s, t, v⟩ :: l0, by rw [← h, h1]; rfl, ?_⟩
          rw [← List.cons_append, List.drop_append_of_le_length hml, h2]
          cases lexM (b.length + 1) true (p + s.length + 1) b with
          | error e => rfl
          | ok m => rfl
/-- The law's answer: what a join of two sources is. -/
theorem joins_ok {a b : List UInt8} {l : List Tk} (ha : a.length ≤ 400) (hb : b.length ≤ 400) (hl : lexAllM a = .ok l) (hla : ∀ x, a.getLast? = some x → x.toNat ≠ 92) :
    ∃ l0, l = l0 ++ [⟨0, a.length, [], 0⟩] ∧ lexAllM (a ++ 10 :: b) = joinL (l0 ++ [⟨1, a.length, [], 0⟩]) (shiftL (a.length + 1) (lexAllM b)) := by
  unfold lexAllM at hl ⊢
  have hlen : (a ++ 10 :: b).length = a.length + 1 + b.length := by simp; omega
  rw [if_neg (by omega)] at hl
  rw [if_neg (by omega), if_neg (by omega)]
  obtain ⟨l0, h1, h2⟩ := lexM_app b _ _ _ _ _ ((a ++ 10 :: b).length + 1) hl hla (by omega)
  simp only [Nat.zero_add] at h1 h2
  refine ⟨l0, h1, ?_⟩
  have h3 := lexM_shift (a.length + 1) (b.length + 1) true 0 b (by omega)
  rw [Nat.zero_add] at h3
  rw [h2, h3]
end Go.Proofs.YtjfgopihfgljmaaDoor
