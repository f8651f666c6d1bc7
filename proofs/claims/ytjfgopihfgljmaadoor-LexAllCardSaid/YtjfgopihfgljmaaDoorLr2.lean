/-
  The reference of tokens as plain functions: its loop's steps, what is quoted, what stands among words. No program, no conditions.
-/
import Derived.Test.YtjfgopihfgljmaaDoorLexJ
import Derived.Test.YtjfgopihfgljmaaDoorLr1
namespace Go.Proofs.YtjfgopihfgljmaaDoor
set_option linter.unusedVariables false
set_option linter.unusedSimpArgs false

/-- The tokens from a place on. -/
def lexA (op : Bool) (p : Nat) (s : List UInt8) : Except (Nat × Nat) (List Tk) := lexM (s.length + 1) op p s
theorem lexA_of {n : Nat} {s : List UInt8} (op : Bool) (p : Nat) (h : s.length < n) : lexM n op p s = lexA op p s := lexM_fuel n (s.length + 1) op p s h (by omega)
theorem lexA_nil (op : Bool) (p : Nat) : lexA op p [] = .ok [⟨0, p, [], 0⟩] := rfl
theorem lexA_skip {op : Bool} {p k : Nat} {s r : List UInt8} (hk : skipM s = skipM r + k) (hr : s.drop k = r) (hl : k ≤ s.length) : lexA op p s = lexA op (p + k) r := by
  have hlen : r.length + k = s.length := by rw [← hr, List.length_drop]; omega
  have e1 : s.drop (skipM s) = r.drop (skipM r) := by rw [hk, ← hr, List.drop_drop, Nat.add_comm]
  have e2 : p + skipM s = p + k + skipM r := by omega
  unfold lexA
  rw [lexM_succ, e1, e2]
  rw [lexM_fuel (r.length + 1) (s.length + 1) op (p + k) r (by omega) (by omega), lexM_succ]
theorem lexA_blank {op : Bool} {p : Nat} {c : UInt8} {r : List UInt8} (h : c.toNat = 9 ∨ c.toNat = 13 ∨ c.toNat = 32) : lexA op p (c :: r) = lexA op (p + 1) r :=
  lexA_skip (k := 1) (by rw [skipM_cons, if_pos h]) rfl (by simp)
theorem lexA_cont {op : Bool} {p : Nat} {c d : UInt8} {r : List UInt8} (h : c.toNat = 92) (h2 : d.toNat = 10) : lexA op p (c :: d :: r) = lexA op (p + 2) r :=
  lexA_skip (k := 2) (by rw [skipM_cons, if_neg (by omega), if_pos h, if_pos (by exact h2)]; rfl) rfl (by simp)
def cmtM (d : UInt8) : Bool := d.toNat != 10
theorem lexA_hash {op : Bool} {p : Nat} {s : List UInt8} {c : UInt8} {r : List UInt8} (hs : s = c :: r) (h : c.toNat = 35) : lexA op p s = lexA op (p + (s.takeWhile cmtM).length) (s.drop (s.takeWhile cmtM).length) := by
  subst hs
  have e : (c :: r).takeWhile cmtM = c :: r.takeWhile cmtM := List.takeWhile_cons_of_pos (by simp [cmtM, h])
  have hz : skipM ((c :: r).drop ((c :: r).takeWhile cmtM).length) = 0 := by
    rw [e, List.length_cons, List.drop_succ_cons]
    have hd : r.drop (r.takeWhile cmtM).length = r.dropWhile cmtM := by
      clear e
      induction r with
      | nil => rfl
      | cons x y ih =>
        by_cases hx : cmtM x = true
        · rw [List.takeWhile_cons_of_pos hx, List.dropWhile_cons_of_pos hx]; simpa using ih
        · rw [List.takeWhile_cons_of_neg hx, List.dropWhile_cons_of_neg hx]; rfl
    rw [hd]
    cases hc : r.dropWhile cmtM with
    | nil => rfl
    | cons x y =>
      have hx : cmtM x = false := by
        have := List.head_dropWhile_not (p := cmtM) (l := r) (by rw [hc]; simp)
        simpa [hc] using this
      have h10 : x.toNat = 10 := by simpa [cmtM] using hx
      rw [skipM_cons, if_neg (by omega), if_neg (by omega), if_neg (by omega)]
  refine lexA_skip ?_ rfl ?_
  · rw [hz, skipM_cons, if_neg (by omega), if_neg (by omega), if_pos h, e, List.length_cons]
    unfold cmtM; omega
  · exact takeWhile_le _ _
/-- Nothing may be passed over there. -/
def tokB (c : UInt8) (r : List UInt8) : Prop := ¬ (c.toNat = 9 ∨ c.toNat = 13 ∨ c.toNat = 32) ∧ ¬ (c.toNat = 92 ∧ (r.headD 0).toNat = 10) ∧ c.toNat ≠ 35
def pre (ts : List Tk) (r : Except (Nat × Nat) (List Tk)) : Except (Nat × Nat) (List Tk) := match r with | .error e => .error e | .ok l => .ok (ts ++ l)
def opT (ts : List Tk) : Bool := match ts.getLast? with | none => true | some t => operM t.k t.s
theorem opT_app (ts : List Tk) (t : Tk) : opT (ts ++ [t]) = operM t.k t.s := by simp [opT]
theorem skipM_tok {c : UInt8} {r : List UInt8} (h : tokB c r) : skipM (c :: r) = 0 := by
  obtain ⟨h1, h2, h3⟩ := h
  rw [skipM_cons, if_neg h1]
  by_cases h9 : c.toNat = 92
  · rw [if_pos h9, if_neg (fun e => h2 ⟨h9, e⟩)]
  · rw [if_neg h9, if_neg h3]
theorem lexA_err {op : Bool} {p e : Nat} {c : UInt8} {r : List UInt8} (h : tokB c r) (hn : nextM op (c :: r) = .error e) : lexA op p (c :: r) = .error (e, p) := by
  unfold lexA
  rw [lexM_succ, skipM_tok h]
  simp [lexT, hn]
theorem lexA_ok {op : Bool} {p k v m : Nat} {t : List UInt8} {c : UInt8} {r : List UInt8} (ts : List Tk) (h : tokB c r) (hn : nextM op (c :: r) = .ok (k, t, v, m)) :
    pre ts (lexA op p (c :: r)) = pre (ts ++ [⟨k, p, t, v⟩]) (lexA (opT (ts ++ [⟨k, p, t, v⟩])) (p + m) ((c :: r).drop m)) := by
  have hm := (nextM_ok hn).1
  rw [opT_app]
  unfold lexA
  rw [lexM_succ, skipM_tok h]
  have e : lexM (((c :: r).drop m).length + 1) (operM k t) (p + m) ((c :: r).drop m) = lexM (c :: r).length (operM k t) (p + m) ((c :: r).drop m) := lexM_fuel _ _ _ _ _ (by omega) (by rw [List.length_drop]; simp; omega)
  rw [e]
  simp only [lexT, Nat.add_zero, List.drop_zero, hn]
  cases lexM (c :: r).length (operM k t) (p + m) ((c :: r).drop m) with
  | error x => rfl
  | ok l => simp [pre]
/-- What is quoted, behind what has been read, and the place behind it. -/
def quoR (str : Bool) (q : Nat) (out : List UInt8) (p : Nat) (s : List UInt8) : Option (List UInt8 × Nat) :=
  (quotM q s).map fun n => (out ++ (if str = true then textL (s.take n) else ereM (s.take n)), p + n + 1)
theorem quoR_nil (str : Bool) (q : Nat) (out : List UInt8) (p : Nat) : quoR str q out p [] = none := rfl
theorem quoR_nl {str : Bool} {q : Nat} {out : List UInt8} {p : Nat} {c : UInt8} {r : List UInt8} (h : c.toNat = 10) : quoR str q out p (c :: r) = none := by
  unfold quoR; rw [quotM_cons, if_pos h]; rfl
theorem quoR_end {str : Bool} {q : Nat} {out : List UInt8} {p : Nat} {c : UInt8} {r : List UInt8} (h : c.toNat ≠ 10) (hq : c.toNat = q) : quoR str q out p (c :: r) = some (out, p + 1) := by
  unfold quoR; rw [quotM_cons, if_neg h, if_pos hq]
  cases str <;> simp [textL, textM, ereM]
theorem ereM_plain {c : UInt8} {r : List UInt8} (h9 : c.toNat ≠ 92) : ereM (c :: r) = c :: ereM r := by
  cases r <;> simp [ereM, h9]
theorem quoR_plain {str : Bool} {q : Nat} {out : List UInt8} {p : Nat} {c : UInt8} {r : List UInt8} (h : c.toNat ≠ 10) (hq : c.toNat ≠ q) (h9 : c.toNat ≠ 92) : quoR str q out p (c :: r) = quoR str q (out ++ [c]) (p + 1) r := by
  unfold quoR; rw [quotM_cons, if_neg h, if_neg hq, if_neg h9]
  cases hh : quotM q r with
  | none => rfl
  | some n =>
    simp only [Option.map_some, List.take_succ_cons]
    congr 2
    · cases str
      · simp [ereM_plain h9]
      · simp [textL_cons, h9]
    · omega
theorem quoR_cut {str : Bool} {q : Nat} {out : List UInt8} {p : Nat} {c : UInt8} {r : List UInt8} (hq : q ≠ 92) (h9 : c.toNat = 92) (hr : r = [] ∨ (r.headD 0).toNat = 10) : quoR str q out p (c :: r) = none := by
  unfold quoR; rw [quotM_cons, if_neg (by omega), if_neg (by omega), if_pos h9, if_pos hr]; rfl
theorem quoR_ere {out : List UInt8} {p : Nat} {c d : UInt8} {r : List UInt8} (h9 : c.toNat = 92) (hd : d.toNat ≠ 10) : quoR false 47 out p (c :: d :: r) = quoR false 47 (out ++ (if d.toNat = 47 then [d] else [c, d])) (p + 2) r := by
  unfold quoR; rw [quotM_cons, if_neg (by omega), if_neg (by omega), if_pos h9, if_neg (by simp [hd])]
  cases hh : quotM 47 r with
  | none => simp [hh]
  | some n =>
    simp only [List.drop_succ_cons, List.drop_zero, hh, Option.map_some, List.take_succ_cons]
    congr 2
    · rw [ereM, if_pos h9]
      by_cases h47 : d.toNat = 47 <;> simp [h47]
    · omega
theorem quoR_esc {out : List UInt8} {p : Nat} {c d : UInt8} {r : List UInt8} (h9 : c.toNat = 92) (hd : d.toNat ≠ 10) (ho : octM d = false) : quoR true 34 out p (c :: d :: r) = quoR true 34 (out ++ [UInt8.ofNat (escM d.toNat)]) (p + 2) r := by
  unfold quoR; rw [quotM_cons, if_neg (by omega), if_neg (by omega), if_pos h9, if_neg (by simp [hd])]
  cases hh : quotM 34 r with
  | none => simp [hh]
  | some n =>
    simp only [List.drop_succ_cons, List.drop_zero, hh, Option.map_some, List.take_succ_cons]
    congr 2
    · simp only [if_true]
      rw [textL_cons, if_pos h9]
      have : (octsM (d :: r.take n)).1 = 0 := by simp [octsM, octsF, ho]
      rw [if_pos this, if_neg (by simp)]
      simp
    · omega
theorem oct_lt {c : UInt8} (h : octM c = true) : c.toNat ≠ 10 ∧ c.toNat ≠ 34 ∧ c.toNat ≠ 92 := by
  simp [octM] at h; omega
theorem octsF_take : ∀ (b v k m : Nat) (l : List UInt8), (octsF b v k l).1 ≤ k + m → octsF b v k (l.take m) = octsF b v k l
  | 0, v, k, m, l, h => by cases l <;> cases (List.take m _) <;> rfl
  | b + 1, v, k, m, [], h => by simp
  | b + 1, v, k, 0, c :: r, h => by
    rw [octsF] at h
    have h2 := octsF_le b (v * 8 + (c.toNat - 48)) (k + 1) r
    by_cases ho : octM c = true
    · rw [if_pos ho] at h; omega
    · rw [List.take_zero, octsF, octsF, if_neg ho]
  | b + 1, v, k, m + 1, c :: r, h => by
    rw [List.take_succ_cons, octsF, octsF]
    rw [octsF] at h
    by_cases ho : octM c = true
    · rw [if_pos ho] at h
      rw [if_pos ho, if_pos ho, octsF_take b _ _ m r (by omega)]
    · rw [if_neg ho, if_neg ho]
/-- The octal digits that are met are none of the signs that end a text. -/
theorem octsF_quot : ∀ (b v k : Nat) (l : List UInt8), quotM 34 l = (quotM 34 (l.drop ((octsF b v k l).1 - k))).map (· + ((octsF b v k l).1 - k))
  | 0, v, k, l => by cases l <;> simp [octsF]
  | b + 1, v, k, [] => by simp [octsF]
  | b + 1, v, k, c :: r => by
    have h2 := octsF_le b (v * 8 + (c.toNat - 48)) (k + 1) r
    rw [octsF]
    by_cases ho : octM c = true
    · obtain ⟨o1, o2, o3⟩ := oct_lt ho
      rw [if_pos ho]
      have ih := octsF_quot b (v * 8 + (c.toNat - 48)) (k + 1) r
      obtain ⟨j, hj⟩ : ∃ j, (octsF b (v * 8 + (c.toNat - 48)) (k + 1) r).1 = k + 1 + j := Nat.exists_eq_add_of_le h2.1
      rw [hj] at ih ⊢
      rw [quotM_cons, if_neg o1, if_neg o2, if_neg o3, ih]
      have e1 : k + 1 + j - (k + 1) = j := by omega
      have e2 : k + 1 + j - k = j + 1 := by omega
      rw [e1, e2, List.drop_succ_cons, Option.map_map]
      congr 1
    · rw [if_neg ho]; simp
theorem quoR_oct {out : List UInt8} {p : Nat} {c d : UInt8} {r : List UInt8} (h9 : c.toNat = 92) (ho : octM d = true) :
    quoR true 34 out p (c :: d :: r) = quoR true 34 (out ++ [UInt8.ofNat ((octsM (d :: r)).2 % 256)]) (p + 1 + (octsM (d :: r)).1) ((d :: r).drop (octsM (d :: r)).1) := by
  obtain ⟨o1, o2, o3⟩ := oct_lt ho
  obtain ⟨k, hk⟩ : ∃ k, k = (octsM (d :: r)).1 := ⟨_, rfl⟩
  have hk3 := octsM_le (d :: r)
  have hk1 : 1 ≤ k := by
    rw [hk]; unfold octsM; rw [octsF, if_pos ho]
    have := octsF_le 2 (0 * 8 + (d.toNat - 48)) (0 + 1) r; omega
  rw [← hk] at hk3
  unfold quoR
  rw [quotM_cons, if_neg (by omega), if_neg (by omega), if_pos h9, if_neg (by simp [o1])]
  have hq := octsF_quot 3 0 0 (d :: r)
  have hq1 : quotM 34 (d :: r) = (quotM 34 r).map (· + 1) := by rw [quotM_cons, if_neg o1, if_neg o2, if_neg o3]
  rw [hq1, Nat.sub_zero, show (octsF 3 0 0 (d :: r)).1 = k from hk.symm] at hq
  rw [← hk]
  simp only [List.drop_succ_cons, List.drop_zero]
  cases h2 : quotM 34 ((d :: r).drop k) with
  | none =>
    rw [h2] at hq
    cases h1 : quotM 34 r with
    | none => rfl
    | some n => rw [h1] at hq; cases hq
  | some n =>
    rw [h2] at hq
    cases h1 : quotM 34 r with
    | none => rw [h1] at hq; cases hq
    | some n1 =>
      rw [h1] at hq
      have hn : n1 + 1 = n + k := by simpa using hq
      simp only [Option.map_some]
      congr 2
      · simp only [if_true]
        rw [show n1 + 2 = (n + k) + 1 by omega, List.take_succ_cons, textL_cons, if_pos h9]
        have ht : octsM ((d :: r).take (n + k)) = octsM (d :: r) := octsF_take 3 0 0 (n + k) (d :: r) (by show (octsM (d :: r)).1 ≤ _; omega)
        rw [ht, ← hk, if_neg (by omega)]
        have hd : ((d :: r).take (n + k)).drop k = ((d :: r).drop k).take n := by rw [List.drop_take]; congr 1; omega
        rw [hd]
        simp
      · omega
/-- Is a word among words, each with blanks around it? As the reference asks. -/
def inM (a w : List UInt8) : Bool := (List.range (a.length + 1)).any fun i => decide (i + (w.length + 2) ≤ a.length) && ((a.drop i).take (w.length + 2) == 32 :: (w ++ [32]))
theorem inM_iff (a w : List UInt8) : inM a w = true ↔ ∃ i, i + (w.length + 2) ≤ a.length ∧ (a.drop i).take (w.length + 2) = 32 :: (w ++ [32]) := by
  unfold inM
  rw [List.any_eq_true]
  constructor
  · rintro ⟨i, -, h⟩
    rw [Bool.and_eq_true, decide_eq_true_iff, beq_iff_eq] at h
    exact ⟨i, h⟩
  · rintro ⟨i, h1, h2⟩
    exact ⟨i, List.mem_range.2 (by omega), by rw [Bool.and_eq_true, decide_eq_true_iff, beq_iff_eq]; exact ⟨h1, h2⟩⟩
theorem inM_row : ∀ (ws : List (List UInt8)) (w : List UInt8), w ≠ [] → (∀ x ∈ w, x ≠ 32) → (∀ u ∈ ws, u ≠ [] ∧ ∀ x ∈ u, x ≠ 32) → (inM (32 :: ws.flatMap (· ++ [32])) w = decide (w ∈ ws)) := by
  intro ws w hw hb hws
  have key : ∀ ws : List (List UInt8), (∀ u ∈ ws, u ≠ [] ∧ ∀ x ∈ u, x ≠ 32) → ((32 :: (w ++ [32])) <:+: (32 :: ws.flatMap (· ++ [32])) ↔ w ∈ ws) := by
    intro ws
    induction ws with
    | nil =>
      intro _
      constructor
      · intro h
        have := h.length_le
        simp at this
      · intro h; cases h
    | cons u r ih =>
      intro h
      obtain ⟨hu, hu2⟩ := h u (List.mem_cons_self ..)
      have ih := ih (fun v hv => h v (List.mem_cons_of_mem _ hv))
      have e : (32 :: (u :: r).flatMap (· ++ [32])) = 32 :: (u ++ (32 :: r.flatMap (· ++ [32]))) := by simp
      rw [e]
      constructor
      · intro hin
        rcases List.infix_cons_iff.1 hin with hp | hin2
        · -- it stands in front
          obtain ⟨t, ht⟩ := hp
          have h1 : w ++ (32 :: t) = u ++ (32 :: r.flatMap (· ++ [32])) := by simpa using ht
          have : w = u := by
            have a1 : (w ++ (32 :: t)).takeWhile (· != 32) = w := by
              rw [List.takeWhile_append_of_pos (by intro x hx; simpa using hb x hx)]; simp
            have a2 : (u ++ (32 :: r.flatMap (· ++ [32]))).takeWhile (· != 32) = u := by
              rw [List.takeWhile_append_of_pos (by intro x hx; simpa using hu2 x hx)]; simp
            rw [← a1, h1, a2]
          rw [this]; exact List.mem_cons_self ..
        · -- it begins behind
          have : (32 :: (w ++ [32])) <:+: (32 :: r.flatMap (· ++ [32])) := by
            clear e ih h hu
            clear hws hin
            revert hin2
            induction u with
            | nil => intro hin; simpa using hin
            | cons x y ihu =>
              intro hin
              rw [List.cons_append] at hin
              rcases List.infix_cons_iff.1 hin with hp | hin
              · obtain ⟨t, ht⟩ := hp
                have : (32 : UInt8) = x := by simpa using congrArg (fun l => l.headD 0) ht
                exact absurd this.symm (hu2 x (List.mem_cons_self ..))
              · exact ihu (fun z hz => hu2 z (List.mem_cons_of_mem _ hz)) hin
          exact List.mem_cons_of_mem _ (ih.1 this)
      · intro hm
        rcases List.mem_cons.1 hm with rfl | hm
        · exact ⟨[], r.flatMap (· ++ [32]), by simp⟩
        · obtain ⟨a, b, hab⟩ := ih.2 hm
          exact ⟨32 :: (u ++ a), b, by rw [← hab]; simp⟩
  rw [Bool.eq_iff_iff, inM_iff, decide_eq_true_iff, ← key ws hws]
  constructor
  · rintro ⟨i, h1, h2⟩
    rw [← h2]
    exact ⟨(32 :: ws.flatMap (· ++ [32])).take i, ((32 :: ws.flatMap (· ++ [32])).drop i).drop (w.length + 2), by rw [List.append_assoc, List.take_append_drop, List.take_append_drop]⟩
  · rintro ⟨a, b, hab⟩
    refine ⟨a.length, ?_, ?_⟩
    · rw [← hab]; simp
    · rw [← hab, List.append_assoc, List.drop_left, List.take_left' (by simp)]
end Go.Proofs.YtjfgopihfgljmaaDoor
