/-
  The plain law of MatchPlain. No program, no conditions.
-/
import Derived.Test.YtekfpipgcpkejaaGk
namespace Go.Proofs.Ytekfpipgcpkejaa
open Go.RowKit
set_option linter.unusedVariables false
set_option linter.unusedSimpArgs false

/-- One byte, escaped but if it is a small letter. -/
def encB (c : UInt8) : List UInt8 := if 97 ≤ c.toNat ∧ c.toNat ≤ 122 then [c] else [92, c]
def escB : List UInt8 → List UInt8
  | [] => []
  | c :: r => encB c ++ escB r
def rowOf (s : List UInt8) : List RT := s.map fun c => tSet (S4.range c.toNat c.toNat)
theorem escN_id {c : Nat} (h : ¬ (97 ≤ c ∧ c ≤ 122)) : escN c = c := by
  unfold escN
  (repeat' split) <;> omega
theorem escB_append : ∀ (a b : List UInt8), escB (a ++ b) = escB a ++ escB b
  | [], b => rfl
  | c :: r, b => by rw [List.cons_append, escB, escB, escB_append r b, List.append_assoc]
theorem escB_len : ∀ s : List UInt8, s.length ≤ (escB s).length ∧ (escB s).length ≤ 2 * s.length
  | [] => by simp [escB]
  | c :: r => by
    have := escB_len r
    rw [escB, List.length_append, List.length_cons]
    unfold encB
    split <;> simp <;> omega
theorem bn_app (pre l : List UInt8) (j : Nat) : bn (pre ++ l) (pre.length + j) = bn l j := by
  unfold bn
  rw [List.getD_eq_getElem?_getD, List.getD_eq_getElem?_getD, List.getElem?_append_right (by omega), Nat.add_sub_cancel_left]
theorem bn_esc0 (s : List UInt8) : bn (escB s) 0 = 0 ∨ bn (escB s) 0 = 92 ∨ (97 ≤ bn (escB s) 0 ∧ bn (escB s) 0 ≤ 122) := by
  cases s with
  | nil => left; rfl
  | cons c r =>
    rw [escB]
    unfold encB
    split
    · right; right; simpa [bn] using ‹_›
    · right; left; simp [bn]
theorem sign_none {bs : List UInt8} {i : Nat} (h : bn bs i = 0 ∨ bn bs i = 92 ∨ (97 ≤ bn bs i ∧ bn bs i ≤ 122)) : signS bs i = (0, 0, 0) := by
  unfold signS
  rw [if_neg (by omega), if_neg (by omega), if_neg (by omega), if_neg (by omega)]
theorem piece_one (pre r : List UInt8) (c : UInt8) (f d : Nat) :
    pieceF (pre ++ (encB c ++ escB r)) (f + 2) d pre.length = .ok (tSet (S4.range c.toNat c.toNat), (pre ++ encB c).length) ∧ goesOn (pre ++ (encB c ++ escB r)) pre.length := by
  obtain ⟨bs, hbs⟩ : ∃ bs, bs = pre ++ (encB c ++ escB r) := ⟨_, rfl⟩
  have hb0 : bn bs pre.length = bn (encB c ++ escB r) 0 := by have := bn_app pre (encB c ++ escB r) 0; rw [Nat.add_zero] at this; rw [hbs]; exact this
  have hb1 : bn bs (pre.length + 1) = bn (encB c ++ escB r) 1 := by rw [hbs]; exact bn_app pre _ 1
  have hsg : signS bs (pre ++ encB c).length = (0, 0, 0) := by
    have e : bs = (pre ++ encB c) ++ escB r := by rw [hbs, List.append_assoc]
    have := bn_app (pre ++ encB c) (escB r) 0
    rw [Nat.add_zero, ← e] at this
    refine sign_none ?_
    rw [this]; exact bn_esc0 r
  have hlen : pre.length < bs.length := by
    rw [hbs, List.length_append, List.length_append]
    unfold encB
    split <;> simp <;> omega
  have hcl := c.toNat_lt
  have hres : plainS bs pre.length = .ok (tSet (S4.range c.toNat c.toNat), (pre ++ encB c).length) ∧ bn bs pre.length ≠ 40 ∧ bn bs pre.length ≠ 124 ∧ bn bs pre.length ≠ 41 := by
    by_cases h : 97 ≤ c.toNat ∧ c.toNat ≤ 122
    · have e0 : bn bs pre.length = c.toNat := by rw [hb0]; unfold encB; rw [if_pos h]; simp [bn]
      have el : (pre ++ encB c).length = pre.length + 1 := by unfold encB; rw [if_pos h]; simp
      refine ⟨?_, by omega, by omega, by omega⟩
      unfold plainS
      rw [e0, el, if_neg (by omega), if_neg (by omega), if_neg (by omega), if_neg (by omega), if_neg (by omega), if_neg (by omega)]
    · have e0 : bn bs pre.length = 92 := by rw [hb0]; unfold encB; rw [if_neg h]; simp [bn]
      have e1 : bn bs (pre.length + 1) = c.toNat := by rw [hb1]; unfold encB; rw [if_neg h]; simp [bn]
      have el : (pre ++ encB c).length = pre.length + 2 := by unfold encB; rw [if_neg h]; simp
      have hl2 : ¬ bs.length ≤ pre.length + 1 := by
        rw [hbs, List.length_append, List.length_append]
        unfold encB
        rw [if_neg h]; simp; omega
      refine ⟨?_, by omega, by omega, by omega⟩
      unfold plainS
      rw [e0, el, if_neg (by omega), if_neg (by omega), if_neg (by omega), if_neg (by omega), if_neg (by omega), if_pos rfl, if_neg hl2, e1, escN_id h]
  rw [← hbs]
  refine ⟨?_, hlen, hres.2.2.1, hres.2.2.2⟩
  rw [pieceF, atomF, if_neg hres.2.1, hres.1]
  simp only
  rw [signsL, hsg]
  rfl
theorem branch_plain : ∀ (r pre : List UInt8) (acc : List RT) (f d : Nat), r.length + 3 ≤ f → branchF (pre ++ escB r) f d pre.length acc = .ok (rowT (acc ++ rowOf r), (pre ++ escB r).length)
  | [], pre, acc, f + 1, d, hf => by
    rw [branchF, if_neg (by unfold goesOn escB; simp)]
    simp [rowOf, escB]
  | c :: r, pre, acc, f + 1, d, hf => by
    rw [List.length_cons] at hf
    obtain ⟨f2, rfl⟩ : ∃ f2, f = f2 + 2 := ⟨f - 2, by omega⟩
    obtain ⟨h1, h2⟩ := piece_one pre r c f2 d
    rw [escB, branchF, if_pos h2, h1]
    simp only
    have e : pre ++ (encB c ++ escB r) = (pre ++ encB c) ++ escB r := by rw [List.append_assoc]
    rw [e, branch_plain r (pre ++ encB c) (acc ++ [tSet (S4.range c.toNat c.toNat)]) (f2 + 2) d (by omega)]
    simp [rowOf]
  | _, _, _, 0, _, hf => by omega
theorem parse_plain {s : List UInt8} (h : s.length ≤ 40) : parseS (escB s) = .ok (rowT (rowOf s)) := by
  obtain ⟨l1, l2⟩ := escB_len s
  unfold parseS
  rw [if_neg (by omega)]
  have hf : 6 * (escB s).length + 5 = (6 * (escB s).length + 4) + 1 := by omega
  have hb := branch_plain s [] [] (6 * (escB s).length + 4) 0 (by omega)
  simp only [List.nil_append, List.length_nil] at hb
  rw [hf, exprF, hb]
  simp only
  have h0 : bn (escB s) (escB s).length = 0 := by unfold bn; rw [List.getD_eq_getElem?_getD, List.getElem?_eq_none (Nat.le_refl _)]; rfl
  rw [if_neg (by rw [h0]; omega)]
  simp only [List.nil_append]
  rw [if_neg (by omega)]
  rfl
theorem siz_row : ∀ s : List UInt8, sizL (toL (rowOf s)) = s.length
  | [] => by simp [rowOf, toL, sizL]
  | c :: r => by
    have := siz_row r
    unfold rowOf at this ⊢
    rw [List.map_cons, toL, sizL, this, tSet, toP, sizP, List.length_cons]
    simp; omega
theorem siz_plain {s : List UInt8} (h : s.length ≤ 40) : sizP (toP (rowT (rowOf s))) < 4000 := by
  have h1 := siz_row s
  match s, h, h1 with
  | [], _, _ => show sizP (toP tNone) < 4000; unfold tNone; simp [toP, toL, sizP]
  | [c], _, _ => show sizP (toP (tSet _)) < 4000; unfold tSet; simp [toP, toL, sizP]
  | a :: b :: r, h, h1 =>
    show sizP (toP (.mk 2 S4.empty 0 0 (rowOf (a :: b :: r)))) < 4000
    rw [toP, sizP, h1]
    simp at h ⊢; omega
theorem sem_one {tx : List UInt8} {x : UInt8} {a b : Nat} : semP tx (toP (tSet (S4.range x.toNat x.toNat))) a b ↔ a < tx.length ∧ b = a + 1 ∧ tx.getD a 0 = x := by
  unfold tSet
  rw [toP, semP]
  simp only [if_true]
  have hx := x.toNat_lt
  have ht := (tx.getD a 0).toNat_lt
  have e : ∀ S : S4, (S4.mk ((S.a : Int)).toNat ((S.b : Int)).toNat ((S.c : Int)).toNat ((S.d : Int)).toNat) = S := fun S => by cases S; rfl
  rw [e, S4.mem_range _ _ _ hx hx ht]
  simp only [decide_eq_true_eq]
  constructor
  · rintro ⟨h1, h2, h3⟩
    exact ⟨h1, h2, UInt8.toNat_inj.1 (by omega)⟩
  · rintro ⟨h1, h2, h3⟩
    exact ⟨h1, h2, by rw [h3]; omega⟩
theorem sem_row {tx : List UInt8} : ∀ (s : List UInt8) (a c : Nat), a ≤ tx.length → (semL tx (toL (rowOf s)) a c ↔ c = a + s.length ∧ s <+: tx.drop a)
  | [], a, c, ha => by
    simp [rowOf, toL, semL]
    omega
  | x :: r, a, c, ha => by
    have ih := fun b hb => sem_row (tx := tx) r b c hb
    unfold rowOf at ih ⊢
    rw [List.map_cons, toL, semL]
    constructor
    · rintro ⟨b, h1, h2⟩
      obtain ⟨g1, g2, g3⟩ := sem_one.1 h1
      obtain ⟨g4, g5⟩ := (ih b (by omega)).1 h2
      subst g2
      refine ⟨by rw [List.length_cons]; omega, ?_⟩
      rw [List.drop_eq_getElem_cons g1]
      have e : tx[a] = x := by rw [← g3, List.getD_eq_getElem?_getD, List.getElem?_eq_getElem g1]; rfl
      rw [e]
      exact List.cons_prefix_cons.2 ⟨rfl, g5⟩
    · rintro ⟨h1, h2⟩
      have hlt : a < tx.length := by
        have := h2.length_le
        rw [List.length_drop, List.length_cons] at this
        omega
      rw [List.drop_eq_getElem_cons hlt] at h2
      obtain ⟨e, h3⟩ := List.cons_prefix_cons.1 h2
      refine ⟨a + 1, sem_one.2 ⟨hlt, rfl, ?_⟩, (ih (a + 1) (by omega)).2 ⟨by rw [List.length_cons] at h1; omega, h3⟩⟩
      rw [List.getD_eq_getElem?_getD, List.getElem?_eq_getElem hlt]
      exact e.symm
theorem sem_plain {tx s : List UInt8} {a c : Nat} (ha : a ≤ tx.length) : semP tx (toP (rowT (rowOf s))) a c ↔ c = a + s.length ∧ s <+: tx.drop a := by
  rw [← sem_row s a c ha]
  match s with
  | [] =>
    show semP tx (toP tNone) a c ↔ _
    unfold tNone
    rw [toP, semP]
    simp [rowOf, toL, semL]
  | [x] =>
    show semP tx (toP (tSet _)) a c ↔ _
    simp only [rowOf, List.map_cons, List.map_nil, toL, semL]
    constructor
    · intro h; exact ⟨c, h, rfl⟩
    · rintro ⟨b, h, rfl⟩; exact h
  | x :: y :: r =>
    show semP tx (toP (.mk 2 S4.empty 0 0 (rowOf (x :: y :: r)))) a c ↔ _
    rw [toP, semP]
    simp
theorem plain_mt {tx s : List UInt8} (hs : s.length ≤ 40) {a c : Nat} (ha : a ≤ tx.length) : Mt (progT (rowT (rowOf s))) tx false a c ↔ c = a + s.length ∧ s <+: tx.drop a := by
  rw [parse_mt (parse_plain hs) tx ha, sem_plain ha]
theorem pre_len {tx s : List UInt8} {a : Nat} (ha : a ≤ tx.length) (h : s <+: tx.drop a) : a + s.length ≤ tx.length := by
  have := h.length_le
  rw [List.length_drop] at this
  omega
theorem plain_some {tx s : List UInt8} (hs : s.length ≤ 40) {A : Nat} (hA : A + s.length ≤ tx.length) (hp : s <+: tx.drop A) (hl : ∀ j, j + s.length ≤ tx.length → s <+: tx.drop j → A ≤ j) :
    findS (progT (rowT (rowOf s))) tx 0 = some (A, A + s.length) := by
  obtain ⟨h1, h2, -⟩ := parse_prog (parse_plain hs)
  refine findS_eq h1 h2 (Nat.zero_le _) ⟨Nat.zero_le _, by simp, hA, (plain_mt hs (by omega)).2 ⟨rfl, hp⟩, fun t e ht htl hm => ?_⟩
  obtain ⟨g1, g2⟩ := (plain_mt hs htl).1 hm
  have := hl t (pre_len htl g2) g2
  dsimp only
  omega
theorem plain_none {tx s : List UInt8} (hs : s.length ≤ 40) (hn : ∀ j, j + s.length ≤ tx.length → ¬ s <+: tx.drop j) : findS (progT (rowT (rowOf s))) tx 0 = none := by
  obtain ⟨h1, h2, -⟩ := parse_prog (parse_plain hs)
  cases hf : findS (progT (rowT (rowOf s))) tx 0 with
  | none => rfl
  | some q =>
    have h := findS_some h1 h2 (Nat.zero_le _) hf
    have hle := Nat.le_trans h.le h.len
    obtain ⟨g1, g2⟩ := (plain_mt hs hle).1 h.mt
    exact absurd g2 (hn _ (pre_len hle g2))
theorem plain_takes {tx s : List UInt8} (hs : s.length ≤ 40) : takesS (progT (rowT (rowOf s))) tx = decide (s = tx) := by
  obtain ⟨h1, h2, -⟩ := parse_prog (parse_plain hs)
  rw [Bool.eq_iff_iff, takesS_iff h1 h2, plain_mt hs (Nat.zero_le _)]
  simp only [decide_eq_true_eq, List.drop_zero, Nat.zero_add]
  constructor
  · rintro ⟨g1, g2⟩
    exact g2.eq_of_length g1.symm
  · rintro rfl
    exact ⟨rfl, List.prefix_refl _⟩
end Go.Proofs.Ytekfpipgcpkejaa
