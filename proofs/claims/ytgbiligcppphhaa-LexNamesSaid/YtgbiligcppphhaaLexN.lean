/-
  Letters and digits that a letter begins are one token. No program, no conditions.
-/
import Derived.Test.YtgbiligcppphhaaLexT
namespace Go.Proofs.Ytgbiligcppphhaa
set_option linter.unusedVariables false
set_option linter.unusedSimpArgs false

theorem tw_all (f : UInt8 → Bool) (s b : List UInt8) (h : ∀ x ∈ s, f x = true) (hb : b.takeWhile f = []) : (s ++ b).takeWhile f = s := by
  induction s with
  | nil => exact hb
  | cons a r ih => rw [List.cons_append, List.takeWhile_cons, if_pos (h a (List.mem_cons_self ..)), ih fun x hx => h x (List.mem_cons_of_mem _ hx)]
def nameK (c : Nat) (w : List UInt8) : Nat := if w ∈ words then 7 else if w ∈ builts then 8 else if c = 40 then 6 else 5
theorem next_name {op : Bool} {c : UInt8} {r b : List UInt8} (hc : letM c = true) (h : ∀ x ∈ r, wrdM x = true) (hb : b.takeWhile wrdM = []) :
    nextM op (c :: r ++ b) = .ok (nameK (b.headD 0).toNat (c :: r), c :: r, 0, (c :: r).length) := by
  have hcs : ∀ x ∈ c :: r, wrdM x = true := by
    intro x hx
    rcases List.mem_cons.1 hx with rfl | hx
    · unfold wrdM; rw [hc]; rfl
    · exact h x hx
  have htw := tw_all wrdM (c :: r) b hcs hb
  have hd : ((c :: r) ++ b).drop (c :: r).length = b := by simp
  simp only [letM, Bool.or_eq_true, Bool.and_eq_true, decide_eq_true_eq] at hc
  have hl : letM c = true := by simp only [letM, Bool.or_eq_true, Bool.and_eq_true, decide_eq_true_eq]; exact hc
  have hdg : ¬(c.toNat = 46 ∧ digM ((r ++ b).headD 0) = true ∨ digM c = true) := by
    simp only [digM, Bool.and_eq_true, decide_eq_true_eq]; omega
  rw [List.cons_append] at htw hd ⊢
  unfold nextM
  dsimp only
  rw [if_neg (by omega), if_neg hdg, if_neg (by omega), if_neg (by omega), if_pos hl, htw, hd]
  rfl
theorem skip_name {c : UInt8} (s : List UInt8) (hc : letM c = true) : skipM (c :: s) = 0 := by
  simp only [letM, Bool.or_eq_true, Bool.and_eq_true, decide_eq_true_eq] at hc
  rw [skipM_cons, if_neg (by omega), if_neg (by omega), if_neg (by omega)]
theorem lex_name {c : UInt8} {r b : List UInt8} (hc : letM c = true) (h : ∀ x ∈ r, wrdM x = true) (hb : b.takeWhile wrdM = []) (n : Nat) :
    lexM (n + 1) true 0 (c :: r ++ b) = match lexM n (operM (nameK (b.headD 0).toNat (c :: r)) (c :: r)) (c :: r).length b with
      | .error e => .error e
      | .ok l => .ok (⟨nameK (b.headD 0).toNat (c :: r), 0, c :: r, 0⟩ :: l) := by
  rw [lexM_succ]
  have hs : skipM (c :: r ++ b) = 0 := skip_name _ hc
  rw [hs, List.drop_zero]
  have hn := next_name (op := true) hc h hb
  have hd : (c :: r ++ b).drop (c :: r).length = b := by simp
  unfold lexT
  rw [List.cons_append] at hn hd ⊢
  dsimp only
  rw [hn]
  dsimp only
  rw [hd, Nat.zero_add, Nat.zero_add]
  cases lexM n (operM (nameK (b.headD 0).toNat (c :: r)) (c :: r)) (c :: r).length b <;> rfl
theorem lex_end (n : Nat) (op : Bool) (p : Nat) : lexM (n + 1) op p [] = .ok [⟨0, p, [], 0⟩] := rfl
theorem lex_par (n : Nat) (op : Bool) (p : Nat) : lexM (n + 2) op p [40] = .ok [⟨9, p, [40], 0⟩, ⟨0, p + 1, [], 0⟩] := rfl
theorem lex_blank (n : Nat) (op : Bool) (p : Nat) : lexM (n + 2) op p [32, 40] = .ok [⟨9, p + 1, [40], 0⟩, ⟨0, p + 2, [], 0⟩] := rfl
/-- The law's three answers. -/
theorem names_all {c : UInt8} {r : List UInt8} (hc : letM c = true) (h : ∀ x ∈ r, wrdM x = true) (hl : (c :: r).length ≤ 60) :
    lexAllM (c :: r) = .ok [⟨nameK 0 (c :: r), 0, c :: r, 0⟩, ⟨0, (c :: r).length, [], 0⟩] ∧
    lexAllM (c :: r ++ [32, 40]) = .ok [⟨nameK 0 (c :: r), 0, c :: r, 0⟩, ⟨9, (c :: r).length + 1, [40], 0⟩, ⟨0, (c :: r).length + 2, [], 0⟩] ∧
    lexAllM (c :: r ++ [40]) = .ok [⟨nameK 40 (c :: r), 0, c :: r, 0⟩, ⟨9, (c :: r).length, [40], 0⟩, ⟨0, (c :: r).length + 1, [], 0⟩] := by
  have e1 := fun n => lex_name (b := []) hc h rfl n
  have e2 := fun n => lex_name (b := [32, 40]) hc h rfl n
  have e3 := fun n => lex_name (b := [40]) hc h rfl n
  rw [List.append_nil] at e1
  have l2 : (c :: r ++ [32, 40]).length = (c :: r).length + 2 := by simp
  have l3 : (c :: r ++ [40]).length = (c :: r).length + 1 := by simp
  have l0 : (c :: r).length = r.length + 1 := rfl
  unfold lexAllM
  refine ⟨?_, ?_, ?_⟩
  · rw [if_neg (by omega), e1, l0, lex_end]; rfl
  · rw [if_neg (by omega), e2, l2, lex_blank]; rfl
  · rw [if_neg (by omega), e3, l3, l0, lex_par]; rfl
theorem nameK_40 (w : List UInt8) : (nameK 0 w ≠ 5 ∧ nameK 40 w = nameK 0 w) ∨ (nameK 0 w = 5 ∧ nameK 40 w = 6) := by
  unfold nameK
  split
  · exact .inl ⟨by decide, rfl⟩
  · split
    · exact .inl ⟨by decide, rfl⟩
    · exact .inr ⟨rfl, rfl⟩
end Go.Proofs.Ytgbiligcppphhaa
