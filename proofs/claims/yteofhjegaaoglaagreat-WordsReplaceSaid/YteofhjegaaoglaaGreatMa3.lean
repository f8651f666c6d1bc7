/-
 The sets of what is read are proper: the steps of an expression are in order. No conditions.
-/
import Derived.Test.YteofhjegaaoglaaGreatGzI
import Derived.Test.YteofhjegaaoglaaGreatMbP
namespace Go.Proofs.YteofhjegaaoglaaGreat
open Go.RowKit
set_option linter.unusedVariables false
set_option linter.unusedSimpArgs false
mutual
def sokT : RT → Prop | .mk _ s _ _ l => s.ok ∧ sokTL l
def sokTL : List RT → Prop | [] => True | t :: r => sokT t ∧ sokTL r
end
theorem sokTL_append : ∀ (a b : List RT), sokTL a → sokTL b → sokTL (a ++ b)
 | [], b, _, h => h
 | t :: r, b, h, k => by rw [sokTL] at h; rw [List.cons_append, sokTL]; exact ⟨h.1, sokTL_append r b h.2 k⟩
theorem sokTL_one {t : RT} (h : sokT t) : sokTL [t] := by rw [sokTL, sokTL]; exact ⟨h, trivial⟩
theorem sok_leaf {k : Int} {s : S4} (h : s.ok) : sokT (.mk k s 0 0 []) := by rw [sokT, sokTL]; exact ⟨h, trivial⟩
theorem sok_row {l : List RT} (h : sokTL l) : sokT (rowT l) := by
 match l, h with
 | [], h => exact sok_leaf S4.empty_ok
 | [t], h => rw [sokTL] at h; exact h.1
 | a :: b :: r, h => show sokT (.mk 2 S4.empty 0 0 (a :: b :: r)); rw [sokT]; exact ⟨S4.empty_ok, h⟩
theorem sok_join {l : List RT} (h : sokTL l) : sokT (joinT l) := by
 match l, h with
 | [], h => show sokT (.mk 3 S4.empty 0 0 []); rw [sokT]; exact ⟨S4.empty_ok, h⟩
 | [t], h => rw [sokTL] at h; exact h.1
 | a :: b :: r, h => show sokT (.mk 3 S4.empty 0 0 (a :: b :: r)); rw [sokT]; exact ⟨S4.empty_ok, h⟩
theorem signs_sok {bs : List UInt8} : ∀ (k : Nat) (t : RT) (i : Nat) (t' : RT) (j : Nat), sokT t → signsL bs k t i = .ok (t', j) → sokT t'
 | 0, t, i, t', j, ht, h => by
  rw [signsL] at h; split at h
  ·injection h with h; injection h with h1 h2; subst h1; exact ht
  ·split at h <;> cases h
 | k + 1, t, i, t', j, ht, h => by
  rw [signsL] at h; split at h
  ·injection h with h; injection h with h1 h2; subst h1; exact ht
  ·split at h
   ·cases h
   ·refine signs_sok k _ _ _ _ ?_ h; unfold tTimes; rw [sokT]; exact ⟨S4.empty_ok, sokTL_one ht⟩
theorem plain_sok {bs : List UInt8} {i j : Nat} {t : RT} (hi : i < bs.length) (h : plainS bs i = .ok (t, j)) : sokT t := by
 unfold plainS at h; split at h
 ·cases h
 ·split at h
  ·cases hb : bracketS bs i with
   | error p => rw [hb] at h; cases h
   | ok p =>
    obtain ⟨S, n⟩ := p; have hS := (bracketS_le hi hb).2.2; rw [hb] at h; simp only [setR] at h
    injection h with h; injection h with h1 h2; rw [← h1]; exact sok_leaf hS
  ·(repeat' split at h) <;> first | (injection h with h; injection h with h1 h2; rw [← h1]; first | exact sok_leaf (S4.range_ok _ _) | exact sok_leaf S4.empty_ok) | cases h
theorem read_sok (bs : List UInt8) : ∀ f : Nat,
    (∀ d i acc t j, i ≤ bs.length → sokTL acc → exprF bs f d i acc = .ok (t, j) → sokT t) ∧
    (∀ d i acc t j, i ≤ bs.length → sokTL acc → branchF bs f d i acc = .ok (t, j) → sokT t) ∧
    (∀ d i t j, i < bs.length → pieceF bs f d i = .ok (t, j) → sokT t) ∧
    (∀ d i t j, i < bs.length → atomF bs f d i = .ok (t, j) → sokT t)
 | 0 => ⟨fun _ _ _ _ _ _ _ h => (by rw [exprF] at h; cases h), fun _ _ _ _ _ _ _ h => (by rw [branchF] at h; cases h), fun _ _ _ _ _ h => (by rw [pieceF] at h; cases h), fun _ _ _ _ _ h => (by rw [atomF] at h; cases h)⟩
 | f + 1 => by
  obtain ⟨hE, hB, hP, hA⟩ := read_sok bs f; obtain ⟨-, lB, lP, lA⟩ := readF_le bs f; refine ⟨fun d i acc t j hi hr h => ?_, fun d i acc t j hi hr h => ?_, fun d i t j hi h => ?_, fun d i t j hi h => ?_⟩
  ·rw [exprF] at h
   cases hb : branchF bs f d i [] with
   | error p => rw [hb] at h; cases h
   | ok p =>
    obtain ⟨t1, j1⟩ := p; rw [hb] at h; simp only at h; have h1 := lB d i [] t1 j1 hi hb; have g1 := hB d i [] t1 j1 hi (by rw [sokTL]; trivial) hb; by_cases h124 : bn bs j1 = 124
    ·rw [if_pos h124] at h; have := bn_pos h124 (by omega); exact hE d (j1 + 1) _ t j (by omega) (sokTL_append _ _ hr (sokTL_one g1)) h
    ·rw [if_neg h124] at h
     injection h with h; injection h with h2 h3
     subst h2; exact sok_join (sokTL_append _ _ hr (sokTL_one g1))
  ·rw [branchF] at h; by_cases hg : goesOn bs i
   ·rw [if_pos hg] at h
    cases hb : pieceF bs f d i with
    | error p => rw [hb] at h; cases h
    | ok p =>
     obtain ⟨t1, j1⟩ := p; rw [hb] at h; have h1 := lP d i t1 j1 hg.1 hb; exact hB d j1 _ t j h1.2 (sokTL_append _ _ hr (sokTL_one (hP d i t1 j1 hg.1 hb))) h
   ·rw [if_neg hg] at h
    injection h with h; injection h with h2 h3
    subst h2; exact sok_row hr
  ·rw [pieceF] at h
   cases hb : atomF bs f d i with
   | error p => rw [hb] at h; cases h
   | ok p =>
    obtain ⟨t1, j1⟩ := p; rw [hb] at h; exact signs_sok 8 t1 j1 t j (hA d i t1 j1 hi hb) h
  ·rw [atomF] at h; split at h
   ·split at h
    ·cases h
    ·cases hb : exprF bs f (d + 1) (i + 1) [] with
     | error p => rw [hb] at h; cases h
     | ok p =>
      obtain ⟨t1, j1⟩ := p; rw [hb] at h; simp only [closeT] at h; split at h
      ·injection h with h; injection h with h2 h3
       subst h2; exact hE (d + 1) (i + 1) [] t1 j1 (by omega) (by rw [sokTL]; trivial) hb
      ·cases h
   ·exact plain_sok hi h
theorem parse_sok {bs : List UInt8} {t : RT} (h : parseS bs = .ok t) : sokT t := by
 unfold parseS at h; by_cases h1 : 1000 < bs.length
 ·rw [if_pos h1] at h; cases h
 ·rw [if_neg h1] at h
  cases hb : exprF bs (6 * bs.length + 5) 0 0 [] with
  | error q => rw [hb] at h; cases h
  | ok q =>
   obtain ⟨t1, j⟩ := q; rw [hb] at h; simp only at h; have g := (read_sok bs _).1 0 0 [] t1 j (Nat.zero_le _) (by rw [sokTL]; trivial) hb; by_cases h2 : j < bs.length
   ·rw [if_pos h2] at h; cases h
   ·rw [if_neg h2] at h
    injection h with h
    subst h; exact g
mutual
theorem setsP_toP : ∀ t : RT, sokT t → setsP (toP t)
 | .mk k s mn mx l, h => by
  rw [sokT] at h; rw [toP, setsP]; obtain ⟨h1, h2⟩ := h; refine ⟨⟨by simp, by simp, by simp, by simp, ?_⟩, setsL_toL l h2⟩; obtain ⟨a, b, c, d⟩ := s
  simpa [Sp.set4, S4.ok] using h1
theorem setsL_toL : ∀ l : List RT, sokTL l → setsL (toL l)
 | [], h => by rw [toL, setsL]; trivial
 | t :: r, h => by rw [sokTL] at h; rw [toL, setsL]; exact ⟨setsP_toP t h.1, setsL_toL r h.2⟩
end
theorem parse_prog {bs : List UInt8} {t : RT} (h : parseS bs = .ok t) : ProgOk (progT t) ∧ 0 < (progT t).length ∧ (progT t).length = sizP (toP t) + 1 ∧ rightP (toP t) = true ∧ setsP (toP t) := by
 have hr := (parse_good h).1; have hrp : rightP (toP t) = true := by rw [RepP.right t _ (toP_rep t)]; exact hr
 have hs := setsP_toP t (parse_sok h); exact ⟨progP_ok hrp hs, by rw [progT_len hr]; omega, progT_len hr, hrp, hs⟩
theorem parse_mt {bs : List UInt8} {t : RT} (h : parseS bs = .ok t) (tx : List UInt8) {a c : Nat} (ha : a ≤ tx.length) : Mt (progT t) tx false a c ↔ semP tx (toP t) a c := by
 obtain ⟨-, -, -, h4, h5⟩ := parse_prog h; exact progP_mt h4 h5 ha
end Go.Proofs.YteofhjegaaoglaaGreat
