/-
  Plain law of intervals: what x{m,n} is. No program, no conditions.
-/
import Derived.Test.YtmecogilhoebgaaDoorErD
namespace Go.Proofs.YtmecogilhoebgaaDoor
set_option linter.unusedVariables false
set_option linter.unusedSimpArgs false

def dig3 (m : Nat) : List UInt8 := [UInt8.ofNat (48 + m / 100), UInt8.ofNat (48 + m / 10 % 10), UInt8.ofNat (48 + m % 10)]
theorem ofNat_toNat_ {x : Nat} (h : x < 256) : (UInt8.ofNat x).toNat = x := by simp; omega
theorem isDig_of {x : Nat} (h1 : 48 ≤ x) (h2 : x ≤ 57) : isDig (UInt8.ofNat x) = true := by
  unfold isDig; rw [ofNat_toNat_ (by omega)]; simp; omega
theorem numS_dig (m : Nat) (hm : m < 1000) (c : UInt8) (r : List UInt8) (hc : isDig c = false) : numS (dig3 m ++ c :: r) = (m, 3) := by
  have h1 := isDig_of (x := 48 + m / 100) (by omega) (by omega)
  have h2 := isDig_of (x := 48 + m / 10 % 10) (by omega) (by omega)
  have h3 := isDig_of (x := 48 + m % 10) (by omega) (by omega)
  have e : (dig3 m ++ c :: r).takeWhile isDig = dig3 m := by
    unfold dig3
    generalize UInt8.ofNat (48 + m / 100) = x1 at *
    generalize UInt8.ofNat (48 + m / 10 % 10) = x2 at *
    generalize UInt8.ofNat (48 + m % 10) = x3 at *
    simp [List.takeWhile_cons, h1, h2, h3, hc]
  unfold numS
  rw [e]
  have hv : numV (dig3 m) = m := by
    unfold numV dig3
    simp only [List.foldl_cons, List.foldl_nil]
    rw [ofNat_toNat_ (by omega), ofNat_toNat_ (by omega), ofNat_toNat_ (by omega)]
    omega
  rw [hv]; rfl
/-- x{m,} or x{m,n}. -/
def tb (m : Nat) : Option Nat → List UInt8
  | none => [120, 123] ++ dig3 m ++ [44] ++ [125]
  | some n => [120, 123] ++ dig3 m ++ [44] ++ dig3 n ++ [125]
def tbN : Option Nat → Int | none => -1 | some n => (n : Int)
theorem tb_len (m : Nat) : ∀ o, (tb m o).length = (match o with | none => 7 | some _ => 10)
  | none => rfl
  | some n => rfl
theorem sign_tb (m : Nat) (hm : m < 1000) : ∀ o : Option Nat, (∀ n, o = some n → n < 1000) → signS (tb m o) 1 = ((m : Int), tbN o, (tb m o).length - 1)
  | none, _ => by
    have hb : bn (tb m none) 1 = 123 := rfl
    unfold signS
    rw [hb]
    simp only [show ¬ ((123 : Nat) = 42) by omega, show ¬ ((123 : Nat) = 43) by omega, show ¬ ((123 : Nat) = 63) by omega, if_false, if_true]
    have hd : (tb m none).drop 1 = 123 :: (dig3 m ++ 44 :: [125]) := rfl
    rw [hd]
    unfold intervalS
    rw [List.drop_succ_cons, List.drop_zero, numS_dig m hm 44 [125] (by decide)]
    unfold intervalT
    have h4 : bn (123 :: (dig3 m ++ 44 :: [125])) (3 + 1) = 44 := rfl
    have hd5 : (123 :: (dig3 m ++ 44 :: [125])).drop (3 + 2) = [125] := rfl
    have hn : numS [125] = (0, 0) := rfl
    simp only [h4, hd5, hn, if_true]
    have h5 : bn (123 :: (dig3 m ++ 44 :: [125])) (3 + 2 + 0) = 125 := rfl
    rw [if_neg (by omega), if_pos h5]
    rfl
  | some n, ho => by
    have hn1 := ho n rfl
    have hb : bn (tb m (some n)) 1 = 123 := rfl
    unfold signS
    rw [hb]
    simp only [show ¬ ((123 : Nat) = 42) by omega, show ¬ ((123 : Nat) = 43) by omega, show ¬ ((123 : Nat) = 63) by omega, if_false, if_true]
    have hd : (tb m (some n)).drop 1 = 123 :: (dig3 m ++ 44 :: (dig3 n ++ [125])) := by simp [tb, dig3]
    rw [hd]
    unfold intervalS
    rw [List.drop_succ_cons, List.drop_zero, numS_dig m hm 44 _ (by decide)]
    unfold intervalT
    have h4 : bn (123 :: (dig3 m ++ 44 :: (dig3 n ++ [125]))) (3 + 1) = 44 := rfl
    have hd5 : (123 :: (dig3 m ++ 44 :: (dig3 n ++ [125]))).drop (3 + 2) = dig3 n ++ 125 :: [] := rfl
    simp only [h4, hd5, numS_dig n hn1 125 [] (by decide), if_true]
    have h5 : bn (123 :: (dig3 m ++ 44 :: (dig3 n ++ [125]))) (3 + 2 + 3) = 125 := rfl
    rw [if_neg (by omega), if_pos h5]
    rfl
/-- One atom and its signs are the expression. -/
theorem expr_signs {bs : List UInt8} {f d i j k : Nat} {t t' : RT} (hg : goesOn bs i) (ha : atomF bs f d i = .ok (t, j)) (hs : signsL bs 8 t j = .ok (t', k)) (hn : ¬ goesOn bs k) (h124 : bn bs k ≠ 124) : exprF bs (f + 3) d i [] = .ok (t', k) := by
  rw [exprF, branchF, if_pos hg, pieceF, ha]
  simp only [hs]
  rw [branchF, if_neg hn]
  simp [rowT, joinT, h124]
theorem expr_signs_bad {bs : List UInt8} {f d i j : Nat} {t : RT} {p : Nat × Nat} (hg : goesOn bs i) (ha : atomF bs f d i = .ok (t, j)) (hs : signsL bs 8 t j = .error p) : exprF bs (f + 3) d i [] = .error p := by
  rw [exprF, branchF, if_pos hg, pieceF, ha]
  simp only [hs]
theorem bn_end (bs : List UInt8) : bn bs bs.length = 0 := by
  unfold bn; simp [List.getD_eq_getElem?_getD]
theorem times_parse (m : Nat) (hm : m < 1000) (o : Option Nat) (ho : ∀ n, o = some n → n < 1000) :
    parseS (tb m o) = if badS ((m : Int), tbN o, (tb m o).length - 1) = true then .error (1, 5) else .ok (tTimes m (tbN o) (tSet (S4.range 120 120))) := by
  have hlen : 7 ≤ (tb m o).length ∧ (tb m o).length ≤ 10 := by rw [tb_len]; cases o <;> simp
  have hs := sign_tb m hm o ho
  have hb0 : bn (tb m o) 0 = 120 := by cases o <;> rfl
  have hg : goesOn (tb m o) 0 := ⟨by omega, by omega, by omega⟩
  obtain ⟨f, hf⟩ : ∃ f, 6 * (tb m o).length + 5 = f + 1 + 3 := ⟨6 * (tb m o).length + 1, by omega⟩
  have hat : atomF (tb m o) (f + 1) 0 0 = .ok (tSet (S4.range 120 120), 1) := by
    rw [atomF, if_neg (by omega)]
    unfold plainS
    rw [hb0]; simp
  unfold parseS
  rw [if_neg (by omega), hf]
  generalize hL : tb m o = bs at *
  have hend : signS bs bs.length = (0, 0, 0) := by
    unfold signS; rw [bn_end]; simp
  by_cases hbad : badS ((m : Int), tbN o, bs.length - 1) = true
  · have hsl : signsL bs 8 (tSet (S4.range 120 120)) 1 = .error (1, 5) := by
      rw [signsL, hs, if_neg (by simp; omega), if_pos hbad]
    rw [expr_signs_bad hg hat hsl, if_pos hbad]
  · have hsl : signsL bs 8 (tSet (S4.range 120 120)) 1 = .ok (tTimes m (tbN o) (tSet (S4.range 120 120)), bs.length) := by
      rw [signsL, hs, if_neg (by simp; omega), if_neg hbad]
      simp only []
      rw [show 1 + (bs.length - 1) = bs.length by omega, signsL, hend, if_pos rfl]
    rw [expr_signs hg hat hsl (fun h => by have := h.1; omega) (by rw [bn_end]; omega), if_neg hbad]
    simp
end Go.Proofs.YtmecogilhoebgaaDoor
