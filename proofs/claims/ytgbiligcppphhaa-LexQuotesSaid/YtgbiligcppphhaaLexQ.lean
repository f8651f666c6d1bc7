/-
  Bytes told by three octal digits each between quotes are one token of these bytes. No program, no conditions.
-/
import Derived.Test.YtgbiligcppphhaaLexT
namespace Go.Proofs.Ytgbiligcppphhaa
set_option linter.unusedVariables false
set_option linter.unusedSimpArgs false

/-- A byte told by three octal digits. -/
def oct3 (x : UInt8) : List UInt8 := [92, UInt8.ofNat (48 + x.toNat / 64), UInt8.ofNat (48 + x.toNat / 8 % 8), UInt8.ofNat (48 + x.toNat % 8)]
theorem nat8 {n : Nat} (h : n < 256) : (UInt8.ofNat n).toNat = n := by simp [Nat.mod_eq_of_lt h]
theorem oct3_quot (x : UInt8) (r : List UInt8) : quotM 34 (oct3 x ++ r) = (quotM 34 r).map (· + 4) := by
  have hx := x.toNat_lt
  have h2 := nat8 (n := 48 + x.toNat / 64) (by omega)
  have h3 := nat8 (n := 48 + x.toNat / 8 % 8) (by omega)
  have h4 := nat8 (n := 48 + x.toNat % 8) (by omega)
  unfold oct3
  simp only [List.cons_append, List.nil_append]
  generalize UInt8.ofNat (48 + x.toNat / 64) = d2 at *
  generalize UInt8.ofNat (48 + x.toNat / 8 % 8) = d3 at *
  generalize UInt8.ofNat (48 + x.toNat % 8) = d4 at *
  rw [quotM_cons, if_neg (by decide), if_neg (by decide), if_pos (by decide), List.headD_cons, if_neg (by simp; omega), List.drop_succ_cons, List.drop_zero,
    quotM_cons, if_neg (by omega), if_neg (by omega), if_neg (by omega), quotM_cons, if_neg (by omega), if_neg (by omega), if_neg (by omega)]
  cases quotM 34 r <;> rfl
theorem quot_of (b : List UInt8) : quotM 34 (b.flatMap oct3 ++ [34]) = some (4 * b.length) := by
  induction b with
  | nil => rfl
  | cons x r ih => rw [List.flatMap_cons, List.append_assoc, oct3_quot, ih]; simp; omega
theorem octs_of (x : UInt8) (r : List UInt8) : octsM ((oct3 x).drop 1 ++ r) = (3, x.toNat) := by
  have hx := x.toNat_lt
  have h2 := nat8 (n := 48 + x.toNat / 64) (by omega)
  have h3 := nat8 (n := 48 + x.toNat / 8 % 8) (by omega)
  have h4 := nat8 (n := 48 + x.toNat % 8) (by omega)
  unfold oct3
  simp only [List.cons_append, List.nil_append, List.drop_succ_cons, List.drop_zero]
  generalize UInt8.ofNat (48 + x.toNat / 64) = d2 at *
  generalize UInt8.ofNat (48 + x.toNat / 8 % 8) = d3 at *
  generalize UInt8.ofNat (48 + x.toNat % 8) = d4 at *
  have o2 : octM d2 = true := by simp [octM]; omega
  have o3 : octM d3 = true := by simp [octM]; omega
  have o4 : octM d4 = true := by simp [octM]; omega
  unfold octsM
  rw [octsF, if_pos o2, octsF, if_pos o3, octsF, if_pos o4]
  cases r <;> (simp [octsF]; omega)
theorem text_of (b : List UInt8) : textL (b.flatMap oct3) = b := by
  induction b with
  | nil => rfl
  | cons x r ih =>
    rw [List.flatMap_cons]
    have e : oct3 x ++ r.flatMap oct3 = 92 :: ((oct3 x).drop 1 ++ r.flatMap oct3) := rfl
    rw [e, textL_cons, if_pos (by decide), octs_of]
    simp only [Nat.reduceEqDiff, if_false]
    have e2 : ((oct3 x).drop 1 ++ r.flatMap oct3).drop 3 = r.flatMap oct3 := rfl
    rw [e2, ih, Nat.mod_eq_of_lt x.toNat_lt]
    simp
theorem oct_len (b : List UInt8) : (b.flatMap oct3).length = 4 * b.length := by
  induction b with
  | nil => rfl
  | cons x r ih => rw [List.flatMap_cons, List.length_append, ih]; simp [oct3]; omega
theorem quotes_all (b : List UInt8) (hb : b.length ≤ 100) : lexAllM (34 :: (b.flatMap oct3 ++ [34])) = .ok [⟨3, 0, b, 0⟩, ⟨0, 4 * b.length + 2, [], 0⟩] := by
  have hlen : (34 :: (b.flatMap oct3 ++ [34])).length = 4 * b.length + 2 := by rw [List.length_cons, List.length_append, oct_len]; rfl
  unfold lexAllM
  rw [if_neg (by omega), hlen, lexM_succ]
  have hs : skipM (34 :: (b.flatMap oct3 ++ [34])) = 0 := by rw [skipM_cons]; rfl
  rw [hs, List.drop_zero]
  have hn : nextM true (34 :: (b.flatMap oct3 ++ [34])) = .ok (3, b, 0, 4 * b.length + 2) := by
    unfold nextM
    dsimp only
    rw [if_neg (by decide), if_neg (by simp [digM]), if_pos (by decide), quot_of]
    dsimp only
    rw [List.take_append_of_le_length (by rw [oct_len]; omega), List.take_of_length_le (by rw [oct_len]; omega), textL_of (by rw [oct_len]; omega), text_of]
  unfold lexT
  dsimp only
  rw [hn]
  dsimp only
  rw [List.drop_of_length_le (by rw [hlen]; omega)]
  rw [show 4 * b.length + 2 = (4 * b.length + 1) + 1 from rfl, lexM_succ]
  simp [lexT, skipM]
end Go.Proofs.Ytgbiligcppphhaa
