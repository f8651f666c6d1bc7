/-
  The reference of tokens: what its tests tell of the next token. No program, no conditions.
-/
import Derived.Test.YtjfgopihfgljmaaDoorLr9
namespace Go.Proofs.YtjfgopihfgljmaaDoor
set_option linter.unusedVariables false
set_option linter.unusedSimpArgs false

def numB (c : UInt8) (r : List UInt8) : Prop := c.toNat = 46 ∧ digM (r.headD 0) = true ∨ digM c = true
theorem next_nl {op : Bool} {c : UInt8} {r : List UInt8} (h : c.toNat = 10) : nextM op (c :: r) = .ok (1, [], 0, 1) := by
  unfold nextM; simp only [if_pos h]
theorem next_num {op : Bool} {c : UInt8} {r : List UInt8} (h0 : c.toNat ≠ 10) (h : numB c r) :
    nextM op (c :: r) = if 36 < topD (digRow (c :: r)) then .error 2 else .ok (2, [], valD (digRow (c :: r)), numM (c :: r)) := by
  unfold nextM
  simp only [if_neg h0]
  have h' : (c.toNat = 46 ∧ digM (r.headD 0) = true ∨ digM c = true) := h
  rw [if_pos h', decM_num, dec_row]
  by_cases h36 : 36 < topD (digRow (c :: r))
  · rw [if_pos h36, if_pos h36]
  · rw [if_neg h36, if_neg h36]
theorem numB_34 {c : UInt8} {r : List UInt8} (h : c.toNat = 34 ∨ c.toNat = 47) : ¬ numB c r := by
  rintro (⟨h1, -⟩ | h1)
  · omega
  · have := digM_iff.1 h1; omega
theorem next_str {op : Bool} {c : UInt8} {r : List UInt8} (i : Nat) (h : c.toNat = 34) :
    (quoR true 34 [] (i + 1) r = none ∧ nextM op (c :: r) = .error 7) ∨ ∃ t m, quoR true 34 [] (i + 1) r = some (t, i + m) ∧ nextM op (c :: r) = .ok (3, t, 0, m) := by
  unfold nextM
  simp only
  have h' : ¬ (c.toNat = 46 ∧ digM (r.headD 0) = true ∨ digM c = true) := numB_34 (.inl h)
  rw [if_neg (by omega), if_neg h', if_pos h]
  unfold quoR
  cases hq : quotM 34 r with
  | none => exact .inl ⟨rfl, rfl⟩
  | some n =>
    refine .inr ⟨textL (r.take n), n + 2, ?_, ?_⟩
    · simp; omega
    · simp only
      rw [textL_of (by rw [List.length_take]; omega)]
theorem next_ere {op : Bool} {c : UInt8} {r : List UInt8} (i : Nat) (h : c.toNat = 47) (ho : op = true) :
    (quoR false 47 [] (i + 1) r = none ∧ nextM op (c :: r) = .error 7) ∨ ∃ t m, quoR false 47 [] (i + 1) r = some (t, i + m) ∧ nextM op (c :: r) = .ok (4, t, 0, m) := by
  unfold nextM
  simp only
  have h' : ¬ (c.toNat = 46 ∧ digM (r.headD 0) = true ∨ digM c = true) := numB_34 (.inr h)
  rw [if_neg (by omega), if_neg h', if_neg (by omega), if_pos ⟨h, ho⟩]
  unfold quoR
  cases hq : quotM 47 r with
  | none => exact .inl ⟨rfl, rfl⟩
  | some n =>
    refine .inr ⟨ereM (r.take n), n + 2, ?_, rfl⟩
    simp; omega
theorem letM_iff {c : UInt8} : letM c = true ↔ (65 ≤ c.toNat ∧ c.toNat ≤ 90) ∨ (97 ≤ c.toNat ∧ c.toNat ≤ 122) ∨ c.toNat = 95 := by
  unfold letM; simp [or_assoc]
def kindL (W : List UInt8) (nx : Nat) : Nat := if W ∈ words then 7 else if W ∈ builts then 8 else if nx = 40 then 6 else 5
theorem next_let {op : Bool} {c : UInt8} {r : List UInt8} (h : letM c = true) :
    nextM op (c :: r) = .ok (kindL ((c :: r).takeWhile wrdM) (((c :: r).drop ((c :: r).takeWhile wrdM).length).headD 0).toNat, (c :: r).takeWhile wrdM, 0, ((c :: r).takeWhile wrdM).length) := by
  have hl := letM_iff.1 h
  unfold nextM
  simp only
  rw [if_neg (by omega), if_neg (by rintro (⟨h1, -⟩ | h1); omega; have := digM_iff.1 h1; omega), if_neg (by omega), if_neg (by rintro ⟨h1, -⟩; omega), if_pos h]
  rfl
theorem next_sign {op : Bool} {c : UInt8} {r : List UInt8} (h0 : c.toNat ≠ 10) (h1 : ¬ numB c r) (h2 : c.toNat ≠ 34) (h3 : ¬ (c.toNat = 47 ∧ op = true)) (h4 : letM c = false) :
    nextM op (c :: r) = if (c :: r).take 2 ∈ pairs then .ok (9, (c :: r).take 2, 0, 2) else if c ∈ singles then .ok (9, [c], 0, 1) else .error 4 := by
  unfold nextM
  simp only
  have h' : ¬ (c.toNat = 46 ∧ digM (r.headD 0) = true ∨ digM c = true) := h1
  rw [if_neg h0, if_neg h', if_neg h2, if_neg h3, if_neg (by simp [h4])]
/-! Words and signs, as the reference asks. -/
def kwS : List UInt8 := [32, 66, 69, 71, 73, 78, 32, 69, 78, 68, 32, 79, 80, 69, 78, 32, 67, 76, 79, 83, 69, 32, 102, 117, 110, 99, 116, 105, 111, 110, 32, 105, 102, 32, 101, 108, 115, 101, 32, 119, 104, 105, 108, 101, 32, 102, 111, 114, 32, 100, 111, 32, 98, 114, 101, 97, 107, 32, 99, 111, 110, 116, 105, 110, 117, 101, 32, 110, 101, 120, 116, 32, 101, 120, 105, 116, 32, 114, 101, 116, 117, 114, 110, 32, 100, 101, 108, 101, 116, 101, 32, 105, 110, 32, 103, 101, 116, 108, 105, 110, 101, 32, 112, 114, 105, 110, 116, 32, 112, 114, 105, 110, 116, 102, 32]
def bwS : List UInt8 := [32, 108, 101, 110, 103, 116, 104, 32, 115, 117, 98, 115, 116, 114, 32, 105, 110, 100, 101, 120, 32, 115, 112, 108, 105, 116, 32, 115, 117, 98, 32, 103, 115, 117, 98, 32, 109, 97, 116, 99, 104, 32, 115, 112, 114, 105, 110, 116, 102, 32, 105, 110, 116, 32, 116, 111, 108, 111, 119, 101, 114, 32, 116, 111, 117, 112, 112, 101, 114, 32, 99, 108, 111, 115, 101, 32]
def paS : List UInt8 := [32, 124, 38, 32, 124, 124, 32, 38, 38, 32, 33, 126, 32, 61, 61, 32, 33, 61, 32, 60, 61, 32, 62, 61, 32, 43, 43, 32, 45, 45, 32, 43, 61, 32, 45, 61, 32, 42, 61, 32, 47, 61, 32, 37, 61, 32, 94, 61, 32]
def siS : List UInt8 := [32, 123, 32, 125, 32, 40, 32, 41, 32, 91, 32, 93, 32, 59, 32, 44, 32, 43, 32, 45, 32, 42, 32, 47, 32, 37, 32, 94, 32, 33, 32, 62, 32, 60, 32, 63, 32, 58, 32, 126, 32, 36, 32, 61, 32]
theorem kwS_eq : kwS = 32 :: words.flatMap (· ++ [32]) := by decide
theorem bwS_eq : bwS = 32 :: builts.flatMap (· ++ [32]) := by decide
theorem paS_eq : paS = 32 :: pairs.flatMap (· ++ [32]) := by decide
theorem siS_eq : siS = 32 :: (singles.map fun c => [c]).flatMap (· ++ [32]) := by decide
theorem kw_ok : ∀ u ∈ words, u ≠ [] ∧ ∀ x ∈ u, x ≠ 32 := by decide
theorem bw_ok : ∀ u ∈ builts, u ≠ [] ∧ ∀ x ∈ u, x ≠ 32 := by decide
theorem pa_ok : ∀ u ∈ pairs, u ≠ [] ∧ ∀ x ∈ u, x ≠ 32 := by decide
theorem si_ok : ∀ u ∈ (singles.map fun c => [c]), u ≠ [] ∧ ∀ x ∈ u, x ≠ 32 := by decide
theorem in_kw {u : List UInt8} (h : u ≠ []) (h2 : ∀ x ∈ u, x ≠ 32) : inM kwS u = decide (u ∈ words) := by rw [kwS_eq]; exact inM_row _ _ h h2 kw_ok
theorem in_bw {u : List UInt8} (h : u ≠ []) (h2 : ∀ x ∈ u, x ≠ 32) : inM bwS u = decide (u ∈ builts) := by rw [bwS_eq]; exact inM_row _ _ h h2 bw_ok
theorem in_pa {c d : UInt8} (h : c ≠ 32) (h2 : d ≠ 32) : inM paS [c, d] = decide ([c, d] ∈ pairs) := by rw [paS_eq]; exact inM_row _ _ (by simp) (by simp [h, h2]) pa_ok
theorem in_si {c : UInt8} (h : c ≠ 32) : inM siS [c] = decide (c ∈ singles) := by
  rw [siS_eq, inM_row _ _ (by simp) (by simp [h]) si_ok, decide_eq_decide]; simp
theorem bw_kw {u : List UInt8} (h : u ∈ builts) : u ∉ words := by
  have : ∀ u ∈ builts, u ∉ words := by decide
  exact this u h
theorem wrd_32 {u : List UInt8} (h : ∀ x ∈ u, wrdM x = true) : ∀ x ∈ u, x ≠ 32 := by
  intro x hx e
  have := h x hx
  rw [e] at this; revert this; decide
theorem pa_32 {c d : UInt8} (h : d = 32) : [c, d] ∉ pairs := by
  subst h
  intro hm
  exact absurd rfl ((pa_ok _ hm).2 32 (by simp))
theorem u8_ne {c : UInt8} {k : Nat} (hk : k < 256) (h : c.toNat ≠ k) : c ≠ UInt8.ofNat k := by
  rintro rfl; apply h; simp [Nat.mod_eq_of_lt hk]
end Go.Proofs.YtjfgopihfgljmaaDoor
