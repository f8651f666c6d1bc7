/-
  The plain law of MatchTimes. No program, no conditions.
-/
import Derived.Test.YtekfpipgcpkejaaGk
namespace Go.Proofs.Ytekfpipgcpkejaa
open Go.RowKit
set_option linter.unusedVariables false
set_option linter.unusedSimpArgs false

/-- 'x{mm,kk}'. -/
def mtB (m k : Nat) : List UInt8 := [120, 123, UInt8.ofNat (48 + m / 10), UInt8.ofNat (48 + m % 10), 44, UInt8.ofNat (48 + k / 10), UInt8.ofNat (48 + k % 10), 125]
def mtT (m k : Nat) : RT := .mk 4 S4.empty (m : Int) (k : Int) [.mk 1 (S4.range 120 120) 0 0 []]
def chkT (m k : Nat) : Bool := match parseS (mtB m k) with
  | .ok (.mk 4 ⟨0, 0, 0, 0⟩ a b [.mk 1 ⟨s0, s1, s2, s3⟩ 0 0 []]) => decide (a = (m : Int)) && decide (b = (k : Int)) && (s0 == (S4.range 120 120).a && s1 == (S4.range 120 120).b && s2 == (S4.range 120 120).c && s3 == (S4.range 120 120).d)
  | _ => false
theorem chk_all : ((List.range 60).all fun m => (List.range 60).all fun k => decide (k < m) || chkT m k) = true := by kernel_rfl
theorem mtt_parse {m k : Nat} (hm : m < 60) (hk : k < 60) (h : m ≤ k) : parseS (mtB m k) = .ok (mtT m k) := by
  have h1 := chk_all
  rw [List.all_eq_true] at h1
  have h2 := h1 m (by simpa using hm)
  rw [List.all_eq_true] at h2
  have h3 := h2 k (by simpa using hk)
  rw [Bool.or_eq_true] at h3
  have h4 : chkT m k = true := by
    rcases h3 with h3 | h3
    · have : k < m := by simpa using h3
      omega
    · exact h3
  unfold chkT at h4
  split at h4
  · rename_i a b s0 s1 s2 s3 he
    rw [he]
    simp only [Bool.and_eq_true, decide_eq_true_eq, beq_iff_eq] at h4
    obtain ⟨⟨rfl, rfl⟩, ⟨⟨rfl, rfl⟩, rfl⟩, rfl⟩ := h4
    rfl
  · cases h4
theorem mtt_size {m k : Nat} (hk : k < 60) (h : m ≤ k) : sizP (toP (mtT m k)) < 4000 := by
  have e : sizP (toP (mtT m k)) = k + (k - m) := by
    unfold mtT
    simp [toP, toL, sizP, sizL]
    try omega
  omega
theorem iter_x {R : Nat → Nat → Prop} {z : Nat} (hR : ∀ a c, R a c ↔ a < z ∧ c = a + 1) : ∀ (n a c : Nat), a ≤ z → (iterR R n a c ↔ c = a + n ∧ a + n ≤ z)
  | 0, a, c, ha => by simp [iterR]; omega
  | n + 1, a, c, ha => by
    simp only [iterR]
    constructor
    · rintro ⟨b, h1, h2⟩
      obtain ⟨g1, g2⟩ := (hR a b).1 h1
      have := (iter_x hR n b c (by omega)).1 h2
      omega
    · rintro ⟨h1, h2⟩
      exact ⟨a + 1, (hR a (a + 1)).2 ⟨by omega, rfl⟩, (iter_x hR n (a + 1) c (by omega)).2 ⟨by omega, by omega⟩⟩
theorem mtt_mt {m k z : Nat} (hm : m < 60) (hk : k < 60) (h : m ≤ k) {a c : Nat} (ha : a ≤ z) : Mt (progT (mtT m k)) (List.replicate z 120) false a c ↔ ∃ n, m ≤ n ∧ n ≤ k ∧ c = a + n ∧ a + n ≤ z := by
  rw [parse_mt (mtt_parse hm hk h) _ (by simpa using ha)]
  have hR : ∀ a c, semL (List.replicate z 120) (toL [.mk 1 (S4.range 120 120) 0 0 []]) a c ↔ a < z ∧ c = a + 1 := by
    intro a c
    have hmem : (S4.range 120 120).mem 120 = true := by rw [S4.mem_range _ _ _ (by omega) (by omega) (by omega)]; simp
    simp only [toL, toP, semL, semP, if_true, List.length_replicate]
    constructor
    · rintro ⟨b, ⟨h1, h2, -⟩, h3⟩
      omega
    · rintro ⟨h1, h2⟩
      refine ⟨a + 1, ⟨h1, rfl, ?_⟩, h2.symm⟩
      have e : (List.replicate z (120 : UInt8)).getD a 0 = 120 := by simp [List.getD_eq_getElem?_getD, h1]
      rw [e]
      exact hmem
  unfold mtT
  rw [toP, semP]
  simp only [if_true, if_false, reduceCtorEq, Int.reduceEq]
  constructor
  · rintro ⟨n, h1, h2, h3⟩
    have := (iter_x hR n a c ha).1 h3
    refine ⟨n, by omega, ?_, this.1, this.2⟩
    rcases h2 with h2 | h2 <;> omega
  · rintro ⟨n, h1, h2, h3, h4⟩
    exact ⟨n, by omega, .inr (by omega), (iter_x hR n a c ha).2 ⟨h3, h4⟩⟩
theorem mtt_find {m k z : Nat} (hm : m < 60) (hk : k < 60) (h : m ≤ k) : findS (progT (mtT m k)) (List.replicate z 120) 0 = if m ≤ z then some (0, min z k) else none := by
  obtain ⟨h1, h2, -⟩ := parse_prog (mtt_parse hm hk h)
  by_cases hz : m ≤ z
  · rw [if_pos hz]
    refine findS_eq h1 h2 (Nat.zero_le _) ⟨Nat.le_refl _, Nat.zero_le _, by simp; omega, ?_, fun t e ht htl hmt => ?_⟩
    · exact (mtt_mt hm hk h (Nat.zero_le _)).2 ⟨min z k, by omega, by omega, by omega, by omega⟩
    · rw [List.length_replicate] at htl
      obtain ⟨n, a1, a2, a3, a4⟩ := (mtt_mt hm hk h htl).1 hmt
      dsimp only
      omega
  · rw [if_neg hz]
    cases hf : findS (progT (mtT m k)) (List.replicate z 120) 0 with
    | none => rfl
    | some q =>
      have hs := findS_some h1 h2 (Nat.zero_le _) hf
      have hl := hs.len
      rw [List.length_replicate] at hl
      obtain ⟨n, a1, a2, a3, a4⟩ := (mtt_mt hm hk h (Nat.le_trans hs.le hl)).1 hs.mt
      omega
theorem mtt_takes {m k z : Nat} (hm : m < 60) (hk : k < 60) (h : m ≤ k) : takesS (progT (mtT m k)) (List.replicate z 120) = (decide (m ≤ z) && decide (z ≤ k)) := by
  obtain ⟨h1, h2, -⟩ := parse_prog (mtt_parse hm hk h)
  rw [Bool.eq_iff_iff, takesS_iff h1 h2, List.length_replicate, mtt_mt hm hk h (Nat.zero_le _)]
  simp only [Bool.and_eq_true, decide_eq_true_eq]
  constructor
  · rintro ⟨n, a1, a2, a3, a4⟩
    omega
  · rintro ⟨a1, a2⟩
    exact ⟨z, a1, a2, by omega, by omega⟩
end Go.Proofs.Ytekfpipgcpkejaa
