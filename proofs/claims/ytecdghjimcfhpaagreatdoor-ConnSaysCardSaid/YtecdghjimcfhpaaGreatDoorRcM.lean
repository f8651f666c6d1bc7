/-
  The law of records that a byte ends, in plain Lean. No program; no conditions.
-/
import Derived.Test.YtecdghjimcfhpaaGreatDoorBase
import Derived.Lib.Bytealg
namespace Go.Proofs.YtecdghjimcfhpaaGreatDoor
open Go.RowKit
set_option linter.unusedVariables false
set_option linter.unusedSimpArgs false

theorem cut1 (c : UInt8) : ∀ (s : List UInt8), c ∈ s → ∃ a b, s = a ++ c :: b ∧ c ∉ a
  | [], h => by simp at h
  | x :: r, h => by
    by_cases e : x = c
    · exact ⟨[], r, by simp [e], by simp⟩
    · obtain ⟨a, b, h1, h2⟩ := cut1 c r (by simpa [Ne.symm e] using h)
      exact ⟨x :: a, b, by simp [h1], by simp [h2, Ne.symm e]⟩
theorem indexByte_hit (c : UInt8) : ∀ (a b : List UInt8), c ∉ a → Lib.indexByte (a ++ c :: b) c = a.length
  | [], b, _ => by simp [Lib.indexByte]
  | x :: a, b, h => by
    have h1 : ¬ x = c := fun e => h (by simp [e])
    have h2 : c ∉ a := fun e => h (by simp [e])
    have ih := indexByte_hit c a b h2
    have h3 : ((a.length : Int) == -1) = false := by rw [beq_eq_false_iff_ne]; omega
    simp [Lib.indexByte, h1, ih, h3]
theorem indexByte_miss (c : UInt8) : ∀ (s : List UInt8), c ∉ s → Lib.indexByte s c = -1
  | [], _ => by simp [Lib.indexByte]
  | x :: a, h => by
    have h1 : ¬ x = c := fun e => h (by simp [e])
    have h2 : c ∉ a := fun e => h (by simp [e])
    simp [Lib.indexByte, h1, indexByte_miss c a h2]
/-- The records; cur is the record under way. -/
def recG (c : UInt8) : List UInt8 → List UInt8 → List (List UInt8)
  | [], cur => if cur = [] then [] else [cur]
  | x :: r, cur => if x = c then cur :: recG c r [] else recG c r (cur ++ [x])
def recM (c : UInt8) (s : List UInt8) : List (List UInt8) := recG c s []
theorem recG_free (c : UInt8) : ∀ (a s cur : List UInt8), c ∉ a → recG c (a ++ s) cur = recG c s (cur ++ a)
  | [], s, cur, _ => by simp
  | x :: a, s, cur, h => by
    have h1 : x ≠ c := fun e => h (by simp [e])
    have h2 : c ∉ a := fun e => h (by simp [e])
    have := recG_free c a s (cur ++ [x]) h2
    simp only [List.cons_append, recG, if_neg h1, this, List.append_assoc, List.singleton_append]
    rfl
theorem recM_hit (c : UInt8) (a b : List UInt8) (h : c ∉ a) : recM c (a ++ c :: b) = a :: recM c b := by
  unfold recM
  rw [recG_free c a _ [] h]
  simp [recG]
theorem recM_miss (c : UInt8) (s : List UInt8) (h : c ∉ s) : recM c s = if s = [] then [] else [s] := by
  unfold recM
  have := recG_free c s [] [] h
  simp only [List.append_nil, List.nil_append] at this
  rw [this]
  rfl
theorem recM_len (c : UInt8) : ∀ (n : Nat) (s : List UInt8), s.length ≤ n → (recM c s).length ≤ s.length
  | n, s, hn => by
    by_cases h : c ∈ s
    · obtain ⟨a, b, rfl, h2⟩ := cut1 c s h
      rw [recM_hit c a b h2]
      cases n with
      | zero => simp at hn
      | succ n =>
        have := recM_len c n b (by simp at hn; omega)
        simp; omega
    · rw [recM_miss c s h]
      split
      · simp
      · rename_i h0
        cases s with
        | nil => exact absurd rfl h0
        | cons x r => simp
/-- A newline behind what has none at its end. -/
def closed (c : UInt8) (s : List UInt8) : List UInt8 := if s = [] ∨ s.getLast? = some c then s else s ++ [c]
def ends (c : UInt8) (s : List UInt8) : Nat := s.count c + if s = [] ∨ s.getLast? = some c then 0 else 1
theorem rec_lines (c : UInt8) : ∀ (n : Nat) (s : List UInt8), s.length ≤ n → ((recM c s).map (· ++ [c])).flatten = closed c s ∧ (recM c s).length = ends c s
  | n, s, hn => by
    by_cases h : c ∈ s
    · obtain ⟨a, b, rfl, h2⟩ := cut1 c s h
      rw [recM_hit c a b h2]
      have ha : a.count c = 0 := List.count_eq_zero.2 h2
      cases n with
      | zero => simp at hn
      | succ n =>
        obtain ⟨q1, q2⟩ := rec_lines c n b (by simp at hn; omega)
        have hne : a ++ c :: b ≠ [] := by simp
        by_cases hb : b = []
        · subst hb
          have hg : (a ++ [c]).getLast? = some c := by simp
          refine ⟨?_, ?_⟩
          · unfold closed
            rw [if_pos (.inr hg)]
            simp [recM, recG]
          · unfold ends
            rw [if_pos (.inr hg)]
            simp [recM, recG, ha]
        · have e1 : (a ++ c :: b).getLast? = b.getLast? := by
            rw [List.getLast?_append]
            obtain ⟨v, hv⟩ : ∃ v, b.getLast? = some v := by
              cases hh : b.getLast? with
              | none => exact absurd (List.getLast?_eq_none_iff.1 hh) hb
              | some v => exact ⟨v, rfl⟩
            have : (c :: b).getLast? = some v := by
              cases b with
              | nil => exact absurd rfl hb
              | cons y r => rw [List.getLast?_cons_cons]; exact hv
            rw [this, hv]; rfl
          rw [List.map_cons, List.flatten_cons, q1, List.length_cons, q2]
          unfold closed ends
          rw [e1]
          by_cases hq : b.getLast? = some c
          · rw [if_pos (.inr hq), if_pos (.inr hq), if_pos (.inr hq), if_pos (.inr hq)]
            refine ⟨by simp, ?_⟩
            rw [List.count_append, List.count_cons_self, ha]
            omega
          · have n1 : ¬ (b = [] ∨ b.getLast? = some c) := by rintro (h | h); exact hb h; exact hq h
            have n2 : ¬ (a ++ c :: b = [] ∨ b.getLast? = some c) := by rintro (h | h); exact hne h; exact hq h
            rw [if_neg n1, if_neg n2, if_neg n1, if_neg n2]
            refine ⟨by simp, ?_⟩
            rw [List.count_append, List.count_cons_self, ha]
            omega
    · rw [recM_miss c s h]
      by_cases hs : s = []
      · subst hs
        simp [closed, ends]
      · have hq : s.getLast? ≠ some c := fun e => h (List.mem_of_getLast? e)
        have n1 : ¬ (s = [] ∨ s.getLast? = some c) := by rintro (h | h); exact hs h; exact hq h
        unfold closed ends
        rw [if_neg hs, if_neg n1, if_neg n1, List.count_eq_zero.2 h]
        simp
end Go.Proofs.YtecdghjimcfhpaaGreatDoor
