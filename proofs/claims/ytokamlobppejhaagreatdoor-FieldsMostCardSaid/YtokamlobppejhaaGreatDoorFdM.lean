/-
  The law of a record's fields, in plain Lean: what stands between blanks, between bytes; joined texts; a field that is put. No program; no conditions.
-/
import Derived.Test.YtokamlobppejhaaGreatDoorBase
import Derived.Lib.Join
import Derived.Lib.Split
namespace Go.Proofs.YtokamlobppejhaaGreatDoor
open Go.RowKit
set_option linter.unusedVariables false
set_option linter.unusedSimpArgs false

def isBl (c : UInt8) : Bool := c == 9 || c == 10 || c == 32
/-- What stands between blanks; cur is the word under way. -/
def splG : List UInt8 → List UInt8 → List (List UInt8)
  | [], cur => if cur = [] then [] else [cur]
  | c :: r, cur => if isBl c = true then (if cur = [] then [] else [cur]) ++ splG r [] else splG r (cur ++ [c])
def splM (s : List UInt8) : List (List UInt8) := splG s []
theorem one_len (cur : List UInt8) : (if cur = [] then [] else [cur]).length = if cur = [] then 0 else 1 := by split <;> rfl
theorem lens_nil : Lib.lens [] = 0 := rfl
theorem lens_cons (x : List UInt8) (r : List (List UInt8)) : Lib.lens (x :: r) = x.length + Lib.lens r := by simp [Lib.lens]
theorem lens_append (a b : List (List UInt8)) : Lib.lens (a ++ b) = Lib.lens a + Lib.lens b := by simp [Lib.lens]
theorem one_lens (cur : List UInt8) : Lib.lens (if cur = [] then [] else [cur]) = cur.length := by
  split
  · rename_i h; subst h; rfl
  · simp [Lib.lens]
theorem splG_len : ∀ (s cur : List UInt8), (splG s cur).length ≤ s.length + if cur = [] then 0 else 1
  | [], cur => by simp only [splG, one_len, List.length_nil]; omega
  | c :: r, cur => by
    unfold splG
    split
    · have h := splG_len r []
      simp only [if_true] at h
      rw [List.length_append, one_len, List.length_cons]
      omega
    · have h := splG_len r (cur ++ [c])
      rw [if_neg (by simp)] at h
      rw [List.length_cons]
      split <;> omega
theorem splM_len (s : List UInt8) : (splM s).length ≤ s.length := by have := splG_len s []; simpa [splM] using this
theorem splG_sum : ∀ (s cur : List UInt8), Lib.lens (splG s cur) ≤ s.length + cur.length
  | [], cur => by simp only [splG, one_lens, List.length_nil]; omega
  | c :: r, cur => by
    unfold splG
    split
    · have h := splG_sum r []
      rw [lens_append, one_lens, List.length_cons]
      simp only [List.length_nil] at h
      omega
    · have h := splG_sum r (cur ++ [c])
      rw [List.length_append] at h
      simp only [List.length_cons, List.length_nil] at h ⊢
      omega
theorem splM_sum (s : List UInt8) : Lib.lens (splM s) ≤ s.length := by have := splG_sum s []; simpa [splM] using this

/-- What stands between bytes c; cur is the piece under way. -/
def cutG (c : UInt8) : List UInt8 → List UInt8 → List (List UInt8)
  | [], cur => [cur]
  | x :: r, cur => if x = c then cur :: cutG c r [] else cutG c r (cur ++ [x])
theorem cutG_free (c : UInt8) : ∀ (a s cur : List UInt8), c ∉ a → cutG c (a ++ s) cur = cutG c s (cur ++ a)
  | [], s, cur, _ => by simp
  | x :: a, s, cur, h => by
    have h1 : x ≠ c := fun e => h (by simp [e])
    have h2 : c ∉ a := fun e => h (by simp [e])
    have := cutG_free c a s (cur ++ [x]) h2
    simp only [List.cons_append, cutG, if_neg h1, this, List.append_assoc, List.singleton_append]
    rfl
theorem cut_first (c : UInt8) : ∀ (s : List UInt8), c ∈ s → ∃ a b, s = a ++ c :: b ∧ c ∉ a
  | [], h => by simp at h
  | x :: r, h => by
    by_cases e : x = c
    · exact ⟨[], r, by simp [e], by simp⟩
    · obtain ⟨a, b, h1, h2⟩ := cut_first c r (by simpa [Ne.symm e] using h)
      exact ⟨x :: a, b, by simp [h1], by simp [h2, Ne.symm e]⟩
theorem index_hit1 (c : UInt8) : ∀ (a b : List UInt8), c ∉ a → Lib.index (a ++ c :: b) [c] = a.length
  | [], b, _ => by simp [Lib.index]
  | x :: a, b, h => by
    have h1 : ¬ c = x := fun e => h (by simp [e])
    have h2 : c ∉ a := fun e => h (by simp [e])
    have ih := index_hit1 c a b h2
    have h3 : ((a.length : Int) == -1) = false := by rw [beq_eq_false_iff_ne]; omega
    simp [Lib.index, h1, ih, h3]
theorem index_miss1 (c : UInt8) : ∀ (s : List UInt8), c ∉ s → Lib.index s [c] = -1
  | [], _ => by simp [Lib.index]
  | x :: a, h => by
    have h1 : ¬ c = x := fun e => h (by simp [e])
    have h2 : c ∉ a := fun e => h (by simp [e])
    simp [Lib.index, h1, index_miss1 c a h2]
theorem cutG_split (c : UInt8) : ∀ (n : Nat) (s : List UInt8), s.length ≤ n → Lib.splitK [c] 0 (Lib.count s [c]) s = cutG c s []
  | n, s, hn => by
    by_cases h : c ∈ s
    · obtain ⟨a, b, rfl, h2⟩ := cut_first c s h
      have hi := index_hit1 c a b h2
      have hd : (a ++ c :: b).drop (a.length + [c].length) = b := by
        rw [← List.drop_drop, List.drop_left]; rfl
      rw [Lib.count_hit (by simp) hi, hd, Nat.add_comm 1]
      have h3 : (Lib.index (a ++ c :: b) [c] == -1) = false := by rw [hi, beq_eq_false_iff_ne]; omega
      unfold Lib.splitK
      rw [h3, hi]
      have h4 : ((a.length : Int).toNat) = a.length := by omega
      rw [h4, hd, Nat.add_zero, List.take_left, cutG_free c a (c :: b) [] h2]
      cases n with
      | zero => simp at hn
      | succ n =>
        have ih := cutG_split c n b (by simp at hn; omega)
        rw [ih]
        simp [cutG]
    · rw [Lib.count_miss (index_miss1 c s h)]
      have := cutG_free c s [] [] h
      simp only [List.append_nil, List.nil_append] at this
      rw [this]
      rfl
theorem cutG_join_ (c : UInt8) : ∀ (r : List (List UInt8)) (x cur : List UInt8), c ∉ x → (∀ y ∈ r, c ∉ y) → cutG c (x ++ Lib.joinTail [c] r) cur = (cur ++ x) :: r
  | [], x, cur, hx, _ => by
    rw [cutG_free c x _ cur hx]
    simp [Lib.joinTail, cutG]
  | y :: r, x, cur, hx, hr => by
    rw [cutG_free c x _ cur hx]
    have e : Lib.joinTail [c] (y :: r) = c :: (y ++ Lib.joinTail [c] r) := by simp [Lib.joinTail]
    rw [e]
    unfold cutG
    rw [if_pos rfl, cutG_join_ c r y [] (hr y (by simp)) (fun z hz => hr z (by simp [hz]))]
    rfl
theorem cut_join (c : UInt8) (l : List (List UInt8)) (hne : l ≠ []) (h : ∀ y ∈ l, c ∉ y) : cutG c (Lib.join l [c]) [] = l := by
  cases l with
  | nil => exact absurd rfl hne
  | cons x r => rw [Lib.join_cons, cutG_join_ c r x [] (h x (by simp)) (fun y hy => h y (by simp [hy]))]; rfl
def cutM (s : List UInt8) (c : UInt8) : List (List UInt8) := if s = [] then [] else cutG c s []
theorem cutG_len (c : UInt8) : ∀ (s cur : List UInt8), (cutG c s cur).length ≤ s.length + 1
  | [], cur => by simp [cutG]
  | x :: r, cur => by
    unfold cutG
    split
    · have := cutG_len c r []; simp only [List.length_cons]; omega
    · have := cutG_len c r (cur ++ [x]); simp only [List.length_cons]; omega
theorem cutM_len (s : List UInt8) (c : UInt8) : (cutM s c).length ≤ s.length + 1 := by
  unfold cutM
  split
  · simp
  · exact cutG_len c s []
theorem cutM_none (s : List UInt8) (c : UInt8) (h : c ∉ s) (hs : s ≠ []) : cutM s c = [s] := by
  unfold cutM
  rw [if_neg hs]
  have := cutG_free c s [] [] h
  simpa [cutG] using this

/-- So many fields, the first ones as they are. -/
def padM (l : List (List UInt8)) (n : Nat) : List (List UInt8) := l.take n ++ List.replicate (n - l.length) []
theorem pad_len (l : List (List UInt8)) (n : Nat) : (padM l n).length = n := by simp [padM]; omega
theorem lens_repl (n : Nat) : Lib.lens (List.replicate n []) = 0 := by induction n with
  | zero => rfl
  | succ n ih => rw [List.replicate_succ, lens_cons, ih]; rfl
theorem pad_lens (l : List (List UInt8)) (n : Nat) : Lib.lens (padM l n) ≤ Lib.lens l := by
  unfold padM
  rw [lens_append, lens_repl]
  exact Lib.lens_take_le l n
theorem pad_get (l : List (List UInt8)) (n i : Nat) : (padM l n).getD i [] = if i < n then l.getD i [] else [] := by
  simp only [padM, List.getD_eq_getElem?_getD]
  by_cases h : i < l.length
  · by_cases h2 : i < n
    · rw [List.getElem?_append_left (by simp; omega), List.getElem?_take, if_pos h2, if_pos h2]
    · rw [if_neg h2, List.getElem?_append_right (by simp; omega), List.getElem?_replicate]
      split <;> rfl
  · rw [List.getElem?_append_right (by simp; omega), List.getElem?_replicate, List.getElem?_eq_none (by omega : l.length ≤ i)]
    split <;> split <;> rfl
/-- A field that is put. -/
def putM (l : List (List UInt8)) (k : Nat) (s : List UInt8) : List (List UInt8) := (padM l (max k l.length)).set (k - 1) s
theorem put_len (l : List (List UInt8)) (k : Nat) (s : List UInt8) : (putM l k s).length = max k l.length := by simp [putM, pad_len]
theorem lens_set : ∀ (l : List (List UInt8)) (k : Nat) (s : List UInt8), Lib.lens (l.set k s) ≤ Lib.lens l + s.length
  | [], k, s => by simp [lens_nil]
  | x :: r, 0, s => by simp only [List.set_cons_zero, lens_cons]; omega
  | x :: r, k + 1, s => by have := lens_set r k s; simp only [List.set_cons_succ, lens_cons]; omega
theorem put_lens (l : List (List UInt8)) (k : Nat) (s : List UInt8) : Lib.lens (putM l k s) ≤ Lib.lens l + s.length := by
  have h1 := lens_set (padM l (max k l.length)) (k - 1) s
  have h2 := pad_lens l (max k l.length)
  unfold putM
  omega
theorem put_get (l : List (List UInt8)) (k i : Nat) (hk : 1 ≤ k) (s : List UInt8) : (putM l k s).getD i [] = if i + 1 = k then s else l.getD i [] := by
  unfold putM
  simp only [List.getD_eq_getElem?_getD, List.getElem?_set, pad_len]
  by_cases e : k - 1 = i
  · rw [if_pos e, if_pos (by omega), if_pos (by omega)]; rfl
  · rw [if_neg e, if_neg (by omega)]
    have := pad_get l (max k l.length) i
    simp only [List.getD_eq_getElem?_getD] at this
    rw [this]
    split
    · rfl
    · rw [List.getElem?_eq_none (by omega)]; rfl
/-- How long a joined text is. -/
theorem join_len (l : List (List UInt8)) (sep : List UInt8) : (Lib.join l sep).length = sep.length * (l.length - 1) + Lib.lens l := by
  cases l with
  | nil => simp [Lib.join_nil, lens_nil]
  | cons x r => rw [Lib.join_length]; simp
/-- 'Get'. -/
def getM (text : List UInt8) (l : List (List UInt8)) (i : Int) : List UInt8 := if i = 0 then text else if i < 0 then [] else l.getD (i.toNat - 1) []
theorem getM_zero (text : List UInt8) (l : List (List UInt8)) : getM text l 0 = text := rfl
theorem getM_nat (text : List UInt8) (l : List (List UInt8)) (i : Nat) (h : 1 ≤ i) : getM text l (i : Int) = l.getD (i - 1) [] := by
  unfold getM
  rw [if_neg (by omega), if_neg (by omega)]
  rfl
end Go.Proofs.YtokamlobppejhaaGreatDoor
