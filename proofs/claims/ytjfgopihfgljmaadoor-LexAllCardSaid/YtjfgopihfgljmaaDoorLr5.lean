/-
  What stands in front as a number, as the reference reads it: plain laws. No program, no conditions.
-/
import Derived.Test.YtjfgopihfgljmaaDoorLexJ
import Derived.Test.YtjfgopihfgljmaaDoorLr1
namespace Go.Proofs.YtjfgopihfgljmaaDoor
set_option linter.unusedVariables false
set_option linter.unusedSimpArgs false

/-- The digit that a byte is. -/
def dgt (c : UInt8) : Nat := c.toNat - 48
def frcM (s : List UInt8) : List UInt8 := match s.drop (s.takeWhile digM).length with | [] => [] | c :: r => if c.toNat = 46 then r.takeWhile digM else []
def padM (l : List UInt8) : List UInt8 := (l ++ List.replicate 6 48).take 6
/-- The digits, the least first, as the reference lays them. -/
def digRow (s : List UInt8) : List Nat := (padM (frcM s)).reverse.map dgt ++ (s.takeWhile digM).reverse.map dgt
theorem digM_iff {c : UInt8} : digM c = true ↔ 48 ≤ c.toNat ∧ c.toNat ≤ 57 := by simp [digM]
theorem padM_len (l : List UInt8) : (padM l).length = 6 := by simp [padM]
theorem padM_get (l : List UInt8) {k : Nat} (hk : k < 6) : (padM l)[k]? = some (if k < l.length then l.getD k 0 else 48) := by
  unfold padM
  rw [List.getElem?_take, if_pos hk]
  by_cases h : k < l.length
  · rw [List.getElem?_append_left h, if_pos h, List.getD_eq_getElem?_getD, List.getElem?_eq_getElem h]; rfl
  · rw [List.getElem?_append_right (by omega), if_neg h, List.getElem?_replicate, if_pos (by omega)]
theorem tw_all5 (f : UInt8 → Bool) : ∀ (s : List UInt8), ∀ x ∈ s.takeWhile f, f x = true
  | [], x, h => by simp at h
  | c :: r, x, h => by
    by_cases hc : f c = true
    · rw [List.takeWhile_cons_of_pos hc] at h
      rcases List.mem_cons.1 h with rfl | h
      · exact hc
      · exact tw_all5 f r x h
    · rw [List.takeWhile_cons_of_neg hc] at h; simp at h
theorem tw_app2 (f : UInt8 → Bool) : ∀ (l r : List UInt8), (∀ x ∈ l, f x = true) → (l ++ r).takeWhile f = l ++ r.takeWhile f
  | [], r, _ => rfl
  | c :: l, r, h => by
    rw [List.cons_append, List.takeWhile_cons_of_pos (h c (List.mem_cons_self ..)), tw_app2 f l r (fun x hx => h x (List.mem_cons_of_mem _ hx))]; rfl
theorem tw_self (f : UInt8 → Bool) (l : List UInt8) (h : ∀ x ∈ l, f x = true) : l.takeWhile f = l := by
  have := tw_app2 f l [] h
  simpa using this
theorem tw_drop (f : UInt8 → Bool) (s : List UInt8) : s = s.takeWhile f ++ s.drop (s.takeWhile f).length := by
  have h : s.takeWhile f = s.take (s.takeWhile f).length := by
    have := List.takeWhile_prefix (l := s) f
    exact List.prefix_iff_eq_take.1 this
  conv => lhs; rw [← List.take_append_drop (s.takeWhile f).length s]
  rw [← h]
theorem padM_dig {l : List UInt8} (h : ∀ x ∈ l, digM x = true) : ∀ x ∈ padM l, digM x = true := by
  intro x hx
  rcases List.mem_append.1 (List.mem_of_mem_take hx) with h1 | h1
  · exact h x h1
  · rw [(List.mem_replicate.1 h1).2]; rfl
theorem frcM_dig (s : List UInt8) : ∀ x ∈ frcM s, digM x = true := by
  unfold frcM
  intro x hx
  split at hx
  · simp at hx
  · split at hx
    · exact tw_all5 _ _ x hx
    · simp at hx
theorem dgt_lt {c : UInt8} (h : digM c = true) : dgt c < 10 := by have := digM_iff.1 h; unfold dgt; omega
theorem digRow_lt (s : List UInt8) : ∀ x ∈ digRow s, x < 10 := by
  intro x hx
  unfold digRow at hx
  rcases List.mem_append.1 hx with h | h
  · obtain ⟨c, hc, rfl⟩ := List.mem_map.1 h
    exact dgt_lt (padM_dig (frcM_dig s) c (List.mem_reverse.1 hc))
  · obtain ⟨c, hc, rfl⟩ := List.mem_map.1 h
    exact dgt_lt (tw_all5 _ _ c (List.mem_reverse.1 hc))
theorem valD_append : ∀ (a b : List Nat), valD (a ++ b) = valD a + 10 ^ a.length * valD b
  | [], b => by simp [valD]
  | x :: r, b => by
    rw [List.cons_append, valD, valD_append r b, valD, List.length_cons, Nat.pow_succ, Nat.mul_add, ← Nat.mul_assoc, Nat.mul_comm 10 (10 ^ r.length)]; omega
theorem valM_cons5 (v : Nat) (c : UInt8) (r : List UInt8) : valM v (c :: r) = valM (v * 10 + dgt c) r := by simp only [valM, List.foldl_cons, dgt]
theorem valM_app (v : Nat) (a b : List UInt8) : valM v (a ++ b) = valM (valM v a) b := by unfold valM; rw [List.foldl_append]
theorem valM_lin : ∀ (l : List UInt8) (v : Nat), valM v l = v * 10 ^ l.length + valM 0 l
  | [], v => by simp [valM]
  | c :: r, v => by
    rw [valM_cons5, valM_lin r (v * 10 + dgt c), valM_cons5, valM_lin r (0 * 10 + dgt c), List.length_cons, Nat.pow_succ, Nat.zero_mul, Nat.zero_add, Nat.add_mul, Nat.mul_assoc, Nat.mul_comm (10 ^ r.length) 10]; omega
theorem valD_rev : ∀ l : List UInt8, valD (l.reverse.map dgt) = valM 0 l
  | [] => rfl
  | c :: r => by
    rw [List.reverse_cons, List.map_append, valD_append, valD_rev r, valM_cons5, valM_lin r (0 * 10 + dgt c), List.length_map, List.length_reverse]
    simp only [List.map_cons, List.map_nil, valD, Nat.zero_mul, Nat.zero_add, Nat.mul_zero, Nat.add_zero]
    rw [Nat.mul_comm]; omega
theorem digRow_val (s : List UInt8) : valD (digRow s) = valM (valM 0 (s.takeWhile digM)) (padM (frcM s)) := by
  unfold digRow
  rw [valD_append, valD_rev, valD_rev, List.length_map, List.length_reverse, padM_len, valM_lin (padM (frcM s)) (valM 0 _), padM_len, Nat.mul_comm]; omega
theorem valM_zeros : ∀ l : List UInt8, valM 0 (l.dropWhile fun c => c.toNat == 48) = valM 0 l
  | [] => rfl
  | c :: r => by
    by_cases h : (c.toNat == 48) = true
    · rw [List.dropWhile_cons_of_pos (p := fun c : UInt8 => c.toNat == 48) h, valM_zeros r, valM_cons5]
      have : dgt c = 0 := by unfold dgt; simp at h; omega
      rw [this]
    · rw [List.dropWhile_cons_of_neg (p := fun c : UInt8 => c.toNat == 48) h]
theorem valM_lt5 : ∀ l : List UInt8, (∀ x ∈ l, digM x = true) → valM 0 l < 10 ^ l.length
  | [], _ => by simp [valM]
  | c :: r, h => by
    have h1 := valM_lt5 r (fun x hx => h x (List.mem_cons_of_mem _ hx))
    have h2 := dgt_lt (h c (List.mem_cons_self ..))
    rw [valM_cons5, valM_lin, List.length_cons, Nat.pow_succ, Nat.zero_mul, Nat.zero_add]
    have : dgt c * 10 ^ r.length ≤ 9 * 10 ^ r.length := Nat.mul_le_mul_right _ (by omega)
    omega
theorem valM_ge5 : ∀ l : List UInt8, (∀ x ∈ l, digM x = true) → (∀ c, l.head? = some c → c.toNat ≠ 48) → l ≠ [] → 10 ^ (l.length - 1) ≤ valM 0 l
  | [], _, _, h => absurd rfl h
  | c :: r, h, h0, _ => by
    have h2 := digM_iff.1 (h c (List.mem_cons_self ..))
    have h3 := h0 c rfl
    rw [valM_cons5, valM_lin, List.length_cons, Nat.add_sub_cancel, Nat.zero_mul, Nat.zero_add]
    have : 1 * 10 ^ r.length ≤ dgt c * 10 ^ r.length := Nat.mul_le_mul_right _ (by unfold dgt; omega)
    omega
theorem tw_dw_head (l : List UInt8) : ∀ c, (l.dropWhile fun c : UInt8 => c.toNat == 48).head? = some c → c.toNat ≠ 48 := by
  intro c hc
  have h := List.head?_dropWhile_not (p := fun c : UInt8 => c.toNat == 48) (l := l)
  rw [hc] at h
  simpa using h
theorem big_split {a p : Nat} (hp : p < 10 ^ 6) : 10 ^ 36 ≤ a * 10 ^ 6 + p ↔ 10 ^ 30 ≤ a := by
  have e : (10 : Nat) ^ 36 = 10 ^ 30 * 10 ^ 6 := (Nat.pow_add 10 30 6)
  rw [e]
  generalize (10 : Nat) ^ 6 = M at *
  generalize (10 : Nat) ^ 30 = K at *
  clear e
  constructor
  · intro h
    refine Nat.le_of_not_lt fun h0 => ?_
    have h1 : (a + 1) * M ≤ K * M := Nat.mul_le_mul_right _ h0
    rw [Nat.succ_mul] at h1
    omega
  · intro h
    have h1 : K * M ≤ a * M := Nat.mul_le_mul_right _ h
    omega
/-- The value of what stands in front: as the reference finds it by its digits. -/
theorem dec_row (s : List UInt8) : decM s = if 36 < topD (digRow s) then none else some (valD (digRow s)) := by
  obtain ⟨W, hW⟩ : ∃ W, W = (s.takeWhile digM).dropWhile fun c : UInt8 => c.toNat == 48 := ⟨_, rfl⟩
  have hWd : ∀ x ∈ W, digM x = true := fun x hx => by
    rw [hW] at hx
    exact tw_all5 _ _ x ((List.dropWhile_suffix _).subset hx)
  have hWh : ∀ c, W.head? = some c → c.toNat ≠ 48 := by rw [hW]; exact tw_dw_head _
  have hWv : valM 0 W = valM 0 (s.takeWhile digM) := by rw [hW]; exact valM_zeros _
  have hv : valD (digRow s) = valM 0 W * 10 ^ 6 + valM 0 (padM (frcM s)) := by rw [digRow_val, valM_lin, padM_len, hWv]
  have hp : valM 0 (padM (frcM s)) < 10 ^ 6 := by have := valM_lt5 _ (padM_dig (frcM_dig s)); rwa [padM_len] at this
  have ht : topD (digRow s) = (digs (valD (digRow s))).length := by
    rw [← take_topD _ (digRow_lt s), List.length_take, Nat.min_eq_left (topD_le _)]
  have hd : decM s = if 30 < W.length then none else some (valM (valM 0 W) (padM (frcM s))) := by
    unfold decM; rw [hW]; rfl
  rw [hd]
  have e : (30 < W.length) ↔ 36 < topD (digRow s) := by
    constructor
    · intro h
      have h1 := valM_ge5 W hWd hWh (by intro h0; rw [h0] at h; simp at h)
      have h2 : (10 : Nat) ^ 30 ≤ 10 ^ (W.length - 1) := Nat.pow_le_pow_right (by omega) (by omega)
      rw [ht]
      refine digs_len_ge ?_
      rw [hv]
      exact (big_split hp).2 (Nat.le_trans h2 h1)
    · intro h
      refine Nat.lt_of_not_le fun h0 => ?_
      have h1 := valM_lt5 W hWd
      have h2 : (10 : Nat) ^ W.length ≤ 10 ^ 30 := Nat.pow_le_pow_right (by omega) h0
      have h3 : valD (digRow s) < 10 ^ 36 := by
        rw [hv]
        refine Nat.lt_of_not_le fun h4 => ?_
        exact absurd ((big_split hp).1 h4) (Nat.not_le_of_lt (Nat.lt_of_lt_of_le h1 h2))
      have := digs_len h3
      omega
  by_cases h : 30 < W.length
  · rw [if_pos h, if_pos (e.1 h)]
  · rw [if_neg h, if_neg (fun h0 => h (e.2 h0)), hv, valM_lin (padM (frcM s)), padM_len]
/-- .. it is found in its own bytes. -/
theorem decM_num (s : List UInt8) : decM (s.take (numM s)) = decM s := by
  obtain ⟨W, hW⟩ : ∃ W, W = s.takeWhile digM := ⟨_, rfl⟩
  have hWd : ∀ x ∈ W, digM x = true := by rw [hW]; exact tw_all5 _ _
  obtain ⟨t, ht⟩ : ∃ t, t = s.drop W.length := ⟨_, rfl⟩
  have hs : s = W ++ t := by rw [ht, hW]; exact tw_drop _ _
  have htn : ∀ c, t.head? = some c → digM c = false := by
    intro c hc
    have h1 : (W ++ t).takeWhile digM = W := by rw [← hs, hW]
    rw [tw_app2 _ _ _ hWd] at h1
    have h2 : t.takeWhile digM = [] := by simpa using h1
    cases t with
    | nil => cases hc
    | cons x r =>
      injection hc with hc; subst hc
      by_cases hx : digM x = true
      · rw [List.takeWhile_cons_of_pos hx] at h2; cases h2
      · simpa using hx
  have key : (s.take (numM s)).takeWhile digM = W ∧ frcM (s.take (numM s)) = frcM s := by
    cases t with
    | nil =>
      have e : s = W := by simpa using hs
      have hn : numM s = W.length := by
        unfold numM
        simp only [← hW, ← ht]
      rw [hn]
      have e2 : s.take W.length = s := by
        conv => lhs; rw [← e]
        exact List.take_length
      rw [e2]
      exact ⟨hW.symm, rfl⟩
    | cons c r =>
      have hc := htn c rfl
      by_cases h46 : c.toNat = 46
      · have hn : numM s = W.length + 1 + (r.takeWhile digM).length := by
          unfold numM
          simp only [← hW, ← ht]
          rw [if_pos h46]
        obtain ⟨F, hF⟩ : ∃ F, F = r.takeWhile digM := ⟨_, rfl⟩
        have hr : r = F ++ r.drop F.length := by rw [hF]; exact tw_drop _ _
        have hs2 : s = (W ++ c :: F) ++ r.drop F.length := by
          conv => lhs; rw [hs, hr]
          simp
        have e : s.take (numM s) = W ++ c :: F := by
          rw [hn, ← hF]
          conv => lhs; rw [hs2]
          exact List.take_left' (by simp; omega)
        have hFd : ∀ x ∈ F, digM x = true := by rw [hF]; exact tw_all5 _ _
        have e1 : (W ++ c :: F).takeWhile digM = W := by
          rw [tw_app2 _ _ _ hWd, List.takeWhile_cons_of_neg (by simp [hc]), List.append_nil]
        rw [e]
        refine ⟨e1, ?_⟩
        unfold frcM
        rw [e1, List.drop_left, ← hW, ← ht]
        simp only [if_pos h46]
        rw [tw_self _ _ hFd, hF]
      · have hn : numM s = W.length := by
          unfold numM
          simp only [← hW, ← ht]
          rw [if_neg h46]
        have e : s.take (numM s) = W := by
          rw [hn]
          conv => lhs; rw [hs]
          exact List.take_left' rfl
        rw [e]
        have e1 := tw_self _ _ hWd
        refine ⟨e1, ?_⟩
        unfold frcM
        rw [e1, List.drop_length, ← hW, ← ht]
        simp only [if_neg h46]
  have e : ∀ s, decM s = if 30 < ((s.takeWhile digM).dropWhile fun c : UInt8 => c.toNat == 48).length then none else some (valM (valM 0 ((s.takeWhile digM).dropWhile fun c : UInt8 => c.toNat == 48)) (padM (frcM s))) := fun s => rfl
  rw [e, e s, key.1, key.2, hW]
end Go.Proofs.YtjfgopihfgljmaaDoor
