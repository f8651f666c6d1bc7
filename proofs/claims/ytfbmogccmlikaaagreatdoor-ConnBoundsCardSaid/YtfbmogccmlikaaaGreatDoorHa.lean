/-
 GcS, Gc1: several small texts in one. No conditions.
-/
import Derived.Test.YtfbmogccmlikaaaGreatDoorGg
import Derived.Lib.Index
import Derived.Test.YtfbmogccmlikaaaGreatDoorHKa
import Derived.Test.YtfbmogccmlikaaaGreatDoorGe
import Derived.Deep.Cut
namespace Go.Proofs.YtfbmogccmlikaaaGreatDoor.G
set_option linter.unusedVariables false
set_option linter.unusedSimpArgs false
def nlM (b : List UInt8) : Nat := (b.takeWhile (· == 10)).length
def trM (b : List UInt8) : Nat := (b.reverse.takeWhile (· == 10)).length
def idx2 : List UInt8 → Option Nat
 | [] => none
 | [_] => none
 | a :: b :: r => if a = 10 ∧ b = 10 then some 0 else (idx2 (b :: r)).map (· + 1)
inductive Sep where
 | para : Sep
 | one : UInt8 → Sep
 | expr : List Sp → Sep
def Sep.ok : Sep → Prop
 | .para => True
 | .one _ => True
 | .expr L => ProgOk L ∧ 0 < L.length ∧ takesS L [] = false
def tailG (b : List UInt8) (en : Bool) : Option (Nat × Nat × Nat) := if en = true ∧ b ≠ [] then some (0, b.length, b.length) else none
def firstG : Sep → List UInt8 → Bool → Option (Nat × Nat × Nat)
 | .para, b, en =>
  (match idx2 (b.drop (nlM b)) with
   | some i => if nlM b + i + nlM (b.drop (nlM b + i)) < b.length ∨ en = true then some (nlM b, nlM b + i, nlM b + i + nlM (b.drop (nlM b + i))) else none
   | none => if en = false ∨ nlM b = b.length then none else some (nlM b, b.length - trM b, b.length))
 | .one c, b, en => if c ∈ b then some (0, (b.takeWhile (· != c)).length, (b.takeWhile (· != c)).length + 1) else tailG b en
 | .expr L, b, en =>
  (match (if en = true then findS L b 0 else lookS L b) with
   | some q => some (0, q.1, q.2)
   | none => tailG b en)
theorem first_one (c : UInt8) (b : List UInt8) (en : Bool) : firstG (.one c) b en = if c ∈ b then some (0, (b.takeWhile (· != c)).length, (b.takeWhile (· != c)).length + 1) else tailG b en := rfl
theorem first_expr (L : List Sp) (b : List UInt8) (en : Bool) : firstG (.expr L) b en = (match (if en = true then findS L b 0 else lookS L b) with
     | some q => some (0, q.1, q.2)
     | none => tailG b en) := rfl
theorem first_para (b : List UInt8) (en : Bool) : firstG .para b en = (match idx2 (b.drop (nlM b)) with
     | some i => if nlM b + i + nlM (b.drop (nlM b + i)) < b.length ∨ en = true then some (nlM b, nlM b + i, nlM b + i + nlM (b.drop (nlM b + i))) else none
     | none => if en = false ∨ nlM b = b.length then none else some (nlM b, b.length - trM b, b.length)) := rfl
theorem nlM_le (b : List UInt8) : nlM b ≤ b.length := by
 unfold nlM
 have := (List.takeWhile_prefix (fun x : UInt8 => x == 10) (l := b)).length_le
 exact this
theorem nlM_cons (x : UInt8) (b : List UInt8) : nlM (x :: b) = if x = 10 then nlM b + 1 else 0 := by
 unfold nlM
 by_cases h : x = 10
 ·subst h; simp
 ·simp [List.takeWhile_cons, h]
theorem nlM_app (a b : List UInt8) (h : nlM a < a.length) : nlM (a ++ b) = nlM a := by
 induction a with
 | nil => simp at h
 | cons x r ih =>
  rw [List.cons_append, nlM_cons, nlM_cons]
  by_cases hx : x = 10
  ·rw [if_pos hx, if_pos hx]
   rw [nlM_cons, if_pos hx] at h
   rw [ih (by simp at h; omega)]
  ·rw [if_neg hx, if_neg hx]
theorem nlM_split : ∀ b : List UInt8, b = List.replicate (nlM b) 10 ++ b.drop (nlM b)
 | [] => rfl
 | x :: r => by
  rw [nlM_cons]
  by_cases hx : x = 10
  ·rw [if_pos hx, List.replicate_succ, List.cons_append, List.drop_succ_cons, ← nlM_split r, hx]
  ·rw [if_neg hx]; rfl
theorem nlM_rep (k : Nat) (b : List UInt8) : nlM (List.replicate k 10 ++ b) = k + nlM b := by
 induction k with
 | zero => simp
 | succ k ih => rw [List.replicate_succ, List.cons_append, nlM_cons, if_pos rfl, ih]; omega
theorem nlM_drop (b : List UInt8) : nlM (b.drop (nlM b)) = 0 := by
 have h := nlM_rep (nlM b) (b.drop (nlM b))
 rw [← nlM_split b] at h
 omega
theorem idx2_some : ∀ {b : List UInt8} {i : Nat}, idx2 b = some i → i + 2 ≤ b.length ∧ b[i]? = some 10 ∧ b[i + 1]? = some 10 ∧ ∀ j : Nat, j < i → ¬ (b[j]? = some 10 ∧ b[j + 1]? = some 10)
 | [], i, h => by cases h
 | [_], i, h => by cases h
 | a :: b :: r, i, h => by
  unfold idx2 at h
  split at h
  ·rename_i hab
   injection h with h
   subst h
   refine ⟨by simp, by simp [hab.1], by simp [hab.2], fun j hj => by omega⟩
  ·rename_i hab
   rw [Option.map_eq_some_iff] at h
   obtain ⟨k, hk, rfl⟩ := h
   obtain ⟨h1, h2, h3, h4⟩ := idx2_some hk
   refine ⟨by simp at h1 ⊢; omega, by simpa using h2, by simpa using h3, fun j hj hc => ?_⟩
   cases j with
   | zero => exact hab ⟨by simpa using hc.1, by simpa using hc.2⟩
   | succ j => exact h4 j (by omega) ⟨by simpa using hc.1, by simpa using hc.2⟩
theorem idx2_none : ∀ {b : List UInt8}, idx2 b = none → ∀ j : Nat, ¬ (b[j]? = some 10 ∧ b[j + 1]? = some 10)
 | [], h => by intro j hc; simp at hc
 | [_], h => by intro j hc; simp at hc
 | a :: b :: r, h => by
  unfold idx2 at h
  split at h
  ·cases h
  ·rename_i hab
   have h' : idx2 (b :: r) = none := by simpa using h
   intro j hc
   cases j with
   | zero => exact hab ⟨by simpa using hc.1, by simpa using hc.2⟩
   | succ j => exact idx2_none h' j ⟨by simpa using hc.1, by simpa using hc.2⟩
theorem idx2_app : ∀ {b : List UInt8} {i : Nat} (m : List UInt8), idx2 b = some i → idx2 (b ++ m) = some i
 | [], i, m, h => by cases h
 | [_], i, m, h => by cases h
 | a :: b :: r, i, m, h => by
  unfold idx2 at h
  rw [List.cons_append, List.cons_append]
  unfold idx2
  split at h
  ·rename_i hab; rw [if_pos hab]; exact h
  ·rename_i hab
   rw [if_neg hab]
   rw [Option.map_eq_some_iff] at h
   obtain ⟨k, hk, rfl⟩ := h
   have := idx2_app m hk
   rw [List.cons_append] at this
   rw [this]; rfl
theorem occ2 (b : List UInt8) (i : Nat) : Lib.occAt b [10, 10] i = true ↔ b[i]? = some 10 ∧ b[i + 1]? = some 10 := by
 unfold Lib.occAt
 have h0 : b[i]? = (b.drop i)[0]? := by simp
 have h1 : b[i + 1]? = (b.drop i)[1]? := by simp
 rw [h0, h1]
 cases b.drop i with
 | nil => simp
 | cons x r =>
  cases r with
  | nil => simp [List.isPrefixOf]
  | cons y r =>
   simp only [List.isPrefixOf, Bool.and_eq_true, beq_iff_eq, List.getElem?_cons_zero, List.getElem?_cons_succ, Option.some.injEq, and_true]
   exact ⟨fun h => ⟨h.1.symm, h.2.symm⟩, fun h => ⟨h.1.symm, h.2.symm⟩⟩
theorem index2_some {b : List UInt8} {i : Nat} (h : idx2 b = some i) : Lib.index b [10, 10] = (i : Int) := by
 obtain ⟨h1, h2, h3, h4⟩ := idx2_some h
 refine Lib.index_first (by omega) ((occ2 b i).2 ⟨h2, h3⟩) fun j hj => ?_
 rw [Bool.eq_false_iff]
 intro hc
 exact h4 j hj ((occ2 b j).1 hc)
theorem index2_none {b : List UInt8} (h : idx2 b = none) : Lib.index b [10, 10] = -1 := by
 refine Lib.index_none fun j _ => ?_
 rw [Bool.eq_false_iff]
 intro hc
 exact idx2_none h j ((occ2 b j).1 hc)
theorem mt_empty {L : List Sp} {tx : List UInt8} {s k : Nat} (h : Wk L tx false 0 s k s) : Wk L [] false 0 0 k 0 := by
 generalize he : s = e at h
 have key : ∀ {k b : Nat}, Wk L tx false 0 s k b → b = s → Wk L [] false 0 0 k 0 := by
  intro k b hw
  induction hw with
  | refl => intro _; exact .refl
  | @eps i j b _ hj ih =>
   intro hb
   refine .eps (ih hb) ?_
   unfold metT at hj ⊢
   split
   ·rename_i h1; rw [if_pos h1] at hj; exact hj
   ·rename_i h1
    rw [if_neg h1] at hj
    split
    ·rename_i h2; rw [if_pos h2] at hj
     split at hj
     ·simpa using hj
     ·cases hj
    ·rename_i h2
     rw [if_neg h2] at hj
     split
     ·rename_i h3; rw [if_pos h3] at hj
      split at hj
      ·cases hj
      ·simpa using hj
     ·rename_i h3; rw [if_neg h3] at hj; cases hj
  | @byte i b hw _ _ _ ih =>
   intro hb
   have := hw.le
   omega
 subst he
 exact key h rfl
theorem find_pos {L : List Sp} {b : List UInt8} {q : Nat × Nat} (hok : ProgOk L) (h0 : 0 < L.length) (ht : takesS L [] = false) (h : findS L b 0 = some q) : q.1 ≤ q.2 ∧ q.2 ≤ b.length ∧ 0 < q.2 := by
 have hf := findS_some hok h0 (Nat.zero_le _) h
 refine ⟨hf.le, hf.len, ?_⟩
 rcases Nat.eq_zero_or_pos q.2 with e | e
 ·exfalso
  have h1 : q.1 = 0 := by have := hf.le; omega
  obtain ⟨k, hw, hk⟩ := hf.mt
  rw [e, h1] at hw
  have := (takesS_iff (tx := []) hok h0).2 ⟨k, mt_empty hw, hk⟩
  rw [ht] at this; cases this
 ·exact e
theorem look_find {L : List Sp} {b : List UInt8} {q : Nat × Nat} (hok : ProgOk L) (h0 : 0 < L.length) (h : lookS L b = some q) : findS L b 0 = some q := by
 have := (look_ok hok h0 h []).1
 rwa [List.append_nil] at this
theorem tw_len (c : UInt8) (b : List UInt8) (h : c ∈ b) : (b.takeWhile (· != c)).length < b.length := by
 induction b with
 | nil => simp at h
 | cons x r ih =>
  rw [List.takeWhile_cons]
  split
  ·rename_i hx
   have : c ∈ r := by
    rcases List.mem_cons.1 h with e | e
    ·subst e; simp at hx
    ·exact e
   simpa using ih this
  ·simp
theorem tw_more (c : UInt8) (b m : List UInt8) (h : c ∈ b) : (b ++ m).takeWhile (· != c) = b.takeWhile (· != c) := by
 induction b with
 | nil => simp at h
 | cons x r ih =>
  rw [List.cons_append, List.takeWhile_cons, List.takeWhile_cons]
  split
  ·rename_i hx
   have : c ∈ r := by
    rcases List.mem_cons.1 h with e | e
    ·subst e; simp at hx
    ·exact e
   rw [ih this]
  ·rfl
theorem tailG_bounds {b : List UInt8} {en : Bool} {f t x : Nat} (h : tailG b en = some (f, t, x)) : f = 0 ∧ t = b.length ∧ x = b.length ∧ 0 < b.length := by
 unfold tailG at h
 split at h
 ·rename_i hb
  injection h with h
  injection h with h1 h2
  injection h2 with h2 h3
  refine ⟨h1.symm, h2.symm, h3.symm, ?_⟩
  cases b with
  | nil => exact absurd rfl hb.2
  | cons => simp
 ·cases h
theorem trM_lt {b : List UInt8} (h : nlM b < b.length) : trM b + nlM b < b.length := by
 have h1 := nlM_split b
 have h2 := nlM_drop b
 obtain ⟨x, r, hr⟩ : ∃ x r, b.drop (nlM b) = x :: r := by
  cases hd : b.drop (nlM b) with
  | nil => have := congrArg List.length hd; simp at this; omega
  | cons x r => exact ⟨x, r, rfl⟩
 have hx : x ≠ 10 := by
  intro e
  rw [hr, nlM_cons, if_pos e] at h2
  omega
 have h3 : trM b ≤ r.length := by
  unfold trM
  rw [h1, hr, List.reverse_append, List.reverse_cons, List.append_assoc]
  have : ((r.reverse ++ ([x] ++ (List.replicate (nlM b) 10).reverse)).takeWhile (· == 10)).length ≤ r.length := by
   rw [List.takeWhile_append]
   split
   ·rw [List.singleton_append, List.takeWhile_cons, if_neg (by simpa using hx)]
    simp
   ·have := (List.takeWhile_prefix (fun x : UInt8 => x == 10) (l := r.reverse)).length_le
    simpa using this
  exact this
 have h4 : b.length = nlM b + (r.length + 1) := by
  have := congrArg List.length h1
  rw [hr] at this
  simp at this
  omega
 omega
theorem first_bounds {s : Sep} (hs : s.ok) {b : List UInt8} {en : Bool} {f t x : Nat} (h : firstG s b en = some (f, t, x)) : f ≤ t ∧ t ≤ x ∧ x ≤ b.length ∧ 0 < x := by
 cases s with
 | one c =>
  rw [first_one] at h
  split at h
  ·rename_i hc
   have := tw_len c b hc
   injection h with h
   injection h with h1 h2
   injection h2 with h2 h3
   omega
  ·obtain ⟨h1, h2, h3, h4⟩ := tailG_bounds h
   omega
 | expr L =>
  obtain ⟨o1, o2, o3⟩ := hs
  rw [first_expr] at h
  split at h
  ·rename_i q hq
   injection h with h
   injection h with h1 h2
   injection h2 with h2 h3
   have hf : findS L b 0 = some q := by
    split at hq
    ·exact hq
    ·exact look_find o1 o2 hq
   obtain ⟨a1, a2, a3⟩ := find_pos o1 o2 o3 hf
   omega
  ·obtain ⟨h1, h2, h3, h4⟩ := tailG_bounds h
   omega
 | para =>
  have hl := nlM_le b
  rw [first_para] at h
  split at h
  ·rename_i i hi
   obtain ⟨a1, a2, a3, -⟩ := idx2_some hi
   have hn := nlM_le (b.drop (nlM b + i))
   rw [List.length_drop] at a1 hn
   have hp : 0 < nlM (b.drop (nlM b + i)) := by
    rw [List.getElem?_drop] at a2
    obtain ⟨y, r, hr⟩ : ∃ y r, b.drop (nlM b + i) = y :: r := by
     cases hd : b.drop (nlM b + i) with
     | nil => have := congrArg List.length hd; simp at this; omega
     | cons y r => exact ⟨y, r, rfl⟩
    have : (b.drop (nlM b + i))[0]? = some 10 := by rw [List.getElem?_drop]; exact a2
    rw [hr] at this
    injection this with this
    rw [hr, nlM_cons, if_pos this]; omega
   split at h
   ·injection h with h
    injection h with h1 h2
    injection h2 with h2 h3
    omega
   ·cases h
  ·split at h
   ·cases h
   ·rename_i hc
    have hlt : nlM b < b.length := by
     rcases Nat.lt_or_ge (nlM b) b.length with h' | h'
     ·exact h'
     ·exact absurd (.inr (by omega)) hc
    have := trM_lt hlt
    injection h with h
    injection h with h1 h2
    injection h2 with h2 h3
    omega
theorem first_more {s : Sep} (hs : s.ok) {b : List UInt8} {q : Nat × Nat × Nat} (h : firstG s b false = some q) (m : List UInt8) : firstG s (b ++ m) true = some q := by
 cases s with
 | one c =>
  rw [first_one] at h ⊢
  split at h
  ·rename_i hc
   rw [if_pos (by simp [hc]), tw_more c b m hc]; exact h
  ·unfold tailG at h; simp at h
 | expr L =>
  obtain ⟨o1, o2, o3⟩ := hs
  rw [first_expr] at h ⊢
  split at h
  ·rename_i q' hq
   rw [if_neg (by simp)] at hq
   have h1 := (look_ok o1 o2 hq m).1
   rw [if_pos rfl, h1]; exact h
  ·unfold tailG at h; simp at h
 | para =>
  have hl := nlM_le b
  rw [first_para] at h ⊢
  split at h
  ·rename_i i hi
   obtain ⟨a1, -⟩ := idx2_some hi
   rw [List.length_drop] at a1
   split at h
   ·rename_i hlt
    have hlt : nlM b + i + nlM (b.drop (nlM b + i)) < b.length := by
     rcases hlt with e | e
     ·exact e
     ·cases e
    have e1 : nlM (b ++ m) = nlM b := nlM_app b m (by omega)
    have e2 : (b ++ m).drop (nlM b) = b.drop (nlM b) ++ m := List.drop_append_of_le_length hl
    have e3 : (b ++ m).drop (nlM b + i) = b.drop (nlM b + i) ++ m := List.drop_append_of_le_length (by omega)
    have e4 : nlM (b.drop (nlM b + i) ++ m) = nlM (b.drop (nlM b + i)) := nlM_app _ m (by rw [List.length_drop]; omega)
    rw [e1, e2, idx2_app m hi]
    dsimp only
    rw [e3, e4, if_pos (.inr rfl)]; exact h
   ·cases h
  ·simp at h
def recsF (s : Sep) : Nat → List UInt8 → List (List UInt8)
 | 0, _ => []
 | n + 1, b => match firstG s b true with
  | none => []
  | some (f, t, x) => ((b.drop f).take (t - f)) :: recsF s n (b.drop x)
def recsG (s : Sep) (b : List UInt8) : List (List UInt8) := recsF s (b.length + 1) b
theorem recsF_fuel {s : Sep} (hs : s.ok) : ∀ (n k : Nat) (b : List UInt8), b.length < n → b.length < k → recsF s n b = recsF s k b
 | 0, _, _, h, _ => by omega
 | _, 0, _, _, h => by omega
 | n + 1, k + 1, b, h1, h2 => by
  unfold recsF
  split
  ·rfl
  ·rename_i f t x he
   obtain ⟨-, -, a1, a2⟩ := first_bounds hs he
   rw [recsF_fuel hs n k (b.drop x) (by rw [List.length_drop]; omega) (by rw [List.length_drop]; omega)]
theorem recsG_none {s : Sep} {b : List UInt8} (h : firstG s b true = none) : recsG s b = [] := by
 unfold recsG recsF
 rw [h]
theorem recsG_some {s : Sep} (hs : s.ok) {b : List UInt8} {f t x : Nat} (h : firstG s b true = some (f, t, x)) : recsG s b = ((b.drop f).take (t - f)) :: recsG s (b.drop x) := by
 obtain ⟨-, -, a1, a2⟩ := first_bounds hs h
 unfold recsG
 rw [recsF, h]
 dsimp only
 rw [recsF_fuel hs _ ((b.drop x).length + 1) (b.drop x) (by rw [List.length_drop]; omega) (by omega)]
theorem recsG_more {s : Sep} (hs : s.ok) {b : List UInt8} {f t x : Nat} (h : firstG s b false = some (f, t, x)) (m : List UInt8) : recsG s (b ++ m) = ((b.drop f).take (t - f)) :: recsG s (b.drop x ++ m) := by
 have h1 := first_more hs h m
 obtain ⟨a0, a1, a2, a3⟩ := first_bounds hs h
 rw [recsG_some hs h1]
 have e1 : (b ++ m).drop x = b.drop x ++ m := List.drop_append_of_le_length a2
 have e2 : (b ++ m).drop f = b.drop f ++ m := List.drop_append_of_le_length (by omega)
 have e3 : (b.drop f ++ m).take (t - f) = (b.drop f).take (t - f) := List.take_append_of_le_length (by rw [List.length_drop]; omega)
 rw [e1, e2, e3]
theorem drop_rep (k j : Nat) (b : List UInt8) : (List.replicate k (10 : UInt8) ++ b).drop (k + j) = b.drop j := by
 rw [List.drop_append, List.length_replicate]
 have : k + j - k = j := by omega
 rw [this, List.drop_eq_nil_of_le (by simp), List.nil_append]
theorem trM_rep (k : Nat) (b : List UInt8) (h : nlM b < b.length) : trM (List.replicate k 10 ++ b) = trM b := by
 have h1 := trM_lt h
 unfold trM at h1 ⊢
 rw [List.reverse_append, List.takeWhile_append]
 rw [if_neg (by simp; omega)]
theorem recsG_nl (k : Nat) (b : List UInt8) : recsG .para (List.replicate k 10 ++ b) = recsG .para b := by
 have hn := nlM_rep k b
 have hl : (List.replicate k (10 : UInt8) ++ b).length = k + b.length := by simp
 have hf : ∀ f t x, firstG .para b true = some (f, t, x) → firstG .para (List.replicate k 10 ++ b) true = some (k + f, k + t, k + x) := by
  intro f t x h
  have hbl := nlM_le b
  rw [first_para] at h ⊢
  rw [hn, drop_rep k (nlM b) b]
  split at h
  ·rename_i i hi
   rw [if_pos (.inr rfl)] at h
   injection h with h
   injection h with h1 h2
   injection h2 with h2 h3
   (try rw [hi])
   (try dsimp only)
   rw [if_pos (.inr rfl)]
   have e : k + nlM b + i = k + (nlM b + i) := by omega
   rw [e, drop_rep k (nlM b + i) b, ← h1, ← h2, ← h3]
   simp only [Nat.add_assoc]
  ·rename_i hi
   split at h
   ·cases h
   ·rename_i hc
    have hlt : nlM b < b.length := by
     rcases Nat.lt_or_ge (nlM b) b.length with h' | h'
     ·exact h'
     ·exact absurd (.inr (by omega)) hc
    (try rw [hi])
    (try dsimp only)
    have h3 := trM_lt hlt
    rw [if_neg (by rintro (e | e); cases e; omega), hl, trM_rep k b hlt]
    injection h with h
    injection h with h1 h2
    injection h2 with h2 h3
    rw [← h1, ← h2, ← h3]
    have e : k + b.length - trM b = k + (b.length - trM b) := by omega
    rw [e]
 cases h : firstG .para b true with
 | none =>
  rw [recsG_none h]
  apply recsG_none
  have hbl := nlM_le b
  rw [first_para] at h ⊢
  rw [hn, drop_rep k (nlM b) b]
  split at h
  ·rw [if_pos (.inr rfl)] at h; cases h
  ·rename_i hi
   (try rw [hi])
   (try dsimp only)
   split at h
   ·rename_i hc
    rw [if_pos]
    rcases hc with e | e
    ·cases e
    ·right; omega
   ·cases h
 | some q =>
  obtain ⟨f, t, x⟩ := q
  rw [recsG_some (by trivial) h, recsG_some (by trivial) (hf f t x h), drop_rep, drop_rep]
  have : k + t - (k + f) = t - f := by omega
  rw [this]
theorem recsG_skip (b m : List UInt8) : recsG .para (b ++ m) = recsG .para (b.drop (nlM b) ++ m) := by
 conv => lhs; rw [nlM_split b, List.append_assoc]
 exact recsG_nl _ _
end Go.Proofs.YtfbmogccmlikaaaGreatDoor.G
namespace Go.Proofs.YtfbmogccmlikaaaGreatDoor.G
open Go.RowKit
set_option linter.unusedVariables false
set_option linter.unusedSimpArgs false
theorem bytes_at {w : World} {A : Option Addr} {bs : List UInt8} (h : Bytes w A bs) {k : Nat} {x : UInt8} (hx : bs[k]? = some x) : ∃ ad, A = some ad ∧ w.cell? (ad.add k) = some (.int .u8 (x.toNat : Int)) := by
 have hb : (byteVals bs)[k]? = some (.int .u8 (x.toNat : Int)) := by simp [byteVals, hx]
 rcases h with h | ⟨a, rfl, -, hc⟩
 ·rw [h] at hb; cases hb
 ·exact ⟨a, rfl, hc k _ hb⟩
theorem drop_cons {α : Type} {l : List α} {k : Nat} {x : α} (h : l[k]? = some x) : l.drop k = x :: l.drop (k + 1) := by
 have hk := (List.getElem?_eq_some_iff.1 h)
 obtain ⟨h1, h2⟩ := hk
 rw [List.drop_eq_getElem_cons h1, h2]
set_option maxRecDepth 100000 in
theorem newlines_any {w : World} {A : Option Addr} {bs : List UInt8} {n c : Nat} (hn : bs.length = n) (hb : Bytes w A bs) (hm : n ≤ 1000000000) (a : Nat) (ha : a ≤ n) (r : Nat) (hr : r = a + nlM (bs.drop a)) :
    Calls Tryz.prog 42 #[.slice A n c, .int .i64 (a : Int)] w fun e w' => e = .returned (.int .i64 (r : Int)) ∧ w = w' := by
 have HB := Lib.hid hb; have HN := Lib.hid hn; have HR := Lib.hid hr
 clear hb hn hr
 go_enter Tryz.func42, Tryz.ntmps42
 go_wp2_with fail
 go_loop [1] (fun v1 => ∃ k : Nat, v1 = .int .i64 (k : Int) ∧ a ≤ k ∧ k ≤ n ∧ r = k + nlM (bs.drop k)) (fun v1 => n + 1 - (intOf v1).toNat)
 case atStart => exact ⟨a, rfl, Nat.le_refl _, ha, HR.out⟩
 case round =>
  obtain ⟨k, rfl, hak, hkn, hrk⟩ := hrel
  have HRK := Lib.hid hrk
  clear hrk
  rcases Nat.lt_or_ge k n with hlt | hge
  ·have hltI : (k : Int) < (n : Int) := by omega
   obtain ⟨x, hx⟩ : ∃ x, bs[k]? = some x := ⟨_, List.getElem?_eq_getElem (by rw [HN.out]; exact hlt)⟩
   obtain ⟨ad, rfl, e0⟩ := bytes_at HB.out hx
   have hd := drop_cons hx
   obtain ⟨y, hy⟩ : ∃ y : Nat, y = x.toNat := ⟨_, rfl⟩
   rw [← hy] at e0
   by_cases h10 : x = 10
   ·have hy10 : ((y : Int) == 10) = true := by rw [hy, h10]; rfl
    have HK : Hid (r = k + 1 + nlM (bs.drop (k + 1))) := Lib.hid (by have := HRK.out; rw [hd, nlM_cons, if_pos h10] at this; omega)
    clear hd hy h10 hx
    go_wp2_with fail
    go_round
    case rel => exact ⟨k + 1, by go_num, by omega, by omega, HK.out⟩
    case measure => first | (simp [intOf]; done) | (simp [intOf]; omega)
   ·have hy10 : ((y : Int) == 10) = false := by
     rw [beq_eq_false_iff_ne]
     intro e
     exact h10 (UInt8.toNat.inj (by show x.toNat = 10; omega))
    have HK : Hid (r = k) := Lib.hid (by have := HRK.out; rw [hd, nlM_cons, if_neg h10] at this; omega)
    clear hd hy h10 hx
    go_wp2_with fail
    go_ret
    exact ⟨by rw [HK.out]; rfl, rfl⟩
  ·have hltI : ¬ ((k : Int) < (n : Int)) := by omega
   have HK : Hid (r = k) := Lib.hid (by
    have h1 := HRK.out
    rw [List.drop_of_length_le (by rw [HN.out]; exact hge)] at h1
    exact h1)
   go_wp2_with fail
   go_ret
   exact ⟨by rw [HK.out]; rfl, rfl⟩
def ansG : Option (Nat × Nat × Nat) → Value
 | some (f, t, x) => .tuple #[.int .i64 (f : Int), .int .i64 (t : Int), .int .i64 (x : Int), .bool true]
 | none => .tuple #[.int .i64 0, .int .i64 0, .int .i64 0, .bool false]
theorem newlines_0 {w : World} {A : Option Addr} {bs : List UInt8} {n c : Nat} (hn : bs.length = n) (hb : Bytes w A bs) (hm : n ≤ 1000000000) (r : Nat) (hr : r = nlM bs) :
    Calls Tryz.prog 42 #[.slice A n c, .int .i64 0] w fun e w' => e = .returned (.int .i64 (r : Int)) ∧ w = w' := by
 have h := newlines_any (c := c) hn hb hm 0 (Nat.zero_le _) r (by rw [List.drop_zero, Nat.zero_add]; exact hr)
 rw [show ((0 : Nat) : Int) = 0 from rfl] at h
 exact h
theorem trM_snoc (l : List UInt8) (y : UInt8) : trM (l ++ [y]) = if y = 10 then trM l + 1 else 0 := by
 unfold trM
 rw [List.reverse_append, List.reverse_singleton, List.singleton_append, List.takeWhile_cons]
 by_cases h : y = 10
 ·rw [if_pos h, if_pos (by simpa using h), List.length_cons]
 ·rw [if_neg h, if_neg (by simpa using h)]; rfl
theorem take_snoc {l : List UInt8} {j : Nat} {y : UInt8} (h : l[j]? = some y) : l.take (j + 1) = l.take j ++ [y] := by
 rw [List.take_add_one, h]; rfl
theorem u8parts : ∃ i, Tryz.prog.info? 5 = some i ∧ i.zero = some (.int .u8 0) ∧ i.size = 1 ∧ i.bytes = 1 := info_parts (by kernel_rfl)
def FstPost (w : World) (r : Option (Nat × Nat × Nat)) (e : Ending) (w' : World) : Prop := e = .returned (ansG r) ∧ Fr [] w w'
set_option maxRecDepth 100000 in
set_option maxHeartbeats 4000000 in
theorem paragraph_any {w : World} {A : Option Addr} {bs : List UInt8} {n c : Nat} (hn : bs.length = n) (hb : Bytes w A bs) (hc : n ≤ c) (hA : A = none → c = 0) (hm : n ≤ 100000) (hg : GlobOk w) (en : Bool) :
    Calls Tryz.prog 48 #[.slice A n c, .bool en] w (FstPost w (firstG .para bs en)) := by
 obtain ⟨i0, hi0, hz0, hz1, hz2⟩ := u8parts
 obtain ⟨PP, hPP⟩ : ∃ PP, PP = FstPost w (firstG .para bs en) := ⟨_, rfl⟩
 obtain ⟨f, hf⟩ : ∃ f, f = nlM bs := ⟨_, rfl⟩
 have hfn : f ≤ n := by rw [hf, ← hn]; exact nlM_le bs
 have hlx : (byteVals bs).length = n := by rw [byteVals_length]; exact hn
 have HNL := Lib.hid (newlines_0 (c := c) hn hb (by omega) f hf)
 have HB := Lib.hid hb; have HN := Lib.hid hn; have HA := Lib.hid hA; have HG := Lib.hid hg; have HF := Lib.hid hf; have HP := Lib.hid hPP
 have hdl : (bs.drop f).length = n - f := by rw [List.length_drop, hn]
 have HDL := Lib.hid hdl
 rw [← hPP]
 clear hn hb hA hg hf hPP hdl
 go_enter Tryz.func48, Tryz.ntmps48
 go_upto_region 2 with (go_at_call 42; refine HNL.out.mono ?_; rintro e w1 ⟨rfl, rfl⟩)
 clear HNL
 have HIX : Hid (∀ W X B d, Fr [] w W → Bytes W X (bs.drop f) → Bytes W B [10, 10] → Calls Tryz.prog 61 #[.slice X (n - f) (c - f), .slice B 2 d] W fun e w' => e = .returned (.int .i64 (Lib.index (bs.drop f) [10, 10])) ∧ Fr [] W w') := Lib.hid (fun W X B d hW hX hB =>
  index_any hX hB (by decide) (by decide) (by rw [HDL.out]; omega) (by rw [HDL.out]; omega) (HG.out.fr hW) _ _ HDL.out rfl)
 go_upto_region 3 with (first
  | (refine wpList_cut rfl 34 (.tmp 11) (some (.tmp 12)) none none rfl 5 i0 Tryz.underlying34 hi0 hz1 A n c (by rfl) (byteVals bs) HB.out hlx hc HA.out f n c (.inr (by rfl)) (.inl ⟨by rfl, rfl, rfl⟩) (.inl ⟨by rfl, rfl⟩) hfn hc (Nat.le_refl _) (Nat.le_refl _) ?_; intro X2 hX2 hX2n hX2b; have HX2 : Hid (Bytes w X2 (bs.drop f)) := Lib.hid (by have := hX2; rw [List.take_of_length_le (by rw [List.length_drop, hlx]; exact Nat.le_refl _)] at this; simpa [Bytes, byteVals, List.map_drop] using this); clear hX2 hX2n hX2b)
  | (refine wpList_same rfl 34 (.tmp 14) rfl 5 Tryz.underlying34 Tryz.underlying5 ⟨w.heap.size, 0, none⟩ 2 2 (by rfl) (byteVals [10, 10]) (At.of_bk (n := 2) (Bk.new w 5 #[.int .u8 10, .int .u8 10]) (by rfl)) ?_; intro w2 hat hfr; have HAT := Lib.hid hat; have HF2 : Hid (Fr [] w w2) := Lib.hid (((Fr.refl [] w).alloc _).trans' hfr (by simp)); clear hat hfr)
  | (go_at_call 61; refine (HIX.out w2 X2 _ _ HF2.out (HX2.out.fr_nil HF2.out) HAT.out).mono ?_; rintro e w3 ⟨rfl, hf3⟩; have HF3 := Lib.hid (HF2.out.trans hf3); clear hf3))
 clear HIX HX2 HAT HF2
 cases hix : idx2 (bs.drop f) with
 | some i =>
  obtain ⟨a1, a2, a3, -⟩ := idx2_some hix
  rw [HDL.out] at a1
  have e1 : Lib.index (bs.drop f) [10, 10] = (i : Int) := index2_some hix
  rw [e1]
  obtain ⟨t, ht⟩ : ∃ t, t = f + i := ⟨_, rfl⟩
  have htI : IntKind.i64.wrap ((f : Int) + (i : Int)) = (t : Int) := by rw [IntKind.wrap_i64]; omega
  obtain ⟨x, hx⟩ : ∃ x, x = t + nlM (bs.drop t) := ⟨_, rfl⟩
  have hxn : x ≤ n := by
   have := nlM_le (bs.drop t)
   rw [List.length_drop, HN.out] at this
   omega
  have HNL := Lib.hid (newlines_any (c := c) HN.out (HB.out.fr_nil HF3.out) (by omega) t (by omega) x hx)
  have hi0I : (0 : Int) ≤ (i : Int) := by omega
  have HR : Hid (firstG .para bs en = if x < n ∨ en = true then some (f, t, x) else none) := Lib.hid (by
   rw [first_para, ← HF.out, hix]
   dsimp only
   rw [← ht, ← hx, HN.out])
  clear hix e1 a1 a2 a3 ht hx
  go_upto_region 6 with (go_at_call 42; refine HNL.out.mono ?_; rintro e w4 ⟨rfl, rfl⟩)
  clear HNL
  by_cases hxl : x < n
  ·have hxI : decide (x < n) = true := decide_eq_true hxl
   have HRR : Hid (firstG .para bs en = some (f, t, x)) := Lib.hid (by rw [HR.out, if_pos (.inl hxl)])
   clear HR hxl
   go_wp2_with fail
   (try simp only [Exit.inBlock, Exit.then])
   refine bodyPost_ret (K.results_tmp4 rfl _ _ _) rfl ?_
   rw [HP.out, HRR.out]
   exact ⟨rfl, HF3.out⟩
  ·have hxI : decide (x < n) = false := decide_eq_false hxl
   cases en with
   | true =>
    have HRR : Hid (firstG .para bs true = some (f, t, x)) := Lib.hid (by rw [HR.out, if_pos (.inr rfl)])
    clear HR hxl
    go_wp2_with fail
    (try simp only [Exit.inBlock, Exit.then])
    refine bodyPost_ret (K.results_tmp4 rfl _ _ _) rfl ?_
    rw [HP.out, HRR.out]
    exact ⟨rfl, HF3.out⟩
   | false =>
    have HRR : Hid (firstG .para bs false = none) := Lib.hid (by rw [HR.out, if_neg (by rintro (e | e); exact hxl e; cases e)])
    clear HR hxl
    go_wp2_with fail
    (try simp only [Exit.inBlock, Exit.then])
    refine bodyPost_ret (K.results_tmp4 rfl _ _ _) rfl ?_
    rw [HP.out, HRR.out]
    exact ⟨rfl, HF3.out⟩
 | none =>
  have e1 : Lib.index (bs.drop f) [10, 10] = -1 := index2_none hix
  rw [e1]
  have HR : Hid (firstG .para bs en = if en = false ∨ f = n then none else some (f, n - trM bs, n)) := Lib.hid (by
   rw [first_para, ← HF.out, hix]
   dsimp only
   rw [HN.out])
  clear hix e1
  cases en with
  | false =>
   have HRR : Hid (firstG .para bs false = none) := Lib.hid (by rw [HR.out, if_pos (.inl rfl)])
   go_wp2_with fail
   (try simp only [Exit.inBlock, Exit.then])
   refine bodyPost_ret (K.results_tmp4 rfl _ _ _) rfl ?_
   rw [HP.out, HRR.out]
   exact ⟨rfl, HF3.out⟩
  | true =>
   by_cases hfe : f = n
   ·have HRR : Hid (firstG .para bs true = none) := Lib.hid (by rw [HR.out, if_pos (.inr hfe)])
    have hfI : ((f : Int) == (n : Int)) = true := by simp [hfe]
    have HFE := Lib.hid hfe
    clear hfe
    go_wp2_with fail
    (try simp only [Exit.inBlock, Exit.then])
    refine bodyPost_ret (K.results_tmp4 rfl _ _ _) rfl ?_
    rw [HP.out, HRR.out]
    exact ⟨rfl, HF3.out⟩
   ·have HRR : Hid (firstG .para bs true = some (f, n - trM bs, n)) := Lib.hid (by rw [HR.out, if_neg (by rintro (e | e); cases e; exact hfe e)])
    have hfI : ((f : Int) == (n : Int)) = false := by rw [beq_eq_false_iff_ne]; omega
    have hfl : f < n := by omega
    have HT : Hid (∃ y, bs[f]? = some y ∧ y ≠ 10) := Lib.hid (by
     refine ⟨bs[f]'(by rw [HN.out]; exact hfl), List.getElem?_eq_getElem _, fun e => ?_⟩
     have h0 := nlM_drop bs
     rw [← HF.out, drop_cons (k := f) (List.getElem?_eq_getElem (by rw [HN.out]; exact hfl)), nlM_cons, if_pos e] at h0
     omega)
    clear hfe HR
    go_upto_region 12 with fail
    go_loop [5] (fun v5 => ∃ m : Nat, v5 = .int .i64 (m : Int) ∧ f < m ∧ m ≤ n ∧ trM bs = n - m + trM (bs.take m)) (fun v5 => (intOf v5).toNat)
    case atStart => exact ⟨n, rfl, hfl, Nat.le_refl _, by rw [List.take_of_length_le (by rw [HN.out]; exact Nat.le_refl _)]; omega⟩
    case round =>
     obtain ⟨m, rfl, hfm, hmn, htr⟩ := hrel
     obtain ⟨j, hj⟩ : ∃ j, m = j + 1 := ⟨m - 1, by omega⟩
     have hjI : IntKind.i64.wrap ((m : Int) - 1) = (j : Int) := by rw [IntKind.wrap_i64]; omega
     have hjn : (j : Int) < (n : Int) := by omega
     obtain ⟨y, hy⟩ : ∃ y, bs[j]? = some y := ⟨_, List.getElem?_eq_getElem (by rw [HN.out]; omega)⟩
     obtain ⟨ad, rfl, e0⟩ := bytes_at (HB.out.fr_nil HF3.out) hy
     rw [hj, take_snoc hy, trM_snoc] at htr
     obtain ⟨z, hz⟩ : ∃ z : Nat, z = y.toNat := ⟨_, rfl⟩
     rw [← hz] at e0
     have HJ := Lib.hid hj
     by_cases h10 : y = 10
     ·have hzI : ((z : Int) == 10) = true := by rw [hz, h10]; rfl
      rw [if_pos h10] at htr
      have hfj : f ≠ j := by
       rintro rfl
       obtain ⟨y', h1, h2⟩ := HT.out
       rw [hy] at h1; injection h1 with h1
       exact h2 (h1 ▸ h10)
      have HTR : Hid (trM bs = n - j + trM (bs.take j)) := Lib.hid (by omega)
      clear hy hz h10 htr hj
      go_wp2_with fail
      go_round
      case rel => exact ⟨j, rfl, by have := HJ.out; omega, by have := HJ.out; omega, HTR.out⟩
      case measure => have := HJ.out; show (j : Int).toNat < (m : Int).toNat; omega
     ·have hzI : ((z : Int) == 10) = false := by
       rw [beq_eq_false_iff_ne]
       intro e
       exact h10 (UInt8.toNat.inj (by show y.toNat = 10; omega))
      rw [if_neg h10] at htr
      have HTR : Hid (n - trM bs = m) := Lib.hid (by omega)
      clear hy hz h10 htr hj
      go_wp2_with fail
      (try simp only [Exit.inBlock, Exit.then])
      refine bodyPost_ret (K.results_tmp4 rfl _ _ _) rfl ?_
      rw [HP.out, HRR.out, HTR.out]
      exact ⟨rfl, HF3.out⟩
end Go.Proofs.YtfbmogccmlikaaaGreatDoor.G
