/-
 Ma1, MbP, Ma3: several small texts in one. No conditions.
-/
import Derived.Test.YtfbmogccmlikaaaGreatDoorGh
import Derived.Test.YtfbmogccmlikaaaGreatDoorGj
import Derived.Test.YtfbmogccmlikaaaGreatDoorGg
import Derived.Test.YtfbmogccmlikaaaGreatDoorGi
namespace Go.Proofs.YtfbmogccmlikaaaGreatDoor
open Go.RowKit Go.ChangeMaps
set_option linter.unusedVariables false
set_option linter.unusedSimpArgs false
mutual
def toP : RT → PT | .mk k s mn mx l => .mk k (s.a : Int) (s.b : Int) (s.c : Int) (s.d : Int) mn mx none 0 (toL l)
def toL : List RT → List PT | [] => [] | t :: r => toP t :: toL r
end
theorem toL_len : ∀ l : List RT, (toL l).length = l.length
 | [] => by rw [toL]; rfl
 | t :: r => by rw [toL, List.length_cons, toL_len r, List.length_cons]
mutual
theorem toP_rep : ∀ t : RT, RepP t (toP t)
 | .mk k s mn mx l => by rw [RepP, toP]; exact ⟨rfl, rfl, rfl, rfl, rfl, rfl, rfl, toL_rep l⟩
theorem toL_rep : ∀ l : List RT, RepL l (toL l)
 | [] => by rw [RepL_nil, toL]
 | t :: r => by rw [toL, RepL_cons]; exact ⟨toP_rep t, toL_rep r⟩
end
mutual
theorem RepP.siz : ∀ (t : RT) (p : PT), RepP t p → sizP p = sizP (toP t)
 | .mk k s mn mx l, p, h => by
  rw [RepP] at h
  obtain ⟨h1, -, -, -, -, h6, h7, h8⟩ := h
  rw [sizP_eq, h1, h6, h7, toP, sizP, RepL.siz l p.l h8, ← h8.len, toL_len]
theorem RepL.siz : ∀ (ts : List RT) (ps : List PT), RepL ts ps → sizL ps = sizL (toL ts)
 | [], ps, h => by rw [RepL_nil] at h; subst h; rw [toL]
 | t :: r, [], h => by rw [RepL] at h; exact h.elim
 | t :: r, p :: ps, h => by rw [RepL_cons] at h; rw [toL, sizL, sizL, RepP.siz t p h.1, RepL.siz r ps h.2]
end
mutual
theorem RepP.lay : ∀ (t : RT) (p : PT) (a : Nat), RepP t p → layP p a = layP (toP t) a
 | .mk k s mn mx l, .mk k' s0 s1 s2 s3 mn' mx' A c ps, a, h => by
  rw [RepP] at h
  obtain ⟨h1, h2, h3, h4, h5, h6, h7, h8⟩ := h
  have h1' : k' = k := h1; have h2' : s0 = (s.a : Int) := h2; have h3' : s1 = (s.b : Int) := h3; have h4' : s2 = (s.c : Int) := h4; have h5' : s3 = (s.d : Int) := h5; have h6' : mn' = mn := h6; have h7' : mx' = mx := h7
  have h8' : RepL l ps := h8
  subst h1' h2' h3' h4' h5' h6' h7'
  have e1 : layL ps = layL (toL l) := funext fun a => RepL.lay l ps a h8'
  have e2 : ∀ a all, layO ps a all = layO (toL l) a all := fun a all => RepL.layO_ l ps a all h8'
  rw [toP, layP, layP, e1, e2, RepL.siz l ps h8', ← h8'.len, toL_len]
theorem RepL.lay : ∀ (ts : List RT) (ps : List PT) (a : Nat), RepL ts ps → layL ps a = layL (toL ts) a
 | [], ps, a, h => by rw [RepL_nil] at h; subst h; rw [toL]
 | t :: r, [], a, h => by rw [RepL] at h; exact h.elim
 | t :: r, p :: ps, a, h => by rw [RepL_cons] at h; rw [toL, layL, layL, RepP.lay t p _ h.1, RepL.lay r ps _ h.2, RepP.siz t p h.1]
theorem RepL.layO_ : ∀ (ts : List RT) (ps : List PT) (a all : Nat), RepL ts ps → layO ps a all = layO (toL ts) a all
 | [], ps, a, all, h => by rw [RepL_nil] at h; subst h; rw [toL]
 | t :: r, [], a, all, h => by rw [RepL] at h; exact h.elim
 | t :: r, p :: ps, a, all, h => by
  rw [RepL_cons] at h
  have e : ps.isEmpty = (toL r).isEmpty := by
   have h1 := h.2.len
   have h2 := toL_len r
   cases ps <;> cases hr : toL r <;> simp_all
  rw [toL, layO, layO, e, RepP.lay t p _ h.1, RepP.lay t p _ h.1, RepL.layO_ r ps _ _ h.2, RepP.siz t p h.1]
end
def progT (t : RT) : List Sp := layP (toP t) 0 ++ [Sp.found]
theorem progT_len {t : RT} (h : rightT t = true) : (progT t).length = sizP (toP t) + 1 := by
 rw [progT, List.length_append, layP_len _ _ (by rw [RepP.right t _ (toP_rep t)]; exact h)]; rfl
end Go.Proofs.YtfbmogccmlikaaaGreatDoor
namespace Go.Proofs.YtfbmogccmlikaaaGreatDoor
set_option linter.unusedVariables false
set_option linter.unusedSimpArgs false
inductive WkN (L : List Sp) (tx : List UInt8) (opn : Bool) : Nat → Nat → Nat → Nat → Nat → Prop
 | refl (k a : Nat) : WkN L tx opn 0 k a k a
 | eps {n i j k a b : Nat} : i ∈ metT (spAt L k) tx.length opn a → WkN L tx opn n i a j b → WkN L tx opn (n + 1) k a j b
 | byte {n j k a b : Nat} : (spAt L k).k = 0 → a < tx.length → (spAt L k).set4.mem (tx.getD a 0).toNat = true → WkN L tx opn n (spAt L k).x.toNat (a + 1) j b → WkN L tx opn (n + 1) k a j b
section
variable {L : List Sp} {tx : List UInt8} {opn : Bool}
theorem WkN.wk {n k a j b : Nat} (h : WkN L tx opn n k a j b) : Wk L tx opn k a j b := by
 induction h with
 | refl => exact .refl
 | eps h _ ih => exact Wk.trans (.eps .refl h) ih
 | byte h1 h2 h3 _ ih => exact Wk.trans (.byte .refl h1 h2 h3) ih
structure Seg (L : List Sp) (tx : List UInt8) (opn : Bool) (lo hi E : Nat) (R : Nat → Nat → Prop) : Prop where
 to : ∀ a c, R a c → Wk L tx opn lo a E c
 out : ∀ n a j b, a ≤ tx.length → WkN L tx opn n lo a j b → (j < lo ∨ hi ≤ j) → ∃ c m, m ≤ n ∧ R a c ∧ WkN L tx opn m E c j b
theorem Seg.nil (at_ : Nat) : Seg L tx opn at_ at_ at_ (fun a c => a = c) :=
 ⟨fun a c h => by subst h; exact .refl, fun n a j b _ h _ => ⟨a, n, Nat.le_refl _, rfl, h⟩⟩
theorem Seg.one {lo : Nat} (hk : (spAt L lo).k = 0) (hx : (spAt L lo).x.toNat = lo + 1) : Seg L tx opn lo (lo + 1) (lo + 1) (fun a c => a < tx.length ∧ c = a + 1 ∧ (spAt L lo).set4.mem (tx.getD a 0).toNat = true) := by
 refine ⟨fun a c ⟨h1, h2, h3⟩ => ?_, fun n a j b hal hw hj => ?_⟩
 ·subst h2
  have := Wk.byte (L := L) (tx := tx) (opn := opn) (.refl (k := lo) (a := a)) hk h1 h3
  rwa [hx] at this
 ·cases hw with
  | refl => omega
  | eps h _ => simp [metT, hk] at h
  | byte h1 h2 h3 h4 => rw [hx] at h4; exact ⟨_, _, Nat.le_succ _, ⟨h2, rfl, h3⟩, h4⟩
theorem metT_fork {k : Nat} {x y n a : Nat} (h : spAt L k = Sp.fork x y) : metT (spAt L k) n opn a = [x, y] := by rw [h]; simp [metT, Sp.fork]
def iterR (R : Nat → Nat → Prop) : Nat → Nat → Nat → Prop
 | 0, a, c => a = c
 | k + 1, a, c => ∃ b, R a b ∧ iterR R k b c
theorem Seg.fork {lo hi E : Nat} {R : Nat → Nat → Prop} (hf : spAt L lo = Sp.fork (lo + 1) E) (h : Seg L tx opn (lo + 1) hi E R) (hh : lo + 1 ≤ hi) : Seg L tx opn lo hi E (fun a c => a = c ∨ R a c) := by
 refine ⟨fun a c hac => ?_, fun n a j b hal hw hj => ?_⟩
 ·rcases hac with rfl | hac
  ·exact .eps .refl (by rw [metT_fork hf]; simp)
  ·exact Wk.trans (.eps .refl (by rw [metT_fork hf]; simp)) (h.to a c hac)
 ·cases hw with
  | refl => omega
  | eps h1 h2 =>
   rw [metT_fork hf] at h1
   simp at h1
   rcases h1 with rfl | rfl
   ·obtain ⟨c, m, e1, e2, e3⟩ := h.out _ a j b hal h2 (by omega)
    exact ⟨c, m, by omega, .inr e2, e3⟩
   ·exact ⟨a, _, Nat.le_succ _, .inl rfl, h2⟩
  | byte h1 _ _ _ => rw [hf] at h1; simp [Sp.fork] at h1
end
mutual
def semP (tx : List UInt8) : PT → Nat → Nat → Prop
 | .mk k s0 s1 s2 s3 mn mx _ _ l =>
  if k = 1 then fun a c => a < tx.length ∧ c = a + 1 ∧ (S4.mk s0.toNat s1.toNat s2.toNat s3.toNat).mem (tx.getD a 0).toNat = true
  else if k = 5 then fun a c => a = c ∧ a = 0
  else if k = 6 then fun a c => a = c ∧ a = tx.length
  else if k = 2 then semL tx l
  else if k = 3 then semO tx l
  else if k = 4 then fun a c => ∃ n : Nat, mn.toNat ≤ n ∧ (mx < 0 ∨ n ≤ mx.toNat) ∧ iterR (semL tx l) n a c
  else fun a c => a = c
def semL (tx : List UInt8) : List PT → Nat → Nat → Prop
 | [] => fun a c => a = c
 | t :: r => fun a c => ∃ b, semP tx t a b ∧ semL tx r b c
def semO (tx : List UInt8) : List PT → Nat → Nat → Prop
 | [] => fun _ _ => False
 | t :: r => fun a c => semP tx t a c ∨ semO tx r a c
end
def Lies (L : List Sp) (at_ : Nat) (M : List Sp) : Prop := ∀ i x, M[i]? = some x → spAt L (at_ + i) = x
theorem Lies.left {L M N : List Sp} {a : Nat} (h : Lies L a (M ++ N)) : Lies L a M := fun i x hx => h i x (by rw [List.getElem?_append_left (List.getElem?_eq_some_iff.1 hx).1]; exact hx)
theorem Lies.right {L M N : List Sp} {a n : Nat} (h : Lies L a (M ++ N)) (hn : M.length = n) : Lies L (a + n) N := fun i x hx => by
 have := h (n + i) x (by rw [List.getElem?_append_right (by omega), hn, Nat.add_sub_cancel_left]; exact hx)
 rwa [← Nat.add_assoc] at this
theorem Lies.head {L N : List Sp} {x : Sp} {a : Nat} (h : Lies L a (x :: N)) : spAt L a = x := h 0 x rfl
section
variable {L : List Sp} {tx : List UInt8}
end
def okS (s : Sp) : Prop := 0 ≤ s.s0 ∧ 0 ≤ s.s1 ∧ 0 ≤ s.s2 ∧ 0 ≤ s.s3 ∧ s.set4.ok
def okL (E : Nat) (s : Sp) : Prop := (0 ≤ s.k ∧ s.k ≤ 3) ∧ (0 ≤ s.x ∧ s.x ≤ E) ∧ (0 ≤ s.y ∧ s.y ≤ E) ∧ okS s
theorem okL.le {E E' : Nat} {s : Sp} (h : okL E s) (hE : E ≤ E') : okL E' s := ⟨h.1, ⟨h.2.1.1, by have := h.2.1.2; omega⟩, ⟨h.2.2.1.1, by have := h.2.2.1.2; omega⟩, h.2.2.2⟩
mutual
def setsP : PT → Prop | .mk k s0 s1 s2 s3 _ _ _ _ l => okS ⟨0, s0, s1, s2, s3, 0, 0⟩ ∧ setsL l
def setsL : List PT → Prop | [] => True | t :: r => setsP t ∧ setsL r
end
theorem okS0 (k x y : Int) : okS ⟨k, 0, 0, 0, 0, x, y⟩ := by simp [okS, Sp.set4, S4.ok]
theorem okL_fork {x y E : Nat} (hx : x ≤ E) (hy : y ≤ E) : okL E (Sp.fork x y) := ⟨by simp [Sp.fork], by simp [Sp.fork]; omega, by simp [Sp.fork]; omega, okS0 _ _ _⟩
theorem okL_times {f : Nat → List Sp} {n : Nat} (hf : ∀ a, ∀ s ∈ f a, okL (a + n) s) : ∀ (k at_ : Nat), ∀ s ∈ timesP f n k at_, okL (at_ + k * n) s
 | 0, at_, s, h => by simp [timesP] at h
 | k + 1, at_, s, h => by
  rw [timesP] at h
  have e : (k + 1) * n = k * n + n := Nat.succ_mul _ _
  rcases List.mem_append.1 h with h | h
  ·exact (hf _ s h).le (by omega)
  ·exact (okL_times hf k _ s h).le (by omega)
theorem okL_maybe {f : Nat → List Sp} {n all : Nat} (hf : ∀ a, ∀ s ∈ f a, okL (a + n) s) : ∀ (k at_ : Nat), at_ + k * (n + 1) ≤ all → ∀ s ∈ maybeP f n all k at_, okL all s
 | 0, at_, hall, s, h => by simp [maybeP] at h
 | k + 1, at_, hall, s, h => by
  rw [maybeP] at h
  have e : (k + 1) * (n + 1) = k * (n + 1) + (n + 1) := Nat.succ_mul _ _
  rcases List.mem_cons.1 h with rfl | h
  ·exact okL_fork (by omega) (Nat.le_refl _)
  ·rcases List.mem_append.1 h with h | h
   ·exact (hf _ s h).le (by omega)
   ·exact okL_maybe hf k _ (by omega) s h
mutual
theorem okL_P : ∀ (t : PT) (at_ : Nat), rightP t = true → setsP t → ∀ s ∈ layP t at_, okL (at_ + sizP t) s
 | .mk k s0 s1 s2 s3 mn mx A c l, at_, hr, hs, s, h => by
  have hl : ∀ a, rightL l = true → ∀ s ∈ layL l a, okL (a + sizL l) s := fun a hr => okL_L l a hr (by rw [setsP] at hs; exact hs.2)
  have ho : ∀ a all, rightL l = true → a + (sizL l + 2 * (l.length - 1)) ≤ all → ∀ s ∈ layO l a all, okL all s := fun a all hr ha => okL_O l a all hr (by rw [setsP] at hs; exact hs.2) ha
  rw [rightP_eq] at hr
  simp only [PT.k, PT.mn, PT.mx, PT.l, Bool.and_eq_true] at hr
  rw [setsP] at hs
  obtain ⟨hk, hi⟩ := hr
  simp only [layP] at h
  simp only [sizP]
  by_cases h1 : k = 1
  ·subst h1
   simp at h ⊢
   subst h
   exact ⟨by simp, by simp; omega, by simp; omega, hs.1⟩
  by_cases h5 : k = 5
  ·subst h5
   simp at h ⊢
   subst h
   exact ⟨by simp, by simp; omega, by simp; omega, okS0 _ _ _⟩
  by_cases h6 : k = 6
  ·subst h6
   simp at h ⊢
   subst h
   exact ⟨by simp, by simp; omega, by simp; omega, okS0 _ _ _⟩
  by_cases h2 : k = 2
  ·subst h2
   simp [inner] at hi
   simp at h ⊢
   exact hl _ hi s h
  by_cases h3 : k = 3
  ·subst h3
   simp [inner] at hi
   simp at h ⊢
   exact ho _ _ hi (Nat.le_refl _) s h
  by_cases h4 : k = 4
  ·subst h4
   simp [inner] at hi
   simp [rightK] at hk
   simp only [if_true, if_false, reduceCtorEq, Int.reduceEq] at h
   simp only [if_true, if_false, reduceCtorEq, Int.reduceEq, or_self]
   have ht := okL_times (fun a => hl a hi) mn.toNat at_
   by_cases hm : mx < 0
   ·simp only [hm, if_true] at h ⊢
    have e : (mn.toNat + 1) * sizL l = mn.toNat * sizL l + sizL l := Nat.succ_mul _ _
    rcases List.mem_append.1 h with h | h
    ·exact (ht s h).le (by omega)
    ·rcases List.mem_cons.1 h with rfl | h
     ·exact okL_fork (by omega) (by omega)
     ·rcases List.mem_append.1 h with h | h
      ·exact (hl _ hi s h).le (by omega)
      ·simp at h; subst h; exact okL_fork (by omega) (by omega)
   ·simp only [hm, if_false] at h ⊢
    have e := rep_arith mn.toNat mx.toNat (sizL l) (by omega)
    rcases List.mem_append.1 h with h | h
    ·exact (ht s h).le (by omega)
    ·exact okL_maybe (fun a => hl a hi) _ _ (by omega) s h
  ·simp [h1, h2, h3, h4, h5, h6] at h
theorem okL_L : ∀ (l : List PT) (at_ : Nat), rightL l = true → setsL l → ∀ s ∈ layL l at_, okL (at_ + sizL l) s
 | [], at_, hr, hs, s, h => by simp [layL] at h
 | t :: r, at_, hr, hs, s, h => by
  simp only [rightL, Bool.and_eq_true] at hr
  rw [setsL] at hs
  rw [layL] at h
  simp only [sizL]
  rcases List.mem_append.1 h with h | h
  ·exact (okL_P t at_ hr.1 hs.1 s h).le (by omega)
  ·exact (okL_L r _ hr.2 hs.2 s h).le (by omega)
theorem okL_O : ∀ (l : List PT) (at_ all : Nat), rightL l = true → setsL l → at_ + (sizL l + 2 * (l.length - 1)) ≤ all → ∀ s ∈ layO l at_ all, okL all s
 | [], at_, all, hr, hs, ha, s, h => by simp [layO] at h
 | t :: r, at_, all, hr, hs, ha, s, h => by
  simp only [rightL, Bool.and_eq_true] at hr
  rw [setsL] at hs
  rw [layO] at h
  simp only [sizL, List.length_cons] at ha
  cases r with
  | nil =>
   simp at h
   exact (okL_P t at_ hr.1 hs.1 s h).le (by omega)
  | cons u v =>
   simp only [List.isEmpty_cons, Bool.false_eq_true, if_false, List.length_cons] at h ha
   rcases List.mem_cons.1 h with rfl | h
   ·exact okL_fork (by omega) (by omega)
   ·rcases List.mem_append.1 h with h | h
    ·exact (okL_P t _ hr.1 hs.1 s h).le (by omega)
    ·rcases List.mem_cons.1 h with rfl | h
     ·exact okL_fork (by omega) (by omega)
     ·exact okL_O (u :: v) _ all hr.2 hs.2 (by simp only [List.length_cons]; omega) s h
end
def progP (t : PT) : List Sp := layP t 0 ++ [Sp.found]
theorem progP_len {t : PT} (h : rightP t = true) : (progP t).length = sizP t + 1 := by rw [progP, List.length_append, layP_len _ _ h]; rfl
theorem progP_ok {t : PT} (h : rightP t = true) (hs : setsP t) : ProgOk (progP t) := by
 intro s hm
 rw [progP_len h]
 rcases List.mem_append.1 hm with hm | hm
 ·obtain ⟨h1, h2, h3, h4⟩ := okL_P t 0 h hs s hm
  exact ⟨by omega, by omega, by omega, ⟨h4.1, h4.2.1, h4.2.2.1, h4.2.2.2.1⟩, h4.2.2.2.2⟩
 ·simp at hm; subst hm
  refine ⟨by decide, ?_, ?_, by decide, ?_⟩
  ·show (0 : Int) ≤ 0 ∧ (0 : Int) < _
   omega
  ·show (0 : Int) ≤ 0 ∧ (0 : Int) < _
   omega
  ·simp [Sp.found, Sp.set4, S4.ok]
end Go.Proofs.YtfbmogccmlikaaaGreatDoor
namespace Go.Proofs.YtfbmogccmlikaaaGreatDoor
open Go.RowKit
set_option linter.unusedVariables false
set_option linter.unusedSimpArgs false
mutual
def sokT : RT → Prop | .mk _ s _ _ l => s.ok ∧ sokTL l
def sokTL : List RT → Prop | [] => True | t :: r => sokT t ∧ sokTL r
end
theorem sokTL_append : ∀ (a b : List RT), sokTL a → sokTL b → sokTL (a ++ b)
 | [], b, _, h => h
 | t :: r, b, h, k => by rw [sokTL] at h; rw [List.cons_append, sokTL]; exact ⟨h.1, sokTL_append r b h.2 k⟩
theorem sokTL_one {t : RT} (h : sokT t) : sokTL [t] := by rw [sokTL, sokTL]; exact ⟨h, trivial⟩
theorem sok_leaf {k : Int} {s : S4} (h : s.ok) : sokT (.mk k s 0 0 []) := by rw [sokT, sokTL]; exact ⟨h, trivial⟩
theorem sok_row {l : List RT} (h : sokTL l) : sokT (rowT l) := by
 match l, h with
 | [], h => exact sok_leaf S4.empty_ok
 | [t], h => rw [sokTL] at h; exact h.1
 | a :: b :: r, h => show sokT (.mk 2 S4.empty 0 0 (a :: b :: r)); rw [sokT]; exact ⟨S4.empty_ok, h⟩
theorem sok_join {l : List RT} (h : sokTL l) : sokT (joinT l) := by
 match l, h with
 | [], h => show sokT (.mk 3 S4.empty 0 0 []); rw [sokT]; exact ⟨S4.empty_ok, h⟩
 | [t], h => rw [sokTL] at h; exact h.1
 | a :: b :: r, h => show sokT (.mk 3 S4.empty 0 0 (a :: b :: r)); rw [sokT]; exact ⟨S4.empty_ok, h⟩
theorem signs_sok {bs : List UInt8} : ∀ (k : Nat) (t : RT) (i : Nat) (t' : RT) (j : Nat), sokT t → signsL bs k t i = .ok (t', j) → sokT t'
 | 0, t, i, t', j, ht, h => by
  rw [signsL] at h
  split at h
  ·injection h with h; injection h with h1 h2; subst h1; exact ht
  ·split at h <;> cases h
 | k + 1, t, i, t', j, ht, h => by
  rw [signsL] at h
  split at h
  ·injection h with h; injection h with h1 h2; subst h1; exact ht
  ·split at h
   ·cases h
   ·refine signs_sok k _ _ _ _ ?_ h
    unfold tTimes
    rw [sokT]
    exact ⟨S4.empty_ok, sokTL_one ht⟩
theorem plain_sok {bs : List UInt8} {i j : Nat} {t : RT} (hi : i < bs.length) (h : plainS bs i = .ok (t, j)) : sokT t := by
 unfold plainS at h
 split at h
 ·cases h
 ·split at h
  ·cases hb : bracketS bs i with
   | error p => rw [hb] at h; cases h
   | ok p =>
    obtain ⟨S, n⟩ := p
    have hS := (bracketS_le hi hb).2.2
    rw [hb] at h
    simp only [setR] at h
    injection h with h; injection h with h1 h2; rw [← h1]; exact sok_leaf hS
  ·(repeat' split at h) <;> first | (injection h with h; injection h with h1 h2; rw [← h1]; first | exact sok_leaf (S4.range_ok _ _) | exact sok_leaf S4.empty_ok) | cases h
theorem read_sok (bs : List UInt8) : ∀ f : Nat,
    (∀ d i acc t j, i ≤ bs.length → sokTL acc → exprF bs f d i acc = .ok (t, j) → sokT t) ∧
    (∀ d i acc t j, i ≤ bs.length → sokTL acc → branchF bs f d i acc = .ok (t, j) → sokT t) ∧
    (∀ d i t j, i < bs.length → pieceF bs f d i = .ok (t, j) → sokT t) ∧
    (∀ d i t j, i < bs.length → atomF bs f d i = .ok (t, j) → sokT t)
 | 0 => ⟨fun _ _ _ _ _ _ _ h => (by rw [exprF] at h; cases h), fun _ _ _ _ _ _ _ h => (by rw [branchF] at h; cases h), fun _ _ _ _ _ h => (by rw [pieceF] at h; cases h), fun _ _ _ _ _ h => (by rw [atomF] at h; cases h)⟩
 | f + 1 => by
  obtain ⟨hE, hB, hP, hA⟩ := read_sok bs f
  obtain ⟨-, lB, lP, lA⟩ := readF_le bs f
  refine ⟨fun d i acc t j hi hr h => ?_, fun d i acc t j hi hr h => ?_, fun d i t j hi h => ?_, fun d i t j hi h => ?_⟩
  ·rw [exprF] at h
   cases hb : branchF bs f d i [] with
   | error p => rw [hb] at h; cases h
   | ok p =>
    obtain ⟨t1, j1⟩ := p
    rw [hb] at h
    simp only at h
    have h1 := lB d i [] t1 j1 hi hb
    have g1 := hB d i [] t1 j1 hi (by rw [sokTL]; trivial) hb
    by_cases h124 : bn bs j1 = 124
    ·rw [if_pos h124] at h
     have := bn_pos h124 (by omega)
     exact hE d (j1 + 1) _ t j (by omega) (sokTL_append _ _ hr (sokTL_one g1)) h
    ·rw [if_neg h124] at h
     injection h with h; injection h with h2 h3
     subst h2
     exact sok_join (sokTL_append _ _ hr (sokTL_one g1))
  ·rw [branchF] at h
   by_cases hg : goesOn bs i
   ·rw [if_pos hg] at h
    cases hb : pieceF bs f d i with
    | error p => rw [hb] at h; cases h
    | ok p =>
     obtain ⟨t1, j1⟩ := p
     rw [hb] at h
     have h1 := lP d i t1 j1 hg.1 hb
     exact hB d j1 _ t j h1.2 (sokTL_append _ _ hr (sokTL_one (hP d i t1 j1 hg.1 hb))) h
   ·rw [if_neg hg] at h
    injection h with h; injection h with h2 h3
    subst h2
    exact sok_row hr
  ·rw [pieceF] at h
   cases hb : atomF bs f d i with
   | error p => rw [hb] at h; cases h
   | ok p =>
    obtain ⟨t1, j1⟩ := p
    rw [hb] at h
    exact signs_sok 8 t1 j1 t j (hA d i t1 j1 hi hb) h
  ·rw [atomF] at h
   split at h
   ·split at h
    ·cases h
    ·cases hb : exprF bs f (d + 1) (i + 1) [] with
     | error p => rw [hb] at h; cases h
     | ok p =>
      obtain ⟨t1, j1⟩ := p
      rw [hb] at h
      simp only [closeT] at h
      split at h
      ·injection h with h; injection h with h2 h3
       subst h2
       exact hE (d + 1) (i + 1) [] t1 j1 (by omega) (by rw [sokTL]; trivial) hb
      ·cases h
   ·exact plain_sok hi h
theorem parse_sok {bs : List UInt8} {t : RT} (h : parseS bs = .ok t) : sokT t := by
 unfold parseS at h
 by_cases h1 : 1000 < bs.length
 ·rw [if_pos h1] at h; cases h
 ·rw [if_neg h1] at h
  cases hb : exprF bs (6 * bs.length + 5) 0 0 [] with
  | error q => rw [hb] at h; cases h
  | ok q =>
   obtain ⟨t1, j⟩ := q
   rw [hb] at h
   simp only at h
   have g := (read_sok bs _).1 0 0 [] t1 j (Nat.zero_le _) (by rw [sokTL]; trivial) hb
   by_cases h2 : j < bs.length
   ·rw [if_pos h2] at h; cases h
   ·rw [if_neg h2] at h
    injection h with h
    subst h
    exact g
mutual
theorem setsP_toP : ∀ t : RT, sokT t → setsP (toP t)
 | .mk k s mn mx l, h => by
  rw [sokT] at h
  rw [toP, setsP]
  obtain ⟨h1, h2⟩ := h
  refine ⟨⟨by simp, by simp, by simp, by simp, ?_⟩, setsL_toL l h2⟩
  obtain ⟨a, b, c, d⟩ := s
  simpa [Sp.set4, S4.ok] using h1
theorem setsL_toL : ∀ l : List RT, sokTL l → setsL (toL l)
 | [], h => by rw [toL, setsL]; trivial
 | t :: r, h => by rw [sokTL] at h; rw [toL, setsL]; exact ⟨setsP_toP t h.1, setsL_toL r h.2⟩
end
theorem parse_prog {bs : List UInt8} {t : RT} (h : parseS bs = .ok t) : ProgOk (progT t) ∧ 0 < (progT t).length ∧ (progT t).length = sizP (toP t) + 1 ∧ rightP (toP t) = true ∧ setsP (toP t) := by
 have hr := (parse_good h).1
 have hrp : rightP (toP t) = true := by rw [RepP.right t _ (toP_rep t)]; exact hr
 have hs := setsP_toP t (parse_sok h)
 exact ⟨progP_ok hrp hs, by rw [progT_len hr]; omega, progT_len hr, hrp, hs⟩
end Go.Proofs.YtfbmogccmlikaaaGreatDoor
