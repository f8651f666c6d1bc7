/-
 StV, Pt, Pm0: several small texts in one. No conditions.
-/
import Derived.Test.YtfbmogccmlikaaaGreatDoorBase
namespace Go.Proofs.YtfbmogccmlikaaaGreatDoor
set_option linter.unusedVariables false
set_option linter.unusedSimpArgs false
structure Sp where
 k : Int
 s0 : Int
 s1 : Int
 s2 : Int
 s3 : Int
 x : Int
 y : Int
deriving DecidableEq, Inhabited
def Sp.none_ (s : Sp) : Bool := s.s0 == 0 && s.s1 == 0 && s.s2 == 0 && s.s3 == 0
def Sp.cells (s : Sp) : List Value := [.int .i64 s.k, .int .u64 s.s0, .int .u64 s.s1, .int .u64 s.s2, .int .u64 s.s3, .int .i64 s.x, .int .i64 s.y]
def okP (n : Int) (s : Sp) : Bool :=
 if s.k ≠ 0 ∧ s.none_ = false then false
 else if s.k = 4 then (s.x == 0 && s.y == 0)
 else if s.k = 1 then (decide (0 ≤ s.x) && decide (s.x < n) && decide (0 ≤ s.y) && decide (s.y < n))
 else if s.k = 0 ∨ s.k = 2 ∨ s.k = 3 then (decide (0 ≤ s.x) && decide (s.x < n) && s.y == 0)
 else false
def okR (n : Int) (s : Sp) : Bool :=
 if s.k < 0 ∨ s.k > 4 ∨ (s.k ≠ 0 ∧ s.none_ = false) then false
 else if (if s.k = 4 then s.x ≠ 0 else s.x < 0 ∨ s.x ≥ n) then false
 else if (s.k = 1 ∧ (s.y < 0 ∨ s.y ≥ n)) ∨ (s.k ≠ 1 ∧ s.y ≠ 0) then false
 else true
def validF (ok : Sp → Bool) (found : Bool) : List Sp → Bool
 | [] => found
 | s :: r => if ok s = true then validF ok (found || s.k == 4) r else false
end Go.Proofs.YtfbmogccmlikaaaGreatDoor
namespace Go.Proofs.YtfbmogccmlikaaaGreatDoor
set_option linter.unusedVariables false
set_option linter.unusedSimpArgs false
inductive PT where
 | mk (k s0 s1 s2 s3 mn mx : Int) (A : Option Addr) (c : Nat) (l : List PT)
namespace PT
def k : PT → Int | mk k _ _ _ _ _ _ _ _ _ => k
def s0 : PT → Int | mk _ s _ _ _ _ _ _ _ _ => s
def s1 : PT → Int | mk _ _ s _ _ _ _ _ _ _ => s
def s2 : PT → Int | mk _ _ _ s _ _ _ _ _ _ => s
def s3 : PT → Int | mk _ _ _ _ s _ _ _ _ _ => s
def mn : PT → Int | mk _ _ _ _ _ s _ _ _ _ => s
def mx : PT → Int | mk _ _ _ _ _ _ s _ _ _ => s
def A : PT → Option Addr | mk _ _ _ _ _ _ _ a _ _ => a
def c : PT → Nat | mk _ _ _ _ _ _ _ _ a _ => a
def l : PT → List PT | mk _ _ _ _ _ _ _ _ _ a => a
def cells (t : PT) : List Value := [.int .i64 t.k, .int .u64 t.s0, .int .u64 t.s1, .int .u64 t.s2, .int .u64 t.s3, .int .i64 t.mn, .int .i64 t.mx, .slice t.A t.l.length t.c]
end PT
mutual
def cntP : PT → Nat | .mk _ _ _ _ _ _ _ _ _ l => cntL l + 1
def cntL : List PT → Nat | [] => 0 | t :: r => cntP t + cntL r
end
def rightK (k mn mx : Int) (n : Nat) : Bool :=
 if k < 0 ∨ k > 6 then false
 else if k = 3 then decide (0 < n)
 else if k = 4 then decide (n = 1 ∧ 0 ≤ mn ∧ mn ≤ 255 ∧ -1 ≤ mx ∧ mx ≤ 255 ∧ (0 ≤ mx → mn ≤ mx))
 else true
def inner (k : Int) : Bool := k == 2 || k == 3 || k == 4
mutual
def rightP : PT → Bool | .mk k _ _ _ _ mn mx _ _ l => rightK k mn mx l.length && (if inner k then rightL l else true)
def rightL : List PT → Bool | [] => true | t :: r => rightP t && rightL r
end
mutual
def sizP : PT → Nat
 | .mk k _ _ _ _ mn mx _ _ l =>
  if k = 1 ∨ k = 5 ∨ k = 6 then 1
  else if k = 2 then sizL l
  else if k = 3 then sizL l + 2 * (l.length - 1)
  else if k = 4 then (if mx < 0 then (mn.toNat + 1) * sizL l + 2 else mx.toNat * sizL l + (mx.toNat - mn.toNat))
  else 0
def sizL : List PT → Nat | [] => 0 | t :: r => sizP t + sizL r
end
mutual
def depP : PT → Nat | .mk k _ _ _ _ _ _ _ _ l => if inner k then depL l + 1 else 1
def depL : List PT → Nat | [] => 0 | t :: r => max (depP t) (depL r)
end
def Sp.fork (x y : Nat) : Sp := ⟨1, 0, 0, 0, 0, x, y⟩
def timesP (f : Nat → List Sp) (n : Nat) : Nat → Nat → List Sp
 | 0, at_ => []
 | k + 1, at_ => f at_ ++ timesP f n k (at_ + n)
def maybeP (f : Nat → List Sp) (n : Nat) (all : Nat) : Nat → Nat → List Sp
 | 0, at_ => []
 | k + 1, at_ => Sp.fork (at_ + 1) all :: (f (at_ + 1) ++ maybeP f n all k (at_ + 1 + n))
mutual
def layP : PT → Nat → List Sp
 | .mk k s0 s1 s2 s3 mn mx _ _ l, at_ =>
  if k = 1 then [⟨0, s0, s1, s2, s3, (at_ : Int) + 1, 0⟩]
  else if k = 5 then [⟨2, 0, 0, 0, 0, (at_ : Int) + 1, 0⟩]
  else if k = 6 then [⟨3, 0, 0, 0, 0, (at_ : Int) + 1, 0⟩]
  else if k = 2 then layL l at_
  else if k = 3 then layO l at_ (at_ + (sizL l + 2 * (l.length - 1)))
  else if k = 4 then
   timesP (layL l) (sizL l) mn.toNat at_ ++
   (if mx < 0 then
    Sp.fork (at_ + mn.toNat * sizL l + 1) (at_ + (mn.toNat + 1) * sizL l + 2) :: (layL l (at_ + mn.toNat * sizL l + 1) ++ [Sp.fork (at_ + mn.toNat * sizL l) (at_ + mn.toNat * sizL l)])
   else maybeP (layL l) (sizL l) (at_ + (mx.toNat * sizL l + (mx.toNat - mn.toNat))) (mx.toNat - mn.toNat) (at_ + mn.toNat * sizL l))
  else []
def layL : List PT → Nat → List Sp
 | [], _ => []
 | t :: r, at_ => layP t at_ ++ layL r (at_ + sizP t)
def layO : List PT → Nat → Nat → List Sp
 | [], _, _ => []
 | t :: r, at_, all => if r.isEmpty then layP t at_ else Sp.fork (at_ + 1) (at_ + 2 + sizP t) :: (layP t (at_ + 1) ++ Sp.fork all all :: layO r (at_ + 2 + sizP t) all)
end
theorem cntP_eq (t : PT) : cntP t = cntL t.l + 1 := by cases t; rw [cntP]; rfl
theorem rightP_eq (t : PT) : rightP t = (rightK t.k t.mn t.mx t.l.length && (if inner t.k then rightL t.l else true)) := by cases t; rw [rightP]; rfl
theorem depP_eq (t : PT) : depP t = if inner t.k then depL t.l + 1 else 1 := by cases t; rw [depP]; rfl
theorem sizP_eq (t : PT) : sizP t = if t.k = 1 ∨ t.k = 5 ∨ t.k = 6 then 1
    else if t.k = 2 then sizL t.l
    else if t.k = 3 then sizL t.l + 2 * (t.l.length - 1)
    else if t.k = 4 then (if t.mx < 0 then (t.mn.toNat + 1) * sizL t.l + 2 else t.mx.toNat * sizL t.l + (t.mx.toNat - t.mn.toNat))
    else 0 := by cases t; rw [sizP]; rfl
theorem cntL_len : ∀ l : List PT, l.length ≤ cntL l
 | [] => by simp
 | t :: r => by have := cntL_len r; have h := cntP_eq t; simp [cntL]; omega
theorem cntL_mem {l : List PT} {t : PT} (h : t ∈ l) : cntP t ≤ cntL l := by
 induction l with
 | nil => cases h
 | cons a r ih =>
  rcases List.mem_cons.1 h with rfl | h
  ·simp [cntL]
  ·have := ih h; simp [cntL]; omega
theorem inner_iff {k : Int} : inner k = true ↔ k = 2 ∨ k = 3 ∨ k = 4 := by simp [inner]; omega
mutual
theorem depP_le : ∀ t : PT, depP t ≤ cntP t
 | .mk k _ _ _ _ _ _ _ _ l => by
  have := depL_le l
  simp only [depP, cntP]
  split <;> omega
theorem depL_le : ∀ l : List PT, depL l ≤ cntL l
 | [] => by simp [depL]
 | t :: r => by
  have h1 := depP_le t; have h2 := depL_le r
  simp only [depL, cntL]; omega
end
theorem timesP_len (f : Nat → List Sp) (n : Nat) (hf : ∀ a, (f a).length = n) : ∀ k a, (timesP f n k a).length = k * n
 | 0, a => by simp [timesP]
 | k + 1, a => by rw [timesP, List.length_append, timesP_len f n hf k, hf, Nat.succ_mul]; omega
theorem maybeP_len (f : Nat → List Sp) (n all : Nat) (hf : ∀ a, (f a).length = n) : ∀ k a, (maybeP f n all k a).length = k * (n + 1)
 | 0, a => by simp [maybeP]
 | k + 1, a => by rw [maybeP, List.length_cons, List.length_append, maybeP_len f n all hf k, hf, Nat.succ_mul]; omega
theorem rep_arith (a b s : Nat) (h : a ≤ b) : a * s + (b - a) * (s + 1) = b * s + (b - a) := by
 obtain ⟨d, rfl⟩ := Nat.exists_eq_add_of_le h
 have : a + d - a = d := by omega
 rw [this, Nat.add_mul, Nat.mul_add]; omega
mutual
theorem layP_len : ∀ (t : PT) (a : Nat), rightP t = true → (layP t a).length = sizP t
 | .mk k s0 s1 s2 s3 mn mx A c l, a, hr => by
  have hl := layL_len l
  have ho := layO_len l
  rw [rightP_eq] at hr
  simp only [PT.k, PT.mn, PT.mx, PT.l, Bool.and_eq_true] at hr
  obtain ⟨hk, hi⟩ := hr
  simp only [layP, sizP]
  by_cases h1 : k = 1
  ·subst h1; simp
  by_cases h5 : k = 5
  ·subst h5; simp
  by_cases h6 : k = 6
  ·subst h6; simp
  by_cases h2 : k = 2
  ·subst h2
   simp [inner] at hi
   simp [hl a hi]
  by_cases h3 : k = 3
  ·subst h3
   simp [inner] at hi
   simp [rightK] at hk
   simp [ho a _ hi hk]
  by_cases h4 : k = 4
  ·subst h4
   simp [inner] at hi
   simp [rightK] at hk
   have hl' := fun a => hl a hi
   simp only [List.length_append]
   simp
   rw [timesP_len _ _ hl']
   by_cases hm : mx < 0
   ·simp [hm, hl', Nat.add_mul]
    omega
   ·simp only [if_neg hm]
    rw [maybeP_len _ _ _ hl']
    have : mn.toNat ≤ mx.toNat := by omega
    rw [rep_arith _ _ _ this]
  ·simp [h1, h2, h3, h4, h5, h6]
theorem layL_len : ∀ (l : List PT) (a : Nat), rightL l = true → (layL l a).length = sizL l
 | [], a, _ => by simp [layL, sizL]
 | t :: r, a, h => by
  simp only [rightL, Bool.and_eq_true] at h
  simp only [layL, sizL, List.length_append, layP_len t a h.1, layL_len r _ h.2]
theorem layO_len : ∀ (l : List PT) (a all : Nat), rightL l = true → 0 < l.length → (layO l a all).length = sizL l + 2 * (l.length - 1)
 | [], a, all, _, h => by simp at h
 | t :: r, a, all, h, _ => by
  simp only [rightL, Bool.and_eq_true] at h
  have h1 := layP_len t a h.1
  have h1' := layP_len t (a + 1) h.1
  cases r with
  | nil => simp [layO, sizL, h1]
  | cons u v =>
   have h2 := layO_len (u :: v) (a + 2 + sizP t) all h.2 (by simp)
   rw [layO]
   simp only [List.isEmpty_cons, if_false, Bool.false_eq_true, List.length_cons, List.length_append, h1', h2]
   simp only [sizL, List.length_cons]
   omega
end
end Go.Proofs.YtfbmogccmlikaaaGreatDoor
namespace Go.Proofs.YtfbmogccmlikaaaGreatDoor
open Go.RowKit
set_option linter.unusedVariables false
set_option linter.unusedSimpArgs false
def PT.val (t : PT) : Value := .agg #[.int .i64 t.k, .int .u64 t.s0, .int .u64 t.s1, .int .u64 t.s2, .int .u64 t.s3, .int .i64 t.mn, .int .i64 t.mx, .slice t.A t.l.length t.c]
def CellsAt (w : World) (b o : Nat) (cs : List Value) : Prop := ∃ arr, Bk w b 104 arr ∧ ∀ j u, cs[j]? = some u → arr[o + j]? = some u
mutual
def PMem (w : World) : PT → Prop | .mk _ _ _ _ _ _ _ A _ l => LMem w A l 0
def LMem (w : World) (A : Option Addr) : List PT → Nat → Prop
 | [], _ => True
 | t :: r, i => (∃ b off, A = some ⟨b, off, none⟩ ∧ CellsAt w b (off + i * 8) t.cells) ∧ PMem w t ∧ LMem w A r (i + 1)
end
theorem PMem_eq (w : World) (t : PT) : PMem w t = LMem w t.A t.l 0 := by cases t; rw [PMem]; rfl
def KeepT (w w' : World) : Prop := ∀ b cs, Bk w b 104 cs → Bk w' b 104 cs
theorem KeepT.refl (w : World) : KeepT w w := fun _ _ h => h
theorem KeepT.trans {a b c : World} (h : KeepT a b) (k : KeepT b c) : KeepT a c := fun _ _ x => k _ _ (h _ _ x)
theorem KeepT.of_fr {l : List Nat} {w w' : World} (h : Fr l w w') (hl : ∀ b ∈ l, ∀ cs, ¬ Bk w b 104 cs) : KeepT w w' := fun b cs hb => hb.fr h (fun hm => hl b hm cs hb)
theorem KeepT.of_nil {w w' : World} (h : Fr [] w w') : KeepT w w' := KeepT.of_fr h (by simp)
theorem CellsAt.keep {w w' : World} {b o : Nat} {cs : List Value} (h : CellsAt w b o cs) (k : KeepT w w') : CellsAt w' b o cs := by
 obtain ⟨arr, h1, h2⟩ := h
 exact ⟨arr, k _ _ h1, h2⟩
theorem CellsAt.cell {w : World} {b o : Nat} {cs : List Value} (h : CellsAt w b o cs) {j : Nat} {u : Value} (hu : cs[j]? = some u) : w.cell? ⟨b, o + j, none⟩ = some u := by
 obtain ⟨arr, h1, h2⟩ := h
 rw [h1.cell]; exact h2 j u hu
theorem CellsAt.bk {w : World} {b o : Nat} {cs : List Value} (h : CellsAt w b o cs) : ∃ arr, Bk w b 104 arr := by
 obtain ⟨arr, h1, h2⟩ := h
 exact ⟨arr, h1⟩
theorem CellsAt.lt {w : World} {b o : Nat} {cs : List Value} (h : CellsAt w b o cs) : b < w.heap.size := by
 obtain ⟨arr, h1, h2⟩ := h
 exact h1.lt
mutual
theorem PMem.keep {w w' : World} (k : KeepT w w') : ∀ t, PMem w t → PMem w' t
 | .mk _ _ _ _ _ _ _ A _ l, h => by rw [PMem] at h ⊢; exact LMem.keep k A l 0 h
theorem LMem.keep {w w' : World} (k : KeepT w w') (A : Option Addr) : ∀ (l : List PT) (i : Nat), LMem w A l i → LMem w' A l i
 | [], i, h => by rw [LMem]; trivial
 | t :: r, i, h => by
  rw [LMem] at h ⊢
  obtain ⟨⟨b, off, hA, hc⟩, h2, h3⟩ := h
  exact ⟨⟨b, off, hA, hc.keep k⟩, PMem.keep k t h2, LMem.keep k A r (i + 1) h3⟩
end
theorem LMem.get {w : World} {A : Option Addr} : ∀ {l : List PT} {i k : Nat} {t : PT}, LMem w A l i → l[k]? = some t → (∃ b off, A = some ⟨b, off, none⟩ ∧ CellsAt w b (off + (i + k) * 8) t.cells) ∧ PMem w t
 | [], i, k, t, h, ht => by simp at ht
 | u :: r, i, 0, t, h, ht => by
  rw [LMem] at h
  simp at ht
  subst ht
  exact ⟨h.1, h.2.1⟩
 | u :: r, i, k + 1, t, h, ht => by
  rw [LMem] at h
  have := LMem.get h.2.2 (show r[k]? = some t by simpa using ht)
  rw [show i + (k + 1) = i + 1 + k by omega]
  exact this
theorem cells_len (t : PT) : t.cells.length = 8 := rfl
theorem CellsAt.inj {w : World} {b o : Nat} {c c' : List Value} (h : CellsAt w b o c) (h' : CellsAt w b o c') (hl : c.length = c'.length) : c = c' := by
 obtain ⟨arr, h1, h2⟩ := h
 obtain ⟨arr', h1', h2'⟩ := h'
 have e : arr = arr' := by
  unfold Bk at h1 h1'
  rw [h1] at h1'
  injection h1' with h1'
  injection h1' with h1'
 subst e
 apply List.ext_getElem? 
 intro j
 rcases Nat.lt_or_ge j c.length with hj | hj
 ·have a := h2 j _ (List.getElem?_eq_getElem hj)
  have b := h2' j _ (List.getElem?_eq_getElem (by omega))
  rw [a] at b
  rw [List.getElem?_eq_getElem hj, List.getElem?_eq_getElem (by omega)]
  exact b
 ·rw [List.getElem?_eq_none hj, List.getElem?_eq_none (by omega)]
mutual
theorem PMem.inj {w : World} : ∀ (t t' : PT), t.cells = t'.cells → PMem w t → PMem w t' → t = t'
 | .mk k s0 s1 s2 s3 mn mx A c l, t', hc, h, h' => by
  rw [PMem_eq] at h'
  obtain ⟨k', s0', s1', s2', s3', mn', mx', A', c', l'⟩ := t'
  simp [PT.cells, PT.k, PT.s0, PT.s1, PT.s2, PT.s3, PT.mn, PT.mx, PT.A, PT.c, PT.l] at hc
  obtain ⟨rfl, rfl, rfl, rfl, rfl, rfl, rfl, rfl, hl, rfl⟩ := hc
  rw [PMem] at h
  rw [LMem.inj A l l' 0 hl h h']
theorem LMem.inj {w : World} (A : Option Addr) : ∀ (l l' : List PT) (i : Nat), l.length = l'.length → LMem w A l i → LMem w A l' i → l = l'
 | [], l', i, hl, h, h' => by
  have : l' = [] := List.eq_nil_of_length_eq_zero (by simpa using hl.symm)
  rw [this]
 | t :: r, [], i, hl, h, h' => by simp at hl
 | t :: r, t' :: r', i, hl, h, h' => by
  rw [LMem] at h h'
  obtain ⟨⟨b, off, hA, hc⟩, h2, h3⟩ := h
  obtain ⟨⟨b', off', hA', hc'⟩, h2', h3'⟩ := h'
  rw [hA] at hA'
  simp at hA'
  obtain ⟨rfl, rfl⟩ := hA'
  have e := PMem.inj t t' (hc.inj hc' rfl) h2 h2'
  have e2 := LMem.inj A r r' (i + 1) (by simpa using hl) h3 h3'
  rw [e, e2]
end
end Go.Proofs.YtfbmogccmlikaaaGreatDoor
