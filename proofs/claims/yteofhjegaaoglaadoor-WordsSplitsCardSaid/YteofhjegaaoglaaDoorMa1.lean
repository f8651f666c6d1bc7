/-
  The steps of a part that was read: they are those of the plain part. No program, no conditions.
-/
import Derived.Test.YteofhjegaaoglaaDoorErR
import Derived.Test.YteofhjegaaoglaaDoorGj
namespace Go.Proofs.YteofhjegaaoglaaDoor
open Go.RowKit Go.ChangeMaps
set_option linter.unusedVariables false
set_option linter.unusedSimpArgs false

mutual
def toP : RT → PT | .mk k s mn mx l => .mk k (s.a : Int) (s.b : Int) (s.c : Int) (s.d : Int) mn mx none 0 (toL l)
def toL : List RT → List PT | [] => [] | t :: r => toP t :: toL r
end
theorem toL_len : ∀ l : List RT, (toL l).length = l.length
  | [] => by rw [toL]; rfl
  | t :: r => by rw [toL, List.length_cons, toL_len r, List.length_cons]
theorem toL_append : ∀ a b : List RT, toL (a ++ b) = toL a ++ toL b
  | [], b => by rw [toL]; rfl
  | t :: r, b => by rw [List.cons_append, toL, toL, toL_append r b]; rfl
mutual
theorem toP_rep : ∀ t : RT, RepP t (toP t)
  | .mk k s mn mx l => by rw [RepP, toP]; exact ⟨rfl, rfl, rfl, rfl, rfl, rfl, rfl, toL_rep l⟩
theorem toL_rep : ∀ l : List RT, RepL l (toL l)
  | [] => by rw [RepL_nil, toL]
  | t :: r => by rw [toL, RepL_cons]; exact ⟨toP_rep t, toL_rep r⟩
end
mutual
theorem RepP.siz : ∀ (t : RT) (p : PT), RepP t p → sizP p = sizP (toP t)
  | .mk k s mn mx l, p, h => by
    rw [RepP] at h
    obtain ⟨h1, -, -, -, -, h6, h7, h8⟩ := h
    rw [sizP_eq, h1, h6, h7, toP, sizP, RepL.siz l p.l h8, ← h8.len, toL_len]
theorem RepL.siz : ∀ (ts : List RT) (ps : List PT), RepL ts ps → sizL ps = sizL (toL ts)
  | [], ps, h => by rw [RepL_nil] at h; subst h; rw [toL]
  | t :: r, [], h => by rw [RepL] at h; exact h.elim
  | t :: r, p :: ps, h => by rw [RepL_cons] at h; rw [toL, sizL, sizL, RepP.siz t p h.1, RepL.siz r ps h.2]
end
mutual
theorem RepP.lay : ∀ (t : RT) (p : PT) (a : Nat), RepP t p → layP p a = layP (toP t) a
  | .mk k s mn mx l, .mk k' s0 s1 s2 s3 mn' mx' A c ps, a, h => by
    rw [RepP] at h
    obtain ⟨h1, h2, h3, h4, h5, h6, h7, h8⟩ := h
    have h1' : k' = k := h1; have h2' : s0 = (s.a : Int) := h2; have h3' : s1 = (s.b : Int) := h3; have h4' : s2 = (s.c : Int) := h4; have h5' : s3 = (s.d : Int) := h5; have h6' : mn' = mn := h6; have h7' : mx' = mx := h7
    have h8' : RepL l ps := h8
    subst h1' h2' h3' h4' h5' h6' h7'
    have e1 : layL ps = layL (toL l) := funext fun a => RepL.lay l ps a h8'
    have e2 : ∀ a all, layO ps a all = layO (toL l) a all := fun a all => RepL.layO_ l ps a all h8'
    rw [toP, layP, layP, e1, e2, RepL.siz l ps h8', ← h8'.len, toL_len]
theorem RepL.lay : ∀ (ts : List RT) (ps : List PT) (a : Nat), RepL ts ps → layL ps a = layL (toL ts) a
  | [], ps, a, h => by rw [RepL_nil] at h; subst h; rw [toL]
  | t :: r, [], a, h => by rw [RepL] at h; exact h.elim
  | t :: r, p :: ps, a, h => by rw [RepL_cons] at h; rw [toL, layL, layL, RepP.lay t p _ h.1, RepL.lay r ps _ h.2, RepP.siz t p h.1]
theorem RepL.layO_ : ∀ (ts : List RT) (ps : List PT) (a all : Nat), RepL ts ps → layO ps a all = layO (toL ts) a all
  | [], ps, a, all, h => by rw [RepL_nil] at h; subst h; rw [toL]
  | t :: r, [], a, all, h => by rw [RepL] at h; exact h.elim
  | t :: r, p :: ps, a, all, h => by
    rw [RepL_cons] at h
    have e : ps.isEmpty = (toL r).isEmpty := by
      have h1 := h.2.len
      have h2 := toL_len r
      cases ps <;> cases hr : toL r <;> simp_all
    rw [toL, layO, layO, e, RepP.lay t p _ h.1, RepP.lay t p _ h.1, RepL.layO_ r ps _ _ h.2, RepP.siz t p h.1]
end
def progT (t : RT) : List Sp := layP (toP t) 0 ++ [Sp.found]
theorem progT_len {t : RT} (h : rightT t = true) : (progT t).length = sizP (toP t) + 1 := by
  rw [progT, List.length_append, layP_len _ _ (by rw [RepP.right t _ (toP_rep t)]; exact h)]; rfl
end Go.Proofs.YteofhjegaaoglaaDoor
