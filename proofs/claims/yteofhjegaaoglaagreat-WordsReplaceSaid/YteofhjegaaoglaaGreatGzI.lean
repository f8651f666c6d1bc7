/-
 Ma1, Ma2: several small texts in one. No conditions.
-/
import Derived.Test.YteofhjegaaoglaaGreatErR
import Derived.Test.YteofhjegaaoglaaGreatGj
import Derived.Test.YteofhjegaaoglaaGreatEr9
import Derived.OwnWalk
namespace Go.Proofs.YteofhjegaaoglaaGreat
open Go.RowKit Go.ChangeMaps
set_option linter.unusedVariables false
set_option linter.unusedSimpArgs false
mutual
def toP : RT → PT | .mk k s mn mx l => .mk k (s.a : Int) (s.b : Int) (s.c : Int) (s.d : Int) mn mx none 0 (toL l)
def toL : List RT → List PT | [] => [] | t :: r => toP t :: toL r
end
theorem toL_len : ∀ l : List RT, (toL l).length = l.length
 | [] => by rw [toL]; rfl
 | t :: r => by rw [toL, List.length_cons, toL_len r, List.length_cons]
mutual
theorem toP_rep : ∀ t : RT, RepP t (toP t)
 | .mk k s mn mx l => by rw [RepP, toP]; exact ⟨rfl, rfl, rfl, rfl, rfl, rfl, rfl, toL_rep l⟩
theorem toL_rep : ∀ l : List RT, RepL l (toL l)
 | [] => by rw [RepL_nil, toL]
 | t :: r => by rw [toL, RepL_cons]; exact ⟨toP_rep t, toL_rep r⟩
end
mutual
theorem RepP.siz : ∀ (t : RT) (p : PT), RepP t p → sizP p = sizP (toP t)
 | .mk k s mn mx l, p, h => by
  rw [RepP] at h; obtain ⟨h1, -, -, -, -, h6, h7, h8⟩ := h; rw [sizP_eq, h1, h6, h7, toP, sizP, RepL.siz l p.l h8, ← h8.len, toL_len]
theorem RepL.siz : ∀ (ts : List RT) (ps : List PT), RepL ts ps → sizL ps = sizL (toL ts)
 | [], ps, h => by rw [RepL_nil] at h; subst h; rw [toL]
 | t :: r, [], h => by rw [RepL] at h; exact h.elim
 | t :: r, p :: ps, h => by rw [RepL_cons] at h; rw [toL, sizL, sizL, RepP.siz t p h.1, RepL.siz r ps h.2]
end
mutual
theorem RepP.lay : ∀ (t : RT) (p : PT) (a : Nat), RepP t p → layP p a = layP (toP t) a
 | .mk k s mn mx l, .mk k' s0 s1 s2 s3 mn' mx' A c ps, a, h => by
  rw [RepP] at h; obtain ⟨h1, h2, h3, h4, h5, h6, h7, h8⟩ := h; have h1' : k' = k := h1; have h2' : s0 = (s.a : Int) := h2; have h3' : s1 = (s.b : Int) := h3; have h4' : s2 = (s.c : Int) := h4; have h5' : s3 = (s.d : Int) := h5; have h6' : mn' = mn := h6; have h7' : mx' = mx := h7; have h8' : RepL l ps := h8; subst h1' h2' h3' h4' h5' h6' h7'; have e1 : layL ps = layL (toL l) := funext fun a => RepL.lay l ps a h8'; have e2 : ∀ a all, layO ps a all = layO (toL l) a all := fun a all => RepL.layO_ l ps a all h8'; rw [toP, layP, layP, e1, e2, RepL.siz l ps h8', ← h8'.len, toL_len]
theorem RepL.lay : ∀ (ts : List RT) (ps : List PT) (a : Nat), RepL ts ps → layL ps a = layL (toL ts) a
 | [], ps, a, h => by rw [RepL_nil] at h; subst h; rw [toL]
 | t :: r, [], a, h => by rw [RepL] at h; exact h.elim
 | t :: r, p :: ps, a, h => by rw [RepL_cons] at h; rw [toL, layL, layL, RepP.lay t p _ h.1, RepL.lay r ps _ h.2, RepP.siz t p h.1]
theorem RepL.layO_ : ∀ (ts : List RT) (ps : List PT) (a all : Nat), RepL ts ps → layO ps a all = layO (toL ts) a all
 | [], ps, a, all, h => by rw [RepL_nil] at h; subst h; rw [toL]
 | t :: r, [], a, all, h => by rw [RepL] at h; exact h.elim
 | t :: r, p :: ps, a, all, h => by
  rw [RepL_cons] at h
  have e : ps.isEmpty = (toL r).isEmpty := by
   have h1 := h.2.len; have h2 := toL_len r
   cases ps <;> cases hr : toL r <;> simp_all
  rw [toL, layO, layO, e, RepP.lay t p _ h.1, RepP.lay t p _ h.1, RepL.layO_ r ps _ _ h.2, RepP.siz t p h.1]
end
def progT (t : RT) : List Sp := layP (toP t) 0 ++ [Sp.found]
theorem progT_len {t : RT} (h : rightT t = true) : (progT t).length = sizP (toP t) + 1 := by
 rw [progT, List.length_append, layP_len _ _ (by rw [RepP.right t _ (toP_rep t)]; exact h)]; rfl
end Go.Proofs.YteofhjegaaoglaaGreat
namespace Go.Proofs.YteofhjegaaoglaaGreat
open Go.RowKit Go.ChangeMaps
set_option linter.unusedVariables false
set_option linter.unusedSimpArgs false
def FinderAt (w : World) (lo fb : Nat) (L : List Sp) : Prop := ∃ A cap, Bk w fb 75 #[.slice A L.length cap] ∧ w.ownsRow lo 109 7 (.slice A L.length cap) L.length (L.flatMap Sp.cells)
def NewPost (w : World) (r : Except (Nat × Nat) RT) (e : Ending) (w' : World) : Prop := Fr [] w w' ∧ match r with
 | .error (p, code) => ∃ v, e = .returned (.tuple #[.pointer none, v]) ∧ FaultV w' v p code
 | .ok t => if 4000 ≤ sizP (toP t) then ∃ v, e = .returned (.tuple #[.pointer none, v]) ∧ FaultV w' v 0 5
  else ∃ fb, e = .returned (.tuple #[.pointer (some ⟨fb, 0, none⟩), .nilIface]) ∧ w.heap.size ≤ fb ∧ FinderAt w' w.heap.size fb (progT t)
theorem NewPost.big {w w' : World} {t : RT} {e : Ending} {v : Value} (hs : 4000 ≤ sizP (toP t)) (he : e = .returned (.tuple #[.pointer none, v])) (hv : FaultV w' v 0 5) (hf : Fr [] w w') : NewPost w (.ok t) e w' := by
 refine ⟨hf, ?_⟩; show if _ then _ else _; rw [if_pos hs]; exact ⟨v, he, hv⟩
theorem NewPost.fin {w w' : World} {t : RT} {e : Ending} {fb : Nat} (hs : sizP (toP t) < 4000) (he : e = .returned (.tuple #[.pointer (some ⟨fb, 0, none⟩), .nilIface])) (hb : w.heap.size ≤ fb) (hv : FinderAt w' w.heap.size fb (progT t)) (hf : Fr [] w w') : NewPost w (.ok t) e w' := by
 refine ⟨hf, ?_⟩; show if _ then _ else _; rw [if_neg (by omega)]; exact ⟨fb, he, hb, hv⟩
theorem comp_read {w : World} {t : RT} {p : PT} {n : Nat} (hn : NewP n w t p) (hr : rightT t = true) (hc : cntT t ≤ 1199) :
    Calls Tryz.prog 19 #[p.val] w fun e w' => Fr [] w w' ∧ (4000 ≤ sizP (toP t) ∧ e = .returned (.tuple #[.slice none 0 0, .iface 46 (.int .i64 5)]) ∨
     sizP (toP t) < 4000 ∧ ∃ v, e = .returned (.tuple #[v, .nilIface]) ∧ StepsNew w (progT t) v w') := by
 refine (compile_all hn.mem (by rw [RepP.cnt t p hn.rep]; exact hc)).mono ?_; rintro e w' ⟨hf, h⟩; rw [RepP.right t p hn.rep, hr, RepP.siz t p hn.rep, RepP.lay t p 0 hn.rep] at h; refine ⟨hf, ?_⟩; rcases h with ⟨h1, -⟩ | ⟨-, h1, h2⟩ | ⟨-, h1, h2⟩
 ·cases h1
 ·exact .inl ⟨h1, h2⟩
 ·exact .inr ⟨h1, h2⟩
set_option maxRecDepth 100000 in
set_option maxHeartbeats 8000000 in
theorem new_any {w : World} {A : Option Addr} {bs : List UInt8} {c : Nat} (h : Bytes w A bs) (hl : bs.length ≤ 150) (hc : bs.length ≤ c) (hA : A = none → c = 0) (hcm : c ≤ maxLen) (hg : GlobOk w) :
    Calls Tryz.prog 9 #[.slice A bs.length c] w (NewPost w (parseS bs)) := by
 have hpar := parse_any h hc hA hcm hg; obtain ⟨R, hR⟩ : ∃ R, R = parseS bs := ⟨_, rfl⟩; rw [← hR] at hpar ⊢; obtain ⟨n, hn⟩ : ∃ n, n = bs.length := ⟨_, rfl⟩; rw [← hn] at hl hpar ⊢; have HP := zh hpar; have HR := zh hR; have HN := zh hn; clear h hpar hR hn hg; go_enter Tryz.func9, Tryz.ntmps9
 go_wp2_with fail
 go_at_call 18
 refine HP.out.mono ?_; intro e w1 hp; rcases R with ⟨p, code⟩ | t
 ·obtain ⟨v, rfl, ⟨fg, rfl, hfb⟩, hf⟩ := hp; have HF := zh hf; have HFB := zh hfb; clear hf hfb; unfold zeroP; go_wp2_with fail
  go_ret2
  exact ⟨HF.out.alloc _, _, rfl, fg, rfl, HFB.out.fr ((Fr.refl [] w1).alloc _) (by simp)⟩
 ·obtain ⟨p, rfl, hn, hf⟩ := hp; obtain ⟨hrt, hct⟩ := parse_good HR.out.symm; have HF := zh hf; have HNP := zh hn; have HRT := zh hrt; have HCT : Hid (cntT t ≤ 1199) := zh (by rw [← HN.out] at hct; omega); clear hf hn hrt hct HP; unfold PT.val; go_wp2_with fail
  go_at_call 19
  refine (comp_read (HNP.out.fr_nil ((Fr.refl [] w1).alloc _)) HRT.out HCT.out).mono ?_; rintro e w2 ⟨hf2, ⟨hs, rfl⟩ | ⟨hs, v, rfl, A', cap, rfl, hown⟩⟩
  ·have HF2 := zh ((HF.out.alloc _).trans hf2); clear hf2; go_wp2_with fail
   go_ret2
   exact NewPost.big hs rfl ⟨w2.heap.size, rfl, Bk.new _ _ _⟩ (HF2.out.alloc _)
  ·have HF2 := zh ((HF.out.alloc _).trans hf2); have HOWN := zh hown; have hsz : w.heap.size ≤ w2.heap.size := HF2.out.size; clear hf2 hown; go_wp2_with fail
   go_ret2
   refine NewPost.fin hs rfl hsz ⟨A', cap, Bk.new _ _ _, ?_⟩ (HF2.out.alloc _); exact own_rebase (own_fr HOWN.out ((Fr.refl [] w2).alloc _) (by simp)) (fun g hg => Nat.le_trans (by have h1 := HF.out.size; simp; omega) (own_base HOWN.out g hg).1)
end Go.Proofs.YteofhjegaaoglaaGreat
