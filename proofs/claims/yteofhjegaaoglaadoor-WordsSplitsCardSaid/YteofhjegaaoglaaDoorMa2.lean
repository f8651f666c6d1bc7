/-
  match.New: a finder of what can be read and laid. Of at most 150 bytes.
-/
import Derived.Test.YteofhjegaaoglaaDoorMa1
import Derived.Test.YteofhjegaaoglaaDoorEr9
import Derived.OwnWalk
namespace Go.Proofs.YteofhjegaaoglaaDoor
open Go.RowKit Go.ChangeMaps
set_option linter.unusedVariables false
set_option linter.unusedSimpArgs false

def FinderAt (w : World) (lo fb : Nat) (L : List Sp) : Prop := ∃ A cap, Bk w fb 54 #[.slice A L.length cap] ∧ w.ownsRow lo 83 7 (.slice A L.length cap) L.length (L.flatMap Sp.cells)
def NewPost (w : World) (r : Except (Nat × Nat) RT) (e : Ending) (w' : World) : Prop := Fr [] w w' ∧ match r with
  | .error (p, code) => ∃ v, e = .returned (.tuple #[.pointer none, v]) ∧ FaultV w' v p code
  | .ok t => if 4000 ≤ sizP (toP t) then ∃ v, e = .returned (.tuple #[.pointer none, v]) ∧ FaultV w' v 0 5
    else ∃ fb, e = .returned (.tuple #[.pointer (some ⟨fb, 0, none⟩), .nilIface]) ∧ w.heap.size ≤ fb ∧ FinderAt w' w.heap.size fb (progT t)
theorem NewPost.big {w w' : World} {t : RT} {e : Ending} {v : Value} (hs : 4000 ≤ sizP (toP t)) (he : e = .returned (.tuple #[.pointer none, v])) (hv : FaultV w' v 0 5) (hf : Fr [] w w') : NewPost w (.ok t) e w' := by
  refine ⟨hf, ?_⟩
  show if _ then _ else _
  rw [if_pos hs]; exact ⟨v, he, hv⟩
theorem NewPost.fin {w w' : World} {t : RT} {e : Ending} {fb : Nat} (hs : sizP (toP t) < 4000) (he : e = .returned (.tuple #[.pointer (some ⟨fb, 0, none⟩), .nilIface])) (hb : w.heap.size ≤ fb) (hv : FinderAt w' w.heap.size fb (progT t)) (hf : Fr [] w w') : NewPost w (.ok t) e w' := by
  refine ⟨hf, ?_⟩
  show if _ then _ else _
  rw [if_neg (by omega)]; exact ⟨fb, he, hb, hv⟩
theorem comp_read {w : World} {t : RT} {p : PT} {n : Nat} (hn : NewP n w t p) (hr : rightT t = true) (hc : cntT t ≤ 1199) :
    Calls Tryd.prog 16 #[p.val] w fun e w' => Fr [] w w' ∧ (4000 ≤ sizP (toP t) ∧ e = .returned (.tuple #[.slice none 0 0, .iface 55 (.int .i64 5)]) ∨
      sizP (toP t) < 4000 ∧ ∃ v, e = .returned (.tuple #[v, .nilIface]) ∧ StepsNew w (progT t) v w') := by
  refine (compile_all hn.mem (by rw [RepP.cnt t p hn.rep]; exact hc)).mono ?_
  rintro e w' ⟨hf, h⟩
  rw [RepP.right t p hn.rep, hr, RepP.siz t p hn.rep, RepP.lay t p 0 hn.rep] at h
  refine ⟨hf, ?_⟩
  rcases h with ⟨h1, -⟩ | ⟨-, h1, h2⟩ | ⟨-, h1, h2⟩
  · cases h1
  · exact .inl ⟨h1, h2⟩
  · exact .inr ⟨h1, h2⟩
set_option maxRecDepth 100000 in
set_option maxHeartbeats 8000000 in
theorem new_any {w : World} {A : Option Addr} {bs : List UInt8} {c : Nat} (h : Bytes w A bs) (hl : bs.length ≤ 150) (hc : bs.length ≤ c) (hA : A = none → c = 0) (hcm : c ≤ maxLen) (hg : GlobOk w) :
    Calls Tryd.prog 10 #[.slice A bs.length c] w (NewPost w (parseS bs)) := by
  have hpar := parse_any h hc hA hcm hg
  obtain ⟨R, hR⟩ : ∃ R, R = parseS bs := ⟨_, rfl⟩
  rw [← hR] at hpar ⊢
  obtain ⟨n, hn⟩ : ∃ n, n = bs.length := ⟨_, rfl⟩
  rw [← hn] at hl hpar ⊢
  have HP := Lib.hid hpar; have HR := Lib.hid hR; have HN := Lib.hid hn
  clear h hpar hR hn hg
  go_enter Tryd.func10, Tryd.ntmps10
  go_wp2_with fail
  go_at_call 15
  refine HP.out.mono ?_
  intro e w1 hp
  rcases R with ⟨p, code⟩ | t
  · obtain ⟨v, rfl, ⟨fg, rfl, hfb⟩, hf⟩ := hp
    have HF := Lib.hid hf; have HFB := Lib.hid hfb
    clear hf hfb
    unfold zeroP
    go_wp2_with fail
    go_ret2
    exact ⟨HF.out.alloc _, _, rfl, fg, rfl, HFB.out.fr ((Fr.refl [] w1).alloc _) (by simp)⟩
  · obtain ⟨p, rfl, hn, hf⟩ := hp
    obtain ⟨hrt, hct⟩ := parse_good HR.out.symm
    have HF := Lib.hid hf; have HNP := Lib.hid hn; have HRT := Lib.hid hrt
    have HCT : Hid (cntT t ≤ 1199) := Lib.hid (by rw [← HN.out] at hct; omega)
    clear hf hn hrt hct HP
    unfold PT.val
    go_wp2_with fail
    go_at_call 16
    refine (comp_read (HNP.out.fr_nil ((Fr.refl [] w1).alloc _)) HRT.out HCT.out).mono ?_
    rintro e w2 ⟨hf2, ⟨hs, rfl⟩ | ⟨hs, v, rfl, A', cap, rfl, hown⟩⟩
    · have HF2 := Lib.hid ((HF.out.alloc _).trans hf2)
      clear hf2
      go_wp2_with fail
      go_ret2
      exact NewPost.big hs rfl ⟨w2.heap.size, rfl, Bk.new _ _ _⟩ (HF2.out.alloc _)
    · have HF2 := Lib.hid ((HF.out.alloc _).trans hf2); have HOWN := Lib.hid hown
      have hsz : w.heap.size ≤ w2.heap.size := HF2.out.size
      clear hf2 hown
      go_wp2_with fail
      go_ret2
      refine NewPost.fin hs rfl hsz ⟨A', cap, Bk.new _ _ _, ?_⟩ (HF2.out.alloc _)
      exact own_rebase (own_fr HOWN.out ((Fr.refl [] w2).alloc _) (by simp)) (fun g hg => Nat.le_trans (by have h1 := HF.out.size; simp; omega) (own_base HOWN.out g hg).1)
end Go.Proofs.YteofhjegaaoglaaDoor
