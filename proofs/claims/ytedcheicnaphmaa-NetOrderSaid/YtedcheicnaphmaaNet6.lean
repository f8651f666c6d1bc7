/-
  settle, Read, Write of a net's wire. No conditions on the program.
-/
import Derived.Test.YtedcheicnaphmaaNet5
namespace Go.Proofs.Ytedcheicnaphmaa
open Go.RowKit
set_option linter.unusedVariables false
set_option linter.unusedSimpArgs false

/-- A wire that is at its end is gone. -/
def settleW (x : Wr) : Wr := if x.st = 1 ∧ x.en = true ∧ x.sh = true ∧ x.inn = [] then { x with st := 2 } else x
theorem set_self (ws : List Wr) {k : Nat} {x : Wr} (hk : k < ws.length) (hx : ws.getD k default = x) : ws.set k x = ws := by
  apply List.ext_getElem?
  intro i
  by_cases e : i = k
  · subst e
    rw [List.getElem?_set_self hk]
    simp [hk] at hx
    rw [← hx]; simp [hk]
  · rw [List.getElem?_set_ne (Ne.symm e)]
theorem settle_any {w : World} {B n : Nat} {now : Int} {ws : List Wr} {v : Value} {G : Nat → Nat} {IV GV : Nat → Value} (h : NetR w B n now ws v G IV GV) {k : Nat} (hk : k < ws.length) (x : Wr) (hx : ws.getD k default = x) :
    Calls Try.prog 25 #[.pointer (some ⟨G k, 0, none⟩)] w fun e w' => e = .returned (.tuple #[]) ∧ NetR w' B n now (ws.set k (settleW x)) v G IV GV ∧ NFr B w w' ∧ Fr [G k] w w' := by
  have hw := h.wire k hk
  rw [hx] at hw
  obtain ⟨A, cap, hiv, -⟩ := (h.inn k hk).at_
  rw [hx, byteVals_length] at hiv
  obtain ⟨d0, -, d2, -, -, d5, d6, -⟩ := w_cells hw
  have f0 := hw.frozen 0
  rw [hiv] at d2
  have H := Lib.hid h; have HW := Lib.hid hw; have HX := Lib.hid hx
  have same : settleW x = x → NetR w B n now (ws.set k (settleW x)) v G IV GV ∧ NFr B w w ∧ Fr [G k] w w := fun e => by rw [e, set_self ws hk hx]; exact ⟨h, NFr.refl _ _, Fr.refl _ _⟩
  have SAME := Lib.hid same
  clear h hw hiv hx same
  by_cases h1 : x.st = 1
  · cases h2 : x.en with
    | false =>
      have hs : settleW x = x := by unfold settleW; simp [h2]
      rw [h1] at d0; rw [h2] at d5
      have hp := SAME.out hs; have HP := Lib.hid hp; clear hp hs
      go_enter Try.func25, Try.ntmps25
      go_wp2_with fail
      go_end0
      exact ⟨rfl, HP.out⟩
    | true =>
      cases h3 : x.sh with
      | false =>
        have hs : settleW x = x := by unfold settleW; simp [h3]
        rw [h1] at d0; rw [h2] at d5; rw [h3] at d6
        have hp := SAME.out hs; have HP := Lib.hid hp; clear hp hs
        go_enter Try.func25, Try.ntmps25
        go_wp2_with fail
        go_end0
        exact ⟨rfl, HP.out⟩
      | true =>
        rw [h1] at d0; rw [h2] at d5; rw [h3] at d6
        by_cases h4 : x.inn = []
        · have hs : settleW x = { x with st := 2 } := by unfold settleW; simp [h1, h2, h3, h4]
          have h40 : x.inn.length = 0 := by rw [h4]; rfl
          rw [h40] at d2
          have hf : Fr [G k] w (w.setCell ⟨G k, 0, none⟩ (.int .i64 2)) := (Fr.refl _ _).setCell (.inl (by simp)) _
          have hp : NetR (w.setCell ⟨G k, 0, none⟩ (.int .i64 2)) B n now (ws.set k (settleW x)) v G IV GV ∧ NFr B w (w.setCell ⟨G k, 0, none⟩ (.int .i64 2)) ∧ Fr [G k] w (w.setCell ⟨G k, 0, none⟩ (.int .i64 2)) := by
            rw [hs]
            refine ⟨H.out.putW hk { x with st := 2 } hf (HW.out.put 0 _) (by rw [HX.out]) (by rw [HX.out]), NFr.own [G k] hf ?_, hf⟩
            intro j hj
            rw [List.mem_singleton.1 hj]
            exact ⟨H.out.bg k hk, .inr ⟨_, _, _, HW.out, .inr (.inr (.inl rfl))⟩⟩
          have HP := Lib.hid hp; clear hp hs hf
          go_enter Try.func25, Try.ntmps25
          go_wp2_with fail
          go_end0
          exact ⟨rfl, HP.out⟩
        · have hs : settleW x = x := by unfold settleW; simp [h4]
          have h40 : ¬ x.inn.length = 0 := fun e => h4 (List.eq_nil_of_length_eq_zero e)
          have h41 : ((x.inn.length : Int) == 0) = false := by simpa using h4
          have hp := SAME.out hs; have HP := Lib.hid hp; clear hp hs h4
          go_enter Try.func25, Try.ntmps25
          go_wp2_with fail
          go_end0
          exact ⟨rfl, HP.out⟩
  · have hs : settleW x = x := by unfold settleW; simp [h1]
    have h11 : (x.st == 1) = false := by simpa using h1
    have hp := SAME.out hs; have HP := Lib.hid hp; clear hp hs
    go_enter Try.func25, Try.ntmps25
    go_wp2_with fail
    go_end0
    exact ⟨rfl, HP.out⟩
end Go.Proofs.Ytedcheicnaphmaa
