/-
  few, bounds, size of steps. No conditions.
-/
import Derived.Test.YtkihikphebkepaaPm
import Derived.Deep.QuietTactic
import Derived.BigQuiet
import Derived.IntWalk
import Derived.Outline
namespace Go.Proofs.Ytkihikphebkepaa
open Go.RowKit Go.ChangeMaps
set_option linter.unusedVariables false
set_option linter.unusedSimpArgs false

theorem ret_int {k : IntKind} {a b : Int} (h : a = b) : Ending.returned (.int k a) = .returned (.int k b) := by rw [h]
theorem few_any (n : Int) (w : World) : Calls Try.prog 40 #[.int .i64 n] w fun e w' => e = .returned (.int .i64 (min n 4001)) ∧ w = w' := by
  go_enter Try.func40, Try.ntmps40
  go_wp2_with (refine wpList_min rfl (.tmp 3) _ _ rfl .i64 n 4001 (min n 4001) (by first | rfl | (simp [Act.eval]; done)) (by first | rfl | (simp [Act.eval]; done)) rfl ?_)
  go_ret
  exact ⟨rfl, rfl⟩
/-- May a repeat have these bounds? -/
def bndB (mn mx : Int) : Bool := decide (0 ≤ mn) && decide (mn ≤ 255) && (mx == -1 || (decide (mn ≤ mx) && decide (mx ≤ 255)))
theorem bounds_any (mn mx : Int) (w : World) : Calls Try.prog 34 #[.int .i64 mn, .int .i64 mx] w fun e w' => e = .returned (.bool (bndB mn mx)) ∧ w = w' := by
  obtain ⟨r, hr⟩ : ∃ r, r = bndB mn mx := ⟨_, rfl⟩
  rw [← hr]
  unfold bndB at hr
  by_cases h1 : 0 ≤ mn
  · by_cases h2 : mn ≤ 255
    · by_cases h3 : mx = -1
      · subst h3
        have HR := Lib.hid hr; clear hr
        go_enter Try.func34, Try.ntmps34
        go_wp2
        go_ret
        exact ⟨by rw [HR.out]; congr 2; simp [h1, h2] <;> omega, rfl⟩
      · have h3' : (mx == -1) = false := beq_eq_false_iff_ne.2 h3
        by_cases h4 : mn ≤ mx
        · by_cases h5 : mx ≤ 255
          · have HR := Lib.hid hr; clear hr
            go_enter Try.func34, Try.ntmps34
            go_wp2
            go_ret
            exact ⟨by rw [HR.out]; congr 2; simp [h1, h2, h3, h4, h5] <;> omega, rfl⟩
          · have HR := Lib.hid hr; clear hr
            go_enter Try.func34, Try.ntmps34
            go_wp2
            go_ret
            exact ⟨by rw [HR.out]; congr 2; simp [h1, h2, h3, h4, h5] <;> omega, rfl⟩
        · have HR := Lib.hid hr; clear hr
          go_enter Try.func34, Try.ntmps34
          go_wp2
          go_ret
          exact ⟨by rw [HR.out]; congr 2; simp [h1, h2, h3, h4] <;> omega, rfl⟩
    · have HR := Lib.hid hr; clear hr
      go_enter Try.func34, Try.ntmps34
      go_wp2
      go_ret
      exact ⟨by rw [HR.out]; congr 2; simp [h1, h2] <;> omega, rfl⟩
  · have HR := Lib.hid hr; clear hr
    go_enter Try.func34, Try.ntmps34
    go_wp2
    go_ret
    exact ⟨by rw [HR.out]; congr 2; simp [h1] <;> omega, rfl⟩
theorem bndB_right {mn mx : Int} : rightK 4 mn mx 1 = bndB mn mx := by
  unfold rightK bndB
  rw [Bool.eq_iff_iff]
  simp
  omega
/-- The size of a part whose parts have n together. -/
def sizN (t : PT) (n : Nat) : Nat :=
  if t.k = 3 then min 4001 (n + 2 * (t.l.length - 1))
  else if t.k = 4 then (if t.mx < 0 then min 4001 ((t.mn.toNat + 1) * n + 2) else min 4001 (t.mx.toNat * n + (t.mx.toNat - t.mn.toNat)))
  else n
theorem min_mul (a s : Nat) (h : 0 < a) : min 4001 (a * min 4001 s) = min 4001 (a * s) := by
  rcases Nat.lt_or_ge 4001 s with h1 | h1
  · rw [Nat.min_eq_left (by omega : 4001 ≤ s)]
    have e1 : 4001 ≤ a * 4001 := Nat.le_mul_of_pos_left _ h
    have e2 : 4001 ≤ a * s := Nat.le_trans (by omega : 4001 ≤ s) (Nat.le_mul_of_pos_left _ h)
    omega
  · rw [Nat.min_eq_right h1]
theorem min_mul_add (a s c : Nat) (h : 0 < a) : min 4001 (a * min 4001 s + c) = min 4001 (a * s + c) := by
  have := min_mul a s h
  omega
theorem sizN_sizP {t : PT} (hi : inner t.k = true) (hr : rightK t.k t.mn t.mx t.l.length = true) : sizN t (min 4001 (sizL t.l)) = min 4001 (sizP t) := by
  rw [sizP_eq]
  unfold sizN
  rcases inner_iff.1 hi with h | h | h
  · simp [h]
  · simp [h]
    omega
  · simp only [h]
    simp
    split
    · rw [min_mul_add _ _ _ (by omega)]
    · by_cases hz : t.mx.toNat = 0
      · rw [hz]; simp
      · rw [min_mul_add _ _ _ (by omega)]
theorem mul_bound (a n : Nat) (ha : a ≤ 256) (hn : n ≤ 4001) : a * n ≤ 1024256 := by
  calc a * n ≤ 256 * 4001 := Nat.mul_le_mul ha hn
    _ = 1024256 := rfl
set_option maxHeartbeats 2000000 in
theorem size_any {w : World} {b o : Nat} {t : PT} (hc : CellsAt w b o t.cells) (hi : inner t.k = true) (hr : rightK t.k t.mn t.mx t.l.length = true) (hl : t.l.length ≤ 1200) {n : Nat} (hn : n ≤ 4001) :
    Calls Try.prog 36 #[.pointer (some ⟨b, o, none⟩), .int .i64 n] w fun e w' => e = .returned (.int .i64 (sizN t n)) ∧ ∃ q, w' = w.drewN q := by
  obtain ⟨r, hrr⟩ : ∃ r, r = sizN t n := ⟨_, rfl⟩
  rw [← hrr]
  have c0 := hc.cell (j := 0) rfl
  have c5 := hc.cell (j := 5) rfl
  have c6 := hc.cell (j := 6) rfl
  have c7 := hc.cell (j := 7) rfl
  simp only [Nat.add_zero] at c0
  unfold sizN at hrr
  obtain ⟨k, s0, s1, s2, s3, mn, mx, A, c, l⟩ := t
  simp only [PT.k, PT.mn, PT.mx, PT.A, PT.c, PT.l] at *
  have HC := Lib.hid hc
  clear hc
  rcases inner_iff.1 hi with rfl | rfl | rfl
  · clear hi hr
    simp at hrr
    subst hrr
    go_enter Try.func36, Try.ntmps36
    go_wp2
    go_ret
    exact ⟨rfl, 0, rfl⟩
  · have hm0 : 0 < l.length := by simpa [rightK] using hr
    clear hi hr
    simp at hrr
    have HR := Lib.hid hrr; clear hrr
    go_enter Try.func36, Try.ntmps36
    go_wp2_with fail
    go_at_call 40
    refine (few_any _ _).mono ?_
    rintro e w' ⟨rfl, rfl⟩
    obtain ⟨q, hq⟩ : ∃ q : Int, q = min (2 * ((l.length : Int) - 1)) 4001 := ⟨_, rfl⟩
    have hq1 : 0 ≤ q := by omega
    have hq2 : q ≤ 4001 := by omega
    rw [← hq]
    have HQ := Lib.hid hq; clear hq
    go_wp2_with fail
    go_at_call 40
    refine (few_any _ _).mono ?_
    rintro e w' ⟨rfl, rfl⟩
    obtain ⟨q2, hq2⟩ : ∃ q2 : Int, q2 = min ((n : Int) + q) 4001 := ⟨_, rfl⟩
    rw [← hq2]
    have HQ2 := Lib.hid hq2; clear hq2
    go_wp2_with fail
    go_ret
    exact ⟨ret_int (by rw [HQ2.out, HQ.out, HR.out]; omega), 0, rfl⟩
  · have hm1 : l.length = 1 ∧ 0 ≤ mn ∧ mn ≤ 255 ∧ -1 ≤ mx ∧ mx ≤ 255 ∧ (0 ≤ mx → mn ≤ mx) := by
      have h := hr
      simp [rightK] at h
      omega
    obtain ⟨hl1, h1, h2, h3, h4, h5⟩ := hm1
    have HL1 := Lib.hid hl1
    clear hi hr hl1 hl
    simp at hrr
    obtain ⟨a, rfl⟩ : ∃ a : Nat, mn = (a : Int) := ⟨mn.toNat, by omega⟩
    by_cases hx : mx = -1
    · subst hx
      simp at hrr
      have hp := mul_bound (a + 1) n (by omega) hn
      obtain ⟨p, hpp⟩ : ∃ p, p = (a + 1) * n := ⟨_, rfl⟩
      have e1 : ((a : Int) + 1) * (n : Int) = (p : Int) := by rw [hpp]; push_cast; rfl
      have e2 : IntKind.i64.wrap (((a : Int) + 1) * (n : Int)) = (p : Int) := by rw [e1]; exact IntWalk.i64_in _ (by omega)
      rw [← hpp] at hrr hp
      have HR := Lib.hid hrr; have HPP := Lib.hid hpp; clear hrr hpp
      go_enter Try.func36, Try.ntmps36
      go_wp2_with fail
      go_at_call 40
      refine (few_any _ _).mono ?_
      rintro e w' ⟨rfl, rfl⟩
      obtain ⟨q2, hq2⟩ : ∃ q2 : Int, q2 = min ((p : Int) + 2) 4001 := ⟨_, rfl⟩
      rw [← hq2]
      have HQ2 := Lib.hid hq2; clear hq2
      go_wp2_with fail
      go_ret
      exact ⟨ret_int (by rw [HQ2.out, HR.out]; omega), 0, rfl⟩
    · obtain ⟨d, rfl⟩ : ∃ d : Nat, mx = (d : Int) := ⟨mx.toNat, by omega⟩
      have h6 : a ≤ d := by omega
      have hx' : ¬ ((d : Int) < 0) := by omega
      simp [hx'] at hrr
      have hp := mul_bound d n (by omega) hn
      obtain ⟨p, hpp⟩ : ∃ p, p = d * n := ⟨_, rfl⟩
      have e1 : (d : Int) * (n : Int) = (p : Int) := by rw [hpp]; push_cast; rfl
      rw [← hpp] at hrr hp
      have e2 : IntKind.i64.wrap (p : Int) = (p : Int) := IntWalk.i64_in _ (by omega)
      have e3 : IntKind.i64.wrap ((p : Int) + (d : Int)) = (p : Int) + (d : Int) := IntWalk.i64_in _ (by omega)
      have e4 : IntKind.i64.wrap ((p : Int) + (d : Int) - (a : Int)) = (p : Int) + (d : Int) - (a : Int) := IntWalk.i64_in _ (by omega)
      have hx2 : ((d : Int) == -1) = false := beq_eq_false_iff_ne.2 (by omega)
      have HR := Lib.hid hrr; have HPP := Lib.hid hpp; have HX := Lib.hid hx; have H6 := Lib.hid h6; have H5 := Lib.hid h5
      clear hrr hpp hx h6 h5 hx'
      go_enter Try.func36, Try.ntmps36
      go_wp2_with fail
      go_quiet ((go_at_call 40; exact Calls.quiet_of_same ((few_any _ _).mono fun _ _ h => ⟨h.1, h.2.symm⟩)))
      go_wp2_with fail
      go_ret
      exact ⟨ret_int (by rw [HR.out]; have := H6.out; omega), _, rfl⟩
end Go.Proofs.Ytkihikphebkepaa
