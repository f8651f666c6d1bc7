/-
  The reference of tokens: operand; what its tests tell of the next token. No conditions but sizes.
-/
import Derived.Test.YtjfgopihfgljmaaDoorLr8
import Derived.Test.YtjfgopihfgljmaaDoorLexTk
namespace Go.Proofs.YtjfgopihfgljmaaDoor
open Go.RowKit
set_option linter.unusedVariables false
set_option linter.unusedSimpArgs false

theorem opT_nil : opT [] = true := rfl
theorem opT_last {ts : List Tk} {k : Nat} {t : Tk} (hk : k + 1 = ts.length) (ht : ts[k]? = some t) : opT ts = operM t.k t.s := by
  unfold opT
  rw [List.getLast?_eq_getElem?, ← hk, Nat.add_sub_cancel, ht]
set_option maxRecDepth 100000 in
set_option maxHeartbeats 8000000 in
theorem roperand_any {w : World} {A : Option Addr} {n c : Nat} {ts : List Tk} (hn : n = ts.length) (hl : n ≤ 100000) (ha : 0 < n → ∃ b, A = some ⟨b, 0, none⟩ ∧ b < w.heap.size ∧ ∀ k t, ts[k]? = some t → TkAt w b k t) :
    Calls Tryd.prog 18 #[.slice A n c] w fun e w' => e = .returned (.bool (opT ts)) ∧ Fr [] w w' := by
  cases n with
  | zero =>
    obtain rfl : ts = [] := List.eq_nil_of_length_eq_zero hn.symm
    clear hn ha hl
    rw [opT_nil]
    go_enter Tryd.func18, Tryd.ntmps18
    go_wp2_with fail
    go_ret
    exact ⟨rfl, Fr.refl _ _⟩
  | succ m =>
    obtain ⟨b, rfl, hb, hc⟩ := ha (Nat.succ_pos _)
    obtain ⟨t, ht⟩ : ∃ t, ts[m]? = some t := ⟨_, List.getElem?_eq_getElem (by omega)⟩
    obtain ⟨c0, c1, c2, c3, c4, c5⟩ := hc m t ht
    rw [opT_last hn ht]
    obtain ⟨k, p, s, v⟩ := t
    dsimp only at c0 c1 c2 c3 c4 c5 ⊢
    obtain ⟨R, hR⟩ : ∃ R, R = operM k s := ⟨_, rfl⟩
    rw [← hR]
    have HR := Lib.hid hR
    have hnI : ((m : Int) + 1 == 0) = false := by simp; omega
    clear hR ht hc ha hn
    go_enter Tryd.func18, Tryd.ntmps18
    go_upto_region 4 with fail
    obtain ⟨g, hg⟩ : ∃ g, g = w.heap.size := ⟨_, rfl⟩
    obtain ⟨w1, hw1⟩ : ∃ w1, w1 = w.alloc (.cells #[.int .i64 (k : Int), .int .i64 (p : Int), .string ⟨s.toArray⟩, .bool false, .int .u64 ((v / 18446744073709551616 : Nat) : Int), .int .u64 ((v % 18446744073709551616 : Nat) : Int)] 43) := ⟨_, rfl⟩
    have hb1 : Bk w1 g 43 #[.int .i64 (k : Int), .int .i64 (p : Int), .string ⟨s.toArray⟩, .bool false, .int .u64 ((v / 18446744073709551616 : Nat) : Int), .int .u64 ((v % 18446744073709551616 : Nat) : Int)] := by rw [hw1, hg]; exact Bk.new w _ _
    have hf1 : Fr [] w w1 := by rw [hw1]; exact (Fr.refl [] w).alloc _
    have e0 : w1.cell? ⟨g, 0, none⟩ = some (.int .i64 (k : Int)) := hb1.cell_ rfl
    have e2 : w1.cell? ⟨g, 2, none⟩ = some (.string ⟨s.toArray⟩) := hb1.cell_ rfl
    have HF := Lib.hid hf1
    have HW1 := Lib.hid hw1
    rw [show ((v / 18446744073709551616 : Nat) : Int) = (v : Int) / 18446744073709551616 by omega, show ((v % 18446744073709551616 : Nat) : Int) = (v : Int) % 18446744073709551616 by omega] at hw1
    rw [← hw1, ← hg]
    clear hw1 hb1 hf1 hg c0 c1 c2 c3 c4 c5
    by_cases h9 : k = 9
    · subst h9
      by_cases s1 : s = [41]
      · subst s1
        go_wp2_with fail
        go_ret
        rw [HR.out]
        refine ⟨?_, HF.out⟩
        simp [operM, ]
      · by_cases s2 : s = [93]
        · subst s2
          go_wp2_with fail
          go_ret
          rw [HR.out]
          refine ⟨?_, HF.out⟩
          simp [operM, ]
        · by_cases s3 : s = [43, 43]
          · subst s3
            go_wp2_with fail
            go_ret
            rw [HR.out]
            refine ⟨?_, HF.out⟩
            simp [operM, ]
          · by_cases s4 : s = [45, 45]
            · subst s4
              go_wp2_with fail
              go_ret
              rw [HR.out]
              refine ⟨?_, HF.out⟩
              simp [operM, ]
            · have f1 : (s == [41]) = false := beq_eq_false_iff_ne.2 s1
              have f2 : (s == [93]) = false := beq_eq_false_iff_ne.2 s2
              have f3 : (s == [43, 43]) = false := beq_eq_false_iff_ne.2 s3
              have f4 : (s == [45, 45]) = false := beq_eq_false_iff_ne.2 s4
              have HRT : Hid (R = true) := Lib.hid (by rw [HR.out]; simp [operM, s1, s2, s3, s4])
              clear s1 s2 s3 s4
              go_wp2_with fail
              go_ret
              rw [HRT.out]
              exact ⟨rfl, HF.out⟩
    · have f9 : ((k : Int) == 9) = false := by simp; omega
      have n9 : (k == 9) = false := by simpa using h9
      by_cases h1 : k = 1
      · subst h1
        go_wp2_with fail
        go_ret
        rw [HR.out]
        refine ⟨?_, HF.out⟩
        simp [operM, ]
      · by_cases h7 : k = 7
        · subst h7
          go_wp2_with fail
          go_ret
          rw [HR.out]
          refine ⟨?_, HF.out⟩
          simp [operM, ]
        · have f1 : ((k : Int) == 1) = false := by simp; omega
          have f7 : ((k : Int) == 7) = false := by simp; omega
          have HRT : Hid (R = false) := Lib.hid (by rw [HR.out]; simp [operM, h1, h7, h9])
          clear h1 h7 h9 n9
          go_wp2_with fail
          go_ret
          rw [HRT.out]
          exact ⟨rfl, HF.out⟩
end Go.Proofs.YtjfgopihfgljmaaDoor
