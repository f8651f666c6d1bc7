/-
  charset.Bracket at any place where [ stands. Of at most 1000000000 bytes.
-/
import Derived.Test.YtehnkcfnflnpjaaGh
namespace Go.Proofs.Ytehnkcfnflnpjaa
open Go.RowKit
set_option linter.unusedVariables false
set_option linter.unusedSimpArgs false

theorem member_past {bs : List UInt8} {n : Nat} (h : bs.length ≤ n) : memberS bs n = .error (bs.length, 7) := by
  have h1 : opensS bs n = false := by unfold opensS; simp; omega
  have h2 : singleS bs n = none := by unfold singleS; rw [if_pos h]
  unfold memberS
  rw [h1, h2]; simp
set_option maxRecDepth 100000 in
set_option maxHeartbeats 4000000 in
theorem bracket_last {w : World} {A : Option Addr} {bs : List UInt8} {c : Nat} (h : Bytes w A bs) (i : Nat) (hl : bs.length ≤ 1000000000) (hi : i + 1 = bs.length) (hc : bs.length ≤ c) (hA : A = none → c = 0) (hcm : c ≤ maxLen) (hg : GlobOk w) (h91 : bn bs i = 91) :
    Calls Try.prog 39 #[.slice A bs.length c, .int .i64 (i : Int)] w (MemberPost w (.error (bs.length, 7))) := by
  obtain ⟨b, off, rfl, hb, hcs⟩ := byte_at h (i := i) (by omega)
  have c0 := hcs i (by omega)
  rw [h91] at c0
  have HB := Lib.hid h
  have HM := Lib.hid (member_past (bs := bs) (n := i + 1) (by omega))
  have hL : bs.length ≤ i + 1 := by omega
  have hd : decide (i + 1 < bs.length) = false := by simp; omega
  have hd2 : decide (i < bs.length) = true := by simp; omega
  have hd3 : decide (bs.length ≤ i) = false := by simp; omega
  clear h hcs h91
  obtain ⟨L, hLL⟩ : ∃ L, L = bs.length := ⟨_, rfl⟩
  have HLL := Lib.hid hLL
  rw [← hLL] at hl hi hc hL hd hd2 hd3 ⊢
  rw [← hLL] at HM
  clear hLL
  have hiL : i < L := by omega
  have HI := Lib.hid hi; clear hi
  go_enter Try.func39, Try.ntmps39
  go_wp2_with fail
  refine wp_loop_rounds 1 ?_
  rw [rounds_succ]
  have t1 : (((i : Int) + 1) == (i : Int) + 1) = true := by simp
  go_wp2_with fail
  go_at_call 44
  have hmem := member_any (w := (w.alloc (.cells S4.empty.cells 26)).alloc (.cells S4.empty.cells 26)) (c := c) (At.alloc (At.alloc HB.out (.cells S4.empty.cells 26)) (.cells S4.empty.cells 26)) (i + 1) (by rw [← HLL.out]; omega) (by rw [← HLL.out]; omega) (by rw [← HLL.out]; omega) (by simp) hcm (hg.fr (((Fr.refl [] w).alloc _).alloc _))
  rw [← HLL.out, HM.out] at hmem
  have e1 : ((i + 1 : Nat) : Int) = (i : Int) + 1 := by omega
  rw [e1] at hmem
  refine hmem.mono ?_
  clear hmem
  rintro e w1 hp
  obtain ⟨v, rfl, ⟨fg, rfl, hfb⟩, hf1⟩ := hp
  have HV := Lib.hid (show FaultV w1 _ (L : Int) ((7 : Nat) : Int) from ⟨fg, rfl, hfb⟩)
  have hk0 : Bk w1 w.heap.size 26 S4.empty.cells := ((Bk.new w _ _).alloc _).fr hf1 (by simp)
  have hk1 : Bk w1 (w.heap.size + 1) 26 S4.empty.cells := by
    have := (Bk.new (w.alloc (.cells S4.empty.cells 26)) 26 S4.empty.cells).fr hf1 (by simp)
    simpa using this
  have HK1 := Lib.hid hk0; have HM1 := Lib.hid hk1
  have HF1 := Lib.hid ((((Fr.refl [] w).alloc (.cells S4.empty.cells 26)).alloc (.cells S4.empty.cells 26)).trans hf1)
  clear hf1 hfb hk0 hk1
  obtain ⟨⟨k0, k1, k2, k3⟩, z0, z1, z2, z3⟩ := S4.four HK1.out
  obtain ⟨⟨l0, l1, l2, l3⟩, y0, y1, y2, y3⟩ := S4.four HM1.out
  have hlt1 := HK1.out.lt
  have hlt2 := HM1.out.lt
  unfold S4.val S4.empty
  go_wp2_with fail
  refine bodyPost_ret (v := .tuple #[S4.empty.val, .int .i64 0, .iface 65 (.pointer (some ⟨fg, 0, none⟩))]) (by simp [results, Try.results39, go_sem, k0, k1, k2, k3, S4.val, S4.empty]) rfl ?_
  exact MemberPost.err rfl ((HV.out.four HM1.out _ _ _ _).four (HK1.out.far4 (by omega) _ _ _ _) _ _ _ _) (four_set (t := 0) _ _ _ _ (four_set (t := 0) _ _ _ _ HF1.out (by omega)) (Nat.le_refl _))
theorem bracketS_last {bs : List UInt8} {i : Nat} (hi : i + 1 = bs.length) : bracketS bs i = .error (bs.length, 7) := by
  unfold bracketS
  rw [if_neg (by omega), brkL, if_pos (.inl rfl), member_past (by omega)]
  rfl
theorem bracket_any {w : World} {A : Option Addr} {bs : List UInt8} {c : Nat} (h : Bytes w A bs) (i : Nat) (hl : bs.length ≤ 1000000000) (hi : i < bs.length) (hc : bs.length ≤ c) (hA : A = none → c = 0) (hcm : c ≤ maxLen) (hg : GlobOk w) (h91 : bn bs i = 91) :
    Calls Try.prog 39 #[.slice A bs.length c, .int .i64 (i : Int)] w (MemberPost w (bracketS bs i)) := by
  by_cases hlast : i + 1 = bs.length
  · rw [bracketS_last hlast]
    exact bracket_last h i hl hlast hc hA hcm hg h91
  · by_cases h94 : bn bs (i + 1) = 94
    · have e : bracketS bs i = brkE true i (brkL bs (i + 2) (bs.length + 1) (i + 2) S4.empty) := by unfold bracketS; rw [if_pos ⟨by omega, h94⟩]
      rw [e]
      exact bracket_not h i hl (by omega) hc hA hcm hg h91 h94
    · have e : bracketS bs i = brkE false i (brkL bs (i + 1) (bs.length + 1) (i + 1) S4.empty) := by unfold bracketS; rw [if_neg (by omega)]
      rw [e]
      exact bracket_plain h i hl (by omega) hc hA hcm hg h91 h94
end Go.Proofs.Ytehnkcfnflnpjaa
