/-
  The walk of OutqFull: just as many bytes as there is room for are taken. For every input.
-/
import Derived.Test.YtphgpgdilipakaaQuLaw
import Derived.Test.YtphgpgdilipakaaCode
import Derived.Test.YtphgpgdilipakaaRead
namespace Go.Proofs.Ytphgpgdilipakaa
open Go.RowKit
set_option linter.unusedVariables false
set_option linter.unusedSimpArgs false

theorem byteVals_zeros (n : Nat) : byteVals (List.replicate n 0) = List.replicate n (.int .u8 0) := by simp [byteVals]
set_option maxRecDepth 100000 in
set_option maxHeartbeats 4000000 in
theorem full_walk (room n more : Int) (w : World) (h0 : 0 ≤ room) (h1 : room ≤ 65535) (h2 : 0 ≤ n) (h3 : n ≤ 65535) (h4 : 0 ≤ more) (h5 : more ≤ 65535) :
    Calls Try.prog 4 #[.int .u16 room, .int .u16 n, .int .u16 more] w fun e w' => e = .returned (.bool true) ∧ Below w.heap.size w w' := by
  go_enter Try.func4, Try.ntmps4
  go_wp2_with fail
  refine (awake_any w).mono ?_
  rintro e w1 ⟨rfl, hf1⟩
  have HF1 := Lib.hid hf1; clear hf1
  obtain ⟨a, ha⟩ : ∃ a : Nat, n % 400 = a := ⟨(n % 400).toNat, by omega⟩
  obtain ⟨b, hb⟩ : ∃ b : Nat, more % 400 = b := ⟨(more % 400).toNat, by omega⟩
  have ha4 : a < 400 := by omega
  have hb4 : b < 400 := by omega
  have HA := Lib.hid ha; have HB := Lib.hid hb; clear ha hb
  have hk1 : 1 ≤ 1 + room % 300 := by omega
  have hk2 : 1 + room % 300 ≤ 300 := by omega
  go_wp2_with fail
  generalize 1 + room % 300 = k at *
  refine (new_yes 0 k k w1 (by omega) (by omega) (by omega) (by omega)).mono ?_
  rintro e w2 ⟨rfl, hw2⟩
  have hq := que_new (w := w1) (lo := 0) (hi := k) (room := k)
  rw [← hw2] at hq
  have hf2 : Fr [] w w2 := by rw [hw2]; exact HF1.out.alloc _
  have hq0 : w.heap.size ≤ w1.heap.size := HF1.out.size
  have HQ := Lib.hid hq; have HF2 := Lib.hid hf2; clear hq hf2 hw2
  generalize hqq : w1.heap.size = q at *
  clear hqq HF1
  obtain ⟨i0, hi0, hz0, hz1, hz2⟩ := u8parts
  go_wp2_with (refine wpList_make1 rfl (.tmp 32) (.tmp 32) 27 rfl 5 i0 _ Try.underlying27 hi0 hz0 hz1 rfl _ a (by rfl) (by rfl) HA.out (by rw [hz2]; omega) (by unfold maxLen; omega) ?_; intro w3 hat hfr; have HAT := Lib.hid hat; have HFR := Lib.hid hfr; clear hat hfr)
  rw [HA.out, HB.out]
  rw [← byteVals_zeros] at HAT
  have hq3 := HQ.out.fr_nil HFR.out
  have hf3 : Fr [] w w3 := HF2.out.trans HFR.out
  have HQ3 := Lib.hid hq3; have HF3 := Lib.hid hf3; clear hq3 hf3 HQ HF2 HFR
  by_cases hfit : (a : Int) ≤ k
  · refine (put_yes' HQ3.out (by omega) _ a _ HAT.out (by simp) (by simp; omega) (by omega) (by omega)).mono ?_
    rintro e w4 ⟨rfl, hq4, hf4⟩
    have hx : ([] ++ List.replicate a 0 : List UInt8).length = a := by simp
    generalize ([] ++ List.replicate a 0 : List UInt8) = X4 at *
    generalize markB 0 k X4.length false = ab4 at *
    have hf4' : Fr [] w w4 := HF3.out.trans' hf4 (by simp; omega)
    have HQ4 := Lib.hid hq4; have HF4 := Lib.hid hf4'; have HX := Lib.hid hx; clear hq4 hf4 hf4' hx HQ3 HF3 HAT
    go_wp2_with (first
      | (go_at_call 12; refine (held_any HQ4.out).mono ?_; rw [HX.out]; rintro e w6 ⟨rfl, rfl⟩)
      | (refine wpList_make1 rfl (.tmp 63) (.tmp 63) 27 rfl 5 i0 _ Try.underlying27 hi0 hz0 hz1 rfl _ b (by rfl) (by rfl) rfl (by rw [hz2]; omega) (by unfold maxLen; omega) ?_; intro w5 hat hfr; have HAT := Lib.hid hat; have HFR := Lib.hid hfr; clear hat hfr))
    rw [← byteVals_zeros] at HAT
    have hq5 := HQ4.out.fr_nil HFR.out
    have hf5 : Fr [] w w5 := HF4.out.trans HFR.out
    have HQ5 := Lib.hid hq5; have HF5 := Lib.hid hf5; clear hq5 hf5 HQ4 HF4 HFR
    by_cases hfit2 : (b : Int) ≤ k - a
    · refine (put_yes' HQ5.out (by omega) _ b _ HAT.out (by simp) (by rw [HX.out]; omega) (by omega) (by omega)).mono ?_
      rintro e w6 ⟨rfl, hq6, hf6⟩
      have hx : (X4 ++ List.replicate b 0 : List UInt8).length = a + b := by rw [List.length_append, HX.out]; simp
      generalize (X4 ++ List.replicate b 0 : List UInt8) = X6 at *
      generalize markB 0 k X6.length _ = ab6 at *
      have hf6' : Fr [] w w6 := HF5.out.trans' hf6 (by simp; omega)
      have HQ6 := Lib.hid hq6; have HF6 := Lib.hid hf6'; have HX6 := Lib.hid hx; clear hq6 hf6 hf6' hx HQ5 HF5 HAT
      go_wp2_with (first
        | (go_at_call 12; refine (held_any HQ6.out).mono ?_; rw [HX6.out]; rintro e w7 ⟨rfl, rfl⟩)
        | (go_at_call 14; refine (queued_any HQ6.out).mono ?_; rintro e w7 ⟨rfl, rfl⟩))
      go_ret
      exact ⟨by simp, HF6.out.below_nil⟩
    · refine (put_no HQ5.out (by omega) (by omega) _ b _ (by unfold maxLen; omega) (by rw [HX.out]; omega)).mono ?_
      rintro e w6 ⟨rfl, d6, hw6⟩
      have hq6 : Que w6 q 0 k k X4 ab4 (0 + a) 0 := by rw [hw6]; exact HQ5.out.fr_nil ((Fr.refl _ _).drewN d6)
      have hf6 : Fr [] w w6 := by rw [hw6]; exact HF5.out.drewN d6
      have HQ6 := Lib.hid hq6; have HF6 := Lib.hid hf6; clear hq6 hf6 hw6 HQ5 HF5 HAT
      go_wp2_with (first
        | (go_at_call 12; refine (held_any HQ6.out).mono ?_; rw [HX.out]; rintro e w7 ⟨rfl, rfl⟩)
        | (go_at_call 14; refine (queued_any HQ6.out).mono ?_; rintro e w7 ⟨rfl, rfl⟩)
        | (go_at_call 15; refine (code_errno 17 _ (by omega) (by omega)).mono ?_; rintro e w7 ⟨rfl, rfl⟩))
      go_ret
      exact ⟨by simp, HF6.out.below_nil⟩
  · refine (put_no HQ3.out (by omega) (by omega) _ a _ (by unfold maxLen; omega) (by simp; omega)).mono ?_
    rintro e w4 ⟨rfl, d4, hw4⟩
    have hq4 : Que w4 q 0 k k [] false 0 0 := by rw [hw4]; exact HQ3.out.fr_nil ((Fr.refl _ _).drewN d4)
    have hf4 : Fr [] w w4 := by rw [hw4]; exact HF3.out.drewN d4
    have HQ4 := Lib.hid hq4; have HF4 := Lib.hid hf4; clear hq4 hf4 hw4 HQ3 HF3 HAT
    go_wp2_with (first
      | (go_at_call 12; refine (held_any HQ4.out).mono ?_; rintro e w6 ⟨rfl, rfl⟩)
      | (refine wpList_make1 rfl (.tmp 63) (.tmp 63) 27 rfl 5 i0 _ Try.underlying27 hi0 hz0 hz1 rfl _ b (by rfl) (by rfl) rfl (by rw [hz2]; omega) (by unfold maxLen; omega) ?_; intro w5 hat hfr; have HAT := Lib.hid hat; have HFR := Lib.hid hfr; clear hat hfr))
    rw [← byteVals_zeros] at HAT
    have hq5 := HQ4.out.fr_nil HFR.out
    have hf5 : Fr [] w w5 := HF4.out.trans HFR.out
    have HQ5 := Lib.hid hq5; have HF5 := Lib.hid hf5; clear hq5 hf5 HQ4 HF4 HFR
    by_cases hfit2 : (b : Int) ≤ k
    · refine (put_yes' HQ5.out (by omega) _ b _ HAT.out (by simp) (by simp; omega) (by omega) (by omega)).mono ?_
      rintro e w6 ⟨rfl, hq6, hf6⟩
      have hx : ([] ++ List.replicate b 0 : List UInt8).length = b := by simp
      generalize ([] ++ List.replicate b 0 : List UInt8) = X6 at *
      generalize markB 0 k X6.length _ = ab6 at *
      have hf6' : Fr [] w w6 := HF5.out.trans' hf6 (by simp; omega)
      have HQ6 := Lib.hid hq6; have HF6 := Lib.hid hf6'; have HX6 := Lib.hid hx; clear hq6 hf6 hf6' hx HQ5 HF5 HAT
      go_wp2_with (first
        | (go_at_call 12; refine (held_any HQ6.out).mono ?_; rw [HX6.out]; rintro e w7 ⟨rfl, rfl⟩)
        | (go_at_call 14; refine (queued_any HQ6.out).mono ?_; rintro e w7 ⟨rfl, rfl⟩))
      go_ret
      exact ⟨by simp, HF6.out.below_nil⟩
    · refine (put_no HQ5.out (by omega) (by omega) _ b _ (by unfold maxLen; omega) (by simp; omega)).mono ?_
      rintro e w6 ⟨rfl, d6, hw6⟩
      have hq6 : Que w6 q 0 k k [] false 0 0 := by rw [hw6]; exact HQ5.out.fr_nil ((Fr.refl _ _).drewN d6)
      have hf6 : Fr [] w w6 := by rw [hw6]; exact HF5.out.drewN d6
      have HQ6 := Lib.hid hq6; have HF6 := Lib.hid hf6; clear hq6 hf6 hw6 HQ5 HF5 HAT
      go_wp2_with (first
        | (go_at_call 12; refine (held_any HQ6.out).mono ?_; rintro e w7 ⟨rfl, rfl⟩)
        | (go_at_call 14; refine (queued_any HQ6.out).mono ?_; rintro e w7 ⟨rfl, rfl⟩)
        | (go_at_call 15; refine (code_errno 17 _ (by omega) (by omega)).mono ?_; rintro e w7 ⟨rfl, rfl⟩))
      go_ret
      exact ⟨by simp, HF6.out.below_nil⟩

open Go.ChangeShapes Go.WideShapes Go.ChangeAt in
theorem outqFull_open {H : Type} {enc : TypeId × Value → H} (W : World) (base : Nat) (v0 : Value) (d0 : DataW H) (p0 : List MemPlace) (v1 : Value) (d1 : DataW H) (p1 : List MemPlace) (v2 : Value) (d2 : DataW H) (p2 : List MemPlace)
    (k0 : Value.okWide Try.prog W .any base 37 v0) (k1 : Value.okWide Try.prog W .any base 37 v1) (k2 : Value.okWide Try.prog W .any base 37 v2)
    (h0 : DataW.Trod enc Try.prog W 0 (fun _ => true) true 37 v0 d0 p0) (h1 : DataW.Trod enc Try.prog W 0 (fun _ => true) true 37 v1 d1 p1) (h2 : DataW.Trod enc Try.prog W 0 (fun _ => true) true 37 v2 d2 p2) :
    Calls Try.prog 4 #[v0, v1, v2] W fun e W' => e = .returned (.bool true) ∧ Below W.heap.size W W' := by
  obtain ⟨a, rfl, wa⟩ := arg_int Try.underlying37 k0 h0
  obtain ⟨b, rfl, wb⟩ := arg_int Try.underlying37 k1 h1
  obtain ⟨c, rfl, wc⟩ := arg_int Try.underlying37 k2 h2
  have ba : 0 ≤ a ∧ a ≤ 65535 := by simpa [Lit.wf, IntKind.min, IntKind.max, IntKind.signed, IntKind.bits] using wa
  have bb : 0 ≤ b ∧ b ≤ 65535 := by simpa [Lit.wf, IntKind.min, IntKind.max, IntKind.signed, IntKind.bits] using wb
  have bc : 0 ≤ c ∧ c ≤ 65535 := by simpa [Lit.wf, IntKind.min, IntKind.max, IntKind.signed, IntKind.bits] using wc
  exact full_walk a b c W ba.1 ba.2 bb.1 bb.2 bc.1 bc.2
end Go.Proofs.Ytphgpgdilipakaa
