/-
  The walk of ConnIdles. No conditions.
-/
import Derived.Test.YtecdghjimcfhpaaGreatDoorCn3
import Derived.Test.YtecdghjimcfhpaaGreatDoorRead
namespace Go.Proofs.YtecdghjimcfhpaaGreatDoor
open Go.RowKit Go.ChangeShapes Go.WideShapes Go.ChangeAt Go.Deep
set_option linter.unusedVariables false
set_option linter.unusedSimpArgs false

set_option maxRecDepth 100000 in
set_option maxHeartbeats 4000000 in
theorem idles_walk {w : World} (m0 m1 m2 : Nat) (h0 : m0 ≤ 255) (h1 : m1 ≤ 255) (h2 : m2 ≤ 255) (b : Bool) :
    Calls Tryz.prog 3 #[.int .u8 (m0 : Int), .int .u8 (m1 : Int), .int .u8 (m2 : Int), .bool b] w fun e w' => e = .returned (.bool true) ∧ Below w.heap.size w w' := by
  obtain ⟨B, hB⟩ : ∃ B, B = w.heap.size := ⟨_, rfl⟩
  rw [← hB]
  go_enter Tryz.func3, Tryz.ntmps3
  go_wp2_with fail
  go_at_call 5
  refine (awake_any w).mono ?_
  rintro e w1 ⟨rfl, hb1⟩
  rw [← hB] at hb1
  have HB1 := Lib.hid hb1; have HS1 := Lib.hid (show B ≤ w1.heap.size from by rw [hB]; exact hb1.size)
  clear hb1 hB
  go_wp2_with fail
  go_at_call 6
  refine (cnew_ok w1 10 (by decide) 9 0 1 1 (m0 : Int) 0 (by omega) (by omega) (by omega) (by omega) (by omega) (by omega)).mono ?_
  rintro e w2 ⟨g, q, r, rfl, hc, hf⟩
  have hc' : Cn w2 B g q r ⟨10, 9, [], false⟩ (Q0 0 1 1) 0 0 (m0 : Int) := ⟨hc.1, hc.2.1, Nat.le_trans HS1.out hc.2.2.1, Nat.le_trans HS1.out hc.2.2.2.1, by obtain ⟨v, k1, k2, k3⟩ := hc.2.2.2.2; exact ⟨v, k1, Nat.le_trans HS1.out k2, fun k hk => Nat.le_trans HS1.out (k3 k hk)⟩⟩
  have HC := Lib.hid hc'; have HB := Lib.hid (HB1.out.trans (hf.below_nil.mono HS1.out)); have HS := Lib.hid (Nat.le_trans HS1.out hf.size)
  clear hc hc' hf HB1 HS1
  cases b with
  | true =>
    by_cases hz : m0 = 0
    · subst hz
      go_wp2_with (refine wpList_same rfl 31 (.tmp 33) rfl 5 Tryz.underlying31 Tryz.underlying5 ⟨w2.heap.size, 0, none⟩ 1 1 (by rfl) (byteVals [120]) (At.of_bk (n := 1) (Bk.new w2 5 #[.int .u8 120]) (by rfl)) ?_; intro w3 hat hfr; have HAT := Lib.hid hat; have HF3 := Lib.hid (((Fr.refl [] w2).alloc _).trans' hfr (by simp)); clear hat hfr)
      go_at_call 7
      refine (take_some (HC.out.fr_nil HF3.out) (Nat.le_trans HS.out HF3.out.size) (by decide) (by decide) (m1 : Int) (by omega) (bs := [120]) rfl HAT.out (by decide) (by decide) (by decide) (by decide)).mono ?_
      rintro e w4 ⟨rfl, hc, hb⟩
      have HC4 := Lib.hid hc; have HB4 := Lib.hid ((HB.out.trans (HF3.out.below_nil.mono HS.out)).trans hb); have HS4 := Lib.hid (sizeB (Nat.le_trans HS.out HF3.out.size) hb)
      clear hc hb HC HF3 HS HB HAT
      · clear h0
        go_wp2_with fail
        go_at_call 8
        refine (idle_off HC4.out _).mono ?_
        rintro e w5 ⟨rfl, rfl⟩
        have HC5 := HC4; have HB5 := HB4; have HS5 := HS4
        clear HC4 HB4 HS4
        go_wp2_with fail
        go_at_call 9
        refine (finish_low HC5.out HS5.out (by omega)).mono ?_
        rintro e w6 ⟨rfl, hc, hb⟩
        have HC6 := Lib.hid hc; have HB6 := Lib.hid (HB5.out.trans hb); have HS6 := Lib.hid (sizeB HS5.out hb)
        clear hc hb HC5 HB5 HS5
        go_wp2_with fail
        go_at_call 10
        refine (shut_two HC6.out HS6.out).mono ?_
        rintro e w7 ⟨rfl, hc, hb⟩
        have HC7 := Lib.hid hc; have HB7 := Lib.hid (HB6.out.trans hb); have HS7 := Lib.hid (sizeB HS6.out hb)
        clear hc hb HC6 HB6 HS6
        go_wp2_with fail
        go_at_call 8
        refine (idle_shut HC7.out _).mono ?_
        rintro e w8 ⟨rfl, rfl⟩
        go_wp2_with fail
        go_at_call 11
        refine (state_any HC7.out).mono ?_
        rintro e w8 ⟨rfl, rfl⟩
        go_wp2_with fail
        go_ret
        exact ⟨rfl, HB7.out⟩
    · have t7 : decide ((0 : Int) < (m0 : Int)) = true := decide_eq_true (by omega)
      go_wp2_with (refine wpList_same rfl 31 (.tmp 33) rfl 5 Tryz.underlying31 Tryz.underlying5 ⟨w2.heap.size, 0, none⟩ 1 1 (by rfl) (byteVals [120]) (At.of_bk (n := 1) (Bk.new w2 5 #[.int .u8 120]) (by rfl)) ?_; intro w3 hat hfr; have HAT := Lib.hid hat; have HF3 := Lib.hid (((Fr.refl [] w2).alloc _).trans' hfr (by simp)); clear hat hfr)
      go_at_call 7
      refine (take_some (HC.out.fr_nil HF3.out) (Nat.le_trans HS.out HF3.out.size) (by decide) (by decide) (m1 : Int) (by omega) (bs := [120]) rfl HAT.out (by decide) (by decide) (by decide) (by decide)).mono ?_
      rintro e w4 ⟨rfl, hc, hb⟩
      have HC4 := Lib.hid hc; have HB4 := Lib.hid ((HB.out.trans (HF3.out.below_nil.mono HS.out)).trans hb); have HS4 := Lib.hid (sizeB (Nat.le_trans HS.out HF3.out.size) hb)
      clear hc hb HC HF3 HS HB HAT
      · skip
        go_wp2_with fail
        go_at_call 8
        refine (idle_low HC4.out (by omega) (by omega) _ (by omega) (by omega)).mono ?_
        rintro e w5 ⟨rfl, hf⟩
        have HC5 := Lib.hid (HC4.out.fr_nil hf); have HB5 := Lib.hid (HB4.out.trans (hf.below_nil.mono HS4.out)); have HS5 := Lib.hid (Nat.le_trans HS4.out hf.size)
        clear hf
        have hd : decide ((m0 : Int) ≤ ((m1 : Int) + (m2 : Int)) - (m1 : Int)) = decide (m0 ≤ m2) := by rw [decide_eq_decide]; omega
        rw [hd]
        clear hd
        by_cases h2 : m0 ≤ m2
        · have t5 : decide (m0 ≤ m2) = true := decide_eq_true h2
          have t6 : decide ((m0 : Int) ≤ (m2 : Int)) = true := decide_eq_true (by omega)
          rw [t5]
          clear HC4 HB4 HS4
          go_wp2_with fail
          go_at_call 9
          refine (finish_low HC5.out HS5.out (by omega)).mono ?_
          rintro e w6 ⟨rfl, hc, hb⟩
          have HC6 := Lib.hid hc; have HB6 := Lib.hid (HB5.out.trans hb); have HS6 := Lib.hid (sizeB HS5.out hb)
          clear hc hb HC5 HB5 HS5
          go_wp2_with fail
          go_at_call 10
          refine (shut_two HC6.out HS6.out).mono ?_
          rintro e w7 ⟨rfl, hc, hb⟩
          have HC7 := Lib.hid hc; have HB7 := Lib.hid (HB6.out.trans hb); have HS7 := Lib.hid (sizeB HS6.out hb)
          clear hc hb HC6 HB6 HS6
          go_wp2_with fail
          go_at_call 8
          refine (idle_shut HC7.out _).mono ?_
          rintro e w8 ⟨rfl, rfl⟩
          go_wp2_with fail
          go_at_call 11
          refine (state_any HC7.out).mono ?_
          rintro e w8 ⟨rfl, rfl⟩
          go_wp2_with fail
          go_ret
          exact ⟨rfl, HB7.out⟩
        · have t5 : decide (m0 ≤ m2) = false := decide_eq_false h2
          have t6 : decide ((m0 : Int) ≤ (m2 : Int)) = false := decide_eq_false (by omega)
          rw [t5]
          clear HC4 HB4 HS4
          go_wp2_with fail
          go_at_call 9
          refine (finish_low HC5.out HS5.out (by omega)).mono ?_
          rintro e w6 ⟨rfl, hc, hb⟩
          have HC6 := Lib.hid hc; have HB6 := Lib.hid (HB5.out.trans hb); have HS6 := Lib.hid (sizeB HS5.out hb)
          clear hc hb HC5 HB5 HS5
          go_wp2_with fail
          go_at_call 10
          refine (shut_two HC6.out HS6.out).mono ?_
          rintro e w7 ⟨rfl, hc, hb⟩
          have HC7 := Lib.hid hc; have HB7 := Lib.hid (HB6.out.trans hb); have HS7 := Lib.hid (sizeB HS6.out hb)
          clear hc hb HC6 HB6 HS6
          go_wp2_with fail
          go_at_call 8
          refine (idle_shut HC7.out _).mono ?_
          rintro e w8 ⟨rfl, rfl⟩
          go_wp2_with fail
          go_at_call 11
          refine (state_any HC7.out).mono ?_
          rintro e w8 ⟨rfl, rfl⟩
          go_wp2_with fail
          go_ret
          exact ⟨rfl, HB7.out⟩
  | false =>
    by_cases hz : m0 = 0
    · subst hz
      go_wp2_with fail
      go_at_call 7
      refine (take_none HC.out HS.out (by decide) (by decide) (m1 : Int) (by omega) (bs := []) rfl (At.nil_ _ _) (by decide) (by decide) (by decide) rfl).mono ?_
      rintro e w4 ⟨rfl, hc, hb⟩
      have HC4 := Lib.hid hc; have HB4 := Lib.hid (HB.out.trans hb); have HS4 := Lib.hid (sizeB HS.out hb)
      clear hc hb HC HS HB
      · clear h0
        go_wp2_with fail
        go_at_call 8
        refine (idle_off HC4.out _).mono ?_
        rintro e w5 ⟨rfl, rfl⟩
        have HC5 := HC4; have HB5 := HB4; have HS5 := HS4
        clear HC4 HB4 HS4
        go_wp2_with fail
        go_at_call 9
        refine (finish_low HC5.out HS5.out (by omega)).mono ?_
        rintro e w6 ⟨rfl, hc, hb⟩
        have HC6 := Lib.hid hc; have HB6 := Lib.hid (HB5.out.trans hb); have HS6 := Lib.hid (sizeB HS5.out hb)
        clear hc hb HC5 HB5 HS5
        go_wp2_with fail
        go_at_call 10
        refine (shut_two HC6.out HS6.out).mono ?_
        rintro e w7 ⟨rfl, hc, hb⟩
        have HC7 := Lib.hid hc; have HB7 := Lib.hid (HB6.out.trans hb); have HS7 := Lib.hid (sizeB HS6.out hb)
        clear hc hb HC6 HB6 HS6
        go_wp2_with fail
        go_at_call 8
        refine (idle_shut HC7.out _).mono ?_
        rintro e w8 ⟨rfl, rfl⟩
        go_wp2_with fail
        go_at_call 11
        refine (state_any HC7.out).mono ?_
        rintro e w8 ⟨rfl, rfl⟩
        go_wp2_with fail
        go_ret
        exact ⟨rfl, HB7.out⟩
    · have t7 : decide ((0 : Int) < (m0 : Int)) = true := decide_eq_true (by omega)
      go_wp2_with fail
      go_at_call 7
      refine (take_none HC.out HS.out (by decide) (by decide) (m1 : Int) (by omega) (bs := []) rfl (At.nil_ _ _) (by decide) (by decide) (by decide) rfl).mono ?_
      rintro e w4 ⟨rfl, hc, hb⟩
      have HC4 := Lib.hid hc; have HB4 := Lib.hid (HB.out.trans hb); have HS4 := Lib.hid (sizeB HS.out hb)
      clear hc hb HC HS HB
      · skip
        go_wp2_with fail
        go_at_call 8
        refine (idle_low HC4.out (by omega) (by omega) _ (by omega) (by omega)).mono ?_
        rintro e w5 ⟨rfl, hf⟩
        have HC5 := Lib.hid (HC4.out.fr_nil hf); have HB5 := Lib.hid (HB4.out.trans (hf.below_nil.mono HS4.out)); have HS5 := Lib.hid (Nat.le_trans HS4.out hf.size)
        clear hf
        have hd : decide ((m0 : Int) ≤ (m2 : Int) - 0) = decide (m0 ≤ m2) := by rw [decide_eq_decide]; omega
        rw [hd]
        clear hd
        by_cases h2 : m0 ≤ m2
        · have t5 : decide (m0 ≤ m2) = true := decide_eq_true h2
          have t6 : decide ((m0 : Int) ≤ (m2 : Int)) = true := decide_eq_true (by omega)
          rw [t5]
          clear HC4 HB4 HS4
          go_wp2_with fail
          go_at_call 9
          refine (finish_low HC5.out HS5.out (by omega)).mono ?_
          rintro e w6 ⟨rfl, hc, hb⟩
          have HC6 := Lib.hid hc; have HB6 := Lib.hid (HB5.out.trans hb); have HS6 := Lib.hid (sizeB HS5.out hb)
          clear hc hb HC5 HB5 HS5
          go_wp2_with fail
          go_at_call 10
          refine (shut_two HC6.out HS6.out).mono ?_
          rintro e w7 ⟨rfl, hc, hb⟩
          have HC7 := Lib.hid hc; have HB7 := Lib.hid (HB6.out.trans hb); have HS7 := Lib.hid (sizeB HS6.out hb)
          clear hc hb HC6 HB6 HS6
          go_wp2_with fail
          go_at_call 8
          refine (idle_shut HC7.out _).mono ?_
          rintro e w8 ⟨rfl, rfl⟩
          go_wp2_with fail
          go_at_call 11
          refine (state_any HC7.out).mono ?_
          rintro e w8 ⟨rfl, rfl⟩
          go_wp2_with fail
          go_ret
          exact ⟨rfl, HB7.out⟩
        · have t5 : decide (m0 ≤ m2) = false := decide_eq_false h2
          have t6 : decide ((m0 : Int) ≤ (m2 : Int)) = false := decide_eq_false (by omega)
          rw [t5]
          clear HC4 HB4 HS4
          go_wp2_with fail
          go_at_call 9
          refine (finish_low HC5.out HS5.out (by omega)).mono ?_
          rintro e w6 ⟨rfl, hc, hb⟩
          have HC6 := Lib.hid hc; have HB6 := Lib.hid (HB5.out.trans hb); have HS6 := Lib.hid (sizeB HS5.out hb)
          clear hc hb HC5 HB5 HS5
          go_wp2_with fail
          go_at_call 10
          refine (shut_two HC6.out HS6.out).mono ?_
          rintro e w7 ⟨rfl, hc, hb⟩
          have HC7 := Lib.hid hc; have HB7 := Lib.hid (HB6.out.trans hb); have HS7 := Lib.hid (sizeB HS6.out hb)
          clear hc hb HC6 HB6 HS6
          go_wp2_with fail
          go_at_call 8
          refine (idle_shut HC7.out _).mono ?_
          rintro e w8 ⟨rfl, rfl⟩
          go_wp2_with fail
          go_at_call 11
          refine (state_any HC7.out).mono ?_
          rintro e w8 ⟨rfl, rfl⟩
          go_wp2_with fail
          go_ret
          exact ⟨rfl, HB7.out⟩
set_option maxRecDepth 100000 in
theorem connIdles_open {H : Type} {enc : TypeId × Value → H} (W : World) (base : Nat) (v0 : Value) (d0 : DataW H) (p0 : List MemPlace) (v1 : Value) (d1 : DataW H) (p1 : List MemPlace) (v2 : Value) (d2 : DataW H) (p2 : List MemPlace) (v3 : Value) (d3 : DataW H) (p3 : List MemPlace)
    (k0 : Value.okWide Tryz.prog W .any base 5 v0) (k1 : Value.okWide Tryz.prog W .any base 5 v1) (k2 : Value.okWide Tryz.prog W .any base 5 v2) (k3 : Value.okWide Tryz.prog W .any base 4 v3) (h0 : DataW.Trod enc Tryz.prog W 0 (fun _ => true) true 5 v0 d0 p0) (h1 : DataW.Trod enc Tryz.prog W 0 (fun _ => true) true 5 v1 d1 p1) (h2 : DataW.Trod enc Tryz.prog W 0 (fun _ => true) true 5 v2 d2 p2) (h3 : DataW.Trod enc Tryz.prog W 0 (fun _ => true) true 4 v3 d3 p3) :
    Calls Tryz.prog 3 #[v0, v1, v2, v3] W fun e W' => e = .returned (.bool true) ∧ Below W.heap.size W W' := by
  obtain ⟨n, rfl, hn⟩ := arg_int Tryz.underlying5 k0 h0
  obtain ⟨m, rfl, hm⟩ := arg_int Tryz.underlying5 k1 h1
  obtain ⟨l, rfl, hl⟩ := arg_int Tryz.underlying5 k2 h2
  obtain ⟨b, rfl⟩ := arg_bool Tryz.underlying4 k3 h3
  have b0 : 0 ≤ n ∧ n ≤ 255 := by simpa [Lit.wf, IntKind.min, IntKind.max, IntKind.signed, IntKind.bits] using hn
  have b1 : 0 ≤ m ∧ m ≤ 255 := by simpa [Lit.wf, IntKind.min, IntKind.max, IntKind.signed, IntKind.bits] using hm
  have b2 : 0 ≤ l ∧ l ≤ 255 := by simpa [Lit.wf, IntKind.min, IntKind.max, IntKind.signed, IntKind.bits] using hl
  obtain ⟨n', rfl⟩ := Int.eq_ofNat_of_zero_le b0.1
  obtain ⟨m', rfl⟩ := Int.eq_ofNat_of_zero_le b1.1
  obtain ⟨l', rfl⟩ := Int.eq_ofNat_of_zero_le b2.1
  exact idles_walk n' m' l' (by omega) (by omega) (by omega) b
end Go.Proofs.YtecdghjimcfhpaaGreatDoor
