/-
  The walk of RecordsLong. No conditions.
-/
import Derived.Test.YtdjmhflfhepmmaaDoorRc4
import Derived.Test.YtdjmhflfhepmmaaDoorRead
import Derived.Test.YtdjmhflfhepmmaaDoorCode
namespace Go.Proofs.YtdjmhflfhepmmaaDoor
open Go.RowKit Go.ChangeShapes Go.WideShapes Go.ChangeAt Go.Deep
set_option linter.unusedVariables false
set_option linter.unusedSimpArgs false

theorem zeros_bytes (n : Nat) : List.replicate n (Value.int .u8 0) = byteVals (List.replicate n 0) := by simp [byteVals, List.map_replicate]
theorem fst_zeros (n : Nat) : fstM 10 (List.replicate n 0) false = (0, 0, false) := by
  rw [fst_miss 10 _ (by simp)]; simp
set_option maxRecDepth 100000 in
set_option maxHeartbeats 4000000 in
theorem long_walk {w : World} (m1 m2 : Nat) (h1 : m1 ≤ 65535) (h2 : m2 ≤ 65535) :
    Calls Tryd.prog 5 #[.int .u16 (m1 : Int), .int .u16 (m2 : Int)] w fun e w' => e = .returned (.bool true) ∧ Below w.heap.size w w' := by
  obtain ⟨i0, hi0, hz0, hz1, hz2⟩ := u8parts
  obtain ⟨B, hB⟩ : ∃ B, B = w.heap.size := ⟨_, rfl⟩
  obtain ⟨k, hk⟩ : ∃ k, 1 + m1 % 300 = k := ⟨_, rfl⟩
  obtain ⟨z, hz⟩ : ∃ z, m2 % 400 = z := ⟨_, rfl⟩
  have hk1 : 1 ≤ k ∧ k ≤ 300 := by omega
  have hz4 : z < 400 := by omega
  have hrem : (m1 : Int).tmod 300 = (k : Int) - 1 := by
    have : (m1 : Int).tmod 300 = ((m1 % 300 : Nat) : Int) := rfl
    omega
  have hadd : (1 : Int) + ((k : Int) - 1) = (k : Int) := by omega
  have hrem2 : (m2 : Int).tmod 400 = (z : Int) := by rw [← hz]; rfl
  rw [← hB]
  clear hk hz
  go_enter Tryd.func5, Tryd.ntmps5
  go_wp2_with fail
  go_at_call 6
  refine (awake_any w).mono ?_
  rintro e w1 ⟨rfl, hb1⟩
  rw [← hB] at hb1
  have HB1 := Lib.hid hb1; have HS1 := Lib.hid (show B ≤ w1.heap.size from by rw [hB]; exact hb1.size)
  clear hb1 hB
  go_wp2_with fail
  go_at_call 8
  refine (newB HS1.out 10 (by decide) (k : Int) (by omega)).mono ?_
  rintro e w2 ⟨q, rfl, hc, hf⟩
  have HC2 := Lib.hid hc; have HB2 := Lib.hid (HB1.out.trans (hf.below_nil.mono HS1.out)); have HS2 := Lib.hid (Nat.le_trans HS1.out hf.size)
  clear hc hf HB1 HS1
  go_wp2_with (refine wpList_make1 rfl (.tmp 32) (.tmp 32) 24 rfl 5 i0 _ Tryd.underlying24 hi0 hz0 hz1 rfl _ z (by rfl) (by rfl) rfl (by rw [hz2]; omega) (by unfold maxLen; omega) ?_; intro w3 hat hfr; have HAT : Hid (Bytes w3 (some ⟨w2.heap.size, 0, none⟩) (List.replicate z 0)) := Lib.hid (by rw [Bytes, ← zeros_bytes]; exact hat); have HFR := Lib.hid hfr; clear hat hfr)
  obtain ⟨kk, hkk⟩ : ∃ kk : Nat, (kk : Int) = min (z : Int) (k : Int) := ⟨min z k, by omega⟩
  have hkn : kk ≤ z ∧ kk ≤ k := by omega
  go_at_call 9
  refine (putB (HC2.out.fr_nil HFR.out) (Nat.le_trans HS2.out HFR.out.size) (by show (0 : Int) ≤ (k : Int) ∧ (k : Int) ≤ 65536; omega) (by show ((0 : Nat) : Int) ≤ (k : Int); omega) (bs := List.replicate z 0) (by simp) HAT.out (Nat.le_refl _) (by omega) kk (by show (kk : Int) = min (z : Int) ((k : Int) - ((0 : Nat) : Int)); omega) ⟨10, k, List.replicate kk 0, false⟩ (by simp [List.take_replicate, Nat.min_eq_left hkn.1])).mono ?_
  rintro e w4 ⟨rfl, hc, hb⟩
  have HC4 := Lib.hid hc; have HB4 := Lib.hid ((HB2.out.trans (HFR.out.below_nil.mono HS2.out)).trans hb); have HS4 := Lib.hid (sizeB (Nat.le_trans HS2.out HFR.out.size) hb)
  clear hc hb HC2 HB2 HS2 HFR HAT hrem hadd hrem2
  have HKK := Lib.hid hkk
  clear hkk
  by_cases hge : k ≤ z
  · obtain rfl : kk = k := by have := HKK.out; omega
    have t0 : decide ((kk : Int) ≤ (z : Int)) = true := decide_eq_true (by omega)
    go_wp2_with fail
    go_at_call 10
    refine (nextB_long HC4.out HS4.out (by simp; omega) rfl (fst_zeros kk) (by simp) ⟨10, kk, [], true⟩ rfl).mono ?_
    rintro e w5 ⟨rfl, hc, hb⟩
    have HC5 := Lib.hid hc; have HB5 := Lib.hid (HB4.out.trans hb); have HS5 := Lib.hid (sizeB HS4.out hb)
    clear hc hb HC4 HB4 HS4
    unfold errV
    go_wp2_with (refine wpList_min rfl (.tmp 45) (.tmp 46) _ rfl .i64 _ _ _ (by rfl) (by rfl) HKK.out.symm ?_)
    go_at_call 11
    refine (code_errno 20 _ (by omega) (by omega)).mono ?_
    rintro e w6 ⟨rfl, rfl⟩
    go_wp2_with fail
    go_at_call 12
    obtain ⟨v, hR, -, -⟩ := HC5.out
    have HR := Lib.hid hR; clear hR
    refine (ended_any HR.out).mono ?_
    rintro e w6 ⟨rfl, rfl⟩
    dsimp only
    go_wp2_with fail
    go_at_call 13
    refine (free_any HR.out (by show (0 : Int) ≤ (kk : Int) ∧ (kk : Int) ≤ 65536; omega) (by simp)).mono ?_
    rintro e w7 ⟨rfl, hf⟩
    have HF := Lib.hid hf; clear hf
    have hfm : freeM ⟨10, kk, [], true⟩ = 0 := rfl
    rw [hfm]
    clear hfm
    go_wp2_with fail
    go_ret
    exact ⟨rfl, HB5.out.trans (HF.out.below_nil.mono HS5.out)⟩
  · have hkz : kk = z := by have := HKK.out; omega
    subst hkz
    have t0 : decide ((k : Int) ≤ (kk : Int)) = false := decide_eq_false (by omega)
    go_wp2_with fail
    go_at_call 10
    refine (nextB_wait HC4.out HS4.out (by simp; omega) rfl (fst_zeros kk) (by simp; omega)).mono ?_
    rintro e w5 ⟨rfl, hc, hb⟩
    have HC5 := Lib.hid hc; have HB5 := Lib.hid (HB4.out.trans hb)
    clear hc hb HC4 HB4 HS4
    obtain ⟨v, hR, -, -⟩ := HC5.out
    have HR := Lib.hid hR; clear hR
    go_wp2_with (refine wpList_min rfl (.tmp 45) (.tmp 46) _ rfl .i64 _ _ _ (by rfl) (by rfl) HKK.out.symm ?_)
    go_at_call 14
    refine (held_any HR.out).mono ?_
    rintro e w6 ⟨rfl, rfl⟩
    have e1 : ((⟨10, k, List.replicate kk 0, false⟩ : Cu).bs.length : Int) = (kk : Int) := by simp
    rw [e1]
    clear e1
    go_wp2_with fail
    go_at_call 12
    refine (ended_any HR.out).mono ?_
    rintro e w6 ⟨rfl, rfl⟩
    have e2 : ((⟨10, k, List.replicate kk 0, false⟩ : Cu).en && (⟨10, k, List.replicate kk 0, false⟩ : Cu).bs.isEmpty) = false := rfl
    rw [e2]
    clear e2
    go_wp2_with fail
    go_ret
    exact ⟨rfl, HB5.out⟩
set_option maxRecDepth 100000 in
theorem recordsLong_open {H : Type} {enc : TypeId × Value → H} (W : World) (base : Nat) (v0 : Value) (d0 : DataW H) (p0 : List MemPlace) (v1 : Value) (d1 : DataW H) (p1 : List MemPlace)
    (k0 : Value.okWide Tryd.prog W .any base 31 v0) (k1 : Value.okWide Tryd.prog W .any base 31 v1) (h0 : DataW.Trod enc Tryd.prog W 0 (fun _ => true) true 31 v0 d0 p0) (h1 : DataW.Trod enc Tryd.prog W 0 (fun _ => true) true 31 v1 d1 p1) :
    Calls Tryd.prog 5 #[v0, v1] W fun e W' => e = .returned (.bool true) ∧ Below W.heap.size W W' := by
  obtain ⟨n, rfl, hn⟩ := arg_int Tryd.underlying31 k0 h0
  obtain ⟨m, rfl, hm⟩ := arg_int Tryd.underlying31 k1 h1
  have hb : 0 ≤ n ∧ n ≤ 65535 := by simpa [Lit.wf, IntKind.min, IntKind.max, IntKind.signed, IntKind.bits] using hn
  have hb2 : 0 ≤ m ∧ m ≤ 65535 := by simpa [Lit.wf, IntKind.min, IntKind.max, IntKind.signed, IntKind.bits] using hm
  obtain ⟨n', rfl⟩ := Int.eq_ofNat_of_zero_le hb.1
  obtain ⟨m', rfl⟩ := Int.eq_ofNat_of_zero_le hb2.1
  exact long_walk n' m' (by omega) (by omega)
end Go.Proofs.YtdjmhflfhepmmaaDoor
