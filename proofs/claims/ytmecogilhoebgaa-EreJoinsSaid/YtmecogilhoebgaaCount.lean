/-
  The walks over math/bits.OnesCount64 and charset.Count. No conditions.
-/
import Derived.Test.YtmecogilhoebgaaPop
import Derived.Test.YtmecogilhoebgaaSet
namespace Go.Proofs.Ytmecogilhoebgaa
open Go.RowKit
set_option linter.unusedVariables false
set_option linter.unusedSimpArgs false

theorem i64_and_ (a b : Nat) (ha : a < 9223372036854775808) (hb : b < 9223372036854775808) : bits .and .i64 (a : Int) (b : Int) = ((a &&& b : Nat) : Int) := by
  have hx : a &&& b < 2 ^ 63 := Nat.and_lt_two_pow _ (by omega)
  have e : ∀ c : Nat, c < 9223372036854775808 → (BitVec.ofInt 64 (c : Int)).toNat = c := fun c hc => by
    rw [BitVec.ofInt_natCast, BitVec.toNat_ofNat]; exact Nat.mod_eq_of_lt (by omega)
  show IntKind.i64.wrap ((BitVec.ofInt 64 (a : Int) &&& BitVec.ofInt 64 (b : Int)).toNat : Int) = _
  rw [BitVec.toNat_and, e a ha, e b hb, IntKind.wrap_i64]
  omega

theorem m0_8 : m0 8 = 6148914691236517205 := by decide
theorem m1_8 : m1 8 = 3689348814741910323 := by decide
theorem m2_8 : m2 8 = 1085102592571150095 := by decide

theorem ps_cut (m r q : Nat) (hm : 0 < m) (hr : r < m) : (r + m * q) / m = q := by rw [Nat.add_mul_div_left _ _ hm, Nat.div_eq_of_lt hr, Nat.zero_add]
theorem ps_A (c0 c1 c2 c3 c4 c5 c6 c7 : Nat) : c0 + 256 * c1 + 65536 * c2 + 16777216 * c3 + 4294967296 * c4 + 1099511627776 * c5 + 281474976710656 * c6 + 72057594037927936 * c7 = c0 + 256 * (c1 + 256 * c2 + 65536 * c3 + 16777216 * c4 + 4294967296 * c5 + 1099511627776 * c6 + 281474976710656 * c7) := by omega
theorem ps_B (c0 c1 c2 c3 c4 c5 c6 c7 : Nat) : (c0 + 256 * c1 + 65536 * c2 + 16777216 * c3 + 4294967296 * c4 + 1099511627776 * c5 + 281474976710656 * c6 + 72057594037927936 * c7) + (c1 + 256 * c2 + 65536 * c3 + 16777216 * c4 + 4294967296 * c5 + 1099511627776 * c6 + 281474976710656 * c7) = ((c0 + c1) + 256 * (c1 + c2)) + 65536 * ((c2 + c3) + 256 * (c3 + c4) + 65536 * (c4 + c5) + 16777216 * (c5 + c6) + 4294967296 * (c6 + c7) + 1099511627776 * c7) := by omega
theorem ps_C (c0 c1 c2 c3 c4 c5 c6 c7 : Nat) : ((c0 + c1) + 256 * (c1 + c2)) + 65536 * ((c2 + c3) + 256 * (c3 + c4) + 65536 * (c4 + c5) + 16777216 * (c5 + c6) + 4294967296 * (c6 + c7) + 1099511627776 * c7) + ((c2 + c3) + 256 * (c3 + c4) + 65536 * (c4 + c5) + 16777216 * (c5 + c6) + 4294967296 * (c6 + c7) + 1099511627776 * c7) =
    ((c0 + c1 + c2 + c3) + 256 * (c1 + c2 + c3 + c4) + 65536 * (c2 + c3 + c4 + c5) + 16777216 * (c3 + c4 + c5 + c6)) + 4294967296 * ((c4 + c5 + c6 + c7) + 256 * (c5 + c6 + c7) + 65536 * (c6 + c7) + 16777216 * c7) := by omega
theorem ps_D (c0 c1 c2 c3 c4 c5 c6 c7 : Nat) : ((c0 + c1 + c2 + c3) + 256 * (c1 + c2 + c3 + c4) + 65536 * (c2 + c3 + c4 + c5) + 16777216 * (c3 + c4 + c5 + c6)) + 4294967296 * ((c4 + c5 + c6 + c7) + 256 * (c5 + c6 + c7) + 65536 * (c6 + c7) + 16777216 * c7) + ((c4 + c5 + c6 + c7) + 256 * (c5 + c6 + c7) + 65536 * (c6 + c7) + 16777216 * c7) =
    (c0 + c1 + c2 + c3 + c4 + c5 + c6 + c7) + 128 * (2 * (c1 + c2 + c3 + c4) + 512 * (c2 + c3 + c4 + c5) + 131072 * (c3 + c4 + c5 + c6) + 33554432 * ((c4 + c5 + c6 + c7) + 256 * (c5 + c6 + c7) + 65536 * (c6 + c7) + 16777216 * c7) + 2 * (c5 + c6 + c7) + 512 * (c6 + c7) + 131072 * c7) := by omega
theorem ps_lt (c0 c1 c2 c3 c4 c5 c6 c7 : Nat) (hc : c0 ≤ 8 ∧ c1 ≤ 8 ∧ c2 ≤ 8 ∧ c3 ≤ 8 ∧ c4 ≤ 8 ∧ c5 ≤ 8 ∧ c6 ≤ 8 ∧ c7 ≤ 8) :
    c0 < 256 ∧ (c0 + c1) + 256 * (c1 + c2) < 65536 ∧ (c0 + c1 + c2 + c3) + 256 * (c1 + c2 + c3 + c4) + 65536 * (c2 + c3 + c4 + c5) + 16777216 * (c3 + c4 + c5 + c6) < 4294967296 ∧ c0 + c1 + c2 + c3 + c4 + c5 + c6 + c7 < 128 := by omega
theorem pop_sum (c0 c1 c2 c3 c4 c5 c6 c7 X : Nat) (hX : X = c0 + 256 * c1 + 65536 * c2 + 16777216 * c3 + 4294967296 * c4 + 1099511627776 * c5 + 281474976710656 * c6 + 72057594037927936 * c7)
    (hc : c0 ≤ 8 ∧ c1 ≤ 8 ∧ c2 ≤ 8 ∧ c3 ≤ 8 ∧ c4 ≤ 8 ∧ c5 ≤ 8 ∧ c6 ≤ 8 ∧ c7 ≤ 8) :
    (X + X / 256 + (X + X / 256) / 65536 + (X + X / 256 + (X + X / 256) / 65536) / 4294967296) % 2 ^ 7 = c0 + c1 + c2 + c3 + c4 + c5 + c6 + c7 := by
  obtain ⟨l1, l2, l3, l4⟩ := ps_lt c0 c1 c2 c3 c4 c5 c6 c7 hc
  have d1 : X / 256 = c1 + 256 * c2 + 65536 * c3 + 16777216 * c4 + 4294967296 * c5 + 1099511627776 * c6 + 281474976710656 * c7 := by rw [hX, ps_A]; exact ps_cut _ _ _ (Nat.zero_lt_succ _) l1
  have d2 := ps_B c0 c1 c2 c3 c4 c5 c6 c7
  rw [← d1, ← hX] at d2
  rw [d2, ps_cut _ _ _ (Nat.zero_lt_succ _) l2, ps_C, ps_cut _ _ _ (Nat.zero_lt_succ _) l3, ps_D]
  show _ % 128 = _
  rw [Nat.add_mul_mod_self_left, Nat.mod_eq_of_lt l4]

theorem pop_plain (x : Nat) (hx : x < 18446744073709551616) : ∃ A1 B1 A2 B2 X3 : Nat,
    bits .and .u64 ((x : Int) / 2) 6148914691236517205 = (A1 : Int) ∧ bits .and .u64 (x : Int) 6148914691236517205 = (B1 : Int) ∧ A1 + B1 < 18446744073709551616 ∧
    bits .and .u64 (((A1 : Int) + B1) / 4) 3689348814741910323 = (A2 : Int) ∧ bits .and .u64 ((A1 : Int) + B1) 3689348814741910323 = (B2 : Int) ∧ A2 + B2 < 8000000000000000000 ∧
    bits .and .u64 (((A2 : Int) + B2) / 16 + ((A2 : Int) + B2)) 1085102592571150095 = (X3 : Int) ∧ X3 < 1085102592571150096 ∧
    bits .and .i64 ((X3 : Int) + X3 / 256 + ((X3 : Int) + X3 / 256) / 65536 + ((X3 : Int) + X3 / 256 + ((X3 : Int) + X3 / 256) / 65536) / 4294967296) 127 = (popN x 64 : Int) := by
  have h1 := u64_and_ (x / 2) 6148914691236517205 (by omega) (by omega)
  have h2 := u64_and_ x 6148914691236517205 hx (by omega)
  have l1 : x / 2 &&& 6148914691236517205 ≤ 6148914691236517205 := Nat.and_le_right
  have l2 : x &&& 6148914691236517205 ≤ 6148914691236517205 := Nat.and_le_right
  have hf1 : f1 8 x = (x / 2 &&& 6148914691236517205) + (x &&& 6148914691236517205) := by unfold f1; rw [m0_8]
  have h3 := u64_and_ (f1 8 x / 4) 3689348814741910323 (by omega) (by omega)
  have h4 := u64_and_ (f1 8 x) 3689348814741910323 (by omega) (by omega)
  have l3 : f1 8 x / 4 &&& 3689348814741910323 ≤ 3689348814741910323 := Nat.and_le_right
  have l4 : f1 8 x &&& 3689348814741910323 ≤ 3689348814741910323 := Nat.and_le_right
  have hf2 : f2 8 (f1 8 x) = (f1 8 x / 4 &&& 3689348814741910323) + (f1 8 x &&& 3689348814741910323) := by unfold f2; rw [m1_8]
  have h5 := u64_and_ (f2 8 (f1 8 x) / 16 + f2 8 (f1 8 x)) 1085102592571150095 (by omega) (by omega)
  have l5 : (f2 8 (f1 8 x) / 16 + f2 8 (f1 8 x)) &&& 1085102592571150095 ≤ 1085102592571150095 := Nat.and_le_right
  have hf3 : f3 8 (f2 8 (f1 8 x)) = (f2 8 (f1 8 x) / 16 + f2 8 (f1 8 x)) &&& 1085102592571150095 := by unfold f3; rw [m2_8]
  have hfold := folds 8 x
  obtain ⟨c0, c1, c2, c3, c4, c5, c6, c7, hc, hs, hp⟩ := spread8 x
  have hX : (f2 8 (f1 8 x) / 16 + f2 8 (f1 8 x)) &&& 1085102592571150095 = c0 + 256 * c1 + 65536 * c2 + 16777216 * c3 + 4294967296 * c4 + 1099511627776 * c5 + 281474976710656 * c6 + 72057594037927936 * c7 := by rw [← hf3, hfold, hs]
  refine ⟨x / 2 &&& 6148914691236517205, x &&& 6148914691236517205, f1 8 x / 4 &&& 3689348814741910323, f1 8 x &&& 3689348814741910323, (f2 8 (f1 8 x) / 16 + f2 8 (f1 8 x)) &&& 1085102592571150095, h1, h2, by omega, ?_, ?_, ?_, ?_, ?_, ?_⟩
  · have e : (((x / 2 &&& 6148914691236517205 : Nat) : Int) + ((x &&& 6148914691236517205 : Nat) : Int)) / 4 = ((f1 8 x / 4 : Nat) : Int) := by rw [hf1]; omega
    rw [e]; exact h3
  · have e : (((x / 2 &&& 6148914691236517205 : Nat) : Int) + ((x &&& 6148914691236517205 : Nat) : Int)) = ((f1 8 x : Nat) : Int) := by rw [hf1]; omega
    rw [e]; exact h4
  · omega
  · have e : (((f1 8 x / 4 &&& 3689348814741910323 : Nat) : Int) + ((f1 8 x &&& 3689348814741910323 : Nat) : Int)) / 16 + (((f1 8 x / 4 &&& 3689348814741910323 : Nat) : Int) + ((f1 8 x &&& 3689348814741910323 : Nat) : Int)) = ((f2 8 (f1 8 x) / 16 + f2 8 (f1 8 x) : Nat) : Int) := by rw [hf2]; omega
    rw [e]; exact h5
  · omega
  · generalize (f2 8 (f1 8 x) / 16 + f2 8 (f1 8 x)) &&& 1085102592571150095 = X at *
    have hn : ((X : Int) + X / 256 + ((X : Int) + X / 256) / 65536 + ((X : Int) + X / 256 + ((X : Int) + X / 256) / 65536) / 4294967296) = ((X + X / 256 + (X + X / 256) / 65536 + (X + X / 256 + (X + X / 256) / 65536) / 4294967296 : Nat) : Int) := by omega
    rw [hn]
    have h6 := i64_and_ (X + X / 256 + (X + X / 256) / 65536 + (X + X / 256 + (X + X / 256) / 65536) / 4294967296) 127 (by omega) (by omega)
    have e : ((X + X / 256 + (X + X / 256) / 65536 + (X + X / 256 + (X + X / 256) / 65536) / 4294967296) &&& 127) = popN x 64 := by
      rw [show 127 = 2 ^ 7 - 1 by rfl, Nat.and_two_pow_sub_one_eq_mod, hp]
      exact pop_sum c0 c1 c2 c3 c4 c5 c6 c7 X hX hc
    rw [e] at h6
    exact h6

set_option maxHeartbeats 1000000 in
theorem ones_any (x : Nat) (w : World) (hx : x < 18446744073709551616) :
    Calls Try.prog 14 #[.int .u64 (x : Int)] w fun e w' => e = .returned (.int .i64 (popN x 64 : Int)) ∧ w = w' := by
  obtain ⟨A1, B1, A2, B2, X3, h1, h2, l1, h3, h4, l2, h5, l3, h6⟩ := pop_plain x hx
  have H1 := Lib.hid h1; have H2 := Lib.hid h2; have H3 := Lib.hid h3; have H4 := Lib.hid h4; have H5 := Lib.hid h5; have H6 := Lib.hid h6
  clear h1 h2 h3 h4 h5 h6
  go_enter Try.func14, Try.ntmps14
  go_wp2_with (first
    | (refine wpList_and rfl _ _ (.tmp 4) _ rfl .u64 Try.underlying24 _ _ _ (by rfl) (by rfl) H1.out ?_)
    | (refine wpList_and rfl _ _ (.tmp 6) _ rfl .u64 Try.underlying24 _ _ _ (by rfl) (by rfl) H2.out ?_)
    | (refine wpList_and rfl _ _ (.tmp 10) _ rfl .u64 Try.underlying24 _ _ _ (by rfl) (by rfl) H3.out ?_)
    | (refine wpList_and rfl _ _ (.tmp 12) _ rfl .u64 Try.underlying24 _ _ _ (by rfl) (by rfl) H4.out ?_)
    | (refine wpList_and rfl _ _ (.tmp 18) _ rfl .u64 Try.underlying24 _ _ _ (by rfl) (by rfl) H5.out ?_)
    | (refine wpList_and rfl _ _ (.tmp 33) _ rfl .i64 Try.underlying3 _ _ _ (by rfl) (by rfl) H6.out ?_))
  go_ret
  exact ⟨rfl, rfl⟩

/-- How many bytes are in a set. -/
def S4.count (s : S4) : Nat := popN s.a 64 + popN s.b 64 + popN s.c 64 + popN s.d 64
theorem count_any (s : S4) (w : World) (hs : s.ok) :
    Calls Try.prog 10 #[s.val] w fun e w' => e = .returned (.int .i64 (s.count : Int)) ∧ Fr [] w w' := by
  obtain ⟨a, b, c, d⟩ := s
  obtain ⟨ha, hb, hc, hd⟩ := hs
  dsimp only at ha hb hc hd
  have p0 := popN_le a 64
  have p1 := popN_le b 64
  have p2 := popN_le c 64
  have p3 := popN_le d 64
  unfold S4.val S4.count
  dsimp only
  have i0 : ∀ W, (Instr.index 26 (.agg #[.int .u64 (a : Int), .int .u64 (b : Int), .int .u64 (c : Int), .int .u64 (d : Int)]) (.int .i64 0)).run Try.prog W = .ok (.int .u64 (a : Int)) W := fun _ => by kernel_rfl
  have i1 : ∀ W, (Instr.index 26 (.agg #[.int .u64 (a : Int), .int .u64 (b : Int), .int .u64 (c : Int), .int .u64 (d : Int)]) (.int .i64 1)).run Try.prog W = .ok (.int .u64 (b : Int)) W := fun _ => by kernel_rfl
  have i2 : ∀ W, (Instr.index 26 (.agg #[.int .u64 (a : Int), .int .u64 (b : Int), .int .u64 (c : Int), .int .u64 (d : Int)]) (.int .i64 2)).run Try.prog W = .ok (.int .u64 (c : Int)) W := fun _ => by kernel_rfl
  have i3 : ∀ W, (Instr.index 26 (.agg #[.int .u64 (a : Int), .int .u64 (b : Int), .int .u64 (c : Int), .int .u64 (d : Int)]) (.int .i64 3)).run Try.prog W = .ok (.int .u64 (d : Int)) W := fun _ => by kernel_rfl
  go_enter Try.func10, Try.ntmps10
  go_wp2_with fail
  refine wp_loop_rounds 5 ?_
  rw [rounds_succ]
  go_wp2_with fail
  refine (ones_any a _ ha).mono ?_
  rintro e w1 ⟨rfl, rfl⟩
  go_wp2_with fail
  rw [rounds_succ]
  go_wp2_with fail
  refine (ones_any b _ hb).mono ?_
  rintro e w2 ⟨rfl, rfl⟩
  go_wp2_with fail
  rw [rounds_succ]
  go_wp2_with fail
  refine (ones_any c _ hc).mono ?_
  rintro e w3 ⟨rfl, rfl⟩
  go_wp2_with fail
  rw [rounds_succ]
  go_wp2_with fail
  refine (ones_any d _ hd).mono ?_
  rintro e w4 ⟨rfl, rfl⟩
  go_wp2_with fail
  rw [rounds_succ]
  go_wp2_with fail
  go_ret
  exact ⟨by simp, (Fr.refl _ _).alloc _⟩
end Go.Proofs.Ytmecogilhoebgaa
