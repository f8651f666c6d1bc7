/-
  The lexer's numbers: bits.Mul64, bits.Add64, more, digits, blank, scan. No conditions on the program.
-/
import Derived.Test.YtjfgopihfgljmaaDoorLex5
import Derived.Laws.Externs
import Derived.Shelf.Bits.Mul64
namespace Go.Proofs.YtjfgopihfgljmaaDoor
open Go.RowKit
set_option linter.unusedVariables false
set_option linter.unusedSimpArgs false

set_option maxHeartbeats 1000000 in
theorem mul64_any (x y : Nat) (hx : x < 18446744073709551616) (hy : y < 18446744073709551616) (w : World) :
    Calls Tryd.prog 53 #[.int .u64 x, .int .u64 y] w fun e w' => e = .returned (.tuple #[.int .u64 ((x * y / 18446744073709551616 : Nat) : Int), .int .u64 ((x * y % 18446744073709551616 : Nat) : Int)]) ∧ w = w' := by
  obtain ⟨bd, bt, bw, hhi⟩ := Lib.mul64_hi x y hx hy
  have ba := Lib.half_mul_le (a := x / 4294967296) (b := y / 4294967296) (by omega) (by omega)
  have bb := Lib.half_mul_le (a := x / 4294967296) (b := y % 4294967296) (by omega) (by omega)
  have bc := Lib.half_mul_le (a := x % 4294967296) (b := y / 4294967296) (by omega) (by omega)
  have ba' : x / 4294967296 * (y / 4294967296) < 18446744073709551616 := by omega
  have bb' : x / 4294967296 * (y % 4294967296) < 18446744073709551616 := by omega
  have bc' : x % 4294967296 * (y / 4294967296) < 18446744073709551616 := by omega
  have bh1 : x / 4294967296 * (y / 4294967296) + (x / 4294967296 * (y % 4294967296) + x % 4294967296 * (y % 4294967296) / 4294967296) / 4294967296 < 18446744073709551616 := by omega
  have bh : x / 4294967296 * (y / 4294967296) + (x / 4294967296 * (y % 4294967296) + x % 4294967296 * (y % 4294967296) / 4294967296) / 4294967296 + ((x / 4294967296 * (y % 4294967296) + x % 4294967296 * (y % 4294967296) / 4294967296) % 4294967296 + x % 4294967296 * (y / 4294967296)) / 4294967296 < 18446744073709551616 := by omega
  go_enter Tryd.func53, Tryd.ntmps53
  go_wp2
  simp only [Mul64.maskN x hx, Mul64.maskN y hy, Mul64.divN, Mul64.mulN, Mul64.addN, Mul64.wrapN _ bd, Mul64.wrapN _ bb', Mul64.wrapN _ bt, Mul64.maskN _ bt, Mul64.wrapN _ bc', Mul64.wrapN _ bw, Mul64.wrapN _ ba', Mul64.wrapN _ bh1, Mul64.wrapN _ bh, Mul64.wrapM (x * y)]
  rw [hhi]
  go_ret2
  exact ⟨rfl, rfl⟩
theorem mul10_any (x h l : Nat) (hx : x < 18446744073709551616) (hh : h = x * 10 / 18446744073709551616) (hl : l = x * 10 % 18446744073709551616) (w : World) :
    Calls Tryd.prog 53 #[.int .u64 x, .int .u64 10] w fun e w' => e = .returned (.tuple #[.int .u64 (h : Int), .int .u64 (l : Int)]) ∧ w = w' := by
  subst hh hl
  exact mul64_any x 10 hx (by omega) w
theorem add0_run (l s k : Nat) (y : Int) (hy : 0 ≤ y) (hs : (s : Int) = (l + y) % 18446744073709551616) (hk : (k : Int) = (l + y) / 18446744073709551616) (w : World) :
    (callFunc 54 #[.int .u64 l, .int .u64 y, .int .u64 0]).run Tryd.prog w = .ok (.value (.tuple #[.int .u64 (s : Int), .int .u64 (k : Int)])) w := by
  rw [hs, hk, run_callFunc_extern Tryd.func54 (by kernel_rfl) (by kernel_rfl) (by kernel_rfl) (e := add64Entry) (by kernel_rfl), run_add64 l y 0 (by omega) hy (by omega) (by omega)]
  simp [Result.andThen]
theorem wrap_u64_small {x : Int} (h0 : 0 ≤ x) (h1 : x < 18446744073709551616) : IntKind.u64.wrap x = x := by rw [IntKind.wrap_u64]; omega
/-- The arithmetic of one more digit. -/
theorem more_arith {hi lo d h l s k : Nat} (hlo : lo < 18446744073709551616) (hd : d ≤ 9) (hV : (hi * 18446744073709551616 + lo) * 10 + d < 340282366920938463463374607431768211456)
    (hh : h = lo * 10 / 18446744073709551616) (hl : l = lo * 10 % 18446744073709551616) (hs : s = (l + d) % 18446744073709551616) (hk : k = (l + d) / 18446744073709551616) :
    hi * 10 < 18446744073709551616 ∧ hi * 10 + h < 18446744073709551616 ∧ hi * 10 + h + k < 18446744073709551616 ∧ ((hi * 18446744073709551616 + lo) * 10 + d) / 18446744073709551616 = hi * 10 + h + k ∧ ((hi * 18446744073709551616 + lo) * 10 + d) % 18446744073709551616 = s := by
  omega
set_option maxRecDepth 100000 in
set_option maxHeartbeats 1000000 in
theorem more_any (V : Nat) (c d : Nat) (hc : c = d + 48) (hd : d ≤ 9) (hV : V * 10 + d < 340282366920938463463374607431768211456) (w : World) :
    Calls Tryd.prog 49 #[.agg #[.bool false, .int .u64 ((V / 18446744073709551616 : Nat) : Int), .int .u64 ((V % 18446744073709551616 : Nat) : Int)], .int .u8 (c : Int)] w fun e w' =>
      e = .returned (.agg #[.bool false, .int .u64 (((V * 10 + d) / 18446744073709551616 : Nat) : Int), .int .u64 (((V * 10 + d) % 18446744073709551616 : Nat) : Int)]) ∧ Fr [] w w' := by
  obtain ⟨hi, hhi⟩ : ∃ hi, hi = V / 18446744073709551616 := ⟨_, rfl⟩
  obtain ⟨lo, hlo⟩ : ∃ lo, lo = V % 18446744073709551616 := ⟨_, rfl⟩
  have hlt : lo < 18446744073709551616 := by omega
  have hVV : V = hi * 18446744073709551616 + lo := by omega
  rw [← hhi, ← hlo]
  obtain ⟨h, hh⟩ : ∃ h, h = lo * 10 / 18446744073709551616 := ⟨_, rfl⟩
  obtain ⟨l, hl⟩ : ∃ l, l = lo * 10 % 18446744073709551616 := ⟨_, rfl⟩
  obtain ⟨s, hs⟩ : ∃ s, s = (l + d) % 18446744073709551616 := ⟨_, rfl⟩
  obtain ⟨k, hk⟩ : ∃ k, k = (l + d) / 18446744073709551616 := ⟨_, rfl⟩
  rw [hVV] at hV
  obtain ⟨b1, b2, b3, e1, e2⟩ := more_arith hlt hd hV hh hl hs hk
  rw [← hVV] at e1 e2
  rw [e1, e2]
  have hmul := mul10_any lo h l hlt hh hl
  have hadd := add0_run l s k ((c : Int) - 48) (by omega) (by omega) (by omega)
  have hw0 : IntKind.u8.wrap ((c : Int) - 48) = (c : Int) - 48 := by rw [IntKind.wrap_u8]; omega
  have hw4 : IntKind.u64.wrap ((c : Int) - 48) = (c : Int) - 48 := wrap_u64_small (by omega) (by omega)
  have hw1 : IntKind.u64.wrap ((hi : Int) * 10) = (hi : Int) * 10 := wrap_u64_small (by omega) (by omega)
  have hw2 : IntKind.u64.wrap ((hi : Int) * 10 + (h : Int)) = (hi : Int) * 10 + (h : Int) := wrap_u64_small (by omega) (by omega)
  have hw3 : IntKind.u64.wrap ((hi : Int) * 10 + (h : Int) + (k : Int)) = (hi : Int) * 10 + (h : Int) + (k : Int) := wrap_u64_small (by omega) (by omega)
  have HMUL := Lib.hid hmul
  clear hmul hh hl hs hk hhi hlo hVV hV e1 e2 b1 b2 b3 hlt hc
  go_enter Tryd.func49, Tryd.ntmps49
  go_wp2_with fail
  go_at_call 53
  refine (HMUL.out _).mono ?_
  rintro e w1 ⟨rfl, rfl⟩
  go_wp2_with fail
  refine bodyPost_ret (v := .agg #[.bool false, .int .u64 ((hi * 10 + h + k : Nat) : Int), .int .u64 (s : Int)]) (by simp [results, Tryd.results49, go_sem]) rfl ?_
  exact ⟨rfl, ((Fr.refl [] w).alloc _).alloc _⟩
theorem List.take_length_takeWhile_ {α : Type} (l : List α) (p : α → Bool) : l.take (l.takeWhile p).length = l.takeWhile p := by
  induction l with
  | nil => rfl
  | cons a r ih =>
    rw [List.takeWhile_cons]
    split
    · simp [ih]
    · simp
/-- The digits that begin bytes. -/
theorem digits_any {w : World} {A : Option Addr} {bs : List UInt8} {n cc : Nat} (h : Bytes w A bs) (hn : bs.length = n) (hc : n ≤ cc) (hA : A = none → cc = 0) (hl : bs.length ≤ 100000000) :
    Calls Tryd.prog 52 #[.slice A n cc] w fun e w' => ∃ X cx, e = .returned (.slice X (bs.takeWhile digM).length cx) ∧ Bytes w X (bs.takeWhile digM) ∧ (bs.takeWhile digM).length ≤ cx ∧ (X = none → cx = 0) ∧ (∀ b, X = some b → ∃ a', A = some a' ∧ b.block = a'.block) ∧ w = w' := by
  subst hn
  obtain ⟨i0, hi0, hz0, hz1, hz2⟩ := u8parts
  have HB := Lib.hid h; clear h
  obtain ⟨m, hm⟩ : ∃ m, m = (bs.takeWhile digM).length := ⟨_, rfl⟩
  have hmle : m ≤ bs.length := by rw [hm]; exact (List.takeWhile_sublist _).length_le
  have htk : bs.takeWhile digM = bs.take m := by
    rw [hm]; exact (List.take_length_takeWhile_ bs digM).symm
  rw [← hm, htk]
  have HM := Lib.hid hm; clear hm htk
  go_enter Tryd.func52, Tryd.ntmps52
  go_wp2_with fail
  go_loopw [3] (fun v3 wr => ∃ k : Nat, v3 = .int .i64 (k : Int) ∧ wr = w ∧ k ≤ bs.length ∧ k + ((bs.drop k).takeWhile digM).length = m) (fun v3 _ => bs.length - (intOf v3).toNat)
  case atStart => exact ⟨0, rfl, rfl, by omega, by simpa using HM.out.symm⟩
  case round =>
    obtain ⟨k, rfl, rfl, hk, hkm⟩ := hrel
    by_cases hlt : k < bs.length
    · obtain ⟨a, rfl, hb, e0⟩ := byte_at HB.out hlt
      rw [drop_cons_ hlt, List.takeWhile_cons] at hkm
      obtain ⟨c, hc'⟩ : ∃ c, c = bs.getD k 0 := ⟨_, rfl⟩
      rw [← hc'] at e0 hkm
      clear hc'
      by_cases hd : digM c = true
      · rw [if_pos hd] at hkm
        have hdr : 48 ≤ c.toNat ∧ c.toNat ≤ 57 := by simpa [digM] using hd
        have HK : Hid (k + 1 + ((bs.drop (k + 1)).takeWhile digM).length = m) := Lib.hid (by simp at hkm; omega)
        clear hkm hd
        generalize c.toNat = q at *
        have t1 : decide ((48 : Int) ≤ (q : Int)) = true := by simp; omega
        have t2 : decide ((q : Int) ≤ 57) = true := by simp; omega
        go_wp2_with fail
        go_roundw
        case rel => exact ⟨k + 1, by go_num, True.intro, by omega, HK.out⟩
        case measure => simp [intOf]; omega
      · rw [if_neg hd] at hkm
        have hdr : ¬ (48 ≤ c.toNat ∧ c.toNat ≤ 57) := by simpa [digM] using hd
        obtain rfl : k = m := by simpa using hkm
        clear hkm hd
        have hcond : decide ((48 : Int) ≤ (c.toNat : Int)) = false ∨ (decide ((48 : Int) ≤ (c.toNat : Int)) = true ∧ decide ((c.toNat : Int) ≤ 57) = false) := by
          by_cases h48 : 48 ≤ c.toNat
          · right; constructor
            · simp; omega
            · simp; omega
          · left; simp; omega
        clear hdr
        generalize c.toNat = q at *
        have HC := Lib.hid hc
        rcases hcond with t1 | ⟨t1, t2⟩
        all_goals
          go_wp2_with (refine wpList_cut rfl 22 (.tmp 24) none (some (.tmp 25)) none rfl 5 i0 Tryd.underlying22 hi0 hz1 (some a) bs.length cc (by first | rfl | (simp [Act.eval]; done)) (byteVals bs) HB.out (byteVals_length _) HC.out (by intro h; cases h) 0 k cc (.inl ⟨rfl, rfl⟩) (.inr (by first | rfl | (simp [Act.eval]; done))) (.inl ⟨rfl, rfl⟩) (by omega) (by omega) (by omega) (by omega) ?_; intro X hX hX0 hXb; have HXA := Lib.hid hX; have HX0 := Lib.hid hX0; have HXB := Lib.hid hXb; clear hX hX0 hXb)
          go_ret
          exact ⟨X, cc, by simp, by have := HXA.out; simpa [Bytes, byteVals, List.map_take] using this, by have := HC.out; omega, fun h => HX0.out h, HXB.out, rfl⟩
    · have h0 : bs.drop k = [] := List.drop_eq_nil_of_le (by omega)
      rw [h0] at hkm
      obtain rfl : k = m := by simpa using hkm
      clear hkm h0
      have HC := Lib.hid hc
      have HNA := Lib.hid hA
      go_wp2_with (refine wpList_cut rfl 22 (.tmp 24) none (some (.tmp 25)) none rfl 5 i0 Tryd.underlying22 hi0 hz1 A bs.length cc (by first | rfl | (simp [Act.eval]; done)) (byteVals bs) HB.out (byteVals_length _) HC.out HNA.out 0 k cc (.inl ⟨rfl, rfl⟩) (.inr (by first | rfl | (simp [Act.eval]; done))) (.inl ⟨rfl, rfl⟩) (by omega) (by omega) (by omega) (by omega) ?_; intro X hX hX0 hXb; have HXA := Lib.hid hX; have HX0 := Lib.hid hX0; have HXB := Lib.hid hXb; clear hX hX0 hXb)
      go_ret
      exact ⟨X, cc, by simp, by have := HXA.out; simpa [Bytes, byteVals, List.map_take] using this, by have := HC.out; omega, fun h => HX0.out h, HXB.out, rfl⟩
theorem blank_any (c : Nat) (h : 46 ≤ c) (w : World) : Calls Tryd.prog 51 #[.int .u8 (c : Int)] w fun e w' => e = .returned (.bool false) ∧ w = w' := by
  have t1 : decide ((9 : Int) ≤ (c : Int)) = true := by simp; omega
  have t2 : decide ((c : Int) ≤ 13) = false := by simp; omega
  have t3 : ((c : Int) == 32) = false := by simp; omega
  go_enter Tryd.func51, Tryd.ntmps51
  go_wp2_with fail
  go_ret
  exact ⟨rfl, rfl⟩
end Go.Proofs.YtjfgopihfgljmaaDoor
