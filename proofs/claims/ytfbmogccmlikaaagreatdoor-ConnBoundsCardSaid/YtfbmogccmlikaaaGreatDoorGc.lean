/-
 Bits, Set, Has, Esc: several small texts in one. No conditions.
-/
import Derived.Test.YtfbmogccmlikaaaGreatDoorBase
import Derived.Laws.BitsAllLaws
import Derived.Laws.BitsLemmas
import Derived.Test.YtfbmogccmlikaaaGreatDoorRows
import Derived.LoopTactic
import Derived.Deep.QuietTactic
import Derived.BigQuiet
import Derived.RegionTactic
import Derived.BigRegion
import Derived.ChangeAlike
namespace Go.Proofs.YtfbmogccmlikaaaGreatDoor
open Go.RowKit
set_option linter.unusedVariables false
set_option linter.unusedSimpArgs false
theorem ofInt_u64 (a : Nat) (ha : a < 18446744073709551616) : (BitVec.ofInt 64 (a : Int)).toNat = a := by
 rw [BitVec.ofInt_natCast, BitVec.toNat_ofNat]; exact Nat.mod_eq_of_lt (by omega)
theorem u64_and_ (a b : Nat) (ha : a < 18446744073709551616) (hb : b < 18446744073709551616) : bits .and .u64 (a : Int) (b : Int) = ((a &&& b : Nat) : Int) := by
 have hx : a &&& b < 2 ^ 64 := Nat.and_lt_two_pow _ (by omega)
 show IntKind.u64.wrap ((BitVec.ofInt 64 (a : Int) &&& BitVec.ofInt 64 (b : Int)).toNat : Int) = _
 rw [BitVec.toNat_and, ofInt_u64 a ha, ofInt_u64 b hb, IntKind.wrap_u64]
 omega
theorem u64_or_ (a b : Nat) (ha : a < 18446744073709551616) (hb : b < 18446744073709551616) : bits .or .u64 (a : Int) (b : Int) = ((a ||| b : Nat) : Int) := by
 have hx : a ||| b < 2 ^ 64 := Nat.or_lt_two_pow (by omega) (by omega)
 show IntKind.u64.wrap ((BitVec.ofInt 64 (a : Int) ||| BitVec.ofInt 64 (b : Int)).toNat : Int) = _
 rw [BitVec.toNat_or, ofInt_u64 a ha, ofInt_u64 b hb, IntKind.wrap_u64]
 omega
theorem bit_asked (a y : Nat) (ha : a < 18446744073709551616) : (bits BinOp.and IntKind.u64 ((a : Int) / 2 ^ y) 1 == 1) = a.testBit y := by
 have h1 : ((a : Int) / 2 ^ y) = ((a / 2 ^ y : Nat) : Int) := by simp
 have h2 : a / 2 ^ y < 18446744073709551616 := Nat.lt_of_le_of_lt (Nat.div_le_self _ _) ha
 have h3 := u64_and_ (a / 2 ^ y) 1 h2 (by omega)
 rw [h1]
 have e : (bits BinOp.and IntKind.u64 ((a / 2 ^ y : Nat) : Int) 1) = ((a / 2 ^ y &&& 1 : Nat) : Int) := h3
 rw [e, Nat.and_one_is_mod, Nat.testBit_eq_decide_div_mod_eq]
 by_cases h : a / 2 ^ y % 2 = 1 <;> simp [h] <;> omega
theorem or_pow_testBit (a y j : Nat) : (a ||| 2 ^ y).testBit j = (a.testBit j || decide (y = j)) := by
 rw [Nat.testBit_or, Nat.testBit_two_pow]
def cpl (a : Nat) : Nat := 18446744073709551615 - a
theorem u64_cpl (a : Nat) (ha : a < 18446744073709551616) : bits .xor .u64 IntKind.u64.max (a : Int) = ((cpl a : Nat) : Int) := by
 have hm : IntKind.u64.max = ((18446744073709551615 : Nat) : Int) := by decide
 have hx : 18446744073709551615 ^^^ a < 2 ^ 64 := Nat.xor_lt_two_pow (by omega) (by omega)
 have he : 18446744073709551615 ^^^ a = cpl a := by
  have h : cpl a = 2 ^ 64 - (a + 1) := by unfold cpl; omega
  rw [h]
  apply Nat.eq_of_testBit_eq
  intro j
  rw [Nat.testBit_two_pow_sub_succ (by omega), Nat.testBit_xor, show (18446744073709551615 : Nat) = 2 ^ 64 - 1 by omega, Nat.testBit_two_pow_sub_one]
  by_cases hj : j < 64
  ·simp [hj]
  ·rw [Nat.testBit_lt_two_pow (Nat.lt_of_lt_of_le (show a < 2 ^ 64 by omega) (Nat.pow_le_pow_right (by omega) (by omega)))]
   simp [hj]
 rw [hm]
 show IntKind.u64.wrap ((BitVec.ofInt 64 ((18446744073709551615 : Nat) : Int) ^^^ BitVec.ofInt 64 (a : Int)).toNat : Int) = _
 rw [BitVec.toNat_xor, ofInt_u64 _ (by omega), ofInt_u64 a ha, IntKind.wrap_u64, ← he]
 omega
theorem cpl_lt (a : Nat) : cpl a < 18446744073709551616 := by unfold cpl; omega
theorem word_ext {a b : Nat} (ha : a < 18446744073709551616) (hb : b < 18446744073709551616) (h : ∀ j, j < 64 → a.testBit j = b.testBit j) : a = b := by
 apply Nat.eq_of_testBit_eq
 intro j
 by_cases hj : j < 64
 ·exact h j hj
 ·rw [Nat.testBit_lt_two_pow (Nat.lt_of_lt_of_le (show a < 2 ^ 64 by omega) (Nat.pow_le_pow_right (by omega) (by omega))), Nat.testBit_lt_two_pow (Nat.lt_of_lt_of_le (show b < 2 ^ 64 by omega) (Nat.pow_le_pow_right (by omega) (by omega)))]
theorem or_lt {a b : Nat} (ha : a < 18446744073709551616) (hb : b < 18446744073709551616) : a ||| b < 18446744073709551616 := Nat.or_lt_two_pow (n := 64) (by omega) (by omega)
theorem pow_lt {y : Nat} (hy : y < 64) : 2 ^ y < 18446744073709551616 := by
 have : 2 ^ y < 2 ^ 64 := Nat.pow_lt_pow_right (by omega) hy
 omega
structure S4 where
 a : Nat
 b : Nat
 c : Nat
 d : Nat
def S4.ok (s : S4) : Prop := s.a < 18446744073709551616 ∧ s.b < 18446744073709551616 ∧ s.c < 18446744073709551616 ∧ s.d < 18446744073709551616
def S4.val (s : S4) : Value := .agg #[.int .u64 (s.a : Int), .int .u64 (s.b : Int), .int .u64 (s.c : Int), .int .u64 (s.d : Int)]
def S4.word (s : S4) (i : Nat) : Nat := if i = 0 then s.a else if i = 1 then s.b else if i = 2 then s.c else s.d
def S4.mem (s : S4) (x : Nat) : Bool := (s.word (x / 64)).testBit (x % 64)
def S4.empty : S4 := ⟨0, 0, 0, 0⟩
def S4.or (s t : S4) : S4 := ⟨s.a ||| t.a, s.b ||| t.b, s.c ||| t.c, s.d ||| t.d⟩
def S4.not (s : S4) : S4 := ⟨cpl s.a, cpl s.b, cpl s.c, cpl s.d⟩
def S4.add (s : S4) (x : Nat) : S4 :=
 if x / 64 = 0 then { s with a := s.a ||| 2 ^ (x % 64) } else if x / 64 = 1 then { s with b := s.b ||| 2 ^ (x % 64) } else if x / 64 = 2 then { s with c := s.c ||| 2 ^ (x % 64) } else { s with d := s.d ||| 2 ^ (x % 64) }
theorem S4.empty_ok : S4.empty.ok := by unfold S4.ok S4.empty; simp
theorem S4.or_ok {s t : S4} (h : s.ok) (k : t.ok) : (s.or t).ok := ⟨or_lt h.1 k.1, or_lt h.2.1 k.2.1, or_lt h.2.2.1 k.2.2.1, or_lt h.2.2.2 k.2.2.2⟩
theorem S4.not_ok (s : S4) : s.not.ok := ⟨cpl_lt _, cpl_lt _, cpl_lt _, cpl_lt _⟩
theorem S4.add_ok {s : S4} (h : s.ok) (x : Nat) : (s.add x).ok := by
 have hy : x % 64 < 64 := Nat.mod_lt _ (by omega)
 unfold S4.add
 (repeat' split)
 ·exact ⟨or_lt h.1 (pow_lt hy), h.2.1, h.2.2.1, h.2.2.2⟩
 ·exact ⟨h.1, or_lt h.2.1 (pow_lt hy), h.2.2.1, h.2.2.2⟩
 ·exact ⟨h.1, h.2.1, or_lt h.2.2.1 (pow_lt hy), h.2.2.2⟩
 ·exact ⟨h.1, h.2.1, h.2.2.1, or_lt h.2.2.2 (pow_lt hy)⟩
theorem S4.mem_empty (x : Nat) : S4.empty.mem x = false := by
 unfold S4.mem S4.word S4.empty
 (repeat' split) <;> simp
theorem S4.mem_add (s : S4) (x j : Nat) (hx : x < 256) (hj : j < 256) : (s.add x).mem j = (s.mem j || decide (x = j)) := by
 have e : x = j ↔ x / 64 = j / 64 ∧ x % 64 = j % 64 := by omega
 unfold S4.mem S4.word S4.add
 by_cases h0 : x / 64 = 0
 ·rw [if_pos h0]
  by_cases g : j / 64 = 0
  ·simp only [g, if_true, or_pow_testBit]; congr 1; simp [e, h0, g]
  ·have : ¬ x = j := fun h => g (by rw [← h]; exact h0)
   simp [g, this]
 ·rw [if_neg h0]
  by_cases h1 : x / 64 = 1
  ·rw [if_pos h1]
   by_cases g : j / 64 = 1
   ·simp only [g, if_true, or_pow_testBit]; simp [e, h1, g, Nat.testBit_two_pow]
   ·have : ¬ x = j := fun h => g (by rw [← h]; exact h1)
    simp [g, this]
  ·rw [if_neg h1]
   by_cases h2 : x / 64 = 2
   ·rw [if_pos h2]
    by_cases g : j / 64 = 2
    ·simp only [g, if_true, or_pow_testBit]; simp [e, h2, g, Nat.testBit_two_pow]
    ·have : ¬ x = j := fun h => g (by rw [← h]; exact h2)
     simp [g, this]
   ·rw [if_neg h2]
    have h3 : x / 64 = 3 := by omega
    by_cases g : j / 64 = 3
    ·simp only [g, or_pow_testBit]; simp [e, h3, g, Nat.testBit_two_pow]
    ·have : ¬ x = j := fun h => g (by rw [← h]; exact h3)
     have g' : j / 64 = 0 ∨ j / 64 = 1 ∨ j / 64 = 2 := by omega
     rcases g' with g' | g' | g' <;> simp [g', this]
theorem S4.ext {s t : S4} (h : s.ok) (k : t.ok) (hm : ∀ x, x < 256 → s.mem x = t.mem x) : s = t := by
 obtain ⟨h1, h2, h3, h4⟩ := h
 obtain ⟨k1, k2, k3, k4⟩ := k
 have H : ∀ i j, i < 4 → j < 64 → (s.word i).testBit j = (t.word i).testBit j := fun i j hi hj => by
  have := hm (64 * i + j) (by omega)
  unfold S4.mem at this
  rwa [show (64 * i + j) / 64 = i by omega, show (64 * i + j) % 64 = j by omega] at this
 cases s; cases t
 simp only [S4.mk.injEq]
 exact ⟨word_ext h1 k1 fun j hj => H 0 j (by omega) hj, word_ext h2 k2 fun j hj => H 1 j (by omega) hj, word_ext h3 k3 fun j hj => H 2 j (by omega) hj, word_ext h4 k4 fun j hj => H 3 j (by omega) hj⟩
def S4.span (f : Nat) : Nat → S4
 | 0 => S4.empty
 | n + 1 => (S4.span f n).add (f + n)
theorem S4.span_ok (f n : Nat) : (S4.span f n).ok := by
 induction n with
 | zero => exact S4.empty_ok
 | succ n ih => exact S4.add_ok ih _
theorem S4.mem_span (f n j : Nat) (h : f + n ≤ 256) (hj : j < 256) : (S4.span f n).mem j = decide (f ≤ j ∧ j < f + n) := by
 induction n with
 | zero => rw [S4.span, S4.mem_empty, Bool.eq_iff_iff]; simp; try omega
 | succ n ih =>
  rw [S4.span, S4.mem_add _ _ _ (by omega) hj, ih (by omega)]
  rw [Bool.eq_iff_iff]; simp; omega
def S4.range (f t : Nat) : S4 := S4.span f (t + 1 - f)
theorem S4.range_ok (f t : Nat) : (S4.range f t).ok := S4.span_ok _ _
theorem S4.mem_range (f t j : Nat) (hf : f < 256) (ht : t < 256) (hj : j < 256) : (S4.range f t).mem j = decide (f ≤ j ∧ j ≤ t) := by
 unfold S4.range
 rw [S4.mem_span _ _ _ (by omega) hj]
 rw [Bool.eq_iff_iff]; simp; omega
theorem u64_or_pow (a y : Nat) (ha : a < 18446744073709551616) (hy : y < 64) : bits .or .u64 (a : Int) (IntKind.u64.wrap (2 ^ y)) = ((a ||| 2 ^ y : Nat) : Int) := by
 have hp := pow_lt hy
 have e : IntKind.u64.wrap (2 ^ y) = ((2 ^ y : Nat) : Int) := by
  have e1 : ((2 : Int) ^ y) = ((2 ^ y : Nat) : Int) := by simp
  rw [e1]
  generalize 2 ^ y = q at *
  rw [IntKind.wrap_u64]
  omega
 rw [e, u64_or_ a _ ha hp]
def S4.cells (s : S4) : Array Value := #[.int .u64 (s.a : Int), .int .u64 (s.b : Int), .int .u64 (s.c : Int), .int .u64 (s.d : Int)]
theorem S4.word_lt {s : S4} (h : s.ok) (i : Nat) : s.word i < 18446744073709551616 := by
 obtain ⟨h1, h2, h3, h4⟩ := h
 unfold S4.word
 (repeat' split) <;> assumption
theorem S4.cells_at (s : S4) (i : Nat) (hi : i < 4) : s.cells[i]? = some (.int .u64 (s.word i : Int)) := by
 have : i = 0 ∨ i = 1 ∨ i = 2 ∨ i = 3 := by omega
 rcases this with rfl | rfl | rfl | rfl <;> rfl
theorem S4.four {w : World} {g : Nat} {t : TypeId} {s : S4} (h : Bk w g t s.cells) :
    (w.cell? ⟨g, 0, none⟩ = some (.int .u64 (s.a : Int)) ∧ w.cell? ⟨g, 1, none⟩ = some (.int .u64 (s.b : Int)) ∧ w.cell? ⟨g, 2, none⟩ = some (.int .u64 (s.c : Int)) ∧ w.cell? ⟨g, 3, none⟩ = some (.int .u64 (s.d : Int))) ∧
    (w.frozen? ⟨g, 0, none⟩ = false ∧ w.frozen? ⟨g, 1, none⟩ = false ∧ w.frozen? ⟨g, 2, none⟩ = false ∧ w.frozen? ⟨g, 3, none⟩ = false) :=
 ⟨⟨h.cell_ rfl, h.cell_ rfl, h.cell_ rfl, h.cell_ rfl⟩, h.frozen 0, h.frozen 1, h.frozen 2, h.frozen 3⟩
theorem S4.cells_add (s : S4) (x : Nat) (hx : x < 256) : s.cells.setIfInBounds (x / 64) (.int .u64 ((s.word (x / 64) ||| 2 ^ (x % 64) : Nat) : Int)) = (s.add x).cells := by
 have : x / 64 = 0 ∨ x / 64 = 1 ∨ x / 64 = 2 ∨ x / 64 = 3 := by omega
 unfold S4.add
 rcases this with h | h | h | h <;> rw [h] <;> rfl
end Go.Proofs.YtfbmogccmlikaaaGreatDoor
namespace Go.Proofs.YtfbmogccmlikaaaGreatDoor
open Go.RowKit
set_option linter.unusedVariables false
set_option linter.unusedSimpArgs false
theorem not_any (s : S4) (w : World) (hs : s.ok) :
    Calls Tryz.prog 102 #[s.val] w fun e w' => e = .returned s.not.val ∧ Fr [] w w' := by
 obtain ⟨a, b, c, d⟩ := s
 obtain ⟨ha, hb, hc, hd⟩ := hs
 dsimp only at ha hb hc hd
 unfold S4.val
 dsimp only
 go_enter Tryz.func102, Tryz.ntmps102
 go_wp2_with fail
 refine wp_loop_rounds 5 ?_
 rw [rounds_succ]
 go_wp2_with fail
 rw [rounds_succ]
 go_wp2_with fail
 rw [rounds_succ]
 go_wp2_with fail
 rw [rounds_succ]
 go_wp2_with fail
 rw [rounds_succ]
 go_wp2_with fail
 refine bodyPost_ret (v := .agg #[.int .u64 (bits .xor .u64 IntKind.u64.max (a : Int)), .int .u64 (bits .xor .u64 IntKind.u64.max (b : Int)), .int .u64 (bits .xor .u64 IntKind.u64.max (c : Int)), .int .u64 (bits .xor .u64 IntKind.u64.max (d : Int))]) (by simp [results, Tryz.results102, go_sem]) rfl ⟨?_, ((Fr.refl [] w).alloc _).alloc _⟩
 rw [u64_cpl a ha, u64_cpl b hb, u64_cpl c hc, u64_cpl d hd]
 rfl
theorem or_any (s t : S4) (w : World) (hs : s.ok) (ht : t.ok) :
    Calls Tryz.prog 101 #[s.val, t.val] w fun e w' => e = .returned (s.or t).val ∧ Fr [] w w' := by
 obtain ⟨a, b, c, d⟩ := s
 obtain ⟨ha, hb, hc, hd⟩ := hs
 obtain ⟨a', b', c', d'⟩ := t
 obtain ⟨ha', hb', hc', hd'⟩ := ht
 dsimp only at ha hb hc hd ha' hb' hc' hd'
 unfold S4.val
 dsimp only
 go_enter Tryz.func101, Tryz.ntmps101
 go_wp2_with fail
 refine wp_loop_rounds 5 ?_
 rw [rounds_succ]
 go_wp2_with fail
 go_region
 go_wp2_with fail
 rw [rounds_succ]
 go_wp2_with fail
 go_region
 go_wp2_with fail
 rw [rounds_succ]
 go_wp2_with fail
 go_region
 go_wp2_with fail
 rw [rounds_succ]
 go_wp2_with fail
 go_region
 go_wp2_with fail
 rw [rounds_succ]
 go_wp2_with fail
 refine bodyPost_ret (v := .agg #[.int .u64 (bits .or .u64 (a : Int) (a' : Int)), .int .u64 (bits .or .u64 (b : Int) (b' : Int)), .int .u64 (bits .or .u64 (c : Int) (c' : Int)), .int .u64 (bits .or .u64 (d : Int) (d' : Int))]) (by simp [results, Tryz.results101, go_sem]) rfl ⟨?_, ?_⟩
 ·rw [u64_or_ a a' ha ha', u64_or_ b b' hb hb', u64_or_ c c' hc hc', u64_or_ d d' hd hd']
  rfl
 ·exact ((((((((Fr.refl [] w).alloc _).alloc _).alloc _).drew).drew).drew).drew)
theorem range_any (f t : Nat) (w : World) (hf : f < 256) (ht : t < 256) :
    Calls Tryz.prog 96 #[.int .u8 (f : Int), .int .u8 (t : Int)] w fun e w' => e = .returned (S4.range f t).val ∧ Fr [] w w' := by
 go_enter Tryz.func96, Tryz.ntmps96
 go_wp2_with fail
 go_loopw [6] (fun i wr => ∃ n : Nat, i = .int .i64 ((f + n : Nat) : Int) ∧ f + n ≤ max f (t + 1) ∧ Fr [] w wr ∧ w.heap.size + 1 < wr.heap.size ∧ Bk wr (w.heap.size + 1) 101 (S4.span f n).cells ∧ Bk wr w.heap.size 101 S4.empty.cells) (fun i _ => t + 1 - (intOf i).toNat)
 case atStart =>
  refine ⟨0, by simp, by omega, ((Fr.refl [] w).alloc _).alloc _, by simp, ?_, (Bk.new w _ _).alloc _⟩
  have := Bk.new (w.alloc (.cells S4.empty.cells 101)) 101 S4.empty.cells
  rw [World.size_alloc] at this
  exact this
 case round =>
  obtain ⟨n, rfl, hn, hfr, hlt, hb1, hb0⟩ := hrel
  have hlt0 : w.heap.size < wr.heap.size := by omega
  by_cases hle : f + n ≤ t
  ·have hi4 : (f + n) / 64 < 4 := by omega
   have hok := S4.span_ok f n
   have hcell := hb1.cell_ ((S4.span f n).cells_at _ hi4)
   have hfz := hb1.frozen ((f + n) / 64)
   have hnext : Bk (wr.setCell ⟨w.heap.size + 1, (f + n) / 64, none⟩ (.int .u64 (((S4.span f n).word ((f + n) / 64) ||| 2 ^ ((f + n) % 64) : Nat) : Int))) (w.heap.size + 1) 101 (S4.span f (n + 1)).cells := by
    have := hb1.put ((f + n) / 64) (.int .u64 (((S4.span f n).word ((f + n) / 64) ||| 2 ^ ((f + n) % 64) : Nat) : Int))
    rw [S4.cells_add _ _ (by omega)] at this
    exact this
   have hv := u64_or_pow ((S4.span f n).word ((f + n) / 64)) ((f + n) % 64) (S4.word_lt hok _) (Nat.mod_lt _ (by omega))
   rw [← hv] at hnext
   have hfr' : Fr [] w (wr.setCell ⟨w.heap.size + 1, (f + n) / 64, none⟩ (.int .u64 (bits .or .u64 ((S4.span f n).word ((f + n) / 64) : Int) (IntKind.u64.wrap (2 ^ ((f + n) % 64)))))) := hfr.setCell (.inr (by simp)) _
   have hb0' : Bk (wr.setCell ⟨w.heap.size + 1, (f + n) / 64, none⟩ (.int .u64 (bits .or .u64 ((S4.span f n).word ((f + n) / 64) : Int) (IntKind.u64.wrap (2 ^ ((f + n) % 64)))))) w.heap.size 101 S4.empty.cells := hb0.far (by simp) _
   generalize hW : (S4.span f n).word ((f + n) / 64) = W at *
   have HN := Lib.hid hnext; have HFR := Lib.hid hfr'; have HB0 := Lib.hid hb0'
   clear hnext hfr' hb0' hfr hb1 hb0 hok hv hW
   go_wp2_with fail
   go_region
   go_wp2_with fail
   go_roundw
   case rel => exact ⟨n + 1, by go_num, by omega, HFR.out.drew, by simp; omega, HN.out, HB0.out⟩
   case measure => simp [intOf]; omega
  ·have hend : S4.span f n = S4.range f t := by
    unfold S4.range
    congr 1
    omega
   rw [hend] at hb1
   obtain ⟨⟨c0, c1, c2, c3⟩, -⟩ := S4.four hb1
   obtain ⟨⟨k0, k1, k2, k3⟩, z0, z1, z2, z3⟩ := S4.four hb0
   generalize hR : S4.range f t = R at *
   have HFR := Lib.hid hfr; have HB0 := Lib.hid hb0; have HB1 := Lib.hid hb1; have HR := Lib.hid hR; clear hfr hb0 hb1 hend hR
   go_wp2_with fail
   refine bodyPost_ret (v := R.val) (by simp [results, Tryz.results96, go_sem, c0, c1, c2, c3, k0, k1, k2, k3, S4.val]) rfl ⟨by rw [HR.out], ((((HFR.out.setCell (.inr (Nat.le_refl _)) _).setCell (.inr (Nat.le_refl _)) _).setCell (.inr (Nat.le_refl _)) _).setCell (.inr (Nat.le_refl _)) _)⟩
end Go.Proofs.YtfbmogccmlikaaaGreatDoor
namespace Go.Proofs.YtfbmogccmlikaaaGreatDoor
open Go.RowKit
set_option linter.unusedVariables false
set_option linter.unusedSimpArgs false
theorem has_any (s : S4) (x : Nat) (w : World) (hx : x < 256) (hs : s.ok) :
    Calls Tryz.prog 71 #[s.val, .int .u8 (x : Int)] w fun e w' => e = .returned (.bool (s.mem x)) ∧ Fr [] w w' := by
 obtain ⟨a, b, c, d⟩ := s
 obtain ⟨ha, hb, hc, hd⟩ := hs
 dsimp only at ha hb hc hd
 obtain ⟨y, hy⟩ : ∃ y, x % 64 = y := ⟨_, rfl⟩
 have hy2 : (x : Int) % 64 = y := by omega
 have hyl : y < 64 := by omega
 have hi : x / 64 = 0 ∨ x / 64 = 1 ∨ x / 64 = 2 ∨ x / 64 = 3 := by omega
 have fin : ∀ C : Array Value, Fr [] w (w.alloc (.cells C 101)) := fun C => (Fr.refl _ _).alloc _
 have FIN := Lib.hid fin; clear fin
 unfold S4.val
 dsimp only
 rcases hi with hi | hi | hi | hi
 ·have hq : (x : Int) / 64 = 0 := by omega
  have hm : S4.mem ⟨a, b, c, d⟩ x = a.testBit y := by unfold S4.mem S4.word; rw [hy, hi]; simp
  rw [hm]
  have HA := Lib.hid ha; have HY := Lib.hid hy; clear ha hb hc hd hy hi hm
  go_enter Tryz.func71, Tryz.ntmps71
  go_wp2_with fail
  go_ret
  exact ⟨congrArg (fun v => Ending.returned (.bool v)) (bit_asked _ _ HA.out), FIN.out _⟩
 ·have hq : (x : Int) / 64 = 1 := by omega
  have hm : S4.mem ⟨a, b, c, d⟩ x = b.testBit y := by unfold S4.mem S4.word; rw [hy, hi]; simp
  rw [hm]
  have HA := Lib.hid hb; have HY := Lib.hid hy; clear ha hb hc hd hy hi hm
  go_enter Tryz.func71, Tryz.ntmps71
  go_wp2_with fail
  go_ret
  exact ⟨congrArg (fun v => Ending.returned (.bool v)) (bit_asked _ _ HA.out), FIN.out _⟩
 ·have hq : (x : Int) / 64 = 2 := by omega
  have hm : S4.mem ⟨a, b, c, d⟩ x = c.testBit y := by unfold S4.mem S4.word; rw [hy, hi]; simp
  rw [hm]
  have HA := Lib.hid hc; have HY := Lib.hid hy; clear ha hb hc hd hy hi hm
  go_enter Tryz.func71, Tryz.ntmps71
  go_wp2_with fail
  go_ret
  exact ⟨congrArg (fun v => Ending.returned (.bool v)) (bit_asked _ _ HA.out), FIN.out _⟩
 ·have hq : (x : Int) / 64 = 3 := by omega
  have hm : S4.mem ⟨a, b, c, d⟩ x = d.testBit y := by unfold S4.mem S4.word; rw [hy, hi]; simp
  rw [hm]
  have HA := Lib.hid hd; have HY := Lib.hid hy; clear ha hb hc hd hy hi hm
  go_enter Tryz.func71, Tryz.ntmps71
  go_wp2_with fail
  go_ret
  exact ⟨congrArg (fun v => Ending.returned (.bool v)) (bit_asked _ _ HA.out), FIN.out _⟩
end Go.Proofs.YtfbmogccmlikaaaGreatDoor
namespace Go.Proofs.YtfbmogccmlikaaaGreatDoor
open Go.RowKit
set_option linter.unusedVariables false
set_option linter.unusedSimpArgs false
def escN (c : Nat) : Nat := if c = 110 then 10 else if c = 116 then 9 else if c = 114 then 13 else if c = 102 then 12 else if c = 118 then 11 else if c = 97 then 7 else if c = 98 then 8 else c
theorem escN_lt {c : Nat} (h : c < 256) : escN c < 256 := by unfold escN; (repeat' split) <;> omega
theorem esc_110 (w : World) : Calls Tryz.prog 97 #[.int .u8 110] w fun e w' => e = .returned (.int .u8 10) ∧ w = w' := by
 go_enter Tryz.func97, Tryz.ntmps97
 go_wp2_with fail
 refine wp_loop_rounds 1 ?_
 rw [rounds_succ]
 go_wp2_with fail
 go_ret
 exact ⟨rfl, rfl⟩
theorem esc_116 (w : World) : Calls Tryz.prog 97 #[.int .u8 116] w fun e w' => e = .returned (.int .u8 9) ∧ w = w' := by
 go_enter Tryz.func97, Tryz.ntmps97
 go_wp2_with fail
 refine wp_loop_rounds 2 ?_
 rw [rounds_succ]
 go_wp2_with fail
 rw [rounds_succ]
 go_wp2_with fail
 go_ret
 exact ⟨rfl, rfl⟩
theorem esc_114 (w : World) : Calls Tryz.prog 97 #[.int .u8 114] w fun e w' => e = .returned (.int .u8 13) ∧ w = w' := by
 go_enter Tryz.func97, Tryz.ntmps97
 go_wp2_with fail
 refine wp_loop_rounds 3 ?_
 rw [rounds_succ]
 go_wp2_with fail
 rw [rounds_succ]
 go_wp2_with fail
 rw [rounds_succ]
 go_wp2_with fail
 go_ret
 exact ⟨rfl, rfl⟩
theorem esc_102 (w : World) : Calls Tryz.prog 97 #[.int .u8 102] w fun e w' => e = .returned (.int .u8 12) ∧ w = w' := by
 go_enter Tryz.func97, Tryz.ntmps97
 go_wp2_with fail
 refine wp_loop_rounds 4 ?_
 rw [rounds_succ]
 go_wp2_with fail
 rw [rounds_succ]
 go_wp2_with fail
 rw [rounds_succ]
 go_wp2_with fail
 rw [rounds_succ]
 go_wp2_with fail
 go_ret
 exact ⟨rfl, rfl⟩
theorem esc_118 (w : World) : Calls Tryz.prog 97 #[.int .u8 118] w fun e w' => e = .returned (.int .u8 11) ∧ w = w' := by
 go_enter Tryz.func97, Tryz.ntmps97
 go_wp2_with fail
 refine wp_loop_rounds 5 ?_
 rw [rounds_succ]
 go_wp2_with fail
 rw [rounds_succ]
 go_wp2_with fail
 rw [rounds_succ]
 go_wp2_with fail
 rw [rounds_succ]
 go_wp2_with fail
 rw [rounds_succ]
 go_wp2_with fail
 go_ret
 exact ⟨rfl, rfl⟩
theorem esc_97 (w : World) : Calls Tryz.prog 97 #[.int .u8 97] w fun e w' => e = .returned (.int .u8 7) ∧ w = w' := by
 go_enter Tryz.func97, Tryz.ntmps97
 go_wp2_with fail
 refine wp_loop_rounds 6 ?_
 rw [rounds_succ]
 go_wp2_with fail
 rw [rounds_succ]
 go_wp2_with fail
 rw [rounds_succ]
 go_wp2_with fail
 rw [rounds_succ]
 go_wp2_with fail
 rw [rounds_succ]
 go_wp2_with fail
 rw [rounds_succ]
 go_wp2_with fail
 go_ret
 exact ⟨rfl, rfl⟩
theorem esc_98 (w : World) : Calls Tryz.prog 97 #[.int .u8 98] w fun e w' => e = .returned (.int .u8 8) ∧ w = w' := by
 go_enter Tryz.func97, Tryz.ntmps97
 go_wp2_with fail
 refine wp_loop_rounds 7 ?_
 rw [rounds_succ]
 go_wp2_with fail
 rw [rounds_succ]
 go_wp2_with fail
 rw [rounds_succ]
 go_wp2_with fail
 rw [rounds_succ]
 go_wp2_with fail
 rw [rounds_succ]
 go_wp2_with fail
 rw [rounds_succ]
 go_wp2_with fail
 rw [rounds_succ]
 go_wp2_with fail
 go_ret
 exact ⟨rfl, rfl⟩
theorem esc_any (c : Nat) (hc : c < 256) (w : World) : Calls Tryz.prog 97 #[.int .u8 (c : Int)] w fun e w' => e = .returned (.int .u8 (escN c : Int)) ∧ w = w' := by
 by_cases h110 : c = 110
 ·subst h110; exact esc_110 w
 by_cases h116 : c = 116
 ·subst h116; exact esc_116 w
 by_cases h114 : c = 114
 ·subst h114; exact esc_114 w
 by_cases h102 : c = 102
 ·subst h102; exact esc_102 w
 by_cases h118 : c = 118
 ·subst h118; exact esc_118 w
 by_cases h97 : c = 97
 ·subst h97; exact esc_97 w
 by_cases h98 : c = 98
 ·subst h98; exact esc_98 w
 have e110 : ((110 : Int) == (c : Int)) = false := by simp; omega
 have e116 : ((116 : Int) == (c : Int)) = false := by simp; omega
 have e114 : ((114 : Int) == (c : Int)) = false := by simp; omega
 have e102 : ((102 : Int) == (c : Int)) = false := by simp; omega
 have e118 : ((118 : Int) == (c : Int)) = false := by simp; omega
 have e97 : ((97 : Int) == (c : Int)) = false := by simp; omega
 have e98 : ((98 : Int) == (c : Int)) = false := by simp; omega
 have he : escN c = c := by unfold escN; simp [h110, h116, h114, h102, h118, h97, h98]
 rw [he]
 clear he h110 h116 h114 h102 h118 h97 h98
 have i0 : ∀ W, (Instr.index 9 (.string ⟨#[110, 116, 114, 102, 118, 97, 98]⟩) (.int .i64 0)).run Tryz.prog W = .ok (.int .u8 110) W := fun _ => by kernel_rfl
 have i1 : ∀ W, (Instr.index 9 (.string ⟨#[110, 116, 114, 102, 118, 97, 98]⟩) (.int .i64 1)).run Tryz.prog W = .ok (.int .u8 116) W := fun _ => by kernel_rfl
 have i2 : ∀ W, (Instr.index 9 (.string ⟨#[110, 116, 114, 102, 118, 97, 98]⟩) (.int .i64 2)).run Tryz.prog W = .ok (.int .u8 114) W := fun _ => by kernel_rfl
 have i3 : ∀ W, (Instr.index 9 (.string ⟨#[110, 116, 114, 102, 118, 97, 98]⟩) (.int .i64 3)).run Tryz.prog W = .ok (.int .u8 102) W := fun _ => by kernel_rfl
 have i4 : ∀ W, (Instr.index 9 (.string ⟨#[110, 116, 114, 102, 118, 97, 98]⟩) (.int .i64 4)).run Tryz.prog W = .ok (.int .u8 118) W := fun _ => by kernel_rfl
 have i5 : ∀ W, (Instr.index 9 (.string ⟨#[110, 116, 114, 102, 118, 97, 98]⟩) (.int .i64 5)).run Tryz.prog W = .ok (.int .u8 97) W := fun _ => by kernel_rfl
 have i6 : ∀ W, (Instr.index 9 (.string ⟨#[110, 116, 114, 102, 118, 97, 98]⟩) (.int .i64 6)).run Tryz.prog W = .ok (.int .u8 98) W := fun _ => by kernel_rfl
 go_enter Tryz.func97, Tryz.ntmps97
 go_wp2_with fail
 refine wp_loop_rounds 8 ?_
 rw [rounds_succ]
 go_wp2_with fail
 rw [rounds_succ]
 go_wp2_with fail
 rw [rounds_succ]
 go_wp2_with fail
 rw [rounds_succ]
 go_wp2_with fail
 rw [rounds_succ]
 go_wp2_with fail
 rw [rounds_succ]
 go_wp2_with fail
 rw [rounds_succ]
 go_wp2_with fail
 rw [rounds_succ]
 go_wp2_with fail
 go_ret
 exact ⟨rfl, rfl⟩
def FaultV (w : World) (v : Value) (at_ code : Int) : Prop :=
 ∃ g, v = .iface 110 (.pointer (some ⟨g, 0, none⟩)) ∧ Bk w g 112 #[.int .i64 at_, .iface 52 (.int .i64 code)]
theorem FaultV.fr {w w' : World} {v : Value} {p c : Int} (h : FaultV w v p c) (hf : Fr [] w w') : FaultV w' v p c := by
 obtain ⟨g, h1, h2⟩ := h
 exact ⟨g, h1, h2.fr hf (by simp)⟩
def FaultPost (w : World) (p c : Int) (e : Ending) (w' : World) : Prop := ∃ v, e = .returned v ∧ FaultV w' v p c ∧ Fr [] w w'
theorem fault_any (p c : Int) (w : World) : Calls Tryz.prog 99 #[.int .i64 p, .int .i64 c] w (FaultPost w p c) := by
 go_enter Tryz.func99, Tryz.ntmps99
 go_wp2_with fail
 go_ret
 exact ⟨_, rfl, ⟨_, rfl, Bk.new _ _ _⟩, (Fr.refl _ _).alloc _⟩
def bn (bs : List UInt8) (i : Nat) : Nat := (bs.getD i 0).toNat
theorem bn_lt (bs : List UInt8) (i : Nat) : bn bs i < 256 := (bs.getD i 0).toNat_lt
theorem byte_at {w : World} {A : Option Addr} {bs : List UInt8} (h : Bytes w A bs) {i : Nat} (hi : i < bs.length) : ∃ b off, A = some ⟨b, off, none⟩ ∧ b < w.heap.size ∧ ∀ j, j < bs.length → w.cell? ⟨b, off + j, none⟩ = some (.int .u8 (bn bs j : Int)) := by
 have hj : ∀ j, j < bs.length → (byteVals bs)[j]? = some (.int .u8 (bn bs j : Int)) := fun j hj => by simp [byteVals, bn, hj]
 rcases h with h | ⟨a, rfl, hb, hc⟩
 ·exfalso
  have : bs = [] := by simpa [byteVals] using h
  subst this; simp at hi
 ·obtain ⟨b, off, spot⟩ := a
  have h0 := hc 0 _ (hj 0 (by omega))
  have hsp : spot = none := by
   cases spot with
   | none => rfl
   | some s =>
    exfalso
    have e0 : (⟨b, off, some s⟩ : Addr).add 0 = ⟨b, off, some s⟩ := by simp [Addr.add]
    rw [e0] at h0
    unfold World.cell? at h0
    split at h0
    ·simp at h0
    ·cases h0
  subst hsp
  refine ⟨b, off, rfl, hb, fun j hjl => ?_⟩
  have := hc j _ (hj j hjl)
  have e : (⟨b, off, none⟩ : Addr).add j = ⟨b, off + j, none⟩ := by unfold Addr.add; split <;> simp_all
  rwa [e] at this
def opensS (bs : List UInt8) (i : Nat) : Bool := decide (i + 1 < bs.length) && (((bn bs i : Int) == 91) && ((bn bs (i + 1) : Int) == 58))
theorem opens_any {w : World} {A : Option Addr} {bs : List UInt8} {c : Nat} (h : Bytes w A bs) (i : Nat) (hl : bs.length ≤ 1000000000) (hi : i ≤ 1000000000) :
    Calls Tryz.prog 104 #[.slice A bs.length c, .int .i64 (i : Int)] w fun e w' => e = .returned (.bool (opensS bs i)) ∧ w = w' := by
 unfold opensS
 by_cases h1 : i + 1 < bs.length
 ·obtain ⟨b, off, rfl, hb, hc⟩ := byte_at h (i := i) (by omega)
  have c0 := hc i (by omega)
  have c1 := hc (i + 1) h1
  have b0 := bn_lt bs i
  have b1 := bn_lt bs (i + 1)
  clear hc h
  have h1b : decide (i + 1 < bs.length) = true := by simpa using h1
  cases g1 : ((bn bs i : Int) == 91)
  ·go_enter Tryz.func104, Tryz.ntmps104
   go_wp2_with fail
   go_ret
   exact ⟨by simp [h1b], rfl⟩
  ·cases g2 : ((bn bs (i + 1) : Int) == 58)
   all_goals
    go_enter Tryz.func104, Tryz.ntmps104
    go_wp2_with fail
    go_ret
    exact ⟨by simp [h1b], rfl⟩
 ·clear h
  go_enter Tryz.func104, Tryz.ntmps104
  go_wp2_with fail
  go_ret
  exact ⟨by simp [h1], rfl⟩
def singleS (bs : List UInt8) (i : Nat) : Option (Nat × Nat) :=
 if bs.length ≤ i then none else if bn bs i ≠ 92 then some (bn bs i, i + 1) else if bs.length ≤ i + 1 then none else some (escN (bn bs (i + 1)), i + 2)
def singleV (r : Option (Nat × Nat)) (i : Nat) : Value := match r with
 | none => .tuple #[.int .u8 0, .int .i64 (i : Int), .bool false]
 | some (c, n) => .tuple #[.int .u8 (c : Int), .int .i64 (n : Int), .bool true]
theorem single_any {w : World} {A : Option Addr} {bs : List UInt8} {c : Nat} (h : Bytes w A bs) (i : Nat) (hl : bs.length ≤ 1000000000) (hi : i ≤ 1000000000) :
    Calls Tryz.prog 106 #[.slice A bs.length c, .int .i64 (i : Int)] w fun e w' => e = .returned (singleV (singleS bs i) i) ∧ w = w' := by
 by_cases h1 : bs.length ≤ i
 ·have hs : singleS bs i = none := by unfold singleS; rw [if_pos h1]
  rw [hs]
  unfold singleV
  clear hs h
  go_enter Tryz.func106, Tryz.ntmps106
  go_wp2_with fail
  go_ret3
  exact ⟨rfl, rfl⟩
 ·obtain ⟨b, off, rfl, hb, hc⟩ := byte_at h (i := i) (by omega)
  have c0 := hc i (by omega)
  have b0 := bn_lt bs i
  clear h
  by_cases g : bn bs i = 92
  ·have g1 : (!((bn bs i : Int) == 92)) = false := by simp [g]
   have g2 : ((bn bs i : Int) != 92) = false := by simp [g]
   by_cases h2 : bs.length ≤ i + 1
   ·have hs : singleS bs i = none := by unfold singleS; rw [if_neg h1, if_neg (by simpa using g), if_pos h2]
    rw [hs]
    unfold singleV
    clear hs hc g
    go_enter Tryz.func106, Tryz.ntmps106
    go_wp2_with fail
    go_ret3
    exact ⟨rfl, rfl⟩
   ·have hs : singleS bs i = some (escN (bn bs (i + 1)), i + 2) := by unfold singleS; rw [if_neg h1, if_neg (by simpa using g), if_neg h2]
    have c1 := hc (i + 1) (by omega)
    have b1 := bn_lt bs (i + 1)
    rw [hs]
    unfold singleV
    clear hs hc g
    go_enter Tryz.func106, Tryz.ntmps106
    go_wp2_with (go_at_call 97; refine (esc_any _ b1 _).mono ?_; rintro e w1 ⟨rfl, rfl⟩)
    go_ret3
    exact ⟨rfl, rfl⟩
  ·have g1 : (!((bn bs i : Int) == 92)) = true := by simp; omega
   have g2 : ((bn bs i : Int) != 92) = true := by simp; omega
   have hs : singleS bs i = some (bn bs i, i + 1) := by unfold singleS; rw [if_neg h1, if_pos g]
   rw [hs]
   unfold singleV
   clear hs hc g
   go_enter Tryz.func106, Tryz.ntmps106
   go_wp2_with fail
   go_ret3
   exact ⟨rfl, rfl⟩
end Go.Proofs.YtfbmogccmlikaaaGreatDoor
