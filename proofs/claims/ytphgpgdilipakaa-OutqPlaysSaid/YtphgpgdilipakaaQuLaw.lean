/-
  The laws of layer 19, their own helpers: 'few', 'awake'.
-/
import Derived.Test.YtphgpgdilipakaaOutq
import Derived.LoopTactic
namespace Go.Proofs.Ytphgpgdilipakaa
open Go.RowKit
set_option linter.unusedVariables false
set_option linter.unusedSimpArgs false

/-- The acts: kind, number, bytes of each. -/
def Acts (w : World) (A : Option Addr) (n : Nat) (K N : Nat → Int) (BA : Nat → Option Addr) (BC : Nat → Nat) (BB : Nat → List UInt8) : Prop :=
  ∀ i, i < n → ∃ b off, A = some ⟨b, off, none⟩ ∧ b < w.heap.size ∧ w.cell? ⟨b, off + i * 3, none⟩ = some (.int .i64 (K i)) ∧ w.cell? ⟨b, off + i * 3 + 1, none⟩ = some (.int .i64 (N i)) ∧
    w.cell? ⟨b, off + i * 3 + 2, none⟩ = some (.slice (BA i) (BB i).length (BC i)) ∧ Bytes w (BA i) (BB i) ∧ (BB i).length ≤ maxLen

theorem Acts.fr {w w' : World} {A : Option Addr} {n : Nat} {K N : Nat → Int} {BA : Nat → Option Addr} {BC : Nat → Nat} {BB : Nat → List UInt8} (h : Acts w A n K N BA BC BB) (hf : Fr [] w w') : Acts w' A n K N BA BC BB := by
  intro i hi
  obtain ⟨b, off, hA, hb, h0, h1, h2, h3, h4⟩ := h i hi
  exact ⟨b, off, hA, Nat.lt_of_lt_of_le hb hf.size, (hf.cell hb (by simp)).trans h0, (hf.cell hb (by simp)).trans h1, (hf.cell hb (by simp)).trans h2, At.fr_nil h3 hf, h4⟩

theorem At.below {w w' : World} {A : Option Addr} {xs : List Value} (h : At w A xs) (hb : Below w.heap.size w w') : At w' A xs := h.fr_nil (Fr.of_below hb)
theorem Acts.below {w w' : World} {A : Option Addr} {n : Nat} {K N : Nat → Int} {BA : Nat → Option Addr} {BC : Nat → Nat} {BB : Nat → List UInt8} (h : Acts w A n K N BA BC BB) (hb : Below w.heap.size w w') : Acts w' A n K N BA BC BB := h.fr (Fr.of_below hb)

theorem Acts.bytes {w : World} {A : Option Addr} {n : Nat} {K N : Nat → Int} {BA : Nat → Option Addr} {BC : Nat → Nat} {BB : Nat → List UInt8} (h : Acts w A n K N BA BC BB) {k : Nat} (hk : k < n) : Bytes w (BA k) (BB k) := by
  obtain ⟨_, _, _, _, _, _, _, e, _⟩ := h k hk; exact e
def fewB (n : Nat) (BB : Nat → List UInt8) : Bool := decide (n ≤ 40) && (List.range n).all fun i => decide ((BB i).length ≤ 60)

theorem fewB_no {n : Nat} {BB : Nat → List UInt8} {k : Nat} (hk : k < n) (h : 60 < (BB k).length) : fewB n BB = false := by
  unfold fewB
  rw [Bool.and_eq_false_iff]
  right
  rw [List.all_eq_false]
  exact ⟨k, by simpa using hk, by simp; omega⟩
theorem fewB_yes {n : Nat} {BB : Nat → List UInt8} (hn : n ≤ 40) (h : ∀ i, i < n → (BB i).length ≤ 60) : fewB n BB = true := by
  unfold fewB
  rw [Bool.and_eq_true]
  exact ⟨by simpa using hn, by rw [List.all_eq_true]; intro i hi; simpa using h i (by simpa using hi)⟩

theorem few_any {w : World} {A : Option Addr} {n c : Nat} {K N : Nat → Int} {BA : Nat → Option Addr} {BC : Nat → Nat} {BB : Nat → List UInt8} (h : Acts w A n K N BA BC BB) (hn : n ≤ maxLen) :
    Calls Try.prog 8 #[.slice A n c] w fun e w' => e = .returned (.bool (fewB n BB)) ∧ w = w' := by
  unfold maxLen at hn
  by_cases h1 : n ≤ 40
  · go_enter Try.func8, Try.ntmps8
    go_wp2
    go_loop [3] (fun i => ∃ k : Nat, k ≤ n ∧ i = .int .i64 k ∧ ∀ j, j < k → (BB j).length ≤ 60) (fun i => n - (intOf i).toNat)
    case atStart => exact ⟨0, by omega, rfl, by simp⟩
    case round =>
      obtain ⟨k, hk, rfl, hall⟩ := hrel
      have HALL := Lib.hid hall; clear hall
      by_cases hlt : k < n
      · obtain ⟨b, off, rfl, hb, e0, e1, e2, e3, e4⟩ := h k hlt
        unfold maxLen at e4
        by_cases h6 : 60 < (BB k).length
        · have H := Lib.hid (fewB_no hlt h6)
          go_wp2
          go_ret
          exact ⟨by rw [H.out]; rfl, rfl⟩
        · go_wp2
          go_round
          case rel => exact ⟨k + 1, by omega, by go_num, fun j hj => by
            rcases Nat.lt_or_ge j k with h | h
            · exact HALL.out j h
            · have : j = k := by omega
              subst this; omega⟩
          case measure => simp [intOf]; omega
      · have : k = n := by omega
        subst this
        have H := Lib.hid (fewB_yes h1 HALL.out)
        go_wp2
        go_ret
        exact ⟨by rw [H.out]; rfl, rfl⟩
  · have H : Hid (fewB n BB = false) := by unfold fewB Hid; simp; omega
    go_enter Try.func8, Try.ntmps8
    go_wp2
    go_ret
    exact ⟨by rw [H.out]; rfl, rfl⟩

theorem que_new {w : World} {lo hi room : Int} : Que (w.alloc (.cells (qCells lo hi room none 0 0 false 0 0) 50)) w.heap.size lo hi room [] false 0 0 :=
  ⟨none, 0, Bk.new _ _ _, At.nil_ _ _, by simp, by simp, by simp, by simp⟩

/-- A queue stays over a frame that does not name its block nor its bytes' block. -/
theorem Que.fr_nil {w w' : World} {q : Nat} {lo hi room : Int} {bs : List UInt8} {ab : Bool} {qu go : Int} (h : Que w q lo hi room bs ab qu go) (hf : Fr [] w w') : Que w' q lo hi room bs ab qu go := by
  obtain ⟨A, c, h1, h2, h3, h4, h5, h6⟩ := h
  exact ⟨A, c, h1.fr hf (by simp), At.fr_nil h2 hf, h3, h4, h5, h6⟩
theorem Que.lt {w : World} {q : Nat} {lo hi room : Int} {bs : List UInt8} {ab : Bool} {qu go : Int} (h : Que w q lo hi room bs ab qu go) : q < w.heap.size := by
  obtain ⟨A, c, h1, -⟩ := h; exact h1.lt

theorem awake_any (w : World) : Calls Try.prog 6 #[] w fun e w' => e = .returned (.bool true) ∧ Fr [] w w' := by
  go_enter Try.func6, Try.ntmps6
  go_wp2_with fail
  refine (new_yes 1 3 5 w (by omega) (by omega) (by omega) (by omega)).mono ?_
  rintro e w1 ⟨rfl, hw1⟩
  have hq := que_new (w := w) (lo := 1) (hi := 3) (room := 5)
  rw [← hw1] at hq
  have hf1 : Fr [] w w1 := by rw [hw1]; exact (Fr.refl _ _).alloc _
  have HQ := Lib.hid hq; have HF1 := Lib.hid hf1; clear hq hf1 hw1
  go_wp2_with fail
  refine (new_no 1 1 5 w1 (by omega)).mono ?_
  rintro e w2 ⟨rfl, rfl⟩
  have hb0 : At (w1.alloc (.cells #[.int .u8 97, .int .u8 98, .int .u8 99] 5)) (some ⟨w1.heap.size, 0, none⟩) (byteVals [97, 98, 99]) := At.of_bk (n := 3) (Bk.new _ _ _) rfl
  have hq2 := HQ.out.fr_nil ((Fr.refl [] w1).alloc (.cells #[.int .u8 97, .int .u8 98, .int .u8 99] 5))
  have hf2 : Fr [] w1 (w1.alloc (.cells #[.int .u8 97, .int .u8 98, .int .u8 99] 5)) := (Fr.refl _ _).alloc _
  have hlt := HQ.out.lt
  have HB0 := Lib.hid hb0; have HQ2 := Lib.hid hq2; have HF2 := Lib.hid hf2; clear hb0 hq2 hf2
  go_wp2_with (first
    | (refine wpList_same rfl 27 (.tmp 13) rfl 5 Try.underlying27 Try.underlying5 ⟨w1.heap.size, 0, none⟩ 3 3 rfl (byteVals [97, 98, 99]) HB0.out ?_; intro w2 hat hfr; have HAT := Lib.hid hat; have HFR := Lib.hid hfr; clear hat hfr)
    | (go_at_call 999; trivial))
  have hq3 : Que w2 w.heap.size 1 3 5 [] false 0 0 := by
    obtain ⟨A, c, h1, h2, h3, h4, h5, h6⟩ := HQ2.out
    refine ⟨A, c, h1.fr HFR.out (by simp; omega), ?_, h3, h4, h5, h6⟩
    exact At.nil_ _ _
  refine (put_yes (xs := [97, 98, 99]) hq3 (by omega) _ _ HAT.out (by simp) (by omega) (by omega)).mono ?_
  rintro e w3 ⟨rfl, hq4, hf4⟩
  have e1 : markB 1 3 ([] ++ [97, 98, 99] : List UInt8).length false = true := rfl
  rw [e1] at hq4
  have hf : Fr [] w w3 := ((HF1.out.trans' HF2.out (by simp)).trans' HFR.out (by simp; omega)).trans' hf4 (by simp)
  have HQ4 := Lib.hid hq4; have HF := Lib.hid hf; clear hq4 hf hf4 e1 hq3 HAT HFR HB0 HQ2 HF2 HQ HF1
  go_wp2_with fail
  refine (above_any HQ4.out).mono ?_
  rintro e w4 ⟨rfl, rfl⟩
  go_wp2_with fail
  refine (took_at HQ4.out (by simp) 1 1 rfl (by omega) (by omega)).mono ?_
  rintro e w5 ⟨rfl, hq5, hf5⟩
  have e1 : markB 1 3 (([] ++ [97, 98, 99] : List UInt8).drop 1).length true = true := rfl
  rw [e1] at hq5
  have hf : Fr [] w w5 := HF.out.trans' hf5 (by simp)
  have HQ5 := Lib.hid hq5; have HF5 := Lib.hid hf; clear hq5 hf hf5 e1 HQ4 HF
  go_wp2_with fail
  refine (above_any HQ5.out).mono ?_
  rintro e w6 ⟨rfl, rfl⟩
  go_wp2_with fail
  refine (took_at HQ5.out (by simp) 1 1 rfl (by omega) (by omega)).mono ?_
  rintro e w7 ⟨rfl, hq7, hf7⟩
  have e1 : markB 1 3 ((([] ++ [97, 98, 99] : List UInt8).drop 1).drop 1).length true = false := rfl
  rw [e1] at hq7
  have hf : Fr [] w w7 := HF5.out.trans' hf7 (by simp)
  have HQ7 := Lib.hid hq7; have HF7 := Lib.hid hf; clear hq7 hf hf7 e1 HQ5 HF5
  go_wp2_with fail
  refine (above_any HQ7.out).mono ?_
  rintro e w8 ⟨rfl, rfl⟩
  go_wp2_with fail
  refine (next_at HQ7.out (by simp) 9 1 rfl).mono ?_
  rintro e w9 ⟨A9, c9, rfl, hb9, hk9, hc9, hn9, hq9, hf9, -⟩
  have hf : Fr [] w w9 := HF7.out.trans' hf9 (by simp)
  have HQ9 := Lib.hid hq9; have HF9 := Lib.hid hf; have HB9 := Lib.hid hb9; clear hq9 hf hf9 hb9 HQ7 HF7 hn9
  go_wp2_with (first
    | (refine wpList_str rfl 27 9 (.tmp 39) rfl 5 Try.underlying27 Try.underlying5 Try.underlying9 A9 1 c9 rfl _ HB9.out rfl ?_)
    | (go_at_call 14; refine (queued_any HQ9.out).mono ?_; rintro e w10 ⟨rfl, rfl⟩)
    | (go_at_call 22; refine (gone_any HQ9.out).mono ?_; rintro e w10 ⟨rfl, rfl⟩))
  go_ret
  exact ⟨rfl, HF9.out⟩
end Go.Proofs.Ytphgpgdilipakaa
