/-
  What the law's awake tells of a cutter. No conditions on the program.
-/
import Derived.Test.YtdjmhflfhepmmaaDoorRc3
namespace Go.Proofs.YtdjmhflfhepmmaaDoor
open Go.RowKit
set_option linter.unusedVariables false
set_option linter.unusedSimpArgs false

/-- Next, of a cutter whose blocks lie from B on. -/
theorem nextB_ok {w : World} {B q : Nat} {x : Cu} (h : CuB w B q x) (hB : B ≤ w.heap.size) (hb : x.bs.length ≤ 65536) (a b : Nat) (he : fstM x.c x.bs x.en = (a, b, true)) (y : Cu) (hy : { x with bs := x.bs.drop b } = y) (r : List UInt8) (hr : x.bs.take a = r) :
    Calls Tryd.prog 10 #[.pointer (some ⟨q, 0, none⟩)] w fun e w' => e = .returned (.tuple #[.string ⟨r.toArray⟩, .bool true, .nilIface]) ∧ CuB w' B q y ∧ Below B w w' := by
  obtain ⟨v, hR, h1, h2⟩ := h
  subst hy hr
  exact (next_ok hR hb a b he).mono fun e w' h => ⟨h.1, CuB.to h1 h2 hB h.2⟩
theorem nextB_wait {w : World} {B q : Nat} {x : Cu} (h : CuB w B q x) (hB : B ≤ w.heap.size) (hb : x.bs.length ≤ 65536) (hen : x.en = false) (he : fstM x.c x.bs x.en = (0, 0, false)) (hl : (x.bs.length : Int) < x.room) :
    Calls Tryd.prog 10 #[.pointer (some ⟨q, 0, none⟩)] w fun e w' => e = .returned (.tuple #[.string ⟨#[]⟩, .bool false, .nilIface]) ∧ CuB w' B q x ∧ Below B w w' := by
  obtain ⟨v, hR, h1, h2⟩ := h
  exact (next_wait hR hb hen he hl).mono fun e w' h => ⟨h.1, CuB.to h1 h2 hB h.2⟩
theorem nextB_long {w : World} {B q : Nat} {x : Cu} (h : CuB w B q x) (hB : B ≤ w.heap.size) (hb : x.bs.length ≤ 65536) (hen : x.en = false) (he : fstM x.c x.bs x.en = (0, 0, false)) (hl : x.room ≤ (x.bs.length : Int)) (y : Cu) (hy : { x with bs := [], en := true } = y) :
    Calls Tryd.prog 10 #[.pointer (some ⟨q, 0, none⟩)] w fun e w' => e = .returned (.tuple #[.string ⟨#[]⟩, .bool false, errV 20]) ∧ CuB w' B q y ∧ Below B w w' := by
  obtain ⟨v, hR, h1, h2⟩ := h
  subst hy
  exact (next_long hR hb hen he hl).mono fun e w' h => ⟨h.1, CuB.to h1 h2 hB h.2⟩
theorem putB {w : World} {B q : Nat} {x : Cu} (h : CuB w B q x) (hB : B ≤ w.heap.size) (hr : 0 ≤ x.room ∧ x.room ≤ 65536) (hb : (x.bs.length : Int) ≤ x.room) {bA : Option Addr} {bs : List UInt8} {bn bc : Nat} (hn : bs.length = bn) (hby : Bytes w bA bs) (hbc : bn ≤ bc) (hbl : bn ≤ 100000000) (kk : Nat) (hkk : (kk : Int) = min (bn : Int) (freeM x)) (y : Cu) (hy : { x with bs := x.bs ++ bs.take kk } = y) :
    Calls Tryd.prog 9 #[.pointer (some ⟨q, 0, none⟩), .slice bA bn bc] w fun e w' => e = .returned (.int .i64 (kk : Int)) ∧ CuB w' B q y ∧ Below B w w' := by
  obtain ⟨v, hR, h1, h2⟩ := h
  subst hy
  exact (cput_any hR hr hb hn hby hbc hbl kk hkk).mono fun e w' h => ⟨h.1, CuB.to h1 h2 hB h.2⟩
theorem endB {w : World} {B q : Nat} {x : Cu} (h : CuB w B q x) (hB : B ≤ w.heap.size) (y : Cu) (hy : { x with en := true } = y) :
    Calls Tryd.prog 15 #[.pointer (some ⟨q, 0, none⟩)] w fun e w' => e = .returned (.tuple #[]) ∧ CuB w' B q y ∧ Below B w w' := by
  obtain ⟨v, hR, h1, h2⟩ := h
  subst hy
  exact (end_any hR).mono fun e w' h => ⟨h.1, CuB.to h1 h2 hB h.2⟩
theorem newB {w : World} {B : Nat} (hB : B ≤ w.heap.size) (c : UInt8) (h2 : c ≠ 92) (k : Int) (hk : 1 ≤ k ∧ k ≤ 65536) : Calls Tryd.prog 8 #[.string ⟨#[c]⟩, .int .i64 k] w fun e w' =>
    ∃ q, e = .returned (.tuple #[.pointer (some ⟨q, 0, none⟩), .nilIface]) ∧ CuB w' B q ⟨c, k, [], false⟩ ∧ Fr [] w w' :=
  (rnew_one c h2 k hk).mono fun e w' ⟨q, he, hr, hq, hf⟩ => ⟨q, he, ⟨_, hr, by omega, fun k hk => by simp [Value.ownBlock] at hk⟩, hf⟩
theorem sizeB {B : Nat} {w w' : World} (hB : B ≤ w.heap.size) (h : Below B w w') : B ≤ w'.heap.size := Nat.le_trans hB h.size
set_option maxRecDepth 100000 in
set_option maxHeartbeats 1000000 in
theorem awake_any (w : World) : Calls Tryd.prog 6 #[] w fun e w' => e = .returned (.bool true) ∧ Below w.heap.size w w' := by
  obtain ⟨B, hB⟩ : ∃ B, B = w.heap.size := ⟨_, rfl⟩
  rw [← hB]
  go_enter Tryd.func6, Tryd.ntmps6
  go_wp2_with fail
  go_at_call 8
  refine (newB (B := B) (Nat.le_of_eq hB) 10 (by decide) 10 (by omega)).mono ?_
  rintro e w1 ⟨q, rfl, hc, hf⟩
  have HC := Lib.hid hc; have HF := Lib.hid (show Below B w w1 from by rw [hB]; exact hf.below_nil); have HS := Lib.hid (show B ≤ w1.heap.size from by rw [hB]; exact hf.size)
  clear hc hf hB
  go_wp2_with (refine wpList_same rfl 24 (.tmp 24) rfl 5 Tryd.underlying24 Tryd.underlying5 ⟨w1.heap.size, 0, none⟩ 3 3 (by rfl) (byteVals [97, 10, 98]) (At.of_bk (n := 3) (Bk.new w1 5 #[.int .u8 97, .int .u8 10, .int .u8 98]) (by rfl)) ?_; intro w2 hat hfr; have HAT := Lib.hid hat; have HF2 := Lib.hid (((Fr.refl [] w1).alloc _).trans' hfr (by simp)); clear hat hfr)
  go_at_call 9
  refine (putB (HC.out.fr_nil HF2.out) (Nat.le_trans HS.out HF2.out.size) (by decide) (by decide) (bs := [97, 10, 98]) rfl HAT.out (by decide) (by decide) 3 (by decide) ⟨10, 10, [97, 10, 98], false⟩ rfl).mono ?_
  rintro e w3 ⟨rfl, hc, hb⟩
  have HC3 := Lib.hid hc; have HB3 := Lib.hid ((HF.out.trans (HF2.out.below_nil.mono HS.out)).trans hb); have HS3 := Lib.hid (sizeB (Nat.le_trans HS.out HF2.out.size) hb)
  clear hc hb HC HF HF2 HS HAT
  go_wp2_with fail
  go_at_call 10
  refine (nextB_ok HC3.out HS3.out (by decide) 1 2 (by decide) ⟨10, 10, [98], false⟩ rfl [97] rfl).mono ?_
  rintro e w4 ⟨rfl, hc, hb⟩
  have HC4 := Lib.hid hc; have HB4 := Lib.hid (HB3.out.trans hb); have HS4 := Lib.hid (sizeB HS3.out hb)
  clear hc hb HC3 HB3 HS3
  go_wp2_with fail
  go_at_call 10
  refine (nextB_wait HC4.out HS4.out (by decide) rfl (by decide) (by decide)).mono ?_
  rintro e w5 ⟨rfl, hc, hb⟩
  have HC5 := Lib.hid hc; have HB5 := Lib.hid (HB4.out.trans hb); have HS5 := Lib.hid (sizeB HS4.out hb)
  clear hc hb HC4 HB4 HS4
  go_wp2_with fail
  go_at_call 15
  refine (endB HC5.out HS5.out ⟨10, 10, [98], true⟩ rfl).mono ?_
  rintro e w6 ⟨rfl, hc, hb⟩
  have HC6 := Lib.hid hc; have HB6 := Lib.hid (HB5.out.trans hb); have HS6 := Lib.hid (sizeB HS5.out hb)
  clear hc hb HC5 HB5 HS5
  go_wp2_with fail
  go_at_call 10
  refine (nextB_ok HC6.out HS6.out (by decide) 1 1 (by decide) ⟨10, 10, [], true⟩ rfl [98] rfl).mono ?_
  rintro e w7 ⟨rfl, hc, hb⟩
  have HC7 := Lib.hid hc; have HB7 := Lib.hid (HB6.out.trans hb)
  clear hc hb HC6 HB6 HS6
  go_wp2_with fail
  go_at_call 12
  obtain ⟨v, hR, -, -⟩ := HC7.out
  refine (ended_any hR).mono ?_
  rintro e w8 ⟨rfl, rfl⟩
  clear hR
  dsimp only
  go_wp2_with fail
  go_ret
  exact ⟨rfl, HB7.out⟩
end Go.Proofs.YtdjmhflfhepmmaaDoor
