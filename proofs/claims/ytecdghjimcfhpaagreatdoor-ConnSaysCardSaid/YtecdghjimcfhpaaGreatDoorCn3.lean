/-
  A connection's New, Record, Ended; what awake tells. No conditions on the program.
-/
import Derived.Test.YtecdghjimcfhpaaGreatDoorCn2
namespace Go.Proofs.YtecdghjimcfhpaaGreatDoor
open Go.RowKit
set_option linter.unusedVariables false
set_option linter.unusedSimpArgs false

set_option maxRecDepth 100000 in
set_option maxHeartbeats 2000000 in
theorem cnew_ok (w : World) (c : UInt8) (hc : c ≠ 92) (k lo hi room idle now : Int) (hk : 1 ≤ k ∧ k ≤ 4096) (hlo : 0 ≤ lo) (hhi : lo < hi) (hroom : hi ≤ room ∧ room ≤ 65536) (hidle : 0 ≤ idle ∧ idle ≤ 1048576) (hnow : 0 ≤ now ∧ now ≤ 1099511627776) :
    Calls Tryz.prog 6 #[.string ⟨#[c]⟩, .agg #[.int .i64 k, .int .i64 lo, .int .i64 hi, .int .i64 room, .int .i64 idle], .int .i64 now] w fun e w' =>
      ∃ g q r, e = .returned (.tuple #[.pointer (some ⟨g, 0, none⟩), .nilIface]) ∧ Cn w' w.heap.size g q r ⟨c, k, [], false⟩ (Q0 lo hi room) 0 now idle ∧ Fr [] w w' ∧ CuR w' r ⟨c, k, [], false⟩ (.slice none 0 0) := by
  have t0 : decide (k < 1) = false := decide_eq_false (by omega)
  have t1 : decide (4096 < k) = false := decide_eq_false (by omega)
  have t2 : decide (idle < 0) = false := decide_eq_false (by omega)
  have t3 : decide (1048576 < idle) = false := decide_eq_false (by omega)
  go_enter Tryz.func6, Tryz.ntmps6
  go_wp2_with fail
  go_at_call 19
  refine calls_gen fun V hV => ?_
  have hbx : Bk V w.heap.size 29 #[.int .i64 k, .int .i64 lo, .int .i64 hi, .int .i64 room, .int .i64 idle] := by rw [hV]; exact Bk.new _ _ _
  have hfV : Fr [] w V := by rw [hV]; exact (Fr.refl _ _).alloc _
  clear hV
  refine (Q.new_yes lo hi room V (by omega) (by omega) (by omega) (by omega)).mono ?_
  rintro e w2 ⟨rfl, hw2⟩
  have hq : Bk w2 V.heap.size 59 (Q0 lo hi room) := by rw [hw2]; exact Bk.new V _ _
  have hf2 : Fr [] V w2 := by rw [hw2]; exact (Fr.refl _ _).alloc _
  have hbx2 := hbx.fr hf2 (by simp)
  have d0 := hbx2.cell_ (i := 0) rfl
  have d4 := hbx2.cell_ (i := 4) rfl
  have HQ := Lib.hid hq; have HF2 := Lib.hid (hfV.trans hf2); have HBX := Lib.hid hbx2
  have HVS := Lib.hid hfV.size
  obtain ⟨q, hqe⟩ : ∃ q, V.heap.size = q := ⟨_, rfl⟩
  rw [hqe] at HQ HVS ⊢
  clear hw2 hq hf2 hbx hbx2 hfV hqe
  go_wp2_with fail
  go_at_call 20
  refine (inTime_ok hnow w2).mono ?_
  rintro e w3 ⟨rfl, rfl⟩
  go_wp2_with fail
  go_at_call 21
  refine (rnew_one c hc k (by omega)).mono ?_
  rintro e w3 ⟨r, rfl, hr, hrs, hf3⟩
  have HR := Lib.hid hr; have HF3 := Lib.hid (HF2.out.trans hf3); have HQ3 := Lib.hid (HQ.out.fr hf3 (by simp)); have HRS := Lib.hid (Nat.le_trans HF2.out.size hrs)
  have d4' := (HBX.out.fr hf3 (by simp)).cell_ (i := 4) rfl
  clear hr hf3 hrs d0 d4 HQ HF2 HBX
  go_wp2_with fail
  go_ret2
  have hfn : Fr [] w3 (w3.alloc (.cells (cnCells q r 0 now idle) 54)) := (Fr.refl _ _).alloc _
  refine ⟨w3.heap.size, q, r, rfl, ⟨Bk.new w3 _ _, HQ3.out.fr hfn (by simp), HF3.out.size, HVS.out, _, ⟨HR.out.1.fr hfn (by simp), Own.fr HR.out.2 hfn (by simp)⟩, HRS.out, fun k hk => by simp [Value.ownBlock] at hk⟩, HF3.out.trans hfn, ⟨HR.out.1.fr hfn (by simp), Own.fr HR.out.2 hfn (by simp)⟩⟩
set_option maxRecDepth 100000 in
theorem record_ok {w : World} {B g q r : Nat} {x : Cu} {lo hi room : Int} {st last idle : Int} (h : Cn w B g q r x (Q0 lo hi room) st last idle) (hB : B ≤ w.heap.size) (hst : st ≤ 1) (hb : x.bs.length ≤ 65536) (a b : Nat) (he : fstM x.c x.bs x.en = (a, b, true)) (y : Cu) (hy : { x with bs := x.bs.drop b } = y) (t : List UInt8) (ht : x.bs.take a = t) :
    Calls Tryz.prog 17 #[.pointer (some ⟨g, 0, none⟩)] w fun e w' => e = .returned (.tuple #[.string ⟨t.toArray⟩, .bool true, .nilIface]) ∧ Cn w' B g q r y (Q0 lo hi room) st last idle ∧ Below B w w' := by
  obtain ⟨c0, c1, c2, -, -⟩ := cn_cells h.1
  have H := Lib.hid h; have HQ := Lib.hid (q0_que h.2.1)
  have HN := Lib.hid (cn_next h hB hb a b he y hy t ht)
  have t0 : decide (1 < st) = false := decide_eq_false (by omega)
  clear h he hy ht
  go_enter Tryz.func17, Tryz.ntmps17
  go_wp2_with fail
  go_at_call 31
  refine (Q.above_any HQ.out).mono ?_
  rintro e w2 ⟨rfl, rfl⟩
  go_wp2_with fail
  go_at_call 32
  refine HN.out.mono ?_
  rintro e w2 ⟨rfl, hc, hbl⟩
  have HC := Lib.hid hc; have HBL := Lib.hid hbl
  clear hc hbl
  go_wp2_with fail
  go_ret3
  exact ⟨rfl, HC.out, HBL.out⟩
set_option maxRecDepth 100000 in
theorem cended_one {w : World} {B g q r : Nat} {x : Cu} {Q : Array Value} {last idle : Int} (h : Cn w B g q r x Q 1 last idle) :
    Calls Tryz.prog 18 #[.pointer (some ⟨g, 0, none⟩)] w fun e w' => e = .returned (.bool (x.en && x.bs.isEmpty)) ∧ w = w' := by
  obtain ⟨c0, c1, c2, -, -⟩ := cn_cells h.1
  obtain ⟨v, h5, -, -⟩ := h.2.2.2.2
  have HN := Lib.hid (ended_any h5)
  obtain ⟨u, hu⟩ : ∃ u, (x.en && x.bs.isEmpty) = u := ⟨_, rfl⟩
  rw [hu] at HN ⊢
  clear h h5 hu
  go_enter Tryz.func18, Tryz.ntmps18
  go_wp2_with fail
  go_at_call 33
  refine HN.out.mono ?_
  rintro e w2 ⟨rfl, rfl⟩
  go_wp2_with fail
  go_ret
  exact ⟨rfl, rfl⟩
set_option maxRecDepth 100000 in
set_option maxHeartbeats 2000000 in
theorem awake_any (w : World) : Calls Tryz.prog 5 #[] w fun e w' => e = .returned (.bool true) ∧ Below w.heap.size w w' := by
  obtain ⟨B, hB⟩ : ∃ B, B = w.heap.size := ⟨_, rfl⟩
  have HN := Lib.hid (cnew_ok w 10 (by decide) 10 1 5 9 0 0 (by omega) (by omega) (by omega) (by omega) (by omega) (by omega))
  rw [← hB] at HN ⊢
  go_enter Tryz.func5, Tryz.ntmps5
  go_wp2_with fail
  go_at_call 6
  refine HN.out.mono ?_
  rintro e w1 ⟨g, q, r, rfl, hc, hf, -⟩
  have HC := Lib.hid hc; have HF := Lib.hid (show Below B w w1 from by rw [hB]; exact hf.below_nil); have HS := Lib.hid (show B ≤ w1.heap.size from by rw [hB]; exact hf.size)
  clear hc hf hB HN
  go_wp2_with (refine wpList_same rfl 31 (.tmp 23) rfl 5 Tryz.underlying31 Tryz.underlying5 ⟨w1.heap.size, 0, none⟩ 3 3 (by rfl) (byteVals [97, 10, 98]) (At.of_bk (n := 3) (Bk.new w1 5 #[.int .u8 97, .int .u8 10, .int .u8 98]) (by rfl)) ?_; intro w2 hat hfr; have HAT := Lib.hid hat; have HF2 := Lib.hid (((Fr.refl [] w1).alloc _).trans' hfr (by simp)); clear hat hfr)
  go_at_call 7
  refine (take_some (HC.out.fr_nil HF2.out) (Nat.le_trans HS.out HF2.out.size) (by decide) (by decide) 1 (by omega) (bs := [97, 10, 98]) rfl HAT.out (by decide) (by decide) (by decide) (by decide)).mono ?_
  rintro e w3 ⟨rfl, hc, hb⟩
  have hc' : Cn w3 B g q r ⟨10, 10, [97, 10, 98], false⟩ (Q0 1 5 9) 0 1 0 := hc
  have HC3 := Lib.hid hc'; have HB3 := Lib.hid ((HF.out.trans (HF2.out.below_nil.mono HS.out)).trans hb); have HS3 := Lib.hid (sizeB (Nat.le_trans HS.out HF2.out.size) hb)
  clear hc hc' hb HC HF HF2 HS HAT
  go_wp2_with fail
  go_at_call 17
  refine (record_ok HC3.out HS3.out (by omega) (by decide) 1 2 (by decide) ⟨10, 10, [98], false⟩ rfl [97] rfl).mono ?_
  rintro e w4 ⟨rfl, hc, hb⟩
  have HC4 := Lib.hid hc; have HB4 := Lib.hid (HB3.out.trans hb); have HS4 := Lib.hid (sizeB HS3.out hb)
  clear hc hb HC3 HB3 HS3
  go_wp2_with fail
  go_at_call 7
  refine (take_end HC4.out HS4.out (by decide) (by decide) 2 (by omega) (bs := []) rfl (At.nil_ _ _) (by decide) (by decide) (by decide) rfl).mono ?_
  rintro e w5 ⟨rfl, hc, hb⟩
  have hc' : Cn w5 B g q r ⟨10, 10, [98], true⟩ (Q0 1 5 9) 1 2 0 := hc
  have HC5 := Lib.hid hc'; have HB5 := Lib.hid (HB4.out.trans hb); have HS5 := Lib.hid (sizeB HS4.out hb)
  clear hc hc' hb HC4 HB4 HS4
  go_wp2_with fail
  go_at_call 11
  refine (state_any HC5.out).mono ?_
  rintro e w6 ⟨rfl, rfl⟩
  go_wp2_with fail
  go_at_call 17
  refine (record_ok HC5.out HS5.out (by omega) (by decide) 1 1 (by decide) ⟨10, 10, [], true⟩ rfl [98] rfl).mono ?_
  rintro e w6 ⟨rfl, hc, hb⟩
  have HC6 := Lib.hid hc; have HB6 := Lib.hid (HB5.out.trans hb)
  clear hc hb HC5 HB5 HS5
  go_wp2_with fail
  go_at_call 18
  refine (cended_one HC6.out).mono ?_
  rintro e w7 ⟨rfl, rfl⟩
  dsimp only [List.isEmpty, Bool.and_self]
  go_wp2_with fail
  go_ret
  exact ⟨rfl, HB6.out⟩
end Go.Proofs.YtecdghjimcfhpaaGreatDoor
