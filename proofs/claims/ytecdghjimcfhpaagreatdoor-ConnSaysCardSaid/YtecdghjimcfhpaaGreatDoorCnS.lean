/-
  The walk of ConnSays. No conditions.
-/
import Derived.Test.YtecdghjimcfhpaaGreatDoorCn5
namespace Go.Proofs.YtecdghjimcfhpaaGreatDoor
open Go.RowKit Go.ChangeShapes Go.WideShapes Go.ChangeAt Go.Deep
set_option linter.unusedVariables false
set_option linter.unusedSimpArgs false

def SayRel (V : World) (B g q r : Nat) (k lo hi room idle : Int) (n : Nat) (v7 v8 v9 : Value) (wr : World) : Prop :=
  ∃ (i : Nat) (tk bs : List UInt8), v9 = .int .i64 (i : Int) ∧ v7 = .string ⟨(tk ++ bs).toArray⟩ ∧ v8 = .string ⟨tk.toArray⟩ ∧ i ≤ n ∧ Cq wr B g q r k lo hi room bs i idle ∧ Below B V wr ∧ (tk ++ bs).length ≤ 60 * i ∧ (bs.length : Int) ≤ room
theorem Cq.mono {w : World} {B B' g q r : Nat} {k lo hi room : Int} {bs : List UInt8} {i : Nat} {idle : Int} (h : Cq w B g q r k lo hi room bs i idle) (hB : B' ≤ B) : Cq w B' g q r k lo hi room bs i idle := by
  obtain ⟨ab, qu, go, last, m1, m2, m3, m4, m5, m6⟩ := h
  exact ⟨ab, qu, go, last, m1, m2, m3, Nat.le_trans hB m4, Nat.le_trans hB m5, m6⟩
theorem Cq.lts {w : World} {B g q r : Nat} {k lo hi room : Int} {bs : List UInt8} {i : Nat} {idle : Int} (h : Cq w B g q r k lo hi room bs i idle) : g < w.heap.size ∧ q < w.heap.size ∧ B ≤ g ∧ B ≤ q := by
  obtain ⟨ab, qu, go, last, m1, ⟨A, c, m2, -⟩, m3, m4, m5, m6⟩ := h
  exact ⟨m1.lt, m2.lt, m4, m5⟩
set_option maxRecDepth 100000 in
set_option maxHeartbeats 8000000 in
theorem says_walk {w : World} {A : Option Addr} {n c : Nat} {K M N : Nat → Int} {BA : Nat → Option Addr} {BC : Nat → Nat} {BB : Nat → List UInt8} {F : Nat → Bool} (h : ActS w A n K M N BA BC BB F) (hn : n ≤ maxLen) (k lo hi room idle : Int) :
    Calls Tryz.prog 4 #[.agg #[.int .i64 k, .int .i64 lo, .int .i64 hi, .int .i64 room, .int .i64 idle], .slice A n c] w fun e w' => e = .returned (.bool true) ∧ Below w.heap.size w w' := by
  go_enter Tryz.func4, Tryz.ntmps4
  go_wp2_with fail
  go_at_call 5
  refine calls_gen fun V hV => ?_
  have hbx : Bk V w.heap.size 29 #[.int .i64 k, .int .i64 lo, .int .i64 hi, .int .i64 room, .int .i64 idle] := by rw [hV]; exact Bk.new _ _ _
  have hfV : Fr [] w V := by rw [hV]; exact (Fr.refl _ _).alloc _
  have HA := Lib.hid (h.fr hfV); have HBX := Lib.hid hbx; have HFV := Lib.hid hfV
  have hxV : w.heap.size < V.heap.size := hbx.lt
  clear hV hbx h hfV
  obtain ⟨B, hB⟩ : ∃ B, B = V.heap.size := ⟨_, rfl⟩
  rw [← hB] at hxV
  have FB : Hid (∀ W, Below B V W → Fr [] V W) := Lib.hid (fun W hW => by rw [hB] at hW; exact Fr.of_below hW)
  have FIN : Hid (∀ W, Below B V W → Below w.heap.size w W) := Lib.hid (fun W hW => HFV.out.below_nil.trans ((FB.out W hW).below_nil.mono HFV.out.size))
  have SZ : Hid (∀ W, Below B V W → B ≤ W.heap.size) := Lib.hid (fun W hW => by rw [hB]; exact hW.size)
  refine (awake_any V).mono ?_
  rintro e w1 ⟨rfl, hb1⟩
  rw [← hB] at hb1
  have HB1 := Lib.hid hb1
  clear hb1 hB
  go_wp2_with fail
  go_at_call 12
  refine (few_any (HA.out.fr (FB.out _ HB1.out)) hn).mono ?_
  rintro e w2 ⟨rfl, rfl⟩
  cases hfew : fewB n BB with
  | false =>
    clear hfew
    go_wp2_with fail
    go_ret
    exact ⟨rfl, FIN.out _ HB1.out⟩
  | true =>
    have hn40 : n ≤ 40 := by unfold fewB at hfew; simp at hfew; exact hfew.1
    have h60 : ∀ i, i < n → (BB i).length ≤ 60 := by unfold fewB at hfew; simp at hfew; exact hfew.2
    have H60 := Lib.hid h60
    have hb2 := HBX.out.fr (FB.out _ HB1.out) (by simp)
    have d0 := hb2.cell_ (i := 0) rfl; have d1 := hb2.cell_ (i := 1) rfl; have d2 := hb2.cell_ (i := 2) rfl; have d3 := hb2.cell_ (i := 3) rfl; have d4 := hb2.cell_ (i := 4) rfl
    clear hfew h60 hb2 hn
    go_wp2_with fail
    go_at_call 6
    by_cases hbad : badC k lo hi room idle
    · refine (cnew_bad w1 _ k lo hi room idle hbad).mono ?_
      rintro e w2 ⟨rfl, hf⟩
      have HF := Lib.hid hf
      unfold errV
      clear hbad hf
      go_wp2_with fail
      go_ret
      exact ⟨rfl, FIN.out _ (HB1.out.trans (HF.out.below_nil.mono (SZ.out _ HB1.out)))⟩
    have hroom : room ≤ 65536 ∧ 0 ≤ room := by unfold badC at hbad; omega
    refine (cnew_speaks w1 k lo hi room idle hbad).mono ?_
    rintro e w2 ⟨g, q, r, rfl, hc, hf⟩
    have HC := Lib.hid (hc.mono (SZ.out _ HB1.out)); have HB2 := Lib.hid (HB1.out.trans (hf.below_nil.mono (SZ.out _ HB1.out)))
    clear hc hf HB1 hbad d0 d1 d2 d3 d4
    go_wp2_with fail
    go_loopw [7, 8, 9] (SayRel V B g q r k lo hi room idle n) (fun _ _ v9 _ => n - (intOf v9).toNat)
    case atStart => exact ⟨0, [], [], rfl, rfl, rfl, by omega, HC.out, HB2.out, by simp, by simp; omega⟩
    case round =>
      obtain ⟨i, tk, bs, rfl, rfl, rfl, hi9, hc, hbl, hlen, hbr⟩ := hrel
      have HCR := Lib.hid hc; have HBL := Lib.hid hbl
      clear hc hbl HC HB2
      have htb : tk.length + bs.length ≤ 60 * i := by simpa using hlen
      clear hlen
      by_cases hlt : i < n
      · obtain ⟨b, off, rfl, hb, e0, e1, e2, e3, e4, e5, e6⟩ := (HA.out.fr (FB.out _ HBL.out)) i hlt
        have h60 := H60.out i hlt
        clear e5 e6 hb
        go_upto_region 13 with fail
        refine code_gen fun W hW => ?_
        have hcW : Cq W B g q r k lo hi room bs i idle := by rw [hW]; exact HCR.out.fr_nil ((Fr.refl _ _).alloc _)
        have hxW : Bk W wr.heap.size 38 #[.int .i64 (K i), .int .i64 (M i), .int .i64 (N i), .slice (BA i) (BB i).length (BC i), .bool (F i)] := by rw [hW]; exact Bk.new wr _ _
        have hbW : Below B V W := by rw [hW]; exact HBL.out.trans (((Fr.refl [] wr).alloc _).below_nil.mono (SZ.out _ HBL.out))
        have hlts := HCR.out.lts
        clear hW e0 e1 e2 e3 e4 HCR HBL
        generalize wr.heap.size = x at *
        have d0 := hxW.cell_ (i := 0) rfl; have d2 := hxW.cell_ (i := 2) rfl; have d3 := hxW.cell_ (i := 3) rfl
        have HCW := Lib.hid hcW; have HXW := Lib.hid hxW; have HBW := Lib.hid hbW
        have HYW : Hid (Bytes W (BA i) (BB i)) := Lib.hid (by obtain ⟨_, _, _, _, _, _, _, _, _, e5, _⟩ := (HA.out.fr (FB.out _ hbW)) i hlt; exact e5)
        clear hcW hxW hbW
        obtain ⟨kd, hkd⟩ : ∃ kd, K i = kd := ⟨_, rfl⟩
        rw [hkd] at d0
        clear hkd
        by_cases hz : kd.tmod 2 = 0
        · have hrem : kd.tmod 2 = 0 := hz
          by_cases hfit : ((BB i).length : Int) ≤ room - bs.length
          · go_wp2_with (refine wpList_str rfl 31 9 (.tmp 52) rfl 5 Tryz.underlying31 Tryz.underlying5 Tryz.underlying9 (BA i) (BB i).length (BC i) (by first | rfl | (simp [Act.eval]; done)) (BB i) HYW.out rfl ?_)
            go_at_call 13
            refine (say_yes HCW.out (SZ.out _ HBW.out) hroom.1 (by omega) (BB i) h60 hfit).mono ?_
            rintro e w3 ⟨rfl, hc3, hf3⟩
            have hx3 := HXW.out.fr hf3 (by simp; omega)
            have hb3 : Below B V w3 := HBW.out.trans (hf3.below_at (SZ.out _ HBW.out) (by simpa using hlts.2.2.2))
            have HY3 : Hid (Bytes w3 (BA i) (BB i)) := Lib.hid (by obtain ⟨_, _, _, _, _, _, _, _, _, e5, _⟩ := (HA.out.fr (FB.out _ hb3)) i hlt; exact e5)
            clear d0 d2 d3
            have d3 := hx3.cell_ (i := 3) rfl
            have HC3 := Lib.hid hc3; have HB3 := Lib.hid hb3
            clear hc3 hf3 hb3 hx3 HCW HXW HBW HYW
            go_wp2_with (refine wpList_str rfl 31 9 (.tmp 58) rfl 5 Tryz.underlying31 Tryz.underlying5 Tryz.underlying9 (BA i) (BB i).length (BC i) (by first | rfl | (simp [Act.eval]; done)) (BB i) HY3.out rfl ?_)
            go_roundw
            case rel => exact ⟨i + 1, tk, bs ++ BB i, by go_num, congrArg Value.string (by rw [ba_append, List.append_assoc]), rfl, by omega, HC3.out, HB3.out, by simp; omega, by first | omega | (simp; omega)⟩
            case measure => first | (simp [intOf]; done) | (simp [intOf]; omega)
          · go_wp2_with (refine wpList_str rfl 31 9 (.tmp 52) rfl 5 Tryz.underlying31 Tryz.underlying5 Tryz.underlying9 (BA i) (BB i).length (BC i) (by first | rfl | (simp [Act.eval]; done)) (BB i) HYW.out rfl ?_)
            go_at_call 13
            refine (say_no HCW.out (SZ.out _ HBW.out) hroom.1 hroom.2 (by omega) (BB i) h60 (by omega)).mono ?_
            rintro e w3 ⟨rfl, hc3, hf3⟩
            have HC3 := Lib.hid hc3; have HB3 : Hid (Below B V w3) := Lib.hid (HBW.out.trans (hf3.below_at (SZ.out _ HBW.out) (by simpa using hlts.2.2.2)))
            clear hc3 hf3 HCW HXW HBW HYW d0 d2 d3
            unfold errV
            go_wp2_with fail
            go_roundw
            case rel => exact ⟨i + 1, tk, bs, by go_num, rfl, rfl, by omega, HC3.out, HB3.out, by simp; omega, by first | omega | (simp; omega)⟩
            case measure => first | (simp [intOf]; done) | (simp [intOf]; omega)
        · obtain ⟨z, hzz⟩ : ∃ z, kd.tmod 2 = z := ⟨_, rfl⟩
          have hzb : -1 ≤ z ∧ z ≤ 1 := by have h1 := Int.tmod_lt_of_pos kd (show (0 : Int) < 2 by omega); have h2 := Int.lt_tmod_of_pos kd (show (0 : Int) < 2 by omega); omega
          rw [hzz] at hz
          have tz : (z == 0) = false := beq_eq_false_iff_ne.2 hz
          obtain ⟨kk, hkk⟩ : ∃ kk, kk = Q.clampN (N i) bs.length := ⟨_, rfl⟩
          have hkb : kk ≤ bs.length := hkk ▸ Q.clampN_le _ _
          have HKK := Lib.hid hkk
          clear hkk
          go_wp2_with fail
          go_at_call 14
          refine (cnext_at HCW.out (by omega) (N i) kk HKK.out).mono ?_
          rintro e w3 ⟨X, xc, rfl, hby, hkc, hX0, hf3, hfresh⟩
          have HC3 := Lib.hid (HCW.out.fr_nil hf3); have HB3 : Hid (Below B V w3) := Lib.hid (HBW.out.trans (hf3.below_nil.mono (SZ.out _ HBW.out)))
          have HY3 := Lib.hid hby
          have HL := Lib.hid HCW.out.lts
          have HFR := Lib.hid hfresh
          clear hby hf3 hfresh HCW HXW HBW HYW d0 d2 d3
          go_wp2_with fail
          go_at_call 15
          refine (ctook_at HC3.out (SZ.out _ HB3.out) (by omega) (by omega) (kk : Int) kk (by unfold Q.clampN; rw [if_neg (by omega)]; split <;> omega)).mono ?_
          rintro e w4 ⟨rfl, hc4, hf4⟩
          have HY4 : Hid (Bytes w4 X (bs.take kk)) := Lib.hid (At.fr HY3.out hf4 (fun a ha _ => by have := HFR.out a ha; have := HL.out; simp; omega))
          have HC4 := Lib.hid hc4; have HB4 : Hid (Below B V w4) := Lib.hid (HB3.out.trans (hf4.below_at (SZ.out _ HB3.out) (fun i hi => by have := HL.out; simp at hi; omega)))
          clear hc4 hf4 HC3 HB3 HY3 HFR
          have htk : (bs.take kk).length = kk := by rw [List.length_take]; omega
          go_wp2_with (refine wpList_str rfl 31 9 (.tmp 73) rfl 5 Tryz.underlying31 Tryz.underlying5 Tryz.underlying9 X kk xc (by first | rfl | (simp [Act.eval]; done)) (bs.take kk) HY4.out htk ?_)
          go_roundw
          case rel => exact ⟨i + 1, tk ++ bs.take kk, bs.drop kk, by go_num, by rw [List.append_assoc, List.take_append_drop], congrArg Value.string (by rw [ba_append]), by omega, HC4.out, HB4.out, by rw [List.append_assoc, List.take_append_drop]; simp; omega, by simp; omega⟩
          case measure => first | (simp [intOf]; done) | (simp [intOf]; omega)
      · obtain rfl : i = n := by omega
        go_wp2_with fail
        go_at_call 16
        refine (cheld_at HCR.out).mono ?_
        rintro e w3 ⟨rfl, hf3⟩
        have HC3 := Lib.hid (HCR.out.fr_nil hf3); have HB3 : Hid (Below B V w3) := Lib.hid (HBL.out.trans (hf3.below_nil.mono (SZ.out _ HBL.out)))
        clear hf3 HCR HBL
        go_upto_region 21 with fail
        have hw3 : IntKind.i64.wrap ((tk.length : Int) + (bs.length : Int)) = (tk.length : Int) + (bs.length : Int) := by rw [IntKind.wrap_i64]; omega
        refine wp_region_M_ (G := fun a b => Fr [] a b) (S := fun W => Fr [] w3.drew W) ⟨fun _ => Fr.refl _ _, fun a b c h k => h.trans k, fun a b h k => h.trans k, by kernel_rfl, fun _ _ d _ _ h => by cases d <;> exact h⟩ (by kernel_rfl) fun su => ?_
        have SU := Lib.hid su
        have HS : Hid (Fr [] w3.drew w3.drew) := Lib.hid (Fr.refl _ _)
        clear su
        have HCD := Lib.hid (HC3.out.fr_nil (Fr.refl [] w3).drew)
        have HBD : Hid (Below B V w3.drew) := Lib.hid (HB3.out.trans ((Fr.refl [] w3).drew.below_nil.mono (SZ.out _ HB3.out)))
        clear HC3 HB3
        generalize w3.drew = wd at *
        refine M_move (i := 0) _ SU.out rfl rfl (by kernel_rfl) HS.out rfl ?_
        simp only [Act.put, Act.eval, Array.getD_eq_getD_getElem?, List.setIfInBounds_toArray, List.set_cons_zero, List.set_cons_succ, List.getElem?_toArray, List.getElem?_cons_zero, List.getElem?_cons_succ, Option.getD_some]
        refine M_val (i := 1) (v := .int .i64 (tk.length : Int)) SU.out rfl (by kernel_rfl) HS.out rfl (fun W hS => ?_) ?_
        · go_simp
          all_goals first | done | rfl | omega | (simp; done) | (simp; omega)
        simp only [Act.put, List.setIfInBounds_toArray, List.set_cons_zero, List.set_cons_succ]
        refine M_move (i := 2) _ SU.out rfl rfl (by kernel_rfl) HS.out rfl ?_
        simp only [Act.put, Act.eval, Array.getD_eq_getD_getElem?, List.setIfInBounds_toArray, List.set_cons_zero, List.set_cons_succ, List.getElem?_toArray, List.getElem?_cons_zero, List.getElem?_cons_succ, Option.getD_some]
        refine M_val (i := 3) (v := .int .i64 ((tk.length : Int) + (bs.length : Int))) SU.out rfl (by kernel_rfl) HS.out rfl (fun W hS => ?_) ?_
        · go_simp
          all_goals first | done | rfl | omega | (simp; done) | (simp; omega)
        simp only [Act.put, List.setIfInBounds_toArray, List.set_cons_zero, List.set_cons_succ]
        refine M_move (i := 4) _ SU.out rfl rfl (by kernel_rfl) HS.out rfl ?_
        simp only [Act.put, Act.eval, Array.getD_eq_getD_getElem?, List.setIfInBounds_toArray, List.set_cons_zero, List.set_cons_succ, List.getElem?_toArray, List.getElem?_cons_zero, List.getElem?_cons_succ, Option.getD_some]
        refine M_val (i := 5) (v := .int .i64 ((tk.length : Int) + (bs.length : Int))) SU.out rfl (by kernel_rfl) HS.out rfl (fun W hS => ?_) ?_
        · go_simp
          all_goals first | done | rfl | omega | (simp; done) | (simp; omega)
        simp only [Act.put, List.setIfInBounds_toArray, List.set_cons_zero, List.set_cons_succ]
        refine M_val (i := 6) (v := .bool true) SU.out rfl (by kernel_rfl) HS.out rfl (fun W hS => ?_) ?_
        · go_simp
          all_goals first | done | rfl | omega | (simp; done) | (simp; omega)
        simp only [Act.put, List.setIfInBounds_toArray, List.set_cons_zero, List.set_cons_succ]
        refine M_move (i := 7) _ SU.out rfl rfl (by kernel_rfl) HS.out rfl ?_
        simp only [Act.put, Act.eval, Array.getD_eq_getD_getElem?, List.setIfInBounds_toArray, List.set_cons_zero, List.set_cons_succ, List.getElem?_toArray, List.getElem?_cons_zero, List.getElem?_cons_succ, Option.getD_some]
        refine M_move (i := 8) _ SU.out rfl rfl (by kernel_rfl) HS.out rfl ?_
        simp only [Act.put, Act.eval, Array.getD_eq_getD_getElem?, List.setIfInBounds_toArray, List.set_cons_zero, List.set_cons_succ, List.getElem?_toArray, List.getElem?_cons_zero, List.getElem?_cons_succ, Option.getD_some]
        refine M_move (i := 9) _ SU.out rfl rfl (by kernel_rfl) HS.out rfl ?_
        simp only [Act.put, Act.eval, Array.getD_eq_getD_getElem?, List.setIfInBounds_toArray, List.set_cons_zero, List.set_cons_succ, List.getElem?_toArray, List.getElem?_cons_zero, List.getElem?_cons_succ, Option.getD_some]
        refine M_val (i := 10) (v := .int .i64 (tk.length : Int)) SU.out rfl (by kernel_rfl) HS.out rfl (fun W hS => ?_) ?_
        · go_simp
          all_goals first | done | rfl | omega | (simp; done) | (simp; omega)
        simp only [Act.put, List.setIfInBounds_toArray, List.set_cons_zero, List.set_cons_succ]
        refine M_val (i := 11) (v := .string ⟨tk.toArray⟩) SU.out rfl (by kernel_rfl) HS.out rfl (fun W hS => ?_) ?_
        · have he : (⟨(tk ++ bs).toArray⟩ : ByteArray).extract 0 tk.length = ⟨tk.toArray⟩ := by rw [ba_extract]; simp
          go_simp
          all_goals first | done | rfl | (rw [he]) | omega | (simp; done) | (simp; omega)
        simp only [Act.put, List.setIfInBounds_toArray, List.set_cons_zero, List.set_cons_succ]
        refine M_move (i := 12) _ SU.out rfl rfl (by kernel_rfl) HS.out rfl ?_
        simp only [Act.put, Act.eval, Array.getD_eq_getD_getElem?, List.setIfInBounds_toArray, List.set_cons_zero, List.set_cons_succ, List.getElem?_toArray, List.getElem?_cons_zero, List.getElem?_cons_succ, Option.getD_some]
        refine M_val (i := 13) (v := .bool true) SU.out rfl (by kernel_rfl) HS.out rfl (fun W hS => ?_) ?_
        · go_simp
          all_goals first | done | rfl | omega | (simp; done) | (simp; omega)
        simp only [Act.put, List.setIfInBounds_toArray, List.set_cons_zero, List.set_cons_succ]
        refine M_val (i := 14) (v := .bool true) SU.out rfl (by kernel_rfl) HS.out rfl (fun W hS => ?_) ?_
        · go_simp
          all_goals first | done | rfl | omega | (simp; done) | (simp; omega)
        simp only [Act.put, List.setIfInBounds_toArray, List.set_cons_zero, List.set_cons_succ]
        refine M_move (i := 15) _ SU.out rfl rfl (by kernel_rfl) HS.out rfl ?_
        simp only [Act.put, Act.eval, Array.getD_eq_getD_getElem?, List.setIfInBounds_toArray, List.set_cons_zero, List.set_cons_succ, List.getElem?_toArray, List.getElem?_cons_zero, List.getElem?_cons_succ, Option.getD_some]
        refine M_move (i := 16) _ SU.out rfl rfl (by kernel_rfl) HS.out rfl ?_
        simp only [Act.put, Act.eval, Array.getD_eq_getD_getElem?, List.setIfInBounds_toArray, List.set_cons_zero, List.set_cons_succ, List.getElem?_toArray, List.getElem?_cons_zero, List.getElem?_cons_succ, Option.getD_some]
        refine M_val (i := 17) (v := ?_) SU.out rfl (by kernel_rfl) HS.out rfl (fun W hS => ?_) ?_
        rotate_left
        · go_simp
          all_goals first | done | rfl | omega | (simp; done) | (simp; omega)
        simp only [Act.put, List.setIfInBounds_toArray, List.set_cons_zero, List.set_cons_succ]
        refine M_val (i := 18) (v := .int .i64 room) SU.out rfl (by kernel_rfl) HS.out rfl (fun W hS => ?_) ?_
        · have s1 := ((HBX.out.fr (FB.out _ HBD.out) (by simp)).fr hS (by simp)).cell_ (i := 3) rfl
          go_simp
          all_goals first | done | rfl
        simp only [Act.put, List.setIfInBounds_toArray, List.set_cons_zero, List.set_cons_succ]
        refine M_move (i := 21) _ SU.out rfl rfl (by kernel_rfl) HS.out rfl ?_
        simp only [Act.put, Act.eval, Array.getD_eq_getD_getElem?, List.setIfInBounds_toArray, List.set_cons_zero, List.set_cons_succ, List.getElem?_toArray, List.getElem?_cons_zero, List.getElem?_cons_succ, Option.getD_some]
        refine M_move (i := 22) _ SU.out rfl rfl (by kernel_rfl) HS.out rfl ?_
        simp only [Act.put, Act.eval, Array.getD_eq_getD_getElem?, List.setIfInBounds_toArray, List.set_cons_zero, List.set_cons_succ, List.getElem?_toArray, List.getElem?_cons_zero, List.getElem?_cons_succ, Option.getD_some]
        refine M_val (i := 23) (v := .int .i64 (tk.length : Int)) SU.out rfl (by kernel_rfl) HS.out rfl (fun W hS => ?_) ?_
        · go_simp
          all_goals first | done | rfl | omega | (simp; done) | (simp; omega)
        simp only [Act.put, List.setIfInBounds_toArray, List.set_cons_zero, List.set_cons_succ]
        refine M_val (i := 24) (v := .string ⟨bs.toArray⟩) SU.out rfl (by kernel_rfl) HS.out rfl (fun W hS => ?_) ?_
        · have he : (⟨(tk ++ bs).toArray⟩ : ByteArray).extract tk.length (tk.length + bs.length) = ⟨bs.toArray⟩ := by rw [ba_extract]; simp
          go_simp
          all_goals first | done | rfl | (rw [he]) | omega | (simp; done) | (simp; omega)
        simp only [Act.put, List.setIfInBounds_toArray, List.set_cons_zero, List.set_cons_succ]
        refine wpAnyM_all (rs := [19]) (by kernel_rfl) (by simp) (fun w5 hG5 => ?_)
        refine allM.head rfl rfl (fun K5 hK5 => ?_) allM.nil
        go_simp
        have hS5 := SU.out.sg _ _ HS.out hG5
        refine (cnext_at (HCD.out.fr_nil hS5) (by omega) room bs.length (by unfold Q.clampN; rw [if_neg (by omega), if_pos (by omega)])).mono ?_
        rintro e w6 ⟨A6, c6, rfl, hb6, hk6, hn6, hf6, hnw⟩
        have hS6 := SU.out.sg _ _ hS5 hf6
        refine hK5.out _ _ hS6 ?_
        clear hK5 K5
        refine M_weaken (S' := fun W => Fr [] wd W ∧ Bytes W A6 (bs.take bs.length)) (fun _ h => h.1) _ _ _ _ ?_
        refine Setup_and SU.out (T := fun W => Bytes W A6 (bs.take bs.length)) (fun a b h k => At.fr_nil h k) fun su2 => ?_
        have SU := Lib.hid su2
        have HS := Lib.hid (And.intro hS6 hb6)
        clear su2 hS5 hS6 hb6 hf6 hnw hG5 hn6 hk6
        refine M_val (i := 20) (v := .string ⟨bs.toArray⟩) SU.out rfl (by kernel_rfl) HS.out rfl (fun W hS => ?_) ?_
        · have hst := run_str_ (P := Tryz.prog) (w := W) 31 9 5 Tryz.underlying31 Tryz.underlying5 Tryz.underlying9 A6 (bs.take bs.length) bs.length c6 hS.2 (by simp)
          rw [List.take_length] at hst
          go_simp
          all_goals first | done | rfl
        simp only [Act.put, List.setIfInBounds_toArray, List.set_cons_zero, List.set_cons_succ]
        refine M_val (i := 25) (v := .bool true) SU.out rfl (by kernel_rfl) HS.out rfl (fun W hS => ?_) ?_
        · go_simp
          all_goals first | done | rfl | omega | (simp; done) | (simp; omega)
        simp only [Act.put, List.setIfInBounds_toArray, List.set_cons_zero, List.set_cons_succ]
        refine M_val (i := 26) (v := .bool true) SU.out rfl (by kernel_rfl) HS.out rfl (fun W hS => ?_) ?_
        · go_simp
          all_goals first | done | rfl | omega | (simp; done) | (simp; omega)
        simp only [Act.put, List.setIfInBounds_toArray, List.set_cons_zero, List.set_cons_succ]
        refine M_val (i := 27) (v := ?_) SU.out rfl (by kernel_rfl) HS.out rfl (fun W hS => ?_) ?_
        rotate_left
        · go_simp
          all_goals first | done | rfl | omega | (simp; done) | (simp; omega)
        simp only [Act.put, List.setIfInBounds_toArray, List.set_cons_zero, List.set_cons_succ]
        refine wpAnyM_done (by kernel_rfl) (fun w7 hG => ?_)
        have HB7 : Hid (Below B V w7) := Lib.hid (HBD.out.trans ((HS.out.1.trans hG).below_nil.mono (SZ.out _ HBD.out)))
        clear hG
        go_wp2_with fail
        go_ret
        exact ⟨rfl, FIN.out _ HB7.out⟩
theorem cfg_cells : Tryz.prog.cellsOf 29 = 5 := by kernel_rfl
set_option maxRecDepth 100000 in
theorem arg_cfg {H : Type} {enc : TypeId × Value → H} {w : World} {base base' : Nat} {spare : Nat → Bool} {held : Bool} {r : Reach} {v : Value} {d : DataW H} {p : List MemPlace}
    (hv : Value.okWide Tryz.prog w r base' 29 v) (h : DataW.Trod enc Tryz.prog w base spare held 29 v d p) : ∃ k lo hi room idle : Int, v = .agg #[.int .i64 k, .int .i64 lo, .int .i64 hi, .int .i64 room, .int .i64 idle] := by
  unfold Value.okWide at hv
  rw [Tryz.underlying29] at hv
  obtain ⟨cs, rfl, hsz, -⟩ := hv
  obtain ⟨_, hf⟩ := (Rd.of_trod h).struct_ Tryz.underlying29
  rw [cfg_cells] at hsz
  obtain ⟨a, b, c, e, f, rfl⟩ : ∃ a b c e f, cs = #[a, b, c, e, f] := by
    match cs, hsz with
    | ⟨[a, b, c, e, f]⟩, _ => exact ⟨a, b, c, e, f, rfl⟩
  obtain ⟨n0, e0, w0⟩ := (hf 0 _ rfl).int_ Tryz.underlying3
  obtain ⟨n1, e1, w1⟩ := (hf 1 _ rfl).int_ Tryz.underlying3
  obtain ⟨n2, e2, w2⟩ := (hf 2 _ rfl).int_ Tryz.underlying3
  obtain ⟨n3, e3, w3⟩ := (hf 3 _ rfl).int_ Tryz.underlying3
  obtain ⟨n4, e4, w4⟩ := (hf 4 _ rfl).int_ Tryz.underlying3
  simp [int_cells, Value.cells] at e0 e1 e2 e3 e4
  subst e0 e1 e2 e3 e4
  exact ⟨n0, n1, n2, n3, n4, rfl⟩
set_option maxRecDepth 100000 in
theorem connSays_open {H : Type} {enc : TypeId × Value → H} (W : World) (base : Nat) (v0 : Value) (d0 : DataW H) (p0 : List MemPlace) (v1 : Value) (d1 : DataW H) (p1 : List MemPlace)
    (k0 : Value.okWide Tryz.prog W .any base 29 v0) (k1 : Value.okWide Tryz.prog W .any base 35 v1) (h0 : DataW.Trod enc Tryz.prog W 0 (fun _ => true) true 29 v0 d0 p0) (h1 : DataW.Trod enc Tryz.prog W 0 (fun _ => true) true 35 v1 d1 p1) :
    Calls Tryz.prog 4 #[v0, v1] W fun e W' => e = .returned (.bool true) ∧ Below W.heap.size W W' := by
  obtain ⟨k, lo, hi, room, idle, rfl⟩ := arg_cfg k0 h0
  obtain ⟨A, n, c, K, M, N, BA, BC, BB, F, rfl, hn, ha⟩ := acts_open k1 h1
  exact says_walk ha hn k lo hi room idle
end Go.Proofs.YtecdghjimcfhpaaGreatDoor
