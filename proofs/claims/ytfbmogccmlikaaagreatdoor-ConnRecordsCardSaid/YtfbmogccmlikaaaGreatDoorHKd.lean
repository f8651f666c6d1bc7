/-
 KCn2, KCn3, KCn5: several small texts in one. No conditions.
-/
import Derived.Test.YtfbmogccmlikaaaGreatDoorHKc
import Derived.Test.YtfbmogccmlikaaaGreatDoorGl
import Derived.Deep.Cut
import Derived.Deep.CutBlock
import Derived.Test.YtfbmogccmlikaaaGreatDoorRead
namespace Go.Proofs.YtfbmogccmlikaaaGreatDoor.K
open Go.RowKit
set_option linter.unusedVariables false
set_option linter.unusedSimpArgs false
section
variable {P : Program} {Q : Exit → Act → World → Prop} {md : Region.Mode} {G : World → World → Prop} {S : World → Prop} {F : Nat → Bool} {l r : List Oper} {o : Oper} {i n : Nat} {listed : Array Bool} {a : Act} {w : World}
theorem T_cut (t : TypeId) (x oh : Operand) (su : Setup P l Q G S) (ho : l.drop i = o :: r) (hop : o.op = .slice t x none (some oh) none) (e : TypeId) (ti : TypeInfo) (ht : P.underlying t = some (.slice e)) (hi : P.info? e = some ti) (hs : ti.size = 1)
    (A : Option Addr) (len c h : Nat) (hxv : a.eval x = .slice A len c) (hh : a.eval oh = .int .i64 (h : Int)) (h1 : h ≤ len) (h2 : len ≤ c)
    (hB : ((Region.ready md l.toArray listed).contains i && Region.free md l.toArray listed i && (waitsT md l.toArray F i && closedB md l.toArray listed)) = true) (hS : S w) (hw : Region.wanted o (yielded l.toArray a.tmps) = true)
    (hr : wpAnyF P md l.toArray Q G S F n (listed.setIfInBounds i true) (a.put o.dst (.slice A h c)) w) : wpAnyF P md l.toArray Q G S F (n + 1) listed a w := by
 refine T_val su ho hB hS hw (fun w' _ => ?_) hr
 have hrun : (Instr.sliceAt t (a.eval x) none (some (a.eval oh)) none).run P w' = .ok (.slice A h c) w' := by
  rw [hxv, hh]
  have hb := run_bounds_ (P := P) len c none (some (.int .i64 (h : Int))) none 0 h c w' (.inl ⟨rfl, rfl⟩) (.inr rfl) (.inl ⟨rfl, rfl⟩) (Nat.zero_le _) (Nat.le_trans h1 h2) (Nat.le_refl _)
  have hA : A.map (·.add 0) = A := by cases A <;> simp [Addr.add]
  simp [Instr.sliceAt, Instr.slice, run_underlying ht, sizeOf, typeInfo, hi, hs, hb, hA]
 unfold execOp
 simp only [hop, Option.map_none, Option.map_some, hrun, Sem.run_bind, Result.andThen_ok, Sem.run_pure]
end
theorem cn_put {w : World} {B g q r : Nat} {x : Cu} {Q : Array Value} {st last idle : Int} (h : Cn w B g q r x Q st last idle) (hB : B ≤ w.heap.size) (hr : 0 ≤ x.room ∧ x.room ≤ 65536) (hb : (x.bs.length : Int) ≤ x.room) {bA : Option Addr} {bs : List UInt8} {bn bc : Nat} (hn : bs.length = bn) (hby : Bytes w bA bs) (hbc : bn ≤ bc) (hbl : bn ≤ 100000000) (kk : Nat) (hkk : (kk : Int) = min (bn : Int) (freeM x)) (y : Cu) (hy : { x with bs := x.bs ++ bs.take kk } = y) :
    Calls Tryz.prog 25 #[.pointer (some ⟨r, 0, none⟩), .slice bA bn bc] w fun e w' => e = .returned (.int .i64 (kk : Int)) ∧ Cn w' B g q r y Q st last idle ∧ Below B w w' := by
 obtain ⟨v, h5, h6, h7⟩ := h.2.2.2.2
 subst hy
 exact (cput_any h5 hr hb hn hby hbc hbl kk hkk).mono fun e w' k => ⟨k.1, h.cut hB h5 h7 k.2⟩
theorem cn_end {w : World} {B g q r : Nat} {x : Cu} {Q : Array Value} {st last idle : Int} (h : Cn w B g q r x Q st last idle) (hB : B ≤ w.heap.size) (y : Cu) (hy : { x with en := true } = y) :
    Calls Tryz.prog 27 #[.pointer (some ⟨r, 0, none⟩)] w fun e w' => e = .returned (.tuple #[]) ∧ Cn w' B g q r y Q st last idle ∧ Below B w w' := by
 obtain ⟨v, h5, h6, h7⟩ := h.2.2.2.2
 subst hy
 exact (end_any h5).mono fun e w' k => ⟨k.1, h.cut hB h5 h7 k.2⟩
theorem cn_next {w : World} {B g q r : Nat} {x : Cu} {Q : Array Value} {st last idle : Int} (h : Cn w B g q r x Q st last idle) (hB : B ≤ w.heap.size) (hb : x.bs.length ≤ 65536) (a b : Nat) (he : fstM x.c x.bs x.en = (a, b, true)) (y : Cu) (hy : { x with bs := x.bs.drop b } = y) (t : List UInt8) (ht : x.bs.take a = t) :
    Calls Tryz.prog 29 #[.pointer (some ⟨r, 0, none⟩)] w fun e w' => e = .returned (.tuple #[.string ⟨t.toArray⟩, .bool true, .nilIface]) ∧ Cn w' B g q r y Q st last idle ∧ Below B w w' := by
 obtain ⟨v, h5, h6, h7⟩ := h.2.2.2.2
 subst hy ht
 exact (next_ok h5 hb a b he).mono fun e w' k => ⟨k.1, h.cut hB h5 h7 k.2⟩
set_option maxRecDepth 100000 in
theorem want_any {w : World} {B g q r : Nat} {x : Cu} {lo hi room : Int} {last idle : Int} (h : Cn w B g q r x (Q0 lo hi room) 0 last idle) (hr : 0 ≤ x.room ∧ x.room ≤ 65536) (hb : x.bs.length ≤ 65536) :
    Calls Tryz.prog 26 #[.pointer (some ⟨g, 0, none⟩)] w fun e w' => e = .returned (.int .i64 (freeM x)) ∧ Fr [] w w' := by
 obtain ⟨c0, c1, c2, -, -⟩ := cn_cells h.1
 obtain ⟨v, h5, -, -⟩ := h.2.2.2.2
 have HQ := Lib.hid (q0_que h.2.1)
 have H5 := Lib.hid h5
 clear h h5
 go_enter Tryz.func26, Tryz.ntmps26
 go_wp2_with fail
 go_at_call 28
 refine (Q.above_any HQ.out).mono ?_
 rintro e w2 ⟨rfl, rfl⟩
 go_wp2_with fail
 go_at_call 41
 refine (free_any H5.out hr hb).mono ?_
 rintro e w2 ⟨rfl, hf⟩
 have HF := Lib.hid hf; clear hf
 go_wp2_with fail
 go_ret
 exact ⟨rfl, HF.out⟩
set_option maxRecDepth 100000 in
set_option maxHeartbeats 2000000 in
theorem take_some {w : World} {B g q r : Nat} {x : Cu} {lo hi room : Int} {last idle : Int} (h : Cn w B g q r x (Q0 lo hi room) 0 last idle) (hB : B ≤ w.heap.size) (hr : 0 ≤ x.room ∧ x.room ≤ 65536) (hb : (x.bs.length : Int) ≤ x.room) (now : Int) (ht : 0 ≤ now ∧ now ≤ 1099511627776) {bA : Option Addr} {bs : List UInt8} {bn bc : Nat} (hn : bs.length = bn) (hby : Bytes w bA bs) (hbc : bn ≤ bc) (hbl : bn ≤ 1000) (hfit : (bn : Int) ≤ freeM x) (hp : 0 < bn) :
    Calls Tryz.prog 8 #[.pointer (some ⟨g, 0, none⟩), .int .i64 now, .slice bA bn bc, .bool false] w fun e w' => e = .returned (.int .i64 (bn : Int)) ∧ Cn w' B g q r { x with bs := x.bs ++ bs, en := x.en } (Q0 lo hi room) 0 now idle ∧ Below B w w' := by
 obtain ⟨i0, hi0, hz0, hz1, hz2⟩ := u8parts
 obtain ⟨c0, c1, c2, c3, -⟩ := cn_cells h.1
 have H := Lib.hid h; have HBY := Lib.hid hby; have HFIT := Lib.hid hfit; have HSZ := Lib.hid hB; have HBR := Lib.hid hb
 have HRM : Hid ((0 ≤ x.room ∧ x.room ≤ 65536) ∧ x.bs.length ≤ 65536) := Lib.hid ⟨hr, by omega⟩
 clear h hby hfit hB hr hb
 go_enter Tryz.func8, Tryz.ntmps8
 go_wp2_with fail
 go_at_call 23
 refine (inTime_ok ht w).mono ?_
 rintro e w2 ⟨rfl, rfl⟩
 go_upto_region 3 with fail
 clear c0 c1 c2 c3
 refine wp_region_F_ (G := fun a b => Fr [] a b) (F := fun i => i == 11 || i == 12) (S := fun W => Fr [] w.drew W) ⟨fun _ => Fr.refl _ _, fun a b c h k => h.trans k, fun a b h k => h.trans k, by kernel_rfl, fun _ _ d _ _ h => by cases d <;> exact h⟩ (by kernel_rfl) fun su => ?_
 have SU := Lib.hid su
 have HS : Hid (Fr [] w.drew w.drew) := Lib.hid (Fr.refl _ _)
 clear su
 have HCD := Lib.hid (H.out.fr_nil (Fr.refl [] w).drew)
 have HBD : Hid (Bytes w.drew bA bs) := Lib.hid (At.fr_nil HBY.out (Fr.refl [] w).drew)
 have HWB : Hid (Below B w w.drew) := Lib.hid ((Fr.refl [] w).drew.below_nil.mono HSZ.out)
 have HDS : Hid (B ≤ w.drew.heap.size) := Lib.hid HSZ.out
 clear H HBY
 generalize w.drew = wd at *
 refine T_move (i := 0) _ SU.out rfl rfl (by kernel_rfl) HS.out rfl ?_
 simp only [Act.put, Act.eval, Array.getD_eq_getD_getElem?, List.setIfInBounds_toArray, List.set_cons_zero, List.set_cons_succ, List.getElem?_toArray, List.getElem?_cons_zero, List.getElem?_cons_succ, Option.getD_some]
 refine T_val (i := 1) (v := ?_) SU.out rfl (by kernel_rfl) HS.out rfl (fun W hS => ?_) ?_
 rotate_left
 ·obtain s1 := hS
  go_simp
  all_goals first | done | rfl | omega | (simp; done) | (simp; omega)
 simp only [Act.put, List.setIfInBounds_toArray, List.set_cons_zero, List.set_cons_succ]
 refine T_val (i := 2) (v := ?_) SU.out rfl (by kernel_rfl) HS.out rfl (fun W hS => ?_) ?_
 rotate_left
 ·obtain s1 := hS
  go_simp
  all_goals first | done | rfl | omega | (simp; done) | (simp; omega)
 simp only [Act.put, List.setIfInBounds_toArray, List.set_cons_zero, List.set_cons_succ]
 refine T_val (i := 3) (v := .pointer (some ⟨r, 0, none⟩)) SU.out rfl (by kernel_rfl) HS.out rfl (fun W hS => ?_) ?_
 ·obtain ⟨-, s1, -, -, -⟩ := cn_cells (HCD.out.fr_nil hS).1
  go_simp
  all_goals first | done | rfl
 simp only [Act.put, List.setIfInBounds_toArray, List.set_cons_zero, List.set_cons_succ]
 refine T_move (i := 4) _ SU.out rfl rfl (by kernel_rfl) HS.out rfl ?_
 simp only [Act.put, Act.eval, Array.getD_eq_getD_getElem?, List.setIfInBounds_toArray, List.set_cons_zero, List.set_cons_succ, List.getElem?_toArray, List.getElem?_cons_zero, List.getElem?_cons_succ, Option.getD_some]
 refine T_move (i := 5) _ SU.out rfl rfl (by kernel_rfl) HS.out rfl ?_
 simp only [Act.put, Act.eval, Array.getD_eq_getD_getElem?, List.setIfInBounds_toArray, List.set_cons_zero, List.set_cons_succ, List.getElem?_toArray, List.getElem?_cons_zero, List.getElem?_cons_succ, Option.getD_some]
 refine T_val (i := 6) (v := ?_) SU.out rfl (by kernel_rfl) HS.out rfl (fun W hS => ?_) ?_
 rotate_left
 ·obtain s1 := hS
  go_simp
  all_goals first | done | rfl | omega | (simp; done) | (simp; omega)
 simp only [Act.put, List.setIfInBounds_toArray, List.set_cons_zero, List.set_cons_succ]
 refine T_move (i := 7) _ SU.out rfl rfl (by kernel_rfl) HS.out rfl ?_
 simp only [Act.put, Act.eval, Array.getD_eq_getD_getElem?, List.setIfInBounds_toArray, List.set_cons_zero, List.set_cons_succ, List.getElem?_toArray, List.getElem?_cons_zero, List.getElem?_cons_succ, Option.getD_some]
 refine T_call (i := 8) (v := .int .i64 (freeM x)) SU.out rfl (by kernel_rfl) HS.out rfl (fun W hS => want_any (HCD.out.fr_nil hS) HRM.out.1 HRM.out.2) (fun W => ?_) ?_
 ·go_simp
  first | done | rfl
 simp only [Act.put, List.setIfInBounds_toArray, List.set_cons_zero, List.set_cons_succ]
 refine T_val (i := 9) (v := .int .i64 (bn : Int)) SU.out rfl (by kernel_rfl) HS.out rfl (fun W hS => ?_) ?_
 ·have hr : (Builtin.min_ #[3, 3] 3 #[.int .i64 (bn : Int), .int .i64 (freeM x)]).run Tryz.prog W = .ok (.int .i64 (bn : Int)) W := by
   have e : (if freeM x < (bn : Int) then freeM x else (bn : Int)) = (bn : Int) := by have := HFIT.out; rw [if_neg (by omega)]
   simp [Builtin.min_, Builtin.min2, e]
  unfold execOp
  simp only [resolve, invoke, builtin, Sem.run_bind, Sem.run_pure, Result.andThen_ok, List.map_toArray, List.map_cons, List.map_nil, Act.eval, Array.getD_eq_getD_getElem?, List.getElem?_toArray, List.getElem?_cons_zero, List.getElem?_cons_succ, Option.getD_some, hr]
 simp only [Act.put, List.setIfInBounds_toArray, List.set_cons_zero, List.set_cons_succ]
 refine T_cut (i := 10) 34 (.tmp 24) (.tmp 29) SU.out rfl rfl 5 i0 Tryz.underlying34 hi0 hz1 bA bn bc bn (by first | rfl | (simp [Act.eval]; done)) (by first | rfl | (simp [Act.eval]; done)) (Nat.le_refl _) hbc (by kernel_rfl) HS.out rfl ?_
 simp only [Act.put, List.setIfInBounds_toArray, List.set_cons_zero, List.set_cons_succ]
 refine wpAnyF_all (rs := [11]) (by kernel_rfl) (by simp) (fun w1 hG => ?_)
 have HG1 := Lib.hid hG; clear hG
 refine allF.head rfl rfl (fun K7 hK7 => ?_) allF.nil
 refine wp_call_ (f := 25) (args := #[.pointer (some ⟨r, 0, none⟩), .slice bA bn bc]) (R := fun v w' => v = .int .i64 (bn : Int) ∧ Cn w' B g q r { x with bs := x.bs ++ bs } (Q0 lo hi room) 0 last idle ∧ Below B w1 w') (by go_simp; first | done | rfl) ?_ ?_
 ·refine (cn_put (HCD.out.fr_nil HG1.out) (Nat.le_trans HDS.out HG1.out.size) HRM.out.1 HBR.out hn (At.fr_nil HBD.out HG1.out) hbc (by omega) bn (by have := HFIT.out; omega) { x with bs := x.bs ++ bs } (by rw [List.take_of_length_le (by omega)])).mono ?_
  rintro e w' ⟨he, h1, h2⟩
  exact ⟨_, he, rfl, h1, h2⟩
 rintro v w3 ⟨rfl, hcn3, hb3⟩
 have HC3 := Lib.hid hcn3; have HB3 : Hid (Below B w w3) := Lib.hid ((HWB.out.trans (HG1.out.below_nil.mono HDS.out)).trans hb3)
 clear hcn3 hb3
 refine hK7.out _ _ (.inl rfl) ?_
 clear hK7 K7
 simp only [Act.put, List.setIfInBounds_toArray, List.set_cons_zero, List.set_cons_succ]
 refine wpAnyF_all (rs := [12]) (by kernel_rfl) (by simp) (fun w4 hG => ?_)
 have HC4 := Lib.hid (HC3.out.fr_nil hG); have HB4 := Lib.hid (HB3.out.trans (hG.below_nil.mono (Nat.le_trans HSZ.out HB3.out.size)))
 clear hG
 refine allF.head rfl rfl (fun Kb hKb => ?_) allF.nil
 go_simp
 refine hKb.out _ _ (.inl rfl) ?_
 clear hKb Kb
 refine wpAnyF_done (by kernel_rfl) (fun w5 hG => ?_)
 have HS4 : B ≤ w4.heap.size := Nat.le_trans HSZ.out HB4.out.size
 have HC5 := Lib.hid (HC4.out.fr_nil hG); have HB5 := Lib.hid (HB4.out.trans (hG.below_nil.mono HS4)); have HS5 := Lib.hid (Nat.le_trans HS4 hG.size)
 clear hG HC4 HB4 HC3 HB3 HS4 HCD HBD HWB HDS HG1
 obtain ⟨-, c1', c2', c3', -⟩ := cn_cells HC5.out.1
 have f3 := HC5.out.1.frozen 3
 have t0 : decide ((0 : Int) < (bn : Int)) = true := decide_eq_true (by omega)
 go_wp2_with fail
 go_ret
 have hf : Fr [g] w5 (w5.setCell ⟨g, 3, none⟩ (.int .i64 now)) := (Fr.refl _ _).setCell (.inl (by simp)) _
 have := HC5.out.put HS5.out hf (HC5.out.1.put 3 _)
 exact ⟨rfl, this.1, HB5.out.trans this.2⟩
set_option maxRecDepth 100000 in
set_option maxHeartbeats 2000000 in
theorem take_end {w : World} {B g q r : Nat} {x : Cu} {lo hi room : Int} {last idle : Int} (h : Cn w B g q r x (Q0 lo hi room) 0 last idle) (hB : B ≤ w.heap.size) (hr : 0 ≤ x.room ∧ x.room ≤ 65536) (hb : (x.bs.length : Int) ≤ x.room) (now : Int) (ht : 0 ≤ now ∧ now ≤ 1099511627776) {bA : Option Addr} {bs : List UInt8} {bn bc : Nat} (hn : bs.length = bn) (hby : Bytes w bA bs) (hbc : bn ≤ bc) (hbl : bn ≤ 1000) (hfit : (bn : Int) ≤ freeM x) (hz : bn = 0) :
    Calls Tryz.prog 8 #[.pointer (some ⟨g, 0, none⟩), .int .i64 now, .slice bA bn bc, .bool true] w fun e w' => e = .returned (.int .i64 (bn : Int)) ∧ Cn w' B g q r { x with bs := x.bs ++ bs, en := true } (Q0 lo hi room) 1 now idle ∧ Below B w w' := by
 obtain ⟨i0, hi0, hz0, hz1, hz2⟩ := u8parts
 obtain ⟨c0, c1, c2, c3, -⟩ := cn_cells h.1
 have H := Lib.hid h; have HBY := Lib.hid hby; have HFIT := Lib.hid hfit; have HSZ := Lib.hid hB; have HBR := Lib.hid hb
 have HRM : Hid ((0 ≤ x.room ∧ x.room ≤ 65536) ∧ x.bs.length ≤ 65536) := Lib.hid ⟨hr, by omega⟩
 clear h hby hfit hB hr hb
 have HZ := Lib.hid hz; clear hz
 go_enter Tryz.func8, Tryz.ntmps8
 go_wp2_with fail
 go_at_call 23
 refine (inTime_ok ht w).mono ?_
 rintro e w2 ⟨rfl, rfl⟩
 go_upto_region 3 with fail
 clear c0 c1 c2 c3
 refine wp_region_F_ (G := fun a b => Fr [] a b) (F := fun i => i == 11 || i == 12) (S := fun W => Fr [] w.drew W) ⟨fun _ => Fr.refl _ _, fun a b c h k => h.trans k, fun a b h k => h.trans k, by kernel_rfl, fun _ _ d _ _ h => by cases d <;> exact h⟩ (by kernel_rfl) fun su => ?_
 have SU := Lib.hid su
 have HS : Hid (Fr [] w.drew w.drew) := Lib.hid (Fr.refl _ _)
 clear su
 have HCD := Lib.hid (H.out.fr_nil (Fr.refl [] w).drew)
 have HBD : Hid (Bytes w.drew bA bs) := Lib.hid (At.fr_nil HBY.out (Fr.refl [] w).drew)
 have HWB : Hid (Below B w w.drew) := Lib.hid ((Fr.refl [] w).drew.below_nil.mono HSZ.out)
 have HDS : Hid (B ≤ w.drew.heap.size) := Lib.hid HSZ.out
 clear H HBY
 generalize w.drew = wd at *
 refine T_move (i := 0) _ SU.out rfl rfl (by kernel_rfl) HS.out rfl ?_
 simp only [Act.put, Act.eval, Array.getD_eq_getD_getElem?, List.setIfInBounds_toArray, List.set_cons_zero, List.set_cons_succ, List.getElem?_toArray, List.getElem?_cons_zero, List.getElem?_cons_succ, Option.getD_some]
 refine T_val (i := 1) (v := ?_) SU.out rfl (by kernel_rfl) HS.out rfl (fun W hS => ?_) ?_
 rotate_left
 ·obtain s1 := hS
  go_simp
  all_goals first | done | rfl | omega | (simp; done) | (simp; omega)
 simp only [Act.put, List.setIfInBounds_toArray, List.set_cons_zero, List.set_cons_succ]
 refine T_val (i := 2) (v := ?_) SU.out rfl (by kernel_rfl) HS.out rfl (fun W hS => ?_) ?_
 rotate_left
 ·obtain s1 := hS
  go_simp
  all_goals first | done | rfl | omega | (simp; done) | (simp; omega)
 simp only [Act.put, List.setIfInBounds_toArray, List.set_cons_zero, List.set_cons_succ]
 refine T_val (i := 3) (v := .pointer (some ⟨r, 0, none⟩)) SU.out rfl (by kernel_rfl) HS.out rfl (fun W hS => ?_) ?_
 ·obtain ⟨-, s1, -, -, -⟩ := cn_cells (HCD.out.fr_nil hS).1
  go_simp
  all_goals first | done | rfl
 simp only [Act.put, List.setIfInBounds_toArray, List.set_cons_zero, List.set_cons_succ]
 refine T_move (i := 4) _ SU.out rfl rfl (by kernel_rfl) HS.out rfl ?_
 simp only [Act.put, Act.eval, Array.getD_eq_getD_getElem?, List.setIfInBounds_toArray, List.set_cons_zero, List.set_cons_succ, List.getElem?_toArray, List.getElem?_cons_zero, List.getElem?_cons_succ, Option.getD_some]
 refine T_move (i := 5) _ SU.out rfl rfl (by kernel_rfl) HS.out rfl ?_
 simp only [Act.put, Act.eval, Array.getD_eq_getD_getElem?, List.setIfInBounds_toArray, List.set_cons_zero, List.set_cons_succ, List.getElem?_toArray, List.getElem?_cons_zero, List.getElem?_cons_succ, Option.getD_some]
 refine T_val (i := 6) (v := ?_) SU.out rfl (by kernel_rfl) HS.out rfl (fun W hS => ?_) ?_
 rotate_left
 ·obtain s1 := hS
  go_simp
  all_goals first | done | rfl | omega | (simp; done) | (simp; omega)
 simp only [Act.put, List.setIfInBounds_toArray, List.set_cons_zero, List.set_cons_succ]
 refine T_move (i := 7) _ SU.out rfl rfl (by kernel_rfl) HS.out rfl ?_
 simp only [Act.put, Act.eval, Array.getD_eq_getD_getElem?, List.setIfInBounds_toArray, List.set_cons_zero, List.set_cons_succ, List.getElem?_toArray, List.getElem?_cons_zero, List.getElem?_cons_succ, Option.getD_some]
 refine T_call (i := 8) (v := .int .i64 (freeM x)) SU.out rfl (by kernel_rfl) HS.out rfl (fun W hS => want_any (HCD.out.fr_nil hS) HRM.out.1 HRM.out.2) (fun W => ?_) ?_
 ·go_simp
  first | done | rfl
 simp only [Act.put, List.setIfInBounds_toArray, List.set_cons_zero, List.set_cons_succ]
 refine T_val (i := 9) (v := .int .i64 (bn : Int)) SU.out rfl (by kernel_rfl) HS.out rfl (fun W hS => ?_) ?_
 ·have hr : (Builtin.min_ #[3, 3] 3 #[.int .i64 (bn : Int), .int .i64 (freeM x)]).run Tryz.prog W = .ok (.int .i64 (bn : Int)) W := by
   have e : (if freeM x < (bn : Int) then freeM x else (bn : Int)) = (bn : Int) := by have := HFIT.out; rw [if_neg (by omega)]
   simp [Builtin.min_, Builtin.min2, e]
  unfold execOp
  simp only [resolve, invoke, builtin, Sem.run_bind, Sem.run_pure, Result.andThen_ok, List.map_toArray, List.map_cons, List.map_nil, Act.eval, Array.getD_eq_getD_getElem?, List.getElem?_toArray, List.getElem?_cons_zero, List.getElem?_cons_succ, Option.getD_some, hr]
 simp only [Act.put, List.setIfInBounds_toArray, List.set_cons_zero, List.set_cons_succ]
 refine T_cut (i := 10) 34 (.tmp 24) (.tmp 29) SU.out rfl rfl 5 i0 Tryz.underlying34 hi0 hz1 bA bn bc bn (by first | rfl | (simp [Act.eval]; done)) (by first | rfl | (simp [Act.eval]; done)) (Nat.le_refl _) hbc (by kernel_rfl) HS.out rfl ?_
 simp only [Act.put, List.setIfInBounds_toArray, List.set_cons_zero, List.set_cons_succ]
 refine wpAnyF_all (rs := [11]) (by kernel_rfl) (by simp) (fun w1 hG => ?_)
 have HG1 := Lib.hid hG; clear hG
 refine allF.head rfl rfl (fun K7 hK7 => ?_) allF.nil
 refine wp_call_ (f := 25) (args := #[.pointer (some ⟨r, 0, none⟩), .slice bA bn bc]) (R := fun v w' => v = .int .i64 (bn : Int) ∧ Cn w' B g q r { x with bs := x.bs ++ bs } (Q0 lo hi room) 0 last idle ∧ Below B w1 w') (by go_simp; first | done | rfl) ?_ ?_
 ·refine (cn_put (HCD.out.fr_nil HG1.out) (Nat.le_trans HDS.out HG1.out.size) HRM.out.1 HBR.out hn (At.fr_nil HBD.out HG1.out) hbc (by omega) bn (by have := HFIT.out; omega) { x with bs := x.bs ++ bs } (by rw [List.take_of_length_le (by omega)])).mono ?_
  rintro e w' ⟨he, h1, h2⟩
  exact ⟨_, he, rfl, h1, h2⟩
 rintro v w3 ⟨rfl, hcn3, hb3⟩
 have HC3 := Lib.hid hcn3; have HB3 : Hid (Below B w w3) := Lib.hid ((HWB.out.trans (HG1.out.below_nil.mono HDS.out)).trans hb3)
 clear hcn3 hb3
 refine hK7.out _ _ (.inl rfl) ?_
 clear hK7 K7
 simp only [Act.put, List.setIfInBounds_toArray, List.set_cons_zero, List.set_cons_succ]
 refine wpAnyF_all (rs := [12]) (by kernel_rfl) (by simp) (fun w4 hG => ?_)
 have HC4 := Lib.hid (HC3.out.fr_nil hG); have HB4 := Lib.hid (HB3.out.trans (hG.below_nil.mono (Nat.le_trans HSZ.out HB3.out.size)))
 clear hG
 refine allF.head rfl rfl (fun Kb hKb => ?_) allF.nil
 go_simp
 refine hKb.out _ _ (.inl rfl) ?_
 clear hKb Kb
 refine wpAnyF_done (by kernel_rfl) (fun w5 hG => ?_)
 have HS4 : B ≤ w4.heap.size := Nat.le_trans HSZ.out HB4.out.size
 have HC5 := Lib.hid (HC4.out.fr_nil hG); have HB5 := Lib.hid (HB4.out.trans (hG.below_nil.mono HS4)); have HS5 := Lib.hid (Nat.le_trans HS4 hG.size)
 clear hG HC4 HB4 HC3 HB3 HS4 HCD HBD HWB HDS HG1
 obtain ⟨-, c1', c2', c3', -⟩ := cn_cells HC5.out.1
 obtain rfl : bn = 0 := HZ.out
 go_wp2_with fail
 go_at_call 27
 refine (cn_end HC5.out HS5.out { x with bs := x.bs ++ bs, en := true } rfl).mono ?_
 rintro e w6 ⟨rfl, hc6, hb6⟩
 have HC6 := Lib.hid hc6; have HB6 := Lib.hid (HB5.out.trans hb6); have HS6 := Lib.hid (Nat.le_trans HS5.out hb6.size)
 clear hc6 hb6 HC5 HB5 HS5 c1' c2' c3'
 obtain ⟨-, -, c2', c3', -⟩ := cn_cells HC6.out.1
 have f2 := HC6.out.1.frozen 2
 have hf6 : Fr [g] w6 (w6.setCell ⟨g, 2, none⟩ (.int .i64 1)) := (Fr.refl _ _).setCell (.inl (by simp)) _
 have h6 := HC6.out.put HS6.out hf6 (HC6.out.1.put 2 (.int .i64 1))
 have HC7 := Lib.hid h6.1; have HB7 := Lib.hid (HB6.out.trans h6.2)
 have c37 : (w6.setCell ⟨g, 2, none⟩ (.int .i64 1)).cell? ⟨g, 3, none⟩ = some (.int .i64 last) := h6.1.1.cell_ (i := 3) rfl
 have c27 : (w6.setCell ⟨g, 2, none⟩ (.int .i64 1)).cell? ⟨g, 2, none⟩ = some (.int .i64 1) := h6.1.1.cell_ (i := 2) rfl
 have f3 : (w6.setCell ⟨g, 2, none⟩ (.int .i64 1)).frozen? ⟨g, 3, none⟩ = false := h6.1.1.frozen 3
 clear h6 hf6
 go_wp2_with fail
 go_ret
 have hf : Fr [g] (w6.setCell ⟨g, 2, none⟩ (.int .i64 1)) ((w6.setCell ⟨g, 2, none⟩ (.int .i64 1)).setCell ⟨g, 3, none⟩ (.int .i64 now)) := (Fr.refl _ _).setCell (.inl (by simp)) _
 have := HC7.out.put (Nat.le_trans HS6.out (by simp)) hf (HC7.out.1.put 3 _)
 exact ⟨rfl, this.1, HB7.out.trans this.2⟩
end Go.Proofs.YtfbmogccmlikaaaGreatDoor.K
namespace Go.Proofs.YtfbmogccmlikaaaGreatDoor.K
open Go.RowKit
set_option linter.unusedVariables false
set_option linter.unusedSimpArgs false
set_option maxRecDepth 100000 in
set_option maxHeartbeats 2000000 in
theorem cnew_ok (w : World) (c : UInt8) (hc : c ≠ 92) (k lo hi room idle now : Int) (hk : 1 ≤ k ∧ k ≤ 4096) (hlo : 0 ≤ lo) (hhi : lo < hi) (hroom : hi ≤ room ∧ room ≤ 65536) (hidle : 0 ≤ idle ∧ idle ≤ 1048576) (hnow : 0 ≤ now ∧ now ≤ 1099511627776) :
    Calls Tryz.prog 7 #[.string ⟨#[c]⟩, .agg #[.int .i64 k, .int .i64 lo, .int .i64 hi, .int .i64 room, .int .i64 idle], .int .i64 now] w fun e w' =>
     ∃ g q r, e = .returned (.tuple #[.pointer (some ⟨g, 0, none⟩), .nilIface]) ∧ Cn w' w.heap.size g q r ⟨c, k, [], false⟩ (Q0 lo hi room) 0 now idle ∧ Fr [] w w' ∧ CuR w' r ⟨c, k, [], false⟩ (.slice none 0 0) := by
 have t0 : decide (k < 1) = false := decide_eq_false (by omega)
 have t1 : decide (4096 < k) = false := decide_eq_false (by omega)
 have t2 : decide (idle < 0) = false := decide_eq_false (by omega)
 have t3 : decide (1048576 < idle) = false := decide_eq_false (by omega)
 go_enter Tryz.func7, Tryz.ntmps7
 go_wp2_with fail
 go_at_call 22
 refine calls_gen fun V hV => ?_
 have hbx : Bk V w.heap.size 23 #[.int .i64 k, .int .i64 lo, .int .i64 hi, .int .i64 room, .int .i64 idle] := by rw [hV]; exact Bk.new _ _ _
 have hfV : Fr [] w V := by rw [hV]; exact (Fr.refl _ _).alloc _
 clear hV
 refine (Q.new_yes lo hi room V (by omega) (by omega) (by omega) (by omega)).mono ?_
 rintro e w2 ⟨rfl, hw2⟩
 have hq : Bk w2 V.heap.size 70 (Q0 lo hi room) := by rw [hw2]; exact Bk.new V _ _
 have hf2 : Fr [] V w2 := by rw [hw2]; exact (Fr.refl _ _).alloc _
 have hbx2 := hbx.fr hf2 (by simp)
 have d0 := hbx2.cell_ (i := 0) rfl
 have d4 := hbx2.cell_ (i := 4) rfl
 have HQ := Lib.hid hq; have HF2 := Lib.hid (hfV.trans hf2); have HBX := Lib.hid hbx2
 have HVS := Lib.hid hfV.size
 obtain ⟨q, hqe⟩ : ∃ q, V.heap.size = q := ⟨_, rfl⟩
 rw [hqe] at HQ HVS ⊢
 clear hw2 hq hf2 hbx hbx2 hfV hqe
 go_wp2_with fail
 go_at_call 23
 refine (inTime_ok hnow w2).mono ?_
 rintro e w3 ⟨rfl, rfl⟩
 go_wp2_with fail
 go_at_call 24
 refine (rnew_one c hc k (by omega)).mono ?_
 rintro e w3 ⟨r, rfl, hr, hrs, hf3⟩
 have HR := Lib.hid hr; have HF3 := Lib.hid (HF2.out.trans hf3); have HQ3 := Lib.hid (HQ.out.fr hf3 (by simp)); have HRS := Lib.hid (Nat.le_trans HF2.out.size hrs)
 have d4' := (HBX.out.fr hf3 (by simp)).cell_ (i := 4) rfl
 clear hr hf3 hrs d0 d4 HQ HF2 HBX
 go_wp2_with fail
 go_ret2
 have hfn : Fr [] w3 (w3.alloc (.cells (cnCells q r 0 now idle) 57)) := (Fr.refl _ _).alloc _
 refine ⟨w3.heap.size, q, r, rfl, ⟨Bk.new w3 _ _, HQ3.out.fr hfn (by simp), HF3.out.size, HVS.out, _, ⟨HR.out.1.fr hfn (by simp), Own.fr HR.out.2 hfn (by simp)⟩, HRS.out, fun k hk => by simp [Value.ownBlock] at hk⟩, HF3.out.trans hfn, ⟨HR.out.1.fr hfn (by simp), Own.fr HR.out.2 hfn (by simp)⟩⟩
set_option maxRecDepth 100000 in
theorem record_ok {w : World} {B g q r : Nat} {x : Cu} {lo hi room : Int} {st last idle : Int} (h : Cn w B g q r x (Q0 lo hi room) st last idle) (hB : B ≤ w.heap.size) (hst : st ≤ 1) (hb : x.bs.length ≤ 65536) (a b : Nat) (he : fstM x.c x.bs x.en = (a, b, true)) (y : Cu) (hy : { x with bs := x.bs.drop b } = y) (t : List UInt8) (ht : x.bs.take a = t) :
    Calls Tryz.prog 9 #[.pointer (some ⟨g, 0, none⟩)] w fun e w' => e = .returned (.tuple #[.string ⟨t.toArray⟩, .bool true, .nilIface]) ∧ Cn w' B g q r y (Q0 lo hi room) st last idle ∧ Below B w w' := by
 obtain ⟨c0, c1, c2, -, -⟩ := cn_cells h.1
 have H := Lib.hid h; have HQ := Lib.hid (q0_que h.2.1)
 have HN := Lib.hid (cn_next h hB hb a b he y hy t ht)
 have t0 : decide (1 < st) = false := decide_eq_false (by omega)
 clear h he hy ht
 go_enter Tryz.func9, Tryz.ntmps9
 go_wp2_with fail
 go_at_call 28
 refine (Q.above_any HQ.out).mono ?_
 rintro e w2 ⟨rfl, rfl⟩
 go_wp2_with fail
 go_at_call 29
 refine HN.out.mono ?_
 rintro e w2 ⟨rfl, hc, hbl⟩
 have HC := Lib.hid hc; have HBL := Lib.hid hbl
 clear hc hbl
 go_wp2_with fail
 go_ret3
 exact ⟨rfl, HC.out, HBL.out⟩
set_option maxRecDepth 100000 in
theorem cended_one {w : World} {B g q r : Nat} {x : Cu} {Q : Array Value} {last idle : Int} (h : Cn w B g q r x Q 1 last idle) :
    Calls Tryz.prog 12 #[.pointer (some ⟨g, 0, none⟩)] w fun e w' => e = .returned (.bool (x.en && x.bs.isEmpty)) ∧ w = w' := by
 obtain ⟨c0, c1, c2, -, -⟩ := cn_cells h.1
 obtain ⟨v, h5, -, -⟩ := h.2.2.2.2
 have HN := Lib.hid (ended_any h5)
 obtain ⟨u, hu⟩ : ∃ u, (x.en && x.bs.isEmpty) = u := ⟨_, rfl⟩
 rw [hu] at HN ⊢
 clear h h5 hu
 go_enter Tryz.func12, Tryz.ntmps12
 go_wp2_with fail
 go_at_call 33
 refine HN.out.mono ?_
 rintro e w2 ⟨rfl, rfl⟩
 go_wp2_with fail
 go_ret
 exact ⟨rfl, rfl⟩
set_option maxRecDepth 100000 in
set_option maxHeartbeats 2000000 in
theorem awake_any (w : World) : Calls Tryz.prog 5 #[] w fun e w' => e = .returned (.bool true) ∧ Below w.heap.size w w' := by
 obtain ⟨B, hB⟩ : ∃ B, B = w.heap.size := ⟨_, rfl⟩
 have HN := Lib.hid (cnew_ok w 10 (by decide) 10 1 5 9 0 0 (by omega) (by omega) (by omega) (by omega) (by omega) (by omega))
 rw [← hB] at HN ⊢
 go_enter Tryz.func5, Tryz.ntmps5
 go_wp2_with fail
 go_at_call 7
 refine HN.out.mono ?_
 rintro e w1 ⟨g, q, r, rfl, hc, hf, -⟩
 have HC := Lib.hid hc; have HF := Lib.hid (show Below B w w1 from by rw [hB]; exact hf.below_nil); have HS := Lib.hid (show B ≤ w1.heap.size from by rw [hB]; exact hf.size)
 clear hc hf hB HN
 go_wp2_with (refine wpList_same rfl 34 (.tmp 23) rfl 5 Tryz.underlying34 Tryz.underlying5 ⟨w1.heap.size, 0, none⟩ 3 3 (by rfl) (byteVals [97, 10, 98]) (At.of_bk (n := 3) (Bk.new w1 5 #[.int .u8 97, .int .u8 10, .int .u8 98]) (by rfl)) ?_; intro w2 hat hfr; have HAT := Lib.hid hat; have HF2 := Lib.hid (((Fr.refl [] w1).alloc _).trans' hfr (by simp)); clear hat hfr)
 go_at_call 8
 refine (take_some (HC.out.fr_nil HF2.out) (Nat.le_trans HS.out HF2.out.size) (by decide) (by decide) 1 (by omega) (bs := [97, 10, 98]) rfl HAT.out (by decide) (by decide) (by decide) (by decide)).mono ?_
 rintro e w3 ⟨rfl, hc, hb⟩
 have hc' : Cn w3 B g q r ⟨10, 10, [97, 10, 98], false⟩ (Q0 1 5 9) 0 1 0 := hc
 have HC3 := Lib.hid hc'; have HB3 := Lib.hid ((HF.out.trans (HF2.out.below_nil.mono HS.out)).trans hb); have HS3 := Lib.hid (sizeB (Nat.le_trans HS.out HF2.out.size) hb)
 clear hc hc' hb HC HF HF2 HS HAT
 go_wp2_with fail
 go_at_call 9
 refine (record_ok HC3.out HS3.out (by omega) (by decide) 1 2 (by decide) ⟨10, 10, [98], false⟩ rfl [97] rfl).mono ?_
 rintro e w4 ⟨rfl, hc, hb⟩
 have HC4 := Lib.hid hc; have HB4 := Lib.hid (HB3.out.trans hb); have HS4 := Lib.hid (sizeB HS3.out hb)
 clear hc hb HC3 HB3 HS3
 go_wp2_with fail
 go_at_call 8
 refine (take_end HC4.out HS4.out (by decide) (by decide) 2 (by omega) (bs := []) rfl (At.nil_ _ _) (by decide) (by decide) (by decide) rfl).mono ?_
 rintro e w5 ⟨rfl, hc, hb⟩
 have hc' : Cn w5 B g q r ⟨10, 10, [98], true⟩ (Q0 1 5 9) 1 2 0 := hc
 have HC5 := Lib.hid hc'; have HB5 := Lib.hid (HB4.out.trans hb); have HS5 := Lib.hid (sizeB HS4.out hb)
 clear hc hc' hb HC4 HB4 HS4
 go_wp2_with fail
 go_at_call 13
 refine (state_any HC5.out).mono ?_
 rintro e w6 ⟨rfl, rfl⟩
 go_wp2_with fail
 go_at_call 9
 refine (record_ok HC5.out HS5.out (by omega) (by decide) 1 1 (by decide) ⟨10, 10, [], true⟩ rfl [98] rfl).mono ?_
 rintro e w6 ⟨rfl, hc, hb⟩
 have HC6 := Lib.hid hc; have HB6 := Lib.hid (HB5.out.trans hb)
 clear hc hb HC5 HB5 HS5
 go_wp2_with fail
 go_at_call 12
 refine (cended_one HC6.out).mono ?_
 rintro e w7 ⟨rfl, rfl⟩
 dsimp only [List.isEmpty, Bool.and_self]
 go_wp2_with fail
 go_ret
 exact ⟨rfl, HB6.out⟩
end Go.Proofs.YtfbmogccmlikaaaGreatDoor.K
namespace Go.Proofs.YtfbmogccmlikaaaGreatDoor.K
open Go.ChangeShapes Go.WideShapes Go.ChangeAt Go.RowKit Go.Deep
set_option linter.unusedVariables false
set_option linter.unusedSimpArgs false
def badC (k lo hi room idle : Int) : Prop := (lo < 0 ∨ hi ≤ lo ∨ room < hi ∨ 65536 < room) ∨ k < 1 ∨ 4096 < k ∨ idle < 0 ∨ 1048576 < idle
set_option maxRecDepth 100000 in
set_option maxHeartbeats 2000000 in
theorem cnew_bad (w : World) (s : ByteArray) (k lo hi room idle : Int) (h : badC k lo hi room idle) :
    Calls Tryz.prog 7 #[.string s, .agg #[.int .i64 k, .int .i64 lo, .int .i64 hi, .int .i64 room, .int .i64 idle], .int .i64 0] w fun e w' => e = .returned (.tuple #[.pointer none, errV 1]) ∧ Fr [] w w' := by
 by_cases hq : lo < 0 ∨ hi ≤ lo ∨ room < hi ∨ 65536 < room
 ·have HQ := Lib.hid hq
  clear hq h
  go_enter Tryz.func7, Tryz.ntmps7
  go_wp2_with fail
  go_at_call 22
  refine calls_gen fun V hV => ?_
  have HV : Hid (Fr [] w V) := Lib.hid (by rw [hV]; exact (Fr.refl _ _).alloc _)
  clear hV
  refine (Q.new_no lo hi room V HQ.out).mono ?_
  rintro e w2 ⟨rfl, rfl⟩
  go_wp2_with fail
  go_ret2
  exact ⟨rfl, HV.out⟩
 ·have hx := h.resolve_left hq
  have q1 : ¬ lo < 0 := fun e => hq (.inl e)
  have q2 : ¬ hi ≤ lo := fun e => hq (.inr (.inl e))
  have q3 : ¬ room < hi := fun e => hq (.inr (.inr (.inl e)))
  have q4 : ¬ 65536 < room := fun e => hq (.inr (.inr (.inr e)))
  have HN := Lib.hid (fun V => Q.new_yes lo hi room V q1 q2 q3 q4)
  clear h hq q1 q2 q3 q4
  go_enter Tryz.func7, Tryz.ntmps7
  go_wp2_with fail
  go_at_call 22
  refine calls_gen fun V hV => ?_
  have hbx : Bk V w.heap.size 23 #[.int .i64 k, .int .i64 lo, .int .i64 hi, .int .i64 room, .int .i64 idle] := by rw [hV]; exact Bk.new _ _ _
  have hfV : Fr [] w V := by rw [hV]; exact (Fr.refl _ _).alloc _
  clear hV
  refine (HN.out V).mono ?_
  rintro e w2 ⟨rfl, hw2⟩
  have hf2 : Fr [] V w2 := by rw [hw2]; exact (Fr.refl _ _).alloc _
  have hbx2 := hbx.fr hf2 (by simp)
  have d0 := hbx2.cell_ (i := 0) rfl
  have d4 := hbx2.cell_ (i := 4) rfl
  have HF2 := Lib.hid (hfV.trans hf2)
  clear hw2 hf2 hbx hbx2 hfV HN
  by_cases k1 : k < 1
  ·have t0 : decide (k < 1) = true := decide_eq_true k1
   go_wp2_with fail
   go_ret2
   exact ⟨rfl, HF2.out⟩
  have t0 : decide (k < 1) = false := decide_eq_false k1
  by_cases k2 : 4096 < k
  ·have t1 : decide (4096 < k) = true := decide_eq_true k2
   go_wp2_with fail
   go_ret2
   exact ⟨rfl, HF2.out⟩
  have t1 : decide (4096 < k) = false := decide_eq_false k2
  by_cases k3 : idle < 0
  ·have t2 : decide (idle < 0) = true := decide_eq_true k3
   go_wp2_with fail
   go_ret2
   exact ⟨rfl, HF2.out⟩
  have t2 : decide (idle < 0) = false := decide_eq_false k3
  have k4 : 1048576 < idle := by omega
  have t3 : decide (1048576 < idle) = true := decide_eq_true k4
  go_wp2_with fail
  go_ret2
  exact ⟨rfl, HF2.out⟩
def ActS (w : World) (A : Option Addr) (n : Nat) (K M N : Nat → Int) (BA : Nat → Option Addr) (BC : Nat → Nat) (BB : Nat → List UInt8) (F : Nat → Bool) : Prop :=
 ∀ i, i < n → ∃ b off, A = some ⟨b, off, none⟩ ∧ b < w.heap.size ∧ w.cell? ⟨b, off + i * 5, none⟩ = some (.int .i64 (K i)) ∧ w.cell? ⟨b, off + i * 5 + 1, none⟩ = some (.int .i64 (M i)) ∧ w.cell? ⟨b, off + i * 5 + 2, none⟩ = some (.int .i64 (N i)) ∧
  w.cell? ⟨b, off + i * 5 + 3, none⟩ = some (.slice (BA i) (BB i).length (BC i)) ∧ w.cell? ⟨b, off + i * 5 + 4, none⟩ = some (.bool (F i)) ∧ Bytes w (BA i) (BB i) ∧ (BB i).length ≤ maxLen
theorem ActS.fr {w w' : World} {A : Option Addr} {n : Nat} {K M N : Nat → Int} {BA : Nat → Option Addr} {BC : Nat → Nat} {BB : Nat → List UInt8} {F : Nat → Bool} (h : ActS w A n K M N BA BC BB F) (hf : Fr [] w w') : ActS w' A n K M N BA BC BB F := by
 intro i hi
 obtain ⟨b, off, hA, hb, h0, h1, h2, h3, h4, h5, h6⟩ := h i hi
 exact ⟨b, off, hA, Nat.lt_of_lt_of_le hb hf.size, (hf.cell hb (by simp)).trans h0, (hf.cell hb (by simp)).trans h1, (hf.cell hb (by simp)).trans h2, (hf.cell hb (by simp)).trans h3, (hf.cell hb (by simp)).trans h4, At.fr_nil h5 hf, h6⟩
def fewB (n : Nat) (BB : Nat → List UInt8) : Bool := decide (n ≤ 40) && (List.range n).all fun i => decide ((BB i).length ≤ 60)
theorem fewB_no {n : Nat} {BB : Nat → List UInt8} {k : Nat} (hk : k < n) (h : 60 < (BB k).length) : fewB n BB = false := by
 unfold fewB
 rw [Bool.and_eq_false_iff]
 right
 rw [List.all_eq_false]
 exact ⟨k, by simpa using hk, by simp; omega⟩
theorem fewB_yes {n : Nat} {BB : Nat → List UInt8} (hn : n ≤ 40) (h : ∀ i, i < n → (BB i).length ≤ 60) : fewB n BB = true := by
 unfold fewB
 rw [Bool.and_eq_true]
 exact ⟨by simpa using hn, by rw [List.all_eq_true]; intro i hi; simpa using h i (by simpa using hi)⟩
theorem few_any {w : World} {A : Option Addr} {n c : Nat} {K M N : Nat → Int} {BA : Nat → Option Addr} {BC : Nat → Nat} {BB : Nat → List UInt8} {F : Nat → Bool} (h : ActS w A n K M N BA BC BB F) (hn : n ≤ maxLen) :
    Calls Tryz.prog 6 #[.slice A n c] w fun e w' => e = .returned (.bool (fewB n BB)) ∧ w = w' := by
 unfold maxLen at hn
 by_cases h1 : n ≤ 40
 ·go_enter Tryz.func6, Tryz.ntmps6
  go_wp2
  go_loop [3] (fun i => ∃ k : Nat, k ≤ n ∧ i = .int .i64 k ∧ ∀ j, j < k → (BB j).length ≤ 60) (fun i => n - (intOf i).toNat)
  case atStart => exact ⟨0, by omega, rfl, by simp⟩
  case round =>
   obtain ⟨k, hk, rfl, hall⟩ := hrel
   have HALL := Lib.hid hall; clear hall
   by_cases hlt : k < n
   ·obtain ⟨b, off, rfl, hb, e0, e1, e2, e3, e5, e6, e4⟩ := h k hlt
    unfold maxLen at e4
    by_cases h6 : 60 < (BB k).length
    ·have H := Lib.hid (fewB_no hlt h6)
     go_wp2
     go_ret
     exact ⟨by rw [H.out]; rfl, rfl⟩
    ·go_wp2
     go_round
     case rel => exact ⟨k + 1, by omega, by go_num, fun j hj => by
      rcases Nat.lt_or_ge j k with h | h
      ·exact HALL.out j h
      ·have : j = k := by omega
       subst this; omega⟩
     case measure => simp [intOf]; omega
   ·have : k = n := by omega
    subst this
    have H := Lib.hid (fewB_yes h1 HALL.out)
    go_wp2
    go_ret
    exact ⟨by rw [H.out]; rfl, rfl⟩
 ·have H : Hid (fewB n BB = false) := by unfold fewB Hid; simp; omega
  go_enter Tryz.func6, Tryz.ntmps6
  go_wp2
  go_ret
  exact ⟨by rw [H.out]; rfl, rfl⟩
theorem act_cells : Tryz.prog.cellsOf 36 = 5 := by kernel_rfl
theorem u8_cells : Tryz.prog.cellsOf 5 = 1 := by kernel_rfl
theorem int_cells : Tryz.prog.cellsOf 3 = 1 := by kernel_rfl
theorem bool_cells : Tryz.prog.cellsOf 4 = 1 := by kernel_rfl
theorem bytes_cells : Tryz.prog.cellsOf 34 = 1 := by kernel_rfl
end Go.Proofs.YtfbmogccmlikaaaGreatDoor.K
