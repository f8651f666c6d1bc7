/-
  A connection's New, Want, Take, Idle, Record, Ended: as far as the law of idle times and awake go. No conditions on the program. (Printed by tools/gencn2.py.)
-/
import Derived.Test.YtecdghjimcfhpaaGreatDoorCn1
import Derived.Test.YtecdghjimcfhpaaGreatDoorDrawnT
import Derived.Deep.Cut
import Derived.Deep.CutBlock
namespace Go.Proofs.YtecdghjimcfhpaaGreatDoor
open Go.RowKit
set_option linter.unusedVariables false
set_option linter.unusedSimpArgs false

section
variable {P : Program} {Q : Exit → Act → World → Prop} {md : Region.Mode} {G : World → World → Prop} {S : World → Prop} {F : Nat → Bool} {l r : List Oper} {o : Oper} {i n : Nat} {listed : Array Bool} {a : Act} {w : World}
/-- 's[:h]' in a region that draws. -/
theorem T_cut (t : TypeId) (x oh : Operand) (su : Setup P l Q G S) (ho : l.drop i = o :: r) (hop : o.op = .slice t x none (some oh) none) (e : TypeId) (ti : TypeInfo) (ht : P.underlying t = some (.slice e)) (hi : P.info? e = some ti) (hs : ti.size = 1)
    (A : Option Addr) (len c h : Nat) (hxv : a.eval x = .slice A len c) (hh : a.eval oh = .int .i64 (h : Int)) (h1 : h ≤ len) (h2 : len ≤ c)
    (hB : ((Region.ready md l.toArray listed).contains i && Region.free md l.toArray listed i && (waitsT md l.toArray F i && closedB md l.toArray listed)) = true) (hS : S w) (hw : Region.wanted o (yielded l.toArray a.tmps) = true)
    (hr : wpAnyF P md l.toArray Q G S F n (listed.setIfInBounds i true) (a.put o.dst (.slice A h c)) w) : wpAnyF P md l.toArray Q G S F (n + 1) listed a w := by
  refine T_val su ho hB hS hw (fun w' _ => ?_) hr
  have hrun : (Instr.sliceAt t (a.eval x) none (some (a.eval oh)) none).run P w' = .ok (.slice A h c) w' := by
    rw [hxv, hh]
    have hb := run_bounds_ (P := P) len c none (some (.int .i64 (h : Int))) none 0 h c w' (.inl ⟨rfl, rfl⟩) (.inr rfl) (.inl ⟨rfl, rfl⟩) (Nat.zero_le _) (Nat.le_trans h1 h2) (Nat.le_refl _)
    have hA : A.map (·.add 0) = A := by cases A <;> simp [Addr.add]
    simp [Instr.sliceAt, Instr.slice, run_underlying ht, sizeOf, typeInfo, hi, hs, hb, hA]
  unfold execOp
  simp only [hop, Option.map_none, Option.map_some, hrun, Sem.run_bind, Result.andThen_ok, Sem.run_pure]
end


theorem cn_put {w : World} {B g q r : Nat} {x : Cu} {Q : Array Value} {st last idle : Int} (h : Cn w B g q r x Q st last idle) (hB : B ≤ w.heap.size) (hr : 0 ≤ x.room ∧ x.room ≤ 65536) (hb : (x.bs.length : Int) ≤ x.room) {bA : Option Addr} {bs : List UInt8} {bn bc : Nat} (hn : bs.length = bn) (hby : Bytes w bA bs) (hbc : bn ≤ bc) (hbl : bn ≤ 100000000) (kk : Nat) (hkk : (kk : Int) = min (bn : Int) (freeM x)) (y : Cu) (hy : { x with bs := x.bs ++ bs.take kk } = y) :
    Calls Tryz.prog 22 #[.pointer (some ⟨r, 0, none⟩), .slice bA bn bc] w fun e w' => e = .returned (.int .i64 (kk : Int)) ∧ Cn w' B g q r y Q st last idle ∧ Below B w w' := by
  obtain ⟨v, h5, h6, h7⟩ := h.2.2.2.2
  subst hy
  exact (cput_any h5 hr hb hn hby hbc hbl kk hkk).mono fun e w' k => ⟨k.1, h.cut hB h5 h7 k.2⟩
theorem cn_end {w : World} {B g q r : Nat} {x : Cu} {Q : Array Value} {st last idle : Int} (h : Cn w B g q r x Q st last idle) (hB : B ≤ w.heap.size) (y : Cu) (hy : { x with en := true } = y) :
    Calls Tryz.prog 24 #[.pointer (some ⟨r, 0, none⟩)] w fun e w' => e = .returned (.tuple #[]) ∧ Cn w' B g q r y Q st last idle ∧ Below B w w' := by
  obtain ⟨v, h5, h6, h7⟩ := h.2.2.2.2
  subst hy
  exact (end_any h5).mono fun e w' k => ⟨k.1, h.cut hB h5 h7 k.2⟩
theorem cn_next {w : World} {B g q r : Nat} {x : Cu} {Q : Array Value} {st last idle : Int} (h : Cn w B g q r x Q st last idle) (hB : B ≤ w.heap.size) (hb : x.bs.length ≤ 65536) (a b : Nat) (he : fstM x.c x.bs x.en = (a, b, true)) (y : Cu) (hy : { x with bs := x.bs.drop b } = y) (t : List UInt8) (ht : x.bs.take a = t) :
    Calls Tryz.prog 32 #[.pointer (some ⟨r, 0, none⟩)] w fun e w' => e = .returned (.tuple #[.string ⟨t.toArray⟩, .bool true, .nilIface]) ∧ Cn w' B g q r y Q st last idle ∧ Below B w w' := by
  obtain ⟨v, h5, h6, h7⟩ := h.2.2.2.2
  subst hy ht
  exact (next_ok h5 hb a b he).mono fun e w' k => ⟨k.1, h.cut hB h5 h7 k.2⟩
set_option maxRecDepth 100000 in
theorem want_any {w : World} {B g q r : Nat} {x : Cu} {lo hi room : Int} {last idle : Int} (h : Cn w B g q r x (Q0 lo hi room) 0 last idle) (hr : 0 ≤ x.room ∧ x.room ≤ 65536) (hb : x.bs.length ≤ 65536) :
    Calls Tryz.prog 23 #[.pointer (some ⟨g, 0, none⟩)] w fun e w' => e = .returned (.int .i64 (freeM x)) ∧ Fr [] w w' := by
  obtain ⟨c0, c1, c2, -, -⟩ := cn_cells h.1
  obtain ⟨v, h5, -, -⟩ := h.2.2.2.2
  have HQ := Lib.hid (q0_que h.2.1)
  have H5 := Lib.hid h5
  clear h h5
  go_enter Tryz.func23, Tryz.ntmps23
  go_wp2_with fail
  go_at_call 31
  refine (Q.above_any HQ.out).mono ?_
  rintro e w2 ⟨rfl, rfl⟩
  go_wp2_with fail
  go_at_call 35
  refine (free_any H5.out hr hb).mono ?_
  rintro e w2 ⟨rfl, hf⟩
  have HF := Lib.hid hf; clear hf
  go_wp2_with fail
  go_ret
  exact ⟨rfl, HF.out⟩
set_option maxRecDepth 100000 in
set_option maxHeartbeats 2000000 in
theorem take_some {w : World} {B g q r : Nat} {x : Cu} {lo hi room : Int} {last idle : Int} (h : Cn w B g q r x (Q0 lo hi room) 0 last idle) (hB : B ≤ w.heap.size) (hr : 0 ≤ x.room ∧ x.room ≤ 65536) (hb : (x.bs.length : Int) ≤ x.room) (now : Int) (ht : 0 ≤ now ∧ now ≤ 1099511627776) {bA : Option Addr} {bs : List UInt8} {bn bc : Nat} (hn : bs.length = bn) (hby : Bytes w bA bs) (hbc : bn ≤ bc) (hbl : bn ≤ 1000) (hfit : (bn : Int) ≤ freeM x) (hp : 0 < bn) :
    Calls Tryz.prog 7 #[.pointer (some ⟨g, 0, none⟩), .int .i64 now, .slice bA bn bc, .bool false] w fun e w' => e = .returned (.int .i64 (bn : Int)) ∧ Cn w' B g q r { x with bs := x.bs ++ bs, en := x.en } (Q0 lo hi room) 0 now idle ∧ Below B w w' := by
  obtain ⟨i0, hi0, hz0, hz1, hz2⟩ := u8parts
  obtain ⟨c0, c1, c2, c3, -⟩ := cn_cells h.1
  have H := Lib.hid h; have HBY := Lib.hid hby; have HFIT := Lib.hid hfit; have HSZ := Lib.hid hB; have HBR := Lib.hid hb
  have HRM : Hid ((0 ≤ x.room ∧ x.room ≤ 65536) ∧ x.bs.length ≤ 65536) := Lib.hid ⟨hr, by omega⟩
  clear h hby hfit hB hr hb
  go_enter Tryz.func7, Tryz.ntmps7
  go_wp2_with fail
  go_at_call 20
  refine (inTime_ok ht w).mono ?_
  rintro e w2 ⟨rfl, rfl⟩
  go_upto_region 3 with fail
  clear c0 c1 c2 c3
  refine wp_region_F_ (G := fun a b => Fr [] a b) (F := fun i => i == 11 || i == 12) (S := fun W => Fr [] w.drew W) ⟨fun _ => Fr.refl _ _, fun a b c h k => h.trans k, fun a b h k => h.trans k, by kernel_rfl, fun _ _ d _ _ h => by cases d <;> exact h⟩ (by kernel_rfl) fun su => ?_
  have SU := Lib.hid su
  have HS : Hid (Fr [] w.drew w.drew) := Lib.hid (Fr.refl _ _)
  clear su
  have HCD := Lib.hid (H.out.fr_nil (Fr.refl [] w).drew)
  have HBD : Hid (Bytes w.drew bA bs) := Lib.hid (At.fr_nil HBY.out (Fr.refl [] w).drew)
  have HWB : Hid (Below B w w.drew) := Lib.hid ((Fr.refl [] w).drew.below_nil.mono HSZ.out)
  have HDS : Hid (B ≤ w.drew.heap.size) := Lib.hid HSZ.out
  clear H HBY
  generalize w.drew = wd at *
  refine T_move (i := 0) _ SU.out rfl rfl (by kernel_rfl) HS.out rfl ?_
  simp only [Act.put, Act.eval, Array.getD_eq_getD_getElem?, List.setIfInBounds_toArray, List.set_cons_zero, List.set_cons_succ, List.getElem?_toArray, List.getElem?_cons_zero, List.getElem?_cons_succ, Option.getD_some]
  refine T_val (i := 1) (v := ?_) SU.out rfl (by kernel_rfl) HS.out rfl (fun W hS => ?_) ?_
  rotate_left
  · obtain s1 := hS
    go_simp
    all_goals first | done | rfl | omega | (simp; done) | (simp; omega)
  simp only [Act.put, List.setIfInBounds_toArray, List.set_cons_zero, List.set_cons_succ]
  refine T_val (i := 2) (v := ?_) SU.out rfl (by kernel_rfl) HS.out rfl (fun W hS => ?_) ?_
  rotate_left
  · obtain s1 := hS
    go_simp
    all_goals first | done | rfl | omega | (simp; done) | (simp; omega)
  simp only [Act.put, List.setIfInBounds_toArray, List.set_cons_zero, List.set_cons_succ]
  refine T_val (i := 3) (v := .pointer (some ⟨r, 0, none⟩)) SU.out rfl (by kernel_rfl) HS.out rfl (fun W hS => ?_) ?_
  · obtain ⟨-, s1, -, -, -⟩ := cn_cells (HCD.out.fr_nil hS).1
    go_simp
    all_goals first | done | rfl
  simp only [Act.put, List.setIfInBounds_toArray, List.set_cons_zero, List.set_cons_succ]
  refine T_move (i := 4) _ SU.out rfl rfl (by kernel_rfl) HS.out rfl ?_
  simp only [Act.put, Act.eval, Array.getD_eq_getD_getElem?, List.setIfInBounds_toArray, List.set_cons_zero, List.set_cons_succ, List.getElem?_toArray, List.getElem?_cons_zero, List.getElem?_cons_succ, Option.getD_some]
  refine T_move (i := 5) _ SU.out rfl rfl (by kernel_rfl) HS.out rfl ?_
  simp only [Act.put, Act.eval, Array.getD_eq_getD_getElem?, List.setIfInBounds_toArray, List.set_cons_zero, List.set_cons_succ, List.getElem?_toArray, List.getElem?_cons_zero, List.getElem?_cons_succ, Option.getD_some]
  refine T_val (i := 6) (v := ?_) SU.out rfl (by kernel_rfl) HS.out rfl (fun W hS => ?_) ?_
  rotate_left
  · obtain s1 := hS
    go_simp
    all_goals first | done | rfl | omega | (simp; done) | (simp; omega)
  simp only [Act.put, List.setIfInBounds_toArray, List.set_cons_zero, List.set_cons_succ]
  refine T_move (i := 7) _ SU.out rfl rfl (by kernel_rfl) HS.out rfl ?_
  simp only [Act.put, Act.eval, Array.getD_eq_getD_getElem?, List.setIfInBounds_toArray, List.set_cons_zero, List.set_cons_succ, List.getElem?_toArray, List.getElem?_cons_zero, List.getElem?_cons_succ, Option.getD_some]
  refine T_call (i := 8) (v := .int .i64 (freeM x)) SU.out rfl (by kernel_rfl) HS.out rfl (fun W hS => want_any (HCD.out.fr_nil hS) HRM.out.1 HRM.out.2) (fun W => ?_) ?_
  · go_simp
    first | done | rfl
  simp only [Act.put, List.setIfInBounds_toArray, List.set_cons_zero, List.set_cons_succ]
  refine T_val (i := 9) (v := .int .i64 (bn : Int)) SU.out rfl (by kernel_rfl) HS.out rfl (fun W hS => ?_) ?_
  · have hr : (Builtin.min_ #[3, 3] 3 #[.int .i64 (bn : Int), .int .i64 (freeM x)]).run Tryz.prog W = .ok (.int .i64 (bn : Int)) W := by
      have e : (if freeM x < (bn : Int) then freeM x else (bn : Int)) = (bn : Int) := by have := HFIT.out; rw [if_neg (by omega)]
      simp [Builtin.min_, Builtin.min2, e]
    unfold execOp
    simp only [resolve, invoke, builtin, Sem.run_bind, Sem.run_pure, Result.andThen_ok, List.map_toArray, List.map_cons, List.map_nil, Act.eval, Array.getD_eq_getD_getElem?, List.getElem?_toArray, List.getElem?_cons_zero, List.getElem?_cons_succ, Option.getD_some, hr]
  simp only [Act.put, List.setIfInBounds_toArray, List.set_cons_zero, List.set_cons_succ]
  refine T_cut (i := 10) 31 (.tmp 24) (.tmp 29) SU.out rfl rfl 5 i0 Tryz.underlying31 hi0 hz1 bA bn bc bn (by first | rfl | (simp [Act.eval]; done)) (by first | rfl | (simp [Act.eval]; done)) (Nat.le_refl _) hbc (by kernel_rfl) HS.out rfl ?_
  simp only [Act.put, List.setIfInBounds_toArray, List.set_cons_zero, List.set_cons_succ]
  refine wpAnyF_all (rs := [11]) (by kernel_rfl) (by simp) (fun w1 hG => ?_)
  have HG1 := Lib.hid hG; clear hG
  refine allF.head rfl rfl (fun K7 hK7 => ?_) allF.nil
  refine wp_call_ (f := 22) (args := #[.pointer (some ⟨r, 0, none⟩), .slice bA bn bc]) (R := fun v w' => v = .int .i64 (bn : Int) ∧ Cn w' B g q r { x with bs := x.bs ++ bs } (Q0 lo hi room) 0 last idle ∧ Below B w1 w') (by go_simp; first | done | rfl) ?_ ?_
  · refine (cn_put (HCD.out.fr_nil HG1.out) (Nat.le_trans HDS.out HG1.out.size) HRM.out.1 HBR.out hn (At.fr_nil HBD.out HG1.out) hbc (by omega) bn (by have := HFIT.out; omega) { x with bs := x.bs ++ bs } (by rw [List.take_of_length_le (by omega)])).mono ?_
    rintro e w' ⟨he, h1, h2⟩
    exact ⟨_, he, rfl, h1, h2⟩
  rintro v w3 ⟨rfl, hcn3, hb3⟩
  have HC3 := Lib.hid hcn3; have HB3 : Hid (Below B w w3) := Lib.hid ((HWB.out.trans (HG1.out.below_nil.mono HDS.out)).trans hb3)
  clear hcn3 hb3
  refine hK7.out _ _ (.inl rfl) ?_
  clear hK7 K7
  simp only [Act.put, List.setIfInBounds_toArray, List.set_cons_zero, List.set_cons_succ]
  refine wpAnyF_all (rs := [12]) (by kernel_rfl) (by simp) (fun w4 hG => ?_)
  have HC4 := Lib.hid (HC3.out.fr_nil hG); have HB4 := Lib.hid (HB3.out.trans (hG.below_nil.mono (Nat.le_trans HSZ.out HB3.out.size)))
  clear hG
  refine allF.head rfl rfl (fun Kb hKb => ?_) allF.nil
  go_simp
  refine hKb.out _ _ (.inl rfl) ?_
  clear hKb Kb
  refine wpAnyF_done (by kernel_rfl) (fun w5 hG => ?_)
  have HS4 : B ≤ w4.heap.size := Nat.le_trans HSZ.out HB4.out.size
  have HC5 := Lib.hid (HC4.out.fr_nil hG); have HB5 := Lib.hid (HB4.out.trans (hG.below_nil.mono HS4)); have HS5 := Lib.hid (Nat.le_trans HS4 hG.size)
  clear hG HC4 HB4 HC3 HB3 HS4 HCD HBD HWB HDS HG1
  obtain ⟨-, c1', c2', c3', -⟩ := cn_cells HC5.out.1
  have f3 := HC5.out.1.frozen 3
  have t0 : decide ((0 : Int) < (bn : Int)) = true := decide_eq_true (by omega)
  go_wp2_with fail
  go_ret
  have hf : Fr [g] w5 (w5.setCell ⟨g, 3, none⟩ (.int .i64 now)) := (Fr.refl _ _).setCell (.inl (by simp)) _
  have := HC5.out.put HS5.out hf (HC5.out.1.put 3 _)
  exact ⟨rfl, this.1, HB5.out.trans this.2⟩
set_option maxRecDepth 100000 in
set_option maxHeartbeats 2000000 in
theorem take_none {w : World} {B g q r : Nat} {x : Cu} {lo hi room : Int} {last idle : Int} (h : Cn w B g q r x (Q0 lo hi room) 0 last idle) (hB : B ≤ w.heap.size) (hr : 0 ≤ x.room ∧ x.room ≤ 65536) (hb : (x.bs.length : Int) ≤ x.room) (now : Int) (ht : 0 ≤ now ∧ now ≤ 1099511627776) {bA : Option Addr} {bs : List UInt8} {bn bc : Nat} (hn : bs.length = bn) (hby : Bytes w bA bs) (hbc : bn ≤ bc) (hbl : bn ≤ 1000) (hfit : (bn : Int) ≤ freeM x) (hz : bn = 0) :
    Calls Tryz.prog 7 #[.pointer (some ⟨g, 0, none⟩), .int .i64 now, .slice bA bn bc, .bool false] w fun e w' => e = .returned (.int .i64 (bn : Int)) ∧ Cn w' B g q r { x with bs := x.bs ++ bs, en := x.en } (Q0 lo hi room) 0 last idle ∧ Below B w w' := by
  obtain ⟨i0, hi0, hz0, hz1, hz2⟩ := u8parts
  obtain ⟨c0, c1, c2, c3, -⟩ := cn_cells h.1
  have H := Lib.hid h; have HBY := Lib.hid hby; have HFIT := Lib.hid hfit; have HSZ := Lib.hid hB; have HBR := Lib.hid hb
  have HRM : Hid ((0 ≤ x.room ∧ x.room ≤ 65536) ∧ x.bs.length ≤ 65536) := Lib.hid ⟨hr, by omega⟩
  clear h hby hfit hB hr hb
  have HZ := Lib.hid hz; clear hz
  go_enter Tryz.func7, Tryz.ntmps7
  go_wp2_with fail
  go_at_call 20
  refine (inTime_ok ht w).mono ?_
  rintro e w2 ⟨rfl, rfl⟩
  go_upto_region 3 with fail
  clear c0 c1 c2 c3
  refine wp_region_F_ (G := fun a b => Fr [] a b) (F := fun i => i == 11 || i == 12) (S := fun W => Fr [] w.drew W) ⟨fun _ => Fr.refl _ _, fun a b c h k => h.trans k, fun a b h k => h.trans k, by kernel_rfl, fun _ _ d _ _ h => by cases d <;> exact h⟩ (by kernel_rfl) fun su => ?_
  have SU := Lib.hid su
  have HS : Hid (Fr [] w.drew w.drew) := Lib.hid (Fr.refl _ _)
  clear su
  have HCD := Lib.hid (H.out.fr_nil (Fr.refl [] w).drew)
  have HBD : Hid (Bytes w.drew bA bs) := Lib.hid (At.fr_nil HBY.out (Fr.refl [] w).drew)
  have HWB : Hid (Below B w w.drew) := Lib.hid ((Fr.refl [] w).drew.below_nil.mono HSZ.out)
  have HDS : Hid (B ≤ w.drew.heap.size) := Lib.hid HSZ.out
  clear H HBY
  generalize w.drew = wd at *
  refine T_move (i := 0) _ SU.out rfl rfl (by kernel_rfl) HS.out rfl ?_
  simp only [Act.put, Act.eval, Array.getD_eq_getD_getElem?, List.setIfInBounds_toArray, List.set_cons_zero, List.set_cons_succ, List.getElem?_toArray, List.getElem?_cons_zero, List.getElem?_cons_succ, Option.getD_some]
  refine T_val (i := 1) (v := ?_) SU.out rfl (by kernel_rfl) HS.out rfl (fun W hS => ?_) ?_
  rotate_left
  · obtain s1 := hS
    go_simp
    all_goals first | done | rfl | omega | (simp; done) | (simp; omega)
  simp only [Act.put, List.setIfInBounds_toArray, List.set_cons_zero, List.set_cons_succ]
  refine T_val (i := 2) (v := ?_) SU.out rfl (by kernel_rfl) HS.out rfl (fun W hS => ?_) ?_
  rotate_left
  · obtain s1 := hS
    go_simp
    all_goals first | done | rfl | omega | (simp; done) | (simp; omega)
  simp only [Act.put, List.setIfInBounds_toArray, List.set_cons_zero, List.set_cons_succ]
  refine T_val (i := 3) (v := .pointer (some ⟨r, 0, none⟩)) SU.out rfl (by kernel_rfl) HS.out rfl (fun W hS => ?_) ?_
  · obtain ⟨-, s1, -, -, -⟩ := cn_cells (HCD.out.fr_nil hS).1
    go_simp
    all_goals first | done | rfl
  simp only [Act.put, List.setIfInBounds_toArray, List.set_cons_zero, List.set_cons_succ]
  refine T_move (i := 4) _ SU.out rfl rfl (by kernel_rfl) HS.out rfl ?_
  simp only [Act.put, Act.eval, Array.getD_eq_getD_getElem?, List.setIfInBounds_toArray, List.set_cons_zero, List.set_cons_succ, List.getElem?_toArray, List.getElem?_cons_zero, List.getElem?_cons_succ, Option.getD_some]
  refine T_move (i := 5) _ SU.out rfl rfl (by kernel_rfl) HS.out rfl ?_
  simp only [Act.put, Act.eval, Array.getD_eq_getD_getElem?, List.setIfInBounds_toArray, List.set_cons_zero, List.set_cons_succ, List.getElem?_toArray, List.getElem?_cons_zero, List.getElem?_cons_succ, Option.getD_some]
  refine T_val (i := 6) (v := ?_) SU.out rfl (by kernel_rfl) HS.out rfl (fun W hS => ?_) ?_
  rotate_left
  · obtain s1 := hS
    go_simp
    all_goals first | done | rfl | omega | (simp; done) | (simp; omega)
  simp only [Act.put, List.setIfInBounds_toArray, List.set_cons_zero, List.set_cons_succ]
  refine T_move (i := 7) _ SU.out rfl rfl (by kernel_rfl) HS.out rfl ?_
  simp only [Act.put, Act.eval, Array.getD_eq_getD_getElem?, List.setIfInBounds_toArray, List.set_cons_zero, List.set_cons_succ, List.getElem?_toArray, List.getElem?_cons_zero, List.getElem?_cons_succ, Option.getD_some]
  refine T_call (i := 8) (v := .int .i64 (freeM x)) SU.out rfl (by kernel_rfl) HS.out rfl (fun W hS => want_any (HCD.out.fr_nil hS) HRM.out.1 HRM.out.2) (fun W => ?_) ?_
  · go_simp
    first | done | rfl
  simp only [Act.put, List.setIfInBounds_toArray, List.set_cons_zero, List.set_cons_succ]
  refine T_val (i := 9) (v := .int .i64 (bn : Int)) SU.out rfl (by kernel_rfl) HS.out rfl (fun W hS => ?_) ?_
  · have hr : (Builtin.min_ #[3, 3] 3 #[.int .i64 (bn : Int), .int .i64 (freeM x)]).run Tryz.prog W = .ok (.int .i64 (bn : Int)) W := by
      have e : (if freeM x < (bn : Int) then freeM x else (bn : Int)) = (bn : Int) := by have := HFIT.out; rw [if_neg (by omega)]
      simp [Builtin.min_, Builtin.min2, e]
    unfold execOp
    simp only [resolve, invoke, builtin, Sem.run_bind, Sem.run_pure, Result.andThen_ok, List.map_toArray, List.map_cons, List.map_nil, Act.eval, Array.getD_eq_getD_getElem?, List.getElem?_toArray, List.getElem?_cons_zero, List.getElem?_cons_succ, Option.getD_some, hr]
  simp only [Act.put, List.setIfInBounds_toArray, List.set_cons_zero, List.set_cons_succ]
  refine T_cut (i := 10) 31 (.tmp 24) (.tmp 29) SU.out rfl rfl 5 i0 Tryz.underlying31 hi0 hz1 bA bn bc bn (by first | rfl | (simp [Act.eval]; done)) (by first | rfl | (simp [Act.eval]; done)) (Nat.le_refl _) hbc (by kernel_rfl) HS.out rfl ?_
  simp only [Act.put, List.setIfInBounds_toArray, List.set_cons_zero, List.set_cons_succ]
  refine wpAnyF_all (rs := [11]) (by kernel_rfl) (by simp) (fun w1 hG => ?_)
  have HG1 := Lib.hid hG; clear hG
  refine allF.head rfl rfl (fun K7 hK7 => ?_) allF.nil
  refine wp_call_ (f := 22) (args := #[.pointer (some ⟨r, 0, none⟩), .slice bA bn bc]) (R := fun v w' => v = .int .i64 (bn : Int) ∧ Cn w' B g q r { x with bs := x.bs ++ bs } (Q0 lo hi room) 0 last idle ∧ Below B w1 w') (by go_simp; first | done | rfl) ?_ ?_
  · refine (cn_put (HCD.out.fr_nil HG1.out) (Nat.le_trans HDS.out HG1.out.size) HRM.out.1 HBR.out hn (At.fr_nil HBD.out HG1.out) hbc (by omega) bn (by have := HFIT.out; omega) { x with bs := x.bs ++ bs } (by rw [List.take_of_length_le (by omega)])).mono ?_
    rintro e w' ⟨he, h1, h2⟩
    exact ⟨_, he, rfl, h1, h2⟩
  rintro v w3 ⟨rfl, hcn3, hb3⟩
  have HC3 := Lib.hid hcn3; have HB3 : Hid (Below B w w3) := Lib.hid ((HWB.out.trans (HG1.out.below_nil.mono HDS.out)).trans hb3)
  clear hcn3 hb3
  refine hK7.out _ _ (.inl rfl) ?_
  clear hK7 K7
  simp only [Act.put, List.setIfInBounds_toArray, List.set_cons_zero, List.set_cons_succ]
  refine wpAnyF_all (rs := [12]) (by kernel_rfl) (by simp) (fun w4 hG => ?_)
  have HC4 := Lib.hid (HC3.out.fr_nil hG); have HB4 := Lib.hid (HB3.out.trans (hG.below_nil.mono (Nat.le_trans HSZ.out HB3.out.size)))
  clear hG
  refine allF.head rfl rfl (fun Kb hKb => ?_) allF.nil
  go_simp
  refine hKb.out _ _ (.inl rfl) ?_
  clear hKb Kb
  refine wpAnyF_done (by kernel_rfl) (fun w5 hG => ?_)
  have HS4 : B ≤ w4.heap.size := Nat.le_trans HSZ.out HB4.out.size
  have HC5 := Lib.hid (HC4.out.fr_nil hG); have HB5 := Lib.hid (HB4.out.trans (hG.below_nil.mono HS4)); have HS5 := Lib.hid (Nat.le_trans HS4 hG.size)
  clear hG HC4 HB4 HC3 HB3 HS4 HCD HBD HWB HDS HG1
  obtain ⟨-, c1', c2', c3', -⟩ := cn_cells HC5.out.1
  obtain rfl : bn = 0 := HZ.out
  go_wp2_with fail
  go_ret
  exact ⟨rfl, HC5.out, HB5.out⟩
set_option maxRecDepth 100000 in
set_option maxHeartbeats 2000000 in
theorem take_end {w : World} {B g q r : Nat} {x : Cu} {lo hi room : Int} {last idle : Int} (h : Cn w B g q r x (Q0 lo hi room) 0 last idle) (hB : B ≤ w.heap.size) (hr : 0 ≤ x.room ∧ x.room ≤ 65536) (hb : (x.bs.length : Int) ≤ x.room) (now : Int) (ht : 0 ≤ now ∧ now ≤ 1099511627776) {bA : Option Addr} {bs : List UInt8} {bn bc : Nat} (hn : bs.length = bn) (hby : Bytes w bA bs) (hbc : bn ≤ bc) (hbl : bn ≤ 1000) (hfit : (bn : Int) ≤ freeM x) (hz : bn = 0) :
    Calls Tryz.prog 7 #[.pointer (some ⟨g, 0, none⟩), .int .i64 now, .slice bA bn bc, .bool true] w fun e w' => e = .returned (.int .i64 (bn : Int)) ∧ Cn w' B g q r { x with bs := x.bs ++ bs, en := true } (Q0 lo hi room) 1 now idle ∧ Below B w w' := by
  obtain ⟨i0, hi0, hz0, hz1, hz2⟩ := u8parts
  obtain ⟨c0, c1, c2, c3, -⟩ := cn_cells h.1
  have H := Lib.hid h; have HBY := Lib.hid hby; have HFIT := Lib.hid hfit; have HSZ := Lib.hid hB; have HBR := Lib.hid hb
  have HRM : Hid ((0 ≤ x.room ∧ x.room ≤ 65536) ∧ x.bs.length ≤ 65536) := Lib.hid ⟨hr, by omega⟩
  clear h hby hfit hB hr hb
  have HZ := Lib.hid hz; clear hz
  go_enter Tryz.func7, Tryz.ntmps7
  go_wp2_with fail
  go_at_call 20
  refine (inTime_ok ht w).mono ?_
  rintro e w2 ⟨rfl, rfl⟩
  go_upto_region 3 with fail
  clear c0 c1 c2 c3
  refine wp_region_F_ (G := fun a b => Fr [] a b) (F := fun i => i == 11 || i == 12) (S := fun W => Fr [] w.drew W) ⟨fun _ => Fr.refl _ _, fun a b c h k => h.trans k, fun a b h k => h.trans k, by kernel_rfl, fun _ _ d _ _ h => by cases d <;> exact h⟩ (by kernel_rfl) fun su => ?_
  have SU := Lib.hid su
  have HS : Hid (Fr [] w.drew w.drew) := Lib.hid (Fr.refl _ _)
  clear su
  have HCD := Lib.hid (H.out.fr_nil (Fr.refl [] w).drew)
  have HBD : Hid (Bytes w.drew bA bs) := Lib.hid (At.fr_nil HBY.out (Fr.refl [] w).drew)
  have HWB : Hid (Below B w w.drew) := Lib.hid ((Fr.refl [] w).drew.below_nil.mono HSZ.out)
  have HDS : Hid (B ≤ w.drew.heap.size) := Lib.hid HSZ.out
  clear H HBY
  generalize w.drew = wd at *
  refine T_move (i := 0) _ SU.out rfl rfl (by kernel_rfl) HS.out rfl ?_
  simp only [Act.put, Act.eval, Array.getD_eq_getD_getElem?, List.setIfInBounds_toArray, List.set_cons_zero, List.set_cons_succ, List.getElem?_toArray, List.getElem?_cons_zero, List.getElem?_cons_succ, Option.getD_some]
  refine T_val (i := 1) (v := ?_) SU.out rfl (by kernel_rfl) HS.out rfl (fun W hS => ?_) ?_
  rotate_left
  · obtain s1 := hS
    go_simp
    all_goals first | done | rfl | omega | (simp; done) | (simp; omega)
  simp only [Act.put, List.setIfInBounds_toArray, List.set_cons_zero, List.set_cons_succ]
  refine T_val (i := 2) (v := ?_) SU.out rfl (by kernel_rfl) HS.out rfl (fun W hS => ?_) ?_
  rotate_left
  · obtain s1 := hS
    go_simp
    all_goals first | done | rfl | omega | (simp; done) | (simp; omega)
  simp only [Act.put, List.setIfInBounds_toArray, List.set_cons_zero, List.set_cons_succ]
  refine T_val (i := 3) (v := .pointer (some ⟨r, 0, none⟩)) SU.out rfl (by kernel_rfl) HS.out rfl (fun W hS => ?_) ?_
  · obtain ⟨-, s1, -, -, -⟩ := cn_cells (HCD.out.fr_nil hS).1
    go_simp
    all_goals first | done | rfl
  simp only [Act.put, List.setIfInBounds_toArray, List.set_cons_zero, List.set_cons_succ]
  refine T_move (i := 4) _ SU.out rfl rfl (by kernel_rfl) HS.out rfl ?_
  simp only [Act.put, Act.eval, Array.getD_eq_getD_getElem?, List.setIfInBounds_toArray, List.set_cons_zero, List.set_cons_succ, List.getElem?_toArray, List.getElem?_cons_zero, List.getElem?_cons_succ, Option.getD_some]
  refine T_move (i := 5) _ SU.out rfl rfl (by kernel_rfl) HS.out rfl ?_
  simp only [Act.put, Act.eval, Array.getD_eq_getD_getElem?, List.setIfInBounds_toArray, List.set_cons_zero, List.set_cons_succ, List.getElem?_toArray, List.getElem?_cons_zero, List.getElem?_cons_succ, Option.getD_some]
  refine T_val (i := 6) (v := ?_) SU.out rfl (by kernel_rfl) HS.out rfl (fun W hS => ?_) ?_
  rotate_left
  · obtain s1 := hS
    go_simp
    all_goals first | done | rfl | omega | (simp; done) | (simp; omega)
  simp only [Act.put, List.setIfInBounds_toArray, List.set_cons_zero, List.set_cons_succ]
  refine T_move (i := 7) _ SU.out rfl rfl (by kernel_rfl) HS.out rfl ?_
  simp only [Act.put, Act.eval, Array.getD_eq_getD_getElem?, List.setIfInBounds_toArray, List.set_cons_zero, List.set_cons_succ, List.getElem?_toArray, List.getElem?_cons_zero, List.getElem?_cons_succ, Option.getD_some]
  refine T_call (i := 8) (v := .int .i64 (freeM x)) SU.out rfl (by kernel_rfl) HS.out rfl (fun W hS => want_any (HCD.out.fr_nil hS) HRM.out.1 HRM.out.2) (fun W => ?_) ?_
  · go_simp
    first | done | rfl
  simp only [Act.put, List.setIfInBounds_toArray, List.set_cons_zero, List.set_cons_succ]
  refine T_val (i := 9) (v := .int .i64 (bn : Int)) SU.out rfl (by kernel_rfl) HS.out rfl (fun W hS => ?_) ?_
  · have hr : (Builtin.min_ #[3, 3] 3 #[.int .i64 (bn : Int), .int .i64 (freeM x)]).run Tryz.prog W = .ok (.int .i64 (bn : Int)) W := by
      have e : (if freeM x < (bn : Int) then freeM x else (bn : Int)) = (bn : Int) := by have := HFIT.out; rw [if_neg (by omega)]
      simp [Builtin.min_, Builtin.min2, e]
    unfold execOp
    simp only [resolve, invoke, builtin, Sem.run_bind, Sem.run_pure, Result.andThen_ok, List.map_toArray, List.map_cons, List.map_nil, Act.eval, Array.getD_eq_getD_getElem?, List.getElem?_toArray, List.getElem?_cons_zero, List.getElem?_cons_succ, Option.getD_some, hr]
  simp only [Act.put, List.setIfInBounds_toArray, List.set_cons_zero, List.set_cons_succ]
  refine T_cut (i := 10) 31 (.tmp 24) (.tmp 29) SU.out rfl rfl 5 i0 Tryz.underlying31 hi0 hz1 bA bn bc bn (by first | rfl | (simp [Act.eval]; done)) (by first | rfl | (simp [Act.eval]; done)) (Nat.le_refl _) hbc (by kernel_rfl) HS.out rfl ?_
  simp only [Act.put, List.setIfInBounds_toArray, List.set_cons_zero, List.set_cons_succ]
  refine wpAnyF_all (rs := [11]) (by kernel_rfl) (by simp) (fun w1 hG => ?_)
  have HG1 := Lib.hid hG; clear hG
  refine allF.head rfl rfl (fun K7 hK7 => ?_) allF.nil
  refine wp_call_ (f := 22) (args := #[.pointer (some ⟨r, 0, none⟩), .slice bA bn bc]) (R := fun v w' => v = .int .i64 (bn : Int) ∧ Cn w' B g q r { x with bs := x.bs ++ bs } (Q0 lo hi room) 0 last idle ∧ Below B w1 w') (by go_simp; first | done | rfl) ?_ ?_
  · refine (cn_put (HCD.out.fr_nil HG1.out) (Nat.le_trans HDS.out HG1.out.size) HRM.out.1 HBR.out hn (At.fr_nil HBD.out HG1.out) hbc (by omega) bn (by have := HFIT.out; omega) { x with bs := x.bs ++ bs } (by rw [List.take_of_length_le (by omega)])).mono ?_
    rintro e w' ⟨he, h1, h2⟩
    exact ⟨_, he, rfl, h1, h2⟩
  rintro v w3 ⟨rfl, hcn3, hb3⟩
  have HC3 := Lib.hid hcn3; have HB3 : Hid (Below B w w3) := Lib.hid ((HWB.out.trans (HG1.out.below_nil.mono HDS.out)).trans hb3)
  clear hcn3 hb3
  refine hK7.out _ _ (.inl rfl) ?_
  clear hK7 K7
  simp only [Act.put, List.setIfInBounds_toArray, List.set_cons_zero, List.set_cons_succ]
  refine wpAnyF_all (rs := [12]) (by kernel_rfl) (by simp) (fun w4 hG => ?_)
  have HC4 := Lib.hid (HC3.out.fr_nil hG); have HB4 := Lib.hid (HB3.out.trans (hG.below_nil.mono (Nat.le_trans HSZ.out HB3.out.size)))
  clear hG
  refine allF.head rfl rfl (fun Kb hKb => ?_) allF.nil
  go_simp
  refine hKb.out _ _ (.inl rfl) ?_
  clear hKb Kb
  refine wpAnyF_done (by kernel_rfl) (fun w5 hG => ?_)
  have HS4 : B ≤ w4.heap.size := Nat.le_trans HSZ.out HB4.out.size
  have HC5 := Lib.hid (HC4.out.fr_nil hG); have HB5 := Lib.hid (HB4.out.trans (hG.below_nil.mono HS4)); have HS5 := Lib.hid (Nat.le_trans HS4 hG.size)
  clear hG HC4 HB4 HC3 HB3 HS4 HCD HBD HWB HDS HG1
  obtain ⟨-, c1', c2', c3', -⟩ := cn_cells HC5.out.1
  obtain rfl : bn = 0 := HZ.out
  go_wp2_with fail
  go_at_call 24
  refine (cn_end HC5.out HS5.out { x with bs := x.bs ++ bs, en := true } rfl).mono ?_
  rintro e w6 ⟨rfl, hc6, hb6⟩
  have HC6 := Lib.hid hc6; have HB6 := Lib.hid (HB5.out.trans hb6); have HS6 := Lib.hid (Nat.le_trans HS5.out hb6.size)
  clear hc6 hb6 HC5 HB5 HS5 c1' c2' c3'
  obtain ⟨-, -, c2', c3', -⟩ := cn_cells HC6.out.1
  have f2 := HC6.out.1.frozen 2
  have hf6 : Fr [g] w6 (w6.setCell ⟨g, 2, none⟩ (.int .i64 1)) := (Fr.refl _ _).setCell (.inl (by simp)) _
  have h6 := HC6.out.put HS6.out hf6 (HC6.out.1.put 2 (.int .i64 1))
  have HC7 := Lib.hid h6.1; have HB7 := Lib.hid (HB6.out.trans h6.2)
  have c37 : (w6.setCell ⟨g, 2, none⟩ (.int .i64 1)).cell? ⟨g, 3, none⟩ = some (.int .i64 last) := h6.1.1.cell_ (i := 3) rfl
  have c27 : (w6.setCell ⟨g, 2, none⟩ (.int .i64 1)).cell? ⟨g, 2, none⟩ = some (.int .i64 1) := h6.1.1.cell_ (i := 2) rfl
  have f3 : (w6.setCell ⟨g, 2, none⟩ (.int .i64 1)).frozen? ⟨g, 3, none⟩ = false := h6.1.1.frozen 3
  clear h6 hf6
  go_wp2_with fail
  go_ret
  have hf : Fr [g] (w6.setCell ⟨g, 2, none⟩ (.int .i64 1)) ((w6.setCell ⟨g, 2, none⟩ (.int .i64 1)).setCell ⟨g, 3, none⟩ (.int .i64 now)) := (Fr.refl _ _).setCell (.inl (by simp)) _
  have := HC7.out.put (Nat.le_trans HS6.out (by simp)) hf (HC7.out.1.put 3 _)
  exact ⟨rfl, this.1, HB7.out.trans this.2⟩
set_option maxRecDepth 100000 in
theorem idle_low {w : World} {B g q r : Nat} {x : Cu} {Q : Array Value} {st last idle : Int} (h : Cn w B g q r x Q st last idle) (hs : st < 3) (hl : 0 ≤ last ∧ last ≤ 1099511627776) (n : Int) (ht : 0 ≤ n ∧ n ≤ 1099511627776) (hi0 : idle ≠ 0) :
    Calls Tryz.prog 8 #[.pointer (some ⟨g, 0, none⟩), .int .i64 n] w fun e w' => e = .returned (.bool (decide (idle ≤ n - last))) ∧ Fr [] w w' := by
  obtain ⟨-, -, c2, c3, c4⟩ := cn_cells h.1
  clear h
  have t0 : (idle == 0) = false := beq_eq_false_iff_ne.2 hi0
  have t1 : decide ((3 : Int) ≤ st) = false := decide_eq_false (by omega)
  have hw : IntKind.i64.wrap (n - last) = n - last := by rw [IntKind.wrap_i64]; omega
  go_enter Tryz.func8, Tryz.ntmps8
  go_wp2_with fail
  go_at_call 20
  refine (inTime_ok ht w).mono ?_
  rintro e w2 ⟨rfl, rfl⟩
  go_upto_region 3 with fail
  have c3' : w.drew.cell? ⟨g, 3, none⟩ = some (.int .i64 last) := c3
  have c4' : w.drew.cell? ⟨g, 4, none⟩ = some (.int .i64 idle) := c4
  have HFD : Hid (Fr [] w w.drew) := Lib.hid (Fr.refl [] w).drew
  clear c2 c3 c4
  refine wp_region_M_ (G := fun a b => a = b) (S := fun W => W = w.drew) ⟨fun _ => rfl, fun a b c h k => h.trans k, fun a b h k => k ▸ h, by kernel_rfl, fun _ _ d _ _ h => by cases d <;> exact h⟩ (by kernel_rfl) fun su => ?_
  have SU := Lib.hid su
  have HS : Hid (w.drew = w.drew) := Lib.hid rfl
  clear su
  generalize w.drew = wd at *
  refine M_move (i := 0) _ SU.out rfl rfl (by kernel_rfl) HS.out rfl ?_
  simp only [Act.put, Act.eval, Array.getD_eq_getD_getElem?, List.setIfInBounds_toArray, List.set_cons_zero, List.set_cons_succ, List.getElem?_toArray, List.getElem?_cons_zero, List.getElem?_cons_succ, Option.getD_some]
  refine M_move (i := 1) _ SU.out rfl rfl (by kernel_rfl) HS.out rfl ?_
  simp only [Act.put, Act.eval, Array.getD_eq_getD_getElem?, List.setIfInBounds_toArray, List.set_cons_zero, List.set_cons_succ, List.getElem?_toArray, List.getElem?_cons_zero, List.getElem?_cons_succ, Option.getD_some]
  refine M_val (i := 2) (v := ?_) SU.out rfl (by kernel_rfl) HS.out rfl (fun W hS => ?_) ?_
  rotate_left
  · obtain rfl := hS
    go_simp
    all_goals first | done | rfl | omega | (simp; done) | (simp; omega)
  simp only [Act.put, List.setIfInBounds_toArray, List.set_cons_zero, List.set_cons_succ]
  refine M_val (i := 3) (v := ?_) SU.out rfl (by kernel_rfl) HS.out rfl (fun W hS => ?_) ?_
  rotate_left
  · obtain rfl := hS
    go_simp
    all_goals first | done | rfl | omega | (simp; done) | (simp; omega)
  simp only [Act.put, List.setIfInBounds_toArray, List.set_cons_zero, List.set_cons_succ]
  refine M_val (i := 4) (v := .int .i64 last) SU.out rfl (by kernel_rfl) HS.out rfl (fun W hS => ?_) ?_
  · obtain rfl := hS
    go_simp
    all_goals first | done | rfl | omega | (simp; done) | (simp; omega)
  simp only [Act.put, List.setIfInBounds_toArray, List.set_cons_zero, List.set_cons_succ]
  refine M_val (i := 5) (v := .int .i64 (n - last)) SU.out rfl (by kernel_rfl) HS.out rfl (fun W hS => ?_) ?_
  · obtain rfl := hS
    go_simp
    all_goals first | done | rfl | omega | (simp; done) | (simp; omega)
  simp only [Act.put, List.setIfInBounds_toArray, List.set_cons_zero, List.set_cons_succ]
  refine M_move (i := 6) _ SU.out rfl rfl (by kernel_rfl) HS.out rfl ?_
  simp only [Act.put, Act.eval, Array.getD_eq_getD_getElem?, List.setIfInBounds_toArray, List.set_cons_zero, List.set_cons_succ, List.getElem?_toArray, List.getElem?_cons_zero, List.getElem?_cons_succ, Option.getD_some]
  refine M_val (i := 7) (v := ?_) SU.out rfl (by kernel_rfl) HS.out rfl (fun W hS => ?_) ?_
  rotate_left
  · obtain rfl := hS
    go_simp
    all_goals first | done | rfl | omega | (simp; done) | (simp; omega)
  simp only [Act.put, List.setIfInBounds_toArray, List.set_cons_zero, List.set_cons_succ]
  refine M_val (i := 8) (v := ?_) SU.out rfl (by kernel_rfl) HS.out rfl (fun W hS => ?_) ?_
  rotate_left
  · obtain rfl := hS
    go_simp
    all_goals first | done | rfl | omega | (simp; done) | (simp; omega)
  simp only [Act.put, List.setIfInBounds_toArray, List.set_cons_zero, List.set_cons_succ]
  refine M_val (i := 9) (v := .int .i64 idle) SU.out rfl (by kernel_rfl) HS.out rfl (fun W hS => ?_) ?_
  · obtain rfl := hS
    go_simp
    all_goals first | done | rfl | omega | (simp; done) | (simp; omega)
  simp only [Act.put, List.setIfInBounds_toArray, List.set_cons_zero, List.set_cons_succ]
  refine M_val (i := 10) (v := .bool (decide (idle ≤ n - last))) SU.out rfl (by kernel_rfl) HS.out rfl (fun W hS => ?_) ?_
  · obtain rfl := hS
    go_simp
    all_goals first | done | rfl | omega | (simp; done) | (simp; omega)
  simp only [Act.put, List.setIfInBounds_toArray, List.set_cons_zero, List.set_cons_succ]
  refine M_val (i := 11) (v := ?_) SU.out rfl (by kernel_rfl) HS.out rfl (fun W hS => ?_) ?_
  rotate_left
  · obtain rfl := hS
    go_simp
    all_goals first | done | rfl | omega | (simp; done) | (simp; omega)
  simp only [Act.put, List.setIfInBounds_toArray, List.set_cons_zero, List.set_cons_succ]
  refine wpAnyM_done (by kernel_rfl) (fun w' hG => ?_)
  obtain rfl := hG
  go_wp2_with fail
  go_ret
  exact ⟨rfl, HFD.out⟩
set_option maxRecDepth 100000 in
theorem idle_off {w : World} {B g q r : Nat} {x : Cu} {Q : Array Value} {st last : Int} (h : Cn w B g q r x Q st last 0) (n : Int) :
    Calls Tryz.prog 8 #[.pointer (some ⟨g, 0, none⟩), .int .i64 n] w fun e w' => e = .returned (.bool false) ∧ w = w' := by
  obtain ⟨-, -, c2, c3, c4⟩ := cn_cells h.1
  clear h
  go_enter Tryz.func8, Tryz.ntmps8
  go_wp2_with fail
  go_ret
  exact ⟨rfl, rfl⟩
set_option maxRecDepth 100000 in
theorem idle_shut {w : World} {B g q r : Nat} {x : Cu} {Q : Array Value} {last idle : Int} (h : Cn w B g q r x Q 3 last idle) (n : Int) :
    Calls Tryz.prog 8 #[.pointer (some ⟨g, 0, none⟩), .int .i64 n] w fun e w' => e = .returned (.bool false) ∧ w = w' := by
  obtain ⟨-, -, c2, c3, c4⟩ := cn_cells h.1
  clear h
  obtain ⟨u, hu⟩ : ∃ u, (idle == 0) = u := ⟨_, rfl⟩
  cases u
  all_goals
    go_enter Tryz.func8, Tryz.ntmps8
    go_wp2_with fail
    go_ret
    exact ⟨rfl, rfl⟩
end Go.Proofs.YtecdghjimcfhpaaGreatDoor
