/-
 KRc2, KRc3, KRcW: several small texts in one. No conditions.
-/
import Derived.Test.YtfbmogccmlikaaaGreatDoorHKa
import Derived.Test.YtfbmogccmlikaaaGreatDoorGl
import Derived.Deep.Cut
import Derived.Deep.CutBlock
namespace Go.Proofs.YtfbmogccmlikaaaGreatDoor.K
open Go.RowKit
set_option linter.unusedVariables false
set_option linter.unusedSimpArgs false
section
variable {P : Program} {Q : Exit → Act → World → Prop} {md : Region.Mode} {G : World → World → Prop} {S : World → Prop} {F : Nat → Bool} {l r : List Oper} {o : Oper} {i n : Nat} {listed : Array Bool} {a : Act} {w : World}
theorem F_cut (t : TypeId) (x oh : Operand) (su : Setup P l Q G S) (ho : l.drop i = o :: r) (hop : o.op = .slice t x none (some oh) none) (e : TypeId) (ti : TypeInfo) (ht : P.underlying t = some (.slice e)) (hi : P.info? e = some ti) (hs : ti.size = 1)
    (A : Option Addr) (len c h : Nat) (hxv : a.eval x = .slice A len c) (hh : a.eval oh = .int .i64 (h : Int)) (h1 : h ≤ len) (h2 : len ≤ c)
    (hB : ((Region.ready md l.toArray listed).contains i && Region.free md l.toArray listed i && waits md l.toArray F i) = true) (hS : S w) (hw : Region.wanted o (yielded l.toArray a.tmps) = true)
    (hr : wpAnyF P md l.toArray Q G S F n (listed.setIfInBounds i true) (a.put o.dst (.slice A h c)) w) : wpAnyF P md l.toArray Q G S F (n + 1) listed a w := by
 refine F_val su ho hB hS hw (fun w' _ => ?_) hr
 have hrun : (Instr.sliceAt t (a.eval x) none (some (a.eval oh)) none).run P w' = .ok (.slice A h c) w' := by
  rw [hxv, hh]
  have hb := run_bounds_ (P := P) len c none (some (.int .i64 (h : Int))) none 0 h c w' (.inl ⟨rfl, rfl⟩) (.inr rfl) (.inl ⟨rfl, rfl⟩) (Nat.zero_le _) (Nat.le_trans h1 h2) (Nat.le_refl _)
  have hA : A.map (·.add 0) = A := by cases A <;> simp [Addr.add]
  simp [Instr.sliceAt, Instr.slice, run_underlying ht, sizeOf, typeInfo, hi, hs, hb, hA]
 unfold execOp
 simp only [hop, Option.map_none, Option.map_some, hrun, Sem.run_bind, Result.andThen_ok, Sem.run_pure]
end
theorem u8parts : ∃ i, Tryz.prog.info? 5 = some i ∧ i.zero = some (.int .u8 0) ∧ i.size = 1 ∧ i.bytes = 1 := info_parts (by kernel_rfl)
def CuTo (w : World) (q : Nat) (v : Value) (w' : World) (y : Cu) : Prop := ∃ v', CuR w' q y v' ∧ Fr (q :: v.ownBlock.toList) w w' ∧ ∀ k, v'.ownBlock = some k → v.ownBlock = some k ∨ w.heap.size ≤ k
def CuB (w : World) (B q : Nat) (x : Cu) : Prop := ∃ v, CuR w q x v ∧ B ≤ q ∧ ∀ k, v.ownBlock = some k → B ≤ k
theorem CuB.to {w w' : World} {B q : Nat} {y : Cu} {v : Value} (hq : B ≤ q) (hv : ∀ k, v.ownBlock = some k → B ≤ k) (hB : B ≤ w.heap.size) (h : CuTo w q v w' y) : CuB w' B q y ∧ Below B w w' := by
 obtain ⟨v', h1, h2, h3⟩ := h
 refine ⟨⟨v', h1, hq, fun k hk => (h3 k hk).elim (hv k) (fun h => by omega)⟩, h2.below_at hB (fun i hi => ?_)⟩
 rcases List.mem_cons.1 hi with rfl | hi
 ·exact hq
 ·exact hv i (by simpa using hi)
theorem CuB.fr_nil {w w' : World} {B q : Nat} {x : Cu} (h : CuB w B q x) (hf : Fr [] w w') : CuB w' B q x := by
 obtain ⟨v, h1, h2, h3⟩ := h
 exact ⟨v, ⟨h1.1.fr hf (by simp), Own.fr h1.2 hf (by simp)⟩, h2, h3⟩
set_option maxRecDepth 100000 in
theorem rnew_one {w : World} (c : UInt8) (h2 : c ≠ 92) (k : Int) (hk : 1 ≤ k ∧ k ≤ 65536) : Calls Tryz.prog 24 #[.string ⟨#[c]⟩, .int .i64 k] w fun e w' =>
    ∃ q, e = .returned (.tuple #[.pointer (some ⟨q, 0, none⟩), .nilIface]) ∧ CuR w' q ⟨c, k, [], false⟩ (.slice none 0 0) ∧ w.heap.size ≤ q ∧ Fr [] w w' := by
 have t0 : decide (k < 1) = false := decide_eq_false (by omega)
 have t1 : decide (65536 < k) = false := decide_eq_false (by omega)
 have HRD := Lib.hid (fun w => read_one (w := w) c h2)
 clear h2
 go_enter Tryz.func24, Tryz.ntmps24
 go_wp2_with fail
 go_at_call 31
 refine (HRD.out _).mono ?_
 rintro e w2 ⟨rfl, hf⟩
 have HF := Lib.hid hf; clear hf HRD
 go_wp2_with fail
 go_ret2
 refine ⟨_, rfl, ⟨by have := Bk.new (w2.alloc (.cells #[.int .i64 0, .int .u8 (c.toNat : Int), .pointer none] 62)) 72 (cuCells ⟨c, k, [], false⟩ (.slice none 0 0)); rw [World.size_alloc] at this; exact this, Own.nil_ _ _⟩, ?_, (HF.out.alloc _).alloc _⟩
 have := HF.out.size
 simp; omega
theorem held_any {w : World} {q : Nat} {x : Cu} {v : Value} (h : CuR w q x v) : Calls Tryz.prog 38 #[.pointer (some ⟨q, 0, none⟩)] w fun e w' => e = .returned (.int .i64 x.bs.length) ∧ w = w' := by
 obtain ⟨A, cap, rfl, -⟩ := OwnB.val h.2
 obtain ⟨-, -, -, -, d4, -⟩ := cu_cells h.1
 clear h
 go_enter Tryz.func38, Tryz.ntmps38
 go_wp2_with fail
 go_ret
 exact ⟨rfl, rfl⟩
theorem ended_any {w : World} {q : Nat} {x : Cu} {v : Value} (h : CuR w q x v) : Calls Tryz.prog 33 #[.pointer (some ⟨q, 0, none⟩)] w fun e w' => e = .returned (.bool (x.en && x.bs.isEmpty)) ∧ w = w' := by
 obtain ⟨A, cap, rfl, -⟩ := OwnB.val h.2
 obtain ⟨-, -, -, -, d4, d5⟩ := cu_cells h.1
 clear h
 cases he : x.en with
 | false =>
  rw [he] at d5
  go_enter Tryz.func33, Tryz.ntmps33
  go_wp2_with fail
  go_ret
  exact ⟨rfl, rfl⟩
 | true =>
  rw [he] at d5
  by_cases hb : x.bs = []
  ·rw [hb] at d4 ⊢
   rw [List.length_nil] at d4
   go_enter Tryz.func33, Tryz.ntmps33
   go_wp2_with fail
   go_ret
   exact ⟨rfl, rfl⟩
  ·have hl : ((x.bs.length : Int) == 0) = false := beq_eq_false_iff_ne.2 (fun e => hb (List.eq_nil_of_length_eq_zero (by omega)))
   have hr : (true && x.bs.isEmpty) = false := by simp [hb]
   rw [hr]
   clear hb hr
   go_enter Tryz.func33, Tryz.ntmps33
   go_wp2_with fail
   go_ret
   exact ⟨rfl, rfl⟩
theorem end_any {w : World} {q : Nat} {x : Cu} {v : Value} (h : CuR w q x v) : Calls Tryz.prog 27 #[.pointer (some ⟨q, 0, none⟩)] w fun e w' => e = .returned (.tuple #[]) ∧ CuTo w q v w' { x with en := true } := by
 obtain ⟨-, -, -, -, -, d5⟩ := cu_cells h.1
 have f5 := h.1.frozen 5
 have H := Lib.hid h; clear h
 go_enter Tryz.func27, Tryz.ntmps27
 go_wp2_with fail
 go_end0
 have hf : Fr [q] w (w.setCell ⟨q, 5, none⟩ (.bool true)) := (Fr.refl _ _).setCell (.inl (by simp)) _
 exact ⟨rfl, v, H.out.fr_put (y := { x with en := true }) hf (H.out.1.put 5 _) H.out.2, hf.mono (fun i hi => .inl (by simp at hi; simp [hi])), fun k hk => .inl hk⟩
def freeM (x : Cu) : Int := if x.en = true then 0 else x.room - x.bs.length
set_option maxRecDepth 100000 in
theorem free_any {w : World} {q : Nat} {x : Cu} {v : Value} (h : CuR w q x v) (hr : 0 ≤ x.room ∧ x.room ≤ 65536) (hb : x.bs.length ≤ 65536) : Calls Tryz.prog 41 #[.pointer (some ⟨q, 0, none⟩)] w fun e w' => e = .returned (.int .i64 (freeM x)) ∧ Fr [] w w' := by
 obtain ⟨A, cap, rfl, -⟩ := OwnB.val h.2
 obtain ⟨-, -, -, d3, d4, d5⟩ := cu_cells h.1
 unfold freeM
 cases he : x.en with
 | true =>
  rw [he] at d5
  clear h
  go_enter Tryz.func41, Tryz.ntmps41
  go_wp2_with fail
  go_ret
  exact ⟨rfl, Fr.refl _ _⟩
 | false =>
  rw [he] at d5
  clear h
  have hw : IntKind.i64.wrap (x.room - (x.bs.length : Int)) = x.room - (x.bs.length : Int) := by rw [IntKind.wrap_i64]; omega
  go_enter Tryz.func41, Tryz.ntmps41
  go_upto_region 3 with fail
  have d3' : w.drew.cell? ⟨q, 3, none⟩ = some (.int .i64 x.room) := d3
  have d4' : w.drew.cell? ⟨q, 4, none⟩ = some (.slice A x.bs.length cap) := d4
  have HFD : Hid (Fr [] w w.drew) := Lib.hid (Fr.refl [] w).drew
  clear d3 d4 d5
  refine wp_region_M_ (G := fun a b => a = b) (S := fun W => W = w.drew) ⟨fun _ => rfl, fun a b c h k => h.trans k, fun a b h k => k ▸ h, by kernel_rfl, fun _ _ d _ _ h => by cases d <;> exact h⟩ (by kernel_rfl) fun su => ?_
  have SU := Lib.hid su
  have HS : Hid (w.drew = w.drew) := Lib.hid rfl
  clear su
  generalize w.drew = wd at *
  refine M_move (i := 0) _ SU.out rfl rfl (by kernel_rfl) HS.out rfl ?_
  simp only [Act.put, Act.eval, Array.getD_eq_getD_getElem?, List.setIfInBounds_toArray, List.set_cons_zero, List.set_cons_succ, List.getElem?_toArray, List.getElem?_cons_zero, List.getElem?_cons_succ, Option.getD_some]
  refine M_val (i := 1) (v := ?_) SU.out rfl (by kernel_rfl) HS.out rfl (fun W hS => ?_) ?_
  rotate_left
  ·obtain rfl := hS
   go_simp
   all_goals first | done | rfl | omega | (simp; done) | (simp; omega)
  simp only [Act.put, List.setIfInBounds_toArray, List.set_cons_zero, List.set_cons_succ]
  refine M_val (i := 2) (v := ?_) SU.out rfl (by kernel_rfl) HS.out rfl (fun W hS => ?_) ?_
  rotate_left
  ·obtain rfl := hS
   go_simp
   all_goals first | done | rfl | omega | (simp; done) | (simp; omega)
  simp only [Act.put, List.setIfInBounds_toArray, List.set_cons_zero, List.set_cons_succ]
  refine M_val (i := 3) (v := .int .i64 x.room) SU.out rfl (by kernel_rfl) HS.out rfl (fun W hS => ?_) ?_
  ·obtain rfl := hS
   go_simp
   all_goals first | done | rfl | omega | (simp; done) | (simp; omega)
  simp only [Act.put, List.setIfInBounds_toArray, List.set_cons_zero, List.set_cons_succ]
  refine M_move (i := 4) _ SU.out rfl rfl (by kernel_rfl) HS.out rfl ?_
  simp only [Act.put, Act.eval, Array.getD_eq_getD_getElem?, List.setIfInBounds_toArray, List.set_cons_zero, List.set_cons_succ, List.getElem?_toArray, List.getElem?_cons_zero, List.getElem?_cons_succ, Option.getD_some]
  refine M_val (i := 5) (v := ?_) SU.out rfl (by kernel_rfl) HS.out rfl (fun W hS => ?_) ?_
  rotate_left
  ·obtain rfl := hS
   go_simp
   all_goals first | done | rfl | omega | (simp; done) | (simp; omega)
  simp only [Act.put, List.setIfInBounds_toArray, List.set_cons_zero, List.set_cons_succ]
  refine M_val (i := 6) (v := ?_) SU.out rfl (by kernel_rfl) HS.out rfl (fun W hS => ?_) ?_
  rotate_left
  ·obtain rfl := hS
   go_simp
   all_goals first | done | rfl | omega | (simp; done) | (simp; omega)
  simp only [Act.put, List.setIfInBounds_toArray, List.set_cons_zero, List.set_cons_succ]
  refine M_val (i := 7) (v := .slice A x.bs.length cap) SU.out rfl (by kernel_rfl) HS.out rfl (fun W hS => ?_) ?_
  ·obtain rfl := hS
   go_simp
   all_goals first | done | rfl | omega | (simp; done) | (simp; omega)
  simp only [Act.put, List.setIfInBounds_toArray, List.set_cons_zero, List.set_cons_succ]
  refine M_val (i := 8) (v := ?_) SU.out rfl (by kernel_rfl) HS.out rfl (fun W hS => ?_) ?_
  rotate_left
  ·obtain rfl := hS
   go_simp
   all_goals first | done | rfl | omega | (simp; done) | (simp; omega)
  simp only [Act.put, List.setIfInBounds_toArray, List.set_cons_zero, List.set_cons_succ]
  refine M_val (i := 9) (v := .int .i64 (x.room - (x.bs.length : Int))) SU.out rfl (by kernel_rfl) HS.out rfl (fun W hS => ?_) ?_
  ·obtain rfl := hS
   go_simp
   all_goals first | done | rfl | omega | (simp; done) | (simp; omega)
  simp only [Act.put, List.setIfInBounds_toArray, List.set_cons_zero, List.set_cons_succ]
  refine M_val (i := 10) (v := ?_) SU.out rfl (by kernel_rfl) HS.out rfl (fun W hS => ?_) ?_
  rotate_left
  ·obtain rfl := hS
   go_simp
   all_goals first | done | rfl | omega | (simp; done) | (simp; omega)
  simp only [Act.put, List.setIfInBounds_toArray, List.set_cons_zero, List.set_cons_succ]
  refine wpAnyM_done (by kernel_rfl) (fun w' hG => ?_)
  obtain rfl := hG
  go_wp2_with fail
  go_ret
  exact ⟨rfl, HFD.out⟩
set_option maxRecDepth 100000 in
set_option maxHeartbeats 2000000 in
theorem cput_any {w : World} {q : Nat} {x : Cu} {v : Value} (h : CuR w q x v) (hr : 0 ≤ x.room ∧ x.room ≤ 65536) (hb : (x.bs.length : Int) ≤ x.room) {bA : Option Addr} {bs : List UInt8} {bn bc : Nat} (hn : bs.length = bn) (hby : Bytes w bA bs) (hbc : bn ≤ bc) (hbl : bn ≤ 100000000) (kk : Nat) (hkk : (kk : Int) = min (bn : Int) (freeM x)) :
    Calls Tryz.prog 25 #[.pointer (some ⟨q, 0, none⟩), .slice bA bn bc] w fun e w' => e = .returned (.int .i64 (kk : Int)) ∧ CuTo w q v w' { x with bs := x.bs ++ bs.take kk } := by
 obtain ⟨i0, hi0, hz0, hz1, hz2⟩ := u8parts
 obtain ⟨A, cap, rfl, -⟩ := OwnB.val h.2
 have HFREE := Lib.hid (fun w (h : CuR w q x (.slice A x.bs.length cap)) => free_any h hr (by omega))
 have hkb : kk ≤ bn := by omega
 have hxl : x.bs.length ≤ 65536 := by omega
 have H := Lib.hid h; have HBY := Lib.hid hby; have HKK := Lib.hid hkk
 clear h hby hkk hr hb
 go_enter Tryz.func25, Tryz.ntmps25
 go_wp2_with fail
 go_at_call 41
 refine (HFREE.out w H.out).mono ?_
 rintro e w2 ⟨rfl, hf2⟩
 have HF2 := Lib.hid hf2
 have hr2 : CuR w2.drew q x (.slice A x.bs.length cap) := ⟨(H.out.1.fr hf2 (by simp)).drew, Own.fr H.out.2 (hf2.drew) (by simp)⟩
 have hby2 : Bytes w2.drew bA bs := HBY.out.fr_nil hf2.drew
 have HR2 := Lib.hid hr2; have HBY2 := Lib.hid hby2
 clear hf2 hr2 hby2 HFREE
 go_upto_region 2 with (refine wpList_min rfl (.tmp 7) (.tmp 9) _ rfl .i64 _ _ _ (by rfl) (by rfl) HKK.out.symm ?_)
 have HFD : Hid (Fr [] w w2.drew) := Lib.hid HF2.out.drew
 clear HF2
 have c40 : w2.drew.cell? ⟨q, 4, none⟩ = some (.slice A x.bs.length cap) := HR2.out.1.cell_ (i := 4) rfl
 refine wp_region_F_ (G := fun a b => a = b) (F := fun i => i == 11) (S := fun W => W.cell? ⟨q, 4, none⟩ = some (.slice A x.bs.length cap)) ⟨fun _ => rfl, fun a b c h k => h.trans k, fun a b h k => k ▸ h, by kernel_rfl, fun _ _ d _ _ h => by cases d <;> exact h⟩ (by kernel_rfl) fun su => ?_
 have SU := Lib.hid su
 have HS : Hid (w2.drew.cell? ⟨q, 4, none⟩ = some (.slice A x.bs.length cap)) := Lib.hid c40
 clear su c40
 generalize w2.drew = wd at *
 have HWD := HR2
 refine F_move (i := 0) _ SU.out rfl rfl (by kernel_rfl) HS.out rfl ?_
 simp only [Act.put, Act.eval, Array.getD_eq_getD_getElem?, List.setIfInBounds_toArray, List.set_cons_zero, List.set_cons_succ, List.getElem?_toArray, List.getElem?_cons_zero, List.getElem?_cons_succ, Option.getD_some]
 refine F_move (i := 1) _ SU.out rfl rfl (by kernel_rfl) HS.out rfl ?_
 simp only [Act.put, Act.eval, Array.getD_eq_getD_getElem?, List.setIfInBounds_toArray, List.set_cons_zero, List.set_cons_succ, List.getElem?_toArray, List.getElem?_cons_zero, List.getElem?_cons_succ, Option.getD_some]
 refine F_val (i := 2) (v := ?_) SU.out rfl (by kernel_rfl) HS.out rfl (fun W hS => ?_) ?_
 rotate_left
 ·obtain s1 := hS
  go_simp
  all_goals first | done | rfl
 simp only [Act.put, List.setIfInBounds_toArray, List.set_cons_zero, List.set_cons_succ]
 refine F_val (i := 3) (v := ?_) SU.out rfl (by kernel_rfl) HS.out rfl (fun W hS => ?_) ?_
 rotate_left
 ·obtain s1 := hS
  go_simp
  all_goals first | done | rfl
 simp only [Act.put, List.setIfInBounds_toArray, List.set_cons_zero, List.set_cons_succ]
 refine F_val (i := 4) (v := .slice A x.bs.length cap) SU.out rfl (by kernel_rfl) HS.out rfl (fun W hS => ?_) ?_
 ·obtain s1 := hS
  go_simp
  all_goals first | done | rfl
 simp only [Act.put, List.setIfInBounds_toArray, List.set_cons_zero, List.set_cons_succ]
 refine F_move (i := 5) _ SU.out rfl rfl (by kernel_rfl) HS.out rfl ?_
 simp only [Act.put, Act.eval, Array.getD_eq_getD_getElem?, List.setIfInBounds_toArray, List.set_cons_zero, List.set_cons_succ, List.getElem?_toArray, List.getElem?_cons_zero, List.getElem?_cons_succ, Option.getD_some]
 refine F_move (i := 6) _ SU.out rfl rfl (by kernel_rfl) HS.out rfl ?_
 simp only [Act.put, Act.eval, Array.getD_eq_getD_getElem?, List.setIfInBounds_toArray, List.set_cons_zero, List.set_cons_succ, List.getElem?_toArray, List.getElem?_cons_zero, List.getElem?_cons_succ, Option.getD_some]
 refine F_cut (i := 7) 34 (.tmp 16) (.tmp 17) SU.out rfl rfl 5 i0 Tryz.underlying34 hi0 hz1 bA bn bc kk (by first | rfl | (simp [Act.eval]; done)) (by first | rfl | (simp [Act.eval]; done)) hkb hbc (by kernel_rfl) HS.out rfl ?_
 simp only [Act.put, List.setIfInBounds_toArray, List.set_cons_zero, List.set_cons_succ]
 refine wpAnyF_all (rs := [8]) (by kernel_rfl) (by simp) (fun w' hG => ?_)
 obtain rfl := hG
 refine allF.head rfl rfl (fun K7 hK7 => ?_) allF.nil
 have htk : (bs.take kk).length = kk := by simp; omega
 refine wp_append_OwnS (.tmp 15) (.tmp 18) 34 rfl 5 i0 _ Tryz.underlying34 hi0 hz0 hz1 rfl (.slice A x.bs.length cap) (byteVals x.bs) x.bs.length (byteVals_length _) (by first | rfl | (simp [Act.eval]; done)) HWD.out.2 bA kk bc (by first | rfl | (simp [Act.eval]; done)) (byteVals (bs.take kk)) (by have := At.take HBY2.out kk; simpa [byteVals, List.map_take] using this) (by rw [byteVals_length]; exact htk) (byteVals_one _) (by unfold maxLen; omega) (by rw [hz2]; omega) ?_
 intro A3 c3 w3 hown hgr hloc
 rw [← byteVals_append] at hown
 have hw3 := HWD.out.1.grown hgr (fun e => Own.ne_bk HWD.out.2 HWD.out.1 (by decide) e.symm)
 have c4 : w3.cell? ⟨q, 4, none⟩ = some (.slice A x.bs.length cap) := hw3.cell_ (i := 4) rfl
 have f4 := hw3.frozen 4
 refine hK7.out _ _ (.inr c4) ?_
 have HOWN := Lib.hid hown; have HGR := Lib.hid hgr; have HLOC := Lib.hid hloc; have HW3 := Lib.hid hw3
 clear hK7 K7 hw3 hown hgr hloc
 simp only [Act.put, List.setIfInBounds_toArray, List.set_cons_zero, List.set_cons_succ]
 refine wpAnyF_all (rs := [9]) (by kernel_rfl) (by simp) (fun w' hG => ?_)
 obtain rfl := hG
 refine allF.head rfl rfl (fun K9 hK9 => ?_) allF.nil
 go_simp
 refine hK9.out _ _ (.inr c4) ?_
 clear hK9 K9
 refine wpAnyF_all (rs := [10]) (by kernel_rfl) (by simp) (fun w' hG => ?_)
 obtain rfl := hG
 refine allF.head rfl rfl (fun Ka hKa => ?_) allF.nil
 go_simp
 refine hKa.out _ _ (.inr c4) ?_
 clear hKa Ka
 refine wpAnyF_all (rs := [11]) (by kernel_rfl) (by simp) (fun w' hG => ?_)
 obtain rfl := hG
 refine allF.head rfl rfl (fun Kb hKb => ?_) allF.nil
 go_simp
 refine hKb.out _ _ (.inl rfl) ?_
 clear hKb Kb
 refine wpAnyF_done (by kernel_rfl) (fun w' hG => ?_)
 obtain rfl := hG
 clear c4 f4
 go_wp2_with fail
 go_ret
 have hs : Fr [q] w3 (w3.setCell ⟨q, 4, none⟩ (.slice A3 (x.bs.length + kk) c3)) := (Fr.refl _ _).setCell (.inl (by simp)) _
 have ho3 : OwnB w3 (.slice A3 (x.bs.length + kk) c3) (x.bs ++ bs.take kk) := HOWN.out
 refine ⟨rfl, .slice A3 (x.bs.length + kk) c3, ⟨HW3.out.put 4 _, Own.fr ho3 hs (fun k hk => by have := Own.ne_bk ho3 HW3.out (by decide); simp; rintro rfl; exact this hk)⟩, ?_, ?_⟩
 ·exact (HFD.out.nil_.grown HGR.out (fun g hg => .inl (by simp [hg]))).trans' hs (fun i hi => .inl (by simp at hi; simp [hi]))
 ·intro k hk
  rcases HLOC.out with e | e
  ·exact .inl (by rw [← e]; exact hk)
  ·rw [hk] at e; injection e with e; have := HFD.out.size; exact .inr (by omega)
end Go.Proofs.YtfbmogccmlikaaaGreatDoor.K
namespace Go.Proofs.YtfbmogccmlikaaaGreatDoor.K
open Go.RowKit
set_option linter.unusedVariables false
set_option linter.unusedSimpArgs false
theorem fst_bounds {c : UInt8} {bs : List UInt8} {en : Bool} {tb nx : Nat} (he : fstM c bs en = (tb, nx, true)) : tb ≤ nx ∧ nx ≤ bs.length := by
 by_cases h : c ∈ bs
 ·obtain ⟨a, b, rfl, h2⟩ := cut1 c bs h
  rw [fst_hit c a b h2] at he
  injection he with e1 e2
  injection e2 with e2 e3
  subst e1 e2
  simp
 ·rw [fst_miss c bs h] at he
  split at he
  ·injection he with e1 e2
   injection e2 with e2 e3
   omega
  ·injection he with e1 e2
   injection e2 with e2 e3
   cases e3
set_option maxRecDepth 100000 in
set_option maxHeartbeats 2000000 in
theorem next_ok {w : World} {q : Nat} {x : Cu} {v : Value} (h : CuR w q x v) (hb : x.bs.length ≤ 65536) (tb nx : Nat) (he : fstM x.c x.bs x.en = (tb, nx, true)) :
    Calls Tryz.prog 29 #[.pointer (some ⟨q, 0, none⟩)] w fun e w' => e = .returned (.tuple #[.string ⟨(x.bs.take tb).toArray⟩, .bool true, .nilIface]) ∧ CuTo w q v w' { x with bs := x.bs.drop nx } := by
 obtain ⟨i0, hi0, hz0, hz1, hz2⟩ := u8parts
 obtain ⟨A, cap, rfl, hcap, hmx, -, hnil⟩ := OwnB.val h.2
 obtain ⟨hb1, hb2⟩ := fst_bounds he
 have hr2 : CuR w.drew q x (.slice A x.bs.length cap) := ⟨h.1.drew, Own.fr (l := []) h.2 ((Fr.refl [] w).drew) (by simp)⟩
 have HFD : Hid (Fr [] w w.drew) := Lib.hid (Fr.refl [] w).drew
 have HR2 := Lib.hid hr2
 clear h hr2
 go_enter Tryz.func29, Tryz.ntmps29
 go_upto_region 1 with fail
 obtain ⟨d0, d1, d2, d3, d4, d5⟩ := cu_cells HR2.out.1
 have hby : Bytes w.drew A x.bs := by
  obtain ⟨A', cap', hv, hat, -⟩ := Own.at_ HR2.out.2
  injection hv with e1 e2 e3
  rw [e1]; exact hat
 have HFIRST := Lib.hid (first_any d0 d1 rfl hby hnil hcap (by omega) _ _ _ _ he)
 have HBY := Lib.hid hby
 clear hby he
 obtain ⟨en, hen⟩ : ∃ en, x.en = en := ⟨_, rfl⟩
 rw [hen] at d5 HFIRST
 refine wp_region_M_ (G := fun a b => a = b) (S := fun W => W = w.drew) ⟨fun _ => rfl, fun a b c h k => h.trans k, fun a b h k => k ▸ h, by kernel_rfl, fun _ _ d _ _ h => by cases d <;> exact h⟩ (by kernel_rfl) fun su => ?_
 have SU := Lib.hid su
 have HS : Hid (w.drew = w.drew) := Lib.hid rfl
 clear su
 generalize w.drew = wd at *
 refine M_move (i := 0) _ SU.out rfl rfl (by kernel_rfl) HS.out rfl ?_
 simp only [Act.put, Act.eval, Array.getD_eq_getD_getElem?, List.setIfInBounds_toArray, List.set_cons_zero, List.set_cons_succ, List.getElem?_toArray, List.getElem?_cons_zero, List.getElem?_cons_succ, Option.getD_some]
 refine M_val (i := 1) (v := ?_) SU.out rfl (by kernel_rfl) HS.out rfl (fun W hS => ?_) ?_
 rotate_left
 ·obtain rfl := hS
  go_simp
  all_goals first | done | rfl | omega | (simp; done) | (simp; omega)
 simp only [Act.put, List.setIfInBounds_toArray, List.set_cons_zero, List.set_cons_succ]
 refine M_val (i := 2) (v := .pointer (some ⟨q, 0, none⟩)) SU.out rfl (by kernel_rfl) HS.out rfl (fun W hS => ?_) ?_
 ·obtain rfl := hS
  go_simp
  all_goals first | done | rfl | omega | (simp; done) | (simp; omega)
 simp only [Act.put, List.setIfInBounds_toArray, List.set_cons_zero, List.set_cons_succ]
 refine M_move (i := 3) _ SU.out rfl rfl (by kernel_rfl) HS.out rfl ?_
 simp only [Act.put, Act.eval, Array.getD_eq_getD_getElem?, List.setIfInBounds_toArray, List.set_cons_zero, List.set_cons_succ, List.getElem?_toArray, List.getElem?_cons_zero, List.getElem?_cons_succ, Option.getD_some]
 refine M_val (i := 4) (v := ?_) SU.out rfl (by kernel_rfl) HS.out rfl (fun W hS => ?_) ?_
 rotate_left
 ·obtain rfl := hS
  go_simp
  all_goals first | done | rfl | omega | (simp; done) | (simp; omega)
 simp only [Act.put, List.setIfInBounds_toArray, List.set_cons_zero, List.set_cons_succ]
 refine M_val (i := 5) (v := ?_) SU.out rfl (by kernel_rfl) HS.out rfl (fun W hS => ?_) ?_
 rotate_left
 ·obtain rfl := hS
  go_simp
  all_goals first | done | rfl | omega | (simp; done) | (simp; omega)
 simp only [Act.put, List.setIfInBounds_toArray, List.set_cons_zero, List.set_cons_succ]
 refine M_val (i := 6) (v := .slice A x.bs.length cap) SU.out rfl (by kernel_rfl) HS.out rfl (fun W hS => ?_) ?_
 ·obtain rfl := hS
  go_simp
  all_goals first | done | rfl | omega | (simp; done) | (simp; omega)
 simp only [Act.put, List.setIfInBounds_toArray, List.set_cons_zero, List.set_cons_succ]
 refine M_move (i := 7) _ SU.out rfl rfl (by kernel_rfl) HS.out rfl ?_
 simp only [Act.put, Act.eval, Array.getD_eq_getD_getElem?, List.setIfInBounds_toArray, List.set_cons_zero, List.set_cons_succ, List.getElem?_toArray, List.getElem?_cons_zero, List.getElem?_cons_succ, Option.getD_some]
 refine M_val (i := 8) (v := ?_) SU.out rfl (by kernel_rfl) HS.out rfl (fun W hS => ?_) ?_
 rotate_left
 ·obtain rfl := hS
  go_simp
  all_goals first | done | rfl | omega | (simp; done) | (simp; omega)
 simp only [Act.put, List.setIfInBounds_toArray, List.set_cons_zero, List.set_cons_succ]
 refine M_val (i := 9) (v := ?_) SU.out rfl (by kernel_rfl) HS.out rfl (fun W hS => ?_) ?_
 rotate_left
 ·obtain rfl := hS
  go_simp
  all_goals first | done | rfl | omega | (simp; done) | (simp; omega)
 simp only [Act.put, List.setIfInBounds_toArray, List.set_cons_zero, List.set_cons_succ]
 refine M_val (i := 10) (v := .bool en) SU.out rfl (by kernel_rfl) HS.out rfl (fun W hS => ?_) ?_
 ·obtain rfl := hS
  go_simp
  all_goals first | done | rfl | omega | (simp; done) | (simp; omega)
 simp only [Act.put, List.setIfInBounds_toArray, List.set_cons_zero, List.set_cons_succ]
 refine M_call (i := 11) SU.out rfl (by kernel_rfl) HS.out rfl (fun W hS => by rw [hS]; exact HFIRST.out) (fun W => ?_) ?_
 ·go_simp
  first | done | rfl
 simp only [Act.put, List.setIfInBounds_toArray, List.set_cons_zero, List.set_cons_succ]
 refine M_move (i := 12) _ SU.out rfl rfl (by kernel_rfl) HS.out rfl ?_
 simp only [Act.put, Act.eval, Array.getD_eq_getD_getElem?, List.setIfInBounds_toArray, List.set_cons_zero, List.set_cons_succ, List.getElem?_toArray, List.getElem?_cons_zero, List.getElem?_cons_succ, Option.getD_some]
 refine M_val (i := 13) (v := .int .i64 0) SU.out rfl (by kernel_rfl) HS.out rfl (fun W hS => ?_) ?_
 ·obtain rfl := hS
  go_simp
  all_goals first | done | rfl | omega | (simp; done) | (simp; omega)
 simp only [Act.put, List.setIfInBounds_toArray, List.set_cons_zero, List.set_cons_succ]
 refine M_val (i := 14) (v := .int .i64 (tb : Int)) SU.out rfl (by kernel_rfl) HS.out rfl (fun W hS => ?_) ?_
 ·obtain rfl := hS
  go_simp
  all_goals first | done | rfl | omega | (simp; done) | (simp; omega)
 simp only [Act.put, List.setIfInBounds_toArray, List.set_cons_zero, List.set_cons_succ]
 refine M_val (i := 15) (v := .int .i64 (nx : Int)) SU.out rfl (by kernel_rfl) HS.out rfl (fun W hS => ?_) ?_
 ·obtain rfl := hS
  go_simp
  all_goals first | done | rfl | omega | (simp; done) | (simp; omega)
 simp only [Act.put, List.setIfInBounds_toArray, List.set_cons_zero, List.set_cons_succ]
 refine M_val (i := 16) (v := .bool true) SU.out rfl (by kernel_rfl) HS.out rfl (fun W hS => ?_) ?_
 ·obtain rfl := hS
  go_simp
  all_goals first | done | rfl | omega | (simp; done) | (simp; omega)
 simp only [Act.put, List.setIfInBounds_toArray, List.set_cons_zero, List.set_cons_succ]
 refine M_val (i := 17) (v := ?_) SU.out rfl (by kernel_rfl) HS.out rfl (fun W hS => ?_) ?_
 rotate_left
 ·obtain rfl := hS
  go_simp
  all_goals first | done | rfl | omega | (simp; done) | (simp; omega)
 simp only [Act.put, List.setIfInBounds_toArray, List.set_cons_zero, List.set_cons_succ]
 refine M_val (i := 18) (v := ?_) SU.out rfl (by kernel_rfl) HS.out rfl (fun W hS => ?_) ?_
 rotate_left
 ·obtain rfl := hS
  go_simp
  all_goals first | done | rfl | omega | (simp; done) | (simp; omega)
 simp only [Act.put, List.setIfInBounds_toArray, List.set_cons_zero, List.set_cons_succ]
 refine M_val (i := 19) (v := ?_) SU.out rfl (by kernel_rfl) HS.out rfl (fun W hS => ?_) ?_
 rotate_left
 ·obtain rfl := hS
  go_simp
  all_goals first | done | rfl | omega | (simp; done) | (simp; omega)
 simp only [Act.put, List.setIfInBounds_toArray, List.set_cons_zero, List.set_cons_succ]
 refine M_val (i := 20) (v := ?_) SU.out rfl (by kernel_rfl) HS.out rfl (fun W hS => ?_) ?_
 rotate_left
 ·obtain rfl := hS
  go_simp
  all_goals first | done | rfl | omega | (simp; done) | (simp; omega)
 simp only [Act.put, List.setIfInBounds_toArray, List.set_cons_zero, List.set_cons_succ]
 refine wpAnyM_done (by kernel_rfl) (fun w' hG => ?_)
 obtain rfl := hG
 clear d0 d1 d2 d3 d5 HFIRST
 have hlx : (byteVals x.bs).length = x.bs.length := byteVals_length _
 go_upto_region 4 with (first
  | (refine wpList_cut rfl 34 (.tmp 29) (some (.tmp 30)) (some (.tmp 31)) none rfl 5 i0 Tryz.underlying34 hi0 hz1 A x.bs.length cap (by rfl) (byteVals x.bs) HBY.out hlx hcap hnil 0 tb cap (.inr (by rfl)) (.inr (by rfl)) (.inl ⟨by rfl, rfl⟩) (by omega) (by omega) (Nat.le_refl _) (by omega) ?_; intro X1 hX1 hX1n hX1b; have HX1 : Hid (At wd X1 (byteVals (x.bs.take tb))) := Lib.hid (by have := hX1; simpa [byteVals, List.map_take] using this); clear hX1 hX1n hX1b)
  | (refine wpList_str rfl 34 9 (.tmp 32) rfl 5 Tryz.underlying34 Tryz.underlying5 Tryz.underlying9 X1 (tb - 0) (cap - 0) (by rfl) (x.bs.take tb) HX1.out (by rw [List.length_take]; omega) ?_))
 have d4' := d4
 go_upto_region 5 with (first
  | (refine wpList_cut rfl 34 (.tmp 38) (some (.tmp 39)) none none rfl 5 i0 Tryz.underlying34 hi0 hz1 A x.bs.length cap (by rfl) (byteVals x.bs) HBY.out hlx hcap hnil nx x.bs.length cap (.inr (by rfl)) (.inl ⟨by rfl, rfl, rfl⟩) (.inl ⟨by rfl, rfl⟩) (by omega) hcap (Nat.le_refl _) (Nat.le_refl _) ?_; intro X2 hX2 hX2n hX2b; have HX2 : Hid (At wd X2 (byteVals (x.bs.drop nx))) := Lib.hid (by have := hX2; rw [List.take_of_length_le (by rw [List.length_drop, hlx]; exact Nat.le_refl _)] at this; simpa [byteVals, List.map_drop] using this); clear hX2 hX2n hX2b)
  | (at_builtin; refine wpList_append_OwnS rfl (.const (.slice none 0 0)) (.tmp 40) 34 rfl 5 i0 _ Tryz.underlying34 hi0 hz0 hz1 rfl (.slice none 0 0) [] 0 rfl (by rfl) (Own.nil_ _ _) X2 (x.bs.length - nx) (cap - nx) (by rfl) (byteVals (x.bs.drop nx)) HX2.out (by rw [byteVals_length, List.length_drop]) (byteVals_one _) (by unfold maxLen; omega) (by rw [hz2]; omega) ?_; intro A3 c3 w3 hown hgr hloc; have HOWN := Lib.hid hown; have HGR := Lib.hid hgr; have HLOC := Lib.hid hloc; have hw3 := HR2.out.1.grown hgr (by simp [Value.ownBlock]); have f4 := hw3.frozen 4; have c4 := hw3.cell_ (i := 4) rfl; have HW3 := Lib.hid hw3; clear hown hgr hloc hw3))
 clear f4 c4 d4 d4'
 go_wp2_with fail
 go_ret3
 have hs : Fr [q] w3 (w3.setCell ⟨q, 4, none⟩ (.slice A3 (x.bs.length - nx) c3)) := (Fr.refl _ _).setCell (.inl (by simp)) _
 have ho3 : OwnB w3 (.slice A3 (x.bs.length - nx) c3) (x.bs.drop nx) := by have := HOWN.out; rw [List.nil_append, Nat.zero_add] at this; exact this
 refine ⟨rfl, .slice A3 (x.bs.length - nx) c3, ⟨(by rw [← hen]; exact HW3.out.put 4 _), Own.fr ho3 hs (fun k hk => by have := Own.ne_bk ho3 HW3.out (by decide); simp; rintro rfl; exact this hk)⟩, ?_, ?_⟩
 ·exact (HFD.out.nil_.grown HGR.out (fun g hg => by simp [Value.ownBlock] at hg)).trans' hs (fun i hi => .inl (by simp at hi; simp [hi]))
 ·intro k hk
  have hl := HLOC.out
  rw [Nat.zero_add] at hl
  rcases hl with e | e
  ·rw [hk] at e; simp [Value.ownBlock] at e
  ·rw [hk] at e; injection e with e; have := HFD.out.size; exact .inr (by omega)
set_option maxRecDepth 100000 in
set_option maxHeartbeats 2000000 in
theorem next_done {w : World} {q : Nat} {x : Cu} {v : Value} (h : CuR w q x v) (hb : x.bs.length ≤ 65536) (hen : x.en = true) (he : fstM x.c x.bs x.en = (0, 0, false)) :
    Calls Tryz.prog 29 #[.pointer (some ⟨q, 0, none⟩)] w fun e w' => e = .returned (.tuple #[.string ⟨#[]⟩, .bool false, .nilIface]) ∧ CuTo w q v w' { x with bs := [] } := by
 obtain ⟨i0, hi0, hz0, hz1, hz2⟩ := u8parts
 obtain ⟨A, cap, rfl, hcap, hmx, -, hnil⟩ := OwnB.val h.2
 have hr2 : CuR w.drew q x (.slice A x.bs.length cap) := ⟨h.1.drew, Own.fr (l := []) h.2 ((Fr.refl [] w).drew) (by simp)⟩
 have HFD : Hid (Fr [] w w.drew) := Lib.hid (Fr.refl [] w).drew
 have HR2 := Lib.hid hr2
 clear h hr2
 go_enter Tryz.func29, Tryz.ntmps29
 go_upto_region 1 with fail
 obtain ⟨d0, d1, d2, d3, d4, d5⟩ := cu_cells HR2.out.1
 have hby : Bytes w.drew A x.bs := by
  obtain ⟨A', cap', hv, hat, -⟩ := Own.at_ HR2.out.2
  injection hv with e1 e2 e3
  rw [e1]; exact hat
 have HFIRST := Lib.hid (first_any d0 d1 rfl hby hnil hcap (by omega) _ _ _ _ he)
 have HBY := Lib.hid hby
 clear hby he
 rw [hen] at d5 HFIRST
 clear hen
 refine wp_region_M_ (G := fun a b => a = b) (S := fun W => W = w.drew) ⟨fun _ => rfl, fun a b c h k => h.trans k, fun a b h k => k ▸ h, by kernel_rfl, fun _ _ d _ _ h => by cases d <;> exact h⟩ (by kernel_rfl) fun su => ?_
 have SU := Lib.hid su
 have HS : Hid (w.drew = w.drew) := Lib.hid rfl
 clear su
 generalize w.drew = wd at *
 refine M_move (i := 0) _ SU.out rfl rfl (by kernel_rfl) HS.out rfl ?_
 simp only [Act.put, Act.eval, Array.getD_eq_getD_getElem?, List.setIfInBounds_toArray, List.set_cons_zero, List.set_cons_succ, List.getElem?_toArray, List.getElem?_cons_zero, List.getElem?_cons_succ, Option.getD_some]
 refine M_val (i := 1) (v := ?_) SU.out rfl (by kernel_rfl) HS.out rfl (fun W hS => ?_) ?_
 rotate_left
 ·obtain rfl := hS
  go_simp
  all_goals first | done | rfl | omega | (simp; done) | (simp; omega)
 simp only [Act.put, List.setIfInBounds_toArray, List.set_cons_zero, List.set_cons_succ]
 refine M_val (i := 2) (v := .pointer (some ⟨q, 0, none⟩)) SU.out rfl (by kernel_rfl) HS.out rfl (fun W hS => ?_) ?_
 ·obtain rfl := hS
  go_simp
  all_goals first | done | rfl | omega | (simp; done) | (simp; omega)
 simp only [Act.put, List.setIfInBounds_toArray, List.set_cons_zero, List.set_cons_succ]
 refine M_move (i := 3) _ SU.out rfl rfl (by kernel_rfl) HS.out rfl ?_
 simp only [Act.put, Act.eval, Array.getD_eq_getD_getElem?, List.setIfInBounds_toArray, List.set_cons_zero, List.set_cons_succ, List.getElem?_toArray, List.getElem?_cons_zero, List.getElem?_cons_succ, Option.getD_some]
 refine M_val (i := 4) (v := ?_) SU.out rfl (by kernel_rfl) HS.out rfl (fun W hS => ?_) ?_
 rotate_left
 ·obtain rfl := hS
  go_simp
  all_goals first | done | rfl | omega | (simp; done) | (simp; omega)
 simp only [Act.put, List.setIfInBounds_toArray, List.set_cons_zero, List.set_cons_succ]
 refine M_val (i := 5) (v := ?_) SU.out rfl (by kernel_rfl) HS.out rfl (fun W hS => ?_) ?_
 rotate_left
 ·obtain rfl := hS
  go_simp
  all_goals first | done | rfl | omega | (simp; done) | (simp; omega)
 simp only [Act.put, List.setIfInBounds_toArray, List.set_cons_zero, List.set_cons_succ]
 refine M_val (i := 6) (v := .slice A x.bs.length cap) SU.out rfl (by kernel_rfl) HS.out rfl (fun W hS => ?_) ?_
 ·obtain rfl := hS
  go_simp
  all_goals first | done | rfl | omega | (simp; done) | (simp; omega)
 simp only [Act.put, List.setIfInBounds_toArray, List.set_cons_zero, List.set_cons_succ]
 refine M_move (i := 7) _ SU.out rfl rfl (by kernel_rfl) HS.out rfl ?_
 simp only [Act.put, Act.eval, Array.getD_eq_getD_getElem?, List.setIfInBounds_toArray, List.set_cons_zero, List.set_cons_succ, List.getElem?_toArray, List.getElem?_cons_zero, List.getElem?_cons_succ, Option.getD_some]
 refine M_val (i := 8) (v := ?_) SU.out rfl (by kernel_rfl) HS.out rfl (fun W hS => ?_) ?_
 rotate_left
 ·obtain rfl := hS
  go_simp
  all_goals first | done | rfl | omega | (simp; done) | (simp; omega)
 simp only [Act.put, List.setIfInBounds_toArray, List.set_cons_zero, List.set_cons_succ]
 refine M_val (i := 9) (v := ?_) SU.out rfl (by kernel_rfl) HS.out rfl (fun W hS => ?_) ?_
 rotate_left
 ·obtain rfl := hS
  go_simp
  all_goals first | done | rfl | omega | (simp; done) | (simp; omega)
 simp only [Act.put, List.setIfInBounds_toArray, List.set_cons_zero, List.set_cons_succ]
 refine M_val (i := 10) (v := .bool true) SU.out rfl (by kernel_rfl) HS.out rfl (fun W hS => ?_) ?_
 ·obtain rfl := hS
  go_simp
  all_goals first | done | rfl | omega | (simp; done) | (simp; omega)
 simp only [Act.put, List.setIfInBounds_toArray, List.set_cons_zero, List.set_cons_succ]
 refine M_call (i := 11) SU.out rfl (by kernel_rfl) HS.out rfl (fun W hS => by rw [hS]; exact HFIRST.out) (fun W => ?_) ?_
 ·go_simp
  first | done | rfl
 simp only [Act.put, List.setIfInBounds_toArray, List.set_cons_zero, List.set_cons_succ]
 refine M_move (i := 12) _ SU.out rfl rfl (by kernel_rfl) HS.out rfl ?_
 simp only [Act.put, Act.eval, Array.getD_eq_getD_getElem?, List.setIfInBounds_toArray, List.set_cons_zero, List.set_cons_succ, List.getElem?_toArray, List.getElem?_cons_zero, List.getElem?_cons_succ, Option.getD_some]
 refine M_val (i := 13) (v := .int .i64 0) SU.out rfl (by kernel_rfl) HS.out rfl (fun W hS => ?_) ?_
 ·obtain rfl := hS
  go_simp
  all_goals first | done | rfl | omega | (simp; done) | (simp; omega)
 simp only [Act.put, List.setIfInBounds_toArray, List.set_cons_zero, List.set_cons_succ]
 refine M_val (i := 14) (v := .int .i64 0) SU.out rfl (by kernel_rfl) HS.out rfl (fun W hS => ?_) ?_
 ·obtain rfl := hS
  go_simp
  all_goals first | done | rfl | omega | (simp; done) | (simp; omega)
 simp only [Act.put, List.setIfInBounds_toArray, List.set_cons_zero, List.set_cons_succ]
 refine M_val (i := 15) (v := .int .i64 0) SU.out rfl (by kernel_rfl) HS.out rfl (fun W hS => ?_) ?_
 ·obtain rfl := hS
  go_simp
  all_goals first | done | rfl | omega | (simp; done) | (simp; omega)
 simp only [Act.put, List.setIfInBounds_toArray, List.set_cons_zero, List.set_cons_succ]
 refine M_val (i := 16) (v := .bool false) SU.out rfl (by kernel_rfl) HS.out rfl (fun W hS => ?_) ?_
 ·obtain rfl := hS
  go_simp
  all_goals first | done | rfl | omega | (simp; done) | (simp; omega)
 simp only [Act.put, List.setIfInBounds_toArray, List.set_cons_zero, List.set_cons_succ]
 refine M_val (i := 17) (v := ?_) SU.out rfl (by kernel_rfl) HS.out rfl (fun W hS => ?_) ?_
 rotate_left
 ·obtain rfl := hS
  go_simp
  all_goals first | done | rfl | omega | (simp; done) | (simp; omega)
 simp only [Act.put, List.setIfInBounds_toArray, List.set_cons_zero, List.set_cons_succ]
 refine M_val (i := 18) (v := ?_) SU.out rfl (by kernel_rfl) HS.out rfl (fun W hS => ?_) ?_
 rotate_left
 ·obtain rfl := hS
  go_simp
  all_goals first | done | rfl | omega | (simp; done) | (simp; omega)
 simp only [Act.put, List.setIfInBounds_toArray, List.set_cons_zero, List.set_cons_succ]
 refine M_val (i := 19) (v := ?_) SU.out rfl (by kernel_rfl) HS.out rfl (fun W hS => ?_) ?_
 rotate_left
 ·obtain rfl := hS
  go_simp
  all_goals first | done | rfl | omega | (simp; done) | (simp; omega)
 simp only [Act.put, List.setIfInBounds_toArray, List.set_cons_zero, List.set_cons_succ]
 refine M_val (i := 20) (v := ?_) SU.out rfl (by kernel_rfl) HS.out rfl (fun W hS => ?_) ?_
 rotate_left
 ·obtain rfl := hS
  go_simp
  all_goals first | done | rfl | omega | (simp; done) | (simp; omega)
 simp only [Act.put, List.setIfInBounds_toArray, List.set_cons_zero, List.set_cons_succ]
 refine wpAnyM_done (by kernel_rfl) (fun w' hG => ?_)
 obtain rfl := hG
 have f4 := HR2.out.1.frozen 4
 clear d0 d1 d2 d3 HFIRST
 go_wp2_with fail
 go_ret3
 have hs : Fr [q] wd (wd.setCell ⟨q, 4, none⟩ (.slice none 0 0)) := (Fr.refl _ _).setCell (.inl (by simp)) _
 refine ⟨rfl, .slice none 0 0, ⟨HR2.out.1.put 4 _, Own.nil_ _ _⟩, HFD.out.nil_.trans' hs (fun i hi => .inl (by simp at hi; simp [hi])), fun k hk => by simp [Value.ownBlock] at hk⟩
end Go.Proofs.YtfbmogccmlikaaaGreatDoor.K
namespace Go.Proofs.YtfbmogccmlikaaaGreatDoor.K
open Go.RowKit
set_option linter.unusedVariables false
set_option linter.unusedSimpArgs false
theorem sizeB {B : Nat} {w w' : World} (hB : B ≤ w.heap.size) (h : Below B w w') : B ≤ w'.heap.size := Nat.le_trans hB h.size
end Go.Proofs.YtfbmogccmlikaaaGreatDoor.K
