/-
  A cutter's New, Free, Held, Ended, End, Put, Next, its separator one byte. No conditions on the program. (Printed by tools/genrc2.py.)
-/
import Derived.Test.YtecdghjimcfhpaaGreatDoorRc1
import Derived.Test.YtecdghjimcfhpaaGreatDoorDrawnF
import Derived.Deep.Cut
import Derived.Deep.CutBlock
namespace Go.Proofs.YtecdghjimcfhpaaGreatDoor
open Go.RowKit
set_option linter.unusedVariables false
set_option linter.unusedSimpArgs false

section
variable {P : Program} {Q : Exit → Act → World → Prop} {md : Region.Mode} {G : World → World → Prop} {S : World → Prop} {F : Nat → Bool} {l r : List Oper} {o : Oper} {i n : Nat} {listed : Array Bool} {a : Act} {w : World}
/-- 's[:h]' in a region that draws. -/
theorem F_cut (t : TypeId) (x oh : Operand) (su : Setup P l Q G S) (ho : l.drop i = o :: r) (hop : o.op = .slice t x none (some oh) none) (e : TypeId) (ti : TypeInfo) (ht : P.underlying t = some (.slice e)) (hi : P.info? e = some ti) (hs : ti.size = 1)
    (A : Option Addr) (len c h : Nat) (hxv : a.eval x = .slice A len c) (hh : a.eval oh = .int .i64 (h : Int)) (h1 : h ≤ len) (h2 : len ≤ c)
    (hB : ((Region.ready md l.toArray listed).contains i && Region.free md l.toArray listed i && waits md l.toArray F i) = true) (hS : S w) (hw : Region.wanted o (yielded l.toArray a.tmps) = true)
    (hr : wpAnyF P md l.toArray Q G S F n (listed.setIfInBounds i true) (a.put o.dst (.slice A h c)) w) : wpAnyF P md l.toArray Q G S F (n + 1) listed a w := by
  refine F_val su ho hB hS hw (fun w' _ => ?_) hr
  have hrun : (Instr.sliceAt t (a.eval x) none (some (a.eval oh)) none).run P w' = .ok (.slice A h c) w' := by
    rw [hxv, hh]
    have hb := run_bounds_ (P := P) len c none (some (.int .i64 (h : Int))) none 0 h c w' (.inl ⟨rfl, rfl⟩) (.inr rfl) (.inl ⟨rfl, rfl⟩) (Nat.zero_le _) (Nat.le_trans h1 h2) (Nat.le_refl _)
    have hA : A.map (·.add 0) = A := by cases A <;> simp [Addr.add]
    simp [Instr.sliceAt, Instr.slice, run_underlying ht, sizeOf, typeInfo, hi, hs, hb, hA]
  unfold execOp
  simp only [hop, Option.map_none, Option.map_some, hrun, Sem.run_bind, Result.andThen_ok, Sem.run_pure]
end

theorem u8parts : ∃ i, Tryz.prog.info? 5 = some i ∧ i.zero = some (.int .u8 0) ∧ i.size = 1 ∧ i.bytes = 1 := info_parts (by kernel_rfl)
/-- What an act on a cutter leaves. -/
def CuTo (w : World) (q : Nat) (v : Value) (w' : World) (y : Cu) : Prop := ∃ v', CuR w' q y v' ∧ Fr (q :: v.ownBlock.toList) w w' ∧ ∀ k, v'.ownBlock = some k → v.ownBlock = some k ∨ w.heap.size ≤ k
theorem CuTo.same {w w' : World} {q : Nat} {x : Cu} {v : Value} (h : CuR w q x v) (hf : Fr [] w w') : CuTo w q v w' x :=
  ⟨v, ⟨h.1.fr hf (by simp), Own.fr h.2 hf (by simp)⟩, hf.nil_, fun k hk => .inl hk⟩
/-- A cutter whose blocks all lie from B on. -/
def CuB (w : World) (B q : Nat) (x : Cu) : Prop := ∃ v, CuR w q x v ∧ B ≤ q ∧ ∀ k, v.ownBlock = some k → B ≤ k
theorem CuB.to {w w' : World} {B q : Nat} {y : Cu} {v : Value} (hq : B ≤ q) (hv : ∀ k, v.ownBlock = some k → B ≤ k) (hB : B ≤ w.heap.size) (h : CuTo w q v w' y) : CuB w' B q y ∧ Below B w w' := by
  obtain ⟨v', h1, h2, h3⟩ := h
  refine ⟨⟨v', h1, hq, fun k hk => (h3 k hk).elim (hv k) (fun h => by omega)⟩, h2.below_at hB (fun i hi => ?_)⟩
  rcases List.mem_cons.1 hi with rfl | hi
  · exact hq
  · exact hv i (by simpa using hi)
theorem CuB.fr_nil {w w' : World} {B q : Nat} {x : Cu} (h : CuB w B q x) (hf : Fr [] w w') : CuB w' B q x := by
  obtain ⟨v, h1, h2, h3⟩ := h
  exact ⟨v, ⟨h1.1.fr hf (by simp), Own.fr h1.2 hf (by simp)⟩, h2, h3⟩

set_option maxRecDepth 100000 in
theorem rnew_one {w : World} (c : UInt8) (h2 : c ≠ 92) (k : Int) (hk : 1 ≤ k ∧ k ≤ 65536) : Calls Tryz.prog 21 #[.string ⟨#[c]⟩, .int .i64 k] w fun e w' =>
    ∃ q, e = .returned (.tuple #[.pointer (some ⟨q, 0, none⟩), .nilIface]) ∧ CuR w' q ⟨c, k, [], false⟩ (.slice none 0 0) ∧ w.heap.size ≤ q ∧ Fr [] w w' := by
  have t0 : decide (k < 1) = false := decide_eq_false (by omega)
  have t1 : decide (65536 < k) = false := decide_eq_false (by omega)
  have HRD := Lib.hid (fun w => read_one (w := w) c h2)
  clear h2
  go_enter Tryz.func21, Tryz.ntmps21
  go_wp2_with fail
  go_at_call 34
  refine (HRD.out _).mono ?_
  rintro e w2 ⟨rfl, hf⟩
  have HF := Lib.hid hf; clear hf HRD
  go_wp2_with fail
  go_ret2
  refine ⟨_, rfl, ⟨by have := Bk.new (w2.alloc (.cells #[.int .i64 0, .int .u8 (c.toNat : Int), .pointer none] 62)) 66 (cuCells ⟨c, k, [], false⟩ (.slice none 0 0)); rw [World.size_alloc] at this; exact this, Own.nil_ _ _⟩, ?_, (HF.out.alloc _).alloc _⟩
  have := HF.out.size
  simp; omega
theorem held_any {w : World} {q : Nat} {x : Cu} {v : Value} (h : CuR w q x v) : Calls Tryz.prog 29 #[.pointer (some ⟨q, 0, none⟩)] w fun e w' => e = .returned (.int .i64 x.bs.length) ∧ w = w' := by
  obtain ⟨A, cap, rfl, -⟩ := OwnB.val h.2
  obtain ⟨-, -, -, -, d4, -⟩ := cu_cells h.1
  clear h
  go_enter Tryz.func29, Tryz.ntmps29
  go_wp2_with fail
  go_ret
  exact ⟨rfl, rfl⟩
theorem ended_any {w : World} {q : Nat} {x : Cu} {v : Value} (h : CuR w q x v) : Calls Tryz.prog 33 #[.pointer (some ⟨q, 0, none⟩)] w fun e w' => e = .returned (.bool (x.en && x.bs.isEmpty)) ∧ w = w' := by
  obtain ⟨A, cap, rfl, -⟩ := OwnB.val h.2
  obtain ⟨-, -, -, -, d4, d5⟩ := cu_cells h.1
  clear h
  cases he : x.en with
  | false =>
    rw [he] at d5
    go_enter Tryz.func33, Tryz.ntmps33
    go_wp2_with fail
    go_ret
    exact ⟨rfl, rfl⟩
  | true =>
    rw [he] at d5
    by_cases hb : x.bs = []
    · rw [hb] at d4 ⊢
      rw [List.length_nil] at d4
      go_enter Tryz.func33, Tryz.ntmps33
      go_wp2_with fail
      go_ret
      exact ⟨rfl, rfl⟩
    · have hl : ((x.bs.length : Int) == 0) = false := beq_eq_false_iff_ne.2 (fun e => hb (List.eq_nil_of_length_eq_zero (by omega)))
      have hr : (true && x.bs.isEmpty) = false := by simp [hb]
      rw [hr]
      clear hb hr
      go_enter Tryz.func33, Tryz.ntmps33
      go_wp2_with fail
      go_ret
      exact ⟨rfl, rfl⟩
theorem end_any {w : World} {q : Nat} {x : Cu} {v : Value} (h : CuR w q x v) : Calls Tryz.prog 24 #[.pointer (some ⟨q, 0, none⟩)] w fun e w' => e = .returned (.tuple #[]) ∧ CuTo w q v w' { x with en := true } := by
  obtain ⟨-, -, -, -, -, d5⟩ := cu_cells h.1
  have f5 := h.1.frozen 5
  have H := Lib.hid h; clear h
  go_enter Tryz.func24, Tryz.ntmps24
  go_wp2_with fail
  go_end0
  have hf : Fr [q] w (w.setCell ⟨q, 5, none⟩ (.bool true)) := (Fr.refl _ _).setCell (.inl (by simp)) _
  exact ⟨rfl, v, H.out.fr_put (y := { x with en := true }) hf (H.out.1.put 5 _) H.out.2, hf.mono (fun i hi => .inl (by simp at hi; simp [hi])), fun k hk => .inl hk⟩
def freeM (x : Cu) : Int := if x.en = true then 0 else x.room - x.bs.length
set_option maxRecDepth 100000 in
theorem free_any {w : World} {q : Nat} {x : Cu} {v : Value} (h : CuR w q x v) (hr : 0 ≤ x.room ∧ x.room ≤ 65536) (hb : x.bs.length ≤ 65536) : Calls Tryz.prog 35 #[.pointer (some ⟨q, 0, none⟩)] w fun e w' => e = .returned (.int .i64 (freeM x)) ∧ Fr [] w w' := by
  obtain ⟨A, cap, rfl, -⟩ := OwnB.val h.2
  obtain ⟨-, -, -, d3, d4, d5⟩ := cu_cells h.1
  unfold freeM
  cases he : x.en with
  | true =>
    rw [he] at d5
    clear h
    go_enter Tryz.func35, Tryz.ntmps35
    go_wp2_with fail
    go_ret
    exact ⟨rfl, Fr.refl _ _⟩
  | false =>
    rw [he] at d5
    clear h
    have hw : IntKind.i64.wrap (x.room - (x.bs.length : Int)) = x.room - (x.bs.length : Int) := by rw [IntKind.wrap_i64]; omega
    go_enter Tryz.func35, Tryz.ntmps35
    go_upto_region 3 with fail
    have d3' : w.drew.cell? ⟨q, 3, none⟩ = some (.int .i64 x.room) := d3
    have d4' : w.drew.cell? ⟨q, 4, none⟩ = some (.slice A x.bs.length cap) := d4
    have HFD : Hid (Fr [] w w.drew) := Lib.hid (Fr.refl [] w).drew
    clear d3 d4 d5
    refine wp_region_M_ (G := fun a b => a = b) (S := fun W => W = w.drew) ⟨fun _ => rfl, fun a b c h k => h.trans k, fun a b h k => k ▸ h, by kernel_rfl, fun _ _ d _ _ h => by cases d <;> exact h⟩ (by kernel_rfl) fun su => ?_
    have SU := Lib.hid su
    have HS : Hid (w.drew = w.drew) := Lib.hid rfl
    clear su
    generalize w.drew = wd at *
    refine M_move (i := 0) _ SU.out rfl rfl (by kernel_rfl) HS.out rfl ?_
    simp only [Act.put, Act.eval, Array.getD_eq_getD_getElem?, List.setIfInBounds_toArray, List.set_cons_zero, List.set_cons_succ, List.getElem?_toArray, List.getElem?_cons_zero, List.getElem?_cons_succ, Option.getD_some]
    refine M_val (i := 1) (v := ?_) SU.out rfl (by kernel_rfl) HS.out rfl (fun W hS => ?_) ?_
    rotate_left
    · obtain rfl := hS
      go_simp
      all_goals first | done | rfl | omega | (simp; done) | (simp; omega)
    simp only [Act.put, List.setIfInBounds_toArray, List.set_cons_zero, List.set_cons_succ]
    refine M_val (i := 2) (v := ?_) SU.out rfl (by kernel_rfl) HS.out rfl (fun W hS => ?_) ?_
    rotate_left
    · obtain rfl := hS
      go_simp
      all_goals first | done | rfl | omega | (simp; done) | (simp; omega)
    simp only [Act.put, List.setIfInBounds_toArray, List.set_cons_zero, List.set_cons_succ]
    refine M_val (i := 3) (v := .int .i64 x.room) SU.out rfl (by kernel_rfl) HS.out rfl (fun W hS => ?_) ?_
    · obtain rfl := hS
      go_simp
      all_goals first | done | rfl | omega | (simp; done) | (simp; omega)
    simp only [Act.put, List.setIfInBounds_toArray, List.set_cons_zero, List.set_cons_succ]
    refine M_move (i := 4) _ SU.out rfl rfl (by kernel_rfl) HS.out rfl ?_
    simp only [Act.put, Act.eval, Array.getD_eq_getD_getElem?, List.setIfInBounds_toArray, List.set_cons_zero, List.set_cons_succ, List.getElem?_toArray, List.getElem?_cons_zero, List.getElem?_cons_succ, Option.getD_some]
    refine M_val (i := 5) (v := ?_) SU.out rfl (by kernel_rfl) HS.out rfl (fun W hS => ?_) ?_
    rotate_left
    · obtain rfl := hS
      go_simp
      all_goals first | done | rfl | omega | (simp; done) | (simp; omega)
    simp only [Act.put, List.setIfInBounds_toArray, List.set_cons_zero, List.set_cons_succ]
    refine M_val (i := 6) (v := ?_) SU.out rfl (by kernel_rfl) HS.out rfl (fun W hS => ?_) ?_
    rotate_left
    · obtain rfl := hS
      go_simp
      all_goals first | done | rfl | omega | (simp; done) | (simp; omega)
    simp only [Act.put, List.setIfInBounds_toArray, List.set_cons_zero, List.set_cons_succ]
    refine M_val (i := 7) (v := .slice A x.bs.length cap) SU.out rfl (by kernel_rfl) HS.out rfl (fun W hS => ?_) ?_
    · obtain rfl := hS
      go_simp
      all_goals first | done | rfl | omega | (simp; done) | (simp; omega)
    simp only [Act.put, List.setIfInBounds_toArray, List.set_cons_zero, List.set_cons_succ]
    refine M_val (i := 8) (v := ?_) SU.out rfl (by kernel_rfl) HS.out rfl (fun W hS => ?_) ?_
    rotate_left
    · obtain rfl := hS
      go_simp
      all_goals first | done | rfl | omega | (simp; done) | (simp; omega)
    simp only [Act.put, List.setIfInBounds_toArray, List.set_cons_zero, List.set_cons_succ]
    refine M_val (i := 9) (v := .int .i64 (x.room - (x.bs.length : Int))) SU.out rfl (by kernel_rfl) HS.out rfl (fun W hS => ?_) ?_
    · obtain rfl := hS
      go_simp
      all_goals first | done | rfl | omega | (simp; done) | (simp; omega)
    simp only [Act.put, List.setIfInBounds_toArray, List.set_cons_zero, List.set_cons_succ]
    refine M_val (i := 10) (v := ?_) SU.out rfl (by kernel_rfl) HS.out rfl (fun W hS => ?_) ?_
    rotate_left
    · obtain rfl := hS
      go_simp
      all_goals first | done | rfl | omega | (simp; done) | (simp; omega)
    simp only [Act.put, List.setIfInBounds_toArray, List.set_cons_zero, List.set_cons_succ]
    refine wpAnyM_done (by kernel_rfl) (fun w' hG => ?_)
    obtain rfl := hG
    go_wp2_with fail
    go_ret
    exact ⟨rfl, HFD.out⟩
set_option maxRecDepth 100000 in
set_option maxHeartbeats 2000000 in
theorem cput_any {w : World} {q : Nat} {x : Cu} {v : Value} (h : CuR w q x v) (hr : 0 ≤ x.room ∧ x.room ≤ 65536) (hb : (x.bs.length : Int) ≤ x.room) {bA : Option Addr} {bs : List UInt8} {bn bc : Nat} (hn : bs.length = bn) (hby : Bytes w bA bs) (hbc : bn ≤ bc) (hbl : bn ≤ 100000000) (kk : Nat) (hkk : (kk : Int) = min (bn : Int) (freeM x)) :
    Calls Tryz.prog 22 #[.pointer (some ⟨q, 0, none⟩), .slice bA bn bc] w fun e w' => e = .returned (.int .i64 (kk : Int)) ∧ CuTo w q v w' { x with bs := x.bs ++ bs.take kk } := by
  obtain ⟨i0, hi0, hz0, hz1, hz2⟩ := u8parts
  obtain ⟨A, cap, rfl, -⟩ := OwnB.val h.2
  have HFREE := Lib.hid (fun w (h : CuR w q x (.slice A x.bs.length cap)) => free_any h hr (by omega))
  have hkb : kk ≤ bn := by omega
  have hxl : x.bs.length ≤ 65536 := by omega
  have H := Lib.hid h; have HBY := Lib.hid hby; have HKK := Lib.hid hkk
  clear h hby hkk hr hb
  go_enter Tryz.func22, Tryz.ntmps22
  go_wp2_with fail
  go_at_call 35
  refine (HFREE.out w H.out).mono ?_
  rintro e w2 ⟨rfl, hf2⟩
  have HF2 := Lib.hid hf2
  have hr2 : CuR w2.drew q x (.slice A x.bs.length cap) := ⟨(H.out.1.fr hf2 (by simp)).drew, Own.fr H.out.2 (hf2.drew) (by simp)⟩
  have hby2 : Bytes w2.drew bA bs := HBY.out.fr_nil hf2.drew
  have HR2 := Lib.hid hr2; have HBY2 := Lib.hid hby2
  clear hf2 hr2 hby2 HFREE
  go_upto_region 2 with (refine wpList_min rfl (.tmp 7) (.tmp 9) _ rfl .i64 _ _ _ (by rfl) (by rfl) HKK.out.symm ?_)
  have HFD : Hid (Fr [] w w2.drew) := Lib.hid HF2.out.drew
  clear HF2
  have c40 : w2.drew.cell? ⟨q, 4, none⟩ = some (.slice A x.bs.length cap) := HR2.out.1.cell_ (i := 4) rfl
  refine wp_region_F_ (G := fun a b => a = b) (F := fun i => i == 11) (S := fun W => W.cell? ⟨q, 4, none⟩ = some (.slice A x.bs.length cap)) ⟨fun _ => rfl, fun a b c h k => h.trans k, fun a b h k => k ▸ h, by kernel_rfl, fun _ _ d _ _ h => by cases d <;> exact h⟩ (by kernel_rfl) fun su => ?_
  have SU := Lib.hid su
  have HS : Hid (w2.drew.cell? ⟨q, 4, none⟩ = some (.slice A x.bs.length cap)) := Lib.hid c40
  clear su c40
  generalize w2.drew = wd at *
  have HWD := HR2
  refine F_move (i := 0) _ SU.out rfl rfl (by kernel_rfl) HS.out rfl ?_
  simp only [Act.put, Act.eval, Array.getD_eq_getD_getElem?, List.setIfInBounds_toArray, List.set_cons_zero, List.set_cons_succ, List.getElem?_toArray, List.getElem?_cons_zero, List.getElem?_cons_succ, Option.getD_some]
  refine F_move (i := 1) _ SU.out rfl rfl (by kernel_rfl) HS.out rfl ?_
  simp only [Act.put, Act.eval, Array.getD_eq_getD_getElem?, List.setIfInBounds_toArray, List.set_cons_zero, List.set_cons_succ, List.getElem?_toArray, List.getElem?_cons_zero, List.getElem?_cons_succ, Option.getD_some]
  refine F_val (i := 2) (v := ?_) SU.out rfl (by kernel_rfl) HS.out rfl (fun W hS => ?_) ?_
  rotate_left
  · obtain s1 := hS
    go_simp
    all_goals first | done | rfl
  simp only [Act.put, List.setIfInBounds_toArray, List.set_cons_zero, List.set_cons_succ]
  refine F_val (i := 3) (v := ?_) SU.out rfl (by kernel_rfl) HS.out rfl (fun W hS => ?_) ?_
  rotate_left
  · obtain s1 := hS
    go_simp
    all_goals first | done | rfl
  simp only [Act.put, List.setIfInBounds_toArray, List.set_cons_zero, List.set_cons_succ]
  refine F_val (i := 4) (v := .slice A x.bs.length cap) SU.out rfl (by kernel_rfl) HS.out rfl (fun W hS => ?_) ?_
  · obtain s1 := hS
    go_simp
    all_goals first | done | rfl
  simp only [Act.put, List.setIfInBounds_toArray, List.set_cons_zero, List.set_cons_succ]
  refine F_move (i := 5) _ SU.out rfl rfl (by kernel_rfl) HS.out rfl ?_
  simp only [Act.put, Act.eval, Array.getD_eq_getD_getElem?, List.setIfInBounds_toArray, List.set_cons_zero, List.set_cons_succ, List.getElem?_toArray, List.getElem?_cons_zero, List.getElem?_cons_succ, Option.getD_some]
  refine F_move (i := 6) _ SU.out rfl rfl (by kernel_rfl) HS.out rfl ?_
  simp only [Act.put, Act.eval, Array.getD_eq_getD_getElem?, List.setIfInBounds_toArray, List.set_cons_zero, List.set_cons_succ, List.getElem?_toArray, List.getElem?_cons_zero, List.getElem?_cons_succ, Option.getD_some]
  refine F_cut (i := 7) 31 (.tmp 16) (.tmp 17) SU.out rfl rfl 5 i0 Tryz.underlying31 hi0 hz1 bA bn bc kk (by first | rfl | (simp [Act.eval]; done)) (by first | rfl | (simp [Act.eval]; done)) hkb hbc (by kernel_rfl) HS.out rfl ?_
  simp only [Act.put, List.setIfInBounds_toArray, List.set_cons_zero, List.set_cons_succ]
  refine wpAnyF_all (rs := [8]) (by kernel_rfl) (by simp) (fun w' hG => ?_)
  obtain rfl := hG
  refine allF.head rfl rfl (fun K7 hK7 => ?_) allF.nil
  have htk : (bs.take kk).length = kk := by simp; omega
  refine wp_append_OwnS (.tmp 15) (.tmp 18) 31 rfl 5 i0 _ Tryz.underlying31 hi0 hz0 hz1 rfl (.slice A x.bs.length cap) (byteVals x.bs) x.bs.length (byteVals_length _) (by first | rfl | (simp [Act.eval]; done)) HWD.out.2 bA kk bc (by first | rfl | (simp [Act.eval]; done)) (byteVals (bs.take kk)) (by have := At.take HBY2.out kk; simpa [byteVals, List.map_take] using this) (by rw [byteVals_length]; exact htk) (byteVals_one _) (by unfold maxLen; omega) (by rw [hz2]; omega) ?_
  intro A3 c3 w3 hown hgr hloc
  rw [← byteVals_append] at hown
  have hw3 := HWD.out.1.grown hgr (fun e => Own.ne_bk HWD.out.2 HWD.out.1 (by decide) e.symm)
  have c4 : w3.cell? ⟨q, 4, none⟩ = some (.slice A x.bs.length cap) := hw3.cell_ (i := 4) rfl
  have f4 := hw3.frozen 4
  refine hK7.out _ _ (.inr c4) ?_
  have HOWN := Lib.hid hown; have HGR := Lib.hid hgr; have HLOC := Lib.hid hloc; have HW3 := Lib.hid hw3
  clear hK7 K7 hw3 hown hgr hloc
  simp only [Act.put, List.setIfInBounds_toArray, List.set_cons_zero, List.set_cons_succ]
  refine wpAnyF_all (rs := [9]) (by kernel_rfl) (by simp) (fun w' hG => ?_)
  obtain rfl := hG
  refine allF.head rfl rfl (fun K9 hK9 => ?_) allF.nil
  go_simp
  refine hK9.out _ _ (.inr c4) ?_
  clear hK9 K9
  refine wpAnyF_all (rs := [10]) (by kernel_rfl) (by simp) (fun w' hG => ?_)
  obtain rfl := hG
  refine allF.head rfl rfl (fun Ka hKa => ?_) allF.nil
  go_simp
  refine hKa.out _ _ (.inr c4) ?_
  clear hKa Ka
  refine wpAnyF_all (rs := [11]) (by kernel_rfl) (by simp) (fun w' hG => ?_)
  obtain rfl := hG
  refine allF.head rfl rfl (fun Kb hKb => ?_) allF.nil
  go_simp
  refine hKb.out _ _ (.inl rfl) ?_
  clear hKb Kb
  refine wpAnyF_done (by kernel_rfl) (fun w' hG => ?_)
  obtain rfl := hG
  clear c4 f4
  go_wp2_with fail
  go_ret
  have hs : Fr [q] w3 (w3.setCell ⟨q, 4, none⟩ (.slice A3 (x.bs.length + kk) c3)) := (Fr.refl _ _).setCell (.inl (by simp)) _
  have ho3 : OwnB w3 (.slice A3 (x.bs.length + kk) c3) (x.bs ++ bs.take kk) := HOWN.out
  refine ⟨rfl, .slice A3 (x.bs.length + kk) c3, ⟨HW3.out.put 4 _, Own.fr ho3 hs (fun k hk => by have := Own.ne_bk ho3 HW3.out (by decide); simp; rintro rfl; exact this hk)⟩, ?_, ?_⟩
  · exact (HFD.out.nil_.grown HGR.out (fun g hg => .inl (by simp [hg]))).trans' hs (fun i hi => .inl (by simp at hi; simp [hi]))
  · intro k hk
    rcases HLOC.out with e | e
    · exact .inl (by rw [← e]; exact hk)
    · rw [hk] at e; injection e with e; have := HFD.out.size; exact .inr (by omega)
end Go.Proofs.YtecdghjimcfhpaaGreatDoor
