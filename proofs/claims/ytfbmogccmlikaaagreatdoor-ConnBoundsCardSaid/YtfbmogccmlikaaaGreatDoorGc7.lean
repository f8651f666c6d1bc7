/-
 A connection's Held, Record, Took, Want, Take, its separator any. No conditions on the program. (Printed by tools/gengc7.py.)
-/
import Derived.Test.YtfbmogccmlikaaaGreatDoorHd
import Derived.Test.YtfbmogccmlikaaaGreatDoorGl
import Derived.Deep.Cut
import Derived.Deep.CutBlock
namespace Go.Proofs.YtfbmogccmlikaaaGreatDoor.G
open Go.RowKit
set_option linter.unusedVariables false
set_option linter.unusedSimpArgs false
section
variable {P : Program} {Q : Exit → Act → World → Prop} {md : Region.Mode} {G : World → World → Prop} {S : World → Prop} {F : Nat → Bool} {l r : List Oper} {o : Oper} {i n : Nat} {listed : Array Bool} {a : Act} {w : World}
theorem T_cut (t : TypeId) (x oh : Operand) (su : Setup P l Q G S) (ho : l.drop i = o :: r) (hop : o.op = .slice t x none (some oh) none) (e : TypeId) (ti : TypeInfo) (ht : P.underlying t = some (.slice e)) (hi : P.info? e = some ti) (hs : ti.size = 1)
    (A : Option Addr) (len c h : Nat) (hxv : a.eval x = .slice A len c) (hh : a.eval oh = .int .i64 (h : Int)) (h1 : h ≤ len) (h2 : len ≤ c)
    (hB : ((Region.ready md l.toArray listed).contains i && Region.free md l.toArray listed i && (waitsT md l.toArray F i && closedB md l.toArray listed)) = true) (hS : S w) (hw : Region.wanted o (yielded l.toArray a.tmps) = true)
    (hr : wpAnyF P md l.toArray Q G S F n (listed.setIfInBounds i true) (a.put o.dst (.slice A h c)) w) : wpAnyF P md l.toArray Q G S F (n + 1) listed a w := by
 refine T_val su ho hB hS hw (fun w' _ => ?_) hr
 have hrun : (Instr.sliceAt t (a.eval x) none (some (a.eval oh)) none).run P w' = .ok (.slice A h c) w' := by
  rw [hxv, hh]
  have hb := run_bounds_ (P := P) len c none (some (.int .i64 (h : Int))) none 0 h c w' (.inl ⟨rfl, rfl⟩) (.inr rfl) (.inl ⟨rfl, rfl⟩) (Nat.zero_le _) (Nat.le_trans h1 h2) (Nat.le_refl _)
  have hA : A.map (·.add 0) = A := by cases A <;> simp [Addr.add]
  simp [Instr.sliceAt, Instr.slice, run_underlying ht, sizeOf, typeInfo, hi, hs, hb, hA]
 unfold execOp
 simp only [hop, Option.map_none, Option.map_some, hrun, Sem.run_bind, Result.andThen_ok, Sem.run_pure]
end
section
variable {w w' : World} {B g q r : Nat} {v : Value} {x y : Cu} {s : Sep} {lo hi room : Int} {bs bs' : List UInt8} {ab ab' : Bool} {qu go qu' go' : Int} {i : Nat} {st last idle st' last' idle' : Int}
set_option maxRecDepth 100000 in
theorem held_g (h : GCv w B g q r v x s lo hi room bs ab qu go st last idle) : Calls Tryz.prog 20 #[.pointer (some ⟨g, 0, none⟩)] w fun e w' => e = .returned (.tuple #[.int .i64 (x.bs.length : Int), .int .i64 (bs.length : Int)]) ∧ Fr [] w w' := by
 have hd := h.fr_nil (Fr.refl [] w).drew
 obtain ⟨c0', c1', -, -, -⟩ := hd.cells
 have HA := Lib.hid (GQ.held_any hd.qe)
 have HB := Lib.hid (held_any hd.cu)
 obtain ⟨n, hn⟩ : ∃ n, n = bs.length := ⟨_, rfl⟩
 obtain ⟨m, hm⟩ : ∃ m, m = x.bs.length := ⟨_, rfl⟩
 rw [← hn] at HA ⊢
 rw [← hm] at HB ⊢
 clear h hd hn hm
 go_enter Tryz.func20, Tryz.ntmps20
 go_upto_region 1 with fail
 have HFD : Hid (Fr [] w w.drew) := Lib.hid (Fr.refl [] w).drew
 refine wp_region_M_ (G := fun a b => a = b) (S := fun W => W = w.drew) ⟨fun _ => rfl, fun a b c h k => h.trans k, fun a b h k => k ▸ h, by kernel_rfl, fun _ _ d _ _ h => by cases d <;> exact h⟩ (by kernel_rfl) fun su => ?_
 have SU := Lib.hid su
 have HS : Hid (w.drew = w.drew) := Lib.hid rfl
 clear su
 generalize w.drew = wd at *
 refine M_move (i := 0) _ SU.out rfl rfl (by kernel_rfl) HS.out rfl ?_
 simp only [Act.put, Act.eval, PE]
 refine M_val (i := 1) (v := ?_) SU.out rfl (by kernel_rfl) HS.out rfl (fun W hS => ?_) ?_
 rotate_left
 ·obtain rfl := hS
  go_simp
  all_goals first | done | rfl | omega | (simp; done) | (simp; omega)
 simp only [Act.put, PU]
 refine M_val (i := 2) (v := ?_) SU.out rfl (by kernel_rfl) HS.out rfl (fun W hS => ?_) ?_
 rotate_left
 ·obtain rfl := hS
  go_simp
  all_goals first | done | rfl | omega | (simp; done) | (simp; omega)
 simp only [Act.put, PU]
 refine M_val (i := 3) (v := .pointer (some ⟨r, 0, none⟩)) SU.out rfl (by kernel_rfl) HS.out rfl (fun W hS => ?_) ?_
 ·obtain rfl := hS
  go_simp
  all_goals first | done | rfl | omega | (simp; done) | (simp; omega)
 simp only [Act.put, PU]
 refine M_call (i := 4) (v := .int .i64 (m : Int)) SU.out rfl (by kernel_rfl) HS.out rfl (fun W hS => by obtain rfl := hS; exact HB.out) (fun W => ?_) ?_
 ·go_simp
  first | done | rfl
 simp only [Act.put, PU]
 refine M_move (i := 5) _ SU.out rfl rfl (by kernel_rfl) HS.out rfl ?_
 simp only [Act.put, Act.eval, PE]
 refine M_val (i := 6) (v := ?_) SU.out rfl (by kernel_rfl) HS.out rfl (fun W hS => ?_) ?_
 rotate_left
 ·obtain rfl := hS
  go_simp
  all_goals first | done | rfl | omega | (simp; done) | (simp; omega)
 simp only [Act.put, PU]
 refine M_val (i := 7) (v := ?_) SU.out rfl (by kernel_rfl) HS.out rfl (fun W hS => ?_) ?_
 rotate_left
 ·obtain rfl := hS
  go_simp
  all_goals first | done | rfl | omega | (simp; done) | (simp; omega)
 simp only [Act.put, PU]
 refine M_val (i := 8) (v := .pointer (some ⟨q, 0, none⟩)) SU.out rfl (by kernel_rfl) HS.out rfl (fun W hS => ?_) ?_
 ·obtain rfl := hS
  go_simp
  all_goals first | done | rfl | omega | (simp; done) | (simp; omega)
 simp only [Act.put, PU]
 refine M_call (i := 9) (v := .int .i64 (n : Int)) SU.out rfl (by kernel_rfl) HS.out rfl (fun W hS => by obtain rfl := hS; exact HA.out) (fun W => ?_) ?_
 ·go_simp
  first | done | rfl
 simp only [Act.put, PU]
 refine M_val (i := 10) (v := ?_) SU.out rfl (by kernel_rfl) HS.out rfl (fun W hS => ?_) ?_
 rotate_left
 ·obtain rfl := hS
  go_simp
  all_goals first | done | rfl | omega | (simp; done) | (simp; omega)
 simp only [Act.put, PU]
 refine M_val (i := 11) (v := ?_) SU.out rfl (by kernel_rfl) HS.out rfl (fun W hS => ?_) ?_
 rotate_left
 ·obtain rfl := hS
  go_simp
  all_goals first | done | rfl | omega | (simp; done) | (simp; omega)
 simp only [Act.put, PU]
 refine wpAnyM_done (by kernel_rfl) (fun w' hG => ?_)
 obtain rfl := hG
 go_wp2_with fail
 go_ret2
 exact ⟨rfl, HFD.out⟩
theorem record_no (h : GCv w B g q r v x s lo hi room bs ab qu go st last idle) (hs : 1 < st ∨ ab = true) : Calls Tryz.prog 9 #[.pointer (some ⟨g, 0, none⟩)] w fun e w' => e = .returned (.tuple #[.string ⟨#[]⟩, .bool false, .nilIface]) ∧ w = w' := by
 obtain ⟨c0, c1, c2, -, -⟩ := h.cells
 have HQ := Lib.hid h.qe
 clear h
 by_cases h1 : 1 < st
 ·have t0 : decide (1 < st) = true := decide_eq_true h1
  clear hs h1
  go_enter Tryz.func9, Tryz.ntmps9
  go_wp2_with fail
  go_ret3
  exact ⟨rfl, rfl⟩
 ·have t0 : decide (1 < st) = false := decide_eq_false h1
  obtain rfl : ab = true := hs.resolve_left h1
  clear hs h1
  go_enter Tryz.func9, Tryz.ntmps9
  go_wp2_with fail
  go_at_call 28
  refine (GQ.above_any HQ.out).mono ?_
  rintro e w2 ⟨rfl, rfl⟩
  go_wp2_with fail
  go_ret3
  exact ⟨rfl, rfl⟩
theorem recV_cases (a : Option (List UInt8)) (b : Bool) : ∃ t k e, recV a b = .tuple #[.string t, .bool k, e] ∧ (k = true ↔ a.isSome = true) := by
 cases a with
 | some t => exact ⟨_, true, _, rfl, by simp⟩
 | none => cases b <;> exact ⟨_, false, _, rfl, by simp⟩
set_option maxRecDepth 100000 in
theorem record_g (h : GCv w B g q r v x s lo hi room bs false qu go st last idle) (hB : B ≤ w.heap.size) (hst : st ≤ 1) (hs : s.ok) (hg : GlobOk w) (hb : x.bs.length ≤ 10000) :
    Calls Tryz.prog 9 #[.pointer (some ⟨g, 0, none⟩)] w fun e w' => e = .returned (recV (nextG s x).1 (nextG s x).2.1) ∧ (∃ v', GCv w' B g q r v' (nextG s x).2.2 s lo hi room bs false qu go st last idle) ∧ BK B w w' := by
 obtain ⟨c0, c1, c2, -, -⟩ := h.cells
 have HQ := Lib.hid h.qe
 have HN := Lib.hid ((next_gen h.cu h.sp hs hg hb).mono fun e w' k => And.intro k.1 (h.cut hB k.2 ⟨(nextG_same hs x).1, (nextG_same hs x).2.1, (nextG_same hs x).2.2.1⟩))
 have t0 : decide (1 < st) = false := decide_eq_false (by omega)
 obtain ⟨RV, hRV⟩ : ∃ RV, RV = recV (nextG s x).1 (nextG s x).2.1 := ⟨_, rfl⟩
 obtain ⟨t, k, e0, hrv, -⟩ := recV_cases (nextG s x).1 (nextG s x).2.1
 rw [hrv] at HN ⊢
 clear h hRV hrv
 go_enter Tryz.func9, Tryz.ntmps9
 go_wp2_with fail
 go_at_call 28
 refine (GQ.above_any HQ.out).mono ?_
 rintro e w2 ⟨rfl, rfl⟩
 go_wp2_with fail
 go_at_call 29
 refine HN.out.mono ?_
 rintro e w2 ⟨rfl, hc, hbl⟩
 have HC := Lib.hid hc; have HBL := Lib.hid hbl
 clear hc hbl
 go_wp2_with fail
 go_ret3
 exact ⟨rfl, HC.out, HBL.out⟩
theorem took_no (h : GCv w B g q r v x s lo hi room bs ab qu go st last idle) (now n : Int) (hs : 3 ≤ st ∨ ¬ (0 ≤ now ∧ now ≤ 1099511627776)) : Calls Tryz.prog 16 #[.pointer (some ⟨g, 0, none⟩), .int .i64 now, .int .i64 n] w fun e w' => e = .returned (.int .i64 0) ∧ w = w' := by
 obtain ⟨c0, c1, c2, -, -⟩ := h.cells
 clear h
 by_cases h1 : 3 ≤ st
 ·have t0 : decide (3 ≤ st) = true := decide_eq_true h1
  clear hs h1
  go_enter Tryz.func16, Tryz.ntmps16
  go_wp2_with fail
  go_ret
  exact ⟨rfl, rfl⟩
 ·have t0 : decide (3 ≤ st) = false := decide_eq_false h1
  have ht := hs.resolve_left h1
  have t1 : (decide (0 ≤ now) && decide (now ≤ 1099511627776)) = false := by
   rw [Bool.and_eq_false_iff, decide_eq_false_iff_not, decide_eq_false_iff_not]
   by_cases ha : 0 ≤ now
   ·exact .inr fun hb => ht ⟨ha, hb⟩
   ·exact .inl ha
  have HIT := Lib.hid (inTime_any now w)
  rw [t1] at HIT
  clear hs h1 ht t1
  go_enter Tryz.func16, Tryz.ntmps16
  go_wp2_with fail
  go_at_call 23
  refine HIT.out.mono ?_
  rintro e w2 ⟨rfl, rfl⟩
  go_wp2_with fail
  go_ret
  exact ⟨rfl, rfl⟩
set_option maxRecDepth 100000 in
theorem took_g (h : GCv w B g q r v x s lo hi room bs ab qu go st last idle) (hB : B ≤ w.heap.size) (now n : Int) (hs : st < 3) (ht : 0 ≤ now ∧ now ≤ 1099511627776) (hl : bs.length ≤ 65536) (hg0 : 0 ≤ go) (hg1 : go ≤ 1000000000000000) (kk : Nat) (hk : kk = GQ.clampN n bs.length) :
    Calls Tryz.prog 16 #[.pointer (some ⟨g, 0, none⟩), .int .i64 now, .int .i64 n] w fun e w' => e = .returned (.int .i64 (kk : Int)) ∧ (∃ last', GCv w' B g q r v x s lo hi room (bs.drop kk) (GQ.markB lo hi (bs.drop kk).length ab) qu (go + kk) st last' idle) ∧ BK B w w' := by
 obtain ⟨c0, c1, c2, -, -⟩ := h.cells
 have t0 : decide (3 ≤ st) = false := decide_eq_false (by omega)
 have HQ := Lib.hid (GQ.took_at h.qe hl n kk hk hg0 hg1)
 have H := Lib.hid h
 have HIT := Lib.hid (inTime_any now w)
 rw [decide_eq_true ht.1, decide_eq_true ht.2] at HIT
 clear h c1 hk
 go_enter Tryz.func16, Tryz.ntmps16
 go_wp2_with fail
 go_at_call 23
 refine HIT.out.mono ?_
 rintro e w2 ⟨rfl, rfl⟩
 go_wp2_with fail
 go_at_call 35
 refine HQ.out.mono ?_
 rintro e w2 ⟨rfl, hq, hf⟩
 have hx := H.out.que hB hf hq
 have HC := Lib.hid hx.1; have HBL := Lib.hid hx.2; have HS := Lib.hid (Nat.le_trans hB hf.size)
 clear hq hf HQ H c0 c2 hx
 by_cases hz : 0 < kk
 ·obtain ⟨-, -, -, c3, -⟩ := HC.out.cells
  have f3 := HC.out.cn.frozen 3
  have t1 : decide ((0 : Int) < (kk : Int)) = true := decide_eq_true (by omega)
  have t2 : decide (0 < kk) = true := decide_eq_true hz
  go_wp2_with fail
  go_ret
  have hy := HC.out.set3 HS.out now
  exact ⟨rfl, ⟨_, hy.1⟩, HBL.out.trans hy.2⟩
 ·have hnp : ¬ (0 : Int) < (kk : Int) := by omega
  have t2 : decide (0 < kk) = false := decide_eq_false hz
  go_wp2_with fail
  go_ret
  exact ⟨rfl, ⟨_, HC.out⟩, HBL.out⟩
set_option maxRecDepth 100000 in
theorem want_g (h : GCv w B g q r v x s lo hi room bs ab qu go 0 last idle) (hr : 0 ≤ x.room ∧ x.room ≤ 65536) (hb : x.bs.length ≤ 65536) :
    Calls Tryz.prog 26 #[.pointer (some ⟨g, 0, none⟩)] w fun e w' => e = .returned (.int .i64 (if ab = true then 0 else freeM x)) ∧ Fr [] w w' := by
 obtain ⟨c0, c1, c2, -, -⟩ := h.cells
 have HQ := Lib.hid h.qe
 have H5 := Lib.hid h.cu
 clear h
 cases ab
 ·rw [if_neg (by simp)]
  go_enter Tryz.func26, Tryz.ntmps26
  go_wp2_with fail
  go_at_call 28
  refine (GQ.above_any HQ.out).mono ?_
  rintro e w2 ⟨rfl, rfl⟩
  go_wp2_with fail
  go_at_call 41
  refine (free_any H5.out hr hb).mono ?_
  rintro e w2 ⟨rfl, hf⟩
  have HF := Lib.hid hf; clear hf
  go_wp2_with fail
  go_ret
  exact ⟨rfl, HF.out⟩
 ·rw [if_pos rfl]
  go_enter Tryz.func26, Tryz.ntmps26
  go_wp2_with fail
  go_at_call 28
  refine (GQ.above_any HQ.out).mono ?_
  rintro e w2 ⟨rfl, rfl⟩
  go_wp2_with fail
  go_ret
  exact ⟨rfl, Fr.refl _ _⟩
theorem take_no (h : GCv w B g q r v x s lo hi room bs ab qu go st last idle) (now : Int) (A : Option Addr) (n c : Nat) (cl : Bool) (hs : st ≠ 0 ∨ ¬ (0 ≤ now ∧ now ≤ 1099511627776)) : Calls Tryz.prog 8 #[.pointer (some ⟨g, 0, none⟩), .int .i64 now, .slice A n c, .bool cl] w fun e w' => e = .returned (.int .i64 0) ∧ w = w' := by
 obtain ⟨c0, c1, c2, -, -⟩ := h.cells
 clear h
 by_cases h1 : st = 0
 ·have ht := hs.resolve_left (fun e => e h1)
  have t1 : (decide (0 ≤ now) && decide (now ≤ 1099511627776)) = false := by
   rw [Bool.and_eq_false_iff, decide_eq_false_iff_not, decide_eq_false_iff_not]
   by_cases ha : 0 ≤ now
   ·exact .inr fun hb => ht ⟨ha, hb⟩
   ·exact .inl ha
  have HIT := Lib.hid (inTime_any now w)
  rw [t1] at HIT
  have t0 : (st != 0) = false := by simp [h1]
  clear hs h1 ht t1
  go_enter Tryz.func8, Tryz.ntmps8
  go_wp2_with fail
  go_at_call 23
  refine HIT.out.mono ?_
  rintro e w2 ⟨rfl, rfl⟩
  go_wp2_with fail
  go_ret
  exact ⟨rfl, rfl⟩
 ·have t0 : (st != 0) = true := by simpa using h1
  clear hs h1
  go_enter Tryz.func8, Tryz.ntmps8
  go_wp2_with fail
  go_ret
  exact ⟨rfl, rfl⟩
theorem end_g (h : GCv w B g q r v x s lo hi room bs ab qu go st last idle) (hB : B ≤ w.heap.size) : Calls Tryz.prog 27 #[.pointer (some ⟨r, 0, none⟩)] w fun e w' => e = .returned (.tuple #[]) ∧ (∃ v', GCv w' B g q r v' { x with en := true } s lo hi room bs ab qu go st last idle) ∧ BK B w w' :=
 (end_any h.cu).mono fun e w' k => ⟨k.1, h.cut hB k.2 ⟨rfl, rfl, rfl⟩⟩
theorem put_g (h : GCv w B g q r v x s lo hi room bs ab qu go st last idle) (hB : B ≤ w.heap.size) (hr : 0 ≤ x.room ∧ x.room ≤ 65536) (hb : (x.bs.length : Int) ≤ x.room) {bA : Option Addr} {xs : List UInt8} {bn bc : Nat} (hn : xs.length = bn) (hby : Bytes w bA xs) (hbc : bn ≤ bc) (hbl : bn ≤ 100000000) (hkk : (bn : Int) = min (bn : Int) (freeM x)) :
    Calls Tryz.prog 25 #[.pointer (some ⟨r, 0, none⟩), .slice bA bn bc] w fun e w' => e = .returned (.int .i64 (bn : Int)) ∧ (∃ v', GCv w' B g q r v' { x with bs := x.bs ++ xs } s lo hi room bs ab qu go st last idle) ∧ BK B w w' := by
 have ht : xs.take bn = xs := List.take_of_length_le (by omega)
 have := cput_any h.cu hr hb hn hby hbc hbl bn hkk
 rw [ht] at this
 exact this.mono fun e w' k => ⟨k.1, h.cut hB k.2 ⟨rfl, rfl, rfl⟩⟩
set_option maxRecDepth 100000 in
set_option maxHeartbeats 2000000 in
theorem take_end_ (h : GCv w B g q r v x s lo hi room bs ab qu go 0 last idle) (hB : B ≤ w.heap.size) (hr : 0 ≤ x.room ∧ x.room ≤ 65536) (hb : (x.bs.length : Int) ≤ x.room) (now : Int) (ht : 0 ≤ now ∧ now ≤ 1099511627776) {bA : Option Addr} {xs : List UInt8} {bn bc : Nat} (hn : xs.length = bn) (hby : Bytes w bA xs) (hbc : bn ≤ bc) (hbl : bn ≤ 1000) (kk : Nat) (hkk : (kk : Int) = min (bn : Int) (if ab = true then 0 else freeM x)) (hz : kk = bn) (hp : 0 < kk) :
    Calls Tryz.prog 8 #[.pointer (some ⟨g, 0, none⟩), .int .i64 now, .slice bA bn bc, .bool true] w fun e w' => e = .returned (.int .i64 (kk : Int)) ∧ (∃ v', GCv w' B g q r v' { x with bs := x.bs ++ xs.take kk, en := true } s lo hi room bs ab qu go 1 now idle) ∧ BK B w w' := by
 obtain ⟨i0, hi0, hz0, hz1, hz2⟩ := u8parts
 obtain ⟨c0, c1, c2, c3, -⟩ := h.cells
 obtain ⟨WM, hWM⟩ : ∃ WM, (if ab = true then 0 else freeM x) = WM := ⟨_, rfl⟩
 have hwf : WM ≤ freeM x := by
  rw [← hWM]
  split
  ·unfold freeM; split <;> omega
  ·exact Int.le_refl _
 rw [hWM] at hkk
 have hkb : kk ≤ bn := by omega
 have HKM : Hid ((kk : Int) = min (kk : Int) (freeM x)) := Lib.hid (by omega)
 have HWM := Lib.hid hWM
 have H := Lib.hid h; have HBY : Hid (Bytes w bA (xs.take kk)) := Lib.hid (by have := At.take hby kk; simpa [Bytes, byteVals, List.map_take] using this); have HFIT := Lib.hid hkk; have HSZ := Lib.hid hB; have HBR := Lib.hid hb
 have HTL : Hid ((xs.take kk).length = kk) := Lib.hid (by rw [List.length_take]; omega)
 have HRM : Hid ((0 ≤ x.room ∧ x.room ≤ 65536) ∧ x.bs.length ≤ 65536) := Lib.hid ⟨hr, by omega⟩
 have HIT := Lib.hid (inTime_any now w)
 rw [decide_eq_true ht.1, decide_eq_true ht.2] at HIT
 have t9 : ((kk : Int) == (bn : Int)) = true := by simp [hz]
 have t9' : (kk == bn) = true := by simp [hz]
 clear hz
 have t8 : decide ((0 : Int) < (kk : Int)) = true := decide_eq_true (by omega)
 have t8' : decide (0 < kk) = true := decide_eq_true hp
 clear h hby hkk hB hr hb hWM hwf
 go_enter Tryz.func8, Tryz.ntmps8
 go_wp2_with fail
 go_at_call 23
 refine HIT.out.mono ?_
 rintro e w2 ⟨rfl, rfl⟩
 go_upto_region 3 with fail
 clear c0 c1 c2 c3
 refine wp_region_F_ (G := fun a b => Fr [] a b) (F := fun i => i == 11 || i == 12) (S := fun W => Fr [] w.drew W) ⟨fun _ => Fr.refl _ _, fun a b c h k => h.trans k, fun a b h k => h.trans k, by kernel_rfl, fun _ _ d _ _ h => by cases d <;> exact h⟩ (by kernel_rfl) fun su => ?_
 have SU := Lib.hid su
 have HS : Hid (Fr [] w.drew w.drew) := Lib.hid (Fr.refl _ _)
 clear su
 have HCD := Lib.hid (H.out.fr_nil (Fr.refl [] w).drew)
 have HBD : Hid (Bytes w.drew bA (xs.take kk)) := Lib.hid (At.fr_nil HBY.out (Fr.refl [] w).drew)
 have HWB : Hid (BK B w w.drew) := Lib.hid (BK.of (Fr.refl [] w).drew HSZ.out)
 have HDS : Hid (B ≤ w.drew.heap.size) := Lib.hid HSZ.out
 clear H HBY
 generalize w.drew = wd at *
 refine T_move (i := 0) _ SU.out rfl rfl (by kernel_rfl) HS.out rfl ?_
 simp only [Act.put, Act.eval, PE]
 refine T_val (i := 1) (v := ?_) SU.out rfl (by kernel_rfl) HS.out rfl (fun W hS => ?_) ?_
 rotate_left
 ·obtain s1 := hS
  go_simp
  all_goals first | done | rfl | omega | (simp; done) | (simp; omega)
 simp only [Act.put, PU]
 refine T_val (i := 2) (v := ?_) SU.out rfl (by kernel_rfl) HS.out rfl (fun W hS => ?_) ?_
 rotate_left
 ·obtain s1 := hS
  go_simp
  all_goals first | done | rfl | omega | (simp; done) | (simp; omega)
 simp only [Act.put, PU]
 refine T_val (i := 3) (v := .pointer (some ⟨r, 0, none⟩)) SU.out rfl (by kernel_rfl) HS.out rfl (fun W hS => ?_) ?_
 ·obtain ⟨-, s1, -, -, -⟩ := (HCD.out.fr_nil hS).cells
  go_simp
  all_goals first | done | rfl
 simp only [Act.put, PU]
 refine T_move (i := 4) _ SU.out rfl rfl (by kernel_rfl) HS.out rfl ?_
 simp only [Act.put, Act.eval, PE]
 refine T_move (i := 5) _ SU.out rfl rfl (by kernel_rfl) HS.out rfl ?_
 simp only [Act.put, Act.eval, PE]
 refine T_val (i := 6) (v := ?_) SU.out rfl (by kernel_rfl) HS.out rfl (fun W hS => ?_) ?_
 rotate_left
 ·obtain s1 := hS
  go_simp
  all_goals first | done | rfl | omega | (simp; done) | (simp; omega)
 simp only [Act.put, PU]
 refine T_move (i := 7) _ SU.out rfl rfl (by kernel_rfl) HS.out rfl ?_
 simp only [Act.put, Act.eval, PE]
 refine T_call (i := 8) (v := .int .i64 WM) SU.out rfl (by kernel_rfl) HS.out rfl (fun W hS => by rw [← HWM.out]; exact want_g (HCD.out.fr_nil hS) HRM.out.1 HRM.out.2) (fun W => ?_) ?_
 ·go_simp
  first | done | rfl
 simp only [Act.put, PU]
 refine T_val (i := 9) (v := .int .i64 (kk : Int)) SU.out rfl (by kernel_rfl) HS.out rfl (fun W hS => ?_) ?_
 ·have hr : (Builtin.min_ #[3, 3] 3 #[.int .i64 (bn : Int), .int .i64 WM]).run Tryz.prog W = .ok (.int .i64 (kk : Int)) W := by
   have e : (if WM < (bn : Int) then WM else (bn : Int)) = (kk : Int) := by have := HFIT.out; split <;> omega
   simp [Builtin.min_, Builtin.min2, e]
  unfold execOp
  simp only [resolve, invoke, builtin, Sem.run_bind, Sem.run_pure, Result.andThen_ok, List.map_toArray, List.map_cons, List.map_nil, Act.eval, Array.getD_eq_getD_getElem?, List.getElem?_toArray, List.getElem?_cons_zero, List.getElem?_cons_succ, Option.getD_some, hr]
 simp only [Act.put, PU]
 refine T_cut (i := 10) 34 (.tmp 24) (.tmp 29) SU.out rfl rfl 5 i0 Tryz.underlying34 hi0 hz1 bA bn bc kk (by first | rfl | (simp [Act.eval]; done)) (by first | rfl | (simp [Act.eval]; done)) hkb hbc (by kernel_rfl) HS.out rfl ?_
 simp only [Act.put, PU]
 refine wpAnyF_all (rs := [11]) (by kernel_rfl) (by simp) (fun w1 hG => ?_)
 have HG1 := Lib.hid hG; clear hG
 refine allF.head rfl rfl (fun K7 hK7 => ?_) allF.nil
 refine wp_call_ (f := 25) (args := #[.pointer (some ⟨r, 0, none⟩), .slice bA kk bc]) (R := fun u w' => u = .int .i64 (kk : Int) ∧ (∃ v', GCv w' B g q r v' { x with bs := x.bs ++ xs.take kk } s lo hi room bs ab qu go 0 last idle) ∧ BK B w1 w') (by go_simp; first | done | rfl) ?_ ?_
 ·refine (put_g (HCD.out.fr_nil HG1.out) (Nat.le_trans HDS.out HG1.out.size) HRM.out.1 HBR.out HTL.out (At.fr_nil HBD.out HG1.out) (by omega) (by omega) HKM.out).mono ?_
  rintro e w' ⟨he, h1, h2⟩
  exact ⟨_, he, rfl, h1, h2⟩
 rintro u w3 ⟨rfl, ⟨v3, hcn3⟩, hb3⟩
 have HC3 := Lib.hid hcn3; have HB3 : Hid (BK B w w3) := Lib.hid ((HWB.out.trans (BK.of HG1.out HDS.out)).trans hb3)
 clear hcn3 hb3
 refine hK7.out _ _ (.inl rfl) ?_
 clear hK7 K7
 simp only [Act.put, PU]
 refine wpAnyF_all (rs := [12]) (by kernel_rfl) (by simp) (fun w4 hG => ?_)
 have HC4 := Lib.hid (HC3.out.fr_nil hG); have HB4 := Lib.hid (HB3.out.trans (BK.of hG (Nat.le_trans HSZ.out HB3.out.size)))
 clear hG
 refine allF.head rfl rfl (fun Kb hKb => ?_) allF.nil
 go_simp
 refine hKb.out _ _ (.inl rfl) ?_
 clear hKb Kb
 refine wpAnyF_done (by kernel_rfl) (fun w5 hG => ?_)
 have HS4 : B ≤ w4.heap.size := Nat.le_trans HSZ.out HB4.out.size
 have HC5 := Lib.hid (HC4.out.fr_nil hG); have HB5 := Lib.hid (HB4.out.trans (BK.of hG HS4)); have HS5 := Lib.hid (Nat.le_trans HS4 hG.size)
 clear hG HC4 HB4 HC3 HB3 HS4 HCD HBD HWB HDS HG1
 obtain ⟨-, c1', c2', c3', -⟩ := HC5.out.cells
 go_wp2_with fail
 go_at_call 27
 refine (end_g HC5.out HS5.out).mono ?_
 rintro e w6 ⟨rfl, ⟨v6, hc6⟩, hb6⟩
 have HC6 := Lib.hid hc6; have HB6 := Lib.hid (HB5.out.trans hb6); have HS6 := Lib.hid (Nat.le_trans HS5.out hb6.size)
 clear hc6 hb6 HC5 HB5 HS5 c1' c2' c3'
 obtain ⟨-, -, c2', c3', -⟩ := HC6.out.cells
 have f2 := HC6.out.cn.frozen 2
 have h6 := HC6.out.set2 HS6.out 1
 have HC7 := Lib.hid h6.1; have HB7 := Lib.hid (HB6.out.trans h6.2)
 obtain ⟨-, -, c27, c37, -⟩ := h6.1.cells
 have f3 := h6.1.cn.frozen 3
 have f37 : (w6.setCell ⟨g, 2, none⟩ (.int .i64 1)).frozen? ⟨g, 3, none⟩ = false := f3
 clear h6 f3
 go_wp2_with fail
 go_ret
 have hy := HC7.out.set3 (Nat.le_trans HS6.out (by simp)) now
 exact ⟨rfl, ⟨_, hy.1⟩, HB7.out.trans hy.2⟩
set_option maxRecDepth 100000 in
set_option maxHeartbeats 2000000 in
theorem take_end0 (h : GCv w B g q r v x s lo hi room bs ab qu go 0 last idle) (hB : B ≤ w.heap.size) (hr : 0 ≤ x.room ∧ x.room ≤ 65536) (hb : (x.bs.length : Int) ≤ x.room) (now : Int) (ht : 0 ≤ now ∧ now ≤ 1099511627776) {bA : Option Addr} {xs : List UInt8} {bn bc : Nat} (hn : xs.length = bn) (hby : Bytes w bA xs) (hbc : bn ≤ bc) (hbl : bn ≤ 1000) (kk : Nat) (hkk : (kk : Int) = min (bn : Int) (if ab = true then 0 else freeM x)) (hz : kk = bn) (hp : kk = 0) :
    Calls Tryz.prog 8 #[.pointer (some ⟨g, 0, none⟩), .int .i64 now, .slice bA bn bc, .bool true] w fun e w' => e = .returned (.int .i64 (kk : Int)) ∧ (∃ v', GCv w' B g q r v' { x with bs := x.bs ++ xs.take kk, en := true } s lo hi room bs ab qu go 1 now idle) ∧ BK B w w' := by
 obtain ⟨i0, hi0, hz0, hz1, hz2⟩ := u8parts
 obtain ⟨c0, c1, c2, c3, -⟩ := h.cells
 obtain ⟨WM, hWM⟩ : ∃ WM, (if ab = true then 0 else freeM x) = WM := ⟨_, rfl⟩
 have hwf : WM ≤ freeM x := by
  rw [← hWM]
  split
  ·unfold freeM; split <;> omega
  ·exact Int.le_refl _
 rw [hWM] at hkk
 have hkb : kk ≤ bn := by omega
 have HKM : Hid ((kk : Int) = min (kk : Int) (freeM x)) := Lib.hid (by omega)
 have HWM := Lib.hid hWM
 have H := Lib.hid h; have HBY : Hid (Bytes w bA (xs.take kk)) := Lib.hid (by have := At.take hby kk; simpa [Bytes, byteVals, List.map_take] using this); have HFIT := Lib.hid hkk; have HSZ := Lib.hid hB; have HBR := Lib.hid hb
 have HTL : Hid ((xs.take kk).length = kk) := Lib.hid (by rw [List.length_take]; omega)
 have HRM : Hid ((0 ≤ x.room ∧ x.room ≤ 65536) ∧ x.bs.length ≤ 65536) := Lib.hid ⟨hr, by omega⟩
 have HIT := Lib.hid (inTime_any now w)
 rw [decide_eq_true ht.1, decide_eq_true ht.2] at HIT
 have t9 : ((kk : Int) == (bn : Int)) = true := by simp [hz]
 have t9' : (kk == bn) = true := by simp [hz]
 clear hz
 have t8 : ¬ (0 : Int) < (kk : Int) := by omega
 have t8' : decide (0 < kk) = false := decide_eq_false (by omega)
 clear hp
 clear h hby hkk hB hr hb hWM hwf
 go_enter Tryz.func8, Tryz.ntmps8
 go_wp2_with fail
 go_at_call 23
 refine HIT.out.mono ?_
 rintro e w2 ⟨rfl, rfl⟩
 go_upto_region 3 with fail
 clear c0 c1 c2 c3
 refine wp_region_F_ (G := fun a b => Fr [] a b) (F := fun i => i == 11 || i == 12) (S := fun W => Fr [] w.drew W) ⟨fun _ => Fr.refl _ _, fun a b c h k => h.trans k, fun a b h k => h.trans k, by kernel_rfl, fun _ _ d _ _ h => by cases d <;> exact h⟩ (by kernel_rfl) fun su => ?_
 have SU := Lib.hid su
 have HS : Hid (Fr [] w.drew w.drew) := Lib.hid (Fr.refl _ _)
 clear su
 have HCD := Lib.hid (H.out.fr_nil (Fr.refl [] w).drew)
 have HBD : Hid (Bytes w.drew bA (xs.take kk)) := Lib.hid (At.fr_nil HBY.out (Fr.refl [] w).drew)
 have HWB : Hid (BK B w w.drew) := Lib.hid (BK.of (Fr.refl [] w).drew HSZ.out)
 have HDS : Hid (B ≤ w.drew.heap.size) := Lib.hid HSZ.out
 clear H HBY
 generalize w.drew = wd at *
 refine T_move (i := 0) _ SU.out rfl rfl (by kernel_rfl) HS.out rfl ?_
 simp only [Act.put, Act.eval, PE]
 refine T_val (i := 1) (v := ?_) SU.out rfl (by kernel_rfl) HS.out rfl (fun W hS => ?_) ?_
 rotate_left
 ·obtain s1 := hS
  go_simp
  all_goals first | done | rfl | omega | (simp; done) | (simp; omega)
 simp only [Act.put, PU]
 refine T_val (i := 2) (v := ?_) SU.out rfl (by kernel_rfl) HS.out rfl (fun W hS => ?_) ?_
 rotate_left
 ·obtain s1 := hS
  go_simp
  all_goals first | done | rfl | omega | (simp; done) | (simp; omega)
 simp only [Act.put, PU]
 refine T_val (i := 3) (v := .pointer (some ⟨r, 0, none⟩)) SU.out rfl (by kernel_rfl) HS.out rfl (fun W hS => ?_) ?_
 ·obtain ⟨-, s1, -, -, -⟩ := (HCD.out.fr_nil hS).cells
  go_simp
  all_goals first | done | rfl
 simp only [Act.put, PU]
 refine T_move (i := 4) _ SU.out rfl rfl (by kernel_rfl) HS.out rfl ?_
 simp only [Act.put, Act.eval, PE]
 refine T_move (i := 5) _ SU.out rfl rfl (by kernel_rfl) HS.out rfl ?_
 simp only [Act.put, Act.eval, PE]
 refine T_val (i := 6) (v := ?_) SU.out rfl (by kernel_rfl) HS.out rfl (fun W hS => ?_) ?_
 rotate_left
 ·obtain s1 := hS
  go_simp
  all_goals first | done | rfl | omega | (simp; done) | (simp; omega)
 simp only [Act.put, PU]
 refine T_move (i := 7) _ SU.out rfl rfl (by kernel_rfl) HS.out rfl ?_
 simp only [Act.put, Act.eval, PE]
 refine T_call (i := 8) (v := .int .i64 WM) SU.out rfl (by kernel_rfl) HS.out rfl (fun W hS => by rw [← HWM.out]; exact want_g (HCD.out.fr_nil hS) HRM.out.1 HRM.out.2) (fun W => ?_) ?_
 ·go_simp
  first | done | rfl
 simp only [Act.put, PU]
 refine T_val (i := 9) (v := .int .i64 (kk : Int)) SU.out rfl (by kernel_rfl) HS.out rfl (fun W hS => ?_) ?_
 ·have hr : (Builtin.min_ #[3, 3] 3 #[.int .i64 (bn : Int), .int .i64 WM]).run Tryz.prog W = .ok (.int .i64 (kk : Int)) W := by
   have e : (if WM < (bn : Int) then WM else (bn : Int)) = (kk : Int) := by have := HFIT.out; split <;> omega
   simp [Builtin.min_, Builtin.min2, e]
  unfold execOp
  simp only [resolve, invoke, builtin, Sem.run_bind, Sem.run_pure, Result.andThen_ok, List.map_toArray, List.map_cons, List.map_nil, Act.eval, Array.getD_eq_getD_getElem?, List.getElem?_toArray, List.getElem?_cons_zero, List.getElem?_cons_succ, Option.getD_some, hr]
 simp only [Act.put, PU]
 refine T_cut (i := 10) 34 (.tmp 24) (.tmp 29) SU.out rfl rfl 5 i0 Tryz.underlying34 hi0 hz1 bA bn bc kk (by first | rfl | (simp [Act.eval]; done)) (by first | rfl | (simp [Act.eval]; done)) hkb hbc (by kernel_rfl) HS.out rfl ?_
 simp only [Act.put, PU]
 refine wpAnyF_all (rs := [11]) (by kernel_rfl) (by simp) (fun w1 hG => ?_)
 have HG1 := Lib.hid hG; clear hG
 refine allF.head rfl rfl (fun K7 hK7 => ?_) allF.nil
 refine wp_call_ (f := 25) (args := #[.pointer (some ⟨r, 0, none⟩), .slice bA kk bc]) (R := fun u w' => u = .int .i64 (kk : Int) ∧ (∃ v', GCv w' B g q r v' { x with bs := x.bs ++ xs.take kk } s lo hi room bs ab qu go 0 last idle) ∧ BK B w1 w') (by go_simp; first | done | rfl) ?_ ?_
 ·refine (put_g (HCD.out.fr_nil HG1.out) (Nat.le_trans HDS.out HG1.out.size) HRM.out.1 HBR.out HTL.out (At.fr_nil HBD.out HG1.out) (by omega) (by omega) HKM.out).mono ?_
  rintro e w' ⟨he, h1, h2⟩
  exact ⟨_, he, rfl, h1, h2⟩
 rintro u w3 ⟨rfl, ⟨v3, hcn3⟩, hb3⟩
 have HC3 := Lib.hid hcn3; have HB3 : Hid (BK B w w3) := Lib.hid ((HWB.out.trans (BK.of HG1.out HDS.out)).trans hb3)
 clear hcn3 hb3
 refine hK7.out _ _ (.inl rfl) ?_
 clear hK7 K7
 simp only [Act.put, PU]
 refine wpAnyF_all (rs := [12]) (by kernel_rfl) (by simp) (fun w4 hG => ?_)
 have HC4 := Lib.hid (HC3.out.fr_nil hG); have HB4 := Lib.hid (HB3.out.trans (BK.of hG (Nat.le_trans HSZ.out HB3.out.size)))
 clear hG
 refine allF.head rfl rfl (fun Kb hKb => ?_) allF.nil
 go_simp
 refine hKb.out _ _ (.inl rfl) ?_
 clear hKb Kb
 refine wpAnyF_done (by kernel_rfl) (fun w5 hG => ?_)
 have HS4 : B ≤ w4.heap.size := Nat.le_trans HSZ.out HB4.out.size
 have HC5 := Lib.hid (HC4.out.fr_nil hG); have HB5 := Lib.hid (HB4.out.trans (BK.of hG HS4)); have HS5 := Lib.hid (Nat.le_trans HS4 hG.size)
 clear hG HC4 HB4 HC3 HB3 HS4 HCD HBD HWB HDS HG1
 obtain ⟨-, c1', c2', c3', -⟩ := HC5.out.cells
 go_wp2_with fail
 go_at_call 27
 refine (end_g HC5.out HS5.out).mono ?_
 rintro e w6 ⟨rfl, ⟨v6, hc6⟩, hb6⟩
 have HC6 := Lib.hid hc6; have HB6 := Lib.hid (HB5.out.trans hb6); have HS6 := Lib.hid (Nat.le_trans HS5.out hb6.size)
 clear hc6 hb6 HC5 HB5 HS5 c1' c2' c3'
 obtain ⟨-, -, c2', c3', -⟩ := HC6.out.cells
 have f2 := HC6.out.cn.frozen 2
 have h6 := HC6.out.set2 HS6.out 1
 have HC7 := Lib.hid h6.1; have HB7 := Lib.hid (HB6.out.trans h6.2)
 obtain ⟨-, -, c27, c37, -⟩ := h6.1.cells
 have f3 := h6.1.cn.frozen 3
 have f37 : (w6.setCell ⟨g, 2, none⟩ (.int .i64 1)).frozen? ⟨g, 3, none⟩ = false := f3
 clear h6 f3
 go_wp2_with fail
 go_ret
 have hy := HC7.out.set3 (Nat.le_trans HS6.out (by simp)) now
 exact ⟨rfl, ⟨_, hy.1⟩, HB7.out.trans hy.2⟩
set_option maxRecDepth 100000 in
set_option maxHeartbeats 2000000 in
theorem take_opene_ (h : GCv w B g q r v x s lo hi room bs ab qu go 0 last idle) (hB : B ≤ w.heap.size) (hr : 0 ≤ x.room ∧ x.room ≤ 65536) (hb : (x.bs.length : Int) ≤ x.room) (now : Int) (ht : 0 ≤ now ∧ now ≤ 1099511627776) {bA : Option Addr} {xs : List UInt8} {bn bc : Nat} (hn : xs.length = bn) (hby : Bytes w bA xs) (hbc : bn ≤ bc) (hbl : bn ≤ 1000) (kk : Nat) (hkk : (kk : Int) = min (bn : Int) (if ab = true then 0 else freeM x)) (hz : kk = bn) (hp : 0 < kk) :
    Calls Tryz.prog 8 #[.pointer (some ⟨g, 0, none⟩), .int .i64 now, .slice bA bn bc, .bool false] w fun e w' => e = .returned (.int .i64 (kk : Int)) ∧ (∃ v', GCv w' B g q r v' { x with bs := x.bs ++ xs.take kk, en := x.en } s lo hi room bs ab qu go 0 now idle) ∧ BK B w w' := by
 obtain ⟨i0, hi0, hz0, hz1, hz2⟩ := u8parts
 obtain ⟨c0, c1, c2, c3, -⟩ := h.cells
 obtain ⟨WM, hWM⟩ : ∃ WM, (if ab = true then 0 else freeM x) = WM := ⟨_, rfl⟩
 have hwf : WM ≤ freeM x := by
  rw [← hWM]
  split
  ·unfold freeM; split <;> omega
  ·exact Int.le_refl _
 rw [hWM] at hkk
 have hkb : kk ≤ bn := by omega
 have HKM : Hid ((kk : Int) = min (kk : Int) (freeM x)) := Lib.hid (by omega)
 have HWM := Lib.hid hWM
 have H := Lib.hid h; have HBY : Hid (Bytes w bA (xs.take kk)) := Lib.hid (by have := At.take hby kk; simpa [Bytes, byteVals, List.map_take] using this); have HFIT := Lib.hid hkk; have HSZ := Lib.hid hB; have HBR := Lib.hid hb
 have HTL : Hid ((xs.take kk).length = kk) := Lib.hid (by rw [List.length_take]; omega)
 have HRM : Hid ((0 ≤ x.room ∧ x.room ≤ 65536) ∧ x.bs.length ≤ 65536) := Lib.hid ⟨hr, by omega⟩
 have HIT := Lib.hid (inTime_any now w)
 rw [decide_eq_true ht.1, decide_eq_true ht.2] at HIT
 have t9 : ((kk : Int) == (bn : Int)) = true := by simp [hz]
 have t9' : (kk == bn) = true := by simp [hz]
 clear hz
 have t8 : decide ((0 : Int) < (kk : Int)) = true := decide_eq_true (by omega)
 have t8' : decide (0 < kk) = true := decide_eq_true hp
 clear h hby hkk hB hr hb hWM hwf
 go_enter Tryz.func8, Tryz.ntmps8
 go_wp2_with fail
 go_at_call 23
 refine HIT.out.mono ?_
 rintro e w2 ⟨rfl, rfl⟩
 go_upto_region 3 with fail
 clear c0 c1 c2 c3
 refine wp_region_F_ (G := fun a b => Fr [] a b) (F := fun i => i == 11 || i == 12) (S := fun W => Fr [] w.drew W) ⟨fun _ => Fr.refl _ _, fun a b c h k => h.trans k, fun a b h k => h.trans k, by kernel_rfl, fun _ _ d _ _ h => by cases d <;> exact h⟩ (by kernel_rfl) fun su => ?_
 have SU := Lib.hid su
 have HS : Hid (Fr [] w.drew w.drew) := Lib.hid (Fr.refl _ _)
 clear su
 have HCD := Lib.hid (H.out.fr_nil (Fr.refl [] w).drew)
 have HBD : Hid (Bytes w.drew bA (xs.take kk)) := Lib.hid (At.fr_nil HBY.out (Fr.refl [] w).drew)
 have HWB : Hid (BK B w w.drew) := Lib.hid (BK.of (Fr.refl [] w).drew HSZ.out)
 have HDS : Hid (B ≤ w.drew.heap.size) := Lib.hid HSZ.out
 clear H HBY
 generalize w.drew = wd at *
 refine T_move (i := 0) _ SU.out rfl rfl (by kernel_rfl) HS.out rfl ?_
 simp only [Act.put, Act.eval, PE]
 refine T_val (i := 1) (v := ?_) SU.out rfl (by kernel_rfl) HS.out rfl (fun W hS => ?_) ?_
 rotate_left
 ·obtain s1 := hS
  go_simp
  all_goals first | done | rfl | omega | (simp; done) | (simp; omega)
 simp only [Act.put, PU]
 refine T_val (i := 2) (v := ?_) SU.out rfl (by kernel_rfl) HS.out rfl (fun W hS => ?_) ?_
 rotate_left
 ·obtain s1 := hS
  go_simp
  all_goals first | done | rfl | omega | (simp; done) | (simp; omega)
 simp only [Act.put, PU]
 refine T_val (i := 3) (v := .pointer (some ⟨r, 0, none⟩)) SU.out rfl (by kernel_rfl) HS.out rfl (fun W hS => ?_) ?_
 ·obtain ⟨-, s1, -, -, -⟩ := (HCD.out.fr_nil hS).cells
  go_simp
  all_goals first | done | rfl
 simp only [Act.put, PU]
 refine T_move (i := 4) _ SU.out rfl rfl (by kernel_rfl) HS.out rfl ?_
 simp only [Act.put, Act.eval, PE]
 refine T_move (i := 5) _ SU.out rfl rfl (by kernel_rfl) HS.out rfl ?_
 simp only [Act.put, Act.eval, PE]
 refine T_val (i := 6) (v := ?_) SU.out rfl (by kernel_rfl) HS.out rfl (fun W hS => ?_) ?_
 rotate_left
 ·obtain s1 := hS
  go_simp
  all_goals first | done | rfl | omega | (simp; done) | (simp; omega)
 simp only [Act.put, PU]
 refine T_move (i := 7) _ SU.out rfl rfl (by kernel_rfl) HS.out rfl ?_
 simp only [Act.put, Act.eval, PE]
 refine T_call (i := 8) (v := .int .i64 WM) SU.out rfl (by kernel_rfl) HS.out rfl (fun W hS => by rw [← HWM.out]; exact want_g (HCD.out.fr_nil hS) HRM.out.1 HRM.out.2) (fun W => ?_) ?_
 ·go_simp
  first | done | rfl
 simp only [Act.put, PU]
 refine T_val (i := 9) (v := .int .i64 (kk : Int)) SU.out rfl (by kernel_rfl) HS.out rfl (fun W hS => ?_) ?_
 ·have hr : (Builtin.min_ #[3, 3] 3 #[.int .i64 (bn : Int), .int .i64 WM]).run Tryz.prog W = .ok (.int .i64 (kk : Int)) W := by
   have e : (if WM < (bn : Int) then WM else (bn : Int)) = (kk : Int) := by have := HFIT.out; split <;> omega
   simp [Builtin.min_, Builtin.min2, e]
  unfold execOp
  simp only [resolve, invoke, builtin, Sem.run_bind, Sem.run_pure, Result.andThen_ok, List.map_toArray, List.map_cons, List.map_nil, Act.eval, Array.getD_eq_getD_getElem?, List.getElem?_toArray, List.getElem?_cons_zero, List.getElem?_cons_succ, Option.getD_some, hr]
 simp only [Act.put, PU]
 refine T_cut (i := 10) 34 (.tmp 24) (.tmp 29) SU.out rfl rfl 5 i0 Tryz.underlying34 hi0 hz1 bA bn bc kk (by first | rfl | (simp [Act.eval]; done)) (by first | rfl | (simp [Act.eval]; done)) hkb hbc (by kernel_rfl) HS.out rfl ?_
 simp only [Act.put, PU]
 refine wpAnyF_all (rs := [11]) (by kernel_rfl) (by simp) (fun w1 hG => ?_)
 have HG1 := Lib.hid hG; clear hG
 refine allF.head rfl rfl (fun K7 hK7 => ?_) allF.nil
 refine wp_call_ (f := 25) (args := #[.pointer (some ⟨r, 0, none⟩), .slice bA kk bc]) (R := fun u w' => u = .int .i64 (kk : Int) ∧ (∃ v', GCv w' B g q r v' { x with bs := x.bs ++ xs.take kk } s lo hi room bs ab qu go 0 last idle) ∧ BK B w1 w') (by go_simp; first | done | rfl) ?_ ?_
 ·refine (put_g (HCD.out.fr_nil HG1.out) (Nat.le_trans HDS.out HG1.out.size) HRM.out.1 HBR.out HTL.out (At.fr_nil HBD.out HG1.out) (by omega) (by omega) HKM.out).mono ?_
  rintro e w' ⟨he, h1, h2⟩
  exact ⟨_, he, rfl, h1, h2⟩
 rintro u w3 ⟨rfl, ⟨v3, hcn3⟩, hb3⟩
 have HC3 := Lib.hid hcn3; have HB3 : Hid (BK B w w3) := Lib.hid ((HWB.out.trans (BK.of HG1.out HDS.out)).trans hb3)
 clear hcn3 hb3
 refine hK7.out _ _ (.inl rfl) ?_
 clear hK7 K7
 simp only [Act.put, PU]
 refine wpAnyF_all (rs := [12]) (by kernel_rfl) (by simp) (fun w4 hG => ?_)
 have HC4 := Lib.hid (HC3.out.fr_nil hG); have HB4 := Lib.hid (HB3.out.trans (BK.of hG (Nat.le_trans HSZ.out HB3.out.size)))
 clear hG
 refine allF.head rfl rfl (fun Kb hKb => ?_) allF.nil
 go_simp
 refine hKb.out _ _ (.inl rfl) ?_
 clear hKb Kb
 refine wpAnyF_done (by kernel_rfl) (fun w5 hG => ?_)
 have HS4 : B ≤ w4.heap.size := Nat.le_trans HSZ.out HB4.out.size
 have HC5 := Lib.hid (HC4.out.fr_nil hG); have HB5 := Lib.hid (HB4.out.trans (BK.of hG HS4)); have HS5 := Lib.hid (Nat.le_trans HS4 hG.size)
 clear hG HC4 HB4 HC3 HB3 HS4 HCD HBD HWB HDS HG1
 obtain ⟨-, c1', c2', c3', -⟩ := HC5.out.cells
 have f3 := HC5.out.cn.frozen 3
 go_wp2_with fail
 go_ret
 have hy := HC5.out.set3 HS5.out now
 exact ⟨rfl, ⟨_, hy.1⟩, HB5.out.trans hy.2⟩
set_option maxRecDepth 100000 in
set_option maxHeartbeats 2000000 in
theorem take_opene0 (h : GCv w B g q r v x s lo hi room bs ab qu go 0 last idle) (hB : B ≤ w.heap.size) (hr : 0 ≤ x.room ∧ x.room ≤ 65536) (hb : (x.bs.length : Int) ≤ x.room) (now : Int) (ht : 0 ≤ now ∧ now ≤ 1099511627776) {bA : Option Addr} {xs : List UInt8} {bn bc : Nat} (hn : xs.length = bn) (hby : Bytes w bA xs) (hbc : bn ≤ bc) (hbl : bn ≤ 1000) (kk : Nat) (hkk : (kk : Int) = min (bn : Int) (if ab = true then 0 else freeM x)) (hz : kk = bn) (hp : kk = 0) :
    Calls Tryz.prog 8 #[.pointer (some ⟨g, 0, none⟩), .int .i64 now, .slice bA bn bc, .bool false] w fun e w' => e = .returned (.int .i64 (kk : Int)) ∧ (∃ v', GCv w' B g q r v' { x with bs := x.bs ++ xs.take kk, en := x.en } s lo hi room bs ab qu go 0 last idle) ∧ BK B w w' := by
 obtain ⟨i0, hi0, hz0, hz1, hz2⟩ := u8parts
 obtain ⟨c0, c1, c2, c3, -⟩ := h.cells
 obtain ⟨WM, hWM⟩ : ∃ WM, (if ab = true then 0 else freeM x) = WM := ⟨_, rfl⟩
 have hwf : WM ≤ freeM x := by
  rw [← hWM]
  split
  ·unfold freeM; split <;> omega
  ·exact Int.le_refl _
 rw [hWM] at hkk
 have hkb : kk ≤ bn := by omega
 have HKM : Hid ((kk : Int) = min (kk : Int) (freeM x)) := Lib.hid (by omega)
 have HWM := Lib.hid hWM
 have H := Lib.hid h; have HBY : Hid (Bytes w bA (xs.take kk)) := Lib.hid (by have := At.take hby kk; simpa [Bytes, byteVals, List.map_take] using this); have HFIT := Lib.hid hkk; have HSZ := Lib.hid hB; have HBR := Lib.hid hb
 have HTL : Hid ((xs.take kk).length = kk) := Lib.hid (by rw [List.length_take]; omega)
 have HRM : Hid ((0 ≤ x.room ∧ x.room ≤ 65536) ∧ x.bs.length ≤ 65536) := Lib.hid ⟨hr, by omega⟩
 have HIT := Lib.hid (inTime_any now w)
 rw [decide_eq_true ht.1, decide_eq_true ht.2] at HIT
 have t9 : ((kk : Int) == (bn : Int)) = true := by simp [hz]
 have t9' : (kk == bn) = true := by simp [hz]
 clear hz
 have t8 : ¬ (0 : Int) < (kk : Int) := by omega
 have t8' : decide (0 < kk) = false := decide_eq_false (by omega)
 clear hp
 clear h hby hkk hB hr hb hWM hwf
 go_enter Tryz.func8, Tryz.ntmps8
 go_wp2_with fail
 go_at_call 23
 refine HIT.out.mono ?_
 rintro e w2 ⟨rfl, rfl⟩
 go_upto_region 3 with fail
 clear c0 c1 c2 c3
 refine wp_region_F_ (G := fun a b => Fr [] a b) (F := fun i => i == 11 || i == 12) (S := fun W => Fr [] w.drew W) ⟨fun _ => Fr.refl _ _, fun a b c h k => h.trans k, fun a b h k => h.trans k, by kernel_rfl, fun _ _ d _ _ h => by cases d <;> exact h⟩ (by kernel_rfl) fun su => ?_
 have SU := Lib.hid su
 have HS : Hid (Fr [] w.drew w.drew) := Lib.hid (Fr.refl _ _)
 clear su
 have HCD := Lib.hid (H.out.fr_nil (Fr.refl [] w).drew)
 have HBD : Hid (Bytes w.drew bA (xs.take kk)) := Lib.hid (At.fr_nil HBY.out (Fr.refl [] w).drew)
 have HWB : Hid (BK B w w.drew) := Lib.hid (BK.of (Fr.refl [] w).drew HSZ.out)
 have HDS : Hid (B ≤ w.drew.heap.size) := Lib.hid HSZ.out
 clear H HBY
 generalize w.drew = wd at *
 refine T_move (i := 0) _ SU.out rfl rfl (by kernel_rfl) HS.out rfl ?_
 simp only [Act.put, Act.eval, PE]
 refine T_val (i := 1) (v := ?_) SU.out rfl (by kernel_rfl) HS.out rfl (fun W hS => ?_) ?_
 rotate_left
 ·obtain s1 := hS
  go_simp
  all_goals first | done | rfl | omega | (simp; done) | (simp; omega)
 simp only [Act.put, PU]
 refine T_val (i := 2) (v := ?_) SU.out rfl (by kernel_rfl) HS.out rfl (fun W hS => ?_) ?_
 rotate_left
 ·obtain s1 := hS
  go_simp
  all_goals first | done | rfl | omega | (simp; done) | (simp; omega)
 simp only [Act.put, PU]
 refine T_val (i := 3) (v := .pointer (some ⟨r, 0, none⟩)) SU.out rfl (by kernel_rfl) HS.out rfl (fun W hS => ?_) ?_
 ·obtain ⟨-, s1, -, -, -⟩ := (HCD.out.fr_nil hS).cells
  go_simp
  all_goals first | done | rfl
 simp only [Act.put, PU]
 refine T_move (i := 4) _ SU.out rfl rfl (by kernel_rfl) HS.out rfl ?_
 simp only [Act.put, Act.eval, PE]
 refine T_move (i := 5) _ SU.out rfl rfl (by kernel_rfl) HS.out rfl ?_
 simp only [Act.put, Act.eval, PE]
 refine T_val (i := 6) (v := ?_) SU.out rfl (by kernel_rfl) HS.out rfl (fun W hS => ?_) ?_
 rotate_left
 ·obtain s1 := hS
  go_simp
  all_goals first | done | rfl | omega | (simp; done) | (simp; omega)
 simp only [Act.put, PU]
 refine T_move (i := 7) _ SU.out rfl rfl (by kernel_rfl) HS.out rfl ?_
 simp only [Act.put, Act.eval, PE]
 refine T_call (i := 8) (v := .int .i64 WM) SU.out rfl (by kernel_rfl) HS.out rfl (fun W hS => by rw [← HWM.out]; exact want_g (HCD.out.fr_nil hS) HRM.out.1 HRM.out.2) (fun W => ?_) ?_
 ·go_simp
  first | done | rfl
 simp only [Act.put, PU]
 refine T_val (i := 9) (v := .int .i64 (kk : Int)) SU.out rfl (by kernel_rfl) HS.out rfl (fun W hS => ?_) ?_
 ·have hr : (Builtin.min_ #[3, 3] 3 #[.int .i64 (bn : Int), .int .i64 WM]).run Tryz.prog W = .ok (.int .i64 (kk : Int)) W := by
   have e : (if WM < (bn : Int) then WM else (bn : Int)) = (kk : Int) := by have := HFIT.out; split <;> omega
   simp [Builtin.min_, Builtin.min2, e]
  unfold execOp
  simp only [resolve, invoke, builtin, Sem.run_bind, Sem.run_pure, Result.andThen_ok, List.map_toArray, List.map_cons, List.map_nil, Act.eval, Array.getD_eq_getD_getElem?, List.getElem?_toArray, List.getElem?_cons_zero, List.getElem?_cons_succ, Option.getD_some, hr]
 simp only [Act.put, PU]
 refine T_cut (i := 10) 34 (.tmp 24) (.tmp 29) SU.out rfl rfl 5 i0 Tryz.underlying34 hi0 hz1 bA bn bc kk (by first | rfl | (simp [Act.eval]; done)) (by first | rfl | (simp [Act.eval]; done)) hkb hbc (by kernel_rfl) HS.out rfl ?_
 simp only [Act.put, PU]
 refine wpAnyF_all (rs := [11]) (by kernel_rfl) (by simp) (fun w1 hG => ?_)
 have HG1 := Lib.hid hG; clear hG
 refine allF.head rfl rfl (fun K7 hK7 => ?_) allF.nil
 refine wp_call_ (f := 25) (args := #[.pointer (some ⟨r, 0, none⟩), .slice bA kk bc]) (R := fun u w' => u = .int .i64 (kk : Int) ∧ (∃ v', GCv w' B g q r v' { x with bs := x.bs ++ xs.take kk } s lo hi room bs ab qu go 0 last idle) ∧ BK B w1 w') (by go_simp; first | done | rfl) ?_ ?_
 ·refine (put_g (HCD.out.fr_nil HG1.out) (Nat.le_trans HDS.out HG1.out.size) HRM.out.1 HBR.out HTL.out (At.fr_nil HBD.out HG1.out) (by omega) (by omega) HKM.out).mono ?_
  rintro e w' ⟨he, h1, h2⟩
  exact ⟨_, he, rfl, h1, h2⟩
 rintro u w3 ⟨rfl, ⟨v3, hcn3⟩, hb3⟩
 have HC3 := Lib.hid hcn3; have HB3 : Hid (BK B w w3) := Lib.hid ((HWB.out.trans (BK.of HG1.out HDS.out)).trans hb3)
 clear hcn3 hb3
 refine hK7.out _ _ (.inl rfl) ?_
 clear hK7 K7
 simp only [Act.put, PU]
 refine wpAnyF_all (rs := [12]) (by kernel_rfl) (by simp) (fun w4 hG => ?_)
 have HC4 := Lib.hid (HC3.out.fr_nil hG); have HB4 := Lib.hid (HB3.out.trans (BK.of hG (Nat.le_trans HSZ.out HB3.out.size)))
 clear hG
 refine allF.head rfl rfl (fun Kb hKb => ?_) allF.nil
 go_simp
 refine hKb.out _ _ (.inl rfl) ?_
 clear hKb Kb
 refine wpAnyF_done (by kernel_rfl) (fun w5 hG => ?_)
 have HS4 : B ≤ w4.heap.size := Nat.le_trans HSZ.out HB4.out.size
 have HC5 := Lib.hid (HC4.out.fr_nil hG); have HB5 := Lib.hid (HB4.out.trans (BK.of hG HS4)); have HS5 := Lib.hid (Nat.le_trans HS4 hG.size)
 clear hG HC4 HB4 HC3 HB3 HS4 HCD HBD HWB HDS HG1
 obtain ⟨-, c1', c2', c3', -⟩ := HC5.out.cells
 go_wp2_with fail
 go_ret
 exact ⟨rfl, ⟨_, HC5.out⟩, HB5.out⟩
set_option maxRecDepth 100000 in
set_option maxHeartbeats 2000000 in
theorem take_openn_ (h : GCv w B g q r v x s lo hi room bs ab qu go 0 last idle) (hB : B ≤ w.heap.size) (hr : 0 ≤ x.room ∧ x.room ≤ 65536) (hb : (x.bs.length : Int) ≤ x.room) (now : Int) (ht : 0 ≤ now ∧ now ≤ 1099511627776) {bA : Option Addr} {xs : List UInt8} {bn bc : Nat} (hn : xs.length = bn) (hby : Bytes w bA xs) (hbc : bn ≤ bc) (hbl : bn ≤ 1000) (kk : Nat) (hkk : (kk : Int) = min (bn : Int) (if ab = true then 0 else freeM x)) (hz : kk ≠ bn) (hp : 0 < kk) :
    Calls Tryz.prog 8 #[.pointer (some ⟨g, 0, none⟩), .int .i64 now, .slice bA bn bc, .bool false] w fun e w' => e = .returned (.int .i64 (kk : Int)) ∧ (∃ v', GCv w' B g q r v' { x with bs := x.bs ++ xs.take kk, en := x.en } s lo hi room bs ab qu go 0 now idle) ∧ BK B w w' := by
 obtain ⟨i0, hi0, hz0, hz1, hz2⟩ := u8parts
 obtain ⟨c0, c1, c2, c3, -⟩ := h.cells
 obtain ⟨WM, hWM⟩ : ∃ WM, (if ab = true then 0 else freeM x) = WM := ⟨_, rfl⟩
 have hwf : WM ≤ freeM x := by
  rw [← hWM]
  split
  ·unfold freeM; split <;> omega
  ·exact Int.le_refl _
 rw [hWM] at hkk
 have hkb : kk ≤ bn := by omega
 have HKM : Hid ((kk : Int) = min (kk : Int) (freeM x)) := Lib.hid (by omega)
 have HWM := Lib.hid hWM
 have H := Lib.hid h; have HBY : Hid (Bytes w bA (xs.take kk)) := Lib.hid (by have := At.take hby kk; simpa [Bytes, byteVals, List.map_take] using this); have HFIT := Lib.hid hkk; have HSZ := Lib.hid hB; have HBR := Lib.hid hb
 have HTL : Hid ((xs.take kk).length = kk) := Lib.hid (by rw [List.length_take]; omega)
 have HRM : Hid ((0 ≤ x.room ∧ x.room ≤ 65536) ∧ x.bs.length ≤ 65536) := Lib.hid ⟨hr, by omega⟩
 have HIT := Lib.hid (inTime_any now w)
 rw [decide_eq_true ht.1, decide_eq_true ht.2] at HIT
 have t9 : ((kk : Int) == (bn : Int)) = false := by rw [beq_eq_false_iff_ne]; omega
 have t9' : (kk == bn) = false := beq_eq_false_iff_ne.2 hz
 clear hz
 have t8 : decide ((0 : Int) < (kk : Int)) = true := decide_eq_true (by omega)
 have t8' : decide (0 < kk) = true := decide_eq_true hp
 clear h hby hkk hB hr hb hWM hwf
 go_enter Tryz.func8, Tryz.ntmps8
 go_wp2_with fail
 go_at_call 23
 refine HIT.out.mono ?_
 rintro e w2 ⟨rfl, rfl⟩
 go_upto_region 3 with fail
 clear c0 c1 c2 c3
 refine wp_region_F_ (G := fun a b => Fr [] a b) (F := fun i => i == 11 || i == 12) (S := fun W => Fr [] w.drew W) ⟨fun _ => Fr.refl _ _, fun a b c h k => h.trans k, fun a b h k => h.trans k, by kernel_rfl, fun _ _ d _ _ h => by cases d <;> exact h⟩ (by kernel_rfl) fun su => ?_
 have SU := Lib.hid su
 have HS : Hid (Fr [] w.drew w.drew) := Lib.hid (Fr.refl _ _)
 clear su
 have HCD := Lib.hid (H.out.fr_nil (Fr.refl [] w).drew)
 have HBD : Hid (Bytes w.drew bA (xs.take kk)) := Lib.hid (At.fr_nil HBY.out (Fr.refl [] w).drew)
 have HWB : Hid (BK B w w.drew) := Lib.hid (BK.of (Fr.refl [] w).drew HSZ.out)
 have HDS : Hid (B ≤ w.drew.heap.size) := Lib.hid HSZ.out
 clear H HBY
 generalize w.drew = wd at *
 refine T_move (i := 0) _ SU.out rfl rfl (by kernel_rfl) HS.out rfl ?_
 simp only [Act.put, Act.eval, PE]
 refine T_val (i := 1) (v := ?_) SU.out rfl (by kernel_rfl) HS.out rfl (fun W hS => ?_) ?_
 rotate_left
 ·obtain s1 := hS
  go_simp
  all_goals first | done | rfl | omega | (simp; done) | (simp; omega)
 simp only [Act.put, PU]
 refine T_val (i := 2) (v := ?_) SU.out rfl (by kernel_rfl) HS.out rfl (fun W hS => ?_) ?_
 rotate_left
 ·obtain s1 := hS
  go_simp
  all_goals first | done | rfl | omega | (simp; done) | (simp; omega)
 simp only [Act.put, PU]
 refine T_val (i := 3) (v := .pointer (some ⟨r, 0, none⟩)) SU.out rfl (by kernel_rfl) HS.out rfl (fun W hS => ?_) ?_
 ·obtain ⟨-, s1, -, -, -⟩ := (HCD.out.fr_nil hS).cells
  go_simp
  all_goals first | done | rfl
 simp only [Act.put, PU]
 refine T_move (i := 4) _ SU.out rfl rfl (by kernel_rfl) HS.out rfl ?_
 simp only [Act.put, Act.eval, PE]
 refine T_move (i := 5) _ SU.out rfl rfl (by kernel_rfl) HS.out rfl ?_
 simp only [Act.put, Act.eval, PE]
 refine T_val (i := 6) (v := ?_) SU.out rfl (by kernel_rfl) HS.out rfl (fun W hS => ?_) ?_
 rotate_left
 ·obtain s1 := hS
  go_simp
  all_goals first | done | rfl | omega | (simp; done) | (simp; omega)
 simp only [Act.put, PU]
 refine T_move (i := 7) _ SU.out rfl rfl (by kernel_rfl) HS.out rfl ?_
 simp only [Act.put, Act.eval, PE]
 refine T_call (i := 8) (v := .int .i64 WM) SU.out rfl (by kernel_rfl) HS.out rfl (fun W hS => by rw [← HWM.out]; exact want_g (HCD.out.fr_nil hS) HRM.out.1 HRM.out.2) (fun W => ?_) ?_
 ·go_simp
  first | done | rfl
 simp only [Act.put, PU]
 refine T_val (i := 9) (v := .int .i64 (kk : Int)) SU.out rfl (by kernel_rfl) HS.out rfl (fun W hS => ?_) ?_
 ·have hr : (Builtin.min_ #[3, 3] 3 #[.int .i64 (bn : Int), .int .i64 WM]).run Tryz.prog W = .ok (.int .i64 (kk : Int)) W := by
   have e : (if WM < (bn : Int) then WM else (bn : Int)) = (kk : Int) := by have := HFIT.out; split <;> omega
   simp [Builtin.min_, Builtin.min2, e]
  unfold execOp
  simp only [resolve, invoke, builtin, Sem.run_bind, Sem.run_pure, Result.andThen_ok, List.map_toArray, List.map_cons, List.map_nil, Act.eval, Array.getD_eq_getD_getElem?, List.getElem?_toArray, List.getElem?_cons_zero, List.getElem?_cons_succ, Option.getD_some, hr]
 simp only [Act.put, PU]
 refine T_cut (i := 10) 34 (.tmp 24) (.tmp 29) SU.out rfl rfl 5 i0 Tryz.underlying34 hi0 hz1 bA bn bc kk (by first | rfl | (simp [Act.eval]; done)) (by first | rfl | (simp [Act.eval]; done)) hkb hbc (by kernel_rfl) HS.out rfl ?_
 simp only [Act.put, PU]
 refine wpAnyF_all (rs := [11]) (by kernel_rfl) (by simp) (fun w1 hG => ?_)
 have HG1 := Lib.hid hG; clear hG
 refine allF.head rfl rfl (fun K7 hK7 => ?_) allF.nil
 refine wp_call_ (f := 25) (args := #[.pointer (some ⟨r, 0, none⟩), .slice bA kk bc]) (R := fun u w' => u = .int .i64 (kk : Int) ∧ (∃ v', GCv w' B g q r v' { x with bs := x.bs ++ xs.take kk } s lo hi room bs ab qu go 0 last idle) ∧ BK B w1 w') (by go_simp; first | done | rfl) ?_ ?_
 ·refine (put_g (HCD.out.fr_nil HG1.out) (Nat.le_trans HDS.out HG1.out.size) HRM.out.1 HBR.out HTL.out (At.fr_nil HBD.out HG1.out) (by omega) (by omega) HKM.out).mono ?_
  rintro e w' ⟨he, h1, h2⟩
  exact ⟨_, he, rfl, h1, h2⟩
 rintro u w3 ⟨rfl, ⟨v3, hcn3⟩, hb3⟩
 have HC3 := Lib.hid hcn3; have HB3 : Hid (BK B w w3) := Lib.hid ((HWB.out.trans (BK.of HG1.out HDS.out)).trans hb3)
 clear hcn3 hb3
 refine hK7.out _ _ (.inl rfl) ?_
 clear hK7 K7
 simp only [Act.put, PU]
 refine wpAnyF_all (rs := [12]) (by kernel_rfl) (by simp) (fun w4 hG => ?_)
 have HC4 := Lib.hid (HC3.out.fr_nil hG); have HB4 := Lib.hid (HB3.out.trans (BK.of hG (Nat.le_trans HSZ.out HB3.out.size)))
 clear hG
 refine allF.head rfl rfl (fun Kb hKb => ?_) allF.nil
 go_simp
 refine hKb.out _ _ (.inl rfl) ?_
 clear hKb Kb
 refine wpAnyF_done (by kernel_rfl) (fun w5 hG => ?_)
 have HS4 : B ≤ w4.heap.size := Nat.le_trans HSZ.out HB4.out.size
 have HC5 := Lib.hid (HC4.out.fr_nil hG); have HB5 := Lib.hid (HB4.out.trans (BK.of hG HS4)); have HS5 := Lib.hid (Nat.le_trans HS4 hG.size)
 clear hG HC4 HB4 HC3 HB3 HS4 HCD HBD HWB HDS HG1
 obtain ⟨-, c1', c2', c3', -⟩ := HC5.out.cells
 have f3 := HC5.out.cn.frozen 3
 go_wp2_with fail
 go_ret
 have hy := HC5.out.set3 HS5.out now
 exact ⟨rfl, ⟨_, hy.1⟩, HB5.out.trans hy.2⟩
set_option maxRecDepth 100000 in
set_option maxHeartbeats 2000000 in
theorem take_openn0 (h : GCv w B g q r v x s lo hi room bs ab qu go 0 last idle) (hB : B ≤ w.heap.size) (hr : 0 ≤ x.room ∧ x.room ≤ 65536) (hb : (x.bs.length : Int) ≤ x.room) (now : Int) (ht : 0 ≤ now ∧ now ≤ 1099511627776) {bA : Option Addr} {xs : List UInt8} {bn bc : Nat} (hn : xs.length = bn) (hby : Bytes w bA xs) (hbc : bn ≤ bc) (hbl : bn ≤ 1000) (kk : Nat) (hkk : (kk : Int) = min (bn : Int) (if ab = true then 0 else freeM x)) (hz : kk ≠ bn) (hp : kk = 0) :
    Calls Tryz.prog 8 #[.pointer (some ⟨g, 0, none⟩), .int .i64 now, .slice bA bn bc, .bool false] w fun e w' => e = .returned (.int .i64 (kk : Int)) ∧ (∃ v', GCv w' B g q r v' { x with bs := x.bs ++ xs.take kk, en := x.en } s lo hi room bs ab qu go 0 last idle) ∧ BK B w w' := by
 obtain ⟨i0, hi0, hz0, hz1, hz2⟩ := u8parts
 obtain ⟨c0, c1, c2, c3, -⟩ := h.cells
 obtain ⟨WM, hWM⟩ : ∃ WM, (if ab = true then 0 else freeM x) = WM := ⟨_, rfl⟩
 have hwf : WM ≤ freeM x := by
  rw [← hWM]
  split
  ·unfold freeM; split <;> omega
  ·exact Int.le_refl _
 rw [hWM] at hkk
 have hkb : kk ≤ bn := by omega
 have HKM : Hid ((kk : Int) = min (kk : Int) (freeM x)) := Lib.hid (by omega)
 have HWM := Lib.hid hWM
 have H := Lib.hid h; have HBY : Hid (Bytes w bA (xs.take kk)) := Lib.hid (by have := At.take hby kk; simpa [Bytes, byteVals, List.map_take] using this); have HFIT := Lib.hid hkk; have HSZ := Lib.hid hB; have HBR := Lib.hid hb
 have HTL : Hid ((xs.take kk).length = kk) := Lib.hid (by rw [List.length_take]; omega)
 have HRM : Hid ((0 ≤ x.room ∧ x.room ≤ 65536) ∧ x.bs.length ≤ 65536) := Lib.hid ⟨hr, by omega⟩
 have HIT := Lib.hid (inTime_any now w)
 rw [decide_eq_true ht.1, decide_eq_true ht.2] at HIT
 have t9 : ((kk : Int) == (bn : Int)) = false := by rw [beq_eq_false_iff_ne]; omega
 have t9' : (kk == bn) = false := beq_eq_false_iff_ne.2 hz
 clear hz
 have t8 : ¬ (0 : Int) < (kk : Int) := by omega
 have t8' : decide (0 < kk) = false := decide_eq_false (by omega)
 clear hp
 clear h hby hkk hB hr hb hWM hwf
 go_enter Tryz.func8, Tryz.ntmps8
 go_wp2_with fail
 go_at_call 23
 refine HIT.out.mono ?_
 rintro e w2 ⟨rfl, rfl⟩
 go_upto_region 3 with fail
 clear c0 c1 c2 c3
 refine wp_region_F_ (G := fun a b => Fr [] a b) (F := fun i => i == 11 || i == 12) (S := fun W => Fr [] w.drew W) ⟨fun _ => Fr.refl _ _, fun a b c h k => h.trans k, fun a b h k => h.trans k, by kernel_rfl, fun _ _ d _ _ h => by cases d <;> exact h⟩ (by kernel_rfl) fun su => ?_
 have SU := Lib.hid su
 have HS : Hid (Fr [] w.drew w.drew) := Lib.hid (Fr.refl _ _)
 clear su
 have HCD := Lib.hid (H.out.fr_nil (Fr.refl [] w).drew)
 have HBD : Hid (Bytes w.drew bA (xs.take kk)) := Lib.hid (At.fr_nil HBY.out (Fr.refl [] w).drew)
 have HWB : Hid (BK B w w.drew) := Lib.hid (BK.of (Fr.refl [] w).drew HSZ.out)
 have HDS : Hid (B ≤ w.drew.heap.size) := Lib.hid HSZ.out
 clear H HBY
 generalize w.drew = wd at *
 refine T_move (i := 0) _ SU.out rfl rfl (by kernel_rfl) HS.out rfl ?_
 simp only [Act.put, Act.eval, PE]
 refine T_val (i := 1) (v := ?_) SU.out rfl (by kernel_rfl) HS.out rfl (fun W hS => ?_) ?_
 rotate_left
 ·obtain s1 := hS
  go_simp
  all_goals first | done | rfl | omega | (simp; done) | (simp; omega)
 simp only [Act.put, PU]
 refine T_val (i := 2) (v := ?_) SU.out rfl (by kernel_rfl) HS.out rfl (fun W hS => ?_) ?_
 rotate_left
 ·obtain s1 := hS
  go_simp
  all_goals first | done | rfl | omega | (simp; done) | (simp; omega)
 simp only [Act.put, PU]
 refine T_val (i := 3) (v := .pointer (some ⟨r, 0, none⟩)) SU.out rfl (by kernel_rfl) HS.out rfl (fun W hS => ?_) ?_
 ·obtain ⟨-, s1, -, -, -⟩ := (HCD.out.fr_nil hS).cells
  go_simp
  all_goals first | done | rfl
 simp only [Act.put, PU]
 refine T_move (i := 4) _ SU.out rfl rfl (by kernel_rfl) HS.out rfl ?_
 simp only [Act.put, Act.eval, PE]
 refine T_move (i := 5) _ SU.out rfl rfl (by kernel_rfl) HS.out rfl ?_
 simp only [Act.put, Act.eval, PE]
 refine T_val (i := 6) (v := ?_) SU.out rfl (by kernel_rfl) HS.out rfl (fun W hS => ?_) ?_
 rotate_left
 ·obtain s1 := hS
  go_simp
  all_goals first | done | rfl | omega | (simp; done) | (simp; omega)
 simp only [Act.put, PU]
 refine T_move (i := 7) _ SU.out rfl rfl (by kernel_rfl) HS.out rfl ?_
 simp only [Act.put, Act.eval, PE]
 refine T_call (i := 8) (v := .int .i64 WM) SU.out rfl (by kernel_rfl) HS.out rfl (fun W hS => by rw [← HWM.out]; exact want_g (HCD.out.fr_nil hS) HRM.out.1 HRM.out.2) (fun W => ?_) ?_
 ·go_simp
  first | done | rfl
 simp only [Act.put, PU]
 refine T_val (i := 9) (v := .int .i64 (kk : Int)) SU.out rfl (by kernel_rfl) HS.out rfl (fun W hS => ?_) ?_
 ·have hr : (Builtin.min_ #[3, 3] 3 #[.int .i64 (bn : Int), .int .i64 WM]).run Tryz.prog W = .ok (.int .i64 (kk : Int)) W := by
   have e : (if WM < (bn : Int) then WM else (bn : Int)) = (kk : Int) := by have := HFIT.out; split <;> omega
   simp [Builtin.min_, Builtin.min2, e]
  unfold execOp
  simp only [resolve, invoke, builtin, Sem.run_bind, Sem.run_pure, Result.andThen_ok, List.map_toArray, List.map_cons, List.map_nil, Act.eval, Array.getD_eq_getD_getElem?, List.getElem?_toArray, List.getElem?_cons_zero, List.getElem?_cons_succ, Option.getD_some, hr]
 simp only [Act.put, PU]
 refine T_cut (i := 10) 34 (.tmp 24) (.tmp 29) SU.out rfl rfl 5 i0 Tryz.underlying34 hi0 hz1 bA bn bc kk (by first | rfl | (simp [Act.eval]; done)) (by first | rfl | (simp [Act.eval]; done)) hkb hbc (by kernel_rfl) HS.out rfl ?_
 simp only [Act.put, PU]
 refine wpAnyF_all (rs := [11]) (by kernel_rfl) (by simp) (fun w1 hG => ?_)
 have HG1 := Lib.hid hG; clear hG
 refine allF.head rfl rfl (fun K7 hK7 => ?_) allF.nil
 refine wp_call_ (f := 25) (args := #[.pointer (some ⟨r, 0, none⟩), .slice bA kk bc]) (R := fun u w' => u = .int .i64 (kk : Int) ∧ (∃ v', GCv w' B g q r v' { x with bs := x.bs ++ xs.take kk } s lo hi room bs ab qu go 0 last idle) ∧ BK B w1 w') (by go_simp; first | done | rfl) ?_ ?_
 ·refine (put_g (HCD.out.fr_nil HG1.out) (Nat.le_trans HDS.out HG1.out.size) HRM.out.1 HBR.out HTL.out (At.fr_nil HBD.out HG1.out) (by omega) (by omega) HKM.out).mono ?_
  rintro e w' ⟨he, h1, h2⟩
  exact ⟨_, he, rfl, h1, h2⟩
 rintro u w3 ⟨rfl, ⟨v3, hcn3⟩, hb3⟩
 have HC3 := Lib.hid hcn3; have HB3 : Hid (BK B w w3) := Lib.hid ((HWB.out.trans (BK.of HG1.out HDS.out)).trans hb3)
 clear hcn3 hb3
 refine hK7.out _ _ (.inl rfl) ?_
 clear hK7 K7
 simp only [Act.put, PU]
 refine wpAnyF_all (rs := [12]) (by kernel_rfl) (by simp) (fun w4 hG => ?_)
 have HC4 := Lib.hid (HC3.out.fr_nil hG); have HB4 := Lib.hid (HB3.out.trans (BK.of hG (Nat.le_trans HSZ.out HB3.out.size)))
 clear hG
 refine allF.head rfl rfl (fun Kb hKb => ?_) allF.nil
 go_simp
 refine hKb.out _ _ (.inl rfl) ?_
 clear hKb Kb
 refine wpAnyF_done (by kernel_rfl) (fun w5 hG => ?_)
 have HS4 : B ≤ w4.heap.size := Nat.le_trans HSZ.out HB4.out.size
 have HC5 := Lib.hid (HC4.out.fr_nil hG); have HB5 := Lib.hid (HB4.out.trans (BK.of hG HS4)); have HS5 := Lib.hid (Nat.le_trans HS4 hG.size)
 clear hG HC4 HB4 HC3 HB3 HS4 HCD HBD HWB HDS HG1
 obtain ⟨-, c1', c2', c3', -⟩ := HC5.out.cells
 go_wp2_with fail
 go_ret
 exact ⟨rfl, ⟨_, HC5.out⟩, HB5.out⟩
set_option maxRecDepth 100000 in
set_option maxHeartbeats 2000000 in
theorem take_part_ (h : GCv w B g q r v x s lo hi room bs ab qu go 0 last idle) (hB : B ≤ w.heap.size) (hr : 0 ≤ x.room ∧ x.room ≤ 65536) (hb : (x.bs.length : Int) ≤ x.room) (now : Int) (ht : 0 ≤ now ∧ now ≤ 1099511627776) {bA : Option Addr} {xs : List UInt8} {bn bc : Nat} (hn : xs.length = bn) (hby : Bytes w bA xs) (hbc : bn ≤ bc) (hbl : bn ≤ 1000) (kk : Nat) (hkk : (kk : Int) = min (bn : Int) (if ab = true then 0 else freeM x))  (hz : kk ≠ bn) (hp : 0 < kk) :
    Calls Tryz.prog 8 #[.pointer (some ⟨g, 0, none⟩), .int .i64 now, .slice bA bn bc, .bool true] w fun e w' => e = .returned (.int .i64 (kk : Int)) ∧ (∃ v', GCv w' B g q r v' { x with bs := x.bs ++ xs.take kk, en := x.en } s lo hi room bs ab qu go 0 now idle) ∧ BK B w w' := by
 obtain ⟨i0, hi0, hz0, hz1, hz2⟩ := u8parts
 obtain ⟨c0, c1, c2, c3, -⟩ := h.cells
 obtain ⟨WM, hWM⟩ : ∃ WM, (if ab = true then 0 else freeM x) = WM := ⟨_, rfl⟩
 have hwf : WM ≤ freeM x := by
  rw [← hWM]
  split
  ·unfold freeM; split <;> omega
  ·exact Int.le_refl _
 rw [hWM] at hkk
 have hkb : kk ≤ bn := by omega
 have HKM : Hid ((kk : Int) = min (kk : Int) (freeM x)) := Lib.hid (by omega)
 have HWM := Lib.hid hWM
 have H := Lib.hid h; have HBY : Hid (Bytes w bA (xs.take kk)) := Lib.hid (by have := At.take hby kk; simpa [Bytes, byteVals, List.map_take] using this); have HFIT := Lib.hid hkk; have HSZ := Lib.hid hB; have HBR := Lib.hid hb
 have HTL : Hid ((xs.take kk).length = kk) := Lib.hid (by rw [List.length_take]; omega)
 have HRM : Hid ((0 ≤ x.room ∧ x.room ≤ 65536) ∧ x.bs.length ≤ 65536) := Lib.hid ⟨hr, by omega⟩
 have HIT := Lib.hid (inTime_any now w)
 rw [decide_eq_true ht.1, decide_eq_true ht.2] at HIT
 have t9 : ((kk : Int) == (bn : Int)) = false := by rw [beq_eq_false_iff_ne]; omega
 have t9' : (kk == bn) = false := beq_eq_false_iff_ne.2 hz
 clear hz
 have t8 : decide ((0 : Int) < (kk : Int)) = true := decide_eq_true (by omega)
 have t8' : decide (0 < kk) = true := decide_eq_true hp
 clear h hby hkk hB hr hb hWM hwf
 go_enter Tryz.func8, Tryz.ntmps8
 go_wp2_with fail
 go_at_call 23
 refine HIT.out.mono ?_
 rintro e w2 ⟨rfl, rfl⟩
 go_upto_region 3 with fail
 clear c0 c1 c2 c3
 refine wp_region_F_ (G := fun a b => Fr [] a b) (F := fun i => i == 11 || i == 12) (S := fun W => Fr [] w.drew W) ⟨fun _ => Fr.refl _ _, fun a b c h k => h.trans k, fun a b h k => h.trans k, by kernel_rfl, fun _ _ d _ _ h => by cases d <;> exact h⟩ (by kernel_rfl) fun su => ?_
 have SU := Lib.hid su
 have HS : Hid (Fr [] w.drew w.drew) := Lib.hid (Fr.refl _ _)
 clear su
 have HCD := Lib.hid (H.out.fr_nil (Fr.refl [] w).drew)
 have HBD : Hid (Bytes w.drew bA (xs.take kk)) := Lib.hid (At.fr_nil HBY.out (Fr.refl [] w).drew)
 have HWB : Hid (BK B w w.drew) := Lib.hid (BK.of (Fr.refl [] w).drew HSZ.out)
 have HDS : Hid (B ≤ w.drew.heap.size) := Lib.hid HSZ.out
 clear H HBY
 generalize w.drew = wd at *
 refine T_move (i := 0) _ SU.out rfl rfl (by kernel_rfl) HS.out rfl ?_
 simp only [Act.put, Act.eval, PE]
 refine T_val (i := 1) (v := ?_) SU.out rfl (by kernel_rfl) HS.out rfl (fun W hS => ?_) ?_
 rotate_left
 ·obtain s1 := hS
  go_simp
  all_goals first | done | rfl | omega | (simp; done) | (simp; omega)
 simp only [Act.put, PU]
 refine T_val (i := 2) (v := ?_) SU.out rfl (by kernel_rfl) HS.out rfl (fun W hS => ?_) ?_
 rotate_left
 ·obtain s1 := hS
  go_simp
  all_goals first | done | rfl | omega | (simp; done) | (simp; omega)
 simp only [Act.put, PU]
 refine T_val (i := 3) (v := .pointer (some ⟨r, 0, none⟩)) SU.out rfl (by kernel_rfl) HS.out rfl (fun W hS => ?_) ?_
 ·obtain ⟨-, s1, -, -, -⟩ := (HCD.out.fr_nil hS).cells
  go_simp
  all_goals first | done | rfl
 simp only [Act.put, PU]
 refine T_move (i := 4) _ SU.out rfl rfl (by kernel_rfl) HS.out rfl ?_
 simp only [Act.put, Act.eval, PE]
 refine T_move (i := 5) _ SU.out rfl rfl (by kernel_rfl) HS.out rfl ?_
 simp only [Act.put, Act.eval, PE]
 refine T_val (i := 6) (v := ?_) SU.out rfl (by kernel_rfl) HS.out rfl (fun W hS => ?_) ?_
 rotate_left
 ·obtain s1 := hS
  go_simp
  all_goals first | done | rfl | omega | (simp; done) | (simp; omega)
 simp only [Act.put, PU]
 refine T_move (i := 7) _ SU.out rfl rfl (by kernel_rfl) HS.out rfl ?_
 simp only [Act.put, Act.eval, PE]
 refine T_call (i := 8) (v := .int .i64 WM) SU.out rfl (by kernel_rfl) HS.out rfl (fun W hS => by rw [← HWM.out]; exact want_g (HCD.out.fr_nil hS) HRM.out.1 HRM.out.2) (fun W => ?_) ?_
 ·go_simp
  first | done | rfl
 simp only [Act.put, PU]
 refine T_val (i := 9) (v := .int .i64 (kk : Int)) SU.out rfl (by kernel_rfl) HS.out rfl (fun W hS => ?_) ?_
 ·have hr : (Builtin.min_ #[3, 3] 3 #[.int .i64 (bn : Int), .int .i64 WM]).run Tryz.prog W = .ok (.int .i64 (kk : Int)) W := by
   have e : (if WM < (bn : Int) then WM else (bn : Int)) = (kk : Int) := by have := HFIT.out; split <;> omega
   simp [Builtin.min_, Builtin.min2, e]
  unfold execOp
  simp only [resolve, invoke, builtin, Sem.run_bind, Sem.run_pure, Result.andThen_ok, List.map_toArray, List.map_cons, List.map_nil, Act.eval, Array.getD_eq_getD_getElem?, List.getElem?_toArray, List.getElem?_cons_zero, List.getElem?_cons_succ, Option.getD_some, hr]
 simp only [Act.put, PU]
 refine T_cut (i := 10) 34 (.tmp 24) (.tmp 29) SU.out rfl rfl 5 i0 Tryz.underlying34 hi0 hz1 bA bn bc kk (by first | rfl | (simp [Act.eval]; done)) (by first | rfl | (simp [Act.eval]; done)) hkb hbc (by kernel_rfl) HS.out rfl ?_
 simp only [Act.put, PU]
 refine wpAnyF_all (rs := [11]) (by kernel_rfl) (by simp) (fun w1 hG => ?_)
 have HG1 := Lib.hid hG; clear hG
 refine allF.head rfl rfl (fun K7 hK7 => ?_) allF.nil
 refine wp_call_ (f := 25) (args := #[.pointer (some ⟨r, 0, none⟩), .slice bA kk bc]) (R := fun u w' => u = .int .i64 (kk : Int) ∧ (∃ v', GCv w' B g q r v' { x with bs := x.bs ++ xs.take kk } s lo hi room bs ab qu go 0 last idle) ∧ BK B w1 w') (by go_simp; first | done | rfl) ?_ ?_
 ·refine (put_g (HCD.out.fr_nil HG1.out) (Nat.le_trans HDS.out HG1.out.size) HRM.out.1 HBR.out HTL.out (At.fr_nil HBD.out HG1.out) (by omega) (by omega) HKM.out).mono ?_
  rintro e w' ⟨he, h1, h2⟩
  exact ⟨_, he, rfl, h1, h2⟩
 rintro u w3 ⟨rfl, ⟨v3, hcn3⟩, hb3⟩
 have HC3 := Lib.hid hcn3; have HB3 : Hid (BK B w w3) := Lib.hid ((HWB.out.trans (BK.of HG1.out HDS.out)).trans hb3)
 clear hcn3 hb3
 refine hK7.out _ _ (.inl rfl) ?_
 clear hK7 K7
 simp only [Act.put, PU]
 refine wpAnyF_all (rs := [12]) (by kernel_rfl) (by simp) (fun w4 hG => ?_)
 have HC4 := Lib.hid (HC3.out.fr_nil hG); have HB4 := Lib.hid (HB3.out.trans (BK.of hG (Nat.le_trans HSZ.out HB3.out.size)))
 clear hG
 refine allF.head rfl rfl (fun Kb hKb => ?_) allF.nil
 go_simp
 refine hKb.out _ _ (.inl rfl) ?_
 clear hKb Kb
 refine wpAnyF_done (by kernel_rfl) (fun w5 hG => ?_)
 have HS4 : B ≤ w4.heap.size := Nat.le_trans HSZ.out HB4.out.size
 have HC5 := Lib.hid (HC4.out.fr_nil hG); have HB5 := Lib.hid (HB4.out.trans (BK.of hG HS4)); have HS5 := Lib.hid (Nat.le_trans HS4 hG.size)
 clear hG HC4 HB4 HC3 HB3 HS4 HCD HBD HWB HDS HG1
 obtain ⟨-, c1', c2', c3', -⟩ := HC5.out.cells
 have f3 := HC5.out.cn.frozen 3
 go_wp2_with fail
 go_ret
 have hy := HC5.out.set3 HS5.out now
 exact ⟨rfl, ⟨_, hy.1⟩, HB5.out.trans hy.2⟩
set_option maxRecDepth 100000 in
set_option maxHeartbeats 2000000 in
theorem take_part0 (h : GCv w B g q r v x s lo hi room bs ab qu go 0 last idle) (hB : B ≤ w.heap.size) (hr : 0 ≤ x.room ∧ x.room ≤ 65536) (hb : (x.bs.length : Int) ≤ x.room) (now : Int) (ht : 0 ≤ now ∧ now ≤ 1099511627776) {bA : Option Addr} {xs : List UInt8} {bn bc : Nat} (hn : xs.length = bn) (hby : Bytes w bA xs) (hbc : bn ≤ bc) (hbl : bn ≤ 1000) (kk : Nat) (hkk : (kk : Int) = min (bn : Int) (if ab = true then 0 else freeM x))  (hz : kk ≠ bn) (hp : kk = 0) :
    Calls Tryz.prog 8 #[.pointer (some ⟨g, 0, none⟩), .int .i64 now, .slice bA bn bc, .bool true] w fun e w' => e = .returned (.int .i64 (kk : Int)) ∧ (∃ v', GCv w' B g q r v' { x with bs := x.bs ++ xs.take kk, en := x.en } s lo hi room bs ab qu go 0 last idle) ∧ BK B w w' := by
 obtain ⟨i0, hi0, hz0, hz1, hz2⟩ := u8parts
 obtain ⟨c0, c1, c2, c3, -⟩ := h.cells
 obtain ⟨WM, hWM⟩ : ∃ WM, (if ab = true then 0 else freeM x) = WM := ⟨_, rfl⟩
 have hwf : WM ≤ freeM x := by
  rw [← hWM]
  split
  ·unfold freeM; split <;> omega
  ·exact Int.le_refl _
 rw [hWM] at hkk
 have hkb : kk ≤ bn := by omega
 have HKM : Hid ((kk : Int) = min (kk : Int) (freeM x)) := Lib.hid (by omega)
 have HWM := Lib.hid hWM
 have H := Lib.hid h; have HBY : Hid (Bytes w bA (xs.take kk)) := Lib.hid (by have := At.take hby kk; simpa [Bytes, byteVals, List.map_take] using this); have HFIT := Lib.hid hkk; have HSZ := Lib.hid hB; have HBR := Lib.hid hb
 have HTL : Hid ((xs.take kk).length = kk) := Lib.hid (by rw [List.length_take]; omega)
 have HRM : Hid ((0 ≤ x.room ∧ x.room ≤ 65536) ∧ x.bs.length ≤ 65536) := Lib.hid ⟨hr, by omega⟩
 have HIT := Lib.hid (inTime_any now w)
 rw [decide_eq_true ht.1, decide_eq_true ht.2] at HIT
 have t9 : ((kk : Int) == (bn : Int)) = false := by rw [beq_eq_false_iff_ne]; omega
 have t9' : (kk == bn) = false := beq_eq_false_iff_ne.2 hz
 clear hz
 have t8 : ¬ (0 : Int) < (kk : Int) := by omega
 have t8' : decide (0 < kk) = false := decide_eq_false (by omega)
 clear hp
 clear h hby hkk hB hr hb hWM hwf
 go_enter Tryz.func8, Tryz.ntmps8
 go_wp2_with fail
 go_at_call 23
 refine HIT.out.mono ?_
 rintro e w2 ⟨rfl, rfl⟩
 go_upto_region 3 with fail
 clear c0 c1 c2 c3
 refine wp_region_F_ (G := fun a b => Fr [] a b) (F := fun i => i == 11 || i == 12) (S := fun W => Fr [] w.drew W) ⟨fun _ => Fr.refl _ _, fun a b c h k => h.trans k, fun a b h k => h.trans k, by kernel_rfl, fun _ _ d _ _ h => by cases d <;> exact h⟩ (by kernel_rfl) fun su => ?_
 have SU := Lib.hid su
 have HS : Hid (Fr [] w.drew w.drew) := Lib.hid (Fr.refl _ _)
 clear su
 have HCD := Lib.hid (H.out.fr_nil (Fr.refl [] w).drew)
 have HBD : Hid (Bytes w.drew bA (xs.take kk)) := Lib.hid (At.fr_nil HBY.out (Fr.refl [] w).drew)
 have HWB : Hid (BK B w w.drew) := Lib.hid (BK.of (Fr.refl [] w).drew HSZ.out)
 have HDS : Hid (B ≤ w.drew.heap.size) := Lib.hid HSZ.out
 clear H HBY
 generalize w.drew = wd at *
 refine T_move (i := 0) _ SU.out rfl rfl (by kernel_rfl) HS.out rfl ?_
 simp only [Act.put, Act.eval, PE]
 refine T_val (i := 1) (v := ?_) SU.out rfl (by kernel_rfl) HS.out rfl (fun W hS => ?_) ?_
 rotate_left
 ·obtain s1 := hS
  go_simp
  all_goals first | done | rfl | omega | (simp; done) | (simp; omega)
 simp only [Act.put, PU]
 refine T_val (i := 2) (v := ?_) SU.out rfl (by kernel_rfl) HS.out rfl (fun W hS => ?_) ?_
 rotate_left
 ·obtain s1 := hS
  go_simp
  all_goals first | done | rfl | omega | (simp; done) | (simp; omega)
 simp only [Act.put, PU]
 refine T_val (i := 3) (v := .pointer (some ⟨r, 0, none⟩)) SU.out rfl (by kernel_rfl) HS.out rfl (fun W hS => ?_) ?_
 ·obtain ⟨-, s1, -, -, -⟩ := (HCD.out.fr_nil hS).cells
  go_simp
  all_goals first | done | rfl
 simp only [Act.put, PU]
 refine T_move (i := 4) _ SU.out rfl rfl (by kernel_rfl) HS.out rfl ?_
 simp only [Act.put, Act.eval, PE]
 refine T_move (i := 5) _ SU.out rfl rfl (by kernel_rfl) HS.out rfl ?_
 simp only [Act.put, Act.eval, PE]
 refine T_val (i := 6) (v := ?_) SU.out rfl (by kernel_rfl) HS.out rfl (fun W hS => ?_) ?_
 rotate_left
 ·obtain s1 := hS
  go_simp
  all_goals first | done | rfl | omega | (simp; done) | (simp; omega)
 simp only [Act.put, PU]
 refine T_move (i := 7) _ SU.out rfl rfl (by kernel_rfl) HS.out rfl ?_
 simp only [Act.put, Act.eval, PE]
 refine T_call (i := 8) (v := .int .i64 WM) SU.out rfl (by kernel_rfl) HS.out rfl (fun W hS => by rw [← HWM.out]; exact want_g (HCD.out.fr_nil hS) HRM.out.1 HRM.out.2) (fun W => ?_) ?_
 ·go_simp
  first | done | rfl
 simp only [Act.put, PU]
 refine T_val (i := 9) (v := .int .i64 (kk : Int)) SU.out rfl (by kernel_rfl) HS.out rfl (fun W hS => ?_) ?_
 ·have hr : (Builtin.min_ #[3, 3] 3 #[.int .i64 (bn : Int), .int .i64 WM]).run Tryz.prog W = .ok (.int .i64 (kk : Int)) W := by
   have e : (if WM < (bn : Int) then WM else (bn : Int)) = (kk : Int) := by have := HFIT.out; split <;> omega
   simp [Builtin.min_, Builtin.min2, e]
  unfold execOp
  simp only [resolve, invoke, builtin, Sem.run_bind, Sem.run_pure, Result.andThen_ok, List.map_toArray, List.map_cons, List.map_nil, Act.eval, Array.getD_eq_getD_getElem?, List.getElem?_toArray, List.getElem?_cons_zero, List.getElem?_cons_succ, Option.getD_some, hr]
 simp only [Act.put, PU]
 refine T_cut (i := 10) 34 (.tmp 24) (.tmp 29) SU.out rfl rfl 5 i0 Tryz.underlying34 hi0 hz1 bA bn bc kk (by first | rfl | (simp [Act.eval]; done)) (by first | rfl | (simp [Act.eval]; done)) hkb hbc (by kernel_rfl) HS.out rfl ?_
 simp only [Act.put, PU]
 refine wpAnyF_all (rs := [11]) (by kernel_rfl) (by simp) (fun w1 hG => ?_)
 have HG1 := Lib.hid hG; clear hG
 refine allF.head rfl rfl (fun K7 hK7 => ?_) allF.nil
 refine wp_call_ (f := 25) (args := #[.pointer (some ⟨r, 0, none⟩), .slice bA kk bc]) (R := fun u w' => u = .int .i64 (kk : Int) ∧ (∃ v', GCv w' B g q r v' { x with bs := x.bs ++ xs.take kk } s lo hi room bs ab qu go 0 last idle) ∧ BK B w1 w') (by go_simp; first | done | rfl) ?_ ?_
 ·refine (put_g (HCD.out.fr_nil HG1.out) (Nat.le_trans HDS.out HG1.out.size) HRM.out.1 HBR.out HTL.out (At.fr_nil HBD.out HG1.out) (by omega) (by omega) HKM.out).mono ?_
  rintro e w' ⟨he, h1, h2⟩
  exact ⟨_, he, rfl, h1, h2⟩
 rintro u w3 ⟨rfl, ⟨v3, hcn3⟩, hb3⟩
 have HC3 := Lib.hid hcn3; have HB3 : Hid (BK B w w3) := Lib.hid ((HWB.out.trans (BK.of HG1.out HDS.out)).trans hb3)
 clear hcn3 hb3
 refine hK7.out _ _ (.inl rfl) ?_
 clear hK7 K7
 simp only [Act.put, PU]
 refine wpAnyF_all (rs := [12]) (by kernel_rfl) (by simp) (fun w4 hG => ?_)
 have HC4 := Lib.hid (HC3.out.fr_nil hG); have HB4 := Lib.hid (HB3.out.trans (BK.of hG (Nat.le_trans HSZ.out HB3.out.size)))
 clear hG
 refine allF.head rfl rfl (fun Kb hKb => ?_) allF.nil
 go_simp
 refine hKb.out _ _ (.inl rfl) ?_
 clear hKb Kb
 refine wpAnyF_done (by kernel_rfl) (fun w5 hG => ?_)
 have HS4 : B ≤ w4.heap.size := Nat.le_trans HSZ.out HB4.out.size
 have HC5 := Lib.hid (HC4.out.fr_nil hG); have HB5 := Lib.hid (HB4.out.trans (BK.of hG HS4)); have HS5 := Lib.hid (Nat.le_trans HS4 hG.size)
 clear hG HC4 HB4 HC3 HB3 HS4 HCD HBD HWB HDS HG1
 obtain ⟨-, c1', c2', c3', -⟩ := HC5.out.cells
 go_wp2_with fail
 go_ret
 exact ⟨rfl, ⟨_, HC5.out⟩, HB5.out⟩
theorem take_g (h : GCv w B g q r v x s lo hi room bs ab qu go 0 last idle) (hB : B ≤ w.heap.size) (hr : 0 ≤ x.room ∧ x.room ≤ 65536) (hb : (x.bs.length : Int) ≤ x.room) (now : Int) (ht : 0 ≤ now ∧ now ≤ 1099511627776) {bA : Option Addr} {xs : List UInt8} {bn bc : Nat} (hn : xs.length = bn) (hby : Bytes w bA xs) (hbc : bn ≤ bc) (hbl : bn ≤ 1000) (kk : Nat) (hkk : (kk : Int) = min (bn : Int) (if ab = true then 0 else freeM x)) (cl : Bool) :
    Calls Tryz.prog 8 #[.pointer (some ⟨g, 0, none⟩), .int .i64 now, .slice bA bn bc, .bool cl] w fun e w' => e = .returned (.int .i64 (kk : Int)) ∧ (∃ v' last', GCv w' B g q r v' { x with bs := x.bs ++ xs.take kk, en := if kk = bn ∧ cl = true then true else x.en } s lo hi room bs ab qu go (if kk = bn ∧ cl = true then 1 else 0) last' idle) ∧ BK B w w' := by
 cases cl with
 | false =>
  rw [if_neg (by simp), if_neg (by simp)]
  by_cases hz : kk = bn
  ·rcases Nat.eq_zero_or_pos kk with hp | hp
   ·exact (take_opene0 h hB hr hb now ht hn hby hbc hbl kk hkk hz hp).mono fun e w' ⟨h1, ⟨v', h2⟩, h3⟩ => ⟨h1, ⟨v', _, h2⟩, h3⟩
   ·exact (take_opene_ h hB hr hb now ht hn hby hbc hbl kk hkk hz hp).mono fun e w' ⟨h1, ⟨v', h2⟩, h3⟩ => ⟨h1, ⟨v', _, h2⟩, h3⟩
  ·rcases Nat.eq_zero_or_pos kk with hp | hp
   ·exact (take_openn0 h hB hr hb now ht hn hby hbc hbl kk hkk hz hp).mono fun e w' ⟨h1, ⟨v', h2⟩, h3⟩ => ⟨h1, ⟨v', _, h2⟩, h3⟩
   ·exact (take_openn_ h hB hr hb now ht hn hby hbc hbl kk hkk hz hp).mono fun e w' ⟨h1, ⟨v', h2⟩, h3⟩ => ⟨h1, ⟨v', _, h2⟩, h3⟩
 | true =>
  by_cases hz : kk = bn
  ·rw [if_pos ⟨hz, rfl⟩, if_pos ⟨hz, rfl⟩]
   rcases Nat.eq_zero_or_pos kk with hp | hp
   ·exact (take_end0 h hB hr hb now ht hn hby hbc hbl kk hkk hz hp).mono fun e w' ⟨h1, ⟨v', h2⟩, h3⟩ => ⟨h1, ⟨v', _, h2⟩, h3⟩
   ·exact (take_end_ h hB hr hb now ht hn hby hbc hbl kk hkk hz hp).mono fun e w' ⟨h1, ⟨v', h2⟩, h3⟩ => ⟨h1, ⟨v', _, h2⟩, h3⟩
  ·rw [if_neg (fun e => hz e.1), if_neg (fun e => hz e.1)]
   rcases Nat.eq_zero_or_pos kk with hp | hp
   ·exact (take_part0 h hB hr hb now ht hn hby hbc hbl kk hkk hz hp).mono fun e w' ⟨h1, ⟨v', h2⟩, h3⟩ => ⟨h1, ⟨v', _, h2⟩, h3⟩
   ·exact (take_part_ h hB hr hb now ht hn hby hbc hbl kk hkk hz hp).mono fun e w' ⟨h1, ⟨v', h2⟩, h3⟩ => ⟨h1, ⟨v', _, h2⟩, h3⟩
end
end Go.Proofs.YtfbmogccmlikaaaGreatDoor.G
