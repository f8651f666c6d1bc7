/-
 Mb5, Lk: several small texts in one. No conditions.
-/
import Derived.Test.YtfbmogccmlikaaaGreatDoorMb4
import Derived.Test.YtfbmogccmlikaaaGreatDoorGq
import Derived.Test.YtfbmogccmlikaaaGreatDoorGg
namespace Go.Proofs.YtfbmogccmlikaaaGreatDoor
open Go.RowKit Go.ChangeMaps
set_option linter.unusedVariables false
set_option linter.unusedSimpArgs false
theorem mk_ints (n : Nat) (hn : n ≤ 100000) (W : World) : (Instr.makeSlice 129 (.int .i64 (n : Int)) (.int .i64 (n : Int))).run Tryz.prog W = .ok (.slice (some ⟨W.heap.size, 0, none⟩) n n) (W.alloc (.cells (intsV (List.replicate n 0)).toArray 3)) := by
 obtain ⟨i, hi, hz, hs, hb⟩ := intParts
 have h := run_make (P := Tryz.prog) (w := W) 129 3 i _ Tryz.underlying129 hi hz .i64 .i64 (n : Int) (n : Int) (by omega) (by omega) (by rw [hb]; omega) (by omega)
 rw [hs] at h
 have e1 : Int.toNat (n : Int) = n := by omega
 have e2 : madeCells (Value.int .i64 0).cells (n * 1) = (intsV (List.replicate n 0)).toArray := by
  have := toList_madeCells_one (.int .i64 0) n
  rw [Nat.mul_one]
  apply Array.ext'
  rw [show (Value.int .i64 0).cells = #[Value.int .i64 0] from rfl, this]
  simp [intsV]
 rw [e1, e2] at h
 exact h
def NewSr (w : World) (L : List Sp) (tx : List UInt8) (e : Ending) (w' : World) : Prop :=
 ∃ sb l P s, e = .returned (.pointer (some ⟨sb, 0, none⟩)) ∧ SrAt w.heap.size w' sb l L tx false P [] 0 s ∧ s.next = [] ∧ Fr [] w w' ∧ ∀ b ∈ l, w.heap.size ≤ b
theorem new_sr {w w1 w2 : World} {A : Option Addr} {n c : Nat} {L : List Sp} {A2 : Option Addr} {tx : List UInt8} {c2 : Nat} (hn : n = L.length)
    (hp : w.ownsRow 0 150 7 (.slice A n c) L.length (L.flatMap Sp.cells)) (ht : Bytes w A2 tx) (htc : tx.length ≤ c2) (htl : ∀ a, A2 = some a → a.block < w.heap.size) (h0 : 0 < L.length) (hL : L.length ≤ 5000) (hf : Fr [] w w1)
    (hw2 : w2 = (w1.alloc (.cells (intsV (List.replicate n 0)).toArray 3)).alloc (.cells #[.slice A n c, .slice A2 tx.length c2, .bool false, .slice none 0 0, .slice none 0 0, .int .i64 0, .slice (some ⟨w1.heap.size, 0, none⟩) n n, .slice none 0 0, .int .i64 0, .int .i64 0, .bool false] 131)) :
    NewSr w L tx (.returned (.pointer (some ⟨w1.heap.size + 1, 0, none⟩))) w2 := by
 subst hn
 have hf2 : Fr [] w w2 := by rw [hw2]; exact (hf.alloc _).alloc _
 have hsz := hf.size
 have hb1 : Bk w2 w1.heap.size 3 (intsV (List.replicate L.length 0)).toArray := by rw [hw2]; exact (Bk.new w1 _ _).alloc _
 have hb2 : Bk w2 (w1.heap.size + 1) 131 #[.slice A L.length c, .slice A2 tx.length c2, .bool false, .slice none 0 0, .slice none 0 0, .int .i64 0, .slice (some ⟨w1.heap.size, 0, none⟩) L.length L.length, .slice none 0 0, .int .i64 0, .int .i64 0, .bool false] := by
  rw [hw2]
  have := Bk.new (w1.alloc (.cells (intsV (List.replicate L.length 0)).toArray 3)) 131 #[.slice A L.length c, .slice A2 tx.length c2, .bool false, .slice none 0 0, .slice none 0 0, .int .i64 0, .slice (some ⟨w1.heap.size, 0, none⟩) L.length L.length, .slice none 0 0, .int .i64 0, .int .i64 0, .bool false]
  have e : (w1.alloc (.cells (intsV (List.replicate L.length 0)).toArray 3)).heap.size = w1.heap.size + 1 := by simp
  rw [e] at this
  exact this
 have hnil : ∀ (t : TypeId) (sz : Nat), w2.ownsRow w.heap.size t sz (.slice none 0 0) 0 [] := fun t sz => ⟨by simp, .inl ⟨rfl, rfl⟩⟩
 refine ⟨w1.heap.size + 1, _, (.slice none 0 0, []), ⟨[], List.replicate L.length true, none⟩, rfl, ⟨A, c, A2, c2, .slice none 0 0, .slice (some ⟨w1.heap.size, 0, none⟩) L.length L.length, .slice none 0 0, List.replicate L.length 0, 0, 0, rfl, ?_⟩, rfl, hf2, ?_⟩
 ·exact { lo_ := by omega, tlo := htl, blk := hb2, prog := own_keep hp (KeepB.of_nil hf2), text := ht.fr hf2 (by simp), textc := htc, now_ := hnil _ _, next_ := hnil _ _, todo_ := hnil _ _
          seen_ := ⟨by simp [intsV], .inr ⟨w1.heap.size, L.length, _, rfl, by omega, hb1, Nat.le_refl _, by unfold maxLen; omega, by simp [intsV], by simp [intsV]⟩⟩
          d1 := fun b hb => (by simp [Value.ownBlock] at hb), d2 := fun b hb => (by simp [Value.ownBlock])
          len := by simp, le := fun x hx => (by simp at hx; omega), vis := by simp, fd := fun q hq => (by cases hq) }
 ·intro b hb
  rcases srb_mem.1 hb with e | e | e | e | e
  ·omega
  ·simp [Value.ownBlock] at e
  ·simp [Value.ownBlock] at e
  ·simp [Value.ownBlock] at e; omega
  ·simp [Value.ownBlock] at e
set_option maxRecDepth 100000 in
set_option maxHeartbeats 8000000 in
theorem newSearch_any {w : World} {lo fb : Nat} {L : List Sp} {A2 : Option Addr} {tx : List UInt8} {c2 : Nat} (h : FinderAt w lo fb L) (ht : Bytes w A2 tx) (htc : tx.length ≤ c2) (htl : ∀ a, A2 = some a → a.block < w.heap.size) (h0 : 0 < L.length) (hL : L.length ≤ 5000) :
    Calls Tryz.prog 59 #[.pointer (some ⟨fb, 0, none⟩), .slice A2 tx.length c2] w (NewSr w L tx) := by
 obtain ⟨A, c, hb, hr⟩ := h
 obtain ⟨n, hn⟩ : ∃ n, n = L.length := ⟨_, rfl⟩
 obtain ⟨m, hm⟩ : ∃ m, m = tx.length := ⟨_, rfl⟩
 have hmk := mk_ints n (by omega)
 have hlt := hb.lt
 have c0 : w.cell? ⟨fb, 0, none⟩ = some (.slice A n c) := by rw [hn]; exact hb.cell_ rfl
 have hr0 : w.ownsRow 0 150 7 (.slice A n c) L.length (L.flatMap Sp.cells) := by rw [hn]; exact own_rebase hr (fun g hg => Nat.zero_le _)
 have HR := Lib.hid hr0; have HT := Lib.hid ht; have HN := Lib.hid hn; have HM := Lib.hid hm; have HTC := Lib.hid htc
 rw [← hm]
 clear hb hr hr0 ht hn hm htc
 go_enter Tryz.func59, Tryz.ntmps59
 go_upto_region 1 with fail
 refine wp_region_F_ (G := fun a b => a = b) (F := fun i => i == 14) (S := fun W => W.cell? ⟨fb, 0, none⟩ = some (.slice A n c)) ⟨fun _ => rfl, fun a b c h k => h.trans k, fun a b h k => k ▸ h, by kernel_rfl, fun _ _ d _ _ h => by cases d <;> exact h⟩ (by kernel_rfl) fun su => ?_
 have SU := Lib.hid su
 obtain ⟨wd, hwd⟩ : ∃ wd, wd = w.drew := ⟨_, rfl⟩
 rw [← hwd]
 have HS : Hid (wd.cell? ⟨fb, 0, none⟩ = some (.slice A n c)) := Lib.hid (by rw [hwd]; exact c0)
 have hfd : Fr [] w wd := by rw [hwd]; exact (Fr.refl [] w).drew
 have HFD := Lib.hid hfd
 clear su hwd hfd c0
 refine F_move (i := 0) _ SU.out rfl rfl (by kernel_rfl) HS.out rfl ?_
 simp only [Act.put, Act.eval, PE]
 refine F_val (i := 1) (v := ?_) SU.out rfl (by kernel_rfl) HS.out rfl (fun W hS => ?_) ?_
 rotate_left
 ·have t0 := hS
  go_simp
  first | done | rfl | omega | (exact IntWalk.i64_in _ (by omega)) | (simp; done) | (simp; omega)
 simp only [Act.put, PU]
 refine F_val (i := 2) (v := ?_) SU.out rfl (by kernel_rfl) HS.out rfl (fun W hS => ?_) ?_
 rotate_left
 ·have t0 := hS
  go_simp
  first | done | rfl | omega | (exact IntWalk.i64_in _ (by omega)) | (simp; done) | (simp; omega)
 simp only [Act.put, PU]
 refine F_val (i := 3) (v := .slice A n c) SU.out rfl (by kernel_rfl) HS.out rfl (fun W hS => ?_) ?_
 ·have t0 := hS
  go_simp
  first | done | rfl | omega | (exact IntWalk.i64_in _ (by omega)) | (simp; done) | (simp; omega)
 simp only [Act.put, PU]
 refine F_move (i := 4) _ SU.out rfl rfl (by kernel_rfl) HS.out rfl ?_
 simp only [Act.put, Act.eval, PE]
 refine F_move (i := 5) _ SU.out rfl rfl (by kernel_rfl) HS.out rfl ?_
 simp only [Act.put, Act.eval, PE]
 refine F_val (i := 6) (v := ?_) SU.out rfl (by kernel_rfl) HS.out rfl (fun W hS => ?_) ?_
 rotate_left
 ·have t0 := hS
  go_simp
  first | done | rfl | omega | (exact IntWalk.i64_in _ (by omega)) | (simp; done) | (simp; omega)
 simp only [Act.put, PU]
 refine F_val (i := 7) (v := ?_) SU.out rfl (by kernel_rfl) HS.out rfl (fun W hS => ?_) ?_
 rotate_left
 ·have t0 := hS
  go_simp
  first | done | rfl | omega | (exact IntWalk.i64_in _ (by omega)) | (simp; done) | (simp; omega)
 simp only [Act.put, PU]
 refine F_val (i := 8) (v := .slice A n c) SU.out rfl (by kernel_rfl) HS.out rfl (fun W hS => ?_) ?_
 ·have t0 := hS
  go_simp
  first | done | rfl | omega | (exact IntWalk.i64_in _ (by omega)) | (simp; done) | (simp; omega)
 simp only [Act.put, PU]
 refine F_val (i := 9) (v := .int .i64 (n : Int)) SU.out rfl (by kernel_rfl) HS.out rfl (fun W hS => ?_) ?_
 ·have t0 := hS
  go_simp
  first | done | rfl | omega | (exact IntWalk.i64_in _ (by omega)) | (simp; done) | (simp; omega)
 simp only [Act.put, PU]
 refine wpAnyF_all (rs := [10]) (by kernel_rfl) (by simp) (fun w' hG => ?_)
 obtain rfl := hG
 refine allF.head rfl rfl (fun K9 hK9 => ?_) allF.nil
 go_simp
 have hs1 : (wd.alloc (.cells (intsV (List.replicate n 0)).toArray 3)).cell? ⟨fb, 0, none⟩ = some (.slice A n c) := by
  exact (((Fr.refl [] wd).alloc _).cell (World.block_lt_of_cell? wd _ HS.out) (by simp)).trans HS.out
 have HS1 := Lib.hid hs1
 refine hK9.out _ _ (.inr hs1) ?_
 clear hs1
 clear hK9 K9
 refine wpAnyF_all (rs := [11]) (by kernel_rfl) (by simp) (fun w' hG => ?_)
 obtain rfl := hG
 refine allF.head rfl rfl (fun K9 hK9 => ?_) allF.nil
 go_simp
 refine hK9.out _ _ (.inr HS1.out) ?_
 clear hK9 K9
 refine wpAnyF_all (rs := [12]) (by kernel_rfl) (by simp) (fun w' hG => ?_)
 obtain rfl := hG
 refine allF.head rfl rfl (fun K9 hK9 => ?_) allF.nil
 go_simp
 obtain ⟨w2, hw2⟩ : ∃ w2, w2 = (wd.alloc (.cells (intsV (List.replicate n 0)).toArray 3)).alloc (.cells #[.slice A n c, .slice A2 m c2, .bool false, .slice none 0 0, .slice none 0 0, .int .i64 0, .slice (some ⟨wd.heap.size, 0, none⟩) n n, .slice none 0 0, .int .i64 0, .int .i64 0, .bool false] 131) := ⟨_, rfl⟩
 rw [← hw2]
 have hs2 : w2.cell? ⟨fb, 0, none⟩ = some (.slice A n c) := by rw [hw2]; exact (((Fr.refl [] _).alloc _).cell (World.block_lt_of_cell? _ _ HS1.out) (by simp)).trans HS1.out
 have HS2 := Lib.hid hs2
 refine hK9.out _ _ (.inr hs2) ?_
 have hnew := new_sr (w2 := w2) HN.out HR.out HT.out HTC.out htl h0 hL HFD.out (by rw [hw2, HM.out])
 have HNEW := Lib.hid hnew
 clear hs2 hnew hw2
 clear hK9 K9
 refine wpAnyF_all (rs := [13]) (by kernel_rfl) (by simp) (fun w' hG => ?_)
 obtain rfl := hG
 refine allF.head rfl rfl (fun K9 hK9 => ?_) allF.nil
 go_simp
 refine hK9.out _ _ (.inr HS2.out) ?_
 clear hK9 K9
 refine wpAnyF_done (by kernel_rfl) (fun w' hG => ?_)
 obtain rfl := hG
 go_wp2_with fail
 go_ret
 exact HNEW.out
def FindPost (lo : Nat) (w : World) (sb : Nat) (l : List Nat) (L : List Sp) (tx : List UInt8) (opn : Bool) (stamp from_ : Nat) (e : Ending) (w' : World) : Prop :=
 e = .returned (.bool (runS L tx opn false from_).2.isSome) ∧ RunPost lo w sb l L tx opn stamp (runS L tx opn false from_) (.returned (.tuple #[])) w'
theorem RunPost.found {lo : Nat} {w : World} {sb : Nat} {l : List Nat} {L : List Sp} {tx : List UInt8} {opn : Bool} {stamp : Nat} {r : List (Nat × Nat) × Option (Nat × Nat)} {e : Ending} {w' : World} (h : RunPost lo w sb l L tx opn stamp r e w') :
    w'.cell? ⟨sb, 10, none⟩ = some (.bool r.2.isSome) ∧ (∀ q, r.2 = some q → w'.cell? ⟨sb, 8, none⟩ = some (.int .i64 (q.1 : Int)) ∧ w'.cell? ⟨sb, 9, none⟩ = some (.int .i64 (q.2 : Int))) ∧ Fr l w w' ∧ sb < w'.heap.size := by
 obtain ⟨-, P, s, stamp', ⟨l', ⟨A, c, A2, c2, xv, sv, tv, ys, s0, en, -, hm⟩, hf, -⟩, -, h2, -⟩ := h
 rw [← h2]
 refine ⟨hm.blk.cell_ rfl, fun q hq => ?_, hf, hm.blk.lt⟩
 obtain ⟨e1, e2⟩ := hm.fd q hq
 subst e1 e2
 exact ⟨hm.blk.cell_ rfl, hm.blk.cell_ rfl⟩
set_option maxRecDepth 100000 in
set_option maxHeartbeats 4000000 in
theorem find_any {lo : Nat} {w : World} {sb : Nat} {l : List Nat} {L : List Sp} {tx : List UInt8} {opn : Bool} {P0 : Value × List (Nat × Nat)} {stamp from_ : Nat} {s0 : Sr}
    (h : SrAt lo w sb l L tx opn P0 [] stamp s0) (hok : ProgOk L) (h0 : 0 < L.length) (hL : L.length ≤ 5000) (hfr : from_ ≤ tx.length) (htx : tx.length ≤ 10000) (hstamp : stamp + tx.length + 2 ≤ 1000000000000) (hnx : s0.next.length ≤ 5000) :
    Calls Tryz.prog 63 #[.pointer (some ⟨sb, 0, none⟩), .int .i64 (from_ : Int)] w (FindPost lo w sb l L tx opn stamp from_) := by
 have HRUN := Lib.hid (run_any (there := false) h hok h0 hL hfr htx hstamp hnx)
 obtain ⟨R, hR⟩ : ∃ R, R = runS L tx opn false from_ := ⟨_, rfl⟩
 unfold FindPost
 rw [← hR] at HRUN ⊢
 clear hok hR h
 go_enter Tryz.func63, Tryz.ntmps63
 go_wp2_with fail
 go_at_call 60
 refine HRUN.out.mono ?_
 intro e w1 hp
 have hf := hp.found
 obtain ⟨he, -⟩ := id hp
 subst he
 have c10 := hf.1
 have hlt1 := hf.2.2.2
 have HP := Lib.hid hp
 clear hp hf HRUN
 go_wp2_with fail
 go_ret
 exact ⟨rfl, HP.out⟩
def found3 (r : Option (Nat × Nat)) : Value := match r with | some q => .tuple #[.int .i64 (q.1 : Int), .int .i64 (q.2 : Int), .bool true] | none => .tuple #[.int .i64 0, .int .i64 0, .bool false]
set_option maxRecDepth 100000 in
set_option maxHeartbeats 4000000 in
theorem Find_any {w : World} {lo fb : Nat} {L : List Sp} {A2 : Option Addr} {tx : List UInt8} {c2 from_ : Nat} (h : FinderAt w lo fb L) (ht : Bytes w A2 tx) (htc : tx.length ≤ c2) (htl : ∀ a, A2 = some a → a.block < w.heap.size) (h0 : 0 < L.length) (hL : L.length ≤ 5000)
    (hok : ProgOk L) (htx : tx.length ≤ 10000) (hfr : from_ ≤ tx.length) :
    Calls Tryz.prog 50 #[.pointer (some ⟨fb, 0, none⟩), .slice A2 tx.length c2, .int .i64 (from_ : Int)] w fun e w' => e = .returned (found3 (findS L tx from_)) ∧ Fr [] w w' := by
 have HN := Lib.hid (newSearch_any h ht htc htl h0 hL)
 obtain ⟨fd, hfd⟩ : ∃ fd, fd = findS L tx from_ := ⟨_, rfl⟩
 rw [← hfd]
 have HFDD := Lib.hid hfd
 clear hfd
 obtain ⟨m, hm⟩ : ∃ m, m = tx.length := ⟨_, rfl⟩
 rw [← hm] at HN ⊢
 have hfrI : (from_ : Int) ≤ (m : Int) := by omega
 have hfr0 : ¬ ((from_ : Int) < 0) := by omega
 have hfr1 : ¬ ((m : Int) < (from_ : Int)) := by omega
 have HM := Lib.hid hm
 clear h ht htl hm htc
 go_enter Tryz.func50, Tryz.ntmps50
 go_wp2_with fail
 go_at_call 59
 refine HN.out.mono ?_
 rintro e w1 ⟨sb, l, P, s, rfl, hsr, hsn, hf1, hl⟩
 have HF1 := Lib.hid hf1; have HL := Lib.hid hl
 have HFI := Lib.hid (find_any (from_ := from_) hsr hok h0 hL hfr htx (by omega) (by rw [hsn]; simp))
 clear hsr hsn hf1 hl HN
 go_wp2_with fail
 go_at_call 63
 refine HFI.out.mono ?_
 rintro e w2 ⟨rfl, hp⟩
 have hff := hp.found
 obtain ⟨k10, kq, hf2, hlt2⟩ := hff
 have HF2 : Hid (Fr [] w w2) := Lib.hid (HF1.out.trans' hf2 (fun b hb => .inr (HL.out b hb)))
 have hfd' : (runS L tx false false from_).2 = fd := HFDD.out.symm
 rw [hfd'] at k10 kq ⊢
 clear hp hf2 HFI hfd'
 cases fd with
 | none =>
  have k10' : w2.cell? ⟨sb, 10, none⟩ = some (.bool false) := k10
  clear k10 kq
  go_wp2_with fail
  go_ret3
  exact ⟨rfl, HF2.out⟩
 | some q =>
  obtain ⟨k8, k9⟩ := kq q rfl
  clear k10 kq
  go_upto_region 6 with fail
  refine wp_region_M_ (G := fun a b => a = b) (S := fun W => W = w2.drew) ⟨fun _ => rfl, fun a b c h k => h.trans k, fun a b h k => k ▸ h, by kernel_rfl, fun _ _ d _ _ h => by cases d <;> exact h⟩ (by kernel_rfl) fun su => ?_
  have SU := Lib.hid su
  have HS : Hid (w2.drew = w2.drew) := Lib.hid rfl
  clear su
  refine M_move (i := 0) _ SU.out rfl rfl (by kernel_rfl) HS.out rfl ?_
  simp only [Act.put, Act.eval, PE]
  refine M_val (i := 1) (v := ?_) SU.out rfl (by kernel_rfl) HS.out rfl (fun W hS => ?_) ?_
  rotate_left
  ·obtain rfl := hS
   go_simp
   first | done | rfl | omega | (exact IntWalk.i64_in _ (by omega)) | (simp; done) | (simp; omega)
  simp only [Act.put, PU]
  refine M_val (i := 2) (v := ?_) SU.out rfl (by kernel_rfl) HS.out rfl (fun W hS => ?_) ?_
  rotate_left
  ·obtain rfl := hS
   go_simp
   first | done | rfl | omega | (exact IntWalk.i64_in _ (by omega)) | (simp; done) | (simp; omega)
  simp only [Act.put, PU]
  refine M_val (i := 3) (v := .int .i64 (q.1 : Int)) SU.out rfl (by kernel_rfl) HS.out rfl (fun W hS => ?_) ?_
  ·obtain rfl := hS
   go_simp
   first | done | rfl | omega | (exact IntWalk.i64_in _ (by omega)) | (simp; done) | (simp; omega)
  simp only [Act.put, PU]
  refine M_move (i := 4) _ SU.out rfl rfl (by kernel_rfl) HS.out rfl ?_
  simp only [Act.put, Act.eval, PE]
  refine M_val (i := 5) (v := ?_) SU.out rfl (by kernel_rfl) HS.out rfl (fun W hS => ?_) ?_
  rotate_left
  ·obtain rfl := hS
   go_simp
   first | done | rfl | omega | (exact IntWalk.i64_in _ (by omega)) | (simp; done) | (simp; omega)
  simp only [Act.put, PU]
  refine M_val (i := 6) (v := ?_) SU.out rfl (by kernel_rfl) HS.out rfl (fun W hS => ?_) ?_
  rotate_left
  ·obtain rfl := hS
   go_simp
   first | done | rfl | omega | (exact IntWalk.i64_in _ (by omega)) | (simp; done) | (simp; omega)
  simp only [Act.put, PU]
  refine M_val (i := 7) (v := .int .i64 (q.2 : Int)) SU.out rfl (by kernel_rfl) HS.out rfl (fun W hS => ?_) ?_
  ·obtain rfl := hS
   go_simp
   first | done | rfl | omega | (exact IntWalk.i64_in _ (by omega)) | (simp; done) | (simp; omega)
  simp only [Act.put, PU]
  refine M_val (i := 8) (v := ?_) SU.out rfl (by kernel_rfl) HS.out rfl (fun W hS => ?_) ?_
  rotate_left
  ·obtain rfl := hS
   go_simp
   first | done | rfl | omega | (exact IntWalk.i64_in _ (by omega)) | (simp; done) | (simp; omega)
  simp only [Act.put, PU]
  refine M_val (i := 9) (v := ?_) SU.out rfl (by kernel_rfl) HS.out rfl (fun W hS => ?_) ?_
  rotate_left
  ·obtain rfl := hS
   go_simp
   first | done | rfl | omega | (exact IntWalk.i64_in _ (by omega)) | (simp; done) | (simp; omega)
  simp only [Act.put, PU]
  refine M_val (i := 10) (v := ?_) SU.out rfl (by kernel_rfl) HS.out rfl (fun W hS => ?_) ?_
  rotate_left
  ·obtain rfl := hS
   go_simp
   first | done | rfl | omega | (exact IntWalk.i64_in _ (by omega)) | (simp; done) | (simp; omega)
  simp only [Act.put, PU]
  refine wpAnyM_done (by kernel_rfl) (fun w' hG => ?_)
  obtain rfl := hG
  have HF3 : Hid (Fr [] w w2.drew) := Lib.hid HF2.out.drew
  go_wp2_with fail
  go_ret3
  exact ⟨rfl, HF3.out⟩
def tkF (n : Nat) : Option (Nat × Nat) → Bool | some q => q.2 == n | none => false
theorem takesS_eq (L : List Sp) (tx : List UInt8) : takesS L tx = tkF tx.length (runS L tx false true 0).2 := by unfold takesS tkF; rfl
set_option maxRecDepth 100000 in
set_option maxHeartbeats 4000000 in
theorem Takes_any {w : World} {lo fb : Nat} {L : List Sp} {A2 : Option Addr} {tx : List UInt8} {c2 : Nat} (h : FinderAt w lo fb L) (ht : Bytes w A2 tx) (htc : tx.length ≤ c2) (htl : ∀ a, A2 = some a → a.block < w.heap.size) (h0 : 0 < L.length) (hL : L.length ≤ 5000)
    (hok : ProgOk L) (htx : tx.length ≤ 10000) :
    Calls Tryz.prog 47 #[.pointer (some ⟨fb, 0, none⟩), .slice A2 tx.length c2] w fun e w' => e = .returned (.bool (takesS L tx)) ∧ Fr [] w w' := by
 have HN := Lib.hid (newSearch_any h ht htc htl h0 hL)
 obtain ⟨T, hT⟩ : ∃ T, T = takesS L tx := ⟨_, rfl⟩
 rw [← hT]
 obtain ⟨m, hm⟩ : ∃ m, m = tx.length := ⟨_, rfl⟩
 rw [← hm] at HN ⊢
 have HM := Lib.hid hm; have HT := Lib.hid hT
 clear h ht htl hm htc hT
 go_enter Tryz.func47, Tryz.ntmps47
 go_wp2_with fail
 go_at_call 59
 refine HN.out.mono ?_
 rintro e w1 ⟨sb, l, P, s, rfl, hsr, hsn, hf1, hl⟩
 have HF1 := Lib.hid hf1; have HL := Lib.hid hl
 have hru := run_any (there := true) (from_ := 0) hsr hok h0 hL (Nat.zero_le _) htx (by omega) (by rw [hsn]; simp)
 rw [show ((0 : Nat) : Int) = 0 from rfl] at hru
 have HRU := Lib.hid hru
 clear hsr hsn hf1 hl HN hru
 go_wp2_with fail
 go_at_call 60
 refine HRU.out.mono ?_
 intro e w2 hp
 obtain ⟨he, -⟩ := id hp
 subst he
 have hff := hp.found
 obtain ⟨k10, kq, hf2, hlt2⟩ := hff
 have HF2 : Hid (Fr [] w w2) := Lib.hid (HF1.out.trans' hf2 (fun b hb => .inr (HL.out b hb)))
 obtain ⟨fd, hfd⟩ : ∃ fd, (runS L tx false true 0).2 = fd := ⟨_, rfl⟩
 rw [hfd] at k10 kq
 have hTf : T = tkF tx.length fd := by rw [HT.out, takesS_eq, hfd]
 have HTF := Lib.hid hTf
 clear hp hf2 HRU hfd hTf
 cases fd with
 | none =>
  have k10' : w2.cell? ⟨sb, 10, none⟩ = some (.bool false) := k10
  clear k10 kq
  go_wp2_with fail
  go_ret
  exact ⟨by rw [HTF.out]; rfl, HF2.out⟩
 | some q =>
  have k10' : w2.cell? ⟨sb, 10, none⟩ = some (.bool true) := k10
  obtain ⟨-, k9⟩ := kq q rfl
  clear k10 kq
  obtain ⟨bq, hbq⟩ : ∃ bq, bq = (q.2 == tx.length) := ⟨_, rfl⟩
  have hq1 : ((q.2 : Int) == (m : Int)) = bq := by rw [hbq, HM.out, Bool.eq_iff_iff]; simp; omega
  have HQ := Lib.hid hbq
  clear hbq
  go_wp2_with fail
  go_ret
  exact ⟨by rw [HTF.out, HQ.out]; rfl, HF2.out⟩
end Go.Proofs.YtfbmogccmlikaaaGreatDoor
namespace Go.Proofs.YtfbmogccmlikaaaGreatDoor
open Go.RowKit Go.ChangeMaps
set_option linter.unusedVariables false
set_option linter.unusedSimpArgs false
theorem SrM.opens {lo : Nat} {w : World} {sb : Nat} {L : List Sp} {tx : List UInt8} {opn : Bool} {now : List (Nat × Nat)} {todo : List Nat} {stamp : Nat} {s : Sr} {A : Option Addr} {c : Nat} {A2 : Option Addr} {c2 : Nat} {nowv nextv seenv todov : Value} {xs : List Nat} {st en : Int}
    (h : SrM lo w sb L tx opn now todo stamp s A c A2 c2 nowv nextv seenv todov xs st en) : SrM lo (w.setCell ⟨sb, 2, none⟩ (.bool true)) sb L tx true now todo stamp s A c A2 c2 nowv nextv seenv todov xs st en := by
 obtain ⟨r1, r2, r3, r4, r5, r6⟩ := h.rows 2 (.bool true)
 exact { h with blk := h.blk.put 2 _, prog := r1, text := r2, now_ := r3, next_ := r4, seen_ := r5, todo_ := r6 }
theorem lookS_of {L : List Sp} {tx : List UInt8} {T : List (Nat × Nat)} {q : Nat × Nat} (h : runS L tx true false 0 = (T, some q)) : ((∀ t ∈ T, q.1 < t.2) → lookS L tx = some q) ∧ (∀ t ∈ T, t.2 ≤ q.1 → lookS L tx = none) := by
 unfold lookS
 rw [h]
 dsimp only
 refine ⟨fun ha => ?_, fun t ht hq => ?_⟩
 ·rw [if_neg]
  intro hc
  obtain ⟨t, ht, h2⟩ := List.any_eq_true.1 hc
  have := ha t ht
  have h3 : t.2 ≤ q.1 := by simpa using h2
  omega
 ·rw [if_pos]
  exact List.any_eq_true.2 ⟨t, ht, by simpa using hq⟩
theorem own_max {w : World} {base n cap sz : Nat} {A : Option Addr} {e : TypeId} {l : List Value} (h : w.ownsRow base e sz (.slice A n cap) n l) : n ≤ maxLen := by
 obtain ⟨h1, ⟨h2, h3⟩ | ⟨g, cap', cur, h2, h0, hb, h3, h4, h5, h6⟩⟩ := h
 ·injection h2 with h2 h2a h2b
  omega
 ·injection h2 with h2 _ h2'
  subst h2'
  omega
def LkRel (w : World) (T : List (Nat × Nat)) (q : Nat × Nat) (v : Value) (wr : World) : Prop := ∃ i : Nat, v = .int .i64 (i : Int) ∧ i ≤ T.length ∧ (∀ k t, k < i → T[k]? = some t → q.1 < t.2) ∧ Fr [] w wr
set_option maxRecDepth 100000 in
set_option maxHeartbeats 8000000 in
theorem Look_any {w : World} {lo fb : Nat} {L : List Sp} {A2 : Option Addr} {tx : List UInt8} {c2 : Nat} (h : FinderAt w lo fb L) (ht : Bytes w A2 tx) (htc : tx.length ≤ c2) (htl : ∀ a, A2 = some a → a.block < w.heap.size) (h0 : 0 < L.length) (hL : L.length ≤ 5000)
    (hok : ProgOk L) (htx : tx.length ≤ 10000) :
    Calls Tryz.prog 51 #[.pointer (some ⟨fb, 0, none⟩), .slice A2 tx.length c2] w fun e w' => e = .returned (found3 (lookS L tx)) ∧ Fr [] w w' := by
 have HN := Lib.hid (newSearch_any h ht htc htl h0 hL)
 obtain ⟨F, hF⟩ : ∃ F, F = lookS L tx := ⟨_, rfl⟩
 rw [← hF]
 obtain ⟨m, hm⟩ : ∃ m, m = tx.length := ⟨_, rfl⟩
 rw [← hm] at HN ⊢
 have HM := Lib.hid hm; have HF := Lib.hid hF
 clear h ht htl hm htc hF
 go_enter Tryz.func51, Tryz.ntmps51
 go_upto_region 2 with (go_at_call 59; refine HN.out.mono ?_; rintro e w1 ⟨sb, l, P, s, rfl, hsr, hsn, hf1, hl⟩; have HF1 := Lib.hid hf1; have HL := Lib.hid hl; have HSR := Lib.hid hsr; have HSN := Lib.hid hsn; clear hsr hsn hf1 hl)
 obtain ⟨PA, pc, PB, pc2, pnx, psn, ptd, pxs, pst, pen, hle, hsm⟩ := HSR.out
 have hlt := hsm.blk.lt
 have f2 := hsm.blk.frozen 2
 have c2' := hsm.blk.cell_ (i := 2) rfl
 have hop := hsm.opens
 have hfo : Fr l w1 (w1.setCell ⟨sb, 2, none⟩ (.bool true)) := (Fr.refl l w1).setCell (.inl (by rw [hle]; simp [srBlocks])) _
 have HOP := Lib.hid hop; have HFO := Lib.hid hfo; have HLE := Lib.hid hle
 clear hle hsm hop hfo HN
 go_upto_region 3 with fail
 clear hlt f2 c2'
 obtain ⟨wo, hwo⟩ : ∃ wo, wo = w1.setCell ⟨sb, 2, none⟩ (.bool true) := ⟨_, rfl⟩
 have hsr : SrAt w.heap.size wo sb l L tx true P [] 0 s := by rw [hwo]; exact ⟨_, _, _, _, _, _, _, _, _, _, HLE.out, HOP.out⟩
 have hfw : Fr [] w wo := by rw [hwo]; exact HF1.out.trans' HFO.out (fun b hb => .inr (HL.out b hb))
 rw [← hwo]
 have hfi := find_any (from_ := 0) hsr hok h0 hL (Nat.zero_le _) htx (by omega) (by rw [HSN.out]; simp)
 rw [show ((0 : Nat) : Int) = 0 from rfl] at hfi
 have HFI := Lib.hid hfi; have HFW := Lib.hid hfw
 clear hwo hsr hfw hfi HOP HFO HLE HSR
 obtain ⟨R, hR⟩ : ∃ R, R = runS L tx true false 0 := ⟨_, rfl⟩
 unfold FindPost at HFI
 rw [← hR] at HFI
 have HR := Lib.hid hR
 clear hR
 go_wp2_with fail
 go_at_call 63
 refine HFI.out.mono ?_
 rintro e w2 ⟨rfl, hp⟩
 have hff := hp.found
 obtain ⟨k10, kq, hf2, hlt2⟩ := hff
 have hf02 : Fr [] w w2 := HFW.out.trans' hf2 (fun b hb => .inr (HL.out b hb))
 obtain ⟨-, Q, s2, st2, ⟨l2, ⟨A3, c3, A4, c4, nx, sn, td, xs, st, en, -, hm2⟩, -, -⟩, hQ, -, -, -⟩ := hp
 have HF2 := Lib.hid hf02; have HM2 := Lib.hid hm2; have HQ := Lib.hid hQ; have HKQ := Lib.hid kq
 clear hf2 hf02 hm2 hQ kq HFI HFW k10
 obtain ⟨T, fd⟩ := R
 cases fd with
 | none =>
  have hlk : F = none := by rw [HF.out]; unfold lookS; rw [← HR.out]
  subst hlk
  go_wp2_with fail
  go_ret3
  exact ⟨rfl, HF2.out⟩
 | some q =>
  obtain ⟨k8, k9⟩ := HKQ.out q rfl
  obtain ⟨QV, Q2⟩ := Q
  have hQ2 : Q2 = T := HQ.out
  subst hQ2
  obtain ⟨NB, nd, hNB⟩ := own_any HM2.out.now_
  dsimp only at hNB
  subst hNB
  obtain ⟨n, hn⟩ : ∃ n, n = Q2.length := ⟨_, rfl⟩
  have k3 : w2.cell? ⟨sb, 3, none⟩ = some (.slice NB n nd) := by rw [hn]; exact HM2.out.blk.cell_ (i := 3) rfl
  obtain ⟨hr1, hr2⟩ := own_room HM2.out.now_
  have hown : w2.ownsRow w.heap.size 134 2 (.slice NB n nd) n (thV Q2) := by rw [hn]; exact HM2.out.now_
  have hn5 : n ≤ 9223372036854775807 := by
   have h9 := own_max hown
   unfold maxLen at h9
   omega
  obtain ⟨hl1, hl2⟩ := lookS_of HR.out.symm
  have HL1 := Lib.hid hl1; have HL2 := Lib.hid hl2; have HOWN := Lib.hid hown; have HNN := Lib.hid hn; have HK8 := Lib.hid k8; have HK9 := Lib.hid k9
  clear hl1 hl2 hown hn HM2 HKQ HQ hr1 hr2 k8 k9
  go_wp2_with fail
  go_loopw [24] (fun v24 wr => LkRel w2 Q2 q v24 wr) (fun v24 _ => n + 1 - (intOf v24).toNat)
  case atStart => exact ⟨0, rfl, Nat.zero_le _, fun k t hk _ => by omega, Fr.refl _ _⟩
  case round =>
   obtain ⟨i, rfl, hi, hall, hfr⟩ := hrel
   have HI := Lib.hid hi; have HALL := Lib.hid hall; have HFR := Lib.hid hfr
   clear hi hall hfr
   have hin' : i ≤ n := by rw [HNN.out]; exact HI.out
   rcases Nat.lt_or_ge i n with hin | hin
   ·have hinI : (i : Int) < (n : Int) := by omega
    obtain ⟨t, ht⟩ : ∃ t, Q2[i]? = some t := ⟨Q2[i]'(by rw [← HNN.out]; exact hin), List.getElem?_eq_getElem _⟩
    obtain ⟨BN, rfl, e0, e1⟩ := own_th (own_keep HOWN.out (KeepB.of_nil HFR.out)) ht
    obtain ⟨t1, t2⟩ := t
    dsimp only at e0 e1
    have HT := Lib.hid ht
    clear ht
    go_upto_region 8 with fail
    obtain ⟨wt, hwt⟩ : ∃ wt, wt = wr.alloc (.cells #[.int .i64 (t1 : Int), .int .i64 (t2 : Int)] 134) := ⟨_, rfl⟩
    have hbt : Bk wt wr.heap.size 134 #[.int .i64 (t1 : Int), .int .i64 (t2 : Int)] := by rw [hwt]; exact Bk.new wr _ _
    have hft : Fr [] w2 wt := by rw [hwt]; exact HFR.out.alloc _
    rw [← hwt]
    obtain ⟨b9, hb9⟩ : ∃ b9, b9 = wr.heap.size := ⟨_, rfl⟩
    rw [← hb9] at hbt ⊢
    have tc1 : wt.cell? ⟨b9, 1, none⟩ = some (.int .i64 (t2 : Int)) := hbt.cell_ (i := 1) rfl
    have tc8 : wt.cell? ⟨sb, 8, none⟩ = some (.int .i64 (q.1 : Int)) := (hft.cell (World.block_lt_of_cell? _ _ HK8.out) (by simp)).trans HK8.out
    have hltb := hbt.lt
    have hlts := World.block_lt_of_cell? _ _ tc8
    have HFT := Lib.hid hft
    clear hwt hbt hft hb9 e0 e1
    rcases Nat.lt_or_ge q.1 t2 with hqt | hqt
    ·have hqtI : ¬ ((t2 : Int) ≤ (q.1 : Int)) := by omega
     refine wp_region_M_ (G := fun a b => a = b) (S := fun W => W = wt.drew) ⟨fun _ => rfl, fun a b c h k => h.trans k, fun a b h k => k ▸ h, by kernel_rfl, fun _ _ d _ _ h => by cases d <;> exact h⟩ (by kernel_rfl) fun su => ?_
     have SU := Lib.hid su
     have HS : Hid (wt.drew = wt.drew) := Lib.hid rfl
     clear su
     refine M_val (i := 0) (v := ?_) SU.out rfl (by kernel_rfl) HS.out rfl (fun W hS => ?_) ?_
     rotate_left
     ·obtain rfl := hS
      go_simp
      first | done | rfl | omega | (exact IntWalk.i64_in _ (by omega)) | (simp; done) | (simp; omega)
     simp only [Act.put, PU]
     refine M_val (i := 1) (v := .int .i64 (t2 : Int)) SU.out rfl (by kernel_rfl) HS.out rfl (fun W hS => ?_) ?_
     ·obtain rfl := hS
      go_simp
      first | done | rfl | omega | (exact IntWalk.i64_in _ (by omega)) | (simp; done) | (simp; omega)
     simp only [Act.put, PU]
     refine M_move (i := 2) _ SU.out rfl rfl (by kernel_rfl) HS.out rfl ?_
     simp only [Act.put, Act.eval, PE]
     refine M_val (i := 3) (v := ?_) SU.out rfl (by kernel_rfl) HS.out rfl (fun W hS => ?_) ?_
     rotate_left
     ·obtain rfl := hS
      go_simp
      first | done | rfl | omega | (exact IntWalk.i64_in _ (by omega)) | (simp; done) | (simp; omega)
     simp only [Act.put, PU]
     refine M_val (i := 4) (v := ?_) SU.out rfl (by kernel_rfl) HS.out rfl (fun W hS => ?_) ?_
     rotate_left
     ·obtain rfl := hS
      go_simp
      first | done | rfl | omega | (exact IntWalk.i64_in _ (by omega)) | (simp; done) | (simp; omega)
     simp only [Act.put, PU]
     refine M_val (i := 5) (v := .int .i64 (q.1 : Int)) SU.out rfl (by kernel_rfl) HS.out rfl (fun W hS => ?_) ?_
     ·obtain rfl := hS
      go_simp
      first | done | rfl | omega | (exact IntWalk.i64_in _ (by omega)) | (simp; done) | (simp; omega)
     simp only [Act.put, PU]
     refine M_val (i := 6) (v := .bool false) SU.out rfl (by kernel_rfl) HS.out rfl (fun W hS => ?_) ?_
     ·obtain rfl := hS
      go_simp
      first | done | rfl | omega | (exact IntWalk.i64_in _ (by omega)) | (simp; done) | (simp; omega)
     simp only [Act.put, PU]
     refine wpAnyM_done (by kernel_rfl) (fun w' hG => ?_)
     obtain rfl := hG
     go_wp2_with fail
     go_roundw
     case rel =>
      refine ⟨i + 1, by go_num, by rw [← HNN.out]; exact hin, fun k u hk hu => ?_, HFT.out.drew⟩
      rcases Nat.lt_or_ge k i with h | h
      ·exact HALL.out k u h hu
      ·have : k = i := by omega
       subst this
       rw [HT.out] at hu; injection hu with hu; subst hu
       exact hqt
     case measure => first | (simp [intOf]; done) | (simp [intOf]; omega)
    ·have hqtI : (t2 : Int) ≤ (q.1 : Int) := by omega
     have hlk : F = none := by rw [HF.out]; exact HL2.out (t1, t2) (List.mem_of_getElem? HT.out) hqt
     subst hlk
     refine wp_region_M_ (G := fun a b => a = b) (S := fun W => W = wt.drew) ⟨fun _ => rfl, fun a b c h k => h.trans k, fun a b h k => k ▸ h, by kernel_rfl, fun _ _ d _ _ h => by cases d <;> exact h⟩ (by kernel_rfl) fun su => ?_
     have SU := Lib.hid su
     have HS : Hid (wt.drew = wt.drew) := Lib.hid rfl
     clear su
     refine M_val (i := 0) (v := ?_) SU.out rfl (by kernel_rfl) HS.out rfl (fun W hS => ?_) ?_
     rotate_left
     ·obtain rfl := hS
      go_simp
      first | done | rfl | omega | (exact IntWalk.i64_in _ (by omega)) | (simp; done) | (simp; omega)
     simp only [Act.put, PU]
     refine M_val (i := 1) (v := .int .i64 (t2 : Int)) SU.out rfl (by kernel_rfl) HS.out rfl (fun W hS => ?_) ?_
     ·obtain rfl := hS
      go_simp
      first | done | rfl | omega | (exact IntWalk.i64_in _ (by omega)) | (simp; done) | (simp; omega)
     simp only [Act.put, PU]
     refine M_move (i := 2) _ SU.out rfl rfl (by kernel_rfl) HS.out rfl ?_
     simp only [Act.put, Act.eval, PE]
     refine M_val (i := 3) (v := ?_) SU.out rfl (by kernel_rfl) HS.out rfl (fun W hS => ?_) ?_
     rotate_left
     ·obtain rfl := hS
      go_simp
      first | done | rfl | omega | (exact IntWalk.i64_in _ (by omega)) | (simp; done) | (simp; omega)
     simp only [Act.put, PU]
     refine M_val (i := 4) (v := ?_) SU.out rfl (by kernel_rfl) HS.out rfl (fun W hS => ?_) ?_
     rotate_left
     ·obtain rfl := hS
      go_simp
      first | done | rfl | omega | (exact IntWalk.i64_in _ (by omega)) | (simp; done) | (simp; omega)
     simp only [Act.put, PU]
     refine M_val (i := 5) (v := .int .i64 (q.1 : Int)) SU.out rfl (by kernel_rfl) HS.out rfl (fun W hS => ?_) ?_
     ·obtain rfl := hS
      go_simp
      first | done | rfl | omega | (exact IntWalk.i64_in _ (by omega)) | (simp; done) | (simp; omega)
     simp only [Act.put, PU]
     refine M_val (i := 6) (v := .bool true) SU.out rfl (by kernel_rfl) HS.out rfl (fun W hS => ?_) ?_
     ·obtain rfl := hS
      go_simp
      first | done | rfl | omega | (exact IntWalk.i64_in _ (by omega)) | (simp; done) | (simp; omega)
     simp only [Act.put, PU]
     refine wpAnyM_done (by kernel_rfl) (fun w' hG => ?_)
     obtain rfl := hG
     go_wp2_with fail
     go_ret3
     exact ⟨rfl, HF2.out.trans HFT.out.drew⟩
   ·have hinI : ¬ ((i : Int) < (n : Int)) := by omega
    have hlk : F = some q := by
     rw [HF.out]
     refine HL1.out fun t ht => ?_
     obtain ⟨k, hk, hkt⟩ := List.getElem_of_mem ht
     exact HALL.out k t (by have := HNN.out; omega) (by rw [List.getElem?_eq_getElem hk, hkt])
    subst hlk
    have k8 : wr.cell? ⟨sb, 8, none⟩ = some (.int .i64 (q.1 : Int)) := (HFR.out.cell (World.block_lt_of_cell? _ _ HK8.out) (by simp)).trans HK8.out
    have k9 : wr.cell? ⟨sb, 9, none⟩ = some (.int .i64 (q.2 : Int)) := (HFR.out.cell (World.block_lt_of_cell? _ _ HK9.out) (by simp)).trans HK9.out
    have hlts := World.block_lt_of_cell? _ _ k8
    go_upto_region 11 with fail
    refine wp_region_M_ (G := fun a b => a = b) (S := fun W => W = wr.drew) ⟨fun _ => rfl, fun a b c h k => h.trans k, fun a b h k => k ▸ h, by kernel_rfl, fun _ _ d _ _ h => by cases d <;> exact h⟩ (by kernel_rfl) fun su => ?_
    have SU := Lib.hid su
    have HS : Hid (wr.drew = wr.drew) := Lib.hid rfl
    clear su
    refine M_move (i := 0) _ SU.out rfl rfl (by kernel_rfl) HS.out rfl ?_
    simp only [Act.put, Act.eval, PE]
    refine M_val (i := 1) (v := ?_) SU.out rfl (by kernel_rfl) HS.out rfl (fun W hS => ?_) ?_
    rotate_left
    ·obtain rfl := hS
     go_simp
     first | done | rfl | omega | (exact IntWalk.i64_in _ (by omega)) | (simp; done) | (simp; omega)
    simp only [Act.put, PU]
    refine M_val (i := 2) (v := ?_) SU.out rfl (by kernel_rfl) HS.out rfl (fun W hS => ?_) ?_
    rotate_left
    ·obtain rfl := hS
     go_simp
     first | done | rfl | omega | (exact IntWalk.i64_in _ (by omega)) | (simp; done) | (simp; omega)
    simp only [Act.put, PU]
    refine M_val (i := 3) (v := .int .i64 (q.1 : Int)) SU.out rfl (by kernel_rfl) HS.out rfl (fun W hS => ?_) ?_
    ·obtain rfl := hS
     go_simp
     first | done | rfl | omega | (exact IntWalk.i64_in _ (by omega)) | (simp; done) | (simp; omega)
    simp only [Act.put, PU]
    refine M_move (i := 4) _ SU.out rfl rfl (by kernel_rfl) HS.out rfl ?_
    simp only [Act.put, Act.eval, PE]
    refine M_val (i := 5) (v := ?_) SU.out rfl (by kernel_rfl) HS.out rfl (fun W hS => ?_) ?_
    rotate_left
    ·obtain rfl := hS
     go_simp
     first | done | rfl | omega | (exact IntWalk.i64_in _ (by omega)) | (simp; done) | (simp; omega)
    simp only [Act.put, PU]
    refine M_val (i := 6) (v := ?_) SU.out rfl (by kernel_rfl) HS.out rfl (fun W hS => ?_) ?_
    rotate_left
    ·obtain rfl := hS
     go_simp
     first | done | rfl | omega | (exact IntWalk.i64_in _ (by omega)) | (simp; done) | (simp; omega)
    simp only [Act.put, PU]
    refine M_val (i := 7) (v := .int .i64 (q.2 : Int)) SU.out rfl (by kernel_rfl) HS.out rfl (fun W hS => ?_) ?_
    ·obtain rfl := hS
     go_simp
     first | done | rfl | omega | (exact IntWalk.i64_in _ (by omega)) | (simp; done) | (simp; omega)
    simp only [Act.put, PU]
    refine M_val (i := 8) (v := ?_) SU.out rfl (by kernel_rfl) HS.out rfl (fun W hS => ?_) ?_
    rotate_left
    ·obtain rfl := hS
     go_simp
     first | done | rfl | omega | (exact IntWalk.i64_in _ (by omega)) | (simp; done) | (simp; omega)
    simp only [Act.put, PU]
    refine M_val (i := 9) (v := ?_) SU.out rfl (by kernel_rfl) HS.out rfl (fun W hS => ?_) ?_
    rotate_left
    ·obtain rfl := hS
     go_simp
     first | done | rfl | omega | (exact IntWalk.i64_in _ (by omega)) | (simp; done) | (simp; omega)
    simp only [Act.put, PU]
    refine M_val (i := 10) (v := ?_) SU.out rfl (by kernel_rfl) HS.out rfl (fun W hS => ?_) ?_
    rotate_left
    ·obtain rfl := hS
     go_simp
     first | done | rfl | omega | (exact IntWalk.i64_in _ (by omega)) | (simp; done) | (simp; omega)
    simp only [Act.put, PU]
    refine wpAnyM_done (by kernel_rfl) (fun w' hG => ?_)
    obtain rfl := hG
    go_wp2_with fail
    go_ret3
    exact ⟨rfl, HF2.out.trans HFR.out.drew⟩
end Go.Proofs.YtfbmogccmlikaaaGreatDoor
