/-
 The walks over a finder's newSearch, find, Find, Takes. No conditions but sizes.
-/
import Derived.Test.YteofhjegaaoglaaGreatMb4
import Derived.Test.YteofhjegaaoglaaGreatGzI
namespace Go.Proofs.YteofhjegaaoglaaGreat
open Go.RowKit Go.ChangeMaps
set_option linter.unusedVariables false
set_option linter.unusedSimpArgs false
theorem mk_ints (n : Nat) (hn : n ≤ 100000) (W : World) : (Instr.makeSlice 87 (.int .i64 (n : Int)) (.int .i64 (n : Int))).run Tryz.prog W = .ok (.slice (some ⟨W.heap.size, 0, none⟩) n n) (W.alloc (.cells (intsV (List.replicate n 0)).toArray 3)) := by
 obtain ⟨i, hi, hz, hs, hb⟩ := intParts; have h := run_make (P := Tryz.prog) (w := W) 87 3 i _ Tryz.underlying87 hi hz .i64 .i64 (n : Int) (n : Int) (by omega) (by omega) (by rw [hb]; omega) (by omega); rw [hs] at h; have e1 : Int.toNat (n : Int) = n := by omega
 have e2 : madeCells (Value.int .i64 0).cells (n * 1) = (intsV (List.replicate n 0)).toArray := by
  have := toList_madeCells_one (.int .i64 0) n; rw [Nat.mul_one]
  apply Array.ext'
  rw [show (Value.int .i64 0).cells = #[Value.int .i64 0] from rfl, this]; simp [intsV]
 rw [e1, e2] at h; exact h
def NewSr (w : World) (L : List Sp) (tx : List UInt8) (e : Ending) (w' : World) : Prop :=
 ∃ sb l P s, e = .returned (.pointer (some ⟨sb, 0, none⟩)) ∧ SrAt w.heap.size w' sb l L tx false P [] 0 s ∧ s.next = [] ∧ Fr [] w w' ∧ ∀ b ∈ l, w.heap.size ≤ b
theorem new_sr {w w1 w2 : World} {A : Option Addr} {n c : Nat} {L : List Sp} {A2 : Option Addr} {tx : List UInt8} {c2 : Nat} (hn : n = L.length)
    (hp : w.ownsRow 0 109 7 (.slice A n c) L.length (L.flatMap Sp.cells)) (ht : Bytes w A2 tx) (htc : tx.length ≤ c2) (htl : ∀ a, A2 = some a → a.block < w.heap.size) (h0 : 0 < L.length) (hL : L.length ≤ 5000) (hf : Fr [] w w1)
    (hw2 : w2 = (w1.alloc (.cells (intsV (List.replicate n 0)).toArray 3)).alloc (.cells #[.slice A n c, .slice A2 tx.length c2, .bool false, .slice none 0 0, .slice none 0 0, .int .i64 0, .slice (some ⟨w1.heap.size, 0, none⟩) n n, .slice none 0 0, .int .i64 0, .int .i64 0, .bool false] 89)) :
    NewSr w L tx (.returned (.pointer (some ⟨w1.heap.size + 1, 0, none⟩))) w2 := by
 subst hn; have hf2 : Fr [] w w2 := by rw [hw2]; exact (hf.alloc _).alloc _
 have hsz := hf.size; have hb1 : Bk w2 w1.heap.size 3 (intsV (List.replicate L.length 0)).toArray := by rw [hw2]; exact (Bk.new w1 _ _).alloc _
 have hb2 : Bk w2 (w1.heap.size + 1) 89 #[.slice A L.length c, .slice A2 tx.length c2, .bool false, .slice none 0 0, .slice none 0 0, .int .i64 0, .slice (some ⟨w1.heap.size, 0, none⟩) L.length L.length, .slice none 0 0, .int .i64 0, .int .i64 0, .bool false] := by
  rw [hw2]; have := Bk.new (w1.alloc (.cells (intsV (List.replicate L.length 0)).toArray 3)) 89 #[.slice A L.length c, .slice A2 tx.length c2, .bool false, .slice none 0 0, .slice none 0 0, .int .i64 0, .slice (some ⟨w1.heap.size, 0, none⟩) L.length L.length, .slice none 0 0, .int .i64 0, .int .i64 0, .bool false]; have e : (w1.alloc (.cells (intsV (List.replicate L.length 0)).toArray 3)).heap.size = w1.heap.size + 1 := by simp
  rw [e] at this; exact this
 have hnil : ∀ (t : TypeId) (sz : Nat), w2.ownsRow w.heap.size t sz (.slice none 0 0) 0 [] := fun t sz => ⟨by simp, .inl ⟨rfl, rfl⟩⟩; refine ⟨w1.heap.size + 1, _, (.slice none 0 0, []), ⟨[], List.replicate L.length true, none⟩, rfl, ⟨A, c, A2, c2, .slice none 0 0, .slice (some ⟨w1.heap.size, 0, none⟩) L.length L.length, .slice none 0 0, List.replicate L.length 0, 0, 0, rfl, ?_⟩, rfl, hf2, ?_⟩
 ·exact { lo_ := by omega, tlo := htl, blk := hb2, prog := own_keep hp (KeepB.of_nil hf2), text := ht.fr hf2 (by simp), textc := htc, now_ := hnil _ _, next_ := hnil _ _, todo_ := hnil _ _
          seen_ := ⟨by simp [intsV], .inr ⟨w1.heap.size, L.length, _, rfl, by omega, hb1, Nat.le_refl _, by unfold maxLen; omega, by simp [intsV], by simp [intsV]⟩⟩
          d1 := fun b hb => (by simp [Value.ownBlock] at hb), d2 := fun b hb => (by simp [Value.ownBlock])
          len := by simp, le := fun x hx => (by simp at hx; omega), vis := by simp, fd := fun q hq => (by cases hq) }
 ·intro b hb; rcases srb_mem.1 hb with e | e | e | e | e
  ·omega
  ·simp [Value.ownBlock] at e
  ·simp [Value.ownBlock] at e
  ·simp [Value.ownBlock] at e; omega
  ·simp [Value.ownBlock] at e
set_option maxRecDepth 100000 in
set_option maxHeartbeats 8000000 in
theorem newSearch_any {w : World} {lo fb : Nat} {L : List Sp} {A2 : Option Addr} {tx : List UInt8} {c2 : Nat} (h : FinderAt w lo fb L) (ht : Bytes w A2 tx) (htc : tx.length ≤ c2) (htl : ∀ a, A2 = some a → a.block < w.heap.size) (h0 : 0 < L.length) (hL : L.length ≤ 5000) :
    Calls Tryz.prog 26 #[.pointer (some ⟨fb, 0, none⟩), .slice A2 tx.length c2] w (NewSr w L tx) := by
 obtain ⟨A, c, hb, hr⟩ := h; obtain ⟨n, hn⟩ : ∃ n, n = L.length := ⟨_, rfl⟩; obtain ⟨m, hm⟩ : ∃ m, m = tx.length := ⟨_, rfl⟩; have hmk := mk_ints n (by omega); have hlt := hb.lt; have c0 : w.cell? ⟨fb, 0, none⟩ = some (.slice A n c) := by rw [hn]; exact hb.cell_ rfl
 have hr0 : w.ownsRow 0 109 7 (.slice A n c) L.length (L.flatMap Sp.cells) := by rw [hn]; exact own_rebase hr (fun g hg => Nat.zero_le _)
 have HR := zh hr0; have HT := zh ht; have HN := zh hn; have HM := zh hm; have HTC := zh htc; rw [← hm]; clear hb hr hr0 ht hn hm htc; go_enter Tryz.func26, Tryz.ntmps26
 go_upto_region 1 with fail
 refine wp_region_F_ (G := fun a b => a = b) (F := fun i => i == 14) (S := fun W => W.cell? ⟨fb, 0, none⟩ = some (.slice A n c)) ⟨fun _ => rfl, fun a b c h k => h.trans k, fun a b h k => k ▸ h, by kernel_rfl, fun _ _ d _ _ h => by cases d <;> exact h⟩ (by kernel_rfl) fun su => ?_
 have SU := zh su; obtain ⟨wd, hwd⟩ : ∃ wd, wd = w.drew := ⟨_, rfl⟩; rw [← hwd]; have HS : Hid (wd.cell? ⟨fb, 0, none⟩ = some (.slice A n c)) := zh (by rw [hwd]; exact c0); have hfd : Fr [] w wd := by rw [hwd]; exact (Fr.refl [] w).drew
 have HFD := zh hfd; clear su hwd hfd c0; refine F_move (i := 0) _ SU.out rfl rfl (by kernel_rfl) HS.out rfl ?_; simp only [Act.put, Act.eval, PE]; refine F_val (i := 1) (v := ?_) SU.out rfl (by kernel_rfl) HS.out rfl (fun W hS => ?_) ?_; rotate_left
 ·have t0 := hS; go_simp; first | done | rfl | omega | (exact IntWalk.i64_in _ (by omega)) | (simp; done) | (simp; omega)
 simp only [Act.put, PU]; refine F_val (i := 2) (v := ?_) SU.out rfl (by kernel_rfl) HS.out rfl (fun W hS => ?_) ?_; rotate_left
 ·have t0 := hS; go_simp; first | done | rfl | omega | (exact IntWalk.i64_in _ (by omega)) | (simp; done) | (simp; omega)
 simp only [Act.put, PU]; refine F_val (i := 3) (v := .slice A n c) SU.out rfl (by kernel_rfl) HS.out rfl (fun W hS => ?_) ?_
 ·have t0 := hS; go_simp; first | done | rfl | omega | (exact IntWalk.i64_in _ (by omega)) | (simp; done) | (simp; omega)
 simp only [Act.put, PU]; refine F_move (i := 4) _ SU.out rfl rfl (by kernel_rfl) HS.out rfl ?_; simp only [Act.put, Act.eval, PE]; refine F_move (i := 5) _ SU.out rfl rfl (by kernel_rfl) HS.out rfl ?_; simp only [Act.put, Act.eval, PE]; refine F_val (i := 6) (v := ?_) SU.out rfl (by kernel_rfl) HS.out rfl (fun W hS => ?_) ?_; rotate_left
 ·have t0 := hS; go_simp; first | done | rfl | omega | (exact IntWalk.i64_in _ (by omega)) | (simp; done) | (simp; omega)
 simp only [Act.put, PU]; refine F_val (i := 7) (v := ?_) SU.out rfl (by kernel_rfl) HS.out rfl (fun W hS => ?_) ?_; rotate_left
 ·have t0 := hS; go_simp; first | done | rfl | omega | (exact IntWalk.i64_in _ (by omega)) | (simp; done) | (simp; omega)
 simp only [Act.put, PU]; refine F_val (i := 8) (v := .slice A n c) SU.out rfl (by kernel_rfl) HS.out rfl (fun W hS => ?_) ?_
 ·have t0 := hS; go_simp; first | done | rfl | omega | (exact IntWalk.i64_in _ (by omega)) | (simp; done) | (simp; omega)
 simp only [Act.put, PU]; refine F_val (i := 9) (v := .int .i64 (n : Int)) SU.out rfl (by kernel_rfl) HS.out rfl (fun W hS => ?_) ?_
 ·have t0 := hS; go_simp; first | done | rfl | omega | (exact IntWalk.i64_in _ (by omega)) | (simp; done) | (simp; omega)
 simp only [Act.put, PU]; refine wpAnyF_all (rs := [10]) (by kernel_rfl) (by simp) (fun w' hG => ?_); obtain rfl := hG; refine allF.head rfl rfl (fun K9 hK9 => ?_) allF.nil; go_simp
 have hs1 : (wd.alloc (.cells (intsV (List.replicate n 0)).toArray 3)).cell? ⟨fb, 0, none⟩ = some (.slice A n c) := by
  exact (((Fr.refl [] wd).alloc _).cell (World.block_lt_of_cell? wd _ HS.out) (by simp)).trans HS.out
 have HS1 := zh hs1; refine hK9.out _ _ (.inr hs1) ?_; clear hs1; clear hK9 K9; refine wpAnyF_all (rs := [11]) (by kernel_rfl) (by simp) (fun w' hG => ?_); obtain rfl := hG; refine allF.head rfl rfl (fun K9 hK9 => ?_) allF.nil; go_simp; refine hK9.out _ _ (.inr HS1.out) ?_; clear hK9 K9; refine wpAnyF_all (rs := [12]) (by kernel_rfl) (by simp) (fun w' hG => ?_); obtain rfl := hG; refine allF.head rfl rfl (fun K9 hK9 => ?_) allF.nil; go_simp; obtain ⟨w2, hw2⟩ : ∃ w2, w2 = (wd.alloc (.cells (intsV (List.replicate n 0)).toArray 3)).alloc (.cells #[.slice A n c, .slice A2 m c2, .bool false, .slice none 0 0, .slice none 0 0, .int .i64 0, .slice (some ⟨wd.heap.size, 0, none⟩) n n, .slice none 0 0, .int .i64 0, .int .i64 0, .bool false] 89) := ⟨_, rfl⟩; rw [← hw2]; have hs2 : w2.cell? ⟨fb, 0, none⟩ = some (.slice A n c) := by rw [hw2]; exact (((Fr.refl [] _).alloc _).cell (World.block_lt_of_cell? _ _ HS1.out) (by simp)).trans HS1.out
 have HS2 := zh hs2; refine hK9.out _ _ (.inr hs2) ?_; have hnew := new_sr (w2 := w2) HN.out HR.out HT.out HTC.out htl h0 hL HFD.out (by rw [hw2, HM.out]); have HNEW := zh hnew; clear hs2 hnew hw2; clear hK9 K9; refine wpAnyF_all (rs := [13]) (by kernel_rfl) (by simp) (fun w' hG => ?_); obtain rfl := hG; refine allF.head rfl rfl (fun K9 hK9 => ?_) allF.nil; go_simp; refine hK9.out _ _ (.inr HS2.out) ?_; clear hK9 K9; refine wpAnyF_done (by kernel_rfl) (fun w' hG => ?_); obtain rfl := hG; go_wp2_with fail
 go_ret
 exact HNEW.out
def FindPost (lo : Nat) (w : World) (sb : Nat) (l : List Nat) (L : List Sp) (tx : List UInt8) (opn : Bool) (stamp from_ : Nat) (e : Ending) (w' : World) : Prop :=
 e = .returned (.bool (runS L tx opn false from_).2.isSome) ∧ RunPost lo w sb l L tx opn stamp (runS L tx opn false from_) (.returned (.tuple #[])) w'
theorem RunPost.found {lo : Nat} {w : World} {sb : Nat} {l : List Nat} {L : List Sp} {tx : List UInt8} {opn : Bool} {stamp : Nat} {r : List (Nat × Nat) × Option (Nat × Nat)} {e : Ending} {w' : World} (h : RunPost lo w sb l L tx opn stamp r e w') :
    w'.cell? ⟨sb, 10, none⟩ = some (.bool r.2.isSome) ∧ (∀ q, r.2 = some q → w'.cell? ⟨sb, 8, none⟩ = some (.int .i64 (q.1 : Int)) ∧ w'.cell? ⟨sb, 9, none⟩ = some (.int .i64 (q.2 : Int))) ∧ Fr l w w' ∧ sb < w'.heap.size := by
 obtain ⟨-, P, s, stamp', ⟨l', ⟨A, c, A2, c2, xv, sv, tv, ys, s0, en, -, hm⟩, hf, -⟩, -, h2, -⟩ := h; rw [← h2]; refine ⟨hm.blk.cell_ rfl, fun q hq => ?_, hf, hm.blk.lt⟩; obtain ⟨e1, e2⟩ := hm.fd q hq; subst e1 e2; exact ⟨hm.blk.cell_ rfl, hm.blk.cell_ rfl⟩
set_option maxRecDepth 100000 in
set_option maxHeartbeats 4000000 in
theorem find_any {lo : Nat} {w : World} {sb : Nat} {l : List Nat} {L : List Sp} {tx : List UInt8} {opn : Bool} {P0 : Value × List (Nat × Nat)} {stamp from_ : Nat} {s0 : Sr}
    (h : SrAt lo w sb l L tx opn P0 [] stamp s0) (hok : ProgOk L) (h0 : 0 < L.length) (hL : L.length ≤ 5000) (hfr : from_ ≤ tx.length) (htx : tx.length ≤ 10000) (hstamp : stamp + tx.length + 2 ≤ 1000000000000) (hnx : s0.next.length ≤ 5000) :
    Calls Tryz.prog 27 #[.pointer (some ⟨sb, 0, none⟩), .int .i64 (from_ : Int)] w (FindPost lo w sb l L tx opn stamp from_) := by
 have HRUN := zh (run_any (there := false) h hok h0 hL hfr htx hstamp hnx); obtain ⟨R, hR⟩ : ∃ R, R = runS L tx opn false from_ := ⟨_, rfl⟩; unfold FindPost; rw [← hR] at HRUN ⊢; clear hok hR h; go_enter Tryz.func27, Tryz.ntmps27
 go_wp2_with fail
 go_at_call 37
 refine HRUN.out.mono ?_; intro e w1 hp; have hf := hp.found; obtain ⟨he, -⟩ := id hp; subst he; have c10 := hf.1; have hlt1 := hf.2.2.2; have HP := zh hp; clear hp hf HRUN; go_wp2_with fail
 go_ret
 exact ⟨rfl, HP.out⟩
def found3 (r : Option (Nat × Nat)) : Value := match r with | some q => .tuple #[.int .i64 (q.1 : Int), .int .i64 (q.2 : Int), .bool true] | none => .tuple #[.int .i64 0, .int .i64 0, .bool false]
def tkF (n : Nat) : Option (Nat × Nat) → Bool | some q => q.2 == n | none => false
end Go.Proofs.YteofhjegaaoglaaGreat
