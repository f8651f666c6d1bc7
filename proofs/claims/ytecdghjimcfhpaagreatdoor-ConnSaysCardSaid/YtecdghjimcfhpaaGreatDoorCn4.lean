/-
  A connection that speaks: Say, Next, Took, Held, over a queue of bytes. No conditions on the program.
-/
import Derived.Test.YtecdghjimcfhpaaGreatDoorCn3
namespace Go.Proofs.YtecdghjimcfhpaaGreatDoor
open Go.RowKit
set_option linter.unusedVariables false
set_option linter.unusedSimpArgs false

/-- Its queue at q holds bs; its cutter at r is empty; so many acts lie behind it. -/
def Cq (w : World) (B g q r : Nat) (k lo hi room : Int) (bs : List UInt8) (i : Nat) (idle : Int) : Prop :=
  ∃ (ab : Bool) (qu go last : Int), Bk w g 54 (cnCells q r 0 last idle) ∧ Q.Que w q lo hi room bs ab qu go ∧ CuR w r ⟨10, k, [], false⟩ (.slice none 0 0) ∧ B ≤ g ∧ B ≤ q ∧ 0 ≤ qu ∧ qu ≤ 65536 * (i : Int) ∧ 0 ≤ go ∧ go ≤ 65536 * (i : Int)
theorem Cq.fr_nil {w w' : World} {B g q r : Nat} {k lo hi room : Int} {bs : List UInt8} {i : Nat} {idle : Int} (h : Cq w B g q r k lo hi room bs i idle) (hf : Fr [] w w') : Cq w' B g q r k lo hi room bs i idle := by
  obtain ⟨ab, qu, go, last, h1, ⟨A, c, h2, h3, h4, h5, h6, h7⟩, h8, h9⟩ := h
  exact ⟨ab, qu, go, last, h1.fr hf (by simp), ⟨A, c, h2.fr hf (by simp), h3.fr_nil hf, h4, h5, h6, h7⟩, ⟨h8.1.fr hf (by simp), Own.nil_ _ _⟩, h9⟩
theorem Cq.to {w w' : World} {B g q r : Nat} {k lo hi room : Int} {bs bs' : List UInt8} {i j : Nat} {idle : Int} (h : Cq w B g q r k lo hi room bs i idle) (hB : B ≤ w.heap.size) (hf : Fr [q] w w') {ab : Bool} {qu go : Int} (hq : Q.Que w' q lo hi room bs' ab qu go) (h1 : 0 ≤ qu ∧ qu ≤ 65536 * (j : Int)) (h2 : 0 ≤ go ∧ go ≤ 65536 * (j : Int)) :
    Cq w' B g q r k lo hi room bs' j idle ∧ Below B w w' := by
  obtain ⟨ab0, qu0, go0, last, k1, ⟨A, c, k2, -⟩, k8, k9, k10, -⟩ := h
  have n1 : g ∉ [q] := by simpa using k1.ne_ k2 (by decide)
  have n2 : r ∉ [q] := by simpa using k8.1.ne_ k2 (by decide)
  exact ⟨⟨ab, qu, go, last, k1.fr hf n1, hq, ⟨k8.1.fr hf n2, Own.nil_ _ _⟩, k9, k10, h1.1, h1.2, h2.1, h2.2⟩, hf.below_at hB (by simpa using k10)⟩
/-- Bytes don't lie in a block in which no byte lies. -/
theorem bytes_off {w w' : World} {g : Nat} {t : TypeId} {cs : Array Value} {A : Option Addr} {xs : List UInt8} (hb : Bk w g t cs) (hcs : ∀ (o : Nat) (n : Int), cs[o]? ≠ some (.int .u8 n)) (h : Bytes w A xs) (hf : Fr [g] w w') : Bytes w' A xs := by
  rcases h with h | ⟨a, rfl, hlt, hc⟩
  · exact .inl h
  · by_cases h0 : xs = []
    · subst h0; exact .inl rfl
    · refine At.fr (.inr ⟨a, rfl, hlt, hc⟩) hf (fun a' ha' _ => ?_)
      injection ha' with ha'
      subst ha'
      intro hm
      have hag : a.block = g := by simpa using hm
      obtain ⟨x, r, rfl⟩ := List.exists_cons_of_ne_nil h0
      have h1 := hc 0 (.int .u8 (x.toNat : Int)) (by simp [byteVals])
      have ha0 : a.add 0 = a := by simp [Addr.add]
      rw [ha0] at h1
      obtain ⟨b, off, spot⟩ := a
      have hsp : spot = none := by
        cases spot with
        | none => rfl
        | some s =>
          exfalso
          unfold World.cell? at h1
          split at h1
          · simp at h1
          · cases h1
      subst hsp
      obtain rfl : b = g := hag
      rw [hb.cell] at h1
      exact hcs off _ h1
theorem cn_nobyte (q r : Nat) (st last idle : Int) : ∀ (o : Nat) (n : Int), (cnCells q r st last idle)[o]? ≠ some (.int .u8 n) := by
  intro o n
  match o with
  | 0 => simp [cnCells]
  | 1 => simp [cnCells]
  | 2 => simp [cnCells]
  | 3 => simp [cnCells]
  | 4 => simp [cnCells]
  | (m + 5) => simp [cnCells]
section
variable {w : World} {B g q r : Nat} {k lo hi room : Int} {bs : List UInt8} {i : Nat} {idle : Int}
set_option maxRecDepth 100000 in
theorem say_yes (h : Cq w B g q r k lo hi room bs i idle) (hB : B ≤ w.heap.size) (hr : room ≤ 65536) (hi9 : i ≤ 100) (xs : List UInt8) (hx : xs.length ≤ 60) (hl : (xs.length : Int) ≤ room - bs.length) :
    Calls Tryz.prog 13 #[.pointer (some ⟨g, 0, none⟩), .string ⟨xs.toArray⟩] w fun e w' => e = .returned .nilIface ∧ Cq w' B g q r k lo hi room (bs ++ xs) (i + 1) idle ∧ Fr [q] w w' := by
  have H := Lib.hid h
  obtain ⟨ab, qu, go, last, h1, h2, h8, h9, h10, h11, h12, h13, h14⟩ := h
  obtain ⟨c0, c1, c2, -, -⟩ := cn_cells h1
  have HQ := Lib.hid h2
  have HHL := Lib.hid hl
  clear h1 h2 h8 h9 h10 c1 hl
  go_enter Tryz.func13, Tryz.ntmps13
  go_wp2_with (refine wpList_bytes rfl 9 31 (.tmp 15) rfl 5 Tryz.underlying9 Tryz.underlying31 Tryz.underlying5 ⟨xs.toArray⟩ (by rfl) (by rw [ba_size]; unfold maxLen; omega) ?_; intro A2 cc2 w2 hat hge hle hA2 hfr; have HAT : Hid (Bytes w2 A2 xs) := Lib.hid (show At w2 A2 (byteVals xs) from by simpa using hat); have HF := Lib.hid hfr; clear hat hge hle hA2 hfr)
  go_at_call 26
  have hq2 := ((H.out.fr_nil HF.out))
  refine (Q.put_yes' (bs := bs) (xs := xs) (lo := lo) (hi := hi) (room := room) (ab := ab) (qu := qu) (go := go) (by obtain ⟨A, c, k2, k3, k4, k5, k6, k7⟩ := HQ.out; exact ⟨A, c, k2.fr HF.out (by simp), k3.fr_nil HF.out, k4, k5, k6, k7⟩) hr A2 _ cc2 HAT.out rfl HHL.out h11 (by omega)).mono ?_
  rintro e w3 ⟨rfl, hq, hf⟩
  have HC := Lib.hid (hq2.to (j := i + 1) (Nat.le_trans hB HF.out.size) hf hq (by omega) (by omega))
  have HFF := Lib.hid (HF.out.nil_.trans' hf (fun i hi => .inl hi))
  clear hq hf hq2
  go_wp2_with fail
  go_ret
  exact ⟨rfl, HC.out.1, HFF.out⟩
set_option maxRecDepth 100000 in
theorem say_no (h : Cq w B g q r k lo hi room bs i idle) (hB : B ≤ w.heap.size) (hr : room ≤ 65536) (hr0 : 0 ≤ room) (hi9 : i ≤ 100) (xs : List UInt8) (hx : xs.length ≤ 60) (hl : room - bs.length < (xs.length : Int)) :
    Calls Tryz.prog 13 #[.pointer (some ⟨g, 0, none⟩), .string ⟨xs.toArray⟩] w fun e w' => e = .returned (errV 17) ∧ Cq w' B g q r k lo hi room bs (i + 1) idle ∧ Fr [q] w w' := by
  have H := Lib.hid h
  obtain ⟨ab, qu, go, last, h1, h2, h8, h9, h10, h11, h12, h13, h14⟩ := h
  obtain ⟨c0, c1, c2, -, -⟩ := cn_cells h1
  have HQ := Lib.hid h2
  have HHL := Lib.hid hl
  clear h1 h2 h8 h9 h10 c1 hl
  go_enter Tryz.func13, Tryz.ntmps13
  go_wp2_with (refine wpList_bytes rfl 9 31 (.tmp 15) rfl 5 Tryz.underlying9 Tryz.underlying31 Tryz.underlying5 ⟨xs.toArray⟩ (by rfl) (by rw [ba_size]; unfold maxLen; omega) ?_; intro A2 cc2 w2 hat hge hle hA2 hfr; have HAT : Hid (Bytes w2 A2 xs) := Lib.hid (show At w2 A2 (byteVals xs) from by simpa using hat); have HF := Lib.hid hfr; clear hat hge hle hA2 hfr)
  go_at_call 26
  have hq2' : Q.Que w2 q lo hi room bs ab qu go := by obtain ⟨A, c, k2, k3, k4, k5, k6, k7⟩ := HQ.out; exact ⟨A, c, k2.fr HF.out (by simp), k3.fr_nil HF.out, k4, k5, k6, k7⟩
  refine (Q.put_no hq2' hr hr0 A2 _ cc2 (by unfold maxLen; omega) HHL.out).mono ?_
  rintro e w3 ⟨rfl, n, hw3⟩
  have hfd : Fr [] w2 w3 := by rw [hw3]; exact Fr.drewN (Fr.refl _ _) n
  have HF3 := Lib.hid (HF.out.trans hfd)
  have hq3 := H.out.fr_nil HF3.out
  clear hw3 hfd hq2'
  have HQ3 : Hid (Cq w3 B g q r k lo hi room bs (i + 1) idle) := Lib.hid (by obtain ⟨ab, qu, go, last, m1, m2, m3, m4, m5, m6, m7, m8, m9⟩ := hq3; exact ⟨ab, qu, go, last, m1, m2, m3, m4, m5, m6, by omega, m8, by omega⟩)
  clear hq3
  go_wp2_with fail
  go_ret
  exact ⟨rfl, HQ3.out, HF3.out.nil_⟩
set_option maxRecDepth 100000 in
theorem cnext_at (h : Cq w B g q r k lo hi room bs i idle) (hl : bs.length ≤ 65536) (n : Int) (kk : Nat) (hk : kk = Q.clampN n bs.length) :
    Calls Tryz.prog 14 #[.pointer (some ⟨g, 0, none⟩), .int .i64 n] w fun e w' => ∃ A c, e = .returned (.slice A kk c) ∧ Bytes w' A (bs.take kk) ∧ kk ≤ c ∧ (A = none → c = 0) ∧ Fr [] w w' ∧ ∀ a, A = some a → w.heap.size ≤ a.block := by
  obtain ⟨ab, qu, go, last, h1, h2, h8, h9, h10, h11, h12, h13, h14⟩ := h
  obtain ⟨c0, c1, c2, -, -⟩ := cn_cells h1
  have HQ := Lib.hid (Q.next_at h2 hl n kk hk)
  clear h1 h2 h8 h9 h10 c1 hk
  go_enter Tryz.func14, Tryz.ntmps14
  go_wp2_with fail
  go_at_call 27
  refine HQ.out.mono ?_
  rintro e w2 ⟨A, c, rfl, k1, k2, k3, k4, -, k6, k7⟩
  have HX := Lib.hid (And.intro k1 (And.intro k2 (And.intro k4 (And.intro k6 k7))))
  clear k1 k2 k3 k4 k6 k7
  go_wp2_with fail
  go_ret
  exact ⟨A, c, rfl, HX.out.1, HX.out.2.1, HX.out.2.2.1, HX.out.2.2.2⟩
set_option maxRecDepth 100000 in
theorem ctook_at (h : Cq w B g q r k lo hi room bs i idle) (hB : B ≤ w.heap.size) (hi9 : i ≤ 100) (hl : bs.length ≤ 65536) (n : Int) (kk : Nat) (hk : kk = Q.clampN n bs.length) :
    Calls Tryz.prog 15 #[.pointer (some ⟨g, 0, none⟩), .int .i64 0, .int .i64 n] w fun e w' => e = .returned (.int .i64 (kk : Int)) ∧ Cq w' B g q r k lo hi room (bs.drop kk) (i + 1) idle ∧ Fr [q, g] w w' := by
  have H := Lib.hid h
  obtain ⟨ab, qu, go, last, h1, h2, h8, h9, h10, h11, h12, h13, h14⟩ := h
  obtain ⟨c0, c1, c2, -, -⟩ := cn_cells h1
  have hkl : kk ≤ bs.length := hk ▸ Q.clampN_le _ _
  have HQ := Lib.hid (Q.took_at h2 hl n kk hk h13 (by omega))
  clear h1 h2 h8 h9 h10 c1 hk
  go_enter Tryz.func15, Tryz.ntmps15
  go_wp2_with fail
  go_at_call 20
  refine (inTime_ok (by omega) w).mono ?_
  rintro e w2 ⟨rfl, rfl⟩
  go_wp2_with fail
  go_at_call 28
  refine HQ.out.mono ?_
  rintro e w2 ⟨rfl, hq, hf⟩
  have HC := Lib.hid (H.out.to (j := i + 1) hB hf hq (by omega) (by omega))
  have HS := Lib.hid (Nat.le_trans hB hf.size)
  have HFQ : Hid (Fr [q, g] w w2) := Lib.hid (hf.mono (fun i hi => .inl (by simp at hi; simp [hi])))
  clear hq hf HQ H c0 c2
  by_cases hz : 0 < kk
  · obtain ⟨ab', qu', go', last', m1, m2, m3, m4, m5, m6, m7, m8, m9⟩ := HC.out.1
    obtain ⟨-, -, -, c3, -⟩ := cn_cells m1
    have f3 := m1.frozen 3
    have M := Lib.hid (And.intro m1 (And.intro m2 (And.intro m3 (And.intro m4 (And.intro m5 (And.intro m6 (And.intro m7 (And.intro m8 m9))))))))
    clear m1 m2 m3 m4 m5 m6 m7 m8 m9
    have t0 : decide ((0 : Int) < (kk : Int)) = true := decide_eq_true (by omega)
    go_wp2_with fail
    go_ret
    obtain ⟨m1, ⟨A, c, k2, k3, k4, k5, k6, k7⟩, m3, m4, m5, m6, m7, m8, m9⟩ := M.out
    have hf : Fr [g] w2 (w2.setCell ⟨g, 3, none⟩ (.int .i64 0)) := (Fr.refl _ _).setCell (.inl (by simp)) _
    have hn1 : q ∉ [g] := by simpa using k2.ne_ m1 (by decide)
    have hn2 : r ∉ [g] := by simpa using m3.1.ne_ m1 (by decide)
    exact ⟨rfl, ⟨ab', qu', go', 0, m1.put 3 _, ⟨A, c, k2.fr hf hn1, bytes_off m1 (cn_nobyte _ _ _ _ _) k3 hf, k4, k5, k6, k7⟩, ⟨m3.1.fr hf hn2, Own.nil_ _ _⟩, m4, m5, m6, m7, m8, m9⟩, HFQ.out.trans' hf (fun i hi => .inl (by simp at hi; simp [hi]))⟩
  · have hnp : ¬ (0 : Int) < (kk : Int) := by omega
    go_wp2_with fail
    go_ret
    exact ⟨rfl, HC.out.1, HFQ.out⟩
set_option maxRecDepth 100000 in
theorem cheld_at (h : Cq w B g q r k lo hi room bs i idle) : Calls Tryz.prog 16 #[.pointer (some ⟨g, 0, none⟩)] w fun e w' => e = .returned (.tuple #[.int .i64 0, .int .i64 (bs.length : Int)]) ∧ Fr [] w w' := by
  obtain ⟨ab, qu, go, last, h1, h2, h8, h9, h10, h11, h12, h13, h14⟩ := h
  obtain ⟨c0, c1, c2, -, -⟩ := cn_cells h1
  have h2d : Q.Que w.drew q lo hi room bs ab qu go := by obtain ⟨A, c, k2, k3, k4, k5, k6, k7⟩ := h2; exact ⟨A, c, k2.drew, k3.drew, k4, k5, k6, k7⟩
  have HA := Lib.hid (Q.held_any h2d)
  have h8d : CuR w.drew r ⟨10, k, [], false⟩ (.slice none 0 0) := ⟨h8.1.drew, Own.nil_ _ _⟩
  have HB := Lib.hid (held_any h8d)
  have c0' : w.drew.cell? ⟨g, 0, none⟩ = some (.pointer (some ⟨q, 0, none⟩)) := c0
  have c1' : w.drew.cell? ⟨g, 1, none⟩ = some (.pointer (some ⟨r, 0, none⟩)) := c1
  clear h1 h2 h2d h8 h8d h9 h10 c0 c1 c2
  go_enter Tryz.func16, Tryz.ntmps16
  go_upto_region 1 with fail
  have HFD : Hid (Fr [] w w.drew) := Lib.hid (Fr.refl [] w).drew
  refine wp_region_M_ (G := fun a b => a = b) (S := fun W => W = w.drew) ⟨fun _ => rfl, fun a b c h k => h.trans k, fun a b h k => k ▸ h, by kernel_rfl, fun _ _ d _ _ h => by cases d <;> exact h⟩ (by kernel_rfl) fun su => ?_
  have SU := Lib.hid su
  have HS : Hid (w.drew = w.drew) := Lib.hid rfl
  clear su
  generalize w.drew = wd at *
  refine M_move (i := 0) _ SU.out rfl rfl (by kernel_rfl) HS.out rfl ?_
  simp only [Act.put, Act.eval, Array.getD_eq_getD_getElem?, List.setIfInBounds_toArray, List.set_cons_zero, List.set_cons_succ, List.getElem?_toArray, List.getElem?_cons_zero, List.getElem?_cons_succ, Option.getD_some]
  refine M_val (i := 1) (v := ?_) SU.out rfl (by kernel_rfl) HS.out rfl (fun W hS => ?_) ?_
  rotate_left
  · obtain rfl := hS
    go_simp
    all_goals first | done | rfl | omega | (simp; done) | (simp; omega)
  simp only [Act.put, List.setIfInBounds_toArray, List.set_cons_zero, List.set_cons_succ]
  refine M_val (i := 2) (v := ?_) SU.out rfl (by kernel_rfl) HS.out rfl (fun W hS => ?_) ?_
  rotate_left
  · obtain rfl := hS
    go_simp
    all_goals first | done | rfl | omega | (simp; done) | (simp; omega)
  simp only [Act.put, List.setIfInBounds_toArray, List.set_cons_zero, List.set_cons_succ]
  refine M_val (i := 3) (v := .pointer (some ⟨r, 0, none⟩)) SU.out rfl (by kernel_rfl) HS.out rfl (fun W hS => ?_) ?_
  · obtain rfl := hS
    go_simp
    all_goals first | done | rfl | omega | (simp; done) | (simp; omega)
  simp only [Act.put, List.setIfInBounds_toArray, List.set_cons_zero, List.set_cons_succ]
  refine M_call (i := 4) (v := .int .i64 0) SU.out rfl (by kernel_rfl) HS.out rfl (fun W hS => by obtain rfl := hS; exact HB.out) (fun W => ?_) ?_
  · go_simp
    first | done | rfl
  simp only [Act.put, List.setIfInBounds_toArray, List.set_cons_zero, List.set_cons_succ]
  refine M_move (i := 5) _ SU.out rfl rfl (by kernel_rfl) HS.out rfl ?_
  simp only [Act.put, Act.eval, Array.getD_eq_getD_getElem?, List.setIfInBounds_toArray, List.set_cons_zero, List.set_cons_succ, List.getElem?_toArray, List.getElem?_cons_zero, List.getElem?_cons_succ, Option.getD_some]
  refine M_val (i := 6) (v := ?_) SU.out rfl (by kernel_rfl) HS.out rfl (fun W hS => ?_) ?_
  rotate_left
  · obtain rfl := hS
    go_simp
    all_goals first | done | rfl | omega | (simp; done) | (simp; omega)
  simp only [Act.put, List.setIfInBounds_toArray, List.set_cons_zero, List.set_cons_succ]
  refine M_val (i := 7) (v := ?_) SU.out rfl (by kernel_rfl) HS.out rfl (fun W hS => ?_) ?_
  rotate_left
  · obtain rfl := hS
    go_simp
    all_goals first | done | rfl | omega | (simp; done) | (simp; omega)
  simp only [Act.put, List.setIfInBounds_toArray, List.set_cons_zero, List.set_cons_succ]
  refine M_val (i := 8) (v := .pointer (some ⟨q, 0, none⟩)) SU.out rfl (by kernel_rfl) HS.out rfl (fun W hS => ?_) ?_
  · obtain rfl := hS
    go_simp
    all_goals first | done | rfl | omega | (simp; done) | (simp; omega)
  simp only [Act.put, List.setIfInBounds_toArray, List.set_cons_zero, List.set_cons_succ]
  refine M_call (i := 9) (v := .int .i64 (bs.length : Int)) SU.out rfl (by kernel_rfl) HS.out rfl (fun W hS => by obtain rfl := hS; exact HA.out) (fun W => ?_) ?_
  · go_simp
    first | done | rfl
  simp only [Act.put, List.setIfInBounds_toArray, List.set_cons_zero, List.set_cons_succ]
  refine M_val (i := 10) (v := ?_) SU.out rfl (by kernel_rfl) HS.out rfl (fun W hS => ?_) ?_
  rotate_left
  · obtain rfl := hS
    go_simp
    all_goals first | done | rfl | omega | (simp; done) | (simp; omega)
  simp only [Act.put, List.setIfInBounds_toArray, List.set_cons_zero, List.set_cons_succ]
  refine M_val (i := 11) (v := ?_) SU.out rfl (by kernel_rfl) HS.out rfl (fun W hS => ?_) ?_
  rotate_left
  · obtain rfl := hS
    go_simp
    all_goals first | done | rfl | omega | (simp; done) | (simp; omega)
  simp only [Act.put, List.setIfInBounds_toArray, List.set_cons_zero, List.set_cons_succ]
  refine wpAnyM_done (by kernel_rfl) (fun w' hG => ?_)
  obtain rfl := hG
  go_wp2_with fail
  go_ret2
  exact ⟨rfl, HFD.out⟩
end
end Go.Proofs.YtecdghjimcfhpaaGreatDoor
