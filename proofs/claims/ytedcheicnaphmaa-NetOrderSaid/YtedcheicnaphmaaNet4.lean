/-
  What happens to a wire: bytes come in. Clone, settle. No conditions on the program.
-/
import Derived.Test.YtedcheicnaphmaaNet3
namespace Go.Proofs.Ytedcheicnaphmaa
open Go.RowKit
set_option linter.unusedVariables false
set_option linter.unusedSimpArgs false

theorem own_set {w : World} {e : TypeId} {v : Value} {xs : List Value} (h : Own w e v xs) {g i : Nat} (hn : v.ownBlock ≠ some g) (u : Value) : Own (w.setCell ⟨g, i, none⟩ u) e v xs :=
  h.kept fun k hk => Below.heap_setCell w _ _ k (by rintro rfl; exact hn hk)
/-- The bytes that may be read are others now. -/
theorem net_inn {w w3 : World} {B n : Nat} {now : Int} {ws : List Wr} {v : Value} {G : Nat → Nat} {IV GV : Nat → Value} (h : NetR w B n now ws v G IV GV) (hB : B ≤ w.heap.size) {k : Nat} (hk : k < ws.length) (iv : Value) (ys : List UInt8)
    (hown : Own w3 5 iv (byteVals ys)) (hgr : w.grownBy w3 (IV k).ownBlock) (hloc : iv.ownBlock = (IV k).ownBlock ∨ iv.ownBlock = some w.heap.size) :
    NetR (w3.setCell ⟨G k, 2, none⟩ iv) B n now (ws.set k { ws.getD k default with inn := ys }) v G (updV IV k iv) (updV GV k (GV k)) ∧ NFr B w (w3.setCell ⟨G k, 2, none⟩ iv) := by
  have hw := h.wire k hk
  have hg0 := h.got k hk
  have hw3 : Bk w3 (G k) 60 (wCells (ws.getD k default) (IV k) (GV k)) := hw.grown hgr (fun e => (h.inn k hk).ne_bk hw (by decide) e.symm)
  have hg3 : Own w3 5 (GV k) (byteVals (ws.getD k default).got) := hg0.grown hgr (fun b hb e => h.ige k k b hk hk e.symm hb)
  have hkeep : ∀ b, b < w.heap.size → b ≠ G k → (IV k).ownBlock ≠ some b → (GV k).ownBlock ≠ some b → (w3.setCell ⟨G k, 2, none⟩ iv).heap[b]? = w.heap[b]? := fun b hb h1 h2 h3 => by
    rw [Below.heap_setCell w3 _ _ b (by simpa using h1), hgr.block b hb (fun e => h2 e.symm)]
  refine ⟨h.upd hB hk { ws.getD k default with inn := ys } iv (GV k) (hw3.put 2 iv) (own_set hown (hown.ne_bk hw3 (by decide)) _) (own_set hg3 (hg3.ne_bk hw3 (by decide)) _) ?_ (Near.refl _ _) ?_ hkeep, h.updF hk hgr.os hgr.tape hgr.output (by simpa using hgr.size) hkeep⟩
  · rcases hloc with e | e
    · exact .inl e
    · exact .inr (.inr ⟨_, e, Nat.le_refl _⟩)
  · intro b hb hb'
    rcases hloc with e | e
    · exact h.ige k k b hk hk (e ▸ hb) hb'
    · rw [e] at hb; injection hb with hb; have := hg0.lt b hb'; omega
/-- The bytes that the peer has are others now. -/
theorem net_got {w w3 : World} {B n : Nat} {now : Int} {ws : List Wr} {v : Value} {G : Nat → Nat} {IV GV : Nat → Value} (h : NetR w B n now ws v G IV GV) (hB : B ≤ w.heap.size) {k : Nat} (hk : k < ws.length) (gv : Value) (ys : List UInt8)
    (hown : Own w3 5 gv (byteVals ys)) (hgr : w.grownBy w3 (GV k).ownBlock) (hloc : gv.ownBlock = (GV k).ownBlock ∨ gv.ownBlock = some w.heap.size) :
    NetR (w3.setCell ⟨G k, 4, none⟩ gv) B n now (ws.set k { ws.getD k default with got := ys }) v G (updV IV k (IV k)) (updV GV k gv) ∧ NFr B w (w3.setCell ⟨G k, 4, none⟩ gv) := by
  have hw := h.wire k hk
  have hi0 := h.inn k hk
  have hw3 : Bk w3 (G k) 60 (wCells (ws.getD k default) (IV k) (GV k)) := hw.grown hgr (fun e => (h.got k hk).ne_bk hw (by decide) e.symm)
  have hi3 : Own w3 5 (IV k) (byteVals (ws.getD k default).inn) := hi0.grown hgr (fun b hb e => h.ige k k b hk hk hb e.symm)
  have hkeep : ∀ b, b < w.heap.size → b ≠ G k → (IV k).ownBlock ≠ some b → (GV k).ownBlock ≠ some b → (w3.setCell ⟨G k, 4, none⟩ gv).heap[b]? = w.heap[b]? := fun b hb h1 h2 h3 => by
    rw [Below.heap_setCell w3 _ _ b (by simpa using h1), hgr.block b hb (fun e => h3 e.symm)]
  refine ⟨h.upd hB hk { ws.getD k default with got := ys } (IV k) gv (hw3.put 4 gv) (own_set hi3 (hi3.ne_bk hw3 (by decide)) _) (own_set hown (hown.ne_bk hw3 (by decide)) _) (Near.refl _ _) ?_ ?_ hkeep, h.updF hk hgr.os hgr.tape hgr.output (by simpa using hgr.size) hkeep⟩
  · rcases hloc with e | e
    · exact .inl e
    · exact .inr (.inr ⟨_, e, Nat.le_refl _⟩)
  · intro b hb hb'
    rcases hloc with e | e
    · exact h.ige k k b hk hk hb (e ▸ hb')
    · rw [e] at hb'; injection hb' with hb'; have := hi0.lt b hb; omega
theorem u8parts : ∃ i, Try.prog.info? 5 = some i ∧ i.zero = some (.int .u8 0) ∧ i.size = 1 ∧ i.bytes = 1 := info_parts (by kernel_rfl)

set_option maxRecDepth 100000 in
set_option maxHeartbeats 2000000 in
theorem wdata_yes {w : World} {B n : Nat} {now : Int} {ws : List Wr} (v : Value) (G : Nat → Nat) (IV GV : Nat → Value) (h : NetR w B n now ws v G IV GV) (hB : B ≤ w.heap.size) {k : Nat} (hk : k < ws.length) (x : Wr) (hx : ws.getD k default = x) (hst : x.st = 1) (hen : x.en = false) (c N : Int) (bA : Option Addr) (bs : List UInt8) (bc : Nat) (hby : Bytes w bA bs) (hl : x.inn.length + bs.length ≤ 65536) :
    Calls Try.prog 22 #[.pointer (some ⟨G k, 0, none⟩), .agg (evC 1 c N (.slice bA bs.length bc))] w fun e w' => e = .returned .nilIface ∧ NetS w' B n now (ws.set k { x with inn := x.inn ++ bs }) ∧ NFr B w w' := by
  have hw := h.wire k hk
  rw [hx] at hw
  obtain ⟨A, cap, hiv, hat, hl1, hl2, hA, hob⟩ := (h.inn k hk).at_
  rw [hx, byteVals_length] at hiv
  obtain ⟨d0, -, d2, -, -, d5, -⟩ := w_cells hw
  have hgl := hw.lt
  rw [hst] at d0
  rw [hen] at d5
  rw [hiv] at d2
  obtain ⟨i0, hi0, hz0, hz1, hz2⟩ := u8parts
  have hwr : IntKind.i64.wrap ((x.inn.length : Int) + (bs.length : Int)) = (x.inn.length : Int) + (bs.length : Int) := by rw [IntKind.wrap_i64]; omega
  have dd : decide ((65536 : Int) < (x.inn.length : Int) + (bs.length : Int)) = false := by simp; omega
  have hev : Bk (w.alloc (.cells (evC 1 c N (.slice bA bs.length bc)) 34)) w.heap.size 34 (evC 1 c N (.slice bA bs.length bc)) := Bk.new w _ _
  have HEV1 := Lib.hid hev
  have H0 := Lib.hid h; have HBY := Lib.hid hby; have HIV := Lib.hid hiv; have HX := Lib.hid hx
  clear h hw hat hl1 hl2 hA hob hev hiv hby hx
  unfold evC at *
  go_enter Try.func22, Try.ntmps22
  go_wp2_with fail
  go_quiet (fail)
  go_upto_region 18 with fail
  refine code_gen fun W hW => ?_
  have hfW : Fr [] w W := by rw [hW]; exact ((Fr.refl [] w).alloc _).drewN nq
  have HEVW : Hid (Bk W w.heap.size 34 #[.int .i64 1, .int .i64 c, .int .i64 N, .slice bA bs.length bc]) := Lib.hid (by rw [hW]; exact HEV1.out.drewN nq)
  clear hW HEV1
  have H := Lib.hid (H0.out.fr_nil (hfW.drew))
  have HEV := Lib.hid (HEVW.out.drew)
  have HBYD : Hid (Bytes W.drew bA bs) := Lib.hid (HBY.out.fr_nil hfW.drew)
  have HFD := Lib.hid hfW.drew
  have HBD : Hid (B ≤ W.drew.heap.size) := Lib.hid (Nat.le_trans hB hfW.size)
  generalize w.heap.size = ge at *
  have hwd := H.out.wire k hk
  rw [HX.out, HIV.out] at hwd
  have hod := H.out.inn k hk
  rw [HX.out, HIV.out] at hod
  have c2 := hwd.cell_ (i := 2) rfl
  have c3 := HEV.out.cell_ (i := 3) rfl
  refine wp_region_F_ (G := fun a b => a = b) (F := fun i => i == 12) (S := fun W => W.cell? ⟨G k, 2, none⟩ = some (.slice A x.inn.length cap) ∧ W.cell? ⟨ge, 3, none⟩ = some (.slice bA bs.length bc)) ⟨fun _ => rfl, fun a b c h k => h.trans k, fun a b h k => k ▸ h, by kernel_rfl, fun _ _ d _ _ h => by cases d <;> exact h⟩ (by kernel_rfl) fun su => ?_
  have SU := Lib.hid su
  have HS : Hid (W.drew.cell? ⟨G k, 2, none⟩ = some (.slice A x.inn.length cap) ∧ W.drew.cell? ⟨ge, 3, none⟩ = some (.slice bA bs.length bc)) := Lib.hid ⟨c2, c3⟩
  have HWD := Lib.hid hwd; have HOD := Lib.hid hod
  clear su c2 c3 hwd hod H0 HEVW HBY hfW hB d0 d2 d5 hgl
  generalize W.drew = wd at *
  refine F_move (i := 0) _ SU.out rfl rfl (by kernel_rfl) HS.out rfl ?_
  simp only [Act.put, Act.eval, List.setIfInBounds_toArray, List.set_cons_zero, List.set_cons_succ, List.getElem?_toArray, List.getElem?_cons_zero, List.getElem?_cons_succ, Option.getD_some]
  refine F_move (i := 1) _ SU.out rfl rfl (by kernel_rfl) HS.out rfl ?_
  simp only [Act.put, Act.eval, List.setIfInBounds_toArray, List.set_cons_zero, List.set_cons_succ, List.getElem?_toArray, List.getElem?_cons_zero, List.getElem?_cons_succ, Option.getD_some]
  refine F_val (i := 2) (v := ?_) SU.out rfl (by kernel_rfl) HS.out rfl (fun W hS => ?_) ?_
  rotate_left
  · go_simp
    first | done | rfl
  simp only [Act.put, List.setIfInBounds_toArray, List.set_cons_zero, List.set_cons_succ]
  refine F_val (i := 3) (v := ?_) SU.out rfl (by kernel_rfl) HS.out rfl (fun W hS => ?_) ?_
  rotate_left
  · go_simp
    first | done | rfl
  simp only [Act.put, List.setIfInBounds_toArray, List.set_cons_zero, List.set_cons_succ]
  refine F_val (i := 4) (v := ?_) SU.out rfl (by kernel_rfl) HS.out rfl (fun W hS => ?_) ?_
  rotate_left
  · go_simp
    first | done | rfl
  simp only [Act.put, List.setIfInBounds_toArray, List.set_cons_zero, List.set_cons_succ]
  refine F_val (i := 5) (v := .slice A x.inn.length cap) SU.out rfl (by kernel_rfl) HS.out rfl (fun W hS => ?_) ?_
  · obtain ⟨s1, s2⟩ := hS
    go_simp
    first | done | rfl
  simp only [Act.put, List.setIfInBounds_toArray, List.set_cons_zero, List.set_cons_succ]
  refine F_val (i := 6) (v := ?_) SU.out rfl (by kernel_rfl) HS.out rfl (fun W hS => ?_) ?_
  rotate_left
  · go_simp
    first | done | rfl
  simp only [Act.put, List.setIfInBounds_toArray, List.set_cons_zero, List.set_cons_succ]
  refine F_val (i := 7) (v := .slice bA bs.length bc) SU.out rfl (by kernel_rfl) HS.out rfl (fun W hS => ?_) ?_
  · obtain ⟨s1, s2⟩ := hS
    go_simp
    first | done | rfl
  simp only [Act.put, List.setIfInBounds_toArray, List.set_cons_zero, List.set_cons_succ]
  refine wpAnyF_all (rs := [8]) (by kernel_rfl) (by simp) (fun w' hG => ?_)
  obtain rfl := hG
  refine allF.head rfl rfl (fun K7 hK7 => ?_) allF.nil
  refine wp_append_OwnS (.tmp 79) (.tmp 81) 32 rfl 5 i0 _ Try.underlying32 hi0 hz0 hz1 rfl (.slice A x.inn.length cap) (byteVals x.inn) x.inn.length (byteVals_length _) (by first | rfl | (simp [Act.eval]; done)) HOD.out bA bs.length bc (by first | rfl | (simp [Act.eval]; done)) (byteVals bs) HBYD.out (byteVals_length _) (byteVals_one _) (by unfold maxLen; omega) (by rw [hz2]; omega) ?_
  intro A3 c3 w3 hown hgr hloc
  rw [← byteVals_append] at hown
  have hw3 := HWD.out.grown hgr (fun e => HOD.out.ne_bk HWD.out (by decide) e.symm)
  have he3 := HEV.out.grown hgr (fun e => HOD.out.ne_bk HEV.out (by decide) e.symm)
  have c2 := hw3.cell_ (i := 2) rfl
  have f2 := hw3.frozen 2
  have hs3 : w3.cell? ⟨G k, 2, none⟩ = some (.slice A x.inn.length cap) ∧ w3.cell? ⟨ge, 3, none⟩ = some (.slice bA bs.length bc) := ⟨c2, he3.cell_ rfl⟩
  have HS3 := Lib.hid hs3
  refine hK7.out _ _ (.inr hs3) ?_
  have HOWN := Lib.hid hown; have HGR := Lib.hid hgr; have HLOC := Lib.hid hloc
  clear hs3 hK7 K7 hw3 he3 hown hgr hloc
  simp only [Act.put, List.setIfInBounds_toArray, List.set_cons_zero, List.set_cons_succ]
  refine wpAnyF_all (rs := [9]) (by kernel_rfl) (by simp) (fun w' hG => ?_)
  obtain rfl := hG
  refine allF.head rfl rfl (fun K9 hK9 => ?_) allF.nil
  go_simp
  refine hK9.out _ _ (.inr HS3.out) ?_
  clear hK9 K9
  refine wpAnyF_all (rs := [10]) (by kernel_rfl) (by simp) (fun w' hG => ?_)
  obtain rfl := hG
  refine allF.head rfl rfl (fun Ka hKa => ?_) allF.nil
  go_simp
  refine hKa.out _ _ (.inr HS3.out) ?_
  clear hKa Ka
  refine wpAnyF_all (rs := [11]) (by kernel_rfl) (by simp) (fun w' hG => ?_)
  obtain rfl := hG
  refine allF.head rfl rfl (fun Kb hKb => ?_) allF.nil
  go_simp
  refine hKb.out _ _ (.inr HS3.out) ?_
  clear hKb Kb
  refine wpAnyF_all (rs := [12]) (by kernel_rfl) (by simp) (fun w' hG => ?_)
  obtain rfl := hG
  refine allF.head rfl rfl (fun K8 hK8 => ?_) allF.nil
  go_simp
  refine hK8.out _ _ (.inl rfl) ?_
  clear hK8 K8 c2 f2
  refine wpAnyF_done (by kernel_rfl) (fun w' hG => ?_)
  obtain rfl := hG
  go_wp2_with fail
  go_ret
  have hgr2 := HGR.out
  have hloc2 := HLOC.out
  rw [← HIV.out] at hgr2 hloc2
  have hp := net_inn H.out HBD.out hk _ (x.inn ++ bs) HOWN.out hgr2 hloc2
  rw [HX.out] at hp
  exact ⟨rfl, ⟨_, _, _, _, hp.1⟩, (NFr.of_fr HFD.out).trans hp.2⟩
end Go.Proofs.Ytedcheicnaphmaa
