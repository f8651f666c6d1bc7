/-
  The walk of MatchNews. The condition: the library's variables stand as the row's condition says.
-/
import Derived.Test.YtgcalmefijmhaaaGreatDoorMaW
import Derived.Test.YtgcalmefijmhaaaGreatDoorGox
import Derived.Test.YtgcalmefijmhaaaGreatDoorGda
import Derived.Test.YtgcalmefijmhaaaGreatDoorGdb
import Derived.LaidHandle
namespace Go.Proofs.YtgcalmefijmhaaaGreatDoor
open Go.RowKit
set_option linter.unusedVariables false
set_option linter.unusedSimpArgs false

section
variable {P : Program}
theorem wpn_ {o : Oper} {a : Act} {w : World} {K : Act → World → Prop} {Q : Exit → Act → World → Prop} {f : FuncId} {args : Array Value} {R : Value → World → Prop} (hr : (execOp a.eval o).run P w = .ok (.enter f args) w) (hc : Calls P f args w fun e w' => ∃ v, e = .returned v ∧ R v w') (hK : ∀ v w', R v w' → K (a.put o.dst v) w') : o.wp P a w K Q := by
  unfold Oper.wp
  rw [hr, Oper.upon_enter]
  exact hc.mono fun e w' ⟨v, he, h⟩ => by subst he; exact hK v w' h
theorem setup_eq {Q : Exit → Act → World → Prop} {l : List Oper} {S : World → Prop} (su : Setup P l Q (fun a b => a = b) S) (w : World) : Setup P l Q (fun a b => a = b) (fun V => V = w) := ⟨su.r, su.t, fun a b h k => k ▸ h, su.s, su.q⟩
end
def ErrT (w : World) : Prop := w.cell? ⟨0, 0, none⟩ = some (.iface 108 (.agg #[.pointer (some ⟨2, 26, none⟩)]))
theorem ErrT.fr {w w' : World} (h : ErrT w) (hf : Fr [] w w') : ErrT w' := (hf.cell (World.block_lt_of_cell? w _ h) (by simp)).trans h
theorem as_fault {w : World} {v : Value} {p c : Int} {t : Nat} {old : Value} (h : FaultV w v p c) (hg : ErrT w) (ht : Bk w t 37 #[old]) :
    Calls Tryz.prog 8 #[v, .iface 40 (.pointer (some ⟨t, 0, none⟩))] w fun e w' => e = .returned (.bool true) ∧ ∃ g, Bk w' t 37 #[.pointer (some ⟨g, 0, none⟩)] ∧ Bk w' g 42 #[.int .i64 p, .iface 64 (.int .i64 c)] ∧ Fr [t] w w' := by
  obtain ⟨g, rfl, hb⟩ := h
  refine (as_hit ⟨g, 0, none⟩ ⟨t, 0, none⟩ old w hg (ht.cell_ rfl) (ht.frozen 0)).mono ?_
  rintro e w' ⟨rfl, rfl⟩
  have hne : g ≠ t := hb.ne_ ht (by decide)
  refine ⟨rfl, g, ?_, ?_, ?_⟩
  · exact ((((ht.alloc _).alloc _).alloc _).alloc _).put 0 _
  · exact ((((hb.alloc _).alloc _).alloc _).alloc _).far hne _
  · exact (((((Fr.refl [t] w).alloc _).alloc _).alloc _).alloc _).setCell (.inl (by simp)) _
set_option maxRecDepth 100000 in
set_option maxHeartbeats 4000000 in
theorem nwsize_any {w : World} {t : PT} (hp : PMem w t) (hr : rightP t = true) (hcnt : cntP t ≤ 1199) :
    Calls Tryz.prog 10 #[t.val] w fun e w' => e = .returned (.int .i64 (if 4000 ≤ sizP t then 4001 else (sizP t : Int) + 1)) ∧ Fr [] w w' := by
  obtain ⟨wb, hwb⟩ : ∃ wb, wb = w.alloc (.cells #[.int .i64 t.k, .int .u64 t.s0, .int .u64 t.s1, .int .u64 t.s2, .int .u64 t.s3, .int .i64 t.mn, .int .i64 t.mx, .slice t.A t.l.length t.c] 48) := ⟨_, rfl⟩
  have hbk : Bk wb w.heap.size 48 #[.int .i64 t.k, .int .u64 t.s0, .int .u64 t.s1, .int .u64 t.s2, .int .u64 t.s3, .int .i64 t.mn, .int .i64 t.mx, .slice t.A t.l.length t.c] := by rw [hwb]; exact Bk.new w _ _
  have hfb : Fr [] w wb := by rw [hwb]; exact (Fr.refl [] w).alloc _
  have hcells : CellsAt wb w.heap.size 0 t.cells := ⟨_, hbk, fun j u hu => by rw [Nat.zero_add]; simpa [PT.cells] using hu⟩
  have hpb := hp.keep (KeepT.of_nil hfb)
  have hmeas := measure_any hcells hpb hcnt
  obtain ⟨b, hbe⟩ : ∃ b, b = w.heap.size := ⟨_, rfl⟩
  have HFB := Lib.hid hfb; have HME := Lib.hid hmeas; have HWB := Lib.hid hwb; have HBE := Lib.hid hbe; have HR := Lib.hid hr
  clear hp hwb hbk hfb hcells hpb hmeas hbe hr
  obtain ⟨Z, hZ⟩ : ∃ Z : Int, Z = if 4000 ≤ sizP t then 4001 else (sizP t : Int) + 1 := ⟨_, rfl⟩
  rw [← hZ]
  have HZ := Lib.hid hZ
  clear hZ
  unfold PT.val
  obtain ⟨n, hn⟩ : ∃ n, n = t.l.length := ⟨_, rfl⟩
  have HN := Lib.hid hn
  rw [← hn]
  rw [← hn] at HWB
  clear hn
  go_enter Tryz.func10, Tryz.ntmps10
  go_wp2_with fail
  go_at_call 23
  rw [← HWB.out, ← HBE.out]
  rw [← HBE.out] at HME
  refine HME.out.mono ?_
  rintro e w1 ⟨hf, h⟩
  have HF := Lib.hid (HFB.out.trans hf)
  clear hf
  rcases h with ⟨hr, rfl⟩ | ⟨hr, hs, rfl⟩ | ⟨hr, hs, mv, es, rfl, hm, hcov, hmv⟩
  · have := HR.out; rw [hr] at this; cases this
  · have HZ2 : Hid (Z = 4001) := Lib.hid (by rw [HZ.out, if_pos hs])
    clear hr hs
    go_wp2_with (go_at_call 16; refine (is_errno_same 5 _).mono ?_; rintro e w2 ⟨rfl, rfl⟩)
    go_ret
    exact ⟨by rw [HZ2.out]; rfl, HF.out⟩
  · obtain ⟨z, hz⟩ : ∃ z, z = (sizP t : Int) + 1 := ⟨_, rfl⟩
    have HZ2 : Hid (Z = z) := Lib.hid (by rw [HZ.out, if_neg (by omega), hz])
    rw [← hz]
    clear hz hr hs hm hcov hmv
    go_wp2_with fail
    go_ret
    exact ⟨by rw [HZ2.out]; rfl, HF.out⟩
set_option maxRecDepth 100000 in
set_option maxHeartbeats 16000000 in
theorem matchNews_walk {w : World} (hg : GlobOk w) (ht : ErrT w) {A : Option Addr} {a : List UInt8} {ca : Nat} (ha : Bytes w A a) (hac : a.length ≤ ca) (hna : A = none → ca = 0) (hma : ca ≤ maxLen) :
    Calls Tryz.prog 3 #[.slice A a.length ca] w fun e w' => e = .returned (.bool true) ∧ Fr [] w w' := by
  obtain ⟨L, hL⟩ : ∃ L, L = a.length := ⟨_, rfl⟩
  have HL := Lib.hid hL
  rw [← hL] at hac ⊢
  have HAW := Lib.hid (awake_any hg)
  by_cases h150 : 150 < L
  · have hI : (150 : Int) < (L : Int) := by omega
    clear hL hg ha
    go_enter Tryz.func3, Tryz.ntmps3
    go_wp2_with (go_at_call 4; refine HAW.out.mono ?_; rintro e w1 ⟨rfl, hf⟩; have HX := Lib.hid hf; clear hf)
    go_ret
    exact ⟨rfl, HX.out⟩
  have hI : ¬ ((150 : Int) < (L : Int)) := by omega
  have HNEW : Hid (∀ W, Fr [] w W → Calls Tryz.prog 5 #[.slice A L ca] W (NewPost W (parseS a))) := Lib.hid (fun W hf => by
    rw [hL]
    exact new_any (ha.fr hf (by simp)) (by omega) (by omega) hna hma (hg.fr hf))
  have HPAR : Hid (∀ W, Fr [] w W → Calls Tryz.prog 9 #[.slice A L ca] W (ParsePost W (parseS a))) := Lib.hid (fun W hf => by
    rw [hL]
    exact parse_any (ha.fr hf (by simp)) (by omega) hna hma (hg.fr hf))
  have HBY := Lib.hid ha; have HT := Lib.hid ht
  clear hL hg ha ht hna hma
  rcases hY : parseS a with ⟨q, code⟩ | t
  · obtain ⟨hc1, hc25⟩ := nw_parse_code hY
    have hcI : ((code : Int) != 0) = true := by simp; omega
    have HNW : Hid (∀ W, Fr [] w W → Calls Tryz.prog 5 #[.slice A L ca] W fun e w' => Fr [] W w' ∧ ∃ fg, e = .returned (.tuple #[.pointer none, .iface 37 (.pointer (some ⟨fg, 0, none⟩))]) ∧ Bk w' fg 42 #[.int .i64 (q : Int), .iface 64 (.int .i64 (code : Int))]) := Lib.hid (fun W hf => by
      refine (HNEW.out W hf).mono fun e w' hp => ?_
      unfold NewPost at hp; rw [hY] at hp
      obtain ⟨h1, v, h2, g, rfl, h3⟩ := hp
      exact ⟨h1, g, h2, h3⟩)
    have HCL : Hid (∀ W, Calls Tryz.prog 6 #[.string ⟨a.toArray⟩] W fun e w' => Fr [] W w' ∧ e = .returned (.agg (gotC zeroPC 0 (code : Int) (q : Int)).toArray)) := Lib.hid (fun W => by
      have := rparse_any a W; rw [hY] at this
      exact this.mono fun e w' ⟨h1, h2, h3⟩ => ⟨h1, h3⟩)
    clear hY HNEW HPAR
    go_enter Tryz.func3, Tryz.ntmps3
    go_upto_region 6 with (first
      | (go_at_call 4; refine HAW.out.mono ?_; rintro e w1 ⟨rfl, hf⟩; have HX1 := Lib.hid hf; clear hf)
      | (go_at_call 5; refine (HNW.out _ HX1.out).mono ?_; rintro e w2 ⟨hf, fg, rfl, hb⟩; have HX2 := Lib.hid (HX1.out.trans hf); have HB2 := Lib.hid hb; clear hf hb))
    have HBY2 := Lib.hid (HBY.out.fr HX2.out (by simp))
    go_upto_region 8 with (first
      | (refine wpList_str rfl 22 9 (.tmp 19) rfl 5 Tryz.underlying22 Tryz.underlying5 Tryz.underlying9 A L ca rfl a HBY2.out (by first | exact HL.out | exact HL.out.symm) ?_)
      | (go_at_call 6; refine (HCL.out _).mono ?_; rintro e w3 ⟨hf, rfl⟩; have HX3 := Lib.hid (HX2.out.trans hf); have HB3 := Lib.hid (HB2.out.fr hf (by simp)); clear hf)
      | (refine wpList_alloc_bk rfl 35 rfl (gotC zeroPC 0 0 0) 263 rg_zero ?_; intro wA1 hzA hfA; have HZA1 := Lib.hid hzA; have HX4 := Lib.hid (HX3.out.trans hfA); have HB4 := Lib.hid (HB3.out.fr hfA (by simp)); clear hzA hfA)
      | (refine wpList_store_bk rfl 35 _ _ rfl w3.heap.size (gotC zeroPC 0 (code : Int) (q : Int)) rfl rfl _ _ HZA1.out (by rw [gotC_len zeroPC_len]; exact rg_size) (by rw [gotC_len zeroPC_len, List.size_toArray, gotC_len zeroPC_len]) (gotC_one zeroPC_one _ _ _) ?_; intro wS1 hzS hfS; have HZS1 := Lib.hid hzS; have HX5 : Hid (Fr [] w wS1) := Lib.hid (HX4.out.trans' hfS (by simp; have := HX3.out.size; omega)); have HB5 := Lib.hid (HB4.out.fr hfS (by simp; have := HB3.out.lt; omega)); have c261 := hzS.cellL (gotC_e zeroPC_len _ _ _); clear hzS hfS))
    obtain ⟨gb, hgb⟩ : ∃ x, x = w3.heap.size := ⟨_, rfl⟩
    rw [← hgb] at HZS1 c261 ⊢
    have HGB := Lib.hid hgb
    clear hgb
    go_upto_region 9 with fail
    obtain ⟨xb, hxb⟩ : ∃ x, x = wS1.heap.size := ⟨_, rfl⟩
    obtain ⟨wd, hwd⟩ : ∃ wd, wd = (wS1.alloc (.cells #[.pointer none] 37)).drew := ⟨_, rfl⟩
    have hfd : Fr [] wS1 wd := by rw [hwd]; exact ((Fr.refl [] wS1).alloc _).drew
    have hbx : Bk wd xb 37 #[.pointer none] := by
      rw [hwd, hxb]; exact (Bk.new wS1 37 #[.pointer none]).fr ((Fr.refl [] _).drew) (by simp)
    have hbf := HB5.out.fr hfd (by simp)
    have hbg := HZS1.out.fr hfd (by simp)
    have hne1 : fg ∉ [xb] := by have := HB5.out.lt; simp; omega
    have hne2 : gb ∉ [xb] := by have := HZS1.out.lt; simp; omega
    have hc9 : ∀ V, Fr [xb] wd V → Bk V fg 42 #[.int .i64 (q : Int), .iface 64 (.int .i64 (code : Int))] ∧ V.cell? ⟨gb, 261, none⟩ = some (.int .i64 (code : Int)) ∧ V.cell? ⟨gb, 262, none⟩ = some (.int .i64 (q : Int)) := fun V hV => by
      have h := hbg.fr hV hne2
      exact ⟨hbf.fr hV hne1, h.cellL (gotC_e zeroPC_len _ _ _), h.cellL (gotC_at zeroPC_len _ _ _)⟩
    have HC9 := Lib.hid hc9; have HX8 := Lib.hid (HX5.out.trans hfd); have HBX := Lib.hid hbx; have HTD := Lib.hid ((HT.out.fr HX5.out).fr hfd); have HXB : Hid (w.heap.size ≤ xb) := Lib.hid (by have := HX5.out.size; omega)
    clear hc9 hbf hbg hne1 hne2 hbx hfd c261
    rw [← hxb]
    refine wp_region_M_ (G := fun a b => a = b) (S := fun V => Fr [xb] wd V) ⟨fun _ => rfl, fun a b c h k => h.trans k, fun a b h k => k ▸ h, by kernel_rfl, fun _ _ d _ _ h => by cases d <;> exact h⟩ (by kernel_rfl) fun su => ?_
    have SU := Lib.hid su
    rw [← hwd]
    have HSS : Hid (Fr [xb] wd wd) := Lib.hid (Fr.refl _ _)
    clear su hwd hxb
    refine M_move (i := 0) _ SU.out rfl rfl (by kernel_rfl) HSS.out rfl ?_
    simp only [Act.put, Act.eval, PE]
    refine M_val (i := 1) (v := .bool true) SU.out rfl (by kernel_rfl) HSS.out rfl (fun V hV => ?_) ?_
    · go_simp; try (first | done | rfl | (simp; done))
    simp only [Act.put, PU]
    refine M_move (i := 2) _ SU.out rfl rfl (by kernel_rfl) HSS.out rfl ?_
    simp only [Act.put, Act.eval, PE]
    refine M_move (i := 3) _ SU.out rfl rfl (by kernel_rfl) HSS.out rfl ?_
    simp only [Act.put, Act.eval, PE]
    refine M_call (i := 4) (v := .int .i64 (code : Int)) SU.out rfl (by kernel_rfl) HSS.out rfl (fun V hV => (code_fault (v := .iface 37 (.pointer (some ⟨fg, 0, none⟩))) (p := (q : Int)) (a := (code : Int)) ⟨fg, rfl, (HC9.out V hV).1⟩ (by omega) (by omega)).mono fun e w' h => ?_) (fun V => ?_) ?_
    · obtain ⟨h1, h2⟩ := h; exact ⟨h1, h2⟩
    · go_simp
    simp only [Act.put, PU]
    refine M_val (i := 5) (v := .pointer (some ⟨gb, 261, none⟩)) SU.out rfl (by kernel_rfl) HSS.out rfl (fun V hV => ?_) ?_
    · go_simp; try (first | done | rfl | (simp; done))
    simp only [Act.put, PU]
    refine M_val (i := 6) (v := .int .i64 (code : Int)) SU.out rfl (by kernel_rfl) HSS.out rfl (fun V hV => ?_) ?_
    · obtain ⟨e1, e2, e3⟩ := HC9.out V hV; go_simp; try (first | done | rfl | (simp; done))
    simp only [Act.put, PU]
    refine M_val (i := 7) (v := .bool true) SU.out rfl (by kernel_rfl) HSS.out rfl (fun V hV => ?_) ?_
    · go_simp; try (first | done | rfl | (simp; done))
    simp only [Act.put, PU]
    refine M_val (i := 8) (v := .bool true) SU.out rfl (by kernel_rfl) HSS.out rfl (fun V hV => ?_) ?_
    · go_simp; try (first | done | rfl | (simp; done))
    simp only [Act.put, PU]
    refine M_move (i := 9) _ SU.out rfl rfl (by kernel_rfl) HSS.out rfl ?_
    simp only [Act.put, Act.eval, PE]
    refine M_move (i := 10) _ SU.out rfl rfl (by kernel_rfl) HSS.out rfl ?_
    simp only [Act.put, Act.eval, PE]
    refine M_val (i := 11) (v := .iface 40 (.pointer (some ⟨xb, 0, none⟩))) SU.out rfl (by kernel_rfl) HSS.out rfl (fun V hV => ?_) ?_
    · go_simp; try (first | done | rfl | (simp; done))
    simp only [Act.put, PU]
    refine wpAnyM_all (rs := [12]) (by kernel_rfl) (by simp) (fun wx hG => ?_)
    subst hG
    refine allM.head rfl rfl (fun K9 hK9 => ?_) allM.nil
    refine wpn_ (f := 8) (args := #[.iface 37 (.pointer (some ⟨fg, 0, none⟩)), .iface 40 (.pointer (some ⟨xb, 0, none⟩))]) (R := fun v V => v = .bool true ∧ ∃ g, Bk V xb 37 #[.pointer (some ⟨g, 0, none⟩)] ∧ Bk V g 42 #[.int .i64 (q : Int), .iface 64 (.int .i64 (code : Int))] ∧ Fr [xb] wd V) (by go_simp; first | done | rfl) ?_ ?_
    · refine (as_fault (p := (q : Int)) (c := (code : Int)) ⟨fg, rfl, (HC9.out _ HSS.out).1⟩ HTD.out HBX.out).mono ?_
      rintro e V ⟨rfl, g, h1, h2, h3⟩
      exact ⟨_, rfl, rfl, g, h1, h2, h3⟩
    rintro r w7 ⟨rfl, g, h1, h2, h3⟩
    have HX7 := Lib.hid h1; have HG7 := Lib.hid h2; have HF7 := Lib.hid h3
    refine hK9.out _ _ h3 ?_
    clear hK9 K9 h1 h2 h3
    simp only [Act.put, PU]
    refine M_weaken (S' := fun V => V = w7) (fun V hV => by rw [hV]; exact HF7.out) _ _ _ _ ?_
    have SU := Lib.hid (setup_eq SU.out w7)
    have HSS : Hid (w7 = w7) := Lib.hid rfl
    have a1 : w7.cell? ⟨xb, 0, none⟩ = some (.pointer (some ⟨g, 0, none⟩)) := HX7.out.cell_ (i := 0) rfl
    have a2 : w7.cell? ⟨g, 0, none⟩ = some (.int .i64 (q : Int)) := HG7.out.cell_ (i := 0) rfl
    obtain ⟨-, -, a3⟩ := HC9.out w7 HF7.out
    refine M_val (i := 13) (v := .bool true) SU.out rfl (by kernel_rfl) HSS.out rfl (fun V hV => ?_) ?_
    · go_simp; try (first | done | rfl | (simp; done))
    simp only [Act.put, PU]
    refine M_move (i := 14) _ SU.out rfl rfl (by kernel_rfl) HSS.out rfl ?_
    simp only [Act.put, Act.eval, PE]
    refine M_val (i := 15) (v := .pointer (some ⟨g, 0, none⟩)) SU.out rfl (by kernel_rfl) HSS.out rfl (fun V hV => ?_) ?_
    · obtain rfl := hV; go_simp; try (first | done | rfl | (simp; done))
    simp only [Act.put, PU]
    refine M_val (i := 16) (v := .pointer (some ⟨g, 0, none⟩)) SU.out rfl (by kernel_rfl) HSS.out rfl (fun V hV => ?_) ?_
    · go_simp; try (first | done | rfl | (simp; done))
    simp only [Act.put, PU]
    refine M_val (i := 17) (v := .pointer (some ⟨g, 0, none⟩)) SU.out rfl (by kernel_rfl) HSS.out rfl (fun V hV => ?_) ?_
    · go_simp; try (first | done | rfl | (simp; done))
    simp only [Act.put, PU]
    refine M_val (i := 18) (v := .int .i64 (q : Int)) SU.out rfl (by kernel_rfl) HSS.out rfl (fun V hV => ?_) ?_
    · obtain rfl := hV; go_simp; try (first | done | rfl | (simp; done))
    simp only [Act.put, PU]
    refine M_val (i := 19) (v := .pointer (some ⟨gb, 262, none⟩)) SU.out rfl (by kernel_rfl) HSS.out rfl (fun V hV => ?_) ?_
    · go_simp; try (first | done | rfl | (simp; done))
    simp only [Act.put, PU]
    refine M_val (i := 20) (v := .int .i64 (q : Int)) SU.out rfl (by kernel_rfl) HSS.out rfl (fun V hV => ?_) ?_
    · obtain rfl := hV; go_simp; try (first | done | rfl | (simp; done))
    simp only [Act.put, PU]
    refine M_val (i := 21) (v := .bool true) SU.out rfl (by kernel_rfl) HSS.out rfl (fun V hV => ?_) ?_
    · go_simp; try (first | done | rfl | (simp; done))
    simp only [Act.put, PU]
    refine M_val (i := 22) (v := .bool true) SU.out rfl (by kernel_rfl) HSS.out rfl (fun V hV => ?_) ?_
    · go_simp; try (first | done | rfl | (simp; done))
    simp only [Act.put, PU]
    refine M_val (i := 23) (v := .bool true) SU.out rfl (by kernel_rfl) HSS.out rfl (fun V hV => ?_) ?_
    · go_simp; try (first | done | rfl | (simp; done))
    simp only [Act.put, PU]
    refine wpAnyM_done (by kernel_rfl) (fun wz hG => ?_)
    subst hG
    go_wp2_with fail
    go_ret
    exact ⟨rfl, HX8.out.trans' HF7.out (fun b hb => .inr (by simp at hb; have := HXB.out; omega))⟩
  · obtain ⟨hrt, hct⟩ := parse_good hY
    have HCL : Hid (∀ W, Calls Tryz.prog 6 #[.string ⟨a.toArray⟩] W fun e w' => Fr [] W w' ∧ ∃ (p : PT) (j : Nat), e = .returned (.agg (gotC p.rcells (j : Int) 0 0).toArray)) := Lib.hid (fun W => by
      have := rparse_any a W; rw [hY] at this
      exact this.mono fun e w' ⟨h1, p, j, h2, h3⟩ => ⟨h1, p, j, h2⟩)
    have HPC : Hid (∀ W, Fr [] w W → Calls Tryz.prog 9 #[.slice A L ca] W fun e w' => ∃ p : PT, e = .returned (.tuple #[p.val, .nilIface]) ∧ NewP W.heap.size w' t p ∧ Fr [] W w') := Lib.hid (fun W hf => by
      have := HPAR.out W hf; rw [hY] at this; exact this)
    have HSZ : Hid (∀ (W : World) (p : PT) (lo : Nat), NewP lo W t p → Calls Tryz.prog 10 #[p.val] W fun e w' => e = .returned (.int .i64 (if 4000 ≤ sizP (toP t) then 4001 else (sizP (toP t) : Int) + 1)) ∧ Fr [] W w') := Lib.hid (fun W p lo hn => by
      have h := nwsize_any hn.mem (by rw [RepP.right t p hn.rep]; exact hrt) (by rw [RepP.cnt t p hn.rep]; have := HL.out; omega)
      rw [RepP.siz t p hn.rep] at h
      exact h)
    have HNW : Hid (∀ W, Fr [] w W → Calls Tryz.prog 5 #[.slice A L ca] W (NewPost W (.ok t))) := Lib.hid (fun W hf => by have := HNEW.out W hf; rw [hY] at this; exact this)
    clear hY HNEW HPAR hrt hct
    by_cases hbig : 4000 ≤ sizP (toP t)
    · simp only [if_pos hbig] at HSZ
      have HNB : Hid (∀ W, Fr [] w W → Calls Tryz.prog 5 #[.slice A L ca] W fun e w' => Fr [] W w' ∧ ∃ fg, e = .returned (.tuple #[.pointer none, .iface 37 (.pointer (some ⟨fg, 0, none⟩))]) ∧ Bk w' fg 42 #[.int .i64 0, .iface 64 (.int .i64 5)]) := Lib.hid (fun W hf => by
        refine (HNW.out W hf).mono fun e w' hp => ?_
        obtain ⟨h1, h2⟩ := hp
        dsimp only at h2
        rw [if_pos hbig] at h2
        obtain ⟨v, h2, g, rfl, h3⟩ := h2
        exact ⟨h1, g, h2, h3⟩)
      clear HNW hbig
      go_enter Tryz.func3, Tryz.ntmps3
      go_upto_region 6 with (first
        | (go_at_call 4; refine HAW.out.mono ?_; rintro e w1 ⟨rfl, hf⟩; have HX1 := Lib.hid hf; clear hf)
        | (go_at_call 5; refine (HNB.out _ HX1.out).mono ?_; rintro e w2 ⟨hf, fg, rfl, hb⟩; have HX2 := Lib.hid (HX1.out.trans hf); clear hf; have HB2 := Lib.hid hb; clear hb))
      have HBY2 := Lib.hid (HBY.out.fr HX2.out (by simp))
      have HCD : Hid (∀ W, Fr [] w2 W → Calls Tryz.prog 7 #[.iface 37 (.pointer (some ⟨fg, 0, none⟩))] W fun e w' => e = .returned (.int .i64 5) ∧ W = w') := Lib.hid (fun W hf => (code_fault (p := 0) (a := 5) ⟨fg, rfl, HB2.out.fr hf (by simp)⟩ (by decide) (by decide)).mono fun e w' h => ⟨h.1, h.2⟩)
      go_upto_region 10 with (first
        | (refine wpList_str rfl 22 9 (.tmp 19) rfl 5 Tryz.underlying22 Tryz.underlying5 Tryz.underlying9 A L ca rfl a HBY2.out (by first | exact HL.out | exact HL.out.symm) ?_)
        | (go_at_call 6; refine (HCL.out _).mono ?_; rintro e w3 ⟨hf, p, j, rfl⟩; have HX3 := Lib.hid (HX2.out.trans hf); have HY3 := Lib.hid hf; clear hf)
        | (refine wpList_alloc_bk rfl 35 rfl (gotC zeroPC 0 0 0) 263 rg_zero ?_; intro wA1 hzA hfA; have HZA1 := Lib.hid hzA; have HX4 := Lib.hid (HX3.out.trans hfA); have HY4 := Lib.hid (HY3.out.trans hfA); clear hzA hfA)
        | (refine wpList_store_bk rfl 35 _ _ rfl w3.heap.size (gotC p.rcells (j : Int) 0 0) rfl rfl _ _ HZA1.out (by rw [gotC_len (rcells_len p)]; exact rg_size) (by rw [gotC_len (rcells_len p), List.size_toArray, gotC_len zeroPC_len]) (gotC_one (rcells_one p) _ _ _) ?_; intro wS1 hzS hfS; have HX5 : Hid (Fr [] w wS1) := Lib.hid (HX4.out.trans' hfS (by simp; have := HX3.out.size; omega)); have HY5 : Hid (Fr [] w2 wS1) := Lib.hid (HY4.out.trans' hfS (by simp; have := HY3.out.size; omega)); have c261 := hzS.cellL (gotC_e (rcells_len p) _ _ _); clear hzS hfS))
      clear c261
      go_wp2_with fail
      go_at_call 9
      refine (HPC.out _ HX5.out).mono ?_
      rintro e w6 ⟨p6, rfl, hn, hf⟩
      have HX6 := Lib.hid (HX5.out.trans hf); have HY6 := Lib.hid (HY5.out.trans hf)
      have HN7 := Lib.hid (hn.fr_nil ((Fr.refl [] w6).alloc (.cells #[.int .i64 p6.k, .int .u64 p6.s0, .int .u64 p6.s1, .int .u64 p6.s2, .int .u64 p6.s3, .int .i64 p6.mn, .int .i64 p6.mx, .slice p6.A p6.l.length p6.c] 48)))
      have HX7 := Lib.hid (HX6.out.alloc (.cells #[.int .i64 p6.k, .int .u64 p6.s0, .int .u64 p6.s1, .int .u64 p6.s2, .int .u64 p6.s3, .int .i64 p6.mn, .int .i64 p6.mx, .slice p6.A p6.l.length p6.c] 48))
      have HY7 := Lib.hid (HY6.out.alloc (.cells #[.int .i64 p6.k, .int .u64 p6.s0, .int .u64 p6.s1, .int .u64 p6.s2, .int .u64 p6.s3, .int .i64 p6.mn, .int .i64 p6.mx, .slice p6.A p6.l.length p6.c] 48))
      clear hf hn
      unfold PT.val at HSZ ⊢
      go_wp2_with (first
        | (go_at_call 10; refine (HSZ.out _ _ _ HN7.out).mono ?_; rintro e w8 ⟨rfl, hf⟩; have HX8 := Lib.hid (HX7.out.trans hf); have HY8 := Lib.hid (HY7.out.trans hf); clear hf)
        | (go_at_call 7; refine (HCD.out _ HY8.out).mono ?_; rintro e w9 ⟨rfl, rfl⟩))
      go_ret
      exact ⟨rfl, HX8.out⟩
    · simp only [if_neg hbig] at HSZ
      obtain ⟨z, hz⟩ : ∃ z, z = sizP (toP t) := ⟨_, rfl⟩
      rw [← hz] at HSZ
      have hzI : ¬ ((4000 : Int) < (z : Int) + 1) := by omega
      have HNB : Hid (∀ W, Fr [] w W → Calls Tryz.prog 5 #[.slice A L ca] W fun e w' => Fr [] W w' ∧ ∃ fb, e = .returned (.tuple #[.pointer (some ⟨fb, 0, none⟩), .nilIface])) := Lib.hid (fun W hf => by
        refine (HNW.out W hf).mono fun e w' hp => ?_
        obtain ⟨h1, h2⟩ := hp
        dsimp only at h2
        rw [if_neg hbig] at h2
        obtain ⟨fb, h2, -⟩ := h2
        exact ⟨h1, fb, h2⟩)
      clear HNW hbig hz
      go_enter Tryz.func3, Tryz.ntmps3
      go_upto_region 6 with (first
        | (go_at_call 4; refine HAW.out.mono ?_; rintro e w1 ⟨rfl, hf⟩; have HX1 := Lib.hid hf; clear hf)
        | (go_at_call 5; refine (HNB.out _ HX1.out).mono ?_; rintro e w2 ⟨hf, fb, rfl⟩; have HX2 := Lib.hid (HX1.out.trans hf); clear hf; skip))
      have HBY2 := Lib.hid (HBY.out.fr HX2.out (by simp))
      go_upto_region 10 with (first
        | (refine wpList_str rfl 22 9 (.tmp 19) rfl 5 Tryz.underlying22 Tryz.underlying5 Tryz.underlying9 A L ca rfl a HBY2.out (by first | exact HL.out | exact HL.out.symm) ?_)
        | (go_at_call 6; refine (HCL.out _).mono ?_; rintro e w3 ⟨hf, p, j, rfl⟩; have HX3 := Lib.hid (HX2.out.trans hf); have HY3 := Lib.hid hf; clear hf)
        | (refine wpList_alloc_bk rfl 35 rfl (gotC zeroPC 0 0 0) 263 rg_zero ?_; intro wA1 hzA hfA; have HZA1 := Lib.hid hzA; have HX4 := Lib.hid (HX3.out.trans hfA); have HY4 := Lib.hid (HY3.out.trans hfA); clear hzA hfA)
        | (refine wpList_store_bk rfl 35 _ _ rfl w3.heap.size (gotC p.rcells (j : Int) 0 0) rfl rfl _ _ HZA1.out (by rw [gotC_len (rcells_len p)]; exact rg_size) (by rw [gotC_len (rcells_len p), List.size_toArray, gotC_len zeroPC_len]) (gotC_one (rcells_one p) _ _ _) ?_; intro wS1 hzS hfS; have HX5 : Hid (Fr [] w wS1) := Lib.hid (HX4.out.trans' hfS (by simp; have := HX3.out.size; omega)); have HY5 : Hid (Fr [] w2 wS1) := Lib.hid (HY4.out.trans' hfS (by simp; have := HY3.out.size; omega)); have c261 := hzS.cellL (gotC_e (rcells_len p) _ _ _); clear hzS hfS))
      clear c261
      go_wp2_with fail
      go_at_call 9
      refine (HPC.out _ HX5.out).mono ?_
      rintro e w6 ⟨p6, rfl, hn, hf⟩
      have HX6 := Lib.hid (HX5.out.trans hf); have HY6 := Lib.hid (HY5.out.trans hf)
      have HN7 := Lib.hid (hn.fr_nil ((Fr.refl [] w6).alloc (.cells #[.int .i64 p6.k, .int .u64 p6.s0, .int .u64 p6.s1, .int .u64 p6.s2, .int .u64 p6.s3, .int .i64 p6.mn, .int .i64 p6.mx, .slice p6.A p6.l.length p6.c] 48)))
      have HX7 := Lib.hid (HX6.out.alloc (.cells #[.int .i64 p6.k, .int .u64 p6.s0, .int .u64 p6.s1, .int .u64 p6.s2, .int .u64 p6.s3, .int .i64 p6.mn, .int .i64 p6.mx, .slice p6.A p6.l.length p6.c] 48))
      have HY7 := Lib.hid (HY6.out.alloc (.cells #[.int .i64 p6.k, .int .u64 p6.s0, .int .u64 p6.s1, .int .u64 p6.s2, .int .u64 p6.s3, .int .i64 p6.mn, .int .i64 p6.mx, .slice p6.A p6.l.length p6.c] 48))
      clear hf hn
      unfold PT.val at HSZ ⊢
      go_wp2_with (go_at_call 10; refine (HSZ.out _ _ _ HN7.out).mono ?_; rintro e w8 ⟨rfl, hf⟩; have HX8 := Lib.hid (HX7.out.trans hf); clear hf)
      go_ret
      exact ⟨rfl, HX8.out⟩
theorem et_name : Tryz.prog.globalNamed "errors.errorType" = some 0 := by kernel_rfl
theorem rt_name : (Tryz.prog.cutTypes.find? (·.1 == "internal/reflectlite.rtype")).map (·.2) = some 108 := by kernel_rfl
theorem one_row : ((List.range (310 - 100)).filter fun t => Tryz.prog.rowNamed t [101, 114, 114, 111, 114]) = [26] := by kernel_rfl
theorem types_n : Tryz.prog.types.size = 310 - 100 := by kernel_rfl
theorem errT_of_laid {W : World} (h : laidMetH Tryz.prog Rows.matchNewsRow.laid W) : ErrT W := by
  have h' : laidMet Tryz.prog [] W ∧ handlesMet Tryz.prog Rows.matchNewsRow.laid W := h
  obtain ⟨name, u, ty, e1, e2, e3, e4, e5⟩ := h'.2 _ (List.mem_singleton.2 rfl)
  have en : name = [101, 114, 114, 111, 114] := (Option.some.inj e1).symm
  subst en
  obtain rfl := Option.some.inj (rt_name.symm.trans e2)
  have hm : ty ∈ (List.range (310 - 100)).filter fun t => Tryz.prog.rowNamed t [101, 114, 114, 111, 114] := List.mem_filter.2 ⟨List.mem_range.2 (by rw [← types_n]; exact e3), e4⟩
  rw [one_row] at hm
  obtain rfl := List.mem_singleton.1 hm
  have hh : typeHandle Tryz.prog 26 = .pointer (some ⟨2, 26, none⟩) := by kernel_rfl
  rw [hh] at e5
  unfold ErrT
  simpa using World.var?_cell et_name e5 0
set_option maxRecDepth 100000 in
theorem matchNews_open {H : Type} {enc : TypeId × Value → H} (W : World) (base : Nat) (v0 : Value) (d0 : DataW H) (p0 : List MemPlace)
    (k0 : Value.okWide Tryz.prog W .any base 22 v0) (h0 : DataW.Trod enc Tryz.prog W 0 (fun _ => true) true 22 v0 d0 p0) (hg : GlobOk W) (hl : laidMetH Tryz.prog Rows.matchNewsRow.laid W) :
    Calls Tryz.prog 3 #[v0] W fun e W' => e = .returned (.bool true) ∧ Below W.heap.size W W' := by
  obtain ⟨A1, c1, b1, rfl, g1, g2, g3, g4⟩ := arg_bytes k0 h0
  exact (matchNews_walk hg (errT_of_laid hl) g4 g1 g3 g2).mono fun e W' ⟨h1, h2⟩ => ⟨h1, h2.below_nil⟩
end Go.Proofs.YtgcalmefijmhaaaGreatDoor
