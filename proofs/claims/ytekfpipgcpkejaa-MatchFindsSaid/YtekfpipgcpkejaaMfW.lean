/-
 The law MatchFinds. No conditions but the frame's. (Printed by a program of the prover's.)
-/
import Derived.Test.YtekfpipgcpkejaaGs
import Derived.Test.YtekfpipgcpkejaaArg
namespace Go.Proofs.Ytekfpipgcpkejaa
open Go.RowKit
set_option linter.unusedVariables false
set_option linter.unusedSimpArgs false
set_option maxRecDepth 100000 in
set_option maxHeartbeats 16000000 in
theorem matchFinds_walk {w : World} (hg : GlobOk w) {A D : Option Addr} {a tx : List UInt8} {ca cd : Nat} (ha : Bytes w A a) (hac : a.length ≤ ca) (hna : A = none → ca = 0) (hma : ca ≤ maxLen) (ht : Bytes w D tx) (htc : tx.length ≤ cd) (htl : ∀ x, D = some x → x.block < w.heap.size) (F : Int) :
    Calls Try.prog 3 #[.slice A a.length ca, .slice D tx.length cd, .int .i64 F] w fun e w' => e = .returned (.bool true) ∧ Fr [] w w' := by
 obtain ⟨la, hla⟩ : ∃ L, L = a.length := ⟨_, rfl⟩
 obtain ⟨M, hM⟩ : ∃ M, M = tx.length := ⟨_, rfl⟩
 have HG := Lib.hid hg; have HA := Lib.hid ha; have HAC := Lib.hid hac; have HNA := Lib.hid hna; have HMA := Lib.hid hma; have HT := Lib.hid ht; have HTC := Lib.hid htc; have HTL := Lib.hid htl
 have Hla := Lib.hid hla; have HM := Lib.hid hM
 rw [← hla, ← hM]
 clear hg ha hac hna hma ht htc htl hla hM
 go_enter Try.func3, Try.ntmps3
 go_upto_region 3 with (go_at_call 12; refine (awake_any HG.out).mono ?_; rintro e w0 ⟨rfl, hf⟩; have HF0 := Lib.hid hf; clear hf)
 go_upto_region 4 with (first
  | (go_at_call 13; refine (made_q la Hla.out.symm (HA.out.fr HF0.out (by simp)) (by have := HAC.out; have := Hla.out; omega) HNA.out HMA.out (HG.out.fr HF0.out)).mono ?_; rintro e w1a ⟨v1, C1, rfl, hC, hC1, hf, hv⟩; have HC1 := Lib.hid hC; have HO1 := Lib.hid hC1; have HFa1 := Lib.hid (HF0.out.trans hf); have HV1 := Lib.hid hv; clear hC hC1 hf hv)
  | (refine wpList_alloc_bk rfl 29 rfl zeroPC 260 rp_zero ?_; intro w1b hzA hfA; have HZ1 := Lib.hid hzA; have HFb1 := Lib.hid hfA; clear hzA hfA)
  | (refine wpList_store_bk rfl 29 _ _ rfl w1a.heap.size C1 rfl rfl _ _ HZ1.out (by rw [HC1.out]; exact rp_size) (by rw [HC1.out, List.size_toArray, zeroPC_len]) HO1.out ?_; intro w1c hzS hfS; have HZ2 := Lib.hid hzS; have HFc1 : Hid (Fr [] w1a w1c) := Lib.hid (HFb1.out.trans' hfS (by simp)); clear hzS hfS; have HF1 := Lib.hid (HFa1.out.trans HFc1.out)))
 obtain ⟨g8, hg8⟩ : ∃ g, g = w1a.heap.size := ⟨_, rfl⟩
 rw [← hg8] at HZ2 ⊢
 have HG8 := Lib.hid hg8
 clear hg8 HZ1
 rcases HV1.out with rfl | ⟨t1, p1, f1, rfl, rfl, hp1, hfd1, hfa1, hrep, hmem, hends⟩
 ·go_wp2_with fail
  go_ret
  exact ⟨rfl, HF1.out⟩
 by_cases gm : 60 < M
 ·have gmI : (60 : Int) < (M : Int) := by omega
  go_wp2_with fail
  go_ret
  exact ⟨rfl, HF1.out⟩
 have gmI : ¬ ((60 : Int) < (M : Int)) := by omega
 have htx : Bytes w1c D tx := HT.out.fr HF1.out (by simp)
 have hin : ∀ x, D = some x → x.block < w1c.heap.size := fun x hx => Nat.lt_of_lt_of_le (HTL.out x hx) HF1.out.size
 have hE := hends tx (by have := HM.out; omega)
 have hfi := hfa1.fr HFc1.out
 have hmm := hmem.fr_nil HFc1.out
 obtain ⟨X, Y, K, hr1, hr2⟩ := find_same M HM.out hp1 hfd1 hrep hE hmm hfi htx (by rw [HM.out]; exact HTC.out) hin (by omega) F
 obtain ⟨tk, htk⟩ : ∃ tk, tk = takesS (progT t1) tx := ⟨_, rfl⟩
 have hk1 : ∀ W, Fr [] w1c W → Calls Try.prog 16 #[.pointer (some ⟨f1, 0, none⟩), .slice D M cd] W fun e w' => e = .returned (.bool tk) ∧ Fr [] W w' := fun W hW =>
  takes_at (w := W) (c2 := cd) M HM.out.symm tk htk.symm (hfi.fr hW) hfd1 (htx.fr hW (by simp)) (by rw [HM.out]; exact HTC.out) (fun x hx => Nat.lt_of_lt_of_le (hin x hx) hW.size) (by omega)
 have hk2 : ∀ W, Fr [] w1c W → Calls Try.prog 17 #[.agg p1.rcells.toArray, .string ⟨tx.toArray⟩] W fun e w' => e = .returned (.bool tk) ∧ Fr [] W w' := fun W hW =>
  rtakes_any (by have := HM.out; omega) hE (hmm.fr_nil hW) (by rw [htk]; exact takes_of hp1 hrep ⟨hfd1.1, hfd1.2.1⟩)
 obtain ⟨PC, hPC⟩ : ∃ PC, PC = p1.rcells := ⟨_, rfl⟩
 obtain ⟨S, hS⟩ : ∃ S, S = (⟨tx.toArray⟩ : ByteArray) := ⟨_, rfl⟩
 have hPL : PC.length = 260 := by rw [hPC]; exact rcells_len p1
 rw [← hPC, ← hS] at hr2 hk2
 rw [← hPC] at HZ2
 have HBY := Lib.hid htx; have HK1 := Lib.hid hk1; have HK2 := Lib.hid hk2; have HS := Lib.hid hS
 have H1 := Lib.hid (hr1 w1c (Fr.refl _ _)); have H2 := Lib.hid hr2
 clear hp1 hfd1 hfa1 hrep hmem hends hE hfi hmm hin htx hr1 hr2 hk1 hk2 htk hS hPC HV1
 go_upto_region 6 with fail
 clear gmI
 go_upto_region 7 with (go_at_call 14; refine H1.out.mono ?_; rintro e w2 ⟨rfl, hf⟩; have HF2 := Lib.hid hf; clear hf)
 have HZ3 := Lib.hid (HZ2.out.fr HF2.out (by simp))
 have H3 := Lib.hid (H2.out w2 HF2.out)
 go_upto_region 8 with (first
  | (refine wpList_load_bk rfl 29 _ rfl g8 0 rfl PC _ _ _ HZ3.out (by intro j u hj; rw [Nat.zero_add, List.getElem?_toArray]; exact hj) Try.underlying29 rfl (by rw [hPL]; exact rp_size) ?_)
  | (refine wpList_str rfl 22 9 (.tmp 36) rfl 5 Try.underlying22 Try.underlying5 Try.underlying9 D M cd (by first | rfl | (simp [Act.eval]; done)) tx (HBY.out.fr HF2.out (by simp)) HM.out.symm ?_; rw [← HS.out])
  | (go_at_call 15; refine H3.out.mono ?_; rintro e w3 ⟨rfl, hf⟩; have HF3 := Lib.hid hf; clear hf))
 obtain ⟨g12, hg12⟩ : ∃ g, g = w3.heap.size := ⟨_, rfl⟩
 rw [← hg12]
 obtain ⟨w4, hw4⟩ : ∃ w4, w4 = w3.alloc (.cells #[.int .i64 X, .int .i64 Y, .bool K] 35) := ⟨_, rfl⟩
 have hb12 : Bk w4 g12 35 #[.int .i64 X, .int .i64 Y, .bool K] := by rw [hw4, hg12]; exact Bk.new w3 _ _
 have h14 : Fr [] w1c w4 := by rw [hw4]; exact (HF2.out.trans HF3.out).alloc _
 rw [← hw4]
 obtain ⟨wd, hwd⟩ : ∃ wd, wd = w4.drew := ⟨_, rfl⟩
 have hfd : Fr [] w4 wd := by rw [hwd]; exact (Fr.refl [] w4).drew
 have h1d := h14.trans hfd
 have hcs : ∀ W, Fr [] wd W → W.cell? ⟨g12, 0, none⟩ = some (.int .i64 X) ∧ W.cell? ⟨g12, 1, none⟩ = some (.int .i64 Y) ∧ W.cell? ⟨g12, 2, none⟩ = some (.bool K) := fun W hW => by
  have h := hb12.fr (hfd.trans hW) (by simp)
  exact ⟨h.cell_ (i := 0) rfl, h.cell_ (i := 1) rfl, h.cell_ (i := 2) rfl⟩
 have hrg : ∀ W, Fr [] wd W → W.rangeAt g8 0 PC := fun W hW j v hv => by
  rw [Nat.zero_add]
  exact (HZ2.out.fr (h1d.trans hW) (by simp)).cellL hv
 have hby : ∀ W, Fr [] wd W → At W D (byteVals tx) := fun W hW => HBY.out.fr (h1d.trans hW) (by simp)
 have hq1 := fun W hW => HK1.out W (h1d.trans hW)
 have hq2 := fun W hW => HK2.out W (h1d.trans hW)
 have HC := Lib.hid hcs; have HRG := Lib.hid hrg; have HBW := Lib.hid hby; have HQ1 := Lib.hid hq1; have HQ2 := Lib.hid hq2; have HFE := Lib.hid (HF1.out.trans h1d)
 clear hw4 hg12 hb12 h14 hfd h1d hcs hrg hby hq1 hq2 H1 H2 H3 HZ2 HZ3 HK1 HK2
 refine wp_region_M_ (G := fun a b => Fr [] a b) (S := fun W => Fr [] w4.drew W) ⟨fun _ => Fr.refl _ _, fun a b c h k => h.trans k, fun a b h k => h.trans k, by kernel_rfl, fun _ _ d _ _ h => by cases d <;> exact h⟩ (by kernel_rfl) fun su => ?_
 rw [← hwd] at su ⊢
 have SU := Lib.hid su
 have HS' : Hid (Fr [] wd wd) := Lib.hid (Fr.refl _ _)
 clear su hwd
 refine M_move (i := 0) _ SU.out rfl rfl (by kernel_rfl) HS'.out rfl ?_
 simp only [Act.put, Act.eval, PE]
 refine M_val (i := 1) (v := ?_) SU.out rfl (by kernel_rfl) HS'.out rfl (fun W hS => ?_) ?_
 rotate_left
 ·obtain ⟨t0, t1, t2⟩ := HC.out W hS
  go_simp
  first | done | rfl | omega | (exact IntWalk.i64_in _ (by omega)) | (simp; done) | (simp; omega)
 simp only [Act.put, PU]
 refine M_val (i := 2) (v := .int .i64 X) SU.out rfl (by kernel_rfl) HS'.out rfl (fun W hS => ?_) ?_
 ·obtain ⟨t0, t1, t2⟩ := HC.out W hS
  go_simp
  first | done | rfl | omega | (exact IntWalk.i64_in _ (by omega)) | (simp; done) | (simp; omega)
 simp only [Act.put, PU]
 refine M_val (i := 3) (v := .bool true) SU.out rfl (by kernel_rfl) HS'.out rfl (fun W hS => ?_) ?_
 ·obtain ⟨t0, t1, t2⟩ := HC.out W hS
  go_simp
  first | done | rfl | omega | (exact IntWalk.i64_in _ (by omega)) | (simp; done) | (simp; omega)
 simp only [Act.put, PU]
 refine M_move (i := 4) _ SU.out rfl rfl (by kernel_rfl) HS'.out rfl ?_
 simp only [Act.put, Act.eval, PE]
 refine M_move (i := 5) _ SU.out rfl rfl (by kernel_rfl) HS'.out rfl ?_
 simp only [Act.put, Act.eval, PE]
 refine M_val (i := 6) (v := ?_) SU.out rfl (by kernel_rfl) HS'.out rfl (fun W hS => ?_) ?_
 rotate_left
 ·obtain ⟨t0, t1, t2⟩ := HC.out W hS
  go_simp
  first | done | rfl | omega | (exact IntWalk.i64_in _ (by omega)) | (simp; done) | (simp; omega)
 simp only [Act.put, PU]
 refine M_val (i := 7) (v := .int .i64 Y) SU.out rfl (by kernel_rfl) HS'.out rfl (fun W hS => ?_) ?_
 ·obtain ⟨t0, t1, t2⟩ := HC.out W hS
  go_simp
  first | done | rfl | omega | (exact IntWalk.i64_in _ (by omega)) | (simp; done) | (simp; omega)
 simp only [Act.put, PU]
 refine M_val (i := 8) (v := .bool true) SU.out rfl (by kernel_rfl) HS'.out rfl (fun W hS => ?_) ?_
 ·obtain ⟨t0, t1, t2⟩ := HC.out W hS
  go_simp
  first | done | rfl | omega | (exact IntWalk.i64_in _ (by omega)) | (simp; done) | (simp; omega)
 simp only [Act.put, PU]
 refine M_val (i := 9) (v := .bool true) SU.out rfl (by kernel_rfl) HS'.out rfl (fun W hS => ?_) ?_
 ·obtain ⟨t0, t1, t2⟩ := HC.out W hS
  go_simp
  first | done | rfl | omega | (exact IntWalk.i64_in _ (by omega)) | (simp; done) | (simp; omega)
 simp only [Act.put, PU]
 refine M_move (i := 10) _ SU.out rfl rfl (by kernel_rfl) HS'.out rfl ?_
 simp only [Act.put, Act.eval, PE]
 refine M_move (i := 11) _ SU.out rfl rfl (by kernel_rfl) HS'.out rfl ?_
 simp only [Act.put, Act.eval, PE]
 refine M_val (i := 12) (v := ?_) SU.out rfl (by kernel_rfl) HS'.out rfl (fun W hS => ?_) ?_
 rotate_left
 ·obtain ⟨t0, t1, t2⟩ := HC.out W hS
  go_simp
  first | done | rfl | omega | (exact IntWalk.i64_in _ (by omega)) | (simp; done) | (simp; omega)
 simp only [Act.put, PU]
 refine M_val (i := 13) (v := .bool K) SU.out rfl (by kernel_rfl) HS'.out rfl (fun W hS => ?_) ?_
 ·obtain ⟨t0, t1, t2⟩ := HC.out W hS
  go_simp
  first | done | rfl | omega | (exact IntWalk.i64_in _ (by omega)) | (simp; done) | (simp; omega)
 simp only [Act.put, PU]
 refine M_val (i := 14) (v := .bool true) SU.out rfl (by kernel_rfl) HS'.out rfl (fun W hS => ?_) ?_
 ·obtain ⟨t0, t1, t2⟩ := HC.out W hS
  go_simp
  first | done | rfl | omega | (exact IntWalk.i64_in _ (by omega)) | (simp; done) | (simp; omega)
 simp only [Act.put, PU]
 refine M_val (i := 15) (v := .bool true) SU.out rfl (by kernel_rfl) HS'.out rfl (fun W hS => ?_) ?_
 ·obtain ⟨t0, t1, t2⟩ := HC.out W hS
  go_simp
  first | done | rfl | omega | (exact IntWalk.i64_in _ (by omega)) | (simp; done) | (simp; omega)
 simp only [Act.put, PU]
 refine M_move (i := 16) _ SU.out rfl rfl (by kernel_rfl) HS'.out rfl ?_
 simp only [Act.put, Act.eval, PE]
 refine M_move (i := 17) _ SU.out rfl rfl (by kernel_rfl) HS'.out rfl ?_
 simp only [Act.put, Act.eval, PE]
 refine M_move (i := 18) _ SU.out rfl rfl (by kernel_rfl) HS'.out rfl ?_
 simp only [Act.put, Act.eval, PE]
 refine M_call (i := 19) (v := .bool tk) SU.out rfl (by kernel_rfl) HS'.out rfl (fun V hS => HQ1.out V hS) (fun V => ?_) ?_
 ·go_simp
  first | done | rfl
 simp only [Act.put, PU]
 refine M_row (i := 20) 29 (.tmp 8) SU.out rfl rfl g8 0 (by first | rfl | (simp [Act.eval]; done)) PC _ HRG.out Try.underlying29 rfl (by rw [hPL]; exact rp_size) (by kernel_rfl) HS'.out rfl ?_
 simp only [Act.put, PU]
 refine M_move (i := 21) _ SU.out rfl rfl (by kernel_rfl) HS'.out rfl ?_
 simp only [Act.put, Act.eval, PE]
 refine M_strg (i := 22) 22 9 (.tmp 61) SU.out rfl rfl 5 Try.underlying22 Try.underlying5 Try.underlying9 D M cd (by first | rfl | (simp [Act.eval]; done)) tx HBW.out HM.out.symm (by kernel_rfl) HS'.out rfl ?_
 rw [← HS.out]
 simp only [Act.put, PU]
 refine M_call (i := 23) (v := .bool tk) SU.out rfl (by kernel_rfl) HS'.out rfl (fun V hS => HQ2.out V hS) (fun V => ?_) ?_
 ·go_simp
  first | done | rfl
 simp only [Act.put, PU]
 refine M_val (i := 24) (v := .bool true) SU.out rfl (by kernel_rfl) HS'.out rfl (fun W hS => ?_) ?_
 ·obtain ⟨t0, t1, t2⟩ := HC.out W hS
  go_simp
  first | done | rfl | omega | (exact IntWalk.i64_in _ (by omega)) | (simp; done) | (simp; omega)
 simp only [Act.put, PU]
 refine M_val (i := 25) (v := .bool true) SU.out rfl (by kernel_rfl) HS'.out rfl (fun W hS => ?_) ?_
 ·obtain ⟨t0, t1, t2⟩ := HC.out W hS
  go_simp
  first | done | rfl | omega | (exact IntWalk.i64_in _ (by omega)) | (simp; done) | (simp; omega)
 simp only [Act.put, PU]
 refine M_val (i := 26) (v := ?_) SU.out rfl (by kernel_rfl) HS'.out rfl (fun W hS => ?_) ?_
 rotate_left
 ·obtain ⟨t0, t1, t2⟩ := HC.out W hS
  go_simp
  first | done | rfl | omega | (exact IntWalk.i64_in _ (by omega)) | (simp; done) | (simp; omega)
 simp only [Act.put, PU]
 refine wpAnyM_done (by kernel_rfl) (fun w' hG => ?_)
 have HFF := Lib.hid (HFE.out.trans hG)
 clear hG
 go_wp2_with fail
 go_ret
 exact ⟨rfl, HFF.out⟩
set_option maxRecDepth 100000 in
theorem matchFinds_open {H : Type} {enc : TypeId × Value → H} (W : World) (base : Nat) (v0 : Value) (d0 : DataW H) (p0 : List MemPlace) (v1 : Value) (d1 : DataW H) (p1 : List MemPlace) (v2 : Value) (d2 : DataW H) (p2 : List MemPlace)
    (k0 : Value.okWide Try.prog W .any base 22 v0) (k1 : Value.okWide Try.prog W .any base 22 v1) (k2 : Value.okWide Try.prog W .any base 3 v2)
    (h0 : DataW.Trod enc Try.prog W 0 (fun _ => true) true 22 v0 d0 p0) (h1 : DataW.Trod enc Try.prog W 0 (fun _ => true) true 22 v1 d1 p1) (h2 : DataW.Trod enc Try.prog W 0 (fun _ => true) true 3 v2 d2 p2) (hg : GlobOk W) :
    Calls Try.prog 3 #[v0, v1, v2] W fun e W' => e = .returned (.bool true) ∧ Below W.heap.size W W' := by
 obtain ⟨A1, c1, b1, rfl, g1, g2, g3, g4⟩ := arg_bytes k0 h0
 obtain ⟨A2, c2, b2, rfl, f1, f2, f3, f4⟩ := arg_bytes k1 h1
 obtain ⟨n2, rfl, hn2⟩ := arg_int Try.underlying3 k2 h2
 exact (matchFinds_walk hg g4 g1 g3 g2 f4 f1 (fun a ha => by subst ha; exact arg_lt k1) n2).mono fun e W' ⟨h1, h2⟩ => ⟨h1, h2.below_nil⟩
end Go.Proofs.Ytekfpipgcpkejaa
