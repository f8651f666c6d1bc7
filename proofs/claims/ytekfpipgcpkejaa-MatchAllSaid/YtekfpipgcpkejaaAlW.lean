/-
 The law MatchAll. No conditions but the frame's. (Printed by a program of the prover's.)
-/
import Derived.Test.YtekfpipgcpkejaaGu
import Derived.Test.YtekfpipgcpkejaaFi3
import Derived.Test.YtekfpipgcpkejaaArg
namespace Go.Proofs.Ytekfpipgcpkejaa
open Go.RowKit Go.Shelf
attribute [local go_sem] Oper.semAt_some
set_option linter.unusedVariables false
set_option linter.unusedSimpArgs false
structure AlI (w0 : World) (nbx : Nat) (St : List Nat) (k : Nat) (W : World) : Prop where
 fr : Fr [nbx] w0 W
 st : ∀ b ∈ St, w0.heap.size ≤ b
 nb : Bk W nbx 3 #[.int .i64 (k : Int)]
theorem AlI.far {w0 : World} {nbx : Nat} {St St' : List Nat} {k : Nat} {W W' : World} (h : AlI w0 nbx St k W) (hn : nbx < w0.heap.size) (hf : Fr St W W') (hS : ∀ b ∈ St', b ∈ St ∨ W.heap.size ≤ b) : AlI w0 nbx St' k W' := by
 have hsz := h.fr.size
 refine ⟨h.fr.trans' hf (fun b hb => .inr (h.st b hb)), fun b hb => ?_, h.nb.fr hf (fun hm => by have := h.st _ hm; omega)⟩
 rcases hS b hb with e | e
 ·exact h.st b e
 ·omega
theorem AlI.step {w0 : World} {nbx kbx : Nat} {St : List Nat} {k : Nat} {W2 W3 : World} (h : AlI w0 nbx St k W2) (hn : nbx < w0.heap.size) (hk : kbx < w0.heap.size) (hk1 : kbx ≠ nbx) (hSt : ∀ b ∈ St, b < W2.heap.size)
    (hf : Fr [nbx] W2 W3) (h2 : Bk W3 nbx 3 #[.int .i64 ((k + 1 : Nat) : Int)]) (B : Nat) : (∀ b ∈ kbx :: St, W3.heap[b]? = W2.heap[b]?) ∧ KB B W2 W3 ∧ AlI w0 nbx St (k + 1) W3 := by
 have hsz := h.fr.size
 refine ⟨fun x hx => ?_, KB.of_fr hf (fun x hx => ?_), h.fr.trans hf, h.st, h2⟩
 ·rcases List.mem_cons.1 hx with rfl | hx
  ·exact hf.block x (by omega) (by simpa using hk1)
  ·have := h.st x hx
   exact hf.block x (hSt x hx) (by simp; omega)
 ·simp only [List.mem_cons, List.not_mem_nil, or_false] at hx
  subst hx
  exact ⟨_, _, h.nb, by decide, .inr (fun i y => by rcases i with _ | i <;> simp)⟩
theorem end_cell2 {w wq : World} {rbx D2 : Nat} {v : Value} (hr : Bk wq rbx 4 #[v]) (hd : wq.heap[D2]? = some (.deferred (some []))) (hf : Fr [] w wq) (h1 : w.heap.size ≤ rbx) (h2 : w.heap.size ≤ D2) (hne : D2 ≠ rbx) :
    (wq.setCell ⟨rbx, 0, none⟩ (.bool true)).heap[D2]? = some (.deferred (some [])) ∧ ((wq.setCell ⟨rbx, 0, none⟩ (.bool true)).putObj D2 (.deferred none)).cell? ⟨rbx, 0, none⟩ = some (.bool true) ∧ Fr [] w ((wq.setCell ⟨rbx, 0, none⟩ (.bool true)).putObj D2 (.deferred none)) := by
 have hs : Fr [rbx] wq (wq.setCell ⟨rbx, 0, none⟩ (.bool true)) := (Fr.refl _ wq).setCell (.inl (by simp)) _
 have hp : Fr [D2] (wq.setCell ⟨rbx, 0, none⟩ (.bool true)) ((wq.setCell ⟨rbx, 0, none⟩ (.bool true)).putObj D2 (.deferred none)) := fr_put _
 refine ⟨(hs.block D2 (Array.getElem?_eq_some_iff.1 hd).1 (by simpa using hne)).trans hd, ((hr.put 0 (.bool true)).fr hp (by simpa using hne.symm)).cell_ (i := 0) rfl, (hf.trans' hs (fun b hb => .inr (by simp at hb; omega))).trans' hp (fun b hb => .inr (by simp at hb; omega))⟩
set_option maxRecDepth 100000 in
set_option maxHeartbeats 32000000 in
theorem matchAll_walk {w : World} (hg : GlobOk w) {A D : Option Addr} {a tx : List UInt8} {ca cd : Nat} (ha : Bytes w A a) (hac : a.length ≤ ca) (hna : A = none → ca = 0) (hma : ca ≤ maxLen) (ht : Bytes w D tx) (htc : tx.length ≤ cd) (htn : D = none → cd = 0) (htl : ∀ x, D = some x → x.block < w.heap.size) (F : Int) :
    Calls Try.prog 4 #[.slice A a.length ca, .slice D tx.length cd, .int .i64 F] w fun e w' => e = .returned (.bool true) ∧ Fr [] w w' := by
 obtain ⟨la, hla⟩ : ∃ L, L = a.length := ⟨_, rfl⟩
 obtain ⟨M, hM⟩ : ∃ M, M = tx.length := ⟨_, rfl⟩
 have HG := Lib.hid hg; have HA := Lib.hid ha; have HAC := Lib.hid hac; have HNA := Lib.hid hna; have HMA := Lib.hid hma; have HT := Lib.hid ht; have HTC := Lib.hid htc; have HTL := Lib.hid htl; have HTN := Lib.hid htn
 have Hla := Lib.hid hla; have HM := Lib.hid hM
 rw [← hla, ← hM]
 clear hg ha hac hna hma ht htc htl htn hla hM
 refine calls_marks Try.func4 rfl ?_
 simp only [Try.ntmps4, List.size_toArray, List.length_cons, List.length_nil, Nat.reduceAdd, Nat.reduceSub, Array.replicate_succ, Array.replicate_zero, List.push_toArray, List.append_toArray, List.nil_append, List.cons_append]
 go_upto_region 1 with fail
 obtain ⟨wb, hwb⟩ : ∃ wb, wb = (w.alloc (.cells #[.int .i64 F] 3)).alloc (.cells #[.bool false] 4) := ⟨_, rfl⟩
 have hfb : Fr [] w wb := by rw [hwb]; exact ((Fr.refl [] w).alloc _).alloc _
 have hst0 : Bk wb w.heap.size 3 #[.int .i64 F] := by rw [hwb]; exact (Bk.new w _ _).alloc _
 have hr0 : Bk wb (w.heap.size + 1) 4 #[.bool false] := by
  rw [hwb]
  have := Bk.new (w.alloc (.cells #[.int .i64 F] 3)) 4 #[.bool false]
  rw [World.size_alloc] at this
  exact this
 rw [← hwb]
 obtain ⟨stx, hsx⟩ : ∃ x, x = w.heap.size := ⟨_, rfl⟩
 obtain ⟨rbx, hrb⟩ : ∃ x, x = w.heap.size + 1 := ⟨_, rfl⟩
 rw [← hrb, ← hsx]
 rw [← hrb] at hr0
 rw [← hsx] at hst0
 have HFB := Lib.hid hfb; have HX := Lib.hid hst0; have HR0 := Lib.hid hr0; have HSX := Lib.hid hsx; have HRB := Lib.hid hrb
 clear hwb hfb hst0 hr0 hsx hrb
 go_upto_region 3 with (go_at_call 12; refine (awake_any (HG.out.fr HFB.out)).mono ?_; rintro e w0 ⟨rfl, hf⟩; have HF0 := Lib.hid (HFB.out.trans hf); have HX0 := Lib.hid hf; clear hf)
 go_upto_region 4 with (first
  | (go_at_call 13; refine (made_q la Hla.out.symm (HA.out.fr HF0.out (by simp)) (by have := HAC.out; have := Hla.out; omega) HNA.out HMA.out (HG.out.fr HF0.out)).mono ?_; rintro e w1a ⟨v1, C1, rfl, hC, hC1, hf, hv⟩; have HC1 := Lib.hid hC; have HO1 := Lib.hid hC1; have HFa1 := Lib.hid (HF0.out.trans hf); have HXa := Lib.hid (HX0.out.trans hf); have HV1 := Lib.hid hv; clear hC hC1 hf hv)
  | (refine wpList_alloc_bk rfl 29 rfl zeroPC 260 rp_zero ?_; intro w1b hzA hfA; have HZ1 := Lib.hid hzA; have HFb1 := Lib.hid hfA; clear hzA hfA)
  | (refine wpList_store_bk rfl 29 _ _ rfl w1a.heap.size C1 rfl rfl _ _ HZ1.out (by rw [HC1.out]; exact rp_size) (by rw [HC1.out, List.size_toArray, zeroPC_len]) HO1.out ?_; intro w1c hzS hfS; have HZ2 := Lib.hid hzS; have HFc1 : Hid (Fr [] w1a w1c) := Lib.hid (HFb1.out.trans' hfS (by simp)); clear hzS hfS; have HF1 := Lib.hid (HFa1.out.trans HFc1.out)))
 obtain ⟨g8, hg8⟩ : ∃ g, g = w1a.heap.size := ⟨_, rfl⟩
 rw [← hg8] at HZ2 ⊢
 have HG8 := Lib.hid hg8
 have hxb := HXa.out.trans HFc1.out
 have hr1 := HR0.out.fr hxb (by simp)
 have rc := hr1.cell_ (i := 0) rfl
 have rlt := hr1.lt
 have rfz := hr1.frozen 0
 have HR1 := Lib.hid hr1
 have HX1 := Lib.hid (HX.out.fr hxb (by simp))
 clear hg8 HZ1 hxb hr1
 rcases HV1.out with rfl | ⟨t1, p1, f1, rfl, rfl, hp1, hfd1, hfa1, hrep, hmem, hends⟩
 ·go_wp2_with fail
  have rc2 : (w1c.setCell ⟨rbx, 0, none⟩ (.bool true)).cell? ⟨rbx, 0, none⟩ = some (.bool true) := (HR1.out.put 0 (.bool true)).cell_ (i := 0) rfl
  refine ⟨.bool true, ?_, rfl, HF1.out.setCell (.inr (by have := HRB.out; show w.heap.size ≤ rbx; omega)) _⟩
  simp [results, Try.results4, go_sem, rc2]
 by_cases gm : 60 < M
 ·have gmI : (60 : Int) < (M : Int) := by omega
  go_wp2_with fail
  have rc2 : (w1c.setCell ⟨rbx, 0, none⟩ (.bool true)).cell? ⟨rbx, 0, none⟩ = some (.bool true) := (HR1.out.put 0 (.bool true)).cell_ (i := 0) rfl
  refine ⟨.bool true, ?_, rfl, HF1.out.setCell (.inr (by have := HRB.out; show w.heap.size ≤ rbx; omega)) _⟩
  simp [results, Try.results4, go_sem, rc2]
 have gmI : ¬ ((60 : Int) < (M : Int)) := by omega
 have hE := hends tx (by have := HM.out; omega)
 have hfi := hfa1.fr HFc1.out
 have hmm := hmem.fr_nil HFc1.out
 obtain ⟨PC, hPC⟩ : ∃ PC, PC = p1.rcells := ⟨_, rfl⟩
 have hPL : PC.length = 260 := by rw [hPC]; exact rcells_len p1
 obtain ⟨FL, hFL⟩ : ∃ FL, FL = findsS (progT t1) tx := ⟨_, rfl⟩
 obtain ⟨SP, hSP⟩ : ∃ SP, SP = splitS (progT t1) tx := ⟨_, rfl⟩
 obtain ⟨S, hS⟩ : ∃ S, S = (⟨tx.toArray⟩ : ByteArray) := ⟨_, rfl⟩
 have hq1 : ∀ W, Fr [] w1c W → ∀ V, Fr [] W V → Calls Try.prog 18 #[.agg PC.toArray, .string S] V fun e w' => ∃ (A : Option Addr) (c : Nat), e = .returned (.slice A FL.length c) ∧ w'.ownsRow V.heap.size 35 3 (.slice A FL.length c) FL.length (FL.flatMap fcell) ∧ Fr [] V w' := fun W hW V hV => by
  rw [hFL, hS]
  exact rfinds_any hPL (by have := HM.out; omega) ⟨hfd1.1, hfd1.2.1⟩ (fun U hU x hx => by
   rw [hPC]
   exact rfind_any (by have := HM.out; omega) hE (hmm.fr_nil (hW.trans (hV.trans hU))) hx (fndP_of hp1 hrep ⟨hfd1.1, hfd1.2.1⟩ hx))
 have hq2 : ∀ W, Fr [] w1c W → Calls Try.prog 21 #[.agg PC.toArray, .string S] W fun e w' => ∃ (A : Option Addr) (c : Nat), e = .returned (.slice A SP.length c) ∧ w'.ownsRow W.heap.size 9 1 (.slice A SP.length c) SP.length (strs SP) ∧ Fr [] W w' := fun W hW => by
  have h := hq1 W hW
  rw [hFL, hS] at h
  rw [hSP, hS]
  exact rsplit_any hPL (by have := HM.out; omega) ⟨hfd1.1, hfd1.2.1⟩ h
 have hq3 : ∀ W, Fr [] w1c W → Calls Try.prog 20 #[.pointer (some ⟨f1, 0, none⟩), .slice D M cd] W (SplitPost W SP) := fun W hW =>
  split_at M HM.out.symm SP hSP.symm (hfi.fr hW) hfd1 (HT.out.fr (HF1.out.trans hW) (by simp)) HTN.out (by have := HTC.out; have := HM.out; omega) (by omega)
 have HQ1 := Lib.hid hq1; have HQ2 := Lib.hid hq2; have HQ3 := Lib.hid hq3; have HFI := Lib.hid hfi; have HD := Lib.hid hfd1; have HFL := Lib.hid hFL; have HS := Lib.hid hS
 rw [← hPC] at HZ2
 clear hp1 hfd1 hfa1 hrep hmem hends hE hfi hmm hPC hFL hSP hS hq1 hq2 hq3 HV1
 go_upto_region 6 with fail
 clear gmI
 obtain ⟨m, hm⟩ : ∃ m, m = FL.length := ⟨_, rfl⟩
 have HQF := Lib.hid (HQ1.out w1c (Fr.refl _ _) w1c (Fr.refl _ _))
 rw [← hm] at HQF
 have HMF := Lib.hid hm
 clear hm
 go_upto_region 7 with (first
  | (refine wpList_load_bk rfl 29 _ rfl g8 0 rfl PC _ _ _ HZ2.out (by intro j u hj; rw [Nat.zero_add, List.getElem?_toArray]; exact hj) Try.underlying29 rfl (by rw [hPL]; exact rp_size) ?_)
  | (refine wpList_str rfl 22 9 (.tmp 31) rfl 5 Try.underlying22 Try.underlying5 Try.underlying9 D M cd (by first | rfl | (simp [Act.eval]; done)) tx (HT.out.fr HF1.out (by simp)) HM.out.symm ?_; rw [← HS.out])
  | (go_at_call 18; refine HQF.out.mono ?_; rintro e w2 ⟨FA, fc, rfl, hfo, hf⟩; have HFO := Lib.hid hfo; have HF2 := Lib.hid hf; clear hfo hf))
 go_upto_region 8 with fail
 obtain ⟨w3, hw3⟩ : ∃ w3, w3 = (w2.alloc (.cells #[.slice FA m fc] 40)).alloc (.cells #[.int .i64 0] 3) := ⟨_, rfl⟩
 have h23 : Fr [] w2 w3 := by rw [hw3]; exact ((Fr.refl [] w2).alloc _).alloc _
 have hl0 : Bk w3 w2.heap.size 40 #[.slice FA m fc] := by rw [hw3]; exact (Bk.new w2 _ _).alloc _
 have hn0 : Bk w3 (w2.heap.size + 1) 3 #[.int .i64 0] := by
  rw [hw3]
  have := Bk.new (w2.alloc (.cells #[.slice FA m fc] 40)) 3 #[.int .i64 0]
  rw [World.size_alloc] at this
  exact this
 rw [← hw3]
 obtain ⟨lbx, hlb⟩ : ∃ x, x = w2.heap.size := ⟨_, rfl⟩
 obtain ⟨nbx, hnb⟩ : ∃ x, x = w2.heap.size + 1 := ⟨_, rfl⟩
 rw [← hnb, ← hlb]
 rw [← hnb] at hn0
 rw [← hlb] at hl0
 have h13 : Fr [] w1c w3 := HF2.out.trans h23
 have hx3 : Fr [] w w3 := HF1.out.trans h13
 have hfa := Finds_any (fb := f1) (HT.out.fr hx3 (by simp)) HTN.out HTC.out (by have := HM.out; omega)
 rw [← HM.out] at hfa
 have hfbl : ∀ x, (Value.slice FA m fc).ownBlock = some x → x < w2.heap.size := fun x hx => by
  obtain ⟨-, cur, hc⟩ := own_base HFO.out x hx
  exact hc.lt
 have HSZ : Hid (w3.heap.size = w2.heap.size + 1 + 1) := Lib.hid (by rw [hw3]; simp)
 have HFA := Lib.hid hfa; have HL0 := Lib.hid hl0; have HN0 := Lib.hid hn0; have HLB := Lib.hid hlb; have HNB := Lib.hid hnb; have H13 := Lib.hid h13; have HX3 := Lib.hid hx3; have HFBL := Lib.hid hfbl; have H23 := Lib.hid h23
 clear hw3 hfa hl0 hn0 hlb hnb h13 hx3 hfbl h23 rc rlt rfz
 go_wp2_with fail
 go_at_call 19
 refine HFA.out.mono ?_
 rintro e w5 ⟨fbx, kbx, A3, c3, rfl, hfbx, hkbx, hb3, hle3, hbd3, hf3, hkl⟩
 have hs5 := hf3.size
 have hsz3 : w3.heap.size = w2.heap.size + 1 + 1 := HSZ.out
 have hkb5 := World.block_lt_of_cell? _ _ hkbx
 dsimp only at hkb5
 have h15 : Fr [] w1c w5 := H13.out.trans hf3
 have hkeep : ∀ W, Fr [nbx] w5 W → Fr [] w1c W ∧ W.cell? ⟨lbx, 0, none⟩ = some (.slice FA m fc) ∧ W.ownsRow w1c.heap.size 35 3 (.slice FA m fc) m (FL.flatMap fcell) ∧ Bk W stx 3 #[.int .i64 F] ∧ Bk W rbx 4 #[.bool false] := by
  intro W hW
  have h3 : Fr [nbx] w3 W := (hf3.nil_ (l := [nbx])).trans hW
  have e1 := HLB.out; have e2 := HNB.out; have e3 := HSX.out; have e4 := HRB.out
  have hs1 := HF1.out.size; have hs2 := HF2.out.size
  have hx1 := HX1.out.lt; have hr1 := HR1.out.lt
  refine ⟨h15.trans' hW (fun b hb => .inr (by simp at hb; omega)), (HL0.out.fr h3 (by simp; omega)).cell_ (i := 0) rfl, own_fr (own_keep HFO.out (KeepB.of_nil H23.out)) h3 (fun b hb hm => by have := HFBL.out b hb; simp at hm; omega), (HX1.out.fr H13.out (by simp)).fr h3 (by simp; omega), (HR1.out.fr H13.out (by simp)).fr h3 (by simp; omega)⟩
 have hN5 := HN0.out.fr hf3 (by simp)
 have hnbl := hN5.lt
 have hord := findsS_ord (tx := tx) HD.out.1 HD.out.2.1
 rw [← HFL.out] at hord
 have hm62 : m ≤ 62 := by have := hord.2.2; have := HMF.out; have := HM.out; omega
 have HFBX := Lib.hid hfbx; have HKBX := Lib.hid hkbx; have HB3 := Lib.hid hb3; have HLE3 := Lib.hid hle3; have HBD3 := Lib.hid hbd3; have HF3 := Lib.hid hf3; have HKL := Lib.hid hkl; have HKEEP := Lib.hid hkeep; have HN5 := Lib.hid hN5; have HORD := Lib.hid hord
 have HFI5 := Lib.hid (HFI.out.fr h15)
 clear hfbx hkbx hb3 hle3 hbd3 hf3 hkl hkeep hN5 hord HFA h15
 go_wp2_with fail
 refine wp_rangeFinds (fbx := fbx) (kbx := kbx) (fb := f1) (L := progT t1) (A2 := A3) (tx := tx) (c2 := c3) rfl rfl HFBX.out HKBX.out HFI5.out HB3.out HLE3.out HBD3.out HD.out.2.1 HD.out.2.2 HD.out.1 (by have := HM.out; omega)
  (fun St k W => AlI w5 nbx St k W) (fun St c W => c = .exit 0 ∧ ∃ k : Nat, (k : Int) = F ∧ k ≤ m ∧ AlI w5 nbx St k W) ?hI0 ?hfr ?hfx ?round ?done ?stop
 case hI0 =>
  intro St W' hf hSt
  exact ⟨hf.nil_, fun b hb => (hSt b hb).1, HN5.out.fr hf (by simp)⟩
 case hfr =>
  rintro St St' k W1 W2 h1 hf hS
  exact h1.far hnbl hf hS
 case hfx =>
  rintro St c W1 W2 ⟨hc, k, hk, hkm, h1⟩ hf
  exact ⟨hc, k, hk, hkm, h1.far hnbl hf (fun b hb => .inl hb)⟩
 case round =>
  rintro St l k ⟨s, e⟩ W hl hSt hW2 hx h1
  rw [← HFL.out] at hx
  dsimp only
  gi_wp2
  refine ⟨Fr.refl [] W, fun W2 hf2 => ?_⟩
  have h2 := h1.far hnbl (hf2.mono (by simp; exact .inl hl)) (fun b hb => .inl hb)
  have hSt2 : ∀ b ∈ St, b < W2.heap.size := fun b hb => Nat.lt_of_lt_of_le (hSt b hb).2 hf2.size
  have hkm : k < m := by rw [HMF.out]; exact (List.getElem?_eq_some_iff.1 hx).1
  obtain ⟨k0, k1, k2, k3, k4⟩ := HKEEP.out W2 h2.fr
  obtain ⟨FB, rfl, -, -, hcl⟩ := own_cells k2 (fun h0 => by
   have h1 := flat_len fcell_len FL
   rw [h0] at h1
   have := HMF.out; simp at h1; omega)
  have e0 := hcl (k * 3 + 0) _ (flat_at fcell_len _ 0 (by omega) FL k hx)
  have e1 := hcl (k * 3 + 1) _ (flat_at fcell_len _ 1 (by omega) FL k hx)
  rw [Nat.add_zero] at e0
  have cn := h2.nb.cell_ (i := 0) rfl
  have zn := h2.nb.lt
  have fn := h2.nb.frozen 0
  have cst := k3.cell_ (i := 0) rfl
  have hns : nbx ≠ stx := by have := HNB.out; have := HSX.out; have := HX1.out.lt; have := HF2.out.size; omega
  have hkI : ¬ ((m : Int) ≤ (k : Int)) := by omega
  have hkmI : (k : Int) < (m : Int) := by omega
  have HK3 := Lib.hid k3
  have H2 := Lib.hid h2; have HST2 := Lib.hid hSt2
  clear h1 h2 hSt hSt2 hf2 hx hW2 hl hcl k0 k2 k3 k4
  have hf3 : Fr [nbx] W2 (W2.setCell ⟨nbx, 0, none⟩ (.int .i64 ((k : Int) + 1))) := (Fr.refl _ W2).setCell (.inl (by simp)) _
  obtain ⟨q1, q2, q3⟩ := H2.out.step (kbx := kbx) hnbl hkb5 (by have := HKL.out; have := HNB.out; omega) HST2.out hf3 (by
   have h := H2.out.nb.put 0 (.int .i64 ((k : Int) + 1))
   rw [show ((k + 1 : Nat) : Int) = (k : Int) + 1 by omega]
   exact h) (w5.heap.size + 2)
  have Q1 := Lib.hid q1; have Q2 := Lib.hid q2; have Q3 := Lib.hid q3
  clear q1 q2 q3 hf3
  by_cases hb : (k : Int) + 1 = F
  ·have hbI : ((k : Int) + 1 == F) = true := by simpa using hb
   have HB := Lib.hid hb
   clear hb
   gi_wp2
   exact ⟨Q1.out, rfl, k + 1, by rw [← HB.out]; omega, hkm, Q3.out⟩
  ·have hbI : ((k : Int) + 1 == F) = false := by simpa using hb
   have HB := Lib.hid hb
   clear hb
   gi_wp2
   exact ⟨Q1.out, Q2.out, Q3.out⟩
 case' done =>
  rintro D2 St wq hD hSt h1 hd hW3
  rw [← HFL.out, ← HMF.out] at h1
  obtain ⟨k, hk⟩ : ∃ k, k = m := ⟨_, rfl⟩
  rw [← hk] at h1
  have hkm : k ≤ m := by omega
  have hkor : k = m ∨ (k : Int) = F := .inl hk
  clear hk hW3
 case' stop =>
  rintro D2 c St wq hD hSt ⟨rfl, k, hkF, hkm, h1⟩ hd
  have hkor : k = m ∨ (k : Int) = F := .inr hkF
  clear hkF
 all_goals
  have h2 := h1.far hnbl (Fr.refl St wq) (St' := [D2]) (fun b hb => .inl (by simp at hb; rw [hb]; exact hD))
  have hD5 := hSt D2 hD
  have hDl := (Array.getElem?_eq_some_iff.1 hd).1
  obtain ⟨k0, k1, k2, k3, k4⟩ := HKEEP.out wq h2.fr
  have hDr : D2 ≠ rbx := by have := HR1.out.lt; have := H13.out.size; omega
  have cn := h2.nb.cell_ (i := 0) rfl
  have cst := k3.cell_ (i := 0) rfl
  have HDD := Lib.hid hd; have HRR := Lib.hid k4; have HF1q := Lib.hid k0; have HKOR := Lib.hid hkor
  clear h1 h2 hd hD hSt k0 k2 k3 k4 hkor
  by_cases hkm2 : k = m
  case' pos =>
   have hnI : ((k : Int) != (m : Int)) = false := by simp [hkm2]
   have HKM := Lib.hid hkm2
   clear hkm2
   go_upto_region 17 with fail
  case' neg =>
   have hnI : ((k : Int) != (m : Int)) = true := by simp; omega
   have hkF : (k : Int) = F := by rcases HKOR.out with h | h <;> omega
   have hfI : ((k : Int) != F) = false := by simp [hkF]
   have HKM := Lib.hid hkm2; have HKF := Lib.hid hkF
   clear hkm2 hkF
   go_upto_region 17 with fail
  all_goals
   clear cn cst
   obtain ⟨wd, hwd⟩ : ∃ wd, wd = wq.drew := ⟨_, rfl⟩
   have hfd : Fr [] wq wd := by rw [hwd]; exact (Fr.refl [] wq).drew
   have h1d := HF1q.out.trans hfd
   have hrg : ∀ W, Fr [] wd W → W.rangeAt g8 0 PC := fun W hW j v hv => by
    rw [Nat.zero_add]
    exact (HZ2.out.fr (h1d.trans hW) (by simp)).cellL hv
   have hby : ∀ W, Fr [] wd W → At W D (byteVals tx) := fun W hW => HT.out.fr (HF1.out.trans (h1d.trans hW)) (by simp)
   have hq2 := fun W hW => HQ2.out W (h1d.trans hW)
   have hq3 := fun W hW => HQ3.out W (h1d.trans hW)
   obtain ⟨sp, hsp⟩ : ∃ n, n = SP.length := ⟨_, rfl⟩
   rw [← hsp] at hq2
   have HRG := Lib.hid hrg; have HBW := Lib.hid hby; have HC2 := Lib.hid hq2; have HC3 := Lib.hid hq3; have HSPN := Lib.hid hsp; have HFD := Lib.hid hfd; have H1D := Lib.hid h1d
   clear hrg hby hq2 hq3 hsp hfd h1d
   refine wp_region_M_ (G := fun a b => Fr [] a b) (S := fun W => Fr [] wd W) ⟨fun _ => Fr.refl _ _, fun a b c h k => h.trans k, fun a b h k => h.trans k, by kernel_rfl, fun _ _ d _ _ h => by cases d <;> exact h⟩ (by kernel_rfl) fun su => ?_
   have SU := Lib.hid su
   rw [← hwd]
   have HS' : Hid (Fr [] wd wd) := Lib.hid (Fr.refl _ _)
   clear su hwd
   refine M_move (i := 0) _ SU.out rfl rfl (by kernel_rfl) HS'.out rfl ?_
   simp only [Act.put, Act.eval, PE]
   refine M_move (i := 1) _ SU.out rfl rfl (by kernel_rfl) HS'.out rfl ?_
   simp only [Act.put, Act.eval, PE]
   refine M_row (i := 3) 29 (.tmp 8) SU.out rfl rfl g8 0 (by first | rfl | (simp [Act.eval]; done)) PC _ HRG.out Try.underlying29 rfl (by rw [hPL]; exact rp_size) (by kernel_rfl) HS'.out rfl ?_
   simp only [Act.put, PU]
   refine M_move (i := 4) _ SU.out rfl rfl (by kernel_rfl) HS'.out rfl ?_
   simp only [Act.put, Act.eval, PE]
   refine M_strg (i := 5) 22 9 (.tmp 79) SU.out rfl rfl 5 Try.underlying22 Try.underlying5 Try.underlying9 D M cd (by first | rfl | (simp [Act.eval]; done)) tx HBW.out HM.out.symm (by kernel_rfl) HS'.out rfl ?_
   rw [← HS.out]
   simp only [Act.put, PU]
   refine wpAnyM_all (rs := [2]) (by kernel_rfl) (by simp) (fun wx hG => ?_)
   have HGX := Lib.hid hG
   clear hG
   refine allM.head rfl rfl (fun K9 hK9 => ?_) allM.nil
   refine wp_call_ (f := 20) (args := #[.pointer (some ⟨f1, 0, none⟩), .slice D M cd]) (R := fun v V => ∃ A c es, v = .slice A sp c ∧ V.ownsRow w.heap.size 22 1 (.slice A sp c) sp es ∧ PartsV V (fun _ => True) es SP ∧ Fr [] wd V) (by go_simp; first | done | rfl) ?_ ?_
   ·refine (HC3.out wx HGX.out).mono ?_
    rintro e V ⟨GA, gc, es, he, h1, h2, h3⟩
    rw [← HSPN.out] at he h1
    exact ⟨_, he, GA, gc, es, rfl, own_rebase h1 (fun x hx => by have := (own_base h1 x hx).1; have := HF1.out.size; have := (H1D.out.trans HGX.out).size; omega), h2.fr (Fr.refl [] V) (fun _ _ _ => ⟨by simp, trivial⟩), HGX.out.trans h3⟩
   rintro v w6 ⟨GA, gc, es, rfl, hgo, hgp, hgf⟩
   have HGO := Lib.hid hgo; have HGP := Lib.hid hgp; have HGF := Lib.hid hgf
   refine hK9.out _ _ hgf ?_
   clear hK9 K9 hgo hgp hgf HGX
   simp only [Act.put, PU]
   refine wpAnyM_all (rs := [6]) (by kernel_rfl) (by simp) (fun wy hG => ?_)
   have HGY := Lib.hid hG
   clear hG
   refine allM.head rfl rfl (fun K9 hK9 => ?_) allM.nil
   refine wp_call_ (f := 21) (args := #[.agg PC.toArray, .string S]) (R := fun v V => ∃ A c, v = .slice A sp c ∧ V.ownsRow w.heap.size 9 1 (.slice A sp c) sp (strs SP) ∧ Fr [] w6 V) (by go_simp; first | done | rfl) ?_ ?_
   ·refine (HC2.out wy (HGF.out.trans HGY.out)).mono ?_
    rintro e V ⟨RA, rc, he, h1, h3⟩
    exact ⟨_, he, RA, rc, rfl, own_rebase h1 (fun x hx => by have := (own_base h1 x hx).1; have := HF1.out.size; have := (H1D.out.trans (HGF.out.trans HGY.out)).size; omega), HGY.out.trans h3⟩
   rintro v w8 ⟨RA, rc, rfl, hro, hrf⟩
   have HRO := Lib.hid hro; have HRF := Lib.hid hrf; have HS8 : Hid (Fr [] wd w8) := Lib.hid (HGF.out.trans hrf)
   refine hK9.out _ _ HS8.out ?_
   clear hK9 K9 hro hrf HGY HS'
   simp only [Act.put, PU]
   refine M_val (i := 7) (v := ?_) SU.out rfl (by kernel_rfl) HS8.out rfl (fun W hS => ?_) ?_
   rotate_left
   ·obtain hS2 := hS
    go_simp
    first | done | rfl | omega | (exact IntWalk.i64_in _ (by omega)) | (simp; done) | (simp; omega)
   simp only [Act.put, PU]
   refine M_val (i := 8) (v := ?_) SU.out rfl (by kernel_rfl) HS8.out rfl (fun W hS => ?_) ?_
   rotate_left
   ·obtain hS2 := hS
    go_simp
    first | done | rfl | omega | (exact IntWalk.i64_in _ (by omega)) | (simp; done) | (simp; omega)
   simp only [Act.put, PU]
   refine wpAnyM_done (by kernel_rfl) (fun w9 hG => ?_)
   have h69 : Fr [] w6 w9 := HRF.out.trans hG
   have hgo9 := own_keep HGO.out (KeepB.of_nil h69)
   have hgp9 := HGP.out.fr h69 (K' := fun _ => True) (fun _ _ _ => ⟨by simp, trivial⟩)
   have hro9 := own_keep HRO.out (KeepB.of_nil hG)
   have hq9 : Fr [] wq w9 := HFD.out.trans (HGF.out.trans h69)
   have hlen : es.length = SP.length := by have := hgo9.1; have := HSPN.out; omega
   have hd9 : w9.heap[D2]? = some (.deferred (some [])) := (hq9.block D2 hDl (by simp)).trans HDD.out
   have hr9 := HRR.out.fr hq9 (by simp)
   have HGO9 := Lib.hid hgo9; have HGP9 := Lib.hid hgp9; have HRO9 := Lib.hid hro9; have HQ9 := Lib.hid hq9; have HD9 := Lib.hid hd9; have HR9 := Lib.hid hr9; have HLEN := Lib.hid hlen
   have hspb : sp ≤ 9223372036854775807 := by
    obtain ⟨h1, ⟨h2, h3⟩ | ⟨g, cap', cur, h2, h0, hb, h3, h4, h5, h6⟩⟩ := hro9
    ·omega
    ·unfold maxLen at h4; omega
   clear hG h69 hgo9 hgp9 hro9 hq9 hlen hd9 hr9 HGO HGP HRO HRF HS8 SU
   go_upto_region 20 with fail
   go_wp2_with fail
   go_loopw [15] (fun v15 wr => ∃ i : Nat, v15 = .int .i64 (i : Int) ∧ i ≤ sp ∧ Fr [] w9 wr) (fun v15 _ => sp + 1 - (intOf v15).toNat)
   case atStart => exact ⟨0, rfl, Nat.zero_le _, Fr.refl _ _⟩
   case round =>
    obtain ⟨i, rfl, hi, hfr⟩ := hrel
    have HFR := Lib.hid hfr
    clear hfr
    rcases Nat.lt_or_ge i sp with hin | hin
    ·have hinI : (i : Int) < (sp : Int) := by omega
     obtain ⟨p, hp⟩ : ∃ p, SP[i]? = some p := ⟨SP[i]'(by rw [← HSPN.out]; exact hin), List.getElem?_eq_getElem _⟩
     obtain ⟨wz, hwz⟩ : ∃ wz, wz = wr.drew := ⟨_, rfl⟩
     have hfz : Fr [] w9 wz := by rw [hwz]; exact HFR.out.drew
     obtain ⟨PA, pc, e1, e2, -⟩ := (HGP9.out.fr hfz (K' := fun _ => True) (fun _ _ _ => ⟨by simp, trivial⟩)) i p hp
     obtain ⟨GB, rfl, -, -, hcl⟩ := own_cells (own_keep HGO9.out (KeepB.of_nil hfz)) (fun h0 => by rw [h0] at e1; cases e1)
     have e3 : (strs SP)[i]? = some (.string ⟨p.toArray⟩) := by unfold strs; rw [List.getElem?_map, hp]; rfl
     obtain ⟨RB, rfl, -, -, hcr⟩ := own_cells (own_keep HRO9.out (KeepB.of_nil hfz)) (fun h0 => by rw [h0] at e3; cases e3)
     have t0 := hcl i _ e1
     have t1' := hcr i _ e3
     obtain ⟨pl, hpl⟩ : ∃ n, n = p.length := ⟨_, rfl⟩
     rw [← hpl] at t0
     obtain ⟨S1, hS1⟩ : ∃ S, S = (⟨p.toArray⟩ : ByteArray) := ⟨_, rfl⟩
     rw [← hS1] at t1'
     have HPL := Lib.hid hpl; have HS1 := Lib.hid hS1; have HE2 := Lib.hid e2; have HFZ := Lib.hid hfz
     clear hp hfz e1 e2 e3 hcl hcr hpl hS1
     go_upto_region 23 with fail
     refine wp_region_M_ (G := fun a b => a = b) (S := fun W => W = wr.drew) ⟨fun _ => rfl, fun a b c h k => h.trans k, fun a b h k => k ▸ h, by kernel_rfl, fun _ _ d _ _ h => by cases d <;> exact h⟩ (by kernel_rfl) fun su => ?_
     have SU := Lib.hid su
     rw [← hwz]
     have HSz : Hid (wz = wz) := Lib.hid rfl
     rw [← hwz] at SU
     clear su hwz
     refine M_move (i := 0) _ SU.out rfl rfl (by kernel_rfl) HSz.out rfl ?_
     simp only [Act.put, Act.eval, PE]
     refine M_move (i := 1) _ SU.out rfl rfl (by kernel_rfl) HSz.out rfl ?_
     simp only [Act.put, Act.eval, PE]
     refine M_val (i := 2) (v := .pointer (some ⟨GB, i, none⟩)) SU.out rfl (by kernel_rfl) HSz.out rfl (fun W hS => ?_) ?_
     ·obtain rfl := hS
      go_simp
      first | done | rfl | omega | (exact IntWalk.i64_in _ (by omega)) | (simp; done) | (simp; omega)
     simp only [Act.put, PU]
     refine M_val (i := 3) (v := .slice PA pl pc) SU.out rfl (by kernel_rfl) HSz.out rfl (fun W hS => ?_) ?_
     ·obtain rfl := hS
      go_simp
      first | done | rfl | omega | (exact IntWalk.i64_in _ (by omega)) | (simp; done) | (simp; omega)
     simp only [Act.put, PU]
     refine M_strg (i := 4) 22 9 (.tmp 96) SU.out rfl rfl 5 Try.underlying22 Try.underlying5 Try.underlying9 PA pl pc (by first | rfl | (simp [Act.eval]; done)) p (fun W hS => by rw [hS]; exact HE2.out) HPL.out.symm (by kernel_rfl) HSz.out rfl ?_
     rw [← HS1.out]
     simp only [Act.put, PU]
     refine M_move (i := 5) _ SU.out rfl rfl (by kernel_rfl) HSz.out rfl ?_
     simp only [Act.put, Act.eval, PE]
     refine M_move (i := 6) _ SU.out rfl rfl (by kernel_rfl) HSz.out rfl ?_
     simp only [Act.put, Act.eval, PE]
     refine M_val (i := 7) (v := .pointer (some ⟨RB, i, none⟩)) SU.out rfl (by kernel_rfl) HSz.out rfl (fun W hS => ?_) ?_
     ·obtain rfl := hS
      go_simp
      first | done | rfl | omega | (exact IntWalk.i64_in _ (by omega)) | (simp; done) | (simp; omega)
     simp only [Act.put, PU]
     refine M_val (i := 8) (v := .string S1) SU.out rfl (by kernel_rfl) HSz.out rfl (fun W hS => ?_) ?_
     ·obtain rfl := hS
      go_simp
      first | done | rfl | omega | (exact IntWalk.i64_in _ (by omega)) | (simp; done) | (simp; omega)
     simp only [Act.put, PU]
     refine M_val (i := 9) (v := .bool false) SU.out rfl (by kernel_rfl) HSz.out rfl (fun W hS => ?_) ?_
     ·obtain rfl := hS
      go_simp
      first | done | rfl | omega | (exact IntWalk.i64_in _ (by omega)) | (simp; done) | (simp; omega)
     simp only [Act.put, PU]
     refine wpAnyM_done (by kernel_rfl) (fun w' hG => ?_)
     obtain rfl := hG
     go_wp2_with fail
     go_roundw
     case rel => exact ⟨i + 1, by go_num, by omega, HFZ.out⟩
     case measure => first | (simp [intOf]; done) | (simp [intOf]; omega)
    ·have hinI : ¬ ((i : Int) < (sp : Int)) := by omega
     have hr := HR9.out.fr HFR.out (by simp)
     have hd := (HFR.out.block D2 (Array.getElem?_eq_some_iff.1 HD9.out).1 (by simp)).trans HD9.out
     obtain ⟨y1, y2, y3⟩ := end_cell2 hr hd ((HF1.out.trans HF1q.out).trans (HQ9.out.trans HFR.out)) (by have := HRB.out; omega) (by have := HX3.out.size; omega) hDr
     have rlt := hr.lt; have rfz := hr.frozen 0; have rcl := hr.cell_ (i := 0) rfl
     clear hr hd
     go_wp2_with fail
     refine ⟨by simp, .inl ⟨_, _, rfl, run_takeDeferred y1, ⟨.bool true, ?_, rfl, y3⟩⟩⟩
     simp [results, Try.results4, go_sem, y2]
set_option maxRecDepth 100000 in
theorem matchAll_open {H : Type} {enc : TypeId × Value → H} (W : World) (base : Nat) (v0 : Value) (d0 : DataW H) (p0 : List MemPlace) (v1 : Value) (d1 : DataW H) (p1 : List MemPlace) (v2 : Value) (d2 : DataW H) (p2 : List MemPlace)
    (k0 : Value.okWide Try.prog W .any base 22 v0) (k1 : Value.okWide Try.prog W .any base 22 v1) (k2 : Value.okWide Try.prog W .any base 3 v2)
    (h0 : DataW.Trod enc Try.prog W 0 (fun _ => true) true 22 v0 d0 p0) (h1 : DataW.Trod enc Try.prog W 0 (fun _ => true) true 22 v1 d1 p1) (h2 : DataW.Trod enc Try.prog W 0 (fun _ => true) true 3 v2 d2 p2) (hg : GlobOk W) :
    Calls Try.prog 4 #[v0, v1, v2] W fun e W' => e = .returned (.bool true) ∧ Below W.heap.size W W' := by
 obtain ⟨A1, c1, b1, rfl, g1, g2, g3, g4⟩ := arg_bytes k0 h0
 obtain ⟨A2, c2, b2, rfl, f1, f2, f3, f4⟩ := arg_bytes k1 h1
 obtain ⟨n2, rfl, hn2⟩ := arg_int Try.underlying3 k2 h2
 exact (matchAll_walk hg g4 g1 g3 g2 f4 f1 f3 (fun a ha => by subst ha; exact arg_lt k1) n2).mono fun e W' ⟨h1, h2⟩ => ⟨h1, h2.below_nil⟩
end Go.Proofs.Ytekfpipgcpkejaa
