/-
  The law MatchParts. No conditions but the frame's. (Printed by a program of the prover's.)
-/
import Derived.Test.YtekfpipgcpkejaaGo
import Derived.Test.YtekfpipgcpkejaaArg
import Derived.Test.YtekfpipgcpkejaaPtQ
namespace Go.Proofs.Ytekfpipgcpkejaa
open Go.RowKit Go.Shelf
attribute [local go_sem] Oper.semAt_some
set_option linter.unusedVariables false
set_option linter.unusedSimpArgs false

theorem end_cell {w wq : World} {rbx D2 : Nat} (hr : Bk wq rbx 4 #[.bool false]) (hd : wq.heap[D2]? = some (.deferred (some []))) (hf : Fr [] w wq) (h1 : w.heap.size ≤ rbx) (h2 : w.heap.size ≤ D2) (hne : D2 ≠ rbx) :
    (wq.setCell ⟨rbx, 0, none⟩ (.bool true)).heap[D2]? = some (.deferred (some [])) ∧ ((wq.setCell ⟨rbx, 0, none⟩ (.bool true)).putObj D2 (.deferred none)).cell? ⟨rbx, 0, none⟩ = some (.bool true) ∧ Fr [] w ((wq.setCell ⟨rbx, 0, none⟩ (.bool true)).putObj D2 (.deferred none)) := by
  have hs : Fr [rbx] wq (wq.setCell ⟨rbx, 0, none⟩ (.bool true)) := (Fr.refl _ wq).setCell (.inl (by simp)) _
  have hp : Fr [D2] (wq.setCell ⟨rbx, 0, none⟩ (.bool true)) ((wq.setCell ⟨rbx, 0, none⟩ (.bool true)).putObj D2 (.deferred none)) := fr_put _
  refine ⟨(hs.block D2 (Array.getElem?_eq_some_iff.1 hd).1 (by simpa using hne)).trans hd, ((hr.put 0 (.bool true)).fr hp (by simpa using hne.symm)).cell_ (i := 0) rfl, (hf.trans' hs (fun b hb => .inr (by simp at hb; omega))).trans' hp (fun b hb => .inr (by simp at hb; omega))⟩
set_option maxRecDepth 100000 in
set_option maxHeartbeats 16000000 in
theorem matchParts_walk {w : World} (hg : GlobOk w) {A D : Option Addr} {a tx : List UInt8} {ca cd : Nat} (ha : Bytes w A a) (hac : a.length ≤ ca) (hna : A = none → ca = 0) (hma : ca ≤ maxLen) (ht : Bytes w D tx) (htc : tx.length ≤ cd) (htn : D = none → cd = 0) (htl : ∀ x, D = some x → x.block < w.heap.size) :
    Calls Try.prog 5 #[.slice A a.length ca, .slice D tx.length cd] w fun e w' => e = .returned (.bool true) ∧ Fr [] w w' := by
  obtain ⟨la, hla⟩ : ∃ L, L = a.length := ⟨_, rfl⟩
  obtain ⟨M, hM⟩ : ∃ M, M = tx.length := ⟨_, rfl⟩
  have HG := Lib.hid hg; have HA := Lib.hid ha; have HAC := Lib.hid hac; have HNA := Lib.hid hna; have HMA := Lib.hid hma; have HT := Lib.hid ht; have HTC := Lib.hid htc; have HTL := Lib.hid htl; have HTN := Lib.hid htn
  have Hla := Lib.hid hla; have HM := Lib.hid hM
  rw [← hla, ← hM]
  clear hg ha hac hna hma ht htc htl htn hla hM
  refine calls_marks Try.func5 rfl ?_
  simp only [Try.ntmps5, List.size_toArray, List.length_cons, List.length_nil, Nat.reduceAdd, Nat.reduceSub, Array.replicate_succ, Array.replicate_zero, List.push_toArray, List.append_toArray, List.nil_append, List.cons_append]
  go_upto_region 1 with fail
  obtain ⟨wb, hwb⟩ : ∃ wb, wb = (w.alloc (.cells #[.slice D M cd] 22)).alloc (.cells #[.bool false] 4) := ⟨_, rfl⟩
  have hfb : Fr [] w wb := by rw [hwb]; exact ((Fr.refl [] w).alloc _).alloc _
  have ht0 : Bk wb w.heap.size 22 #[.slice D M cd] := by rw [hwb]; exact (Bk.new w _ _).alloc _
  have hr0 : Bk wb (w.heap.size + 1) 4 #[.bool false] := by
    rw [hwb]
    have := Bk.new (w.alloc (.cells #[.slice D M cd] 22)) 4 #[.bool false]
    rw [World.size_alloc] at this
    exact this
  rw [← hwb]
  obtain ⟨tbx, htb⟩ : ∃ x, x = w.heap.size := ⟨_, rfl⟩
  obtain ⟨rbx, hrb⟩ : ∃ x, x = w.heap.size + 1 := ⟨_, rfl⟩
  rw [← hrb, ← htb]
  rw [← hrb] at hr0
  rw [← htb] at ht0
  have HFB := Lib.hid hfb; have HT0 := Lib.hid ht0; have HR0 := Lib.hid hr0; have HTB := Lib.hid htb; have HRB := Lib.hid hrb
  clear hwb hfb ht0 hr0 htb hrb
  go_upto_region 3 with (go_at_call 12; refine (awake_any (HG.out.fr HFB.out)).mono ?_; rintro e w0 ⟨rfl, hf⟩; have HF0 := Lib.hid (HFB.out.trans hf); have HX0 := Lib.hid hf; clear hf)
  go_upto_region 4 with (first
      | (go_at_call 13; refine (made_v la Hla.out.symm (HA.out.fr HF0.out (by simp)) (by have := HAC.out; have := Hla.out; omega) HNA.out HMA.out (HG.out.fr HF0.out)).mono ?_; rintro e w1a ⟨v1, C1, rfl, hC, hC1, hf, hv⟩; have HC1 := Lib.hid hC; have HO1 := Lib.hid hC1; have HFa1 := Lib.hid (HF0.out.trans hf); have HF1t := Lib.hid hf; have HV1 := Lib.hid hv; clear hC hC1 hf hv)
      | (refine wpList_alloc_bk rfl 29 rfl zeroPC 260 rp_zero ?_; intro w1b hzA hfA; have HZ1 := Lib.hid hzA; have HFb1 := Lib.hid hfA; clear hzA hfA)
      | (refine wpList_store_bk rfl 29 _ _ rfl w1a.heap.size C1 rfl rfl _ _ HZ1.out (by rw [HC1.out]; exact rp_size) (by rw [HC1.out, List.size_toArray, zeroPC_len]) HO1.out ?_; intro w1c hzS hfS; have HFc1 : Hid (Fr [] w1a w1c) := Lib.hid (HFb1.out.trans' hfS (by simp)); clear hzS hfS; have HF1 := Lib.hid (HFa1.out.trans HFc1.out)))
  have hx1 : Fr [] wb w1c := HX0.out.trans (HF1t.out.trans HFc1.out)
  have tc : w1c.cell? ⟨tbx, 0, none⟩ = some (.slice D M cd) := (HT0.out.fr hx1 (by simp)).cell_ (i := 0) rfl
  have hr1 := HR0.out.fr hx1 (by simp)
  have rc : w1c.cell? ⟨rbx, 0, none⟩ = some (.bool false) := hr1.cell_ (i := 0) rfl
  have rlt := hr1.lt
  have rfz := hr1.frozen 0
  have HX1 := Lib.hid hx1
  clear hx1 hr1
  rcases HV1.out with rfl | ⟨t1, f1, rfl, h60, hp1, hfd1, hfa1⟩
  · go_wp2_with fail
    have rc2 : (w1c.setCell ⟨rbx, 0, none⟩ (.bool true)).cell? ⟨rbx, 0, none⟩ = some (.bool true) := ((HR0.out.fr HX1.out (by simp)).put 0 (.bool true)).cell_ (i := 0) rfl
    refine ⟨.bool true, ?_, rfl, HF1.out.setCell (.inr (by have := HRB.out; show w.heap.size ≤ rbx; omega)) _⟩
    simp [results, Try.results5, go_sem, rc2]
  have HD := Lib.hid hfd1; have HFI := Lib.hid (hfa1.fr HFc1.out)
  clear hfa1 hfd1 hp1 h60 HV1
  by_cases gm : 60 < M
  · have gmI : (60 : Int) < (M : Int) := by omega
    go_wp2_with fail
    have rc2 : (w1c.setCell ⟨rbx, 0, none⟩ (.bool true)).cell? ⟨rbx, 0, none⟩ = some (.bool true) := ((HR0.out.fr HX1.out (by simp)).put 0 (.bool true)).cell_ (i := 0) rfl
    refine ⟨.bool true, ?_, rfl, HF1.out.setCell (.inr (by have := HRB.out; show w.heap.size ≤ rbx; omega)) _⟩
    simp [results, Try.results5, go_sem, rc2]
  have gmI : ¬ ((60 : Int) < (M : Int)) := by omega
  have htx : Bytes w1c D tx := HT.out.fr HF1.out (by simp)
  obtain ⟨SP, hSP⟩ : ∃ SP, SP = splitS (progT t1) tx := ⟨_, rfl⟩
  have hspl := split_at M HM.out.symm SP hSP.symm HFI.out HD.out htx HTN.out (by have := HTC.out; have := HM.out; omega) (by omega)
  have HSPL := Lib.hid hspl; have HSP := Lib.hid hSP
  clear hspl hSP htx
  go_upto_region 6 with fail
  clear gmI
  go_upto_region 7 with (go_at_call 20; refine HSPL.out.mono ?_; rintro e w2 ⟨SA, sc, es, rfl, hso, hsp, hsf⟩; obtain ⟨sn, hsn⟩ : ∃ n, n = SP.length := ⟨_, rfl⟩; rw [← hsn]; have HSN := Lib.hid hsn; clear hsn; have HSO := Lib.hid hso; have HSO2 := Lib.hid hso; have HSPV := Lib.hid hsp; have HSF := Lib.hid hsf; clear hso hsp hsf)
  go_upto_region 9 with fail
  obtain ⟨w3, hw3⟩ : ∃ w3, w3 = (((w2.alloc (.cells #[.slice SA sn sc] 45)).alloc (.cells #[.string ⟨#[]⟩] 9)).alloc (.cells #[.int .i64 0] 3)).alloc (.cells #[.int .i64 0] 3) := ⟨_, rfl⟩
  have h23 : Fr [] w2 w3 := by rw [hw3]; exact ((((Fr.refl [] w2).alloc _).alloc _).alloc _).alloc _
  have hl0 : Bk w3 w2.heap.size 45 #[.slice SA sn sc] := by rw [hw3]; exact (((Bk.new w2 _ _).alloc _).alloc _).alloc _
  have ha0 : Bk w3 (w2.heap.size + 1) 9 #[.string ⟨#[]⟩] := by
    rw [hw3]
    have := Bk.new (w2.alloc (.cells #[.slice SA sn sc] 45)) 9 #[.string ⟨#[]⟩]
    rw [World.size_alloc] at this
    exact (this.alloc _).alloc _
  have hn0 : Bk w3 (w2.heap.size + 1 + 1) 3 #[.int .i64 0] := by
    rw [hw3]
    have := Bk.new ((w2.alloc (.cells #[.slice SA sn sc] 45)).alloc (.cells #[.string ⟨#[]⟩] 9)) 3 #[.int .i64 0]
    rw [World.size_alloc, World.size_alloc] at this
    exact this.alloc _
  have hs0 : Bk w3 (w2.heap.size + 1 + 1 + 1) 3 #[.int .i64 0] := by
    rw [hw3]
    have := Bk.new (((w2.alloc (.cells #[.slice SA sn sc] 45)).alloc (.cells #[.string ⟨#[]⟩] 9)).alloc (.cells #[.int .i64 0] 3)) 3 #[.int .i64 0]
    rw [World.size_alloc, World.size_alloc, World.size_alloc] at this
    exact this
  rw [← hw3]
  obtain ⟨lbx, hlb⟩ : ∃ x, x = w2.heap.size := ⟨_, rfl⟩
  obtain ⟨abx, hab⟩ : ∃ x, x = w2.heap.size + 1 := ⟨_, rfl⟩
  obtain ⟨nbx, hnb⟩ : ∃ x, x = w2.heap.size + 1 + 1 := ⟨_, rfl⟩
  obtain ⟨sbx, hsb⟩ : ∃ x, x = w2.heap.size + 1 + 1 + 1 := ⟨_, rfl⟩
  rw [← hsb, ← hnb, ← hab, ← hlb]
  rw [← hsb] at hs0
  rw [← hnb] at hn0
  rw [← hab] at ha0
  rw [← hlb] at hl0
  have HSZ : Hid (w3.heap.size = w2.heap.size + 1 + 1 + 1 + 1) := Lib.hid (by rw [hw3]; simp)
  have hx3 : Fr [] w w3 := HF1.out.trans (HSF.out.trans h23)
  have hxb : Fr [] wb w3 := HX1.out.trans (HSF.out.trans h23)
  have ht3 := HT0.out.fr hxb (by simp)
  have hr3 := HR0.out.fr hxb (by simp)
  have hfi3 := HFI.out.fr (HSF.out.trans h23)
  have hpv3 : PartsV w3 (fun b => b < w2.heap.size) es SP := by
    intro i p hp
    obtain ⟨A, c, h1, h2, h3, h4, h5⟩ := HSPV.out i p hp
    exact ⟨A, c, h1, h2.fr h23 (by simp), h3, h4, fun a ha => ⟨(h5 a ha).2, Nat.lt_of_lt_of_le (h5 a ha).2 h23.size⟩⟩
  have hso3 : w3.ownsRow w1c.heap.size 22 1 (.slice SA sn sc) sn es := by rw [HSN.out]; exact own_keep HSO.out (KeepB.of_nil h23)
  have hfa := Finds_any (fb := f1) (HT.out.fr hx3 (by simp)) HTN.out HTC.out (by have := HM.out; omega)
  rw [← HM.out] at hfa
  have HLB := Lib.hid hlb; have HAB := Lib.hid hab; have HNB := Lib.hid hnb; have HSB := Lib.hid hsb
  have HX3 := Lib.hid hx3; have HT3 := Lib.hid ht3; have HR3 := Lib.hid hr3; have HFI3 := Lib.hid hfi3; have HPV3 := Lib.hid hpv3; have HSO3 := Lib.hid hso3; have HFA := Lib.hid hfa
  have HL0 := Lib.hid hl0; have HA0 := Lib.hid ha0; have HN0 := Lib.hid hn0; have HS0 := Lib.hid hs0
  have c3t : w3.cell? ⟨tbx, 0, none⟩ = some (.slice D M cd) := ht3.cell_ (i := 0) rfl
  clear hlb hab hnb hsb hx3 hxb ht3 hr3 hfi3 hpv3 hso3 hfa hl0 ha0 hn0 hs0 hw3 h23 HSPL HSPV HFI tc rc rlt rfz
  have hsbl : ∀ g, (Value.slice SA sn sc).ownBlock = some g → g < w2.heap.size := fun g hg => by
    have h := HSO2.out
    rw [← HSN.out] at h
    obtain ⟨-, cur, hc⟩ := own_base h g hg
    exact hc.lt
  have HSBL := Lib.hid hsbl
  clear hsbl HSO2
  go_wp2_with fail
  go_at_call 19
  refine HFA.out.mono ?_
  rintro e w5 ⟨fbx, kbx, A3, c3, rfl, hfbx, hkbx, hb3, hle3, hbd3, hf3, hkl⟩
  have hs5 := hf3.size
  have hsz3 : w3.heap.size = w2.heap.size + 1 + 1 + 1 + 1 := HSZ.out
  have hkb5 := World.block_lt_of_cell? _ _ hkbx
  dsimp only at hkb5
  have hkeep : ∀ W, Fr [abx, nbx, sbx] w5 W → W.cell? ⟨tbx, 0, none⟩ = some (.slice D M cd) ∧ W.cell? ⟨lbx, 0, none⟩ = some (.slice SA sn sc) ∧ W.ownsRow w1c.heap.size 22 1 (.slice SA sn sc) sn es ∧ PartsV W (fun _ => True) es SP ∧ Bytes W D tx := by
    intro W hW
    have h3 : Fr [abx, nbx, sbx] w3 W := (hf3.nil_ (l := [abx, nbx, sbx])).trans hW
    have e1 := HLB.out; have e2 := HAB.out; have e3 := HNB.out; have e4 := HSB.out; have e5 := HTB.out
    have hs1 := HF1.out.size; have hs2 := HSF.out.size
    refine ⟨(HT3.out.fr h3 (by simp; omega)).cell_ (i := 0) rfl, (HL0.out.fr h3 (by simp; omega)).cell_ (i := 0) rfl, own_fr HSO3.out h3 (fun b hb hm => by have := HSBL.out b hb; simp at hm; omega), HPV3.out.fr h3 (fun b hb _ => ⟨fun hm => by simp at hm; omega, trivial⟩), (HT.out.fr HX3.out (by simp)).fr h3 (fun a ha _ hm => by have := HTL.out a ha; simp at hm; omega)⟩
  have hA5 := HA0.out.fr hf3 (by simp); have hN5 := HN0.out.fr hf3 (by simp); have hS5 := HS0.out.fr hf3 (by simp)
  have hR5 := HR3.out.fr hf3 (by simp)
  have habl := hA5.lt; have hnbl := hN5.lt; have hsbl := hS5.lt
  have hord := findsS_ord (tx := tx) HD.out.1 HD.out.2.1
  obtain ⟨FL, hFL⟩ : ∃ FL, FL = findsS (progT t1) tx := ⟨_, rfl⟩
  have HSPE : Hid (tx ≠ [] → SP = splitF tx FL 0) := Lib.hid (fun hne => by rw [HSP.out, hFL]; unfold splitS; rw [if_neg hne])
  have HSP0 : Hid (tx = [] → SP = []) := Lib.hid (fun he => by rw [HSP.out]; unfold splitS; rw [if_pos he])
  rw [← hFL] at hord
  have HFBX := Lib.hid hfbx; have HKBX := Lib.hid hkbx; have HB3 := Lib.hid hb3; have HLE3 := Lib.hid hle3; have HBD3 := Lib.hid hbd3; have HF3 := Lib.hid hf3; have HKL := Lib.hid hkl; have HKEEP := Lib.hid hkeep; have HA5 := Lib.hid hA5; have HN5 := Lib.hid hN5; have HS5 := Lib.hid hS5; have HR5 := Lib.hid hR5; have HORD := Lib.hid hord; have HFL := Lib.hid hFL
  have HFI5 := Lib.hid (HFI3.out.fr hf3)
  clear hfbx hkbx hb3 hle3 hbd3 hf3 hkl hkeep hA5 hN5 hS5 hR5 hord hFL HFA c3t
  go_wp2_with fail
  refine wp_rangeFinds (fbx := fbx) (kbx := kbx) (fb := f1) (L := progT t1) (A2 := A3) (tx := tx) (c2 := c3) rfl rfl HFBX.out HKBX.out HFI5.out HB3.out HLE3.out HBD3.out HD.out.2.1 HD.out.2.2 HD.out.1 (by have := HM.out; omega)
    (fun St k W => ∃ n b la, PtI w5 abx nbx sbx tx FL SP St k W n b la) (fun _ _ _ => False) ?hI0 ?hfr (fun _ _ _ _ h _ => h.elim) ?round ?done (fun _ _ _ _ _ _ h _ => h.elim)
  case hI0 =>
    intro St W' hf hSt
    exact ⟨0, 0, 0, hf.nil_, fun b hb => (hSt b hb).1, by rw [List.take_zero]; exact HA5.out.fr hf (by simp), HN5.out.fr hf (by simp), HS5.out.fr hf (by simp), fun hne => HSPE.out hne, fun q hq => ⟨Nat.zero_le _, Nat.zero_le _⟩, Nat.zero_le _, Nat.zero_le _⟩
  case hfr =>
    rintro St St' k W1 W2 ⟨n, b, la, h1⟩ hf hS
    exact ⟨n, b, la, h1.far habl hnbl hsbl hf hS⟩
  case round =>
    rintro St l k ⟨s, e⟩ W hl hSt hW2 hx ⟨n, b, la, h1⟩
    rw [← HFL.out] at hx
    dsimp only
    obtain ⟨k1, k2, k3, k4, k5⟩ := split_round HORD.out.2.1 HORD.out.1 hx (fun q hq => (h1.ord q hq).1)
    obtain ⟨k6, -⟩ := split_round HORD.out.2.1 HORD.out.1 hx (fun q hq => (h1.ord q hq).2)
    dsimp only at k1 k2 k3 k4 k5 k6
    gi_wp2
    refine ⟨Fr.refl [] W, fun W2 hf2 => ?_⟩
    have h2 := h1.far habl hnbl hsbl (hf2.mono (by simp; exact .inl hl)) (fun b hb => .inl hb)
    have hSt2 : ∀ b ∈ St, b < W2.heap.size := fun b hb => Nat.lt_of_lt_of_le (hSt b hb).2 hf2.size
    have hkl2 : k ≤ 10002 := by have := (List.getElem?_eq_some_iff.1 hx).1; have := HORD.out.2.2; have := HM.out; omega
    have H2 := Lib.hid h2; have HST2 := Lib.hid hSt2; have K4 := Lib.hid k4; have K5 := Lib.hid k5; have HX := Lib.hid hx
    have hW2s : w5.heap.size ≤ W2.heap.size := h2.fr.size
    clear h1 h2 hSt hSt2 hf2 k4 k5 hx hW2 hl
    obtain ⟨kt, kl, -⟩ := HKEEP.out W2 H2.out.fr
    have kn := H2.out.nb.cell_ (i := 0) rfl
    have ks := H2.out.sb.cell_ (i := 0) rfl
    have ka := H2.out.ab.cell_ (i := 0) rfl
    have g1 : ¬ ((s : Int) < (la : Int)) := by omega
    have g2 : ¬ ((e : Int) < (s : Int)) := by omega
    have g3 : ¬ ((M : Int) < (e : Int)) := by have := HM.out; omega
    have zs := H2.out.sb.lt; have zn := H2.out.nb.lt; have za := H2.out.ab.lt
    have fs := H2.out.sb.frozen 0; have fn := H2.out.nb.frozen 0; have fa := H2.out.ab.frozen 0
    rcases Nat.lt_or_ge s e with hse | hse
    · have hseI : (s : Int) < (e : Int) := by omega
      have hne : tx ≠ [] := by rintro rfl; simp at k3; omega
      have hd := drop_cons_of HX.out
      obtain ⟨p1, p2, p3⟩ := parts_round hd (H2.out.spl hne) hse k1 k3
      dsimp only at p1 p2 p3
      obtain ⟨p, hp⟩ : ∃ p, p = (tx.drop b).take (s - b) := ⟨_, rfl⟩
      rw [← hp] at p1 p3
      have hnsn : n < sn := by rw [HSN.out]; exact (List.getElem?_eq_some_iff.1 p1).1
      have g4 : ¬ ((sn : Int) ≤ (n : Int)) := by omega
      have hp60 : p.length ≤ M := by rw [hp, HM.out]; simp; omega
      have HP1 := Lib.hid p1; have HP2 := Lib.hid p2; have HP3 := Lib.hid p3
      clear hd p1 p2 p3 hp hne
      gi_wp2
      clear kt kl kn ks ka g1 g2 g3 g4
      obtain ⟨wd, hwd⟩ : ∃ wd, wd = W2.drew := ⟨_, rfl⟩
      have hfd : Fr [] W2 wd := by rw [hwd]; exact (Fr.refl [] W2).drew
      have h3 := H2.out.far habl hnbl hsbl (hfd.nil_ (l := St)) (fun b hb => .inl hb)
      obtain ⟨d1, d2, d3, d4, d5⟩ := HKEEP.out wd h3.fr
      obtain ⟨PA, pc, e1, e2, e3, e4, -⟩ := d4 n p HP1.out
      obtain ⟨SB, rfl, -, -, hcl⟩ := own_cells d3 (fun h0 => by rw [h0] at e1; cases e1)
      have ce := hcl n _ e1
      have dn := h3.nb.cell_ (i := 0) rfl
      have da := h3.ab.cell_ (i := 0) rfl
      have yn := h3.nb.lt; have ya := h3.ab.lt; have ys := h3.sb.lt
      have xn := h3.nb.frozen 0; have xa := h3.ab.frozen 0; have xs := h3.sb.frozen 0
      obtain ⟨X, hX⟩ : ∃ X, X = (if cd = s then D else D.map (·.add (s * 1))) := ⟨_, rfl⟩
      obtain ⟨q, hq⟩ : ∃ q, q = (tx.drop s).take (e - s) := ⟨_, rfl⟩
      have hcut := cut_bytes (lo := s) (h := e) (c := cd) d5 k2 k3 HTC.out HTN.out
      rw [← hX, ← hq] at hcut
      have hql : q.length = e - s := by rw [hq]; simp; have := HM.out; omega
      have hcq := hcut.1
      obtain ⟨pl, hpl⟩ : ∃ n, n = p.length := ⟨_, rfl⟩
      rw [← hpl] at ce e1
      obtain ⟨S0, hS0⟩ : ∃ S, S = (⟨(tx.take b).toArray⟩ : ByteArray) := ⟨_, rfl⟩
      obtain ⟨S1, hS1⟩ : ∃ S, S = (⟨p.toArray⟩ : ByteArray) := ⟨_, rfl⟩
      obtain ⟨S2, hS2⟩ : ∃ S, S = (⟨q.toArray⟩ : ByteArray) := ⟨_, rfl⟩
      rw [← hS0] at da
      obtain ⟨i0, hi0, hz0, hz1, hz2⟩ := u8parts
      have hsum : (⟨(tx.take e).toArray⟩ : ByteArray) = S0 ++ S1 ++ S2 := by
        rw [hS0, hS1, hS2, ba_append, ba_append, hq, HP3.out]
      have z0 : S0.size ≤ 60 := by
        rw [hS0]
        show (tx.take b).toArray.size ≤ 60
        rw [List.size_toArray, List.length_take]; have := HM.out; omega
      have z1 : S1.size ≤ 60 := by
        rw [hS1]
        show p.toArray.size ≤ 60
        rw [List.size_toArray]; omega
      have z2 : S2.size ≤ 60 := by
        rw [hS2]
        show q.toArray.size ≤ 60
        rw [List.size_toArray]; have := HM.out; omega
      have z3 : (S0 ++ S1).size ≤ 120 := by rw [ByteArray.size_append]; omega
      have hs2 : s ≤ e := k2
      have heM : e ≤ M := by rw [HM.out]; exact k3
      have hMc : M ≤ cd := by rw [HM.out]; exact HTC.out
      have hnI : (n : Int) < (sn : Int) := by omega
      have HFD := Lib.hid hfd; have H3 := Lib.hid h3; have HX' := Lib.hid hX; have HQ' := Lib.hid hq; have HQL := Lib.hid hql; have HCQ := Lib.hid hcq; have HPL := Lib.hid hpl; have HS0' := Lib.hid hS0; have HS1' := Lib.hid hS1; have HS2' := Lib.hid hS2; have HSUM := Lib.hid hsum; have HE2 := Lib.hid e2
      clear hfd h3 d3 d4 d5 e1 e2 e3 e4 hcl hcut hX hq hql hcq hpl hS0 hS1 hS2 hsum
      refine wpIn_region_F_ (G := fun a b => a = b) (F := fun i => i == 13) (S := fun V => V = wd) ⟨fun _ => rfl, fun a b c h k => h.trans k, fun a b h k => k ▸ h, by kernel_rfl, fun _ _ d _ _ h => by cases d <;> exact h⟩ (by kernel_rfl) (by kernel_rfl) (fun _ _ h => h) fun su => ?_
      have SU := Lib.hid su
      rw [← hwd]
      have HS : Hid (wd = wd) := Lib.hid rfl
      clear su hwd
      refine F_val (i := 0) (v := .string S0) SU.out rfl (by kernel_rfl) HS.out rfl (fun W hS => ?_) ?_
      · obtain rfl := hS
        go_simp
        first | done | rfl | omega | (exact IntWalk.i64_in _ (by omega)) | (simp; done) | (simp; omega)
      simp only [Act.put, PU]
      refine F_val (i := 1) (v := .slice (some ⟨SB, 0, none⟩) sn sc) SU.out rfl (by kernel_rfl) HS.out rfl (fun W hS => ?_) ?_
      · obtain rfl := hS
        go_simp
        first | done | rfl | omega | (exact IntWalk.i64_in _ (by omega)) | (simp; done) | (simp; omega)
      simp only [Act.put, PU]
      refine F_val (i := 2) (v := .int .i64 (n : Int)) SU.out rfl (by kernel_rfl) HS.out rfl (fun W hS => ?_) ?_
      · obtain rfl := hS
        go_simp
        first | done | rfl | omega | (exact IntWalk.i64_in _ (by omega)) | (simp; done) | (simp; omega)
      simp only [Act.put, PU]
      refine F_val (i := 3) (v := .pointer (some ⟨SB, n, none⟩)) SU.out rfl (by kernel_rfl) HS.out rfl (fun W hS => ?_) ?_
      · obtain rfl := hS
        go_simp
        first | done | rfl | omega | (exact IntWalk.i64_in _ (by omega)) | (simp; done) | (simp; omega)
      simp only [Act.put, PU]
      refine F_val (i := 4) (v := .slice PA pl pc) SU.out rfl (by kernel_rfl) HS.out rfl (fun W hS => ?_) ?_
      · obtain rfl := hS
        go_simp
        first | done | rfl | omega | (exact IntWalk.i64_in _ (by omega)) | (simp; done) | (simp; omega)
      simp only [Act.put, PU]
      refine F_str (i := 5) 22 9 (.tmp 60) SU.out rfl rfl 5 Try.underlying22 Try.underlying5 Try.underlying9 PA pl pc (by first | rfl | (simp [Act.eval]; done)) p (fun W hS => by rw [hS]; exact HE2.out) HPL.out.symm (by kernel_rfl) HS.out rfl ?_
      rw [← HS1'.out]
      simp only [Act.put, PU]
      refine F_val (i := 6) (v := .string (S0 ++ S1)) SU.out rfl (by kernel_rfl) HS.out rfl (fun W hS => ?_) ?_
      · obtain rfl := hS
        go_simp
        first | done | rfl | omega | (exact IntWalk.i64_in _ (by omega)) | (simp; done) | (simp; omega)
      simp only [Act.put, PU]
      refine F_val (i := 7) (v := .slice D M cd) SU.out rfl (by kernel_rfl) HS.out rfl (fun W hS => ?_) ?_
      · obtain rfl := hS
        go_simp
        first | done | rfl | omega | (exact IntWalk.i64_in _ (by omega)) | (simp; done) | (simp; omega)
      simp only [Act.put, PU]
      refine F_move (i := 8) _ SU.out rfl rfl (by kernel_rfl) HS.out rfl ?_
      simp only [Act.put, Act.eval, PE]
      refine F_move (i := 9) _ SU.out rfl rfl (by kernel_rfl) HS.out rfl ?_
      simp only [Act.put, Act.eval, PE]
      refine F_cut2 (i := 10) 22 (.tmp 63) (.tmp 64) (.tmp 65) SU.out rfl rfl 5 i0 Try.underlying22 hi0 hz1 D M cd s e (by first | rfl | (simp [Act.eval]; done)) (by first | rfl | (simp [Act.eval]; done)) (by first | rfl | (simp [Act.eval]; done)) hs2 heM hMc (by kernel_rfl) HS.out rfl ?_
      rw [← HX'.out]
      simp only [Act.put, PU]
      refine F_str (i := 11) 22 9 (.tmp 66) SU.out rfl rfl 5 Try.underlying22 Try.underlying5 Try.underlying9 X (e - s) (cd - s) (by first | rfl | (simp [Act.eval]; done)) q (fun W hS => by rw [hS]; exact HCQ.out) HQL.out (by kernel_rfl) HS.out rfl ?_
      rw [← HS2'.out]
      simp only [Act.put, PU]
      refine F_val (i := 12) (v := .string (S0 ++ S1 ++ S2)) SU.out rfl (by kernel_rfl) HS.out rfl (fun W hS => ?_) ?_
      · obtain rfl := hS
        go_simp
        first | done | rfl | omega | (exact IntWalk.i64_in _ (by omega)) | (simp; done) | (simp; omega)
      simp only [Act.put, PU]
      refine wpAnyF_all (rs := [13]) (by kernel_rfl) (by simp) (fun w' hG => ?_)
      obtain rfl := hG
      refine allF.head rfl rfl (fun K9 hK9 => ?_) allF.nil
      go_simp
      refine hK9.out _ _ (.inl rfl) ?_
      clear hK9 K9
      refine wpAnyF_done (by kernel_rfl) (fun w' hG => ?_)
      obtain rfl := hG
      clear SU HS z0 z1 z2 z3 d1 d2 ce dn da xn xa xs yn ya ys
      obtain ⟨wE, hwE⟩ : ∃ wE, wE = wd.setCell ⟨abx, 0, none⟩ (.string (S0 ++ S1 ++ S2)) := ⟨_, rfl⟩
      have hEf : Fr [abx] wd wE := by rw [hwE]; exact (Fr.refl _ wd).setCell (.inl (by simp)) _
      have hEa : Bk wE abx 9 #[.string (S0 ++ S1 ++ S2)] := by rw [hwE]; exact H3.out.ab.put 0 _
      have hEn := H3.out.nb.fr hEf (by have := HAB.out; have := HNB.out; simp; omega)
      have hEs := H3.out.sb.fr hEf (by have := HAB.out; have := HSB.out; simp; omega)
      rw [← hwE]
      have en := hEn.cell_ (i := 0) rfl
      have es' := hEs.cell_ (i := 0) rfl
      have yn := hEn.lt; have ys := hEs.lt
      have xn := hEn.frozen 0; have xs := hEs.frozen 0
      have hnb : n ≤ 10002 := by have := H3.out.nk; omega
      rw [← HSUM.out] at hEa
      have HEF := Lib.hid hEf; have HEA := Lib.hid hEa; have HEN := Lib.hid hEn; have HES := Lib.hid hEs
      clear hwE hEf hEa hEn hEs
      have n1 : abx ≠ nbx := by have := HAB.out; have := HNB.out; omega
      have n2 : abx ≠ sbx := by have := HAB.out; have := HSB.out; omega
      have n3 : nbx ≠ sbx := by have := HNB.out; have := HSB.out; omega
      gi_wp2
      have hF1' : Fr [nbx] wE (wE.setCell ⟨nbx, 0, none⟩ (.int .i64 ((n : Int) + 1))) := (Fr.refl _ wE).setCell (.inl (by simp)) _
      have hF2' : Fr [sbx] (wE.setCell ⟨nbx, 0, none⟩ (.int .i64 ((n : Int) + 1))) ((wE.setCell ⟨nbx, 0, none⟩ (.int .i64 ((n : Int) + 1))).setCell ⟨sbx, 0, none⟩ (.int .i64 (e : Int))) := (Fr.refl _ _).setCell (.inl (by simp)) _
      have hFall : Fr [abx, nbx, sbx] W2 ((wE.setCell ⟨nbx, 0, none⟩ (.int .i64 ((n : Int) + 1))).setCell ⟨sbx, 0, none⟩ (.int .i64 (e : Int))) := (((HFD.out.nil_ (l := [abx, nbx, sbx])).trans (HEF.out.mono (by simp))).trans (hF1'.mono (by simp))).trans (hF2'.mono (by simp))
      have hn1 := (HEN.out.put 0 (.int .i64 ((n : Int) + 1))).fr hF2' (by simpa using n3)
      obtain ⟨q1, q2, q3⟩ := H2.out.step (kbx := kbx) (n' := n + 1) (b' := e) (la' := e) habl hnbl hsbl hkb5 (by have := HKL.out; have := HAB.out; omega) (by have := HKL.out; have := HNB.out; omega) (by have := HKL.out; have := HSB.out; omega) HST2.out hFall
        ((HEA.out.fr hF1' (by simpa using n1)).fr hF2' (by simpa using n2)) hn1 ((HES.out.fr hF1' (by simpa using n3.symm)).put 0 _) (fun _ => HP2.out) (fun q hq => ⟨K4.out q hq, K4.out q hq⟩) (by rw [← HM.out]; exact heM) (Nat.le_refl _) (w5.heap.size + 2)
      exact ⟨q1, q2, n + 1, e, e, q3⟩
    · have hseI : ¬ ((s : Int) < (e : Int)) := by omega
      gi_wp2
      have hf3 : Fr [abx, nbx, sbx] W2 (W2.setCell ⟨sbx, 0, none⟩ (.int .i64 (e : Int))) := (Fr.refl _ W2).setCell (.inl (by simp)) _
      have hff : Fr [sbx] W2 (W2.setCell ⟨sbx, 0, none⟩ (.int .i64 (e : Int))) := (Fr.refl _ W2).setCell (.inl (by simp)) _
      obtain ⟨q1, q2, q3⟩ := H2.out.step (kbx := kbx) (n' := n) (b' := b) (la' := e) habl hnbl hsbl hkb5 (by have := HKL.out; have := HAB.out; omega) (by have := HKL.out; have := HNB.out; omega) (by have := HKL.out; have := HSB.out; omega) HST2.out hf3
        (H2.out.ab.fr hff (by have := HAB.out; have := HSB.out; simp; omega)) (H2.out.nb.fr hff (by have := HNB.out; have := HSB.out; simp; omega)) (H2.out.sb.put 0 _) (fun hne => parts_skip (drop_cons_of HX.out) (H2.out.spl hne) (by omega)) (fun q hq => ⟨K5.out q hq, K4.out q hq⟩) H2.out.ble (Nat.le_succ _) (w5.heap.size + 2)
      exact ⟨q1, q2, n, b, e, q3⟩
  case done =>
    rintro D2 St wq hD hSt ⟨n, b, la, h1⟩ hd hW3
    rw [← HFL.out] at h1
    have h2 := h1.far habl hnbl hsbl (Fr.refl St wq) (St' := [D2]) (fun b hb => .inl (by simp at hb; rw [hb]; exact hD))
    have hD5 := hSt D2 hD
    have hff : Fr [] w wq := (HX3.out.trans HF3.out).trans' h2.fr (fun x hx => .inr (by
      have := HAB.out; have := HNB.out; have := HSB.out; have := HF1.out.size; have := HSF.out.size
      simp at hx; omega))
    have hDl := (Array.getElem?_eq_some_iff.1 hd).1
    obtain ⟨d1, d2, d3, d4, d5⟩ := HKEEP.out wq h2.fr
    have hR := HR5.out.fr h2.fr (by have := HAB.out; have := HNB.out; have := HSB.out; have := HRB.out; have := HF1.out.size; have := HSF.out.size; have := HX0.out.size; have := HR0.out.lt; have := HX1.out.size; simp; omega)
    have hDr : D2 ≠ rbx := by have := HR5.out.lt; omega
    have H2 := Lib.hid h2; have HFF := Lib.hid hff; have HDD := Lib.hid hd; have HRR := Lib.hid hR
    have rlt := hR.lt; have rfz := hR.frozen 0
    have rce := hR.cell_ (i := 0) rfl
    clear h1 h2 hff hd hR hSt hD
    by_cases hne : tx = []
    · have hM0 : M = 0 := by rw [HM.out, hne]; rfl
      have hs0 : sn = 0 := by rw [HSN.out, HSP0.out hne]; rfl
      subst hM0 hs0
      have d2' : wq.cell? ⟨lbx, 0, none⟩ = some (.slice SA 0 sc) := d2
      clear d3 d4 d5 hne
      obtain ⟨y1, y2, y3⟩ := end_cell HRR.out HDD.out HFF.out (by have := HRB.out; omega) (by have := HX3.out.size; omega) hDr
      go_wp2_with fail
      refine ⟨by simp, .inl ⟨_, _, rfl, run_takeDeferred y1, ⟨.bool true, ?_, rfl, y3⟩⟩⟩
      simp [results, Try.results5, go_sem, y2]
    · have hM0 : ((M : Int) == 0) = false := by have : tx.length ≠ 0 := fun h => hne (List.eq_nil_of_length_eq_zero h); have := HM.out; simp; omega
      obtain ⟨p1, p2, p3⟩ := parts_end (by have := H2.out.spl hne; rw [List.drop_length] at this; exact this)
      go_upto_region 22 with fail
      clear d1 d2 d3 d4 d5 rlt rfz rce hM0
      obtain ⟨wd, hwd⟩ : ∃ wd, wd = wq.drew := ⟨_, rfl⟩
      have hfd : Fr [] wq wd := by rw [hwd]; exact (Fr.refl [] wq).drew
      have h3 := H2.out.far habl hnbl hsbl (hfd.nil_ (l := [D2])) (St' := [D2]) (fun b hb => .inl hb)
      obtain ⟨d1, d2, d3, d4, d5⟩ := HKEEP.out wd h3.fr
      obtain ⟨p, hp⟩ : ∃ p, p = tx.drop b := ⟨_, rfl⟩
      rw [← hp] at p2 p3
      obtain ⟨PA, pc, e1, e2, e3, e4, -⟩ := d4 n p p2
      obtain ⟨SB, rfl, -, -, hcl⟩ := own_cells d3 (fun h0 => by rw [h0] at e1; cases e1)
      have ce := hcl n _ e1
      have dn := h3.nb.cell_ (i := 0) rfl
      have da := h3.ab.cell_ (i := 0) rfl
      have hR2 := HRR.out.fr hfd (by simp)
      have yr := hR2.lt; have xr := hR2.frozen 0; have cr := hR2.cell_ (i := 0) rfl
      have hD2 : wd.heap[D2]? = some (.deferred (some [])) := (hfd.block D2 hDl (by simp)).trans HDD.out
      obtain ⟨pl, hpl⟩ : ∃ n, n = p.length := ⟨_, rfl⟩
      rw [← hpl] at ce e1
      have hp60 : pl ≤ M := by rw [hpl, hp, HM.out]; simp
      obtain ⟨S0, hS0⟩ : ∃ S, S = (⟨(tx.take b).toArray⟩ : ByteArray) := ⟨_, rfl⟩
      obtain ⟨S1, hS1⟩ : ∃ S, S = (⟨p.toArray⟩ : ByteArray) := ⟨_, rfl⟩
      obtain ⟨S2, hS2⟩ : ∃ S, S = (⟨tx.toArray⟩ : ByteArray) := ⟨_, rfl⟩
      rw [← hS0] at da
      have hsum : S0 ++ S1 = S2 := by rw [hS0, hS1, hS2, ba_append, p3]
      have z0 : S0.size ≤ 60 := by
        rw [hS0]
        show (tx.take b).toArray.size ≤ 60
        rw [List.size_toArray, List.length_take]; have := HM.out; omega
      have z1 : S1.size ≤ 60 := by
        rw [hS1]
        show p.toArray.size ≤ 60
        rw [List.size_toArray]; omega
      have hsn : (sn : Int) = (n : Int) + 1 := by have := HSN.out; omega
      have hnb : n ≤ 10100 := by have := H2.out.nk; have := HORD.out.2.2; have := HM.out; omega
      have HSNI := Lib.hid hsn
      have hw1 : IntKind.i64.wrap ((sn : Int) - 1) = (n : Int) := by rw [hsn, Int.add_sub_cancel]; exact IntWalk.i64_in _ (by omega)
      have hnI : (n : Int) < (sn : Int) := by omega
      have hfw : Fr [] w wd := HFF.out.trans hfd
      obtain ⟨y1, y2, y3⟩ := end_cell hR2 hD2 hfw (by have := HRB.out; omega) (by have := HX3.out.size; omega) hDr
      have HPL := Lib.hid hpl; have HS0' := Lib.hid hS0; have HS1' := Lib.hid hS1; have HS2' := Lib.hid hS2; have HSUM := Lib.hid hsum; have HE2 := Lib.hid e2; have HD5 := Lib.hid d5; have HW1 := Lib.hid hw1
      clear hfd h3 d3 d4 d5 e1 e2 e3 e4 hcl hpl hS0 hS1 hS2 hsum hp p1 p2 p3 hsn hfw hR2 hD2 hw1
      refine wp_region_F_ (G := fun a b => a = b) (F := fun i => i == 17) (S := fun V => V = wd) ⟨fun _ => rfl, fun a b c h k => h.trans k, fun a b h k => k ▸ h, by kernel_rfl, fun _ _ d _ _ h => by cases d <;> exact h⟩ (by kernel_rfl) fun su => ?_
      have SU := Lib.hid su
      rw [← hwd]
      have HS : Hid (wd = wd) := Lib.hid rfl
      clear su hwd
      refine F_val (i := 0) (v := .int .i64 (n : Int)) SU.out rfl (by kernel_rfl) HS.out rfl (fun W hS => ?_) ?_
      · obtain rfl := hS
        go_simp
        first | done | rfl | (exact HW1.out) | (rw [HW1.out]; done) | (have := HSNI.out; omega) | (exact HSUM.out) | (simp [HSUM.out]; done) | omega | (exact IntWalk.i64_in _ (by omega)) | (simp; done) | (simp; omega)
      simp only [Act.put, PU]
      refine F_val (i := 1) (v := .slice (some ⟨SB, 0, none⟩) sn sc) SU.out rfl (by kernel_rfl) HS.out rfl (fun W hS => ?_) ?_
      · obtain rfl := hS
        go_simp
        first | done | rfl | (exact HW1.out) | (rw [HW1.out]; done) | (have := HSNI.out; omega) | (exact HSUM.out) | (simp [HSUM.out]; done) | omega | (exact IntWalk.i64_in _ (by omega)) | (simp; done) | (simp; omega)
      simp only [Act.put, PU]
      refine F_val (i := 2) (v := .int .i64 (sn : Int)) SU.out rfl (by kernel_rfl) HS.out rfl (fun W hS => ?_) ?_
      · obtain rfl := hS
        go_simp
        first | done | rfl | (exact HW1.out) | (rw [HW1.out]; done) | (have := HSNI.out; omega) | (exact HSUM.out) | (simp [HSUM.out]; done) | omega | (exact IntWalk.i64_in _ (by omega)) | (simp; done) | (simp; omega)
      simp only [Act.put, PU]
      refine F_val (i := 3) (v := .int .i64 (n : Int)) SU.out rfl (by kernel_rfl) HS.out rfl (fun W hS => ?_) ?_
      · obtain rfl := hS
        go_simp
        first | done | rfl | (exact HW1.out) | (rw [HW1.out]; done) | (have := HSNI.out; omega) | (exact HSUM.out) | (simp [HSUM.out]; done) | omega | (exact IntWalk.i64_in _ (by omega)) | (simp; done) | (simp; omega)
      simp only [Act.put, PU]
      refine F_val (i := 4) (v := .bool true) SU.out rfl (by kernel_rfl) HS.out rfl (fun W hS => ?_) ?_
      · obtain rfl := hS
        go_simp
        first | done | rfl | (exact HW1.out) | (rw [HW1.out]; done) | (have := HSNI.out; omega) | (exact HSUM.out) | (simp [HSUM.out]; done) | omega | (exact IntWalk.i64_in _ (by omega)) | (simp; done) | (simp; omega)
      simp only [Act.put, PU]
      refine F_move (i := 5) _ SU.out rfl rfl (by kernel_rfl) HS.out rfl ?_
      simp only [Act.put, Act.eval, PE]
      refine F_val (i := 6) (v := .string S0) SU.out rfl (by kernel_rfl) HS.out rfl (fun W hS => ?_) ?_
      · obtain rfl := hS
        go_simp
        first | done | rfl | (exact HW1.out) | (rw [HW1.out]; done) | (have := HSNI.out; omega) | (exact HSUM.out) | (simp [HSUM.out]; done) | omega | (exact IntWalk.i64_in _ (by omega)) | (simp; done) | (simp; omega)
      simp only [Act.put, PU]
      refine F_val (i := 7) (v := .slice (some ⟨SB, 0, none⟩) sn sc) SU.out rfl (by kernel_rfl) HS.out rfl (fun W hS => ?_) ?_
      · obtain rfl := hS
        go_simp
        first | done | rfl | (exact HW1.out) | (rw [HW1.out]; done) | (have := HSNI.out; omega) | (exact HSUM.out) | (simp [HSUM.out]; done) | omega | (exact IntWalk.i64_in _ (by omega)) | (simp; done) | (simp; omega)
      simp only [Act.put, PU]
      refine F_val (i := 8) (v := .int .i64 (n : Int)) SU.out rfl (by kernel_rfl) HS.out rfl (fun W hS => ?_) ?_
      · obtain rfl := hS
        go_simp
        first | done | rfl | (exact HW1.out) | (rw [HW1.out]; done) | (have := HSNI.out; omega) | (exact HSUM.out) | (simp [HSUM.out]; done) | omega | (exact IntWalk.i64_in _ (by omega)) | (simp; done) | (simp; omega)
      simp only [Act.put, PU]
      refine F_val (i := 9) (v := .pointer (some ⟨SB, n, none⟩)) SU.out rfl (by kernel_rfl) HS.out rfl (fun W hS => ?_) ?_
      · obtain rfl := hS
        go_simp
        first | done | rfl | (exact HW1.out) | (rw [HW1.out]; done) | (have := HSNI.out; omega) | (exact HSUM.out) | (simp [HSUM.out]; done) | omega | (exact IntWalk.i64_in _ (by omega)) | (simp; done) | (simp; omega)
      simp only [Act.put, PU]
      refine F_val (i := 10) (v := .slice PA pl pc) SU.out rfl (by kernel_rfl) HS.out rfl (fun W hS => ?_) ?_
      · obtain rfl := hS
        go_simp
        first | done | rfl | (exact HW1.out) | (rw [HW1.out]; done) | (have := HSNI.out; omega) | (exact HSUM.out) | (simp [HSUM.out]; done) | omega | (exact IntWalk.i64_in _ (by omega)) | (simp; done) | (simp; omega)
      simp only [Act.put, PU]
      refine F_str (i := 11) 22 9 (.tmp 88) SU.out rfl rfl 5 Try.underlying22 Try.underlying5 Try.underlying9 PA pl pc (by first | rfl | (simp [Act.eval]; done)) p (fun W hS => by rw [hS]; exact HE2.out) HPL.out.symm (by kernel_rfl) HS.out rfl ?_
      rw [← HS1'.out]
      simp only [Act.put, PU]
      refine F_val (i := 12) (v := .string (S0 ++ S1)) SU.out rfl (by kernel_rfl) HS.out rfl (fun W hS => ?_) ?_
      · obtain rfl := hS
        go_simp
        first | done | rfl | (exact HW1.out) | (rw [HW1.out]; done) | (have := HSNI.out; omega) | (exact HSUM.out) | (simp [HSUM.out]; done) | omega | (exact IntWalk.i64_in _ (by omega)) | (simp; done) | (simp; omega)
      simp only [Act.put, PU]
      refine F_val (i := 13) (v := .slice D M cd) SU.out rfl (by kernel_rfl) HS.out rfl (fun W hS => ?_) ?_
      · obtain rfl := hS
        go_simp
        first | done | rfl | (exact HW1.out) | (rw [HW1.out]; done) | (have := HSNI.out; omega) | (exact HSUM.out) | (simp [HSUM.out]; done) | omega | (exact IntWalk.i64_in _ (by omega)) | (simp; done) | (simp; omega)
      simp only [Act.put, PU]
      refine F_str (i := 14) 22 9 (.tmp 91) SU.out rfl rfl 5 Try.underlying22 Try.underlying5 Try.underlying9 D M cd (by first | rfl | (simp [Act.eval]; done)) tx (fun W hS => by rw [hS]; exact HD5.out) HM.out.symm (by kernel_rfl) HS.out rfl ?_
      rw [← HS2'.out]
      simp only [Act.put, PU]
      refine F_val (i := 15) (v := .bool true) SU.out rfl (by kernel_rfl) HS.out rfl (fun W hS => ?_) ?_
      · obtain rfl := hS
        go_simp
        first | done | rfl | (exact HW1.out) | (rw [HW1.out]; done) | (have := HSNI.out; omega) | (exact HSUM.out) | (simp [HSUM.out]; done) | omega | (exact IntWalk.i64_in _ (by omega)) | (simp; done) | (simp; omega)
      simp only [Act.put, PU]
      refine F_val (i := 16) (v := .bool true) SU.out rfl (by kernel_rfl) HS.out rfl (fun W hS => ?_) ?_
      · obtain rfl := hS
        go_simp
        first | done | rfl | (exact HW1.out) | (rw [HW1.out]; done) | (have := HSNI.out; omega) | (exact HSUM.out) | (simp [HSUM.out]; done) | omega | (exact IntWalk.i64_in _ (by omega)) | (simp; done) | (simp; omega)
      simp only [Act.put, PU]
      refine wpAnyF_all (rs := [17]) (by kernel_rfl) (by simp) (fun w' hG => ?_)
      obtain rfl := hG
      refine allF.head rfl rfl (fun K9 hK9 => ?_) allF.nil
      go_simp
      refine hK9.out _ _ (.inl rfl) ?_
      clear hK9 K9
      refine wpAnyF_done (by kernel_rfl) (fun w' hG => ?_)
      obtain rfl := hG
      clear SU HS
      go_wp2_with fail
      refine ⟨by simp, .inl ⟨_, _, rfl, run_takeDeferred y1, ⟨.bool true, ?_, rfl, y3⟩⟩⟩
      simp [results, Try.results5, go_sem, y2]
set_option maxRecDepth 100000 in
theorem matchParts_open {H : Type} {enc : TypeId × Value → H} (W : World) (base : Nat) (v0 : Value) (d0 : DataW H) (p0 : List MemPlace) (v1 : Value) (d1 : DataW H) (p1 : List MemPlace)
    (k0 : Value.okWide Try.prog W .any base 22 v0) (k1 : Value.okWide Try.prog W .any base 22 v1)
    (h0 : DataW.Trod enc Try.prog W 0 (fun _ => true) true 22 v0 d0 p0) (h1 : DataW.Trod enc Try.prog W 0 (fun _ => true) true 22 v1 d1 p1) (hg : GlobOk W) :
    Calls Try.prog 5 #[v0, v1] W fun e W' => e = .returned (.bool true) ∧ Below W.heap.size W W' := by
  obtain ⟨A1, c1, b1, rfl, g1, g2, g3, g4⟩ := arg_bytes k0 h0
  obtain ⟨A2, c2, b2, rfl, f1, f2, f3, f4⟩ := arg_bytes k1 h1
  exact (matchParts_walk hg g4 g1 g3 g2 f4 f1 f3 (fun a ha => by subst ha; exact arg_lt k1)).mono fun e W' ⟨h1, h2⟩ => ⟨h1, h2.below_nil⟩
end Go.Proofs.Ytekfpipgcpkejaa
