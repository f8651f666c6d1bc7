/-
 The law MatchOf. No conditions but the frame's. (Printed by a program of the prover's.)
-/
import Derived.Test.YtekfpipgcpkejaaGt
import Derived.Test.YtekfpipgcpkejaaArg
namespace Go.Proofs.Ytekfpipgcpkejaa
open Go.RowKit Go.ChangeMaps
set_option linter.unusedVariables false
set_option linter.unusedSimpArgs false
def MadeO (w w2 : World) (bs : List UInt8) (v : Value) : Prop := v = .pointer none ∨ ∃ (t : RT) (fb : Nat), v = .pointer (some ⟨fb, 0, none⟩) ∧ bs.length ≤ 60 ∧ parseS bs = .ok t ∧ sizP (toP t) < 4000 ∧ FinderAt w2 w.heap.size fb (progT t)
theorem made_o {w : World} {A : Option Addr} {bs : List UInt8} {c : Nat} (n : Nat) (hn : bs.length = n) (h : Bytes w A bs) (hc : n ≤ c) (hA : A = none → c = 0) (hcm : c ≤ maxLen) (hg : GlobOk w) : Calls Try.prog 13 #[.slice A n c] w fun e w' => ∃ (v : Value) (C : List Value), e = .returned (.tuple #[v, .agg C.toArray]) ∧ C.length = 260 ∧ (∀ x ∈ C, x.oneCell' = true) ∧ Fr [] w w' ∧ MadeO w w' bs v := by
 subst hn
 refine (made_any h hc hA hcm hg).mono fun e w' hp => ?_
 obtain ⟨hf, he | ⟨t, p, fb, he, h60, hp, hs, hfa, -, -⟩⟩ := hp
 ·exact ⟨_, _, he, zeroPC_len, zeroPC_one, hf, .inl rfl⟩
 ·exact ⟨_, _, he, rcells_len p, rcells_one p, hf, .inr ⟨t, fb, rfl, h60, hp, hs, hfa⟩⟩
theorem comp_ok {w : World} {t : RT} {p : PT} {n : Nat} (hn : NewP n w t p) (hr : rightT t = true) (hc : cntT t ≤ 1199) (hs : sizP (toP t) < 4000) : Calls Try.prog 28 #[p.val] w fun e w' => ∃ (A : Option Addr) (cap : Nat), e = .returned (.tuple #[.slice A (progT t).length cap, .nilIface]) ∧ StAt w' A (progT t) ∧ Fr [] w w' :=
 (comp_read hn hr hc).mono fun e w' h => by
  obtain ⟨hf, ⟨h1, -⟩ | ⟨-, v, he, A, cap, hv, ho⟩⟩ := h
  ·omega
  ·subst hv
   exact ⟨A, cap, he, StAt.of_own ho, hf⟩
theorem found3_any (r : Option (Nat × Nat)) : ∃ (X Y : Int) (K : Bool), found3 r = .tuple #[.int .i64 X, .int .i64 Y, .bool K] := by
 cases r with
 | none => exact ⟨_, _, _, rfl⟩
 | some q => exact ⟨_, _, _, rfl⟩
set_option maxRecDepth 100000 in
set_option maxHeartbeats 16000000 in
theorem matchOf_walk {w : World} (hg : GlobOk w) {A D E : Option Addr} {a tx : List UInt8} {l : List Sp} {ca cd ce : Nat} (ha : Bytes w A a) (hac : a.length ≤ ca) (hna : A = none → ca = 0) (hma : ca ≤ maxLen) (ht : Bytes w D tx) (htc : tx.length ≤ cd) (htl : ∀ x, D = some x → x.block < w.heap.size) (hl : StAt w E l) (hlm : l.length ≤ maxLen) :
    Calls Try.prog 11 #[.slice A a.length ca, .slice D tx.length cd, .slice E l.length ce] w fun e w' => e = .returned (.bool true) ∧ Fr [] w w' := by
 obtain ⟨la, hla⟩ : ∃ L, L = a.length := ⟨_, rfl⟩
 obtain ⟨M, hM⟩ : ∃ M, M = tx.length := ⟨_, rfl⟩
 obtain ⟨N, hN⟩ : ∃ N, N = l.length := ⟨_, rfl⟩
 have HG := Lib.hid hg; have HA := Lib.hid ha; have HAC := Lib.hid hac; have HNA := Lib.hid hna; have HMA := Lib.hid hma; have HT := Lib.hid ht; have HTC := Lib.hid htc; have HTL := Lib.hid htl; have HLS := Lib.hid hl; have HLM := Lib.hid hlm
 have Hla := Lib.hid hla; have HM := Lib.hid hM; have HN := Lib.hid hN
 rw [← hla, ← hM, ← hN]
 clear hg ha hac hna hma ht htc htl hl hlm hla hM hN
 go_enter Try.func11, Try.ntmps11
 go_upto_region 3 with (go_at_call 12; refine (awake_any HG.out).mono ?_; rintro e w0 ⟨rfl, hf⟩; have HF0 := Lib.hid hf; clear hf)
 by_cases gn : 60 < N
 ·have gnI : (60 : Int) < (N : Int) := by omega
  go_wp2_with fail
  go_ret
  exact ⟨rfl, HF0.out⟩
 have gnI : ¬ ((60 : Int) < (N : Int)) := by omega
 obtain ⟨V, hV⟩ : ∃ V, V = validF (okP l.length) false l := ⟨_, rfl⟩
 have hls0 := HLS.out.fr HF0.out
 have ho := Of_any (c := ce) hls0 (by have := HN.out; omega)
 unfold OfPost at ho
 rw [← hV, ← HN.out] at ho
 have HO := Lib.hid ho
 have HVL : Hid (∀ W, Fr [] w0 W → Calls Try.prog 26 #[.slice E N ce] W fun e w' => e = .returned (.bool V) ∧ Fr [] W w') := Lib.hid (fun W hW => by
  have h := valid_any (c := ce) (hls0.fr hW) HLM.out
  rw [← hV, ← HN.out] at h
  exact h)
 clear hls0 ho hV
 cases V
 case' false =>
  have HOF : Hid (Calls Try.prog 25 #[.slice E N ce] w0 fun e w' => e = .returned (.pointer none) ∧ Fr [] w0 w') := Lib.hid (HO.out.mono fun e w' h => ⟨by have h2 := h.2; rw [if_neg (by simp)] at h2; exact h2, h.1⟩)
  clear HO
  go_upto_region 5 with (first
   | (go_at_call 25; refine HOF.out.mono ?_; rintro e wo ⟨rfl, hf⟩; have HFo := Lib.hid hf; clear hf)
   | (go_at_call 26; refine (HVL.out _ HFo.out).mono ?_; rintro e wv ⟨rfl, hf⟩; have HFv := Lib.hid (HF0.out.trans (HFo.out.trans hf)); clear hf))
  clear HOF HFo
 case' true =>
  have HOF : Hid (Calls Try.prog 25 #[.slice E N ce] w0 fun e w' => (∃ fb, e = .returned (.pointer (some ⟨fb, 0, none⟩))) ∧ Fr [] w0 w') := Lib.hid (HO.out.mono fun e w' h => ⟨by have h2 := h.2; rw [if_pos rfl] at h2; obtain ⟨fb, h3, -⟩ := h2; exact ⟨fb, h3⟩, h.1⟩)
  clear HO
  go_upto_region 5 with (first
   | (go_at_call 25; refine HOF.out.mono ?_; rintro e wo ⟨⟨fo, rfl⟩, hf⟩; have HFo := Lib.hid hf; clear hf)
   | (go_at_call 26; refine (HVL.out _ HFo.out).mono ?_; rintro e wv ⟨rfl, hf⟩; have HFv := Lib.hid (HF0.out.trans (HFo.out.trans hf)); clear hf))
  clear HOF HFo
 all_goals
  clear HVL gnI
  go_upto_region 6 with (first
   | (go_at_call 13; refine (made_o la Hla.out.symm (HA.out.fr HFv.out (by simp)) (by have := HAC.out; have := Hla.out; omega) HNA.out HMA.out (HG.out.fr HFv.out)).mono ?_; rintro e w1a ⟨v1, C1, rfl, hC, hC1, hf, hv⟩; have HC1 := Lib.hid hC; have HO1 := Lib.hid hC1; have HFa1 := Lib.hid (HFv.out.trans hf); have HV1 := Lib.hid hv; clear hC hC1 hf hv)
   | (refine wpList_alloc_bk rfl 29 rfl zeroPC 260 rp_zero ?_; intro w1b hzA hfA; have HZ1 := Lib.hid hzA; have HFb1 := Lib.hid hfA; clear hzA hfA)
   | (refine wpList_store_bk rfl 29 _ _ rfl w1a.heap.size C1 rfl rfl _ _ HZ1.out (by rw [HC1.out]; exact rp_size) (by rw [HC1.out, List.size_toArray, zeroPC_len]) HO1.out ?_; intro w1c hzS hfS; have HFc1 : Hid (Fr [] w1a w1c) := Lib.hid (HFb1.out.trans' hfS (by simp)); clear hzS hfS; have HF1 := Lib.hid (HFa1.out.trans HFc1.out)))
  clear HC1 HO1 HZ1
  rcases HV1.out with rfl | ⟨t1, f1, rfl, h60, hp1, hsz, hfa1⟩
  ·go_wp2_with fail
   go_ret
   exact ⟨rfl, HF1.out⟩
  by_cases gm : 60 < M
  ·have gmI : (60 : Int) < (M : Int) := by omega
   go_wp2_with fail
   go_ret
   exact ⟨rfl, HF1.out⟩
  have gmI : ¬ ((60 : Int) < (M : Int)) := by omega
  obtain ⟨hq1, hq2, hq3, hq4, hq5⟩ := parse_prog hp1
  have hval : validF (okP (progT t1).length) false (progT t1) = true := prog_valid hq4 hq5
  obtain ⟨hrt, hct⟩ := parse_good hp1
  have hfd : FdL (progT t1) := fdl_of hp1 hsz
  have hpar := parse_any (c := ca) (HA.out.fr HF1.out (by simp)) HAC.out HNA.out HMA.out (HG.out.fr HF1.out)
  rw [hp1, ← Hla.out] at hpar
  have HPR := Lib.hid hpar; have HRT := Lib.hid hrt; have HSZ := Lib.hid hsz; have HVAL := Lib.hid hval; have HFD := Lib.hid hfd; have HFI := Lib.hid (hfa1.fr HFc1.out)
  have HCT : Hid (cntT t1 ≤ 1199) := Lib.hid (by omega)
  clear hq1 hq2 hq3 hq4 hq5 hval hrt hct hfd hpar hp1 hsz hfa1 h60 HV1
  go_upto_region 8 with fail
  clear gmI
  go_upto_region 9 with (go_at_call 27; refine HPR.out.mono ?_; rintro e w2 ⟨p, rfl, hnp, hf⟩; have HNP := Lib.hid hnp; have HF2 := Lib.hid hf; clear hnp hf; unfold PT.val)
  obtain ⟨PL, hPL⟩ : ∃ n, n = (progT t1).length := ⟨_, rfl⟩
  have hcm := comp_ok (HNP.out.fr_nil ((Fr.refl [] w2).alloc (.cells #[.int .i64 p.k, .int .u64 p.s0, .int .u64 p.s1, .int .u64 p.s2, .int .u64 p.s3, .int .i64 p.mn, .int .i64 p.mx, .slice p.A p.l.length p.c] 67))) HRT.out HCT.out HSZ.out
  rw [← hPL] at hcm
  unfold PT.val at hcm
  have HCM := Lib.hid hcm; have HPL := Lib.hid hPL
  have HF2' := Lib.hid (HF2.out.alloc (.cells #[.int .i64 p.k, .int .u64 p.s0, .int .u64 p.s1, .int .u64 p.s2, .int .u64 p.s3, .int .i64 p.mn, .int .i64 p.mx, .slice p.A p.l.length p.c] 67))
  clear hcm hPL
  go_upto_region 10 with (go_at_call 28; refine HCM.out.mono ?_; rintro e w3 ⟨A4, c4, rfl, hst, hf⟩; have HST := Lib.hid hst; have HF3 := Lib.hid (HF2'.out.trans hf); clear hst hf)
  have ho := Of_any (c := c4) HST.out (by have := HFD.out.2.2; exact this)
  unfold OfPost at ho
  rw [HVAL.out, ← HPL.out] at ho
  simp only [if_true] at ho
  have HO := Lib.hid ho
  clear ho HCM
  go_upto_region 11 with (go_at_call 25; refine HO.out.mono ?_; rintro e w4 ⟨hf, f2, rfl, hfi⟩; have HFI2 := Lib.hid hfi; have HF4 := Lib.hid (HF3.out.trans hf); clear hf hfi)
  have HFI1 := Lib.hid (HFI.out.fr HF4.out)
  have hfw := HF1.out.trans HF4.out
  have htx : Bytes w4 D tx := HT.out.fr hfw (by simp)
  have hin : ∀ x, D = some x → x.block < w4.heap.size := fun x hx => Nat.lt_of_lt_of_le (HTL.out x hx) hfw.size
  obtain ⟨X, Y, K, hXY⟩ := found3_any (findS (progT t1) tx 0)
  obtain ⟨tk, htk⟩ : ∃ tk, tk = takesS (progT t1) tx := ⟨_, rfl⟩
  have hfnd : ∀ (lo fb : Nat), FinderAt w4 lo fb (progT t1) → (∀ W, Fr [] w4 W → Calls Try.prog 14 #[.pointer (some ⟨fb, 0, none⟩), .slice D M cd, .int .i64 0] W fun e w' => e = .returned (.tuple #[.int .i64 X, .int .i64 Y, .bool K]) ∧ Fr [] W w') ∧
      (∀ W, Fr [] w4 W → Calls Try.prog 16 #[.pointer (some ⟨fb, 0, none⟩), .slice D M cd] W fun e w' => e = .returned (.bool tk) ∧ Fr [] W w') := fun lo fb h => by
   refine ⟨fun W hW => ?_, fun W hW => ?_⟩
   ·have h2 := find_at (w := W) (c2 := cd) M 0 HM.out.symm _ rfl (h.fr hW) HFD.out (htx.fr hW (by simp)) (by rw [HM.out]; exact HTC.out) (fun x hx => Nat.lt_of_lt_of_le (hin x hx) hW.size) (by omega) (Nat.zero_le _)
    rw [show ((0 : Nat) : Int) = 0 from rfl, hXY] at h2
    exact h2
   ·exact takes_at (w := W) (c2 := cd) M HM.out.symm tk htk.symm (h.fr hW) HFD.out (htx.fr hW (by simp)) (by rw [HM.out]; exact HTC.out) (fun x hx => Nat.lt_of_lt_of_le (hin x hx) hW.size) (by omega)
  obtain ⟨k1, k2⟩ := hfnd _ _ HFI1.out
  obtain ⟨k3, k4⟩ := hfnd _ _ HFI2.out
  have H1 := Lib.hid k1; have H2 := Lib.hid k2; have H3 := Lib.hid k3; have H4 := Lib.hid k4; have HFW := Lib.hid hfw
  clear hfw htx hin hXY htk hfnd k1 k2 k3 k4 HFI1 HFI2 HO HST HFI
  go_upto_region 13 with fail
  go_upto_region 14 with (go_at_call 14; refine (H1.out _ (Fr.refl [] _)).mono ?_; rintro e y1 ⟨rfl, hf⟩; have HG1 := Lib.hid hf; clear hf)
  go_upto_region 15 with (go_at_call 14; refine (H3.out _ HG1.out).mono ?_; rintro e y2 ⟨rfl, hf⟩; have HG2 := Lib.hid (HG1.out.trans hf); clear hf)
  go_wp2_with (first
   | (go_at_call 16; have HQ := HG3; refine (H4.out _ HG3.out).mono ?_; rintro e y4 ⟨rfl, hf⟩; have HG4 := Lib.hid (HFW.out.trans (HG3.out.trans hf)); clear hf)
   | (go_at_call 16; refine (H2.out _ HG2.out).mono ?_; rintro e y3 ⟨rfl, hf⟩; have HG3 := Lib.hid (HG2.out.trans hf); clear hf))
  go_ret
  exact ⟨rfl, HG4.out⟩
set_option maxRecDepth 100000 in
theorem matchOf_open {H : Type} {enc : TypeId × Value → H} (W : World) (base : Nat) (v0 : Value) (d0 : DataW H) (p0 : List MemPlace) (v1 : Value) (d1 : DataW H) (p1 : List MemPlace) (v2 : Value) (d2 : DataW H) (p2 : List MemPlace)
    (k0 : Value.okWide Try.prog W .any base 22 v0) (k1 : Value.okWide Try.prog W .any base 22 v1) (k2 : Value.okWide Try.prog W .any base 59 v2)
    (h0 : DataW.Trod enc Try.prog W 0 (fun _ => true) true 22 v0 d0 p0) (h1 : DataW.Trod enc Try.prog W 0 (fun _ => true) true 22 v1 d1 p1) (h2 : DataW.Trod enc Try.prog W 0 (fun _ => true) true 59 v2 d2 p2) (hg : GlobOk W) :
    Calls Try.prog 11 #[v0, v1, v2] W fun e W' => e = .returned (.bool true) ∧ Below W.heap.size W W' := by
 obtain ⟨A1, c1, b1, rfl, g1, g2, g3, g4⟩ := arg_bytes k0 h0
 obtain ⟨A2, c2, b2, rfl, f1, f2, f3, f4⟩ := arg_bytes k1 h1
 obtain ⟨A3, c3, L, rfl, e1, e2⟩ := steps_open k2 h2
 exact (matchOf_walk hg g4 g1 g3 g2 f4 f1 (fun a ha => by subst ha; exact arg_lt k1) e2 e1).mono fun e W' ⟨h1, h2⟩ => ⟨h1, h2.below_nil⟩
end Go.Proofs.Ytekfpipgcpkejaa
