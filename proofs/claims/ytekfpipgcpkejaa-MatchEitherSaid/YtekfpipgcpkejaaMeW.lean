/-
  The law MatchEither. No conditions but the frame's. (Printed by a program of the prover's.)
-/
import Derived.Test.YtekfpipgcpkejaaGo
import Derived.Test.YtekfpipgcpkejaaArg
import Derived.Test.YtekfpipgcpkejaaMyB
import Derived.Test.YtekfpipgcpkejaaGr
namespace Go.Proofs.Ytekfpipgcpkejaa
open Go.RowKit
set_option linter.unusedVariables false
set_option linter.unusedSimpArgs false

def Fnd (W0 : World) (fb : Nat) (A : Option Addr) (n c : Nat) (v : Value) : Prop := ∀ W, Fr [] W0 W → Calls Try.prog 14 #[.pointer (some ⟨fb, 0, none⟩), .slice A n c, .int .i64 0] W fun e w' => e = .returned v ∧ Fr [] W w'
set_option maxRecDepth 100000 in
theorem Fnd.mk_ {W0 : World} {lo fb : Nat} {L : List Sp} {A : Option Addr} {tx : List UInt8} {n c : Nat} (hn : n = tx.length) (h : FinderAt W0 lo fb L) (hL : FdL L) (ht : Bytes W0 A tx) (htc : tx.length ≤ c) (htl : ∀ a, A = some a → a.block < W0.heap.size) (htx : n ≤ 10000) (r : Option (Nat × Nat)) (hr : findS L tx 0 = r) : Fnd W0 fb A n c (found3 r) := by
  unfold Fnd
  intro W hW
  have h := find_at (w := W) (c2 := c) n 0 hn.symm r hr (h.fr hW) hL (ht.fr hW (by simp)) (by omega) (fun x hx => Nat.lt_of_lt_of_le (htl x hx) hW.size) htx (Nat.zero_le _)
  rw [show ((0 : Nat) : Int) = 0 from rfl] at h
  exact h
set_option maxRecDepth 100000 in
set_option maxHeartbeats 16000000 in
theorem matchEither_walk {w : World} (hg : GlobOk w) {A B D : Option Addr} {a b tx : List UInt8} {ca cb cd : Nat} (ha : Bytes w A a) (hac : a.length ≤ ca) (hna : A = none → ca = 0) (hma : ca ≤ maxLen) (hb : Bytes w B b) (hbc : b.length ≤ cb) (hnb : B = none → cb = 0) (hmb : cb ≤ maxLen)
    (ht : Bytes w D tx) (htc : tx.length ≤ cd) (htl : ∀ x, D = some x → x.block < w.heap.size) :
    Calls Try.prog 7 #[.slice A a.length ca, .slice B b.length cb, .slice D tx.length cd] w fun e w' => e = .returned (.bool true) ∧ Fr [] w w' := by
  obtain ⟨la, hla⟩ : ∃ L, L = a.length := ⟨_, rfl⟩
  obtain ⟨lb, hlb⟩ : ∃ L, L = b.length := ⟨_, rfl⟩
  obtain ⟨M, hM⟩ : ∃ M, M = tx.length := ⟨_, rfl⟩
  have HG := Lib.hid hg; have HA := Lib.hid ha; have HAC := Lib.hid hac; have HNA := Lib.hid hna; have HMA := Lib.hid hma; have HB := Lib.hid hb; have HBC := Lib.hid hbc; have HNB := Lib.hid hnb; have HMB := Lib.hid hmb; have HT := Lib.hid ht; have HTC := Lib.hid htc; have HTL := Lib.hid htl
  have Hla := Lib.hid hla; have Hlb := Lib.hid hlb; have HM := Lib.hid hM
  rw [← hla, ← hlb, ← hM]
  obtain ⟨i0, hi0, hz0, hz1, hz2⟩ := u8parts
  clear hg ha hac hna hma hb hbc hnb hmb ht htc htl hla hlb hM
  go_enter Try.func7, Try.ntmps7
  go_upto_region 3 with (go_at_call 12; refine (awake_any HG.out).mono ?_; rintro e w0 ⟨rfl, hf⟩; have HF0 := Lib.hid hf; clear hf)
  go_upto_region 4 with (first
      | (go_at_call 13; refine (made_v la Hla.out.symm (HA.out.fr HF0.out (by simp)) (by have := HAC.out; have := Hla.out; omega) HNA.out HMA.out (HG.out.fr HF0.out)).mono ?_; rintro e w1a ⟨v1, C1, rfl, hC, hC1, hf, hv⟩; have HC1 := Lib.hid hC; have HO1 := Lib.hid hC1; have HFa1 := Lib.hid (HF0.out.trans hf); have HV1 := Lib.hid hv; clear hC hC1 hf hv)
      | (refine wpList_alloc_bk rfl 29 rfl zeroPC 260 rp_zero ?_; intro w1b hzA hfA; have HZ1 := Lib.hid hzA; have HFb1 := Lib.hid hfA; clear hzA hfA)
      | (refine wpList_store_bk rfl 29 _ _ rfl w1a.heap.size C1 rfl rfl _ _ HZ1.out (by rw [HC1.out]; exact rp_size) (by rw [HC1.out, List.size_toArray, zeroPC_len]) HO1.out ?_; intro w1c hzS hfS; have HFc1 : Hid (Fr [] w1a w1c) := Lib.hid (HFb1.out.trans' hfS (by simp)); clear hzS hfS; have HF1 := Lib.hid (HFa1.out.trans HFc1.out)))
  go_upto_region 5 with (first
      | (go_at_call 13; refine (made_v lb Hlb.out.symm (HB.out.fr HF1.out (by simp)) (by have := HBC.out; have := Hlb.out; omega) HNB.out HMB.out (HG.out.fr HF1.out)).mono ?_; rintro e w2a ⟨v2, C2, rfl, hC, hC1, hf, hv⟩; have HC2 := Lib.hid hC; have HO2 := Lib.hid hC1; have HFa2 := Lib.hid (HF1.out.trans hf); have HF1t := Lib.hid hf; have HV2 := Lib.hid hv; clear hC hC1 hf hv)
      | (refine wpList_alloc_bk rfl 29 rfl zeroPC 260 rp_zero ?_; intro w2b hzA hfA; have HZ2 := Lib.hid hzA; have HFb2 := Lib.hid hfA; clear hzA hfA)
      | (refine wpList_store_bk rfl 29 _ _ rfl w2a.heap.size C2 rfl rfl _ _ HZ2.out (by rw [HC2.out]; exact rp_size) (by rw [HC2.out, List.size_toArray, zeroPC_len]) HO2.out ?_; intro w2c hzS hfS; have HFc2 : Hid (Fr [] w2a w2c) := Lib.hid (HFb2.out.trans' hfS (by simp)); clear hzS hfS; have HF2 := Lib.hid (HFa2.out.trans HFc2.out)))
  rcases HV1.out with rfl | ⟨t1, f1, rfl, h60, hp1, hfd1, hfa1⟩
  · go_wp2_with fail
    go_ret
    exact ⟨rfl, HF2.out⟩
  rcases HV2.out with rfl | ⟨t2, f2, rfl, h60', hp2, hfd2, hfa2⟩
  · go_wp2_with fail
    go_ret
    exact ⟨rfl, HF2.out⟩
  have hmid : Fr [] w1a w2c := by
    have h1 := HFc1.out
    exact h1.trans (HF1t.out.trans HFc2.out)
  have HP1 := Lib.hid hp1; have HP2 := Lib.hid hp2; have HD1 := Lib.hid hfd1; have HD2 := Lib.hid hfd2; have HFI1 := Lib.hid (hfa1.fr hmid); have HFI2 := Lib.hid (hfa2.fr HFc2.out)
  clear hfa1 hfa2 hfd1 hfd2 hp1 hp2 h60 h60' HV1 HV2 hmid
  by_cases ga : 29 < la
  · have gaI : (29 : Int) < (la : Int) := by omega
    go_wp2_with fail
    go_ret
    exact ⟨rfl, HF2.out⟩
  have gaI : ¬ ((29 : Int) < (la : Int)) := by omega
  by_cases gb : 29 < lb
  · have gbI : (29 : Int) < (lb : Int) := by omega
    go_wp2_with fail
    go_ret
    exact ⟨rfl, HF2.out⟩
  have gbI : ¬ ((29 : Int) < (lb : Int)) := by omega
  by_cases gm : 60 < M
  · have gmI : (60 : Int) < (M : Int) := by omega
    go_wp2_with fail
    go_ret
    exact ⟨rfl, HF2.out⟩
  have gmI : ¬ ((60 : Int) < (M : Int)) := by omega
  have HMZ := Lib.hid (own_new w2c [] (by simp))
  have hla60 : a.length = la := Hla.out.symm
  have hlb60 : b.length = lb := Hlb.out.symm
  go_upto_region 7 with fail
  clear gaI gbI gmI
  go_upto_region 8 with (first
          | (at_builtin; refine wpList_append_Own rfl (.tmp 56) (.tmp 57) 22 rfl 5 i0 _ Try.underlying22 hi0 hz0 hz1 rfl (.slice (some ⟨w2c.heap.size, 0, none⟩) 0 0) (byteVals ([])) (by first | rfl | (simp [Act.eval]; done)) (HMZ.out.1) A la ca (by first | rfl | (simp [Act.eval]; done)) (byteVals a) (HA.out.fr_nil (HF2.out.trans HMZ.out.2.2)) (by rw [byteVals_length]; exact Hla.out.symm) (byteVals_one _) (len_ok _ _ hz2 (by simp only [List.length_append, List.length_cons, List.length_nil]; omega)).1 (len_ok _ _ hz2 (by simp only [List.length_append, List.length_cons, List.length_nil]; omega)).2 ?_; intro u1 x1 hown hgr hat; have HM1 := Lib.hid (MyB.cat HMZ.out hown hgr hat); clear hown hgr hat)
          | (at_builtin; refine wpList_append_Own rfl (.tmp 58) (.tmp 59) 22 rfl 5 i0 _ Try.underlying22 hi0 hz0 hz1 rfl (u1) (byteVals ([] ++ a)) (by first | rfl | (simp [Act.eval]; done)) ((HM1.out.alloc _).1) (some ⟨x1.heap.size, 0, none⟩) 1 1 (by first | rfl | (simp [Act.eval]; done)) ([.int .u8 124]) (one_byte _ _) rfl (by simp [Value.oneCell']) (len_ok _ _ hz2 (by simp only [List.length_append, List.length_cons, List.length_nil]; omega)).1 (len_ok _ _ hz2 (by simp only [List.length_append, List.length_cons, List.length_nil]; omega)).2 ?_; intro u2 x2 hown hgr hat; have HM2 := Lib.hid (MyB.snoc (x := 124) HM1.out hown hgr hat); clear hown hgr hat)
          | (at_builtin; refine wpList_append_Own rfl (.tmp 60) (.tmp 61) 22 rfl 5 i0 _ Try.underlying22 hi0 hz0 hz1 rfl (u2) (byteVals ([] ++ a ++ [124])) (by first | rfl | (simp [Act.eval]; done)) (HM2.out.1) B lb cb (by first | rfl | (simp [Act.eval]; done)) (byteVals b) (HB.out.fr_nil (HF2.out.trans HM2.out.2.2)) (by rw [byteVals_length]; exact Hlb.out.symm) (byteVals_one _) (len_ok _ _ hz2 (by simp only [List.length_append, List.length_cons, List.length_nil]; omega)).1 (len_ok _ _ hz2 (by simp only [List.length_append, List.length_cons, List.length_nil]; omega)).2 ?_; intro u3 x3 hown hgr hat; have HM3 := Lib.hid (MyB.cat HM2.out hown hgr hat); clear hown hgr hat; have hm3e := HM3.out; rw [show (([] : List UInt8) ++ a ++ [124] ++ b) = a ++ 124 :: b by simp] at hm3e; obtain ⟨A3, c3, rfl, hb3, hl3, hm3, hn3, hf3⟩ := hm3e.form; have HF63 := Lib.hid hf3; clear hm3e HM3; have HB3 := Lib.hid hb3; have HL3 := Lib.hid hl3; have HMM3 := Lib.hid hm3; have HN3 := Lib.hid hn3; have HF9 := Lib.hid (HF2.out.trans hf3); clear hb3 hl3 hm3 hn3 hf3)
          | (go_at_call 13; refine (made_v _ (byteVals_length _).symm HB3.out HL3.out HN3.out HMM3.out (HG.out.fr HF9.out)).mono ?_; rintro e w3a ⟨v3, C3, rfl, hC, hC1, hf, hv⟩; have HC3 := Lib.hid hC; have HO3 := Lib.hid hC1; have HFa3 := Lib.hid (HF9.out.trans hf); have HFx3 := Lib.hid (HF63.out.trans hf); have HV3 := Lib.hid hv; clear hC hC1 hf hv)
          | (refine wpList_alloc_bk rfl 29 rfl zeroPC 260 rp_zero ?_; intro w3b hzA hfA; have HZ3 := Lib.hid hzA; have HFb3 := Lib.hid hfA; clear hzA hfA)
          | (refine wpList_store_bk rfl 29 _ _ rfl w3a.heap.size C3 rfl rfl _ _ HZ3.out (by rw [HC3.out]; exact rp_size) (by rw [HC3.out, List.size_toArray, zeroPC_len]) HO3.out ?_; intro w3c hzS hfS; have HFc3 : Hid (Fr [] w3a w3c) := Lib.hid (HFb3.out.trans' hfS (by simp)); clear hzS hfS; have HF3 := Lib.hid (HFa3.out.trans HFc3.out); have HFx := Lib.hid (HFx3.out.trans HFc3.out)))
  clear hla60 hlb60 HMZ HM1 HM2 HB3 HL3 HMM3 HN3
  rcases HV3.out with rfl | ⟨t3, f3, rfl, h60, hp3, hfd3, hfa3⟩
  · go_wp2_with fail
    go_ret
    exact ⟨rfl, HF3.out⟩
  have heq := either_find (by have := Hla.out; omega) (by have := Hlb.out; omega) HP1.out HP2.out hp3 HD1.out HD2.out hfd3 tx
  have htx : Bytes w3c D tx := HT.out.fr HF3.out (by simp)
  have hin : ∀ x, D = some x → x.block < w3c.heap.size := fun x hx => Nat.lt_of_lt_of_le (HTL.out x hx) HF3.out.size
  have H1 := Lib.hid (Fnd.mk_ HM.out (HFI1.out.fr HFx.out) HD1.out htx HTC.out hin (by omega) _ rfl)
  have H2 := Lib.hid (Fnd.mk_ HM.out (HFI2.out.fr HFx.out) HD2.out htx HTC.out hin (by omega) _ rfl)
  have H3 := Lib.hid (Fnd.mk_ HM.out (hfa3.fr HFc3.out) hfd3 htx HTC.out hin (by omega) _ heq)
  clear hp3 hfd3 hfa3 HV3 h60 heq htx hin
  obtain ⟨r1, hr1⟩ : ∃ r, r = findS (progT t1) tx 0 := ⟨_, rfl⟩
  obtain ⟨r2, hr2⟩ : ∃ r, r = findS (progT t2) tx 0 := ⟨_, rfl⟩
  rw [← hr1] at H1 H3
  rw [← hr2] at H2 H3
  clear hr1 hr2 HFI1 HFI2 HP1 HP2 HD1 HD2
  go_upto_region 10 with fail
  cases r1
  case' none => cases r2
  case' some p =>
    obtain ⟨s, e1⟩ := p
    cases r2
    case' some q =>
      obtain ⟨t, e2⟩ := q
      unfold eitherS at H3
      dsimp only at H3
      by_cases k1 : t < s
      case' pos =>
        rw [if_pos (.inl k1)] at H3
        have h1 : (t : Int) < (s : Int) := by omega
      case' neg =>
        have h1 : ¬ ((t : Int) < (s : Int)) := by omega
        by_cases k2 : t = s
        case' neg =>
          rw [if_neg (by omega)] at H3
          have h2 : ((t : Int) == (s : Int)) = false := by simp; omega
        case' pos =>
          have h2 : ((t : Int) == (s : Int)) = true := by simp; omega
          by_cases k3 : e1 < e2
          case' pos =>
            rw [if_pos (.inr ⟨k2, k3⟩)] at H3
            have h3 : (e1 : Int) < (e2 : Int) := by omega
          case' neg =>
            rw [if_neg (by omega)] at H3
            have h3 : ¬ ((e1 : Int) < (e2 : Int)) := by omega
        clear k2
      clear k1
  all_goals
    try dsimp only [eitherS] at H3
    dsimp only [found3] at H1 H2 H3
    go_upto_region 11 with (go_at_call 14; refine (H1.out _ (Fr.refl [] _)).mono ?_; rintro e y1 ⟨rfl, hf⟩; have HG1 := Lib.hid hf)
    go_upto_region 12 with (go_at_call 14; refine (H2.out _ HG1.out).mono ?_; rintro e y2 ⟨rfl, hf⟩; have HG2 := Lib.hid (HG1.out.trans hf); clear hf)
    go_upto_region 13 with (go_at_call 14; refine (H3.out _ HG2.out).mono ?_; rintro e y3 ⟨rfl, hf⟩; have HG3 := Lib.hid (HF3.out.trans (HG2.out.trans hf)); clear hf)
    go_wp2_with fail
    go_ret
    exact ⟨rfl, HG3.out⟩
set_option maxRecDepth 100000 in
theorem matchEither_open {H : Type} {enc : TypeId × Value → H} (W : World) (base : Nat) (v0 : Value) (d0 : DataW H) (p0 : List MemPlace) (v1 : Value) (d1 : DataW H) (p1 : List MemPlace) (v2 : Value) (d2 : DataW H) (p2 : List MemPlace)
    (k0 : Value.okWide Try.prog W .any base 22 v0) (k1 : Value.okWide Try.prog W .any base 22 v1) (k2 : Value.okWide Try.prog W .any base 22 v2)
    (h0 : DataW.Trod enc Try.prog W 0 (fun _ => true) true 22 v0 d0 p0) (h1 : DataW.Trod enc Try.prog W 0 (fun _ => true) true 22 v1 d1 p1) (h2 : DataW.Trod enc Try.prog W 0 (fun _ => true) true 22 v2 d2 p2) (hg : GlobOk W) :
    Calls Try.prog 7 #[v0, v1, v2] W fun e W' => e = .returned (.bool true) ∧ Below W.heap.size W W' := by
  obtain ⟨A1, c1, b1, rfl, g1, g2, g3, g4⟩ := arg_bytes k0 h0
  obtain ⟨A2, c2, b2, rfl, f1, f2, f3, f4⟩ := arg_bytes k1 h1
  obtain ⟨A3, c3, b3, rfl, e1, e2, e3, e4⟩ := arg_bytes k2 h2
  exact (matchEither_walk hg g4 g1 g3 g2 f4 f1 f3 f2 e4 e1 (fun a ha => by subst ha; exact arg_lt k2)).mono fun e W' ⟨h1, h2⟩ => ⟨h1, h2.below_nil⟩
end Go.Proofs.Ytekfpipgcpkejaa
