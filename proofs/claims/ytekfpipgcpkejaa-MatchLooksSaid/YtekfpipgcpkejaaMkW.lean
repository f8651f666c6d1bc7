/-
  The law MatchLooks. No conditions but the frame's. (Printed by a program of the prover's.)
-/
import Derived.Test.YtekfpipgcpkejaaGo
import Derived.Test.YtekfpipgcpkejaaArg
import Derived.Test.YtekfpipgcpkejaaMyB
import Derived.Test.YtekfpipgcpkejaaLk
namespace Go.Proofs.Ytekfpipgcpkejaa
open Go.RowKit
set_option linter.unusedVariables false
set_option linter.unusedSimpArgs false

def Fnd (W0 : World) (fb : Nat) (A : Option Addr) (n c : Nat) (v : Value) : Prop := ∀ W, Fr [] W0 W → Calls Try.prog 14 #[.pointer (some ⟨fb, 0, none⟩), .slice A n c, .int .i64 0] W fun e w' => e = .returned v ∧ Fr [] W w'
set_option maxRecDepth 100000 in
theorem Fnd.mk_ {W0 : World} {lo fb : Nat} {L : List Sp} {A : Option Addr} {tx : List UInt8} {n c : Nat} (hn : n = tx.length) (h : FinderAt W0 lo fb L) (hL : FdL L) (ht : Bytes W0 A tx) (htc : tx.length ≤ c) (htl : ∀ a, A = some a → a.block < W0.heap.size) (htx : n ≤ 10000) (r : Option (Nat × Nat)) (hr : findS L tx 0 = r) : Fnd W0 fb A n c (found3 r) := by
  unfold Fnd
  intro W hW
  have h := find_at (w := W) (c2 := c) n 0 hn.symm r hr (h.fr hW) hL (ht.fr hW (by simp)) (by omega) (fun x hx => Nat.lt_of_lt_of_le (htl x hx) hW.size) htx (Nat.zero_le _)
  rw [show ((0 : Nat) : Int) = 0 from rfl] at h
  exact h
def Lkd (W0 : World) (fb : Nat) (A : Option Addr) (n c : Nat) (v : Value) : Prop := ∀ W, Fr [] W0 W → Calls Try.prog 24 #[.pointer (some ⟨fb, 0, none⟩), .slice A n c] W fun e w' => e = .returned v ∧ Fr [] W w'
theorem Lkd.mk_ {W0 : World} {lo fb : Nat} {L : List Sp} {A : Option Addr} {tx : List UInt8} {n c : Nat} (hn : n = tx.length) (h : FinderAt W0 lo fb L) (hL : FdL L) (ht : Bytes W0 A tx) (htc : tx.length ≤ c) (htl : ∀ a, A = some a → a.block < W0.heap.size) (htx : n ≤ 10000) (r : Option (Nat × Nat)) (hr : lookS L tx = r) : Lkd W0 fb A n c (found3 r) := by
  unfold Lkd
  intro W hW
  subst hn hr
  exact Look_any (h.fr hW) (ht.fr hW (by simp)) htc (fun x hx => Nat.lt_of_lt_of_le (htl x hx) hW.size) hL.2.1 hL.2.2 hL.1 htx
theorem MyB.below {w wr : World} {v : Value} {bs : List UInt8} (h : MyB w wr v bs) : ∀ A n c, v = .slice A n c → ∀ a, A = some a → a.block < wr.heap.size := by
  rintro A n c rfl a rfl
  exact h.1.lt a.block (by simp [Value.ownBlock])
set_option maxRecDepth 100000 in
set_option maxHeartbeats 16000000 in
theorem matchLooks_walk {w : World} (hg : GlobOk w) {A B D : Option Addr} {a b tx : List UInt8} {ca cb cd : Nat} (ha : Bytes w A a) (hac : a.length ≤ ca) (hna : A = none → ca = 0) (hma : ca ≤ maxLen) (ht : Bytes w D tx) (htc : tx.length ≤ cd) (htl : ∀ x, D = some x → x.block < w.heap.size)
    (hb : Bytes w B b) (hbc : b.length ≤ cb) :
    Calls Try.prog 10 #[.slice A a.length ca, .slice D tx.length cd, .slice B b.length cb] w fun e w' => e = .returned (.bool true) ∧ Fr [] w w' := by
  obtain ⟨la, hla⟩ : ∃ L, L = a.length := ⟨_, rfl⟩
  obtain ⟨lb, hlb⟩ : ∃ L, L = b.length := ⟨_, rfl⟩
  obtain ⟨M, hM⟩ : ∃ M, M = tx.length := ⟨_, rfl⟩
  have HG := Lib.hid hg; have HA := Lib.hid ha; have HAC := Lib.hid hac; have HNA := Lib.hid hna; have HMA := Lib.hid hma; have HB := Lib.hid hb; have HBC := Lib.hid hbc; have HT := Lib.hid ht; have HTC := Lib.hid htc; have HTL := Lib.hid htl
  have Hla := Lib.hid hla; have Hlb := Lib.hid hlb; have HM := Lib.hid hM
  rw [← hla, ← hlb, ← hM]
  obtain ⟨i0, hi0, hz0, hz1, hz2⟩ := u8parts
  clear hg ha hac hna hma hb hbc ht htc htl hla hlb hM
  go_enter Try.func10, Try.ntmps10
  go_upto_region 3 with (go_at_call 12; refine (awake_any HG.out).mono ?_; rintro e w0 ⟨rfl, hf⟩; have HF0 := Lib.hid hf; clear hf)
  go_upto_region 4 with (first
      | (go_at_call 13; refine (made_v la Hla.out.symm (HA.out.fr HF0.out (by simp)) (by have := HAC.out; have := Hla.out; omega) HNA.out HMA.out (HG.out.fr HF0.out)).mono ?_; rintro e w1a ⟨v1, C1, rfl, hC, hC1, hf, hv⟩; have HC1 := Lib.hid hC; have HO1 := Lib.hid hC1; have HFa1 := Lib.hid (HF0.out.trans hf); have HV1 := Lib.hid hv; clear hC hC1 hf hv)
      | (refine wpList_alloc_bk rfl 29 rfl zeroPC 260 rp_zero ?_; intro w1b hzA hfA; have HZ1 := Lib.hid hzA; have HFb1 := Lib.hid hfA; clear hzA hfA)
      | (refine wpList_store_bk rfl 29 _ _ rfl w1a.heap.size C1 rfl rfl _ _ HZ1.out (by rw [HC1.out]; exact rp_size) (by rw [HC1.out, List.size_toArray, zeroPC_len]) HO1.out ?_; intro w1c hzS hfS; have HFc1 : Hid (Fr [] w1a w1c) := Lib.hid (HFb1.out.trans' hfS (by simp)); clear hzS hfS; have HF1 := Lib.hid (HFa1.out.trans HFc1.out)))
  rcases HV1.out with rfl | ⟨t1, f1, rfl, h60, hp1, hfd1, hfa1⟩
  · go_wp2_with fail
    go_ret
    exact ⟨rfl, HF1.out⟩
  have HD := Lib.hid hfd1; have HFI := Lib.hid (hfa1.fr HFc1.out)
  clear hfa1 hfd1 hp1 h60 HV1
  by_cases gm : 60 < M
  · have gmI : (60 : Int) < (M : Int) := by omega
    go_wp2_with fail
    go_ret
    exact ⟨rfl, HF1.out⟩
  have gmI : ¬ ((60 : Int) < (M : Int)) := by omega
  by_cases gb : 60 < lb
  · have gbI : (60 : Int) < (lb : Int) := by omega
    go_wp2_with fail
    go_ret
    exact ⟨rfl, HF1.out⟩
  have gbI : ¬ ((60 : Int) < (lb : Int)) := by omega
  obtain ⟨q, hq⟩ : ∃ q, q = lookS (progT t1) tx := ⟨_, rfl⟩
  have htx : Bytes w1c D tx := HT.out.fr HF1.out (by simp)
  have hin : ∀ x, D = some x → x.block < w1c.heap.size := fun x hx => Nat.lt_of_lt_of_le (HTL.out x hx) HF1.out.size
  have h1 := Look_any HFI.out htx HTC.out hin HD.out.2.1 HD.out.2.2 HD.out.1 (by have := HM.out; omega)
  rw [← hq, ← HM.out] at h1
  have H1 := Lib.hid h1; have HQ := Lib.hid hq
  clear h1 htx hin hq
  rcases q with _ | ⟨s, z⟩
  · dsimp only [found3] at H1
    go_upto_region 6 with fail
    clear gmI gbI
    go_upto_region 7 with (go_at_call 24; refine H1.out.mono ?_; rintro e w2 ⟨rfl, hf⟩; have HF2 := Lib.hid (HF1.out.trans hf); have HFI2 := Lib.hid (HFI.out.fr hf); clear hf)
    have HMZ := Lib.hid (own_new w2 [] (by simp))
    have hlt60 : tx.length = M := HM.out.symm
    have hlb60 : b.length = lb := Hlb.out.symm
    go_upto_region 8 with (first
    | (at_builtin; refine wpList_append_Own rfl (.tmp 45) (.tmp 46) 22 rfl 5 i0 _ Try.underlying22 hi0 hz0 hz1 rfl (.slice (some ⟨w2.heap.size, 0, none⟩) 0 0) (byteVals ([])) (by first | rfl | (simp [Act.eval]; done)) (HMZ.out.1) D M cd (by first | rfl | (simp [Act.eval]; done)) (byteVals tx) (HT.out.fr_nil (HF2.out.trans HMZ.out.2.2)) (by rw [byteVals_length]; exact HM.out.symm) (byteVals_one _) (len_ok _ _ hz2 (by simp only [List.length_append, List.length_cons, List.length_nil]; omega)).1 (len_ok _ _ hz2 (by simp only [List.length_append, List.length_cons, List.length_nil]; omega)).2 ?_; intro u1 x1 hown hgr hat; have HM1 := Lib.hid (MyB.cat HMZ.out hown hgr hat); clear hown hgr hat)
    | (at_builtin; refine wpList_append_Own rfl (.tmp 47) (.tmp 48) 22 rfl 5 i0 _ Try.underlying22 hi0 hz0 hz1 rfl (u1) (byteVals ([] ++ tx)) (by first | rfl | (simp [Act.eval]; done)) (HM1.out.1) B lb cb (by first | rfl | (simp [Act.eval]; done)) (byteVals b) (HB.out.fr_nil (HF2.out.trans HM1.out.2.2)) (by rw [byteVals_length]; exact Hlb.out.symm) (byteVals_one _) (len_ok _ _ hz2 (by simp only [List.length_append, List.length_cons, List.length_nil]; omega)).1 (len_ok _ _ hz2 (by simp only [List.length_append, List.length_cons, List.length_nil]; omega)).2 ?_; intro u3 x3 hown hgr hat; have HM3 := Lib.hid (MyB.cat HM1.out hown hgr hat); clear hown hgr hat; have hm3e := HM3.out; rw [show (([] : List UInt8) ++ tx ++ b) = tx ++ b by simp] at hm3e; have HBL := Lib.hid (MyB.below hm3e); obtain ⟨A3, c3, rfl, hb3, hl3, hm3, hn3, hf3⟩ := hm3e.form; have HF3 := Lib.hid (HF2.out.trans hf3); have HFI3 := Lib.hid (HFI2.out.fr hf3); clear hm3e HM3; have HB3 := Lib.hid hb3; have HL3 := Lib.hid hl3; clear hb3 hl3 hm3 hn3 hf3))
    have hlen : (byteVals (tx ++ b)).length = (tx ++ b).length := byteVals_length _
    obtain ⟨N, hN⟩ : ∃ N, N = (byteVals (tx ++ b)).length := ⟨_, rfl⟩
    have hN2 : N = (tx ++ b).length := hN.trans hlen
    have hN3 : N ≤ 10000 := by rw [hN2, List.length_append]; omega
    have hbl : ∀ x, A3 = some x → x.block < x3.heap.size := HBL.out A3 _ c3 rfl
    rw [← hN]
    obtain ⟨r, hr⟩ : ∃ r, r = lookS (progT t1) (tx ++ b) := ⟨_, rfl⟩
    have H3 := Lib.hid (Lkd.mk_ hN2 HFI3.out HD.out HB3.out (by rw [← hlen]; exact HL3.out) hbl hN3 r hr.symm)
    rcases r with _ | ⟨s, z⟩
    · obtain ⟨r2, hr2⟩ : ∃ r, r = findS (progT t1) (tx ++ b) 0 := ⟨_, rfl⟩
      have H2 := Lib.hid (Fnd.mk_ hN2 HFI3.out HD.out HB3.out (by rw [← hlen]; exact HL3.out) hbl hN3 r2 hr2.symm)
      dsimp only [found3] at H3
      clear hlen hN hbl hr hr2 HBL hN2 hlt60 hlb60
      rcases r2 with _ | ⟨s2, z2⟩
      · dsimp only [found3] at H2
        go_upto_region 9 with (go_at_call 14; refine (H2.out _ (Fr.refl [] _)).mono ?_; rintro e y1 ⟨rfl, hf⟩; have HG1 := Lib.hid hf; clear hf)
        go_upto_region 10 with (go_at_call 24; refine (H3.out _ HG1.out).mono ?_; rintro e y2 ⟨rfl, hf⟩; have HG2 := Lib.hid (HF3.out.trans (HG1.out.trans hf)); clear hf)
        go_wp2_with fail
        go_ret
        exact ⟨rfl, HG2.out⟩
      · dsimp only [found3] at H2
        go_upto_region 9 with (go_at_call 14; refine (H2.out _ (Fr.refl [] _)).mono ?_; rintro e y1 ⟨rfl, hf⟩; have HG1 := Lib.hid hf; clear hf)
        go_upto_region 10 with (go_at_call 24; refine (H3.out _ HG1.out).mono ?_; rintro e y2 ⟨rfl, hf⟩; have HG2 := Lib.hid (HF3.out.trans (HG1.out.trans hf)); clear hf)
        go_wp2_with fail
        go_ret
        exact ⟨rfl, HG2.out⟩
    · have hlk := look_ok HD.out.1 HD.out.2.1 hr.symm []
      rw [List.append_nil] at hlk
      have H2 : Hid (Fnd x3 f1 A3 N c3 (.tuple #[.int .i64 (s : Int), .int .i64 (z : Int), .bool true])) := Lib.hid (Fnd.mk_ hN2 HFI3.out HD.out HB3.out (by rw [← hlen]; exact HL3.out) hbl hN3 _ hlk.1)
      dsimp only [found3] at H3
      clear hlen hN hbl hr HBL hlk hN2 hlt60 hlb60
      go_upto_region 9 with (go_at_call 14; refine (H2.out _ (Fr.refl [] _)).mono ?_; rintro e y1 ⟨rfl, hf⟩; have HG1 := Lib.hid hf; clear hf)
      go_upto_region 10 with (go_at_call 24; refine (H3.out _ HG1.out).mono ?_; rintro e y2 ⟨rfl, hf⟩; have HG2 := Lib.hid (HF3.out.trans (HG1.out.trans hf)); clear hf)
      go_wp2_with fail
      go_ret
      exact ⟨rfl, HG2.out⟩
  · dsimp only [found3] at H1
    go_upto_region 6 with fail
    clear gmI gbI
    go_upto_region 7 with (go_at_call 24; refine H1.out.mono ?_; rintro e w2 ⟨rfl, hf⟩; have HF2 := Lib.hid (HF1.out.trans hf); have HFI2 := Lib.hid (HFI.out.fr hf); clear hf)
    have HMZ := Lib.hid (own_new w2 [] (by simp))
    have hlt60 : tx.length = M := HM.out.symm
    have hlb60 : b.length = lb := Hlb.out.symm
    go_upto_region 8 with (first
    | (at_builtin; refine wpList_append_Own rfl (.tmp 45) (.tmp 46) 22 rfl 5 i0 _ Try.underlying22 hi0 hz0 hz1 rfl (.slice (some ⟨w2.heap.size, 0, none⟩) 0 0) (byteVals ([])) (by first | rfl | (simp [Act.eval]; done)) (HMZ.out.1) D M cd (by first | rfl | (simp [Act.eval]; done)) (byteVals tx) (HT.out.fr_nil (HF2.out.trans HMZ.out.2.2)) (by rw [byteVals_length]; exact HM.out.symm) (byteVals_one _) (len_ok _ _ hz2 (by simp only [List.length_append, List.length_cons, List.length_nil]; omega)).1 (len_ok _ _ hz2 (by simp only [List.length_append, List.length_cons, List.length_nil]; omega)).2 ?_; intro u1 x1 hown hgr hat; have HM1 := Lib.hid (MyB.cat HMZ.out hown hgr hat); clear hown hgr hat)
    | (at_builtin; refine wpList_append_Own rfl (.tmp 47) (.tmp 48) 22 rfl 5 i0 _ Try.underlying22 hi0 hz0 hz1 rfl (u1) (byteVals ([] ++ tx)) (by first | rfl | (simp [Act.eval]; done)) (HM1.out.1) B lb cb (by first | rfl | (simp [Act.eval]; done)) (byteVals b) (HB.out.fr_nil (HF2.out.trans HM1.out.2.2)) (by rw [byteVals_length]; exact Hlb.out.symm) (byteVals_one _) (len_ok _ _ hz2 (by simp only [List.length_append, List.length_cons, List.length_nil]; omega)).1 (len_ok _ _ hz2 (by simp only [List.length_append, List.length_cons, List.length_nil]; omega)).2 ?_; intro u3 x3 hown hgr hat; have HM3 := Lib.hid (MyB.cat HM1.out hown hgr hat); clear hown hgr hat; have hm3e := HM3.out; rw [show (([] : List UInt8) ++ tx ++ b) = tx ++ b by simp] at hm3e; have HBL := Lib.hid (MyB.below hm3e); obtain ⟨A3, c3, rfl, hb3, hl3, hm3, hn3, hf3⟩ := hm3e.form; have HF3 := Lib.hid (HF2.out.trans hf3); have HFI3 := Lib.hid (HFI2.out.fr hf3); clear hm3e HM3; have HB3 := Lib.hid hb3; have HL3 := Lib.hid hl3; clear hb3 hl3 hm3 hn3 hf3))
    have hlen : (byteVals (tx ++ b)).length = (tx ++ b).length := byteVals_length _
    obtain ⟨N, hN⟩ : ∃ N, N = (byteVals (tx ++ b)).length := ⟨_, rfl⟩
    have hN2 : N = (tx ++ b).length := hN.trans hlen
    have hN3 : N ≤ 10000 := by rw [hN2, List.length_append]; omega
    have hbl : ∀ x, A3 = some x → x.block < x3.heap.size := HBL.out A3 _ c3 rfl
    rw [← hN]
    have hlk := look_ok HD.out.1 HD.out.2.1 HQ.out.symm b
    have H2 : Hid (Fnd x3 f1 A3 N c3 (.tuple #[.int .i64 (s : Int), .int .i64 (z : Int), .bool true])) := Lib.hid (Fnd.mk_ hN2 HFI3.out HD.out HB3.out (by rw [← hlen]; exact HL3.out) hbl hN3 _ hlk.1)
    have H3 : Hid (Lkd x3 f1 A3 N c3 (.tuple #[.int .i64 (s : Int), .int .i64 (z : Int), .bool true])) := Lib.hid (Lkd.mk_ hN2 HFI3.out HD.out HB3.out (by rw [← hlen]; exact HL3.out) hbl hN3 _ hlk.2)
    clear hlen hN hbl HBL hlk HQ hN2 hlt60 hlb60
    go_upto_region 9 with (go_at_call 14; refine (H2.out _ (Fr.refl [] _)).mono ?_; rintro e y1 ⟨rfl, hf⟩; have HG1 := Lib.hid hf; clear hf)
    go_upto_region 10 with (go_at_call 24; refine (H3.out _ HG1.out).mono ?_; rintro e y2 ⟨rfl, hf⟩; have HG2 := Lib.hid (HF3.out.trans (HG1.out.trans hf)); clear hf)
    go_wp2_with fail
    go_ret
    exact ⟨rfl, HG2.out⟩
set_option maxRecDepth 100000 in
theorem matchLooks_open {H : Type} {enc : TypeId × Value → H} (W : World) (base : Nat) (v0 : Value) (d0 : DataW H) (p0 : List MemPlace) (v1 : Value) (d1 : DataW H) (p1 : List MemPlace) (v2 : Value) (d2 : DataW H) (p2 : List MemPlace)
    (k0 : Value.okWide Try.prog W .any base 22 v0) (k1 : Value.okWide Try.prog W .any base 22 v1) (k2 : Value.okWide Try.prog W .any base 22 v2)
    (h0 : DataW.Trod enc Try.prog W 0 (fun _ => true) true 22 v0 d0 p0) (h1 : DataW.Trod enc Try.prog W 0 (fun _ => true) true 22 v1 d1 p1) (h2 : DataW.Trod enc Try.prog W 0 (fun _ => true) true 22 v2 d2 p2) (hg : GlobOk W) :
    Calls Try.prog 10 #[v0, v1, v2] W fun e W' => e = .returned (.bool true) ∧ Below W.heap.size W W' := by
  obtain ⟨A1, c1, b1, rfl, g1, g2, g3, g4⟩ := arg_bytes k0 h0
  obtain ⟨A2, c2, b2, rfl, f1, f2, f3, f4⟩ := arg_bytes k1 h1
  obtain ⟨A3, c3, b3, rfl, e1, e2, e3, e4⟩ := arg_bytes k2 h2
  exact (matchLooks_walk hg g4 g1 g3 g2 f4 f1 (fun a ha => by subst ha; exact arg_lt k1) e4 e1).mono fun e W' ⟨h1, h2⟩ => ⟨h1, h2.below_nil⟩
end Go.Proofs.Ytekfpipgcpkejaa
