/-
  The law MatchLate. No conditions but the frame's.
-/
import Derived.Test.YtekfpipgcpkejaaGo
import Derived.Test.YtekfpipgcpkejaaArg
namespace Go.Proofs.Ytekfpipgcpkejaa
open Go.RowKit
set_option linter.unusedVariables false
set_option linter.unusedSimpArgs false

theorem late_eq {L : List Sp} {tx : List UInt8} {from_ i : Nat} {q : Nat × Nat} (hL : FdL L) (hfr : from_ ≤ tx.length) (h : findS L tx from_ = some q) (h1 : from_ ≤ i) (h2 : i ≤ q.1) : findS L tx i = some q := by
  have F := findS_some hL.1 hL.2.1 hfr h
  have h3 := F.le
  have h4 := F.len
  exact findS_eq hL.1 hL.2.1 (by omega) ⟨h2, F.le, F.len, F.mt, fun t e ht htl hm => F.all t e (by omega) htl hm⟩
theorem late_none {L : List Sp} {tx : List UInt8} {from_ : Nat} (hL : FdL L) (hfr : from_ ≤ tx.length) (h : findS L tx from_ = none) : findS L tx tx.length = none := by
  cases hq : findS L tx tx.length with
  | none => rfl
  | some q =>
    exfalso
    have F := findS_some hL.1 hL.2.1 (Nat.le_refl _) hq
    have h1 := F.fr
    have h2 := F.le
    have h3 := F.len
    exact findS_none hL.1 hL.2.1 hfr h q.1 q.2 (by omega) (by omega) F.mt
set_option maxRecDepth 100000 in
set_option maxHeartbeats 16000000 in
theorem matchLate_walk {w : World} (hg : GlobOk w) {A A2 : Option Addr} {bs tx : List UInt8} {c c2 : Nat} (hb : Bytes w A bs) (hc : bs.length ≤ c) (hA : A = none → c = 0) (hcm : c ≤ maxLen) (ht : Bytes w A2 tx) (htc : tx.length ≤ c2) (htl : ∀ a, A2 = some a → a.block < w.heap.size) (n : Nat) (hn : n < 256) :
    Calls Try.prog 9 #[.slice A bs.length c, .slice A2 tx.length c2, .int .u8 (n : Int)] w fun e w' => e = .returned (.bool true) ∧ Fr [] w w' := by
  obtain ⟨L, hL⟩ : ∃ L, L = bs.length := ⟨_, rfl⟩
  obtain ⟨M, hM⟩ : ∃ M, M = tx.length := ⟨_, rfl⟩
  have HG := Lib.hid hg; have HB := Lib.hid hb; have HC := Lib.hid hc; have HA := Lib.hid hA; have HCM := Lib.hid hcm; have HT := Lib.hid ht; have HTC := Lib.hid htc; have HTL := Lib.hid htl
  have HL := Lib.hid hL; have HM := Lib.hid hM
  rw [← hL, ← hM]
  clear hg hb hc hA hcm ht htc htl hL hM
  go_enter Try.func9, Try.ntmps9
  go_upto_region 4 with (first
    | (go_at_call 12; refine (awake_any HG.out).mono ?_; rintro e w1 ⟨rfl, hf⟩; have HF1 := Lib.hid hf; clear hf)
    | (go_at_call 13; refine (made_v L HL.out.symm (HB.out.fr HF1.out (by simp)) (by have := HC.out; have := HL.out; omega) HA.out HCM.out (HG.out.fr HF1.out)).mono ?_; rintro e w2 ⟨v, C, rfl, hC, hC1, hf, hv⟩; have HCL := Lib.hid hC; have HC1 := Lib.hid hC1; have HF2 := Lib.hid (HF1.out.trans hf); have HV := Lib.hid hv; clear hC hC1 hf hv)
    | (refine wpList_alloc_bk rfl 29 rfl zeroPC 260 rp_zero ?_; intro w3 hzA hfA; have HZ3 := Lib.hid hzA; have HF3 := Lib.hid hfA; clear hzA hfA)
    | (refine wpList_store_bk rfl 29 _ _ rfl w2.heap.size C rfl rfl _ _ HZ3.out (by rw [HCL.out]; exact rp_size) (by rw [HCL.out, List.size_toArray, zeroPC_len]) HC1.out ?_; intro w4 hzS hfS; have HF4 : Hid (Fr [] w2 w4) := Lib.hid (HF3.out.trans' hfS (by simp)); clear hzS hfS))
  have HF5 := Lib.hid (HF2.out.trans HF4.out)
  rcases HV.out with rfl | ⟨t, fb, rfl, h60, hp, hfd, hfa⟩
  · go_wp2_with fail
    go_ret
    exact ⟨rfl, HF5.out⟩
  · have HFD := Lib.hid hfd
    have HFA := Lib.hid (hfa.fr HF4.out)
    clear hfa hfd hp h60 HV
    by_cases hm : 60 < M
    · have hmI : (60 : Int) < (M : Int) := by omega
      go_wp2_with fail
      go_ret
      exact ⟨rfl, HF5.out⟩
    · have hmI : ¬ ((60 : Int) < (M : Int)) := by omega
      obtain ⟨a, ha⟩ : ∃ a, a = n % (M + 1) := ⟨_, rfl⟩
      have haM : a ≤ M := by rw [ha]; have := Nat.mod_lt n (show 0 < M + 1 by omega); omega
      go_upto_region 7 with fail
      have ea : (n : Int) % ((M : Int) + 1) = (a : Int) := by rw [ha]; simp
      rw [ea]
      clear ea ha
      have HFI : Hid (∀ W, Fr [] w4 W → ∀ i : Nat, i ≤ M → ∀ r, findS (progT t) tx i = r → Calls Try.prog 14 #[.pointer (some ⟨fb, 0, none⟩), .slice A2 M c2, .int .i64 (i : Int)] W fun e w' => e = .returned (found3 r) ∧ Fr [] W w') := Lib.hid (fun W hW i hi r hr => by
        have hf := HF5.out.trans hW
        exact find_at M i HM.out.symm r hr (HFA.out.fr hW) HFD.out (HT.out.fr hf (by simp)) (by have := HTC.out; have := HM.out; omega) (fun x hx => Nat.lt_of_lt_of_le (HTL.out x hx) hf.size) (by omega) hi)
      rcases hr : findS (progT t) tx a with _ | ⟨s, z⟩
      · have hr2 := late_none HFD.out (by have := HM.out; omega) hr
        rw [← HM.out] at hr2
        have H1 : Hid (Calls Try.prog 14 #[.pointer (some ⟨fb, 0, none⟩), .slice A2 M c2, .int .i64 (a : Int)] w4 fun e w' => e = .returned (.tuple #[.int .i64 0, .int .i64 0, .bool false]) ∧ Fr [] w4 w') := Lib.hid (HFI.out w4 (Fr.refl _ _) a haM none hr)
        have H2 : Hid (∀ W, Fr [] w4 W → Calls Try.prog 14 #[.pointer (some ⟨fb, 0, none⟩), .slice A2 M c2, .int .i64 (M : Int)] W fun e w' => e = .returned (.tuple #[.int .i64 0, .int .i64 0, .bool false]) ∧ Fr [] W w') := Lib.hid (fun W hW => HFI.out W hW M (Nat.le_refl _) none hr2)
        clear hr hr2 HFI
        go_upto_region 9 with (go_at_call 14; refine H1.out.mono ?_; rintro e w6 ⟨rfl, hf⟩; have HF6 := Lib.hid hf; clear hf)
        go_wp2_with (go_at_call 14; refine (H2.out _ HF6.out).mono ?_; rintro e w7 ⟨rfl, hf⟩; have HF7 := Lib.hid (HF5.out.trans (HF6.out.trans hf)); clear hf)
        go_ret
        exact ⟨rfl, HF7.out⟩
      · have F := findS_some HFD.out.1 HFD.out.2.1 (by have := HM.out; omega) hr
        have f1 := F.fr; have f2 := F.le; have f3 := F.len
        dsimp only at f1 f2 f3
        rw [← HM.out] at f3
        have g1 : ¬ ((s : Int) < (a : Int)) := by omega
        have g2 : ¬ ((z : Int) < (s : Int)) := by omega
        have g3 : ¬ ((M : Int) < (z : Int)) := by omega
        have b1 : decide (s < a) = false := by simp; omega
        have b2 : decide (z < s) = false := by simp; omega
        have b3 : decide (M < z) = false := by simp; omega
        have HLE : Hid (∀ i : Nat, a ≤ i → i ≤ s → findS (progT t) tx i = some (s, z)) := Lib.hid (fun i h1 h2 => late_eq HFD.out (by have := HM.out; omega) hr h1 h2)
        have H1 : Hid (Calls Try.prog 14 #[.pointer (some ⟨fb, 0, none⟩), .slice A2 M c2, .int .i64 (a : Int)] w4 fun e w' => e = .returned (.tuple #[.int .i64 (s : Int), .int .i64 (z : Int), .bool true]) ∧ Fr [] w4 w') := Lib.hid (HFI.out w4 (Fr.refl _ _) a haM _ hr)
        clear hr F
        go_upto_region 11 with (go_at_call 14; refine H1.out.mono ?_; rintro e w6 ⟨rfl, hf⟩; have HF6 := Lib.hid hf; clear hf)
        go_wp2_with fail
        go_loopw [16, 17, 18, 19] (fun v16 v17 v18 v19 wr => ∃ i : Nat, v16 = .int .i64 (i : Int) ∧ a ≤ i ∧ i ≤ s + 1 ∧ Fr [] w4 wr) (fun v16 _ _ _ _ => s + 2 - (intOf v16).toNat)
        case atStart => exact ⟨a, rfl, by omega, by omega, HF6.out⟩
        case round =>
          obtain ⟨i, rfl, hai, his, hf⟩ := hrel
          have HFR := Lib.hid hf
          clear hf
          by_cases hlt : i ≤ s
          · have hltI : (i : Int) ≤ (s : Int) := by omega
            have H3 : Hid (Calls Try.prog 14 #[.pointer (some ⟨fb, 0, none⟩), .slice A2 M c2, .int .i64 (i : Int)] wr fun e w' => e = .returned (.tuple #[.int .i64 (s : Int), .int .i64 (z : Int), .bool true]) ∧ Fr [] wr w') := Lib.hid (HFI.out wr HFR.out i (by omega) _ (HLE.out i hai hlt))
            have t1 : ((s : Int) != (s : Int)) = false := by simp
            have t2 : ((z : Int) != (z : Int)) = false := by simp
            go_wp2_with (go_at_call 14; refine H3.out.mono ?_; rintro e w7 ⟨rfl, hf⟩; have HF7 := Lib.hid (HFR.out.trans hf); clear hf)
            go_roundw
            case rel =>
              exact ⟨i + 1, by go_num, by omega, by omega, HF7.out⟩
            case measure => first | (simp [intOf]; done) | (simp [intOf]; omega)
          · have hltI : ¬ ((i : Int) ≤ (s : Int)) := by omega
            go_wp2_with fail
            go_ret
            exact ⟨rfl, HF5.out.trans HFR.out⟩
set_option maxRecDepth 100000 in
theorem u8_of__ (n : Int) (h : (Lit.int .u8 n).wf = true) : ∃ c : Nat, c < 256 ∧ n = (c : Int) := by
  have h2 : 0 ≤ n ∧ n ≤ 255 := by (simp [Lit.wf, IntKind.min, IntKind.max, IntKind.signed, IntKind.bits] at h; omega)
  exact ⟨n.toNat, by omega, by omega⟩
set_option maxRecDepth 100000 in
theorem matchLate_open {H : Type} {enc : TypeId × Value → H} (W : World) (base : Nat) (v0 : Value) (d0 : DataW H) (p0 : List MemPlace) (v1 : Value) (d1 : DataW H) (p1 : List MemPlace) (v2 : Value) (d2 : DataW H) (p2 : List MemPlace)
    (k0 : Value.okWide Try.prog W .any base 22 v0) (k1 : Value.okWide Try.prog W .any base 22 v1) (k2 : Value.okWide Try.prog W .any base 5 v2)
    (h0 : DataW.Trod enc Try.prog W 0 (fun _ => true) true 22 v0 d0 p0) (h1 : DataW.Trod enc Try.prog W 0 (fun _ => true) true 22 v1 d1 p1) (h2 : DataW.Trod enc Try.prog W 0 (fun _ => true) true 5 v2 d2 p2) (hg : GlobOk W) :
    Calls Try.prog 9 #[v0, v1, v2] W fun e W' => e = .returned (.bool true) ∧ Below W.heap.size W W' := by
  obtain ⟨A1, c1, b1, rfl, g1, g2, g3, g4⟩ := arg_bytes k0 h0
  obtain ⟨A2, c2, b2, rfl, f1, f2, f3, f4⟩ := arg_bytes k1 h1
  obtain ⟨n2, rfl, hn2⟩ := arg_int Try.underlying5 k2 h2
  obtain ⟨c3, hc3, rfl⟩ := u8_of__ n2 hn2
  exact (matchLate_walk hg g4 g1 g3 g2 f4 f1 (fun a ha => by subst ha; exact arg_lt k1) c3 hc3).mono fun e W' ⟨h1, h2⟩ => ⟨h1, h2.below_nil⟩
end Go.Proofs.Ytekfpipgcpkejaa
