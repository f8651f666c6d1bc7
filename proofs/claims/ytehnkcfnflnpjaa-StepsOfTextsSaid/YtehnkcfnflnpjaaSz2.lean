/-
  The reference of steps: a right part has nothing wrong. No conditions but sizes. (Printed by a program of the prover's.)
-/
import Derived.Test.YtehnkcfnflnpjaaSz1
namespace Go.Proofs.Ytehnkcfnflnpjaa
open Go.RowKit
set_option linter.unusedVariables false
set_option linter.unusedSimpArgs false

set_option maxRecDepth 100000 in
set_option maxHeartbeats 16000000 in
theorem rwrong_any : ∀ (n : Nat) (p : PT), cntP p < n → rightP p = true → ∀ (d : Nat) (w : World), d + cntP p ≤ 1201 → PMem w p → Calls Try.prog 16 #[p.val, .int .i64 (d : Int)] w fun e w' => e = .returned (.int .i64 0) ∧ Fr [] w w' := by
  intro n
  induction n with
  | zero => intro p h; omega
  | succ n ih =>
    intro p hp hr d w hd hm
    have HKID : Hid (∀ (i : Nat) (q : PT), inner p.k = true → p.l[i]? = some q → ∀ W, Fr [] w W → ∃ b off, p.A = some ⟨b, off, none⟩ ∧ W.rangeAt b (off + i * 8) q.cells ∧ Calls Try.prog 16 #[q.val, .int .i64 ((d : Int) + 1)] W fun e w' => e = .returned (.int .i64 0) ∧ Fr [] W w') := Lib.hid (fun i q hk hq W hW => by
      obtain ⟨⟨b, off, h1, h2⟩, h3⟩ := kid_mem (hm.keep (KeepT.of_nil hW)) hq
      have := kid_cnt hq
      exact ⟨b, off, h1, fun j v hv => h2.cell hv, by have h := ih q (by omega) (inner_kid hr hk hq) (d + 1) W (by omega) h3; simpa using h⟩)
    have hkc := k_cases (right_k hr)
    have hdI : ¬ ((1200 : Int) < (d : Int)) := by have := cntP_eq p; omega
    obtain ⟨m, hmm⟩ : ∃ m, m = p.l.length := ⟨_, rfl⟩
    have hml : m ≤ 1201 := by have := cntL_len p.l; have := cntP_eq p; omega
    obtain ⟨l, hl⟩ : ∃ l, l = p.l := ⟨_, rfl⟩
    obtain ⟨k, hk⟩ : ∃ k, k = p.k := ⟨_, rfl⟩
    obtain ⟨mn, hmn⟩ : ∃ k, k = p.mn := ⟨_, rfl⟩
    obtain ⟨mx, hmx⟩ : ∃ k, k = p.mx := ⟨_, rfl⟩
    obtain ⟨A, hA⟩ : ∃ k, k = p.A := ⟨_, rfl⟩
    unfold PT.val
    rw [← hk, ← hmn, ← hmx, ← hmm] at hkc
    rw [← hmm, ← hk, ← hmn, ← hmx, ← hA]
    rw [← hl] at hmm
    simp only [← hk, ← hl, ← hA] at HKID
    have HMM := Lib.hid hmm
    have hd1 : (d : Int) ≤ 1201 := by omega
    clear ih hp hr hm hk hmn hmx hA hl hmm hd
    go_enter Try.func16, Try.ntmps16
    go_upto_region 1 with fail
    obtain ⟨g, hg⟩ : ∃ g, g = w.heap.size := ⟨_, rfl⟩
    obtain ⟨w1, hw1⟩ : ∃ w1, w1 = w.alloc (.cells #[.int .i64 k, .int .u64 p.s0, .int .u64 p.s1, .int .u64 p.s2, .int .u64 p.s3, .int .i64 mn, .int .i64 mx, .slice A m p.c] 29) := ⟨_, rfl⟩
    have hb : Bk w1 g 29 #[.int .i64 k, .int .u64 p.s0, .int .u64 p.s1, .int .u64 p.s2, .int .u64 p.s3, .int .i64 mn, .int .i64 mx, .slice A m p.c] := by rw [hw1, hg]; exact Bk.new w _ _
    have hf : Fr [] w w1 := by rw [hw1]; exact (Fr.refl [] w).alloc _
    rw [← hw1, ← hg]
    have HB := Lib.hid hb; have HF := Lib.hid hf
    have c0 : w1.cell? ⟨g, 0, none⟩ = some (.int .i64 k) := hb.cell_ (i := 0) rfl
    have c5 : w1.cell? ⟨g, 5, none⟩ = some (.int .i64 mn) := hb.cell_ (i := 5) rfl
    have c6 : w1.cell? ⟨g, 6, none⟩ = some (.int .i64 mx) := hb.cell_ (i := 6) rfl
    have c7 : w1.cell? ⟨g, 7, none⟩ = some (.slice A m p.c) := hb.cell_ (i := 7) rfl
    clear hw1 hg hb hf
    rcases hkc with rfl | rfl | rfl | ⟨rfl, hpos⟩ | ⟨rfl, h1n, hm0, hm1, hx0, hx1, hmx⟩ | rfl | rfl
    · go_upto_region 8 with fail
      clear c0 c5 c6 c7
      go_loopw [5] (fun v5 wr => ∃ i : Nat, v5 = .int .i64 (i : Int) ∧ i ≤ m ∧ Fr [] w1 wr) (fun v5 _ => m + 1 - (intOf v5).toNat)
      case atStart => exact ⟨0, rfl, Nat.zero_le _, Fr.refl _ _⟩
      case round =>
        obtain ⟨i, rfl, hi, hfr⟩ := hrel
        have HFR := Lib.hid hfr
        have hb := HB.out.fr hfr (by simp)
        have d0 : wr.cell? ⟨g, 0, none⟩ = some (.int .i64 0) := hb.cell_ (i := 0) rfl
        have d7 : wr.cell? ⟨g, 7, none⟩ = some (.slice A m p.c) := hb.cell_ (i := 7) rfl
        clear hfr hb
        rcases Nat.lt_or_ge i m with hin | hin
        · have hinI : (i : Int) < (m : Int) := by omega
          go_wp2_with fail
          go_ret
          exact ⟨rfl, HF.out.trans HFR.out⟩
        · have hinI : ¬ ((i : Int) < (m : Int)) := by omega
          go_wp2_with fail
          go_ret
          exact ⟨rfl, HF.out.trans HFR.out⟩
    · go_upto_region 8 with fail
      clear c0 c5 c6 c7
      go_loopw [5] (fun v5 wr => ∃ i : Nat, v5 = .int .i64 (i : Int) ∧ i ≤ m ∧ Fr [] w1 wr) (fun v5 _ => m + 1 - (intOf v5).toNat)
      case atStart => exact ⟨0, rfl, Nat.zero_le _, Fr.refl _ _⟩
      case round =>
        obtain ⟨i, rfl, hi, hfr⟩ := hrel
        have HFR := Lib.hid hfr
        have hb := HB.out.fr hfr (by simp)
        have d0 : wr.cell? ⟨g, 0, none⟩ = some (.int .i64 1) := hb.cell_ (i := 0) rfl
        have d7 : wr.cell? ⟨g, 7, none⟩ = some (.slice A m p.c) := hb.cell_ (i := 7) rfl
        clear hfr hb
        rcases Nat.lt_or_ge i m with hin | hin
        · have hinI : (i : Int) < (m : Int) := by omega
          go_wp2_with fail
          go_ret
          exact ⟨rfl, HF.out.trans HFR.out⟩
        · have hinI : ¬ ((i : Int) < (m : Int)) := by omega
          go_wp2_with fail
          go_ret
          exact ⟨rfl, HF.out.trans HFR.out⟩
    · go_upto_region 8 with fail
      clear c0 c5 c6 c7
      go_loopw [5] (fun v5 wr => ∃ i : Nat, v5 = .int .i64 (i : Int) ∧ i ≤ m ∧ Fr [] w1 wr) (fun v5 _ => m + 1 - (intOf v5).toNat)
      case atStart => exact ⟨0, rfl, Nat.zero_le _, Fr.refl _ _⟩
      case round =>
        obtain ⟨i, rfl, hi, hfr⟩ := hrel
        have HFR := Lib.hid hfr
        have hb := HB.out.fr hfr (by simp)
        have d0 : wr.cell? ⟨g, 0, none⟩ = some (.int .i64 2) := hb.cell_ (i := 0) rfl
        have d7 : wr.cell? ⟨g, 7, none⟩ = some (.slice A m p.c) := hb.cell_ (i := 7) rfl
        clear hfr hb
        rcases Nat.lt_or_ge i m with hin | hin
        · have hinI : (i : Int) < (m : Int) := by omega
          obtain ⟨q, hq⟩ : ∃ q, l[i]? = some q := ⟨_, List.getElem?_eq_getElem (by rw [← HMM.out]; exact hin)⟩
          obtain ⟨b, off, hA, hrg, hcl⟩ := HKID.out i q rfl hq wr (HF.out.trans HFR.out)
          have HCL := Lib.hid hcl; have HRG := Lib.hid hrg
          subst hA
          clear hcl hrg hq
          go_wp2_with (first
            | (refine wpList_load_mid rfl 29 _ rfl b (off + i * 8) rfl q.cells _ HRG.out Try.underlying29 rfl part_size8 ?_)
            | (go_at_call 16; refine (HCL.out).mono ?_; rintro e w3 ⟨rfl, hf3⟩; have HF3 := Lib.hid (HFR.out.trans hf3); clear hf3))
          go_roundw
          case rel => exact ⟨i + 1, by go_num, by omega, HF3.out⟩
          case measure => first | (simp [intOf]; done) | (simp [intOf]; omega)
        · have hinI : ¬ ((i : Int) < (m : Int)) := by omega
          go_wp2_with fail
          go_ret
          exact ⟨rfl, HF.out.trans HFR.out⟩
    · have hposI : ((m : Int) == 0) = false := beq_eq_false_iff_ne.2 (by omega)
      go_upto_region 8 with fail
      clear c0 c5 c6 c7
      go_loopw [5] (fun v5 wr => ∃ i : Nat, v5 = .int .i64 (i : Int) ∧ i ≤ m ∧ Fr [] w1 wr) (fun v5 _ => m + 1 - (intOf v5).toNat)
      case atStart => exact ⟨0, rfl, Nat.zero_le _, Fr.refl _ _⟩
      case round =>
        obtain ⟨i, rfl, hi, hfr⟩ := hrel
        have HFR := Lib.hid hfr
        have hb := HB.out.fr hfr (by simp)
        have d0 : wr.cell? ⟨g, 0, none⟩ = some (.int .i64 3) := hb.cell_ (i := 0) rfl
        have d7 : wr.cell? ⟨g, 7, none⟩ = some (.slice A m p.c) := hb.cell_ (i := 7) rfl
        clear hfr hb
        rcases Nat.lt_or_ge i m with hin | hin
        · have hinI : (i : Int) < (m : Int) := by omega
          obtain ⟨q, hq⟩ : ∃ q, l[i]? = some q := ⟨_, List.getElem?_eq_getElem (by rw [← HMM.out]; exact hin)⟩
          obtain ⟨b, off, hA, hrg, hcl⟩ := HKID.out i q rfl hq wr (HF.out.trans HFR.out)
          have HCL := Lib.hid hcl; have HRG := Lib.hid hrg
          subst hA
          clear hcl hrg hq
          go_wp2_with (first
            | (refine wpList_load_mid rfl 29 _ rfl b (off + i * 8) rfl q.cells _ HRG.out Try.underlying29 rfl part_size8 ?_)
            | (go_at_call 16; refine (HCL.out).mono ?_; rintro e w3 ⟨rfl, hf3⟩; have HF3 := Lib.hid (HFR.out.trans hf3); clear hf3))
          go_roundw
          case rel => exact ⟨i + 1, by go_num, by omega, HF3.out⟩
          case measure => first | (simp [intOf]; done) | (simp [intOf]; omega)
        · have hinI : ¬ ((i : Int) < (m : Int)) := by omega
          go_wp2_with fail
          go_ret
          exact ⟨rfl, HF.out.trans HFR.out⟩
    · have h1I : ((m : Int) != 1) = false := by rw [h1n]; rfl
      have q1 : ¬ (mn < 0) := by omega
      have q2 : ¬ (255 < mn) := by omega
      have q3 : ¬ (mx < -1) := by omega
      have q4 : ¬ (255 < mx) := by omega
      by_cases hneg : 0 ≤ mx
      · have q5 : ¬ (mx < mn) := by have := hmx hneg; omega
        clear hmx
        go_upto_region 8 with fail
        clear c0 c5 c6 c7
        go_loopw [5] (fun v5 wr => ∃ i : Nat, v5 = .int .i64 (i : Int) ∧ i ≤ m ∧ Fr [] w1 wr) (fun v5 _ => m + 1 - (intOf v5).toNat)
        case atStart => exact ⟨0, rfl, Nat.zero_le _, Fr.refl _ _⟩
        case round =>
          obtain ⟨i, rfl, hi, hfr⟩ := hrel
          have HFR := Lib.hid hfr
          have hb := HB.out.fr hfr (by simp)
          have d0 : wr.cell? ⟨g, 0, none⟩ = some (.int .i64 4) := hb.cell_ (i := 0) rfl
          have d7 : wr.cell? ⟨g, 7, none⟩ = some (.slice A m p.c) := hb.cell_ (i := 7) rfl
          clear hfr hb
          rcases Nat.lt_or_ge i m with hin | hin
          · have hinI : (i : Int) < (m : Int) := by omega
            obtain ⟨q, hq⟩ : ∃ q, l[i]? = some q := ⟨_, List.getElem?_eq_getElem (by rw [← HMM.out]; exact hin)⟩
            obtain ⟨b, off, hA, hrg, hcl⟩ := HKID.out i q rfl hq wr (HF.out.trans HFR.out)
            have HCL := Lib.hid hcl; have HRG := Lib.hid hrg
            subst hA
            clear hcl hrg hq
            go_wp2_with (first
              | (refine wpList_load_mid rfl 29 _ rfl b (off + i * 8) rfl q.cells _ HRG.out Try.underlying29 rfl part_size8 ?_)
              | (go_at_call 16; refine (HCL.out).mono ?_; rintro e w3 ⟨rfl, hf3⟩; have HF3 := Lib.hid (HFR.out.trans hf3); clear hf3))
            go_roundw
            case rel => exact ⟨i + 1, by go_num, by omega, HF3.out⟩
            case measure => first | (simp [intOf]; done) | (simp [intOf]; omega)
          · have hinI : ¬ ((i : Int) < (m : Int)) := by omega
            go_wp2_with fail
            go_ret
            exact ⟨rfl, HF.out.trans HFR.out⟩
      · clear hmx
        go_upto_region 8 with fail
        clear c0 c5 c6 c7
        go_loopw [5] (fun v5 wr => ∃ i : Nat, v5 = .int .i64 (i : Int) ∧ i ≤ m ∧ Fr [] w1 wr) (fun v5 _ => m + 1 - (intOf v5).toNat)
        case atStart => exact ⟨0, rfl, Nat.zero_le _, Fr.refl _ _⟩
        case round =>
          obtain ⟨i, rfl, hi, hfr⟩ := hrel
          have HFR := Lib.hid hfr
          have hb := HB.out.fr hfr (by simp)
          have d0 : wr.cell? ⟨g, 0, none⟩ = some (.int .i64 4) := hb.cell_ (i := 0) rfl
          have d7 : wr.cell? ⟨g, 7, none⟩ = some (.slice A m p.c) := hb.cell_ (i := 7) rfl
          clear hfr hb
          rcases Nat.lt_or_ge i m with hin | hin
          · have hinI : (i : Int) < (m : Int) := by omega
            obtain ⟨q, hq⟩ : ∃ q, l[i]? = some q := ⟨_, List.getElem?_eq_getElem (by rw [← HMM.out]; exact hin)⟩
            obtain ⟨b, off, hA, hrg, hcl⟩ := HKID.out i q rfl hq wr (HF.out.trans HFR.out)
            have HCL := Lib.hid hcl; have HRG := Lib.hid hrg
            subst hA
            clear hcl hrg hq
            go_wp2_with (first
              | (refine wpList_load_mid rfl 29 _ rfl b (off + i * 8) rfl q.cells _ HRG.out Try.underlying29 rfl part_size8 ?_)
              | (go_at_call 16; refine (HCL.out).mono ?_; rintro e w3 ⟨rfl, hf3⟩; have HF3 := Lib.hid (HFR.out.trans hf3); clear hf3))
            go_roundw
            case rel => exact ⟨i + 1, by go_num, by omega, HF3.out⟩
            case measure => first | (simp [intOf]; done) | (simp [intOf]; omega)
          · have hinI : ¬ ((i : Int) < (m : Int)) := by omega
            go_wp2_with fail
            go_ret
            exact ⟨rfl, HF.out.trans HFR.out⟩
    · go_upto_region 8 with fail
      clear c0 c5 c6 c7
      go_loopw [5] (fun v5 wr => ∃ i : Nat, v5 = .int .i64 (i : Int) ∧ i ≤ m ∧ Fr [] w1 wr) (fun v5 _ => m + 1 - (intOf v5).toNat)
      case atStart => exact ⟨0, rfl, Nat.zero_le _, Fr.refl _ _⟩
      case round =>
        obtain ⟨i, rfl, hi, hfr⟩ := hrel
        have HFR := Lib.hid hfr
        have hb := HB.out.fr hfr (by simp)
        have d0 : wr.cell? ⟨g, 0, none⟩ = some (.int .i64 5) := hb.cell_ (i := 0) rfl
        have d7 : wr.cell? ⟨g, 7, none⟩ = some (.slice A m p.c) := hb.cell_ (i := 7) rfl
        clear hfr hb
        rcases Nat.lt_or_ge i m with hin | hin
        · have hinI : (i : Int) < (m : Int) := by omega
          go_wp2_with fail
          go_ret
          exact ⟨rfl, HF.out.trans HFR.out⟩
        · have hinI : ¬ ((i : Int) < (m : Int)) := by omega
          go_wp2_with fail
          go_ret
          exact ⟨rfl, HF.out.trans HFR.out⟩
    · go_upto_region 8 with fail
      clear c0 c5 c6 c7
      go_loopw [5] (fun v5 wr => ∃ i : Nat, v5 = .int .i64 (i : Int) ∧ i ≤ m ∧ Fr [] w1 wr) (fun v5 _ => m + 1 - (intOf v5).toNat)
      case atStart => exact ⟨0, rfl, Nat.zero_le _, Fr.refl _ _⟩
      case round =>
        obtain ⟨i, rfl, hi, hfr⟩ := hrel
        have HFR := Lib.hid hfr
        have hb := HB.out.fr hfr (by simp)
        have d0 : wr.cell? ⟨g, 0, none⟩ = some (.int .i64 6) := hb.cell_ (i := 0) rfl
        have d7 : wr.cell? ⟨g, 7, none⟩ = some (.slice A m p.c) := hb.cell_ (i := 7) rfl
        clear hfr hb
        rcases Nat.lt_or_ge i m with hin | hin
        · have hinI : (i : Int) < (m : Int) := by omega
          go_wp2_with fail
          go_ret
          exact ⟨rfl, HF.out.trans HFR.out⟩
        · have hinI : ¬ ((i : Int) < (m : Int)) := by omega
          go_wp2_with fail
          go_ret
          exact ⟨rfl, HF.out.trans HFR.out⟩
end Go.Proofs.Ytehnkcfnflnpjaa
