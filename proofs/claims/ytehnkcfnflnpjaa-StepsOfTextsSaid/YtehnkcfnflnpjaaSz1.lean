/-
  The reference of steps: wrong, Size, of right parts. No conditions but sizes. (Printed by a program of the prover's.)
-/
import Derived.Test.YtehnkcfnflnpjaaMl
import Derived.Deep.MidRow
namespace Go.Proofs.Ytehnkcfnflnpjaa
open Go.RowKit
set_option linter.unusedVariables false
set_option linter.unusedSimpArgs false

/-! Plain: sizes that are cut at 4001. -/
def msL : List PT → Nat
  | [] => 0
  | t :: r => min (sizP t) 4001 + msL r
theorem msL_append (a b : List PT) : msL (a ++ b) = msL a + msL b := by
  induction a with
  | nil => simp [msL]
  | cons t r ih => simp [msL, ih]; omega
theorem msL_snoc {l : List PT} {i : Nat} {q : PT} (h : l[i]? = some q) : msL (l.take (i + 1)) = msL (l.take i) + min (sizP q) 4001 := by
  rw [List.take_add_one, h, msL_append]; simp [msL]
theorem msL_le : ∀ l : List PT, msL l ≤ 4001 * l.length
  | [] => by simp [msL]
  | t :: r => by have := msL_le r; simp [msL]; omega
theorem msL_min : ∀ l : List PT, min (msL l) 4001 = min (sizL l) 4001
  | [] => rfl
  | t :: r => by have := msL_min r; rw [msL, sizL]; omega
theorem ms_mul {a s o : Nat} (ho : o = min s 4001) : min (a * o) 4001 = min (a * s) 4001 := by
  rcases Nat.lt_or_ge s 4001 with h | h
  · rw [ho, Nat.min_eq_left (Nat.le_of_lt h)]
  · have h1 : o = 4001 := by rw [ho]; omega
    rw [h1]
    rcases Nat.eq_zero_or_pos a with h2 | h2
    · subst h2; simp
    · have h3 : 1 * 4001 ≤ a * 4001 := Nat.mul_le_mul_right _ h2
      have h4 : 1 * 4001 ≤ a * s := Nat.mul_le_mul h2 h
      omega
theorem siz_more {mn s o : Nat} (ho : o = min s 4001) : min (mn * o + o + 2) 4001 = min ((mn + 1) * s + 2) 4001 := by
  have h := ms_mul (a := mn + 1) ho
  rw [Nat.succ_mul] at h ⊢
  rw [Nat.succ_mul] at h
  omega
theorem siz_upto {mn mx s o : Nat} (hm : mn ≤ mx) (ho : o = min s 4001) : min (mn * o + (mx - mn) * (o + 1)) 4001 = min (mx * s + (mx - mn)) 4001 := by
  have h := ms_mul (a := mx) ho
  have e : mn * o + (mx - mn) * (o + 1) = mx * o + (mx - mn) := by
    obtain ⟨d, rfl⟩ : ∃ d, mx = mn + d := ⟨mx - mn, by omega⟩
    rw [Nat.add_sub_cancel_left, Nat.mul_add, Nat.add_mul]; omega
  rw [e]; omega
theorem inner_kid {p q : PT} {i : Nat} (hr : rightP p = true) (hk : inner p.k = true) (hq : p.l[i]? = some q) : rightP q = true := by
  rw [rightP_eq, hk] at hr
  simp only [Bool.and_eq_true, if_true] at hr
  have key : ∀ l : List PT, rightL l = true → ∀ q ∈ l, rightP q = true := by
    intro l
    induction l with
    | nil => intro _ q hq; cases hq
    | cons t r ih =>
      intro h q hq
      rw [rightL, Bool.and_eq_true] at h
      rcases List.mem_cons.1 hq with rfl | hq
      · exact h.1
      · exact ih h.2 q hq
  exact key _ hr.2 q (List.mem_of_getElem? hq)
theorem kid_cnt {p q : PT} {i : Nat} (hq : p.l[i]? = some q) : cntP q < cntP p := by
  rw [cntP_eq p]; have := cntL_mem (List.mem_of_getElem? hq); omega
theorem part_size8 : (Try.prog.info? 29).map (·.size) = some 8 := by kernel_rfl
theorem right_k {p : PT} (hr : rightP p = true) : rightK p.k p.mn p.mx p.l.length = true := by
  rw [rightP_eq, Bool.and_eq_true] at hr; exact hr.1
theorem k_cases {k mn mx : Int} {n : Nat} (h : rightK k mn mx n = true) : k = 0 ∨ k = 1 ∨ k = 2 ∨ (k = 3 ∧ 0 < n) ∨ (k = 4 ∧ n = 1 ∧ 0 ≤ mn ∧ mn ≤ 255 ∧ -1 ≤ mx ∧ mx ≤ 255 ∧ (0 ≤ mx → mn ≤ mx)) ∨ k = 5 ∨ k = 6 := by
  unfold rightK at h
  split at h
  · cases h
  · split at h
    · simp at h; omega
    · split at h
      · simp only [decide_eq_true_eq] at h; omega
      · omega
theorem kid_mem {w : World} {p q : PT} {i : Nat} (h : PMem w p) (hq : p.l[i]? = some q) : (∃ b off, p.A = some ⟨b, off, none⟩ ∧ CellsAt w b (off + i * 8) q.cells) ∧ PMem w q := by
  rw [PMem_eq] at h
  obtain ⟨⟨b, off, h1, h2⟩, h3⟩ := LMem.get h hq
  exact ⟨⟨b, off, h1, by simpa using h2⟩, h3⟩
/-! Size. -/
set_option maxRecDepth 100000 in
set_option maxHeartbeats 16000000 in
theorem rsz_any : ∀ (n : Nat) (p : PT), cntP p < n → cntP p ≤ 1199 → rightP p = true → ∀ w : World, PMem w p → Calls Try.prog 17 #[p.val] w fun e w' => e = .returned (.int .i64 ((min (sizP p) 4001 : Nat) : Int)) ∧ Fr [] w w' := by
  intro n
  induction n with
  | zero => intro p h; omega
  | succ n ih =>
    intro p hp hcn hr w hm
    have HKID : Hid (∀ (i : Nat) (q : PT), inner p.k = true → p.l[i]? = some q → ∀ W, Fr [] w W → ∃ b off, p.A = some ⟨b, off, none⟩ ∧ W.rangeAt b (off + i * 8) q.cells ∧ Calls Try.prog 17 #[q.val] W fun e w' => e = .returned (.int .i64 ((min (sizP q) 4001 : Nat) : Int)) ∧ Fr [] W w') := Lib.hid (fun i q hk hq W hW => by
      obtain ⟨⟨b, off, h1, h2⟩, h3⟩ := kid_mem (hm.keep (KeepT.of_nil hW)) hq
      have := kid_cnt hq
      exact ⟨b, off, h1, fun j v hv => h2.cell hv, ih q (by omega) (by omega) (inner_kid hr hk hq) W h3⟩)
    have hkc := k_cases (right_k hr)
    have hsz := sizP_eq p
    obtain ⟨R, hR⟩ : ∃ R, R = sizP p := ⟨_, rfl⟩
    obtain ⟨m, hmm⟩ : ∃ m, m = p.l.length := ⟨_, rfl⟩
    have hml : m ≤ 1199 := by have := cntL_len p.l; have := cntP_eq p; omega
    obtain ⟨l, hl⟩ : ∃ l, l = p.l := ⟨_, rfl⟩
    obtain ⟨k, hk⟩ : ∃ k, k = p.k := ⟨_, rfl⟩
    obtain ⟨mn, hmn⟩ : ∃ k, k = p.mn := ⟨_, rfl⟩
    obtain ⟨mx, hmx⟩ : ∃ k, k = p.mx := ⟨_, rfl⟩
    obtain ⟨A, hA⟩ : ∃ k, k = p.A := ⟨_, rfl⟩
    unfold PT.val
    rw [← hR, ← hk, ← hmn, ← hmx, ← hl] at hsz
    rw [← hk, ← hmn, ← hmx, ← hmm] at hkc
    rw [← hR, ← hmm, ← hk, ← hmn, ← hmx, ← hA]
    rw [← hl] at hmm
    simp only [← hk, ← hl, ← hA] at HKID
    have HMM := Lib.hid hmm; have HSZ := Lib.hid hsz
    clear ih hp hcn hr hm hR hk hmn hmx hA hsz hl hmm
    go_enter Try.func17, Try.ntmps17
    go_upto_region 1 with fail
    obtain ⟨g, hg⟩ : ∃ g, g = w.heap.size := ⟨_, rfl⟩
    obtain ⟨w1, hw1⟩ : ∃ w1, w1 = w.alloc (.cells #[.int .i64 k, .int .u64 p.s0, .int .u64 p.s1, .int .u64 p.s2, .int .u64 p.s3, .int .i64 mn, .int .i64 mx, .slice A m p.c] 29) := ⟨_, rfl⟩
    have hb : Bk w1 g 29 #[.int .i64 k, .int .u64 p.s0, .int .u64 p.s1, .int .u64 p.s2, .int .u64 p.s3, .int .i64 mn, .int .i64 mx, .slice A m p.c] := by rw [hw1, hg]; exact Bk.new w _ _
    have hf : Fr [] w w1 := by rw [hw1]; exact (Fr.refl [] w).alloc _
    rw [← hw1, ← hg]
    have HB := Lib.hid hb; have HF := Lib.hid hf
    have c0 : w1.cell? ⟨g, 0, none⟩ = some (.int .i64 k) := hb.cell_ (i := 0) rfl
    clear hw1 hg hb hf
    rcases hkc with rfl | rfl | rfl | ⟨rfl, hpos⟩ | ⟨rfl, h1n, hm0, hm1, hx0, hx1, hmx⟩ | rfl | rfl
    · have HR : Hid (R = 0) := Lib.hid (by rw [HSZ.out]; rfl)
      go_wp2_with fail
      go_ret
      exact ⟨by (rw [HR.out]; first | done | rfl), HF.out⟩
    · have HR : Hid (R = 1) := Lib.hid (by rw [HSZ.out]; rfl)
      go_wp2_with fail
      go_ret
      exact ⟨by (rw [HR.out]; first | done | rfl), HF.out⟩
    · go_upto_region 9 with fail
      go_loopw [3, 4] (fun v3 v4 wr => ∃ i : Nat, v4 = .int .i64 (i : Int) ∧ v3 = .int .i64 ((msL (l.take i) + 0 * i : Nat) : Int) ∧ i ≤ m ∧ Fr [] w1 wr) (fun _ v4 _ => m + 1 - (intOf v4).toNat)
      case atStart => exact ⟨0, rfl, by simp [msL], Nat.zero_le _, Fr.refl _ _⟩
      case round =>
        obtain ⟨i, rfl, rfl, hi, hfr⟩ := hrel
        have HFR := Lib.hid hfr
        have hb := HB.out.fr hfr (by simp)
        have d7 : wr.cell? ⟨g, 7, none⟩ = some (.slice A m p.c) := hb.cell_ (i := 7) rfl
        have hms : msL (l.take i) ≤ 4001 * 1199 := by
          have h1 := msL_le (l.take i)
          have h2 : (l.take i).length ≤ 1199 := by
            rw [List.length_take]; omega
          omega
        obtain ⟨z, hz⟩ : ∃ z, z = msL (l.take i) := ⟨_, rfl⟩
        rw [← hz] at hms ⊢
        have HZ := Lib.hid hz
        clear hfr hb hz
        rcases Nat.lt_or_ge i m with hin | hin
        · have hinI : (i : Int) < (m : Int) := by omega
          obtain ⟨q, hq⟩ : ∃ q, l[i]? = some q := ⟨_, List.getElem?_eq_getElem (by rw [← HMM.out]; exact hin)⟩
          obtain ⟨b, off, hA, hrg, hcl⟩ := HKID.out i q rfl hq wr (HF.out.trans HFR.out)
          have hsn := msL_snoc hq
          obtain ⟨sq, hsq⟩ : ∃ s, s = min (sizP q) 4001 := ⟨_, rfl⟩
          have hsq1 : sq ≤ 4001 := by omega
          rw [← hsq] at hcl hsn
          rw [← HZ.out] at hsn
          have HCL := Lib.hid hcl; have HRG := Lib.hid hrg; have HSN := Lib.hid hsn
          subst hA
          clear hcl hrg hsn hsq hq
          go_wp2_with (first
            | (refine wpList_load_mid rfl 29 _ rfl b (off + i * 8) rfl q.cells _ HRG.out Try.underlying29 rfl part_size8 ?_)
            | (go_at_call 17; refine (HCL.out).mono ?_; rintro e w3 ⟨rfl, hf3⟩; have HF3 := Lib.hid (HFR.out.trans hf3); clear hf3))
          go_roundw
          case rel => exact ⟨i + 1, by go_num, by rw [HSN.out]; congr 1; omega, by omega, HF3.out⟩
          case measure => first | (simp [intOf]; done) | (simp [intOf]; omega)
        · have hinI : ¬ ((i : Int) < (m : Int)) := by omega
          have hzz : z = msL l := by rw [HZ.out, List.take_of_length_le (by rw [← HMM.out]; exact hin)]
          have him : i = m := by omega
          have HIM := Lib.hid him
          have hmin := msL_min l
          rw [← hzz] at hmin
          have hR : R = sizL l := by rw [HSZ.out]; rfl
          by_cases hbig : 4001 < z
          · have hbI : (4001 : Int) < (z : Int) := by omega
            have HRR : Hid (min R 4001 = 4001) := Lib.hid (by omega)
            clear hR hbig hmin hzz him
            go_wp2_with fail
            go_ret
            exact ⟨by (rw [HRR.out]; first | done | rfl | (have h := HIM.out; show Ending.returned (.int .i64 ((z : Int) + 2 * (i : Int) - 2)) = _; rw [show (z : Int) + 2 * (i : Int) - 2 = ((z + 2 * m - 2 : Nat) : Int) by omega])), HF.out.trans HFR.out⟩
          · have hbI : ¬ ((4001 : Int) < (z : Int)) := by omega
            have HRR : Hid (min R 4001 = z) := Lib.hid (by omega)
            clear hR hbig hmin hzz him
            go_wp2_with fail
            go_ret
            exact ⟨by (rw [HRR.out]; first | done | rfl | (have h := HIM.out; show Ending.returned (.int .i64 ((z : Int) + 2 * (i : Int) - 2)) = _; rw [show (z : Int) + 2 * (i : Int) - 2 = ((z + 2 * m - 2 : Nat) : Int) by omega])), HF.out.trans HFR.out⟩
    · go_upto_region 14 with fail
      go_loopw [3, 5] (fun v3 v4 wr => ∃ i : Nat, v4 = .int .i64 (i : Int) ∧ v3 = .int .i64 ((msL (l.take i) + 2 * i : Nat) : Int) ∧ i ≤ m ∧ Fr [] w1 wr) (fun _ v4 _ => m + 1 - (intOf v4).toNat)
      case atStart => exact ⟨0, rfl, by simp [msL], Nat.zero_le _, Fr.refl _ _⟩
      case round =>
        obtain ⟨i, rfl, rfl, hi, hfr⟩ := hrel
        have HFR := Lib.hid hfr
        have hb := HB.out.fr hfr (by simp)
        have d7 : wr.cell? ⟨g, 7, none⟩ = some (.slice A m p.c) := hb.cell_ (i := 7) rfl
        have hms : msL (l.take i) ≤ 4001 * 1199 := by
          have h1 := msL_le (l.take i)
          have h2 : (l.take i).length ≤ 1199 := by
            rw [List.length_take]; omega
          omega
        obtain ⟨z, hz⟩ : ∃ z, z = msL (l.take i) := ⟨_, rfl⟩
        rw [← hz] at hms ⊢
        have HZ := Lib.hid hz
        clear hfr hb hz
        rcases Nat.lt_or_ge i m with hin | hin
        · have hinI : (i : Int) < (m : Int) := by omega
          obtain ⟨q, hq⟩ : ∃ q, l[i]? = some q := ⟨_, List.getElem?_eq_getElem (by rw [← HMM.out]; exact hin)⟩
          obtain ⟨b, off, hA, hrg, hcl⟩ := HKID.out i q rfl hq wr (HF.out.trans HFR.out)
          have hsn := msL_snoc hq
          obtain ⟨sq, hsq⟩ : ∃ s, s = min (sizP q) 4001 := ⟨_, rfl⟩
          have hsq1 : sq ≤ 4001 := by omega
          rw [← hsq] at hcl hsn
          rw [← HZ.out] at hsn
          have HCL := Lib.hid hcl; have HRG := Lib.hid hrg; have HSN := Lib.hid hsn
          subst hA
          clear hcl hrg hsn hsq hq
          go_wp2_with (first
            | (refine wpList_load_mid rfl 29 _ rfl b (off + i * 8) rfl q.cells _ HRG.out Try.underlying29 rfl part_size8 ?_)
            | (go_at_call 17; refine (HCL.out).mono ?_; rintro e w3 ⟨rfl, hf3⟩; have HF3 := Lib.hid (HFR.out.trans hf3); clear hf3))
          go_roundw
          case rel => exact ⟨i + 1, by go_num, by rw [HSN.out]; congr 1; omega, by omega, HF3.out⟩
          case measure => first | (simp [intOf]; done) | (simp [intOf]; omega)
        · have hinI : ¬ ((i : Int) < (m : Int)) := by omega
          have hzz : z = msL l := by rw [HZ.out, List.take_of_length_le (by rw [← HMM.out]; exact hin)]
          have him : i = m := by omega
          have HIM := Lib.hid him
          have hmin := msL_min l
          rw [← hzz] at hmin
          have hR : R = sizL l + 2 * (l.length - 1) := by rw [HSZ.out]; rfl
          have hlm : l.length = m := HMM.out.symm
          by_cases hbig : 4001 < z + 2 * m - 2
          · have hbI : (4001 : Int) < (z : Int) + 2 * (i : Int) - 2 := by omega
            have HRR : Hid (min R 4001 = 4001) := Lib.hid (by omega)
            clear hR hbig hmin hzz him
            go_wp2_with fail
            go_ret
            exact ⟨by (rw [HRR.out]; first | done | rfl | (have h := HIM.out; show Ending.returned (.int .i64 ((z : Int) + 2 * (i : Int) - 2)) = _; rw [show (z : Int) + 2 * (i : Int) - 2 = ((z + 2 * m - 2 : Nat) : Int) by omega])), HF.out.trans HFR.out⟩
          · have hbI : ¬ ((4001 : Int) < (z : Int) + 2 * (i : Int) - 2) := by omega
            have HRR : Hid (min R 4001 = z + 2 * m - 2) := Lib.hid (by omega)
            clear hR hbig hmin hzz him
            go_wp2_with fail
            go_ret
            exact ⟨by (rw [HRR.out]; first | done | rfl | (have h := HIM.out; show Ending.returned (.int .i64 ((z : Int) + 2 * (i : Int) - 2)) = _; rw [show (z : Int) + 2 * (i : Int) - 2 = ((z + 2 * m - 2 : Nat) : Int) by omega])), HF.out.trans HFR.out⟩
    · obtain ⟨q, hq⟩ : ∃ q, l[0]? = some q := ⟨_, List.getElem?_eq_getElem (by rw [← HMM.out]; omega)⟩
      have hlq : l = [q] := by
        match l, HMM.out, hq with
        | [x], _, h => simp at h; rw [h]
        | [], h, _ => simp at h; omega
        | x :: y :: r, h, _ => simp at h; omega
      obtain ⟨b, off, hA, hrg, hcl⟩ := HKID.out 0 q rfl hq w1 HF.out
      obtain ⟨s, hs⟩ : ∃ s, s = sizP q := ⟨_, rfl⟩
      obtain ⟨o, ho⟩ : ∃ o, o = min s 4001 := ⟨_, rfl⟩
      have ho1 : o ≤ 4001 := by omega
      rw [← hs, ← ho] at hcl
      have hsl : sizL l = s := by rw [hlq, hs]; simp [sizL]
      obtain ⟨a, rfl⟩ : ∃ a : Nat, mn = (a : Int) := ⟨mn.toNat, by omega⟩
      have hR : R = if mx < 0 then (a + 1) * s + 2 else mx.toNat * s + (mx.toNat - a) := by
        rw [HSZ.out, hsl]; simp
      have d7 : w1.cell? ⟨g, 7, none⟩ = some (.slice A m p.c) := HB.out.cell_ (i := 7) rfl
      have hmI : (0 : Int) < (m : Int) := by omega
      have HRG := Lib.hid hrg; have HCL := Lib.hid hcl; have HO := Lib.hid ho
      subst hA
      clear hrg hcl hlq hq hs ho hsl
      go_upto_region 20 with (first
        | (refine wpList_load_mid rfl 29 _ rfl b off rfl q.cells _ (by have h := HRG.out; rwa [Nat.zero_mul, Nat.add_zero] at h) Try.underlying29 rfl part_size8 ?_)
        | (go_at_call 17; refine (HCL.out).mono ?_; rintro e w3 ⟨rfl, hf3⟩; have HF3 := Lib.hid hf3; clear hf3))
      have hb := HB.out.fr HF3.out (by simp)
      have d5 : w3.cell? ⟨g, 5, none⟩ = some (.int .i64 (a : Int)) := hb.cell_ (i := 5) rfl
      have d6 : w3.cell? ⟨g, 6, none⟩ = some (.int .i64 mx) := hb.cell_ (i := 6) rfl
      obtain ⟨y, hy⟩ : ∃ y : Nat, y = a * o := ⟨_, rfl⟩
      have hyI : (a : Int) * (o : Int) = (y : Int) := by rw [hy]; simp
      have hyb : y ≤ 255 * 4001 := by rw [hy]; exact Nat.mul_le_mul (by omega) ho1
      have HY := Lib.hid hy
      clear hb d7 hy
      by_cases hneg : mx < 0
      · rw [if_pos hneg] at hR
        have hmin := siz_more (mn := a) HO.out
        rw [← HY.out, ← hR] at hmin
        clear hR
        by_cases hbig : 4001 < y + o + 2
        · have hbI : (4001 : Int) < (y : Int) + (o : Int) + 2 := by omega
          have HRR : Hid (min R 4001 = 4001) := Lib.hid (by omega)
          clear hmin hbig
          go_wp2_with fail
          go_ret
          exact ⟨by (rw [HRR.out]; first | done | rfl | (congr 3; omega)), HF.out.trans HF3.out⟩
        · have hbI : ¬ ((4001 : Int) < (y : Int) + (o : Int) + 2) := by omega
          have HRR : Hid (min R 4001 = y + o + 2) := Lib.hid (by omega)
          clear hmin hbig
          go_wp2_with fail
          go_ret
          exact ⟨by (rw [HRR.out]; first | done | rfl | (congr 3; omega)), HF.out.trans HF3.out⟩
      · rw [if_neg hneg] at hR
        obtain ⟨x, rfl⟩ : ∃ x : Nat, mx = (x : Int) := ⟨mx.toNat, by omega⟩
        have hax : a ≤ x := by have := hmx (by omega); omega
        have hmin := siz_upto hax HO.out
        rw [← HY.out] at hmin
        have hRx : R = x * s + (x - a) := by rw [hR]; simp
        rw [← hRx] at hmin
        obtain ⟨u, hu⟩ : ∃ u : Nat, u = (x - a) * (o + 1) := ⟨_, rfl⟩
        rw [← hu] at hmin
        have hxa : (x : Int) - (a : Int) = ((x - a : Nat) : Int) := by omega
        have huI : ((x - a : Nat) : Int) * ((o : Int) + 1) = (u : Int) := by rw [hu]; simp
        have hub : u ≤ 255 * 4002 := by rw [hu]; exact Nat.mul_le_mul (by omega) (by omega)
        clear hR hRx hu hmx
        by_cases hbig : 4001 < y + u
        · have hbI : (4001 : Int) < (y : Int) + (u : Int) := by omega
          have HRR : Hid (min R 4001 = 4001) := Lib.hid (by omega)
          clear hmin hbig
          go_wp2_with fail
          go_ret
          exact ⟨by (rw [HRR.out]; first | done | rfl | (congr 3; omega)), HF.out.trans HF3.out⟩
        · have hbI : ¬ ((4001 : Int) < (y : Int) + (u : Int)) := by omega
          have HRR : Hid (min R 4001 = y + u) := Lib.hid (by omega)
          clear hmin hbig
          go_wp2_with fail
          go_ret
          exact ⟨by (rw [HRR.out]; first | done | rfl | (congr 3; omega)), HF.out.trans HF3.out⟩
    · have HR : Hid (R = 1) := Lib.hid (by rw [HSZ.out]; rfl)
      go_wp2_with fail
      go_ret
      exact ⟨by (rw [HR.out]; first | done | rfl), HF.out⟩
    · have HR : Hid (R = 1) := Lib.hid (by rw [HSZ.out]; rfl)
      go_wp2_with fail
      go_ret
      exact ⟨by (rw [HR.out]; first | done | rfl), HF.out⟩
end Go.Proofs.Ytehnkcfnflnpjaa
