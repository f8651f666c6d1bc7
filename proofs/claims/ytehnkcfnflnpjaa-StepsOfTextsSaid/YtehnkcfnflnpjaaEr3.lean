/-
  sign of the reader of expressions. No conditions but sizes.
-/
import Derived.Test.YtehnkcfnflnpjaaEr2
namespace Go.Proofs.Ytehnkcfnflnpjaa
open Go.RowKit
set_option linter.unusedVariables false
set_option linter.unusedSimpArgs false

theorem addr_add (b off i : Nat) : (⟨b, off, none⟩ : Addr).add i = ⟨b, off + i, none⟩ := by unfold Addr.add; split <;> simp_all
def Qt (w w' : World) : Prop := ∃ n, w' = w.drewN n
theorem Qt.refl (w : World) : Qt w w := ⟨0, rfl⟩
theorem Qt.trans {a b c : World} (h : Qt a b) (k : Qt b c) : Qt a c := by
  obtain ⟨n, rfl⟩ := h; obtain ⟨m, rfl⟩ := k
  exact ⟨n + m, by rw [World.drewN_drewN]⟩
theorem Qt.fr {w w' : World} (h : Qt w w') : Fr [] w w' := by
  obtain ⟨n, rfl⟩ := h; exact (Fr.refl [] w).drewN n
theorem Qt.n (w : World) (n : Nat) : Qt w (w.drewN n) := ⟨n, rfl⟩
theorem stands_q {w : World} {g : Nat} {A : Option Addr} {c : Nat} {bs : List UInt8} {i d : Nat} (h : Rdr w g A c bs i d) (x : Nat) (hx : 0 < x) (v : Bool) (hv : stB bs i x = v) :
    Calls Try.prog 21 #[.pointer (some ⟨g, 0, none⟩), .int .u8 (x : Int)] w fun e w' => e = .returned (.bool v) ∧ Qt w w' := by
  subst hv
  exact (stands_any h x hx).mono fun e w' hp => hp
set_option maxRecDepth 100000 in
set_option maxHeartbeats 4000000 in
theorem sign_any {w : World} {g : Nat} {A : Option Addr} {c : Nat} {bs : List UInt8} {i d : Nat} (h : Rdr w g A c bs i d) :
    Calls Try.prog 36 #[.pointer (some ⟨g, 0, none⟩)] w fun e w' => e = .returned (ivV (signS bs i)) ∧ Qt w w' := by
  have HRD := Lib.hid h
  have hlen := h.len
  obtain ⟨r, hr⟩ : ∃ r, r = signS bs i := ⟨_, rfl⟩
  rw [← hr]
  obtain ⟨q, hq⟩ : ∃ q, q = bn bs i := ⟨_, rfl⟩
  unfold signS at hr
  rw [← hq] at hr
  by_cases h42 : q = 42
  · have s1 : stB bs i 42 = true := stB_yes (by omega)
    rw [if_pos h42] at hr
    have HR := Lib.hid hr; have S1 := Lib.hid s1
    clear hr s1 h hq h42
    go_enter Try.func36, Try.ntmps36
    go_wp2_with (go_at_call 21; refine (stands_q HRD.out 42 (by omega) true S1.out).mono ?_; rintro e w1 ⟨rfl, hq1⟩; have HQ1 := Lib.hid hq1; clear hq1)
    go_ret3
    exact ⟨ret_iv HR.out rfl rfl rfl, HQ1.out⟩
  have s1 : stB bs i 42 = false := stB_no (by omega)
  rw [if_neg h42] at hr
  have S1 := Lib.hid s1; clear s1
  by_cases h43 : q = 43
  · have s1 : stB bs i 43 = true := stB_yes (by omega)
    rw [if_pos h43] at hr
    have HR := Lib.hid hr; have S2 := Lib.hid s1
    clear hr s1 h hq h42 h43
    go_enter Try.func36, Try.ntmps36
    go_wp2_with fail
    refine (stands_q HRD.out 42 (by omega) false S1.out).mono ?_
    rintro e w1 ⟨rfl, hq1⟩
    have HQ1 := Lib.hid hq1; have HR1 := Lib.hid (HRD.out.fr_nil hq1.fr); clear hq1
    go_wp2_with fail
    refine (stands_q HR1.out 43 (by omega) true S2.out).mono ?_
    rintro e w2 ⟨rfl, hq1⟩
    have HQ2 := Lib.hid (HQ1.out.trans hq1); clear hq1
    go_wp2_with fail
    go_ret3
    exact ⟨ret_iv HR.out rfl rfl rfl, HQ2.out⟩
  have s1 : stB bs i 43 = false := stB_no (by omega)
  rw [if_neg h43] at hr
  have S2 := Lib.hid s1; clear s1
  by_cases h63 : q = 63
  · have s1 : stB bs i 63 = true := stB_yes (by omega)
    rw [if_pos h63] at hr
    have HR := Lib.hid hr; have S3 := Lib.hid s1
    clear hr s1 h hq h42 h43 h63
    go_enter Try.func36, Try.ntmps36
    go_wp2_with fail
    refine (stands_q HRD.out 42 (by omega) false S1.out).mono ?_
    rintro e w1 ⟨rfl, hq1⟩
    have HQ1 := Lib.hid hq1; have HR1 := Lib.hid (HRD.out.fr_nil hq1.fr); clear hq1
    go_wp2_with fail
    refine (stands_q HR1.out 43 (by omega) false S2.out).mono ?_
    rintro e w2 ⟨rfl, hq1⟩
    have HQ2 := Lib.hid (HQ1.out.trans hq1); have HR2 := Lib.hid (HR1.out.fr_nil hq1.fr); clear hq1
    go_wp2_with fail
    refine (stands_q HR2.out 63 (by omega) true S3.out).mono ?_
    rintro e w3 ⟨rfl, hq1⟩
    have HQ3 := Lib.hid (HQ2.out.trans hq1); clear hq1
    go_wp2_with fail
    go_ret3
    exact ⟨ret_iv HR.out rfl rfl rfl, HQ3.out⟩
  have s1 : stB bs i 63 = false := stB_no (by omega)
  rw [if_neg h63] at hr
  have S3 := Lib.hid s1; clear s1
  obtain ⟨V, hV⟩ : ∃ V, V = stB bs i 123 := ⟨_, rfl⟩
  have S4 := Lib.hid hV.symm
  have hV2 : V = decide (q = 123) := by rw [hV, hq]; rfl
  clear hV h
  by_cases h123 : q = 123
  · have hV3 : V = true := by rw [hV2]; simp [h123]
    rw [if_pos h123] at hr
    subst hV3
    have hlt : i < bs.length := bn_pos (hq.symm.trans h123) (by omega)
    obtain ⟨L, hL⟩ : ∃ L, L = bs.length := ⟨_, rfl⟩
    rw [← hL] at hlt hlen
    obtain ⟨s, t, u, hs⟩ : ∃ s t u, r = (s, t, u) := ⟨r.1, r.2.1, r.2.2, rfl⟩
    have HR := Lib.hid hr; have HS := Lib.hid hs; have HL := Lib.hid hL
    have hic : ∀ W, Qt w W → ∃ b off, A = some ⟨b, off, none⟩ ∧ ∀ q, Calls Try.prog 42 #[.slice (some ⟨b, off + i, none⟩) (L - i) (c - i)] (W.drewN q) fun e w' => e = .returned (.tuple #[.int .i64 s, .int .i64 t, .int .i64 u]) ∧ w' = W.drewN q := fun W hW => by
      have hR := HRD.out.fr_nil hW.fr
      obtain ⟨b, off, hA, hb, hcl⟩ := byte_at hR.byt (i := i) (by rw [← HL.out]; exact hlt)
      refine ⟨b, off, hA, fun q => ?_⟩
      have hcap := hR.cap
      have hby : Bytes (W.drewN q) (some ⟨b, off + i, none⟩) (bs.drop i) := by
        have h1 := (hR.drewN q).byt
        have h2 := At.cut h1 (k := i) (cap := c) (by rw [byteVals_length]; have := HL.out; omega)
        rw [if_neg (by have := HL.out; omega), hA] at h2
        have e : (byteVals bs).drop i = byteVals (bs.drop i) := by simp [byteVals, List.map_drop]
        rw [e] at h2
        have e2 := addr_add b off i
        simp only [Option.map_some, e2] at h2
        exact h2
      have hiv : ivV (intervalS (bs.drop i)) = .tuple #[.int .i64 s, .int .i64 t, .int .i64 u] := by
        rw [← HR.out, HS.out]; rfl
      have hcm := hR.capm
      have := interval_any hby (by rw [List.length_drop]; have := HL.out; omega) (by rw [List.length_drop]; have := HL.out; omega) (c := c - i) (by rw [List.length_drop]; have := HL.out; omega) (by intro hh; cases hh) (L - i) (by rw [List.length_drop]; have := HL.out; omega) (by omega)
      rw [hiv] at this
      exact this.mono fun e w' ⟨he, hw⟩ => ⟨he, hw.symm⟩
    have HIC := Lib.hid hic
    clear hr hs hL hic hq h42 h43 h63 h123 hV2
    go_enter Try.func36, Try.ntmps36
    go_wp2_with fail
    refine (stands_q HRD.out 42 (by omega) false S1.out).mono ?_
    rintro e w1 ⟨rfl, hq1⟩
    have HQ1 := Lib.hid hq1; have HR1 := Lib.hid (HRD.out.fr_nil hq1.fr); clear hq1
    go_wp2_with fail
    refine (stands_q HR1.out 43 (by omega) false S2.out).mono ?_
    rintro e w2 ⟨rfl, hq1⟩
    have HQ2 := Lib.hid (HQ1.out.trans hq1); have HR2 := Lib.hid (HR1.out.fr_nil hq1.fr); clear hq1
    go_wp2_with fail
    refine (stands_q HR2.out 63 (by omega) false S3.out).mono ?_
    rintro e w3 ⟨rfl, hq1⟩
    have HQ3 := Lib.hid (HQ2.out.trans hq1); have HR3 := Lib.hid (HR2.out.fr_nil hq1.fr); clear hq1
    go_wp2_with fail
    refine (stands_q HR3.out 123 (by omega) true S4.out).mono ?_
    rintro e w4 ⟨rfl, hq1⟩
    have HQ4 := Lib.hid (HQ3.out.trans hq1); have HR4 := Lib.hid (HR3.out.fr_nil hq1.fr); clear hq1
    obtain ⟨b, off, hA, hcall⟩ := HIC.out w4 HQ4.out
    obtain ⟨c0, c1, -, -, -⟩ := HR4.out.cells
    have hcm := HR4.out.capm
    have hcap := HR4.out.cap
    rw [← HL.out] at c0 hcap
    rw [hA] at c0
    unfold maxLen at hcm
    have HCA := Lib.hid hcall
    have hne : ¬ (c = i) := by omega
    have hlt' : (i : Int) < (L : Int) := by omega
    have hle' : (i : Int) ≤ (L : Int) := by omega
    clear hA hcall
    go_wp2_with fail
    go_quiet ((go_at_call 42; exact Calls.quiet_of_same (HCA.out _)))
    go_wp2_with fail
    go_ret3
    exact ⟨by rw [HS.out]; rfl, HQ4.out.trans (Qt.n _ _)⟩
  · have hV3 : V = false := by rw [hV2]; simp [h123]
    rw [if_neg h123] at hr
    subst hV3
    have HR := Lib.hid hr
    clear hr hq h42 h43 h63 h123 hV2
    go_enter Try.func36, Try.ntmps36
    go_wp2_with fail
    refine (stands_q HRD.out 42 (by omega) false S1.out).mono ?_
    rintro e w1 ⟨rfl, hq1⟩
    have HQ1 := Lib.hid hq1; have HR1 := Lib.hid (HRD.out.fr_nil hq1.fr); clear hq1
    go_wp2_with fail
    refine (stands_q HR1.out 43 (by omega) false S2.out).mono ?_
    rintro e w2 ⟨rfl, hq1⟩
    have HQ2 := Lib.hid (HQ1.out.trans hq1); have HR2 := Lib.hid (HR1.out.fr_nil hq1.fr); clear hq1
    go_wp2_with fail
    refine (stands_q HR2.out 63 (by omega) false S3.out).mono ?_
    rintro e w3 ⟨rfl, hq1⟩
    have HQ3 := Lib.hid (HQ2.out.trans hq1); have HR3 := Lib.hid (HR2.out.fr_nil hq1.fr); clear hq1
    go_wp2_with fail
    refine (stands_q HR3.out 123 (by omega) false S4.out).mono ?_
    rintro e w4 ⟨rfl, hq1⟩
    have HQ4 := Lib.hid (HQ3.out.trans hq1); clear hq1
    go_wp2_with fail
    go_ret3
    exact ⟨ret_iv HR.out rfl rfl rfl, HQ4.out⟩
end Go.Proofs.Ytehnkcfnflnpjaa
