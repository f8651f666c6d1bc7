/-
  Which steps are a program: the reference's walk. No conditions. (Printed by a program of the prover's.)
-/
import Derived.Test.YtkihikphebkepaaStW
namespace Go.Proofs.Ytkihikphebkepaa
open Go.RowKit Go.ChangeMaps
set_option linter.unusedVariables false
set_option linter.unusedSimpArgs false

set_option maxRecDepth 100000 in
set_option maxHeartbeats 16000000 in
theorem refValid_any {w : World} {A : Option Addr} {c : Nat} {L : List Sp} (h : StAt w A L) (hL : L.length ≤ maxLen) :
    Calls Try.prog 8 #[.slice A L.length c] w fun e w' => e = .returned (.bool (validF (okR L.length) false L)) ∧ Fr [] w w' := by
  unfold maxLen at hL
  obtain ⟨n, hn⟩ : ∃ n, n = L.length := ⟨_, rfl⟩
  rw [← hn] at hL ⊢
  obtain ⟨ok, hokd⟩ : ∃ ok, ok = okR (n : Int) := ⟨_, rfl⟩
  rw [← hokd]
  obtain ⟨F, hF⟩ : ∃ F, F = validF ok false L := ⟨_, rfl⟩
  rw [← hF]
  have HN := Lib.hid hn; have HOKD := Lib.hid hokd; have HFF := Lib.hid hF; have H := Lib.hid h
  clear h hn hokd hF
  go_enter Try.func8, Try.ntmps8
  go_wp2_with fail
  go_loopw [3, 4] (fun v3 v9 wr => VaRel w ok F L v3 v9 wr) (fun _ v9 _ => n - (intOf v9).toNat)
  case atStart => exact ⟨0, false, rfl, rfl, by omega, by rw [HFF.out]; rfl, Fr.refl [] w⟩
  case round =>
    unfold VaRel at hrel
    obtain ⟨i, fnd, rfl, rfl, hi, hv, hfr⟩ := hrel
    rw [← HN.out] at hi
    have HV := Lib.hid hv; have HFR := Lib.hid hfr
    clear hv hfr
    by_cases hlt : i < n
    · obtain ⟨s, hs⟩ : ∃ s, L[i]? = some s := ⟨_, List.getElem?_eq_getElem (by rw [← HN.out]; exact hlt)⟩
      have hd : L.drop i = s :: L.drop (i + 1) := by
        have h1 := (List.getElem?_eq_some_iff.1 hs)
        obtain ⟨h1, h2⟩ := h1
        rw [List.drop_eq_getElem_cons h1, h2]
      obtain ⟨b, off, rfl, hb, hc⟩ := (H.out.fr HFR.out) i s hs
      obtain ⟨z, hz⟩ : ∃ z, z = s.none_ := ⟨_, rfl⟩
      have hneq : ∀ W, (binOp .neq 27 (.agg #[.int .u64 s.s0, .int .u64 s.s1, .int .u64 s.s2, .int .u64 s.s3]) (.agg #[.int .u64 0, .int .u64 0, .int .u64 0, .int .u64 0])).run Try.prog W = .ok (.bool (!z)) W := fun W => by rw [hz]; exact set_neq W s
      have c0 : wr.cell? ⟨b, off + i * 7, none⟩ = some (.int .i64 s.k) := hc 0 _ rfl
      have c1 := hc 1 _ rfl
      have c2 := hc 2 _ rfl
      have c3 := hc 3 _ rfl
      have c4 := hc 4 _ rfl
      have c5 := hc 5 _ rfl
      have c6 := hc 6 _ rfl
      obtain ⟨S, hS⟩ : ∃ S, S = s := ⟨_, rfl⟩
      rw [← hS] at hd hz
      have HSS := Lib.hid hS; clear hS
      obtain ⟨k, s0, s1, s2, s3, x, y⟩ := s
      dsimp only at hneq c0 c1 c2 c3 c4 c5 c6
      have HD := Lib.hid hd; have HZ := Lib.hid hz.symm; have HNEQ := Lib.hid hneq
      have FRR : ∀ O, Fr [] w (wr.alloc O) := fun O => HFR.out.alloc O
      clear hd hz hneq hs hc
      by_cases hk0 : k = 0
      · subst hk0
        by_cases hx1 : 0 ≤ x
        · by_cases hx2 : x < (n : Int)
          · have hx1' : ¬ x < 0 := by omega
            have hx2' : ¬ (n : Int) ≤ x := by omega
            by_cases hy : y = 0
            · subst hy
              have hok : ok S = true := by
                have hz2 := HZ.out
                rw [HOKD.out]
                rw [HSS.out] at hz2 ⊢
                first | (simp [okR, hz2, hx1', hx2', hx1, hx2]; done) | (simp [okR, hz2, hx1', hx2', hx1, hx2]; omega)
              have hV : validF ok fnd (L.drop (i + 1)) = F := by
                have h := HV.out
                have hke : (fnd || S.k == 4) = fnd := by rw [HSS.out]; simp
                rw [HD.out, validF, if_pos hok, hke] at h
                exact h
              have HV2 := Lib.hid hV
              clear hok hV
              go_wp2_with fail
              go_roundw
              case rel => exact ⟨i + 1, fnd, by go_num, rfl, by rw [← HN.out]; omega, HV2.out, FRR _⟩
              case measure => first | (simp [intOf]; done) | (simp [intOf]; omega)
            · have hy' : (y == 0) = false := beq_eq_false_iff_ne.2 hy
              have hok : ok S = false := by
                have hz2 := HZ.out
                rw [HOKD.out]
                rw [HSS.out] at hz2 ⊢
                first | (simp [okR, hz2, hy]; done) | (simp [okR, hz2, hy]; omega)
              have hF : F = false := by rw [← HV.out, HD.out, validF, hok]; rfl
              clear hok
              go_wp2_with fail
              go_ret
              exact ⟨by first | rfl | (rw [hF]; rfl), FRR _⟩
          · have hx2' : (n : Int) ≤ x := by omega
            have hok : ok S = false := by
              have hz2 := HZ.out
              rw [HOKD.out]
              rw [HSS.out] at hz2 ⊢
              first | (simp [okR, hz2, hx2']; done) | (simp [okR, hz2, hx2']; omega)
            have hF : F = false := by rw [← HV.out, HD.out, validF, hok]; rfl
            clear hok
            go_wp2_with fail
            go_ret
            exact ⟨by first | rfl | (rw [hF]; rfl), FRR _⟩
        · have hx1' : x < 0 := by omega
          have hok : ok S = false := by
            have hz2 := HZ.out
            rw [HOKD.out]
            rw [HSS.out] at hz2 ⊢
            first | (simp [okR, hz2, hx1']; done) | (simp [okR, hz2, hx1']; omega)
          have hF : F = false := by rw [← HV.out, HD.out, validF, hok]; rfl
          clear hok
          go_wp2_with fail
          go_ret
          exact ⟨by first | rfl | (rw [hF]; rfl), FRR _⟩
      by_cases hk1 : k = 1
      · subst hk1
        cases z with
        | false =>
          have hneq := HNEQ.out
          simp only [Bool.not_false] at hneq
          have hok : ok S = false := by
            have hz2 := HZ.out
            rw [HOKD.out]
            rw [HSS.out] at hz2 ⊢
            first | (simp [okR, hz2]; done) | (simp [okR, hz2]; omega)
          have hF : F = false := by rw [← HV.out, HD.out, validF, hok]; rfl
          clear hok
          go_wp2_with fail
          go_ret
          exact ⟨by first | rfl | (rw [hF]; rfl), FRR _⟩
        | true =>
          have hneq := HNEQ.out
          simp only [Bool.not_true] at hneq
          by_cases hx1 : 0 ≤ x
          · by_cases hx2 : x < (n : Int)
            · have hx1' : ¬ x < 0 := by omega
              have hx2' : ¬ (n : Int) ≤ x := by omega
              by_cases hy1 : 0 ≤ y
              · by_cases hy2 : y < (n : Int)
                · have hy1' : ¬ y < 0 := by omega
                  have hy2' : ¬ (n : Int) ≤ y := by omega
                  have hok : ok S = true := by
                    have hz2 := HZ.out
                    rw [HOKD.out]
                    rw [HSS.out] at hz2 ⊢
                    first | (simp [okR, hz2, hx1', hx2', hy1', hy2', hx1, hx2, hy1, hy2]; done) | (simp [okR, hz2, hx1', hx2', hy1', hy2', hx1, hx2, hy1, hy2]; omega)
                  have hV : validF ok fnd (L.drop (i + 1)) = F := by
                    have h := HV.out
                    have hke : (fnd || S.k == 4) = fnd := by rw [HSS.out]; simp
                    rw [HD.out, validF, if_pos hok, hke] at h
                    exact h
                  have HV2 := Lib.hid hV
                  clear hok hV
                  go_wp2_with fail
                  go_roundw
                  case rel => exact ⟨i + 1, fnd, by go_num, rfl, by rw [← HN.out]; omega, HV2.out, FRR _⟩
                  case measure => first | (simp [intOf]; done) | (simp [intOf]; omega)
                · have hy2' : (n : Int) ≤ y := by omega
                  have hok : ok S = false := by
                    have hz2 := HZ.out
                    rw [HOKD.out]
                    rw [HSS.out] at hz2 ⊢
                    first | (simp [okR, hz2, hy2']; done) | (simp [okR, hz2, hy2']; omega)
                  have hF : F = false := by rw [← HV.out, HD.out, validF, hok]; rfl
                  clear hok
                  go_wp2_with fail
                  go_ret
                  exact ⟨by first | rfl | (rw [hF]; rfl), FRR _⟩
              · have hy1' : y < 0 := by omega
                have hok : ok S = false := by
                  have hz2 := HZ.out
                  rw [HOKD.out]
                  rw [HSS.out] at hz2 ⊢
                  first | (simp [okR, hz2, hy1']; done) | (simp [okR, hz2, hy1']; omega)
                have hF : F = false := by rw [← HV.out, HD.out, validF, hok]; rfl
                clear hok
                go_wp2_with fail
                go_ret
                exact ⟨by first | rfl | (rw [hF]; rfl), FRR _⟩
            · have hx2' : (n : Int) ≤ x := by omega
              have hok : ok S = false := by
                have hz2 := HZ.out
                rw [HOKD.out]
                rw [HSS.out] at hz2 ⊢
                first | (simp [okR, hz2, hx2']; done) | (simp [okR, hz2, hx2']; omega)
              have hF : F = false := by rw [← HV.out, HD.out, validF, hok]; rfl
              clear hok
              go_wp2_with fail
              go_ret
              exact ⟨by first | rfl | (rw [hF]; rfl), FRR _⟩
          · have hx1' : x < 0 := by omega
            have hok : ok S = false := by
              have hz2 := HZ.out
              rw [HOKD.out]
              rw [HSS.out] at hz2 ⊢
              first | (simp [okR, hz2, hx1']; done) | (simp [okR, hz2, hx1']; omega)
            have hF : F = false := by rw [← HV.out, HD.out, validF, hok]; rfl
            clear hok
            go_wp2_with fail
            go_ret
            exact ⟨by first | rfl | (rw [hF]; rfl), FRR _⟩
      by_cases hk2 : k = 2
      · subst hk2
        cases z with
        | false =>
          have hneq := HNEQ.out
          simp only [Bool.not_false] at hneq
          have hok : ok S = false := by
            have hz2 := HZ.out
            rw [HOKD.out]
            rw [HSS.out] at hz2 ⊢
            first | (simp [okR, hz2]; done) | (simp [okR, hz2]; omega)
          have hF : F = false := by rw [← HV.out, HD.out, validF, hok]; rfl
          clear hok
          go_wp2_with fail
          go_ret
          exact ⟨by first | rfl | (rw [hF]; rfl), FRR _⟩
        | true =>
          have hneq := HNEQ.out
          simp only [Bool.not_true] at hneq
          by_cases hx1 : 0 ≤ x
          · by_cases hx2 : x < (n : Int)
            · have hx1' : ¬ x < 0 := by omega
              have hx2' : ¬ (n : Int) ≤ x := by omega
              by_cases hy : y = 0
              · subst hy
                have hok : ok S = true := by
                  have hz2 := HZ.out
                  rw [HOKD.out]
                  rw [HSS.out] at hz2 ⊢
                  first | (simp [okR, hz2, hx1', hx2', hx1, hx2]; done) | (simp [okR, hz2, hx1', hx2', hx1, hx2]; omega)
                have hV : validF ok fnd (L.drop (i + 1)) = F := by
                  have h := HV.out
                  have hke : (fnd || S.k == 4) = fnd := by rw [HSS.out]; simp
                  rw [HD.out, validF, if_pos hok, hke] at h
                  exact h
                have HV2 := Lib.hid hV
                clear hok hV
                go_wp2_with fail
                go_roundw
                case rel => exact ⟨i + 1, fnd, by go_num, rfl, by rw [← HN.out]; omega, HV2.out, FRR _⟩
                case measure => first | (simp [intOf]; done) | (simp [intOf]; omega)
              · have hy' : (y == 0) = false := beq_eq_false_iff_ne.2 hy
                have hok : ok S = false := by
                  have hz2 := HZ.out
                  rw [HOKD.out]
                  rw [HSS.out] at hz2 ⊢
                  first | (simp [okR, hz2, hy]; done) | (simp [okR, hz2, hy]; omega)
                have hF : F = false := by rw [← HV.out, HD.out, validF, hok]; rfl
                clear hok
                go_wp2_with fail
                go_ret
                exact ⟨by first | rfl | (rw [hF]; rfl), FRR _⟩
            · have hx2' : (n : Int) ≤ x := by omega
              have hok : ok S = false := by
                have hz2 := HZ.out
                rw [HOKD.out]
                rw [HSS.out] at hz2 ⊢
                first | (simp [okR, hz2, hx2']; done) | (simp [okR, hz2, hx2']; omega)
              have hF : F = false := by rw [← HV.out, HD.out, validF, hok]; rfl
              clear hok
              go_wp2_with fail
              go_ret
              exact ⟨by first | rfl | (rw [hF]; rfl), FRR _⟩
          · have hx1' : x < 0 := by omega
            have hok : ok S = false := by
              have hz2 := HZ.out
              rw [HOKD.out]
              rw [HSS.out] at hz2 ⊢
              first | (simp [okR, hz2, hx1']; done) | (simp [okR, hz2, hx1']; omega)
            have hF : F = false := by rw [← HV.out, HD.out, validF, hok]; rfl
            clear hok
            go_wp2_with fail
            go_ret
            exact ⟨by first | rfl | (rw [hF]; rfl), FRR _⟩
      by_cases hk3 : k = 3
      · subst hk3
        cases z with
        | false =>
          have hneq := HNEQ.out
          simp only [Bool.not_false] at hneq
          have hok : ok S = false := by
            have hz2 := HZ.out
            rw [HOKD.out]
            rw [HSS.out] at hz2 ⊢
            first | (simp [okR, hz2]; done) | (simp [okR, hz2]; omega)
          have hF : F = false := by rw [← HV.out, HD.out, validF, hok]; rfl
          clear hok
          go_wp2_with fail
          go_ret
          exact ⟨by first | rfl | (rw [hF]; rfl), FRR _⟩
        | true =>
          have hneq := HNEQ.out
          simp only [Bool.not_true] at hneq
          by_cases hx1 : 0 ≤ x
          · by_cases hx2 : x < (n : Int)
            · have hx1' : ¬ x < 0 := by omega
              have hx2' : ¬ (n : Int) ≤ x := by omega
              by_cases hy : y = 0
              · subst hy
                have hok : ok S = true := by
                  have hz2 := HZ.out
                  rw [HOKD.out]
                  rw [HSS.out] at hz2 ⊢
                  first | (simp [okR, hz2, hx1', hx2', hx1, hx2]; done) | (simp [okR, hz2, hx1', hx2', hx1, hx2]; omega)
                have hV : validF ok fnd (L.drop (i + 1)) = F := by
                  have h := HV.out
                  have hke : (fnd || S.k == 4) = fnd := by rw [HSS.out]; simp
                  rw [HD.out, validF, if_pos hok, hke] at h
                  exact h
                have HV2 := Lib.hid hV
                clear hok hV
                go_wp2_with fail
                go_roundw
                case rel => exact ⟨i + 1, fnd, by go_num, rfl, by rw [← HN.out]; omega, HV2.out, FRR _⟩
                case measure => first | (simp [intOf]; done) | (simp [intOf]; omega)
              · have hy' : (y == 0) = false := beq_eq_false_iff_ne.2 hy
                have hok : ok S = false := by
                  have hz2 := HZ.out
                  rw [HOKD.out]
                  rw [HSS.out] at hz2 ⊢
                  first | (simp [okR, hz2, hy]; done) | (simp [okR, hz2, hy]; omega)
                have hF : F = false := by rw [← HV.out, HD.out, validF, hok]; rfl
                clear hok
                go_wp2_with fail
                go_ret
                exact ⟨by first | rfl | (rw [hF]; rfl), FRR _⟩
            · have hx2' : (n : Int) ≤ x := by omega
              have hok : ok S = false := by
                have hz2 := HZ.out
                rw [HOKD.out]
                rw [HSS.out] at hz2 ⊢
                first | (simp [okR, hz2, hx2']; done) | (simp [okR, hz2, hx2']; omega)
              have hF : F = false := by rw [← HV.out, HD.out, validF, hok]; rfl
              clear hok
              go_wp2_with fail
              go_ret
              exact ⟨by first | rfl | (rw [hF]; rfl), FRR _⟩
          · have hx1' : x < 0 := by omega
            have hok : ok S = false := by
              have hz2 := HZ.out
              rw [HOKD.out]
              rw [HSS.out] at hz2 ⊢
              first | (simp [okR, hz2, hx1']; done) | (simp [okR, hz2, hx1']; omega)
            have hF : F = false := by rw [← HV.out, HD.out, validF, hok]; rfl
            clear hok
            go_wp2_with fail
            go_ret
            exact ⟨by first | rfl | (rw [hF]; rfl), FRR _⟩
      by_cases hk4 : k = 4
      · subst hk4
        cases z with
        | false =>
          have hneq := HNEQ.out
          simp only [Bool.not_false] at hneq
          have hok : ok S = false := by
            have hz2 := HZ.out
            rw [HOKD.out]
            rw [HSS.out] at hz2 ⊢
            first | (simp [okR, hz2]; done) | (simp [okR, hz2]; omega)
          have hF : F = false := by rw [← HV.out, HD.out, validF, hok]; rfl
          clear hok
          go_wp2_with fail
          go_ret
          exact ⟨by first | rfl | (rw [hF]; rfl), FRR _⟩
        | true =>
          have hneq := HNEQ.out
          simp only [Bool.not_true] at hneq
          by_cases hx : x = 0
          · subst hx
            by_cases hy : y = 0
            · subst hy
              have hok : ok S = true := by
                have hz2 := HZ.out
                rw [HOKD.out]
                rw [HSS.out] at hz2 ⊢
                first | (simp [okR, hz2]; done) | (simp [okR, hz2]; omega)
              have hV : validF ok true (L.drop (i + 1)) = F := by
                have h := HV.out
                have hke : (fnd || S.k == 4) = true := by rw [HSS.out]; simp
                rw [HD.out, validF, if_pos hok, hke] at h
                exact h
              have HV2 := Lib.hid hV
              clear hok hV
              go_wp2_with fail
              go_roundw
              case rel => exact ⟨i + 1, true, by go_num, rfl, by rw [← HN.out]; omega, HV2.out, FRR _⟩
              case measure => first | (simp [intOf]; done) | (simp [intOf]; omega)
            · have hy' : (y == 0) = false := beq_eq_false_iff_ne.2 hy
              have hok : ok S = false := by
                have hz2 := HZ.out
                rw [HOKD.out]
                rw [HSS.out] at hz2 ⊢
                first | (simp [okR, hz2, hy]; done) | (simp [okR, hz2, hy]; omega)
              have hF : F = false := by rw [← HV.out, HD.out, validF, hok]; rfl
              clear hok
              go_wp2_with fail
              go_ret
              exact ⟨by first | rfl | (rw [hF]; rfl), FRR _⟩
          · have hx' : (x == 0) = false := beq_eq_false_iff_ne.2 hx
            have hok : ok S = false := by
              have hz2 := HZ.out
              rw [HOKD.out]
              rw [HSS.out] at hz2 ⊢
              first | (simp [okR, hz2, hx]; done) | (simp [okR, hz2, hx]; omega)
            have hF : F = false := by rw [← HV.out, HD.out, validF, hok]; rfl
            clear hok
            go_wp2_with fail
            go_ret
            exact ⟨by first | rfl | (rw [hF]; rfl), FRR _⟩
      by_cases hkn : k < 0
      · have hok : ok S = false := by
          have hz2 := HZ.out
          rw [HOKD.out]
          rw [HSS.out] at hz2 ⊢
          first | (simp [okR, hz2, hkn]; done) | (simp [okR, hz2, hkn]; omega)
        have hF : F = false := by rw [← HV.out, HD.out, validF, hok]; rfl
        clear hok
        go_wp2_with fail
        go_ret
        exact ⟨by first | rfl | (rw [hF]; rfl), FRR _⟩
      have hkb : 4 < k := by omega
      have hkn' : 0 ≤ k := by omega
      have hok : ok S = false := by
        have hz2 := HZ.out
        rw [HOKD.out]
        rw [HSS.out] at hz2 ⊢
        first | (simp [okR, hz2, hkb]; done) | (simp [okR, hz2, hkb]; omega)
      have hF : F = false := by rw [← HV.out, HD.out, validF, hok]; rfl
      clear hok
      go_wp2_with fail
      go_ret
      exact ⟨by first | rfl | (rw [hF]; rfl), FRR _⟩
    · obtain rfl : n = i := by omega
      have hF : fnd = F := by
        have h := HV.out
        have h2 : L.drop n = [] := List.drop_eq_nil_of_le (by rw [← HN.out]; exact Nat.le_refl _)
        rw [h2] at h
        exact h
      have HFE := Lib.hid hF; have HEQ := Lib.hid hF; clear hF
      go_wp2_with fail
      go_ret
      exact ⟨by rw [← HFE.out]; rfl, HFR.out⟩
end Go.Proofs.Ytkihikphebkepaa
