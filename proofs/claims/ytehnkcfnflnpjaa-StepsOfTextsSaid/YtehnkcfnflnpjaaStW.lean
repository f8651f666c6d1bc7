/-
  Which steps are a program: the walks of steps.Valid and of the reference's. No conditions. (Printed by a program of the prover's.)
-/
import Derived.Test.YtehnkcfnflnpjaaGi
namespace Go.Proofs.Ytehnkcfnflnpjaa
open Go.RowKit Go.ChangeMaps
set_option linter.unusedVariables false
set_option linter.unusedSimpArgs false

def StAt (w : World) (A : Option Addr) (L : List Sp) : Prop := ∀ i s, L[i]? = some s → ∃ b off, A = some ⟨b, off, none⟩ ∧ b < w.heap.size ∧ ∀ j u, s.cells[j]? = some u → w.cell? ⟨b, off + i * 7 + j, none⟩ = some u
theorem StAt.fr {w w' : World} {A : Option Addr} {L : List Sp} (h : StAt w A L) (hf : Fr [] w w') : StAt w' A L := fun i s hs => by
  obtain ⟨b, off, hA, hb, hc⟩ := h i s hs
  exact ⟨b, off, hA, Nat.lt_of_lt_of_le hb hf.size, fun j u hu => (hf.cell (p := ⟨b, off + i * 7 + j, none⟩) hb (by simp)).trans (hc j u hu)⟩
theorem StAt.of_own {w : World} {base n cap : Nat} {A : Option Addr} {L : List Sp} (h : w.ownsRow base 45 7 (.slice A n cap) n (L.flatMap Sp.cells)) : StAt w A L := fun i s hs => by
  have hi : i < L.length := (List.getElem?_eq_some_iff.1 hs).1
  have hfl := flat_len sp_len L
  obtain ⟨b, hA, hb, -, hc⟩ := own_cells h (fun e => by rw [e] at hfl; simp at hfl; omega)
  refine ⟨b, 0, hA, hb, fun j u hu => ?_⟩
  have hj : j < 7 := by
    rcases Nat.lt_or_ge j 7 with h | h
    · exact h
    · rw [List.getElem?_eq_none (by rw [sp_len]; exact h)] at hu; cases hu
  rw [Nat.zero_add]
  exact hc _ _ ((flat_at sp_len s j hj L i hs).trans hu)
theorem set_part (w : World) (a b c d : Int) : (part 24 #[.int .u64 a, .int .u64 b, .int .u64 c, .int .u64 d] 0).run Try.prog w = .ok (.int .u64 a) w ∧ (part 24 #[.int .u64 a, .int .u64 b, .int .u64 c, .int .u64 d] 1).run Try.prog w = .ok (.int .u64 b) w ∧
    (part 24 #[.int .u64 a, .int .u64 b, .int .u64 c, .int .u64 d] 2).run Try.prog w = .ok (.int .u64 c) w ∧ (part 24 #[.int .u64 a, .int .u64 b, .int .u64 c, .int .u64 d] 3).run Try.prog w = .ok (.int .u64 d) w := ⟨by kernel_rfl, by kernel_rfl, by kernel_rfl, by kernel_rfl⟩
theorem u64_one : (Try.prog.info? 24).map (·.size) = some 1 := by kernel_rfl
theorem run_equalIn_u64 (w : World) (d : Nat) (a b : Int) : (Op.equalIn (d + 1) 24 (.int .u64 a) (.int .u64 b)).run Try.prog w = .ok (a == b) w := by
  simp [Op.equalIn, run_underlying Try.underlying24]
theorem set_zero (w : World) (a b c d : Int) : (Op.equal 26 (.agg #[.int .u64 a, .int .u64 b, .int .u64 c, .int .u64 d]) (.agg #[.int .u64 0, .int .u64 0, .int .u64 0, .int .u64 0])).run Try.prog w = .ok (a == 0 && b == 0 && c == 0 && d == 0) w := by
  obtain ⟨i, hi, hz⟩ : ∃ i, Try.prog.info? 24 = some i ∧ i.size = 1 := by
    have h := u64_one
    cases e : Try.prog.info? 24 with
    | none => rw [e] at h; cases h
    | some i => rw [e] at h; exact ⟨i, rfl, by simpa using h⟩
  obtain ⟨p0, p1, p2, p3⟩ := set_part w a b c d
  obtain ⟨q0, q1, q2, q3⟩ := set_part w 0 0 0 0
  have e := run_equalIn_u64 w 9998
  show (Op.equalIn (9998 + 1 + 1) _ _ _).run Try.prog w = _
  unfold Op.equalIn
  simp [run_underlying Try.underlying26, sizeOf, typeInfo, hi, hz, List.range'_succ, p0, p1, p2, p3, q0, q1, q2, q3, e]
  by_cases h0 : a = 0 <;> by_cases h1 : b = 0 <;> by_cases h2 : c = 0 <;> by_cases h3 : d = 0 <;> simp [h0, h1, h2, h3]
theorem set_neq (w : World) (s : Sp) : (binOp .neq 26 (.agg #[.int .u64 s.s0, .int .u64 s.s1, .int .u64 s.s2, .int .u64 s.s3]) (.agg #[.int .u64 0, .int .u64 0, .int .u64 0, .int .u64 0])).run Try.prog w = .ok (.bool (!s.none_)) w := by
  have h := set_zero w s.s0 s.s1 s.s2 s.s3
  simp [binOp, h, Sp.none_]
def VaRel (w : World) (ok : Sp → Bool) (F : Bool) (L : List Sp) (v3 v9 : Value) (wr : World) : Prop :=
  ∃ (i : Nat) (fnd : Bool), v9 = .int .i64 (i : Int) ∧ v3 = .bool fnd ∧ i ≤ L.length ∧ validF ok fnd (L.drop i) = F ∧ Fr [] w wr
set_option maxRecDepth 100000 in
set_option maxHeartbeats 16000000 in
theorem valid_any {w : World} {A : Option Addr} {c : Nat} {L : List Sp} (h : StAt w A L) (hL : L.length ≤ maxLen) :
    Calls Try.prog 10 #[.slice A L.length c] w fun e w' => e = .returned (.bool (validF (okP L.length) false L)) ∧ Fr [] w w' := by
  unfold maxLen at hL
  obtain ⟨n, hn⟩ : ∃ n, n = L.length := ⟨_, rfl⟩
  rw [← hn] at hL ⊢
  obtain ⟨ok, hokd⟩ : ∃ ok, ok = okP (n : Int) := ⟨_, rfl⟩
  rw [← hokd]
  obtain ⟨F, hF⟩ : ∃ F, F = validF ok false L := ⟨_, rfl⟩
  rw [← hF]
  have HN := Lib.hid hn; have HOKD := Lib.hid hokd; have HFF := Lib.hid hF; have H := Lib.hid h
  clear h hn hokd hF
  go_enter Try.func10, Try.ntmps10
  go_wp2_with fail
  go_loopw [3, 9] (fun v3 v9 wr => VaRel w ok F L v3 v9 wr) (fun _ v9 _ => n - (intOf v9).toNat)
  case atStart => exact ⟨0, false, rfl, rfl, by omega, by rw [HFF.out]; rfl, Fr.refl [] w⟩
  case round =>
    unfold VaRel at hrel
    obtain ⟨i, fnd, rfl, rfl, hi, hv, hfr⟩ := hrel
    rw [← HN.out] at hi
    have HV := Lib.hid hv; have HFR := Lib.hid hfr
    clear hv hfr
    by_cases hlt : i < n
    · obtain ⟨s, hs⟩ : ∃ s, L[i]? = some s := ⟨_, List.getElem?_eq_getElem (by rw [← HN.out]; exact hlt)⟩
      have hd : L.drop i = s :: L.drop (i + 1) := by
        have h1 := (List.getElem?_eq_some_iff.1 hs)
        obtain ⟨h1, h2⟩ := h1
        rw [List.drop_eq_getElem_cons h1, h2]
      obtain ⟨b, off, rfl, hb, hc⟩ := (H.out.fr HFR.out) i s hs
      obtain ⟨z, hz⟩ : ∃ z, z = s.none_ := ⟨_, rfl⟩
      have hneq : ∀ W, (binOp .neq 26 (.agg #[.int .u64 s.s0, .int .u64 s.s1, .int .u64 s.s2, .int .u64 s.s3]) (.agg #[.int .u64 0, .int .u64 0, .int .u64 0, .int .u64 0])).run Try.prog W = .ok (.bool (!z)) W := fun W => by rw [hz]; exact set_neq W s
      have c0 : wr.cell? ⟨b, off + i * 7, none⟩ = some (.int .i64 s.k) := hc 0 _ rfl
      have c1 := hc 1 _ rfl
      have c2 := hc 2 _ rfl
      have c3 := hc 3 _ rfl
      have c4 := hc 4 _ rfl
      have c5 := hc 5 _ rfl
      have c6 := hc 6 _ rfl
      obtain ⟨S, hS⟩ : ∃ S, S = s := ⟨_, rfl⟩
      rw [← hS] at hd hz
      have HSS := Lib.hid hS; clear hS
      obtain ⟨k, s0, s1, s2, s3, x, y⟩ := s
      dsimp only at hneq c0 c1 c2 c3 c4 c5 c6
      have HD := Lib.hid hd; have HZ := Lib.hid hz.symm; have HNEQ := Lib.hid hneq
      have FRR : ∀ O, Fr [] w (wr.alloc O) := fun O => HFR.out.alloc O
      clear hd hz hneq hs hc
      by_cases hk0 : k = 0
      · subst hk0
        by_cases hx1 : 0 ≤ x
        · by_cases hx2 : x < (n : Int)
          · have hxd : decide (0 ≤ x) = true := decide_eq_true hx1
            by_cases hy : y = 0
            · subst hy
              have hok : ok S = true := by
                have hz2 := HZ.out
                rw [HOKD.out]
                rw [HSS.out] at hz2 ⊢
                first | (simp [okP, hz2, hx1, hx2]; done) | (simp [okP, hz2, hx1, hx2]; omega)
              have hV : validF ok fnd (L.drop (i + 1)) = F := by
                have h := HV.out
                have hke : (fnd || S.k == 4) = fnd := by rw [HSS.out]; simp
                rw [HD.out, validF, if_pos hok, hke] at h
                exact h
              have HV2 := Lib.hid hV
              clear hok hV
              go_wp2_with fail
              go_roundw
              case rel => exact ⟨i + 1, fnd, by go_num, rfl, by rw [← HN.out]; omega, HV2.out, FRR _⟩
              case measure => first | (simp [intOf]; done) | (simp [intOf]; omega)
            · have hy' : (y == 0) = false := beq_eq_false_iff_ne.2 hy
              have hok : ok S = false := by
                have hz2 := HZ.out
                rw [HOKD.out]
                rw [HSS.out] at hz2 ⊢
                first | (simp [okP, hz2, hy]; done) | (simp [okP, hz2, hy]; omega)
              have hF : F = false := by rw [← HV.out, HD.out, validF, hok]; rfl
              clear hok
              go_wp2_with fail
              go_ret
              exact ⟨by first | rfl | (rw [hF]; rfl), FRR _⟩
          · have hx2' : (n : Int) ≤ x := by omega
            have hok : ok S = false := by
              have hz2 := HZ.out
              rw [HOKD.out]
              rw [HSS.out] at hz2 ⊢
              first | (simp [okP, hz2, hx2']; done) | (simp [okP, hz2, hx2']; omega)
            have hF : F = false := by rw [← HV.out, HD.out, validF, hok]; rfl
            clear hok
            go_wp2_with fail
            go_ret
            exact ⟨by first | rfl | (rw [hF]; rfl), FRR _⟩
        · have hx1' : x < 0 := by omega
          have hok : ok S = false := by
            have hz2 := HZ.out
            rw [HOKD.out]
            rw [HSS.out] at hz2 ⊢
            first | (simp [okP, hz2, hx1']; done) | (simp [okP, hz2, hx1']; omega)
          have hF : F = false := by rw [← HV.out, HD.out, validF, hok]; rfl
          clear hok
          go_wp2_with fail
          go_ret
          exact ⟨by first | rfl | (rw [hF]; rfl), FRR _⟩

      have hk0' : (k == 0) = false := beq_eq_false_iff_ne.2 hk0
      cases z with
      | false =>
        have hneq := HNEQ.out
        simp only [Bool.not_false] at hneq
        have hok : ok S = false := by
          have hz2 := HZ.out
          rw [HOKD.out]
          rw [HSS.out] at hz2 ⊢
          first | (simp [okP, hz2, hk0]; done) | (simp [okP, hz2, hk0]; omega)
        have hF : F = false := by rw [← HV.out, HD.out, validF, hok]; rfl
        clear hok
        go_wp2_with fail
        go_ret
        exact ⟨by first | rfl | (rw [hF]; rfl), FRR _⟩

      | true =>
        have hneq := HNEQ.out
        simp only [Bool.not_true] at hneq
        by_cases hk4 : k = 4
        · subst hk4
          by_cases hx : x = 0
          · subst hx
            have hn0 : (0 : Int) < (n : Int) := by omega
            have hn0' : 0 < n := by omega
            by_cases hy : y = 0
            · subst hy
              have hok : ok S = true := by
                have hz2 := HZ.out
                rw [HOKD.out]
                rw [HSS.out] at hz2 ⊢
                first | (simp [okP, hz2]; done) | (simp [okP, hz2]; omega)
              have hV : validF ok true (L.drop (i + 1)) = F := by
                have h := HV.out
                have hke : (fnd || S.k == 4) = true := by rw [HSS.out]; simp
                rw [HD.out, validF, if_pos hok, hke] at h
                exact h
              have HV2 := Lib.hid hV
              clear hok hV
              go_wp2_with fail
              go_roundw
              case rel => exact ⟨i + 1, true, by go_num, rfl, by rw [← HN.out]; omega, HV2.out, FRR _⟩
              case measure => first | (simp [intOf]; done) | (simp [intOf]; omega)
            · have hy' : (y == 0) = false := beq_eq_false_iff_ne.2 hy
              have hok : ok S = false := by
                have hz2 := HZ.out
                rw [HOKD.out]
                rw [HSS.out] at hz2 ⊢
                first | (simp [okP, hz2, hy]; done) | (simp [okP, hz2, hy]; omega)
              have hF : F = false := by rw [← HV.out, HD.out, validF, hok]; rfl
              clear hok
              go_wp2_with fail
              go_ret
              exact ⟨by first | rfl | (rw [hF]; rfl), FRR _⟩
          · have hx' : (x == 0) = false := beq_eq_false_iff_ne.2 hx
            have hok : ok S = false := by
              have hz2 := HZ.out
              rw [HOKD.out]
              rw [HSS.out] at hz2 ⊢
              first | (simp [okP, hz2, hx]; done) | (simp [okP, hz2, hx]; omega)
            by_cases hx1 : 0 ≤ x
            · by_cases hx2 : x < (n : Int)
              · have hF : F = false := by rw [← HV.out, HD.out, validF, hok]; rfl
                clear hok
                go_wp2_with fail
                go_ret
                exact ⟨by first | rfl | (rw [hF]; rfl), FRR _⟩
              · have hF : F = false := by rw [← HV.out, HD.out, validF, hok]; rfl
                clear hok
                go_wp2_with fail
                go_ret
                exact ⟨by first | rfl | (rw [hF]; rfl), FRR _⟩
            · have hx1' : x < 0 := by omega
              have hF : F = false := by rw [← HV.out, HD.out, validF, hok]; rfl
              clear hok
              go_wp2_with fail
              go_ret
              exact ⟨by first | rfl | (rw [hF]; rfl), FRR _⟩

        have hk4' : (k == 4) = false := beq_eq_false_iff_ne.2 hk4
        by_cases hk1 : k = 1
        · subst hk1
          by_cases hx1 : 0 ≤ x
          · by_cases hx2 : x < (n : Int)
            · have hxd : decide (0 ≤ x) = true := decide_eq_true hx1
              by_cases hy1 : 0 ≤ y
              · by_cases hy2 : y < (n : Int)
                · have hok : ok S = true := by
                    have hz2 := HZ.out
                    rw [HOKD.out]
                    rw [HSS.out] at hz2 ⊢
                    first | (simp [okP, hz2, hx1, hx2, hy1, hy2]; done) | (simp [okP, hz2, hx1, hx2, hy1, hy2]; omega)
                  have hV : validF ok fnd (L.drop (i + 1)) = F := by
                    have h := HV.out
                    have hke : (fnd || S.k == 4) = fnd := by rw [HSS.out]; simp
                    rw [HD.out, validF, if_pos hok, hke] at h
                    exact h
                  have HV2 := Lib.hid hV
                  clear hok hV
                  go_wp2_with fail
                  go_roundw
                  case rel => exact ⟨i + 1, fnd, by go_num, rfl, by rw [← HN.out]; omega, HV2.out, FRR _⟩
                  case measure => first | (simp [intOf]; done) | (simp [intOf]; omega)
                · have hy2' : (n : Int) ≤ y := by omega
                  have hok : ok S = false := by
                    have hz2 := HZ.out
                    rw [HOKD.out]
                    rw [HSS.out] at hz2 ⊢
                    first | (simp [okP, hz2, hy2']; done) | (simp [okP, hz2, hy2']; omega)
                  have hF : F = false := by rw [← HV.out, HD.out, validF, hok]; rfl
                  clear hok
                  go_wp2_with fail
                  go_ret
                  exact ⟨by first | rfl | (rw [hF]; rfl), FRR _⟩
              · have hy1' : y < 0 := by omega
                have hok : ok S = false := by
                  have hz2 := HZ.out
                  rw [HOKD.out]
                  rw [HSS.out] at hz2 ⊢
                  first | (simp [okP, hz2, hy1']; done) | (simp [okP, hz2, hy1']; omega)
                have hF : F = false := by rw [← HV.out, HD.out, validF, hok]; rfl
                clear hok
                go_wp2_with fail
                go_ret
                exact ⟨by first | rfl | (rw [hF]; rfl), FRR _⟩
            · have hx2' : (n : Int) ≤ x := by omega
              have hok : ok S = false := by
                have hz2 := HZ.out
                rw [HOKD.out]
                rw [HSS.out] at hz2 ⊢
                first | (simp [okP, hz2, hx2']; done) | (simp [okP, hz2, hx2']; omega)
              have hF : F = false := by rw [← HV.out, HD.out, validF, hok]; rfl
              clear hok
              go_wp2_with fail
              go_ret
              exact ⟨by first | rfl | (rw [hF]; rfl), FRR _⟩
          · have hx1' : x < 0 := by omega
            have hok : ok S = false := by
              have hz2 := HZ.out
              rw [HOKD.out]
              rw [HSS.out] at hz2 ⊢
              first | (simp [okP, hz2, hx1']; done) | (simp [okP, hz2, hx1']; omega)
            have hF : F = false := by rw [← HV.out, HD.out, validF, hok]; rfl
            clear hok
            go_wp2_with fail
            go_ret
            exact ⟨by first | rfl | (rw [hF]; rfl), FRR _⟩

        have hk1' : (k == 1) = false := beq_eq_false_iff_ne.2 hk1
        by_cases hk2 : k = 2
        · subst hk2
          by_cases hx1 : 0 ≤ x
          · by_cases hx2 : x < (n : Int)
            · have hxd : decide (0 ≤ x) = true := decide_eq_true hx1
              by_cases hy : y = 0
              · subst hy
                have hok : ok S = true := by
                  have hz2 := HZ.out
                  rw [HOKD.out]
                  rw [HSS.out] at hz2 ⊢
                  first | (simp [okP, hz2, hx1, hx2]; done) | (simp [okP, hz2, hx1, hx2]; omega)
                have hV : validF ok fnd (L.drop (i + 1)) = F := by
                  have h := HV.out
                  have hke : (fnd || S.k == 4) = fnd := by rw [HSS.out]; simp
                  rw [HD.out, validF, if_pos hok, hke] at h
                  exact h
                have HV2 := Lib.hid hV
                clear hok hV
                go_wp2_with fail
                go_roundw
                case rel => exact ⟨i + 1, fnd, by go_num, rfl, by rw [← HN.out]; omega, HV2.out, FRR _⟩
                case measure => first | (simp [intOf]; done) | (simp [intOf]; omega)
              · have hy' : (y == 0) = false := beq_eq_false_iff_ne.2 hy
                have hok : ok S = false := by
                  have hz2 := HZ.out
                  rw [HOKD.out]
                  rw [HSS.out] at hz2 ⊢
                  first | (simp [okP, hz2, hy]; done) | (simp [okP, hz2, hy]; omega)
                have hF : F = false := by rw [← HV.out, HD.out, validF, hok]; rfl
                clear hok
                go_wp2_with fail
                go_ret
                exact ⟨by first | rfl | (rw [hF]; rfl), FRR _⟩
            · have hx2' : (n : Int) ≤ x := by omega
              have hok : ok S = false := by
                have hz2 := HZ.out
                rw [HOKD.out]
                rw [HSS.out] at hz2 ⊢
                first | (simp [okP, hz2, hx2']; done) | (simp [okP, hz2, hx2']; omega)
              have hF : F = false := by rw [← HV.out, HD.out, validF, hok]; rfl
              clear hok
              go_wp2_with fail
              go_ret
              exact ⟨by first | rfl | (rw [hF]; rfl), FRR _⟩
          · have hx1' : x < 0 := by omega
            have hok : ok S = false := by
              have hz2 := HZ.out
              rw [HOKD.out]
              rw [HSS.out] at hz2 ⊢
              first | (simp [okP, hz2, hx1']; done) | (simp [okP, hz2, hx1']; omega)
            have hF : F = false := by rw [← HV.out, HD.out, validF, hok]; rfl
            clear hok
            go_wp2_with fail
            go_ret
            exact ⟨by first | rfl | (rw [hF]; rfl), FRR _⟩

        have hk2' : (k == 2) = false := beq_eq_false_iff_ne.2 hk2
        by_cases hk3 : k = 3
        · subst hk3
          by_cases hx1 : 0 ≤ x
          · by_cases hx2 : x < (n : Int)
            · have hxd : decide (0 ≤ x) = true := decide_eq_true hx1
              by_cases hy : y = 0
              · subst hy
                have hok : ok S = true := by
                  have hz2 := HZ.out
                  rw [HOKD.out]
                  rw [HSS.out] at hz2 ⊢
                  first | (simp [okP, hz2, hx1, hx2]; done) | (simp [okP, hz2, hx1, hx2]; omega)
                have hV : validF ok fnd (L.drop (i + 1)) = F := by
                  have h := HV.out
                  have hke : (fnd || S.k == 4) = fnd := by rw [HSS.out]; simp
                  rw [HD.out, validF, if_pos hok, hke] at h
                  exact h
                have HV2 := Lib.hid hV
                clear hok hV
                go_wp2_with fail
                go_roundw
                case rel => exact ⟨i + 1, fnd, by go_num, rfl, by rw [← HN.out]; omega, HV2.out, FRR _⟩
                case measure => first | (simp [intOf]; done) | (simp [intOf]; omega)
              · have hy' : (y == 0) = false := beq_eq_false_iff_ne.2 hy
                have hok : ok S = false := by
                  have hz2 := HZ.out
                  rw [HOKD.out]
                  rw [HSS.out] at hz2 ⊢
                  first | (simp [okP, hz2, hy]; done) | (simp [okP, hz2, hy]; omega)
                have hF : F = false := by rw [← HV.out, HD.out, validF, hok]; rfl
                clear hok
                go_wp2_with fail
                go_ret
                exact ⟨by first | rfl | (rw [hF]; rfl), FRR _⟩
            · have hx2' : (n : Int) ≤ x := by omega
              have hok : ok S = false := by
                have hz2 := HZ.out
                rw [HOKD.out]
                rw [HSS.out] at hz2 ⊢
                first | (simp [okP, hz2, hx2']; done) | (simp [okP, hz2, hx2']; omega)
              have hF : F = false := by rw [← HV.out, HD.out, validF, hok]; rfl
              clear hok
              go_wp2_with fail
              go_ret
              exact ⟨by first | rfl | (rw [hF]; rfl), FRR _⟩
          · have hx1' : x < 0 := by omega
            have hok : ok S = false := by
              have hz2 := HZ.out
              rw [HOKD.out]
              rw [HSS.out] at hz2 ⊢
              first | (simp [okP, hz2, hx1']; done) | (simp [okP, hz2, hx1']; omega)
            have hF : F = false := by rw [← HV.out, HD.out, validF, hok]; rfl
            clear hok
            go_wp2_with fail
            go_ret
            exact ⟨by first | rfl | (rw [hF]; rfl), FRR _⟩

        have hk3' : (k == 3) = false := beq_eq_false_iff_ne.2 hk3
        by_cases hx1 : 0 ≤ x
        · by_cases hx2 : x < (n : Int)
          · have hxd : decide (0 ≤ x) = true := decide_eq_true hx1
            have hok : ok S = false := by
              have hz2 := HZ.out
              rw [HOKD.out]
              rw [HSS.out] at hz2 ⊢
              first | (simp [okP, hz2, hk0, hk1, hk2, hk3, hk4]; done) | (simp [okP, hz2, hk0, hk1, hk2, hk3, hk4]; omega)
            have hF : F = false := by rw [← HV.out, HD.out, validF, hok]; rfl
            clear hok
            go_wp2_with fail
            go_ret
            exact ⟨by first | rfl | (rw [hF]; rfl), FRR _⟩
          · have hx2' : (n : Int) ≤ x := by omega
            have hok : ok S = false := by
              have hz2 := HZ.out
              rw [HOKD.out]
              rw [HSS.out] at hz2 ⊢
              first | (simp [okP, hz2, hk0, hk1, hk2, hk3, hk4, hx2']; done) | (simp [okP, hz2, hk0, hk1, hk2, hk3, hk4, hx2']; omega)
            have hF : F = false := by rw [← HV.out, HD.out, validF, hok]; rfl
            clear hok
            go_wp2_with fail
            go_ret
            exact ⟨by first | rfl | (rw [hF]; rfl), FRR _⟩
        · have hx1' : x < 0 := by omega
          have hok : ok S = false := by
            have hz2 := HZ.out
            rw [HOKD.out]
            rw [HSS.out] at hz2 ⊢
            first | (simp [okP, hz2, hk0, hk1, hk2, hk3, hk4, hx1']; done) | (simp [okP, hz2, hk0, hk1, hk2, hk3, hk4, hx1']; omega)
          have hF : F = false := by rw [← HV.out, HD.out, validF, hok]; rfl
          clear hok
          go_wp2_with fail
          go_ret
          exact ⟨by first | rfl | (rw [hF]; rfl), FRR _⟩
    · obtain rfl : n = i := by omega
      have hF : fnd = F := by
        have h := HV.out
        have h2 : L.drop n = [] := List.drop_eq_nil_of_le (by rw [← HN.out]; exact Nat.le_refl _)
        rw [h2] at h
        exact h
      have HFE := Lib.hid hF; have HEQ := Lib.hid hF; clear hF
      go_wp2_with fail
      go_ret
      exact ⟨by rw [← HFE.out]; rfl, HFR.out⟩
end Go.Proofs.Ytehnkcfnflnpjaa
