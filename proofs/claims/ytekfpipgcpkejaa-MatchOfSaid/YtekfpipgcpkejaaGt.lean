/-
 StW, StO, OvP, OfQ: several small texts in one. No conditions.
-/
import Derived.Test.YtekfpipgcpkejaaGi
import Derived.Test.YtekfpipgcpkejaaRead
import Derived.Test.YtekfpipgcpkejaaMbP
import Derived.Test.YtekfpipgcpkejaaGa
import Derived.Test.YtekfpipgcpkejaaGo
namespace Go.Proofs.Ytekfpipgcpkejaa
open Go.RowKit Go.ChangeMaps
set_option linter.unusedVariables false
set_option linter.unusedSimpArgs false
def StAt (w : World) (A : Option Addr) (L : List Sp) : Prop := ∀ i s, L[i]? = some s → ∃ b off, A = some ⟨b, off, none⟩ ∧ b < w.heap.size ∧ ∀ j u, s.cells[j]? = some u → w.cell? ⟨b, off + i * 7 + j, none⟩ = some u
theorem StAt.fr {w w' : World} {A : Option Addr} {L : List Sp} (h : StAt w A L) (hf : Fr [] w w') : StAt w' A L := fun i s hs => by
 obtain ⟨b, off, hA, hb, hc⟩ := h i s hs
 exact ⟨b, off, hA, Nat.lt_of_lt_of_le hb hf.size, fun j u hu => (hf.cell (p := ⟨b, off + i * 7 + j, none⟩) hb (by simp)).trans (hc j u hu)⟩
theorem StAt.of_own {w : World} {base n cap : Nat} {A : Option Addr} {L : List Sp} (h : w.ownsRow base 97 7 (.slice A n cap) n (L.flatMap Sp.cells)) : StAt w A L := fun i s hs => by
 have hi : i < L.length := (List.getElem?_eq_some_iff.1 hs).1
 have hfl := flat_len sp_len L
 obtain ⟨b, hA, hb, -, hc⟩ := own_cells h (fun e => by rw [e] at hfl; simp at hfl; omega)
 refine ⟨b, 0, hA, hb, fun j u hu => ?_⟩
 have hj : j < 7 := by
  rcases Nat.lt_or_ge j 7 with h | h
  ·exact h
  ·rw [List.getElem?_eq_none (by rw [sp_len]; exact h)] at hu; cases hu
 rw [Nat.zero_add]
 exact hc _ _ ((flat_at sp_len s j hj L i hs).trans hu)
theorem set_part (w : World) (a b c d : Int) : (part 62 #[.int .u64 a, .int .u64 b, .int .u64 c, .int .u64 d] 0).run Try.prog w = .ok (.int .u64 a) w ∧ (part 62 #[.int .u64 a, .int .u64 b, .int .u64 c, .int .u64 d] 1).run Try.prog w = .ok (.int .u64 b) w ∧
    (part 62 #[.int .u64 a, .int .u64 b, .int .u64 c, .int .u64 d] 2).run Try.prog w = .ok (.int .u64 c) w ∧ (part 62 #[.int .u64 a, .int .u64 b, .int .u64 c, .int .u64 d] 3).run Try.prog w = .ok (.int .u64 d) w := ⟨by kernel_rfl, by kernel_rfl, by kernel_rfl, by kernel_rfl⟩
theorem u64_one : (Try.prog.info? 62).map (·.size) = some 1 := by kernel_rfl
theorem run_equalIn_u64 (w : World) (d : Nat) (a b : Int) : (Op.equalIn (d + 1) 62 (.int .u64 a) (.int .u64 b)).run Try.prog w = .ok (a == b) w := by
 simp [Op.equalIn, run_underlying Try.underlying62]
theorem set_zero (w : World) (a b c d : Int) : (Op.equal 64 (.agg #[.int .u64 a, .int .u64 b, .int .u64 c, .int .u64 d]) (.agg #[.int .u64 0, .int .u64 0, .int .u64 0, .int .u64 0])).run Try.prog w = .ok (a == 0 && b == 0 && c == 0 && d == 0) w := by
 obtain ⟨i, hi, hz⟩ : ∃ i, Try.prog.info? 62 = some i ∧ i.size = 1 := by
  have h := u64_one
  cases e : Try.prog.info? 62 with
  | none => rw [e] at h; cases h
  | some i => rw [e] at h; exact ⟨i, rfl, by simpa using h⟩
 obtain ⟨p0, p1, p2, p3⟩ := set_part w a b c d
 obtain ⟨q0, q1, q2, q3⟩ := set_part w 0 0 0 0
 have e := run_equalIn_u64 w 9998
 show (Op.equalIn (9998 + 1 + 1) _ _ _).run Try.prog w = _
 unfold Op.equalIn
 simp [run_underlying Try.underlying64, sizeOf, typeInfo, hi, hz, List.range'_succ, p0, p1, p2, p3, q0, q1, q2, q3, e]
 by_cases h0 : a = 0 <;> by_cases h1 : b = 0 <;> by_cases h2 : c = 0 <;> by_cases h3 : d = 0 <;> simp [h0, h1, h2, h3]
theorem set_neq (w : World) (s : Sp) : (binOp .neq 64 (.agg #[.int .u64 s.s0, .int .u64 s.s1, .int .u64 s.s2, .int .u64 s.s3]) (.agg #[.int .u64 0, .int .u64 0, .int .u64 0, .int .u64 0])).run Try.prog w = .ok (.bool (!s.none_)) w := by
 have h := set_zero w s.s0 s.s1 s.s2 s.s3
 simp [binOp, h, Sp.none_]
def VaRel (w : World) (ok : Sp → Bool) (F : Bool) (L : List Sp) (v3 v9 : Value) (wr : World) : Prop :=
 ∃ (i : Nat) (fnd : Bool), v9 = .int .i64 (i : Int) ∧ v3 = .bool fnd ∧ i ≤ L.length ∧ validF ok fnd (L.drop i) = F ∧ Fr [] w wr
set_option maxRecDepth 100000 in
set_option maxHeartbeats 16000000 in
theorem valid_any {w : World} {A : Option Addr} {c : Nat} {L : List Sp} (h : StAt w A L) (hL : L.length ≤ maxLen) :
    Calls Try.prog 26 #[.slice A L.length c] w fun e w' => e = .returned (.bool (validF (okP L.length) false L)) ∧ Fr [] w w' := by
 unfold maxLen at hL
 obtain ⟨n, hn⟩ : ∃ n, n = L.length := ⟨_, rfl⟩
 rw [← hn] at hL ⊢
 obtain ⟨ok, hokd⟩ : ∃ ok, ok = okP (n : Int) := ⟨_, rfl⟩
 rw [← hokd]
 obtain ⟨F, hF⟩ : ∃ F, F = validF ok false L := ⟨_, rfl⟩
 rw [← hF]
 have HN := Lib.hid hn; have HOKD := Lib.hid hokd; have HFF := Lib.hid hF; have H := Lib.hid h
 clear h hn hokd hF
 go_enter Try.func26, Try.ntmps26
 go_wp2_with fail
 go_loopw [3, 9] (fun v3 v9 wr => VaRel w ok F L v3 v9 wr) (fun _ v9 _ => n - (intOf v9).toNat)
 case atStart => exact ⟨0, false, rfl, rfl, by omega, by rw [HFF.out]; rfl, Fr.refl [] w⟩
 case round =>
  unfold VaRel at hrel
  obtain ⟨i, fnd, rfl, rfl, hi, hv, hfr⟩ := hrel
  rw [← HN.out] at hi
  have HV := Lib.hid hv; have HFR := Lib.hid hfr
  clear hv hfr
  by_cases hlt : i < n
  ·obtain ⟨s, hs⟩ : ∃ s, L[i]? = some s := ⟨_, List.getElem?_eq_getElem (by rw [← HN.out]; exact hlt)⟩
   have hd : L.drop i = s :: L.drop (i + 1) := by
    have h1 := (List.getElem?_eq_some_iff.1 hs)
    obtain ⟨h1, h2⟩ := h1
    rw [List.drop_eq_getElem_cons h1, h2]
   obtain ⟨b, off, rfl, hb, hc⟩ := (H.out.fr HFR.out) i s hs
   obtain ⟨z, hz⟩ : ∃ z, z = s.none_ := ⟨_, rfl⟩
   have hneq : ∀ W, (binOp .neq 64 (.agg #[.int .u64 s.s0, .int .u64 s.s1, .int .u64 s.s2, .int .u64 s.s3]) (.agg #[.int .u64 0, .int .u64 0, .int .u64 0, .int .u64 0])).run Try.prog W = .ok (.bool (!z)) W := fun W => by rw [hz]; exact set_neq W s
   have c0 : wr.cell? ⟨b, off + i * 7, none⟩ = some (.int .i64 s.k) := hc 0 _ rfl
   have c1 := hc 1 _ rfl
   have c2 := hc 2 _ rfl
   have c3 := hc 3 _ rfl
   have c4 := hc 4 _ rfl
   have c5 := hc 5 _ rfl
   have c6 := hc 6 _ rfl
   obtain ⟨S, hS⟩ : ∃ S, S = s := ⟨_, rfl⟩
   rw [← hS] at hd hz
   have HSS := Lib.hid hS; clear hS
   obtain ⟨k, s0, s1, s2, s3, x, y⟩ := s
   dsimp only at hneq c0 c1 c2 c3 c4 c5 c6
   have HD := Lib.hid hd; have HZ := Lib.hid hz.symm; have HNEQ := Lib.hid hneq
   have FRR : ∀ O, Fr [] w (wr.alloc O) := fun O => HFR.out.alloc O
   clear hd hz hneq hs hc
   by_cases hk0 : k = 0
   ·subst hk0
    by_cases hx1 : 0 ≤ x
    ·by_cases hx2 : x < (n : Int)
     ·have hxd : decide (0 ≤ x) = true := decide_eq_true hx1
      by_cases hy : y = 0
      ·subst hy
       have hok : ok S = true := by
        have hz2 := HZ.out
        rw [HOKD.out]
        rw [HSS.out] at hz2 ⊢
        first | (simp [okP, hz2, hx1, hx2]; done) | (simp [okP, hz2, hx1, hx2]; omega)
       have hV : validF ok fnd (L.drop (i + 1)) = F := by
        have h := HV.out
        have hke : (fnd || S.k == 4) = fnd := by rw [HSS.out]; simp
        rw [HD.out, validF, if_pos hok, hke] at h
        exact h
       have HV2 := Lib.hid hV
       clear hok hV
       go_wp2_with fail
       go_roundw
       case rel => exact ⟨i + 1, fnd, by go_num, rfl, by rw [← HN.out]; omega, HV2.out, FRR _⟩
       case measure => first | (simp [intOf]; done) | (simp [intOf]; omega)
      ·have hy' : (y == 0) = false := beq_eq_false_iff_ne.2 hy
       have hok : ok S = false := by
        have hz2 := HZ.out
        rw [HOKD.out]
        rw [HSS.out] at hz2 ⊢
        first | (simp [okP, hz2, hy]; done) | (simp [okP, hz2, hy]; omega)
       have hF : F = false := by rw [← HV.out, HD.out, validF, hok]; rfl
       clear hok
       go_wp2_with fail
       go_ret
       exact ⟨by first | rfl | (rw [hF]; rfl), FRR _⟩
     ·have hx2' : (n : Int) ≤ x := by omega
      have hok : ok S = false := by
       have hz2 := HZ.out
       rw [HOKD.out]
       rw [HSS.out] at hz2 ⊢
       first | (simp [okP, hz2, hx2']; done) | (simp [okP, hz2, hx2']; omega)
      have hF : F = false := by rw [← HV.out, HD.out, validF, hok]; rfl
      clear hok
      go_wp2_with fail
      go_ret
      exact ⟨by first | rfl | (rw [hF]; rfl), FRR _⟩
    ·have hx1' : x < 0 := by omega
     have hok : ok S = false := by
      have hz2 := HZ.out
      rw [HOKD.out]
      rw [HSS.out] at hz2 ⊢
      first | (simp [okP, hz2, hx1']; done) | (simp [okP, hz2, hx1']; omega)
     have hF : F = false := by rw [← HV.out, HD.out, validF, hok]; rfl
     clear hok
     go_wp2_with fail
     go_ret
     exact ⟨by first | rfl | (rw [hF]; rfl), FRR _⟩
   have hk0' : (k == 0) = false := beq_eq_false_iff_ne.2 hk0
   cases z with
   | false =>
    have hneq := HNEQ.out
    simp only [Bool.not_false] at hneq
    have hok : ok S = false := by
     have hz2 := HZ.out
     rw [HOKD.out]
     rw [HSS.out] at hz2 ⊢
     first | (simp [okP, hz2, hk0]; done) | (simp [okP, hz2, hk0]; omega)
    have hF : F = false := by rw [← HV.out, HD.out, validF, hok]; rfl
    clear hok
    go_wp2_with fail
    go_ret
    exact ⟨by first | rfl | (rw [hF]; rfl), FRR _⟩
   | true =>
    have hneq := HNEQ.out
    simp only [Bool.not_true] at hneq
    by_cases hk4 : k = 4
    ·subst hk4
     by_cases hx : x = 0
     ·subst hx
      have hn0 : (0 : Int) < (n : Int) := by omega
      have hn0' : 0 < n := by omega
      by_cases hy : y = 0
      ·subst hy
       have hok : ok S = true := by
        have hz2 := HZ.out
        rw [HOKD.out]
        rw [HSS.out] at hz2 ⊢
        first | (simp [okP, hz2]; done) | (simp [okP, hz2]; omega)
       have hV : validF ok true (L.drop (i + 1)) = F := by
        have h := HV.out
        have hke : (fnd || S.k == 4) = true := by rw [HSS.out]; simp
        rw [HD.out, validF, if_pos hok, hke] at h
        exact h
       have HV2 := Lib.hid hV
       clear hok hV
       go_wp2_with fail
       go_roundw
       case rel => exact ⟨i + 1, true, by go_num, rfl, by rw [← HN.out]; omega, HV2.out, FRR _⟩
       case measure => first | (simp [intOf]; done) | (simp [intOf]; omega)
      ·have hy' : (y == 0) = false := beq_eq_false_iff_ne.2 hy
       have hok : ok S = false := by
        have hz2 := HZ.out
        rw [HOKD.out]
        rw [HSS.out] at hz2 ⊢
        first | (simp [okP, hz2, hy]; done) | (simp [okP, hz2, hy]; omega)
       have hF : F = false := by rw [← HV.out, HD.out, validF, hok]; rfl
       clear hok
       go_wp2_with fail
       go_ret
       exact ⟨by first | rfl | (rw [hF]; rfl), FRR _⟩
     ·have hx' : (x == 0) = false := beq_eq_false_iff_ne.2 hx
      have hok : ok S = false := by
       have hz2 := HZ.out
       rw [HOKD.out]
       rw [HSS.out] at hz2 ⊢
       first | (simp [okP, hz2, hx]; done) | (simp [okP, hz2, hx]; omega)
      by_cases hx1 : 0 ≤ x
      ·by_cases hx2 : x < (n : Int)
       ·have hF : F = false := by rw [← HV.out, HD.out, validF, hok]; rfl
        clear hok
        go_wp2_with fail
        go_ret
        exact ⟨by first | rfl | (rw [hF]; rfl), FRR _⟩
       ·have hF : F = false := by rw [← HV.out, HD.out, validF, hok]; rfl
        clear hok
        go_wp2_with fail
        go_ret
        exact ⟨by first | rfl | (rw [hF]; rfl), FRR _⟩
      ·have hx1' : x < 0 := by omega
       have hF : F = false := by rw [← HV.out, HD.out, validF, hok]; rfl
       clear hok
       go_wp2_with fail
       go_ret
       exact ⟨by first | rfl | (rw [hF]; rfl), FRR _⟩
    have hk4' : (k == 4) = false := beq_eq_false_iff_ne.2 hk4
    by_cases hk1 : k = 1
    ·subst hk1
     by_cases hx1 : 0 ≤ x
     ·by_cases hx2 : x < (n : Int)
      ·have hxd : decide (0 ≤ x) = true := decide_eq_true hx1
       by_cases hy1 : 0 ≤ y
       ·by_cases hy2 : y < (n : Int)
        ·have hok : ok S = true := by
          have hz2 := HZ.out
          rw [HOKD.out]
          rw [HSS.out] at hz2 ⊢
          first | (simp [okP, hz2, hx1, hx2, hy1, hy2]; done) | (simp [okP, hz2, hx1, hx2, hy1, hy2]; omega)
         have hV : validF ok fnd (L.drop (i + 1)) = F := by
          have h := HV.out
          have hke : (fnd || S.k == 4) = fnd := by rw [HSS.out]; simp
          rw [HD.out, validF, if_pos hok, hke] at h
          exact h
         have HV2 := Lib.hid hV
         clear hok hV
         go_wp2_with fail
         go_roundw
         case rel => exact ⟨i + 1, fnd, by go_num, rfl, by rw [← HN.out]; omega, HV2.out, FRR _⟩
         case measure => first | (simp [intOf]; done) | (simp [intOf]; omega)
        ·have hy2' : (n : Int) ≤ y := by omega
         have hok : ok S = false := by
          have hz2 := HZ.out
          rw [HOKD.out]
          rw [HSS.out] at hz2 ⊢
          first | (simp [okP, hz2, hy2']; done) | (simp [okP, hz2, hy2']; omega)
         have hF : F = false := by rw [← HV.out, HD.out, validF, hok]; rfl
         clear hok
         go_wp2_with fail
         go_ret
         exact ⟨by first | rfl | (rw [hF]; rfl), FRR _⟩
       ·have hy1' : y < 0 := by omega
        have hok : ok S = false := by
         have hz2 := HZ.out
         rw [HOKD.out]
         rw [HSS.out] at hz2 ⊢
         first | (simp [okP, hz2, hy1']; done) | (simp [okP, hz2, hy1']; omega)
        have hF : F = false := by rw [← HV.out, HD.out, validF, hok]; rfl
        clear hok
        go_wp2_with fail
        go_ret
        exact ⟨by first | rfl | (rw [hF]; rfl), FRR _⟩
      ·have hx2' : (n : Int) ≤ x := by omega
       have hok : ok S = false := by
        have hz2 := HZ.out
        rw [HOKD.out]
        rw [HSS.out] at hz2 ⊢
        first | (simp [okP, hz2, hx2']; done) | (simp [okP, hz2, hx2']; omega)
       have hF : F = false := by rw [← HV.out, HD.out, validF, hok]; rfl
       clear hok
       go_wp2_with fail
       go_ret
       exact ⟨by first | rfl | (rw [hF]; rfl), FRR _⟩
     ·have hx1' : x < 0 := by omega
      have hok : ok S = false := by
       have hz2 := HZ.out
       rw [HOKD.out]
       rw [HSS.out] at hz2 ⊢
       first | (simp [okP, hz2, hx1']; done) | (simp [okP, hz2, hx1']; omega)
      have hF : F = false := by rw [← HV.out, HD.out, validF, hok]; rfl
      clear hok
      go_wp2_with fail
      go_ret
      exact ⟨by first | rfl | (rw [hF]; rfl), FRR _⟩
    have hk1' : (k == 1) = false := beq_eq_false_iff_ne.2 hk1
    by_cases hk2 : k = 2
    ·subst hk2
     by_cases hx1 : 0 ≤ x
     ·by_cases hx2 : x < (n : Int)
      ·have hxd : decide (0 ≤ x) = true := decide_eq_true hx1
       by_cases hy : y = 0
       ·subst hy
        have hok : ok S = true := by
         have hz2 := HZ.out
         rw [HOKD.out]
         rw [HSS.out] at hz2 ⊢
         first | (simp [okP, hz2, hx1, hx2]; done) | (simp [okP, hz2, hx1, hx2]; omega)
        have hV : validF ok fnd (L.drop (i + 1)) = F := by
         have h := HV.out
         have hke : (fnd || S.k == 4) = fnd := by rw [HSS.out]; simp
         rw [HD.out, validF, if_pos hok, hke] at h
         exact h
        have HV2 := Lib.hid hV
        clear hok hV
        go_wp2_with fail
        go_roundw
        case rel => exact ⟨i + 1, fnd, by go_num, rfl, by rw [← HN.out]; omega, HV2.out, FRR _⟩
        case measure => first | (simp [intOf]; done) | (simp [intOf]; omega)
       ·have hy' : (y == 0) = false := beq_eq_false_iff_ne.2 hy
        have hok : ok S = false := by
         have hz2 := HZ.out
         rw [HOKD.out]
         rw [HSS.out] at hz2 ⊢
         first | (simp [okP, hz2, hy]; done) | (simp [okP, hz2, hy]; omega)
        have hF : F = false := by rw [← HV.out, HD.out, validF, hok]; rfl
        clear hok
        go_wp2_with fail
        go_ret
        exact ⟨by first | rfl | (rw [hF]; rfl), FRR _⟩
      ·have hx2' : (n : Int) ≤ x := by omega
       have hok : ok S = false := by
        have hz2 := HZ.out
        rw [HOKD.out]
        rw [HSS.out] at hz2 ⊢
        first | (simp [okP, hz2, hx2']; done) | (simp [okP, hz2, hx2']; omega)
       have hF : F = false := by rw [← HV.out, HD.out, validF, hok]; rfl
       clear hok
       go_wp2_with fail
       go_ret
       exact ⟨by first | rfl | (rw [hF]; rfl), FRR _⟩
     ·have hx1' : x < 0 := by omega
      have hok : ok S = false := by
       have hz2 := HZ.out
       rw [HOKD.out]
       rw [HSS.out] at hz2 ⊢
       first | (simp [okP, hz2, hx1']; done) | (simp [okP, hz2, hx1']; omega)
      have hF : F = false := by rw [← HV.out, HD.out, validF, hok]; rfl
      clear hok
      go_wp2_with fail
      go_ret
      exact ⟨by first | rfl | (rw [hF]; rfl), FRR _⟩
    have hk2' : (k == 2) = false := beq_eq_false_iff_ne.2 hk2
    by_cases hk3 : k = 3
    ·subst hk3
     by_cases hx1 : 0 ≤ x
     ·by_cases hx2 : x < (n : Int)
      ·have hxd : decide (0 ≤ x) = true := decide_eq_true hx1
       by_cases hy : y = 0
       ·subst hy
        have hok : ok S = true := by
         have hz2 := HZ.out
         rw [HOKD.out]
         rw [HSS.out] at hz2 ⊢
         first | (simp [okP, hz2, hx1, hx2]; done) | (simp [okP, hz2, hx1, hx2]; omega)
        have hV : validF ok fnd (L.drop (i + 1)) = F := by
         have h := HV.out
         have hke : (fnd || S.k == 4) = fnd := by rw [HSS.out]; simp
         rw [HD.out, validF, if_pos hok, hke] at h
         exact h
        have HV2 := Lib.hid hV
        clear hok hV
        go_wp2_with fail
        go_roundw
        case rel => exact ⟨i + 1, fnd, by go_num, rfl, by rw [← HN.out]; omega, HV2.out, FRR _⟩
        case measure => first | (simp [intOf]; done) | (simp [intOf]; omega)
       ·have hy' : (y == 0) = false := beq_eq_false_iff_ne.2 hy
        have hok : ok S = false := by
         have hz2 := HZ.out
         rw [HOKD.out]
         rw [HSS.out] at hz2 ⊢
         first | (simp [okP, hz2, hy]; done) | (simp [okP, hz2, hy]; omega)
        have hF : F = false := by rw [← HV.out, HD.out, validF, hok]; rfl
        clear hok
        go_wp2_with fail
        go_ret
        exact ⟨by first | rfl | (rw [hF]; rfl), FRR _⟩
      ·have hx2' : (n : Int) ≤ x := by omega
       have hok : ok S = false := by
        have hz2 := HZ.out
        rw [HOKD.out]
        rw [HSS.out] at hz2 ⊢
        first | (simp [okP, hz2, hx2']; done) | (simp [okP, hz2, hx2']; omega)
       have hF : F = false := by rw [← HV.out, HD.out, validF, hok]; rfl
       clear hok
       go_wp2_with fail
       go_ret
       exact ⟨by first | rfl | (rw [hF]; rfl), FRR _⟩
     ·have hx1' : x < 0 := by omega
      have hok : ok S = false := by
       have hz2 := HZ.out
       rw [HOKD.out]
       rw [HSS.out] at hz2 ⊢
       first | (simp [okP, hz2, hx1']; done) | (simp [okP, hz2, hx1']; omega)
      have hF : F = false := by rw [← HV.out, HD.out, validF, hok]; rfl
      clear hok
      go_wp2_with fail
      go_ret
      exact ⟨by first | rfl | (rw [hF]; rfl), FRR _⟩
    have hk3' : (k == 3) = false := beq_eq_false_iff_ne.2 hk3
    by_cases hx1 : 0 ≤ x
    ·by_cases hx2 : x < (n : Int)
     ·have hxd : decide (0 ≤ x) = true := decide_eq_true hx1
      have hok : ok S = false := by
       have hz2 := HZ.out
       rw [HOKD.out]
       rw [HSS.out] at hz2 ⊢
       first | (simp [okP, hz2, hk0, hk1, hk2, hk3, hk4]; done) | (simp [okP, hz2, hk0, hk1, hk2, hk3, hk4]; omega)
      have hF : F = false := by rw [← HV.out, HD.out, validF, hok]; rfl
      clear hok
      go_wp2_with fail
      go_ret
      exact ⟨by first | rfl | (rw [hF]; rfl), FRR _⟩
     ·have hx2' : (n : Int) ≤ x := by omega
      have hok : ok S = false := by
       have hz2 := HZ.out
       rw [HOKD.out]
       rw [HSS.out] at hz2 ⊢
       first | (simp [okP, hz2, hk0, hk1, hk2, hk3, hk4, hx2']; done) | (simp [okP, hz2, hk0, hk1, hk2, hk3, hk4, hx2']; omega)
      have hF : F = false := by rw [← HV.out, HD.out, validF, hok]; rfl
      clear hok
      go_wp2_with fail
      go_ret
      exact ⟨by first | rfl | (rw [hF]; rfl), FRR _⟩
    ·have hx1' : x < 0 := by omega
     have hok : ok S = false := by
      have hz2 := HZ.out
      rw [HOKD.out]
      rw [HSS.out] at hz2 ⊢
      first | (simp [okP, hz2, hk0, hk1, hk2, hk3, hk4, hx1']; done) | (simp [okP, hz2, hk0, hk1, hk2, hk3, hk4, hx1']; omega)
     have hF : F = false := by rw [← HV.out, HD.out, validF, hok]; rfl
     clear hok
     go_wp2_with fail
     go_ret
     exact ⟨by first | rfl | (rw [hF]; rfl), FRR _⟩
  ·obtain rfl : n = i := by omega
   have hF : fnd = F := by
    have h := HV.out
    have h2 : L.drop n = [] := List.drop_eq_nil_of_le (by rw [← HN.out]; exact Nat.le_refl _)
    rw [h2] at h
    exact h
   have HFE := Lib.hid hF; have HEQ := Lib.hid hF; clear hF
   go_wp2_with fail
   go_ret
   exact ⟨by rw [← HFE.out]; rfl, HFR.out⟩
end Go.Proofs.Ytekfpipgcpkejaa
namespace Go.Proofs.Ytekfpipgcpkejaa
open Go.RowKit Go.ChangeMaps Go.ChangeShapes Go.WideShapes Go.ChangeAt Go.Deep
set_option linter.unusedVariables false
set_option linter.unusedSimpArgs false
theorem Rd.struct_ {H : Type} {enc : TypeId × Value → H} {P : Program} {w : World} {base : Nat} {spare : Nat → Bool} {held : Bool} {t : TypeId} {fs : Array Field} {cs : List Value} (ht : P.underlying t = some (.struct fs)) (h : Rd enc P w base spare held t cs) :
 cs.length = P.cellsOf t ∧ ∀ (i : Nat) (f : Field), fs[i]? = some f → Rd enc P w base spare held f.type ((cs.drop f.offset).take (P.cellsOf f.type)) := by
 obtain ⟨fuel, x, hx⟩ := h
 obtain ⟨xs, n, _, _, hl, hxs, hf⟩ := DataW.trod_struct ht hx
 refine ⟨hl, fun i f hi => ?_⟩
 have h1 : i < xs.length := by rw [hxs]; exact (Array.getElem?_eq_some_iff.1 hi).1
 exact ⟨n, xs[i], by rw [hf i f hi]; exact List.getElem?_eq_getElem h1⟩
theorem step_cells_ : Try.prog.cellsOf 97 = 7 := by kernel_rfl
theorem set_cells_ : Try.prog.cellsOf 64 = 4 := by kernel_rfl
theorem int_cells_ : Try.prog.cellsOf 3 = 1 := by kernel_rfl
theorem u64_cells_ : Try.prog.cellsOf 62 = 1 := by kernel_rfl
set_option maxRecDepth 100000 in
theorem rd_set {H : Type} {enc : TypeId × Value → H} {w : World} {base : Nat} {spare : Nat → Bool} {held : Bool} {cs : List Value}
    (h : Rd enc Try.prog w base spare held 64 cs) : ∃ a b c d : Int, cs = [.int .u64 a, .int .u64 b, .int .u64 c, .int .u64 d] := by
 obtain ⟨fuel, x, hx⟩ := h
 obtain ⟨xs, n, _, _, hl, hxs, hf⟩ := DataW.trod_array Try.underlying64 hx
 rw [set_cells_] at hl
 match cs, hl with
 | [a, b, c, e], _ =>
  have hr : ∀ i, i < 4 → Rd enc Try.prog w base spare held 62 (([a, b, c, e].drop i).take 1) := fun i hi => by
   have := hf i hi
   rw [u64_cells_, Nat.mul_one] at this
   exact ⟨n, xs[i], this.trans (List.getElem?_eq_getElem (by omega))⟩
  obtain ⟨n0, e0, w0⟩ := (hr 0 (by omega)).int_ Try.underlying62
  obtain ⟨n1, e1, w1⟩ := (hr 1 (by omega)).int_ Try.underlying62
  obtain ⟨n2, e2, w2⟩ := (hr 2 (by omega)).int_ Try.underlying62
  obtain ⟨n3, e3, w3⟩ := (hr 3 (by omega)).int_ Try.underlying62
  simp at e0 e1 e2 e3
  subst e0 e1 e2 e3
  exact ⟨n0, n1, n2, n3, rfl⟩
set_option maxRecDepth 100000 in
theorem rd_step {H : Type} {enc : TypeId × Value → H} {w : World} {base : Nat} {spare : Nat → Bool} {held : Bool} {cs : List Value}
    (h : Rd enc Try.prog w base spare held 97 cs) : ∃ s : Sp, cs = s.cells := by
 obtain ⟨hl, hf⟩ := h.struct_ Try.underlying97
 rw [step_cells_] at hl
 match cs, hl with
 | [e0, e1, e2, e3, e4, e5, e6], _ =>
  obtain ⟨k, hk, -⟩ := (hf 0 _ rfl).int_ Try.underlying3
  obtain ⟨a, b, c, d, hs⟩ := rd_set (hf 1 _ rfl)
  obtain ⟨x, hx, -⟩ := (hf 2 _ rfl).int_ Try.underlying3
  obtain ⟨y, hy, -⟩ := (hf 3 _ rfl).int_ Try.underlying3
  simp [int_cells_, set_cells_] at hk hs hx hy
  obtain ⟨h1, h2, h3, h4⟩ := hs
  subst hk h1 h2 h3 h4 hx hy
  exact ⟨⟨k, a, b, c, d, x, y⟩, rfl⟩
set_option maxRecDepth 100000 in
theorem steps_open {H : Type} {enc : TypeId × Value → H} {w : World} {base base' : Nat} {spare : Nat → Bool} {held : Bool} {r : Reach} {v : Value} {d : DataW H} {p : List MemPlace}
    (hv : Value.okWide Try.prog w r base' 59 v) (h : DataW.Trod enc Try.prog w base spare held 59 v d p) :
    ∃ (A : Option Addr) (c : Nat) (L : List Sp), v = .slice A L.length c ∧ L.length ≤ maxLen ∧ StAt w A L := by
 obtain ⟨A, n, c, rfl, h1, h2, h3, hi⟩ := arg_slice Try.underlying59 (by rw [step_cells_]; omega) hv h
 rw [step_cells_] at hi
 have hx : ∀ i, i < n → ∃ s : Sp, ∃ b off, A = some ⟨b, off, none⟩ ∧ b < w.heap.size ∧ ∀ j u, s.cells[j]? = some u → w.cell? ⟨b, off + i * 7 + j, none⟩ = some u := by
  intro i hil
  obtain ⟨b, off, es, hA, hb, hel, hcell, hrd⟩ := hi i hil
  obtain ⟨s, rfl⟩ := rd_step hrd
  refine ⟨s, b, off, hA, hb, fun j u hu => ?_⟩
  have hj : j < 7 := by
   rcases Nat.lt_or_ge j 7 with h | h
   ·exact h
   ·rw [List.getElem?_eq_none (by rw [sp_len]; exact h)] at hu; cases hu
  exact (hcell j hj).trans hu
 obtain ⟨f, hf⟩ := choose_lt (α := Sp) hx
 refine ⟨A, c, (List.range n).map f, by simp, by simpa using Nat.le_trans h1 h2, fun i s hs => ?_⟩
 have hin : i < n := by
  rcases Nat.lt_or_ge i n with h | h
  ·exact h
  ·rw [List.getElem?_eq_none (by simpa using h)] at hs; cases hs
 have hs' : f i = s := by simpa [hin] using hs
 rw [← hs']
 exact hf i hin
end Go.Proofs.Ytekfpipgcpkejaa
namespace Go.Proofs.Ytekfpipgcpkejaa
set_option linter.unusedVariables false
set_option linter.unusedSimpArgs false
def shp (s : Sp) : Prop := (s.k = 0 ∧ s.y = 0) ∨ ((s.k = 1 ∨ ((s.k = 2 ∨ s.k = 3) ∧ s.y = 0)) ∧ s.none_ = true)
theorem shp_fork (x y : Nat) : shp (Sp.fork x y) := .inr ⟨.inl rfl, rfl⟩
theorem shp_times {f : Nat → List Sp} {n : Nat} (hf : ∀ a, ∀ s ∈ f a, shp s) : ∀ (k at_ : Nat), ∀ s ∈ timesP f n k at_, shp s
 | 0, at_, s, h => by simp [timesP] at h
 | k + 1, at_, s, h => by
  rw [timesP] at h
  exact (List.mem_append.1 h).elim (hf _ s) (shp_times hf k _ s)
theorem shp_maybe {f : Nat → List Sp} {n all : Nat} (hf : ∀ a, ∀ s ∈ f a, shp s) : ∀ (k at_ : Nat), ∀ s ∈ maybeP f n all k at_, shp s
 | 0, at_, s, h => by simp [maybeP] at h
 | k + 1, at_, s, h => by
  rw [maybeP] at h
  rcases List.mem_cons.1 h with rfl | h
  ·exact shp_fork _ _
  ·exact (List.mem_append.1 h).elim (hf _ s) (shp_maybe hf k _ s)
mutual
theorem shp_P : ∀ (t : PT) (at_ : Nat), ∀ s ∈ layP t at_, shp s
 | .mk k s0 s1 s2 s3 mn mx A c l, at_, s, h => by
  have hl : ∀ a, ∀ s ∈ layL l a, shp s := fun a => shp_L l a
  have ho : ∀ a all, ∀ s ∈ layO l a all, shp s := fun a all => shp_O l a all
  simp only [layP] at h
  by_cases h1 : k = 1
  ·subst h1; simp at h; subst h; exact .inl ⟨rfl, rfl⟩
  by_cases h5 : k = 5
  ·subst h5; simp at h; subst h; exact .inr ⟨.inr ⟨.inl rfl, rfl⟩, rfl⟩
  by_cases h6 : k = 6
  ·subst h6; simp at h; subst h; exact .inr ⟨.inr ⟨.inr rfl, rfl⟩, rfl⟩
  by_cases h2 : k = 2
  ·subst h2; simp at h; exact hl _ s h
  by_cases h3 : k = 3
  ·subst h3; simp at h; exact ho _ _ s h
  by_cases h4 : k = 4
  ·subst h4
   simp only [if_true, if_false, reduceCtorEq, Int.reduceEq] at h
   have ht := shp_times (n := sizL l) (fun a => hl a) mn.toNat at_
   by_cases hm : mx < 0
   ·simp only [hm, if_true] at h
    rcases List.mem_append.1 h with h | h
    ·exact ht s h
    ·rcases List.mem_cons.1 h with rfl | h
     ·exact shp_fork _ _
     ·rcases List.mem_append.1 h with h | h
      ·exact hl _ s h
      ·simp at h; subst h; exact shp_fork _ _
   ·simp only [hm, if_false] at h
    rcases List.mem_append.1 h with h | h
    ·exact ht s h
    ·exact shp_maybe (fun a => hl a) _ _ s h
  ·simp [h1, h2, h3, h4, h5, h6] at h
theorem shp_L : ∀ (l : List PT) (at_ : Nat), ∀ s ∈ layL l at_, shp s
 | [], at_, s, h => by simp [layL] at h
 | t :: r, at_, s, h => by
  rw [layL] at h
  exact (List.mem_append.1 h).elim (shp_P t at_ s) (shp_L r _ s)
theorem shp_O : ∀ (l : List PT) (at_ all : Nat), ∀ s ∈ layO l at_ all, shp s
 | [], at_, all, s, h => by simp [layO] at h
 | t :: r, at_, all, s, h => by
  rw [layO] at h
  cases r with
  | nil => simp at h; exact shp_P t at_ s h
  | cons u v =>
   simp only [List.isEmpty_cons, Bool.false_eq_true, if_false] at h
   rcases List.mem_cons.1 h with rfl | h
   ·exact shp_fork _ _
   ·rcases List.mem_append.1 h with h | h
    ·exact shp_P t _ s h
    ·rcases List.mem_cons.1 h with rfl | h
     ·exact shp_fork _ _
     ·exact shp_O (u :: v) _ all s h
end
theorem shp_okP {n : Int} {s : Sp} (h : shp s) (hx : 0 ≤ s.x ∧ s.x < n) (hy : 0 ≤ s.y ∧ s.y < n) : okP n s = true := by
 unfold okP
 rcases h with ⟨h1, h2⟩ | ⟨h1 | ⟨h1 | h1, h2⟩, h3⟩
 ·rw [h1, h2]; simp [hx]
 ·rw [h1, h3]; simp [hx, hy]
 ·rw [h1, h2, h3]; simp [hx]
 ·rw [h1, h2, h3]; simp [hx]
theorem validF_all {ok : Sp → Bool} : ∀ (l : List Sp) (f : Bool), (∀ s ∈ l, ok s = true) → (f = true ∨ ∃ s ∈ l, s.k = 4) → validF ok f l = true
 | [], f, _, h => by
  rcases h with h | ⟨s, h, -⟩
  ·exact h
  ·cases h
 | s :: r, f, ho, h => by
  rw [validF, if_pos (ho s (by simp))]
  refine validF_all r _ (fun x hx => ho x (by simp [hx])) ?_
  rcases h with h | ⟨x, h, hk⟩
  ·exact .inl (by simp [h])
  ·rcases List.mem_cons.1 h with rfl | h
   ·exact .inl (by simp [hk])
   ·exact .inr ⟨x, h, hk⟩
theorem prog_valid {t : PT} (h : rightP t = true) (hs : setsP t) : validF (okP ((progP t).length : Nat)) false (progP t) = true := by
 have hok := progP_ok h hs
 refine validF_all _ _ (fun s hm => ?_) (.inr ⟨Sp.found, by simp [progP], rfl⟩)
 obtain ⟨-, hx, hy, -⟩ := hok s hm
 rcases List.mem_append.1 hm with h1 | h1
 ·exact shp_okP (shp_P t 0 s h1) hx hy
 ·simp at h1; subst h1; rfl
end Go.Proofs.Ytekfpipgcpkejaa
namespace Go.Proofs.Ytekfpipgcpkejaa
open Go.RowKit Go.ChangeMaps
set_option linter.unusedVariables false
set_option linter.unusedSimpArgs false
def OfPost (w : World) (L : List Sp) (e : Ending) (w' : World) : Prop := Fr [] w w' ∧ if validF (okP L.length) false L = true then ∃ fb, e = .returned (.pointer (some ⟨fb, 0, none⟩)) ∧ FinderAt w' w.heap.size fb L else e = .returned (.pointer none)
theorem StAt.news {w : World} {A : Option Addr} {L : List Sp} (h : StAt w A L) (h0 : 0 < L.length) : ∃ ad, A = some ad ∧ ∀ j u, (L.flatMap Sp.cells)[j]? = some u → w.cell? (ad.add j) = some u := by
 obtain ⟨b, off, hA, -, -⟩ := h 0 _ (List.getElem?_eq_getElem h0)
 refine ⟨⟨b, off, none⟩, hA, fun j u hu => ?_⟩
 have hl := flat_len sp_len L
 have hj : j < L.length * 7 := by
  rcases Nat.lt_or_ge j (L.length * 7) with h1 | h1
  ·exact h1
  ·rw [List.getElem?_eq_none (by omega)] at hu; cases hu
 have hi : j / 7 < L.length := by omega
 obtain ⟨b', off', hA', -, hc⟩ := h (j / 7) _ (List.getElem?_eq_getElem hi)
 rw [hA] at hA'
 injection hA' with hA'
 injection hA' with e1 e2
 subst e1 e2
 have hf := flat_at sp_len (L[j / 7]'hi) (j % 7) (by omega) L (j / 7) (List.getElem?_eq_getElem hi)
 rw [show j / 7 * 7 + j % 7 = j by omega, hu] at hf
 have h2 := hc (j % 7) u hf.symm
 rw [show off + j / 7 * 7 + j % 7 = off + j by omega] at h2
 have e : (⟨b, off, none⟩ : Addr).add j = ⟨b, off + j, none⟩ := by cases j <;> simp [Addr.add]
 rw [e]; exact h2
set_option maxRecDepth 100000 in
set_option maxHeartbeats 4000000 in
theorem Of_any {w : World} {A : Option Addr} {c : Nat} {L : List Sp} (h : StAt w A L) (hL : L.length ≤ 5000) : Calls Try.prog 25 #[.slice A L.length c] w (OfPost w L) := by
 have hv := valid_any (c := c) h (by unfold maxLen; omega)
 unfold OfPost
 obtain ⟨V, hV⟩ : ∃ V, V = validF (okP L.length) false L := ⟨_, rfl⟩
 rw [← hV] at hv ⊢
 have HV := Lib.hid hv
 obtain ⟨n, hn⟩ : ∃ n, n = L.length := ⟨_, rfl⟩
 rw [← hn] at HV ⊢
 have HN := Lib.hid hn
 have hn5 : n ≤ 5000 := by omega
 cases V with
 | false =>
  clear h hv hV hn hL
  go_enter Try.func25, Try.ntmps25
  go_wp2_with (go_at_call 26; refine HV.out.mono ?_; rintro e w1 ⟨rfl, hf⟩; have HF := Lib.hid hf; clear hf)
  go_ret
  exact ⟨HF.out, rfl⟩
 | true =>
  have h0 : 0 < L.length := by
   cases L with
   | nil => cases hV
   | cons a r => simp
  obtain ⟨ad, rfl, hnews⟩ := h.news h0
  have HNW := Lib.hid hnews
  obtain ⟨i0, hi0, hz0, hz1, hz2⟩ := stepParts
  obtain ⟨xs, hxs⟩ : ∃ xs, xs = L.flatMap Sp.cells := ⟨_, rfl⟩
  have hlen : xs.length = n * 7 := by rw [hxs, hn]; exact flat_len sp_len L
  have hone : ∀ u ∈ xs, u.oneCell' = true := by
   intro u hu
   rw [hxs] at hu
   obtain ⟨s, -, hs⟩ := List.mem_flatMap.1 hu
   simp [Sp.cells] at hs
   rcases hs with h | h | h | h | h | h | h <;> subst h <;> rfl
  rw [← hxs] at HNW
  have HXS := Lib.hid hxs
  clear h hv hV hn hL h0 hnews hxs
  go_enter Try.func25, Try.ntmps25
  go_wp2_with (first
   | (go_at_call 26; refine HV.out.mono ?_; rintro e w1 ⟨rfl, hf⟩; have HF := Lib.hid hf; clear hf)
   | (at_builtin; refine wpList_append_R rfl (.const (.slice none 0 0)) (.tmp 6) 59 rfl w.heap.size 97 i0 _ 7 56 Try.underlying59 hi0 hz0 hz1 hz2 rfl (by omega) (.slice none 0 0) 0 [] (by first | rfl | (simp [Act.eval]; done)) ⟨by simp, .inl ⟨rfl, rfl⟩⟩ ad n c xs (by first | rfl | (simp [Act.eval]; done)) hlen (fun j u hu => (HF.out.cell (World.block_lt_of_cell? _ _ (HNW.out j u hu)) (by simp)).trans (HNW.out j u hu)) hone (by unfold maxLen; omega) (by omega) HF.out.size ?_; intro v' w4 hown4 hgr hat4; obtain ⟨A4, c4, rfl⟩ := own_any hown4; have HGR := Lib.hid (HF.out.grown hgr (fun g hg => by simp [Value.ownBlock] at hg)); have HOWN4 := Lib.hid hown4; clear hown4 hgr hat4))
  go_ret
  refine ⟨HGR.out.alloc _, _, rfl, A4, c4, ?_, ?_⟩
  ·rw [← HN.out]
   have := Bk.new w4 93 #[.slice A4 n c4]
   simpa using this
  ·have h := own_keep HOWN4.out (KeepB.of_nil ((Fr.refl [] w4).alloc (.cells #[.slice A4 n c4] 93)))
   rw [Nat.zero_add, List.nil_append, HXS.out] at h
   rw [← HN.out]
   simpa using h
end Go.Proofs.Ytekfpipgcpkejaa
