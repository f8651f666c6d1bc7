/-
  The walk of AssocOrder. No conditions.
-/
import Derived.Test.YtfabmbemdaelcaaAs6
import Derived.Test.YtfabmbemdaelcaaAsO
import Derived.Test.YtfabmbemdaelcaaRead
namespace Go.Proofs.Ytfabmbemdaelcaa
open Go.RowKit Go.ChangeShapes Go.WideShapes Go.ChangeAt Go.Maps Go.Deep
set_option linter.unusedVariables false
set_option linter.unusedSimpArgs false

def strVals (ss : List (List UInt8)) : List Value := ss.map fun s => .string ⟨s.toArray⟩
theorem arg_strs {H : Type} {enc : TypeId × Value → H} {w : World} {base base' : Nat} {spare : Nat → Bool} {held : Bool} {r : Reach} {v : Value} {d : DataW H} {p : List MemPlace}
    (hv : Value.okWide Try.prog w r base' 22 v) (h : DataW.Trod enc Try.prog w base spare held 22 v d p) :
    ∃ (A : Option Addr) (c : Nat) (ss : List (List UInt8)), v = .slice A ss.length c ∧ ss.length ≤ c ∧ c ≤ maxLen ∧ At w A (strVals ss) := by
  have hc1 : Try.prog.cellsOf 9 = 1 := by kernel_rfl
  obtain ⟨A, len, c, rfl, h1, h2, h3, hi⟩ := arg_slice Try.underlying22 (by rw [hc1]; omega) hv h
  have hx : ∀ i, i < len → ∃ x : List UInt8, ∀ b off, A = some ⟨b, off, none⟩ → b < w.heap.size ∧ w.cell? ⟨b, off + i, none⟩ = some (.string ⟨x.toArray⟩) := by
    intro i hil
    obtain ⟨b, off, es, hA', hb, hel, hcell, hrd⟩ := hi i hil
    obtain ⟨s, rfl, hs⟩ := hrd.string_ Try.underlying9
    refine ⟨s.data.toList, fun b' off' e => ?_⟩
    rw [hA'] at e
    obtain ⟨rfl, rfl⟩ : b = b' ∧ off = off' := by simpa using e
    have := hcell 0 (by omega)
    rw [hc1] at this
    simp only [Nat.mul_one, Nat.add_zero] at this
    exact ⟨hb, this.trans (by simp)⟩
  obtain ⟨f, hf⟩ := choose_lt (α := List UInt8) hx
  refine ⟨A, c, (List.range len).map f, by simp, by simpa using h1, h2, ?_⟩
  by_cases h0 : len = 0
  · left; subst h0; simp [strVals]
  · obtain ⟨b, off, _, hA', hb, _⟩ := hi 0 (by omega)
    refine .inr ⟨_, hA', hb, fun j u hu => ?_⟩
    have hj : j < len := by
      rcases Nat.lt_or_ge j len with h | h
      · exact h
      · rw [List.getElem?_eq_none (by simpa [strVals] using h)] at hu; cases hu
    have hadd : (⟨b, off, none⟩ : Addr).add j = ⟨b, off + j, none⟩ := by unfold Addr.add; split <;> simp_all
    rw [hadd, (hf j hj b off hA').2]
    simp [strVals, hj] at hu
    rw [← hu]
theorem arg_strL {H : Type} {enc : TypeId × Value → H} {w : World} {base base' : Nat} {spare : Nat → Bool} {held : Bool} {r : Reach} {v : Value} {d : DataW H} {p : List MemPlace}
    (hv : Value.okWide Try.prog w r base' 9 v) (h : DataW.Trod enc Try.prog w base spare held 9 v d p) : ∃ s : List UInt8, v = .string ⟨s.toArray⟩ ∧ s.length ≤ maxLen := by
  obtain ⟨s, rfl, hs⟩ := arg_string Try.underlying9 hv h
  exact ⟨s.data.toList, by rw [← ba_of], by have := hs; rw [ba_of s, ba_size] at this; exact this⟩
theorem str_at {w : World} {A : Option Addr} {ss : List (List UInt8)} (h : At w A (strVals ss)) {i : Nat} (hi : i < ss.length) : ∃ a s, ss[i]? = some s ∧ A = some a ∧ a.block < w.heap.size ∧ w.cell? (a.add i) = some (.string ⟨s.toArray⟩) := by
  obtain ⟨a, h1, h2, h3⟩ := At.get h (j := i) (u := .string ⟨(ss[i]).toArray⟩) (by simp [strVals, hi])
  exact ⟨a, ss[i], List.getElem?_eq_getElem hi, h1, h2, h3⟩
theorem keysE_at {es : List (Ent Int)} {i : Nat} {x : List UInt8} (h : (keysE es)[i]? = some x) : ∃ p, (live es)[i]? = some p ∧ p.1 = x := by
  unfold keysE at h
  rw [List.getElem?_map] at h
  exact Option.map_eq_some_iff.1 h
set_option maxRecDepth 100000 in
set_option maxHeartbeats 8000000 in
theorem order_walk {w : World} {A : Option Addr} {c : Nat} {ss : List (List UInt8)} {d q : List UInt8} (h : At w A (strVals ss)) (hl : ss.length ≤ c) (hcm : c ≤ maxLen) (hd : d.length ≤ maxLen) (hq : q.length ≤ maxLen) :
    Calls Try.prog 3 #[.slice A ss.length c, .string ⟨d.toArray⟩, .string ⟨q.toArray⟩] w fun e w' => e = .returned (.bool true) ∧ Below w.heap.size w w' := by
  unfold maxLen at hcm
  have HAT := Lib.hid h; have HD := Lib.hid hd; have HQ := Lib.hid hq
  clear h hd hq
  go_enter Try.func3, Try.ntmps3
  go_wp2_with fail
  go_at_call 7
  refine (awake_any w).mono ?_
  rintro e w1 ⟨rfl, hf1⟩
  have HF1 := Lib.hid hf1; clear hf1
  by_cases h60 : 60 < ss.length
  · go_wp2_with fail
    go_ret
    exact ⟨rfl, HF1.out.below_nil⟩
  go_wp2_with fail
  obtain ⟨g, hg⟩ : ∃ g, g = w1.heap.size := ⟨_, rfl⟩
  rw [← hg]
  have HG := Lib.hid hg
  clear hg
  go_loopw [8] (fun v8 wr => ∃ i : Nat, ∃ es, v8 = .int .i64 (i : Int) ∧ i ≤ ss.length ∧ ArrN w1 wr g es ∧ Full es ∧ es.length ≤ i) (fun v8 _ => ss.length - (intOf v8).toNat)
  case atStart => exact ⟨0, [], rfl, by omega, by rw [HG.out]; exact arrN_new (Fr.refl [] w1), (by intro e he; cases he), by simp⟩
  case round =>
    obtain ⟨i, es, rfl, hi, harr, hfull, hel⟩ := hrel
    obtain ⟨-, -, -, hfr⟩ := id harr
    by_cases hlt : i < ss.length
    · obtain ⟨a, s, hs, rfl, hba, e0⟩ := str_at (HAT.out.fr_nil (HF1.out.trans hfr)) hlt
      have HARR := Lib.hid harr; have HFULL := Lib.hid hfull; have HFR := Lib.hid hfr
      have hwt := hfull.wt_le
      clear harr hfull hfr hs
      by_cases hs60 : 60 < s.length
      · go_wp2_with fail
        go_ret
        exact ⟨rfl, (HF1.out.trans HFR.out).below_nil⟩
      · go_wp2_with fail
        go_at_call 8
        refine (setN HARR.out s (i : Int) (by omega) (by omega) (by omega)).mono ?_
        rintro e w2 ⟨rfl, h2⟩
        have H2 := Lib.hid h2; clear h2
        go_wp2_with fail
        go_roundw
        case rel => exact ⟨i + 1, _, by go_num, by omega, H2.out, HFULL.out.set s _ (by omega), Nat.le_trans (setE_len _ _ _) (by omega)⟩
        case measure => first | (simp [intOf]; done) | (simp [intOf]; omega)
    · have hn60 : es.length ≤ 60 := by omega
      have hfl := hfull.len
      obtain ⟨N, hN⟩ : ∃ N, N = (live es).length := ⟨_, rfl⟩
      have hN60 : N ≤ 60 := by omega
      have HARR := Lib.hid harr; have HFULL := Lib.hid hfull; have HN := Lib.hid hN
      have hwt := hfull.wt_le
      clear harr hfull hfr hi hel hN hfl
      go_wp2_with fail
      go_at_call 9
      refine (keysB HARR.out (by omega)).mono ?_
      rintro e w2 ⟨B1, rfl, h2, hc1⟩
      have H2 := Lib.hid h2; have HC1 := Lib.hid hc1
      rw [← HN.out]
      clear h2 hc1
      go_wp2_with fail
      go_at_call 10
      refine (getN H2.out.arrN q HQ.out).mono ?_
      rintro e w3 ⟨rfl, rfl⟩
      obtain ⟨es2, hes2⟩ : ∃ es2, es2 = dropSet es q := ⟨_, rfl⟩
      have HES := Lib.hid hes2
      cases hix : idxOf es q with
      | none =>
        have HA2 : Hid (ArrB w1 w3 g es2 B1) := Lib.hid (by rw [hes2]; unfold dropSet; rw [hix]; exact H2.out)
        clear hix hes2
        go_wp2_with fail
        have HE : Hid (w3.heap[B1]? = w3.heap[B1]?) := Lib.hid rfl
        go_at_call 11
        have hk2 : keysE es2 = keysE es := by rw [HES.out]; exact keys_dropSet es q
        have hlen2 : es2.length = es.length := by rw [HES.out]; exact len_dropSet es q
        have hfull2 : Full es2 := by rw [HES.out]; exact HFULL.out.dropSet q
        have hl2 := hfull2.len
        refine (dropB HA2.out d HD.out (fun i hi => by have := hfull2.key hi; omega) (by omega) (by have := hfull2.wt_le; omega) (by omega)).mono ?_
        rintro e w5 ⟨rfl, h5, hb5⟩
        have hk5 : keysE (dropE es2 d) = (keysE es).filter (fun x => !(x == d)) := by rw [← hk2]; exact keys_drop HA2.out.arrN.dist d
        have hl5 : (dropE es2 d).length ≤ 1000 := by have := len_drop es2 d; omega
        obtain ⟨es5, he5⟩ : ∃ es5, es5 = dropE es2 d := ⟨_, rfl⟩
        rw [← he5] at h5 hk5 hl5
        have H5 := Lib.hid h5; have HE5 := Lib.hid (hb5.trans HE.out); have HK5 := Lib.hid hk5
        clear h5 hk2 hlen2 hfull2 hl2 hk5 he5 hb5
        go_wp2_with fail
        go_at_call 9
        refine (keysN H5.out.arrN hl5).mono ?_
        rintro e w6 ⟨B2, rfl, hf6, hc2⟩
        have H6 := Lib.hid (H5.out.arrN.fr hf6); have HF6 := Lib.hid hf6; have HC2 := Lib.hid hc2
        obtain ⟨M, hM⟩ : ∃ M, M = (live es5).length := ⟨_, rfl⟩
        have hM60 : M ≤ 1000 := by rw [hM]; exact Nat.le_trans (live_le _) hl5
        have HM := Lib.hid hM
        rw [← hM]
        clear hf6 hc2 hM
        have HW : Hid (∀ wr, Fr [] w6 wr → wr.heap[B1]? = w3.heap[B1]?) := Lib.hid (fun wr h => ((HF6.out.trans h).block B1 H5.out.lt (by simp)).trans HE5.out)
        have hKl : (keysE es).length = N := by unfold keysE; rw [List.length_map, HN.out]
        have hKm : ((keysE es).filter (fun x => !(x == d))).length = M := by rw [← HK5.out, HM.out]; unfold keysE; rw [List.length_map]
        have HKL := Lib.hid hKl; have HKM := Lib.hid hKm
        clear hKl hKm
        go_wp2_with fail
        go_loopw [13, 14] (fun v13 v14 wr => ∃ i kk : Nat, v14 = .int .i64 (i : Int) ∧ v13 = .int .i64 (kk : Int) ∧ i ≤ N ∧ kk = (((keysE es).take i).filter (fun x => !(x == d))).length ∧ kk ≤ i ∧ Fr [] w6 wr) (fun _ v14 _ => N - (intOf v14).toNat)
        case atStart => exact ⟨0, 0, rfl, rfl, by omega, rfl, by omega, Fr.refl _ _⟩
        case round =>
          obtain ⟨i, kk, rfl, rfl, hi, hkk, hki, hf⟩ := hrel
          by_cases hlt : i < N
          · obtain ⟨x, hx⟩ : ∃ x, (keysE es)[i]? = some x := ⟨_, List.getElem?_eq_getElem (by rw [HKL.out]; exact hlt)⟩
            obtain ⟨p, hp, rfl⟩ := keysE_at hx
            have d0 := HC1.out wr (HW.out wr hf) i p hp
            obtain ⟨g1, g2⟩ := filter_at (keysE es) d i _ hx
            rw [← hkk] at g1 g2
            have hltI : (i : Int) < (N : Int) := by omega
            obtain ⟨x, hxx⟩ : ∃ x, x = p.1 := ⟨_, rfl⟩
            rw [← hxx] at d0 g1 g2
            have HF := Lib.hid hf
            clear hf hx hp hxx hkk
            cases hxd : (x == d) with
            | true =>
              rw [hxd] at g1
              have HG1 := Lib.hid g1
              obtain rfl : x = d := eq_of_beq hxd
              clear g1 g2 hxd
              go_wp2_with fail
              go_roundw
              case rel => exact ⟨i + 1, kk, by go_num, rfl, by omega, by rw [HG1.out]; rfl, by omega, HF.out⟩
              case measure => first | (simp [intOf]; done) | (simp [intOf]; omega)
            | false =>
              have h2 := g2 hxd
              rw [← HK5.out] at h2
              obtain ⟨p2, hp2, hpx⟩ := keysE_at h2
              have d1 := HC2.out wr HF.out kk p2 hp2
              rw [hpx] at d1
              rw [hxd] at g1
              have hkM : kk < M := by rw [HM.out]; exact (List.getElem?_eq_some_iff.1 hp2).1
              have hkI : (kk : Int) < (M : Int) := by omega
              have hkn : ¬ M ≤ kk := by omega
              have hne : ¬ x = d := by intro e; rw [e] at hxd; simp at hxd
              have HG1 := Lib.hid g1
              clear g1 g2 h2 hp2 hpx
              go_wp2_with fail
              go_quiet (fail)
              go_wp2_with fail
              go_roundw
              case rel => exact ⟨i + 1, kk + 1, by go_num, by go_num, by omega, by rw [HG1.out]; rfl, by omega, HF.out.drewN _⟩
              case measure => first | (simp [intOf]; done) | (simp [intOf]; omega)
          · obtain rfl : i = N := by omega
            have hkM : kk = M := by rw [hkk, ← HKL.out, List.take_length, HKM.out]
            subst hkM
            have H7 := Lib.hid (H6.out.fr hf)
            clear hf hkk
            go_wp2_with fail
            go_at_call 12
            refine (lenN H7.out).mono ?_
            rintro e w8 ⟨rfl, rfl⟩
            rw [← HM.out]
            obtain ⟨-, -, -, hfr8⟩ := id H7.out
            have HF8 := Lib.hid (HF1.out.trans hfr8)
            clear hfr8
            go_wp2_with fail
            go_ret
            exact ⟨rfl, HF8.out.below_nil⟩
      | some j =>
        have hq60 := HFULL.out.key hix
        have hset : setE es q (-1) = dropSet es q := by unfold setE dropSet; rw [hix]
        have HSET := Lib.hid hset
        clear hix hes2 hset
        go_wp2_with fail
        go_at_call 8
        refine (setB H2.out q (-1) (by omega) (by omega) (by omega)).mono ?_
        rintro e w4 ⟨rfl, h4, hb4⟩
        have HE := Lib.hid hb4
        have HA2 : Hid (ArrB w1 w4 g es2 B1) := Lib.hid (by rw [HES.out, ← HSET.out]; exact h4)
        clear h4 hb4
        go_wp2_with fail
        go_at_call 11
        have hk2 : keysE es2 = keysE es := by rw [HES.out]; exact keys_dropSet es q
        have hlen2 : es2.length = es.length := by rw [HES.out]; exact len_dropSet es q
        have hfull2 : Full es2 := by rw [HES.out]; exact HFULL.out.dropSet q
        have hl2 := hfull2.len
        refine (dropB HA2.out d HD.out (fun i hi => by have := hfull2.key hi; omega) (by omega) (by have := hfull2.wt_le; omega) (by omega)).mono ?_
        rintro e w5 ⟨rfl, h5, hb5⟩
        have hk5 : keysE (dropE es2 d) = (keysE es).filter (fun x => !(x == d)) := by rw [← hk2]; exact keys_drop HA2.out.arrN.dist d
        have hl5 : (dropE es2 d).length ≤ 1000 := by have := len_drop es2 d; omega
        obtain ⟨es5, he5⟩ : ∃ es5, es5 = dropE es2 d := ⟨_, rfl⟩
        rw [← he5] at h5 hk5 hl5
        have H5 := Lib.hid h5; have HE5 := Lib.hid (hb5.trans HE.out); have HK5 := Lib.hid hk5
        clear h5 hk2 hlen2 hfull2 hl2 hk5 he5 hb5
        go_wp2_with fail
        go_at_call 9
        refine (keysN H5.out.arrN hl5).mono ?_
        rintro e w6 ⟨B2, rfl, hf6, hc2⟩
        have H6 := Lib.hid (H5.out.arrN.fr hf6); have HF6 := Lib.hid hf6; have HC2 := Lib.hid hc2
        obtain ⟨M, hM⟩ : ∃ M, M = (live es5).length := ⟨_, rfl⟩
        have hM60 : M ≤ 1000 := by rw [hM]; exact Nat.le_trans (live_le _) hl5
        have HM := Lib.hid hM
        rw [← hM]
        clear hf6 hc2 hM
        have HW : Hid (∀ wr, Fr [] w6 wr → wr.heap[B1]? = w3.heap[B1]?) := Lib.hid (fun wr h => ((HF6.out.trans h).block B1 H5.out.lt (by simp)).trans HE5.out)
        have hKl : (keysE es).length = N := by unfold keysE; rw [List.length_map, HN.out]
        have hKm : ((keysE es).filter (fun x => !(x == d))).length = M := by rw [← HK5.out, HM.out]; unfold keysE; rw [List.length_map]
        have HKL := Lib.hid hKl; have HKM := Lib.hid hKm
        clear hKl hKm
        go_wp2_with fail
        go_loopw [13, 14] (fun v13 v14 wr => ∃ i kk : Nat, v14 = .int .i64 (i : Int) ∧ v13 = .int .i64 (kk : Int) ∧ i ≤ N ∧ kk = (((keysE es).take i).filter (fun x => !(x == d))).length ∧ kk ≤ i ∧ Fr [] w6 wr) (fun _ v14 _ => N - (intOf v14).toNat)
        case atStart => exact ⟨0, 0, rfl, rfl, by omega, rfl, by omega, Fr.refl _ _⟩
        case round =>
          obtain ⟨i, kk, rfl, rfl, hi, hkk, hki, hf⟩ := hrel
          by_cases hlt : i < N
          · obtain ⟨x, hx⟩ : ∃ x, (keysE es)[i]? = some x := ⟨_, List.getElem?_eq_getElem (by rw [HKL.out]; exact hlt)⟩
            obtain ⟨p, hp, rfl⟩ := keysE_at hx
            have d0 := HC1.out wr (HW.out wr hf) i p hp
            obtain ⟨g1, g2⟩ := filter_at (keysE es) d i _ hx
            rw [← hkk] at g1 g2
            have hltI : (i : Int) < (N : Int) := by omega
            obtain ⟨x, hxx⟩ : ∃ x, x = p.1 := ⟨_, rfl⟩
            rw [← hxx] at d0 g1 g2
            have HF := Lib.hid hf
            clear hf hx hp hxx hkk
            cases hxd : (x == d) with
            | true =>
              rw [hxd] at g1
              have HG1 := Lib.hid g1
              obtain rfl : x = d := eq_of_beq hxd
              clear g1 g2 hxd
              go_wp2_with fail
              go_roundw
              case rel => exact ⟨i + 1, kk, by go_num, rfl, by omega, by rw [HG1.out]; rfl, by omega, HF.out⟩
              case measure => first | (simp [intOf]; done) | (simp [intOf]; omega)
            | false =>
              have h2 := g2 hxd
              rw [← HK5.out] at h2
              obtain ⟨p2, hp2, hpx⟩ := keysE_at h2
              have d1 := HC2.out wr HF.out kk p2 hp2
              rw [hpx] at d1
              rw [hxd] at g1
              have hkM : kk < M := by rw [HM.out]; exact (List.getElem?_eq_some_iff.1 hp2).1
              have hkI : (kk : Int) < (M : Int) := by omega
              have hkn : ¬ M ≤ kk := by omega
              have hne : ¬ x = d := by intro e; rw [e] at hxd; simp at hxd
              have HG1 := Lib.hid g1
              clear g1 g2 h2 hp2 hpx
              go_wp2_with fail
              go_quiet (fail)
              go_wp2_with fail
              go_roundw
              case rel => exact ⟨i + 1, kk + 1, by go_num, by go_num, by omega, by rw [HG1.out]; rfl, by omega, HF.out.drewN _⟩
              case measure => first | (simp [intOf]; done) | (simp [intOf]; omega)
          · obtain rfl : i = N := by omega
            have hkM : kk = M := by rw [hkk, ← HKL.out, List.take_length, HKM.out]
            subst hkM
            have H7 := Lib.hid (H6.out.fr hf)
            clear hf hkk
            go_wp2_with fail
            go_at_call 12
            refine (lenN H7.out).mono ?_
            rintro e w8 ⟨rfl, rfl⟩
            rw [← HM.out]
            obtain ⟨-, -, -, hfr8⟩ := id H7.out
            have HF8 := Lib.hid (HF1.out.trans hfr8)
            clear hfr8
            go_wp2_with fail
            go_ret
            exact ⟨rfl, HF8.out.below_nil⟩
theorem assocOrder_open {H : Type} {enc : TypeId × Value → H} (W : World) (base : Nat) (v0 : Value) (d0 : DataW H) (p0 : List MemPlace) (v1 : Value) (d1 : DataW H) (p1 : List MemPlace) (v2 : Value) (d2 : DataW H) (p2 : List MemPlace)
    (k0 : Value.okWide Try.prog W .any base 22 v0) (k1 : Value.okWide Try.prog W .any base 9 v1) (k2 : Value.okWide Try.prog W .any base 9 v2)
    (h0 : DataW.Trod enc Try.prog W 0 (fun _ => true) true 22 v0 d0 p0) (h1 : DataW.Trod enc Try.prog W 0 (fun _ => true) true 9 v1 d1 p1) (h2 : DataW.Trod enc Try.prog W 0 (fun _ => true) true 9 v2 d2 p2) :
    Calls Try.prog 3 #[v0, v1, v2] W fun e W' => e = .returned (.bool true) ∧ Below W.heap.size W W' := by
  obtain ⟨A1, c1, ss, rfl, g1, g2, g3⟩ := arg_strs k0 h0
  obtain ⟨d, rfl, hd⟩ := arg_strL k1 h1
  obtain ⟨q, rfl, hq⟩ := arg_strL k2 h2
  exact order_walk g3 g1 g2 hd hq
end Go.Proofs.Ytfabmbemdaelcaa
