/-
  WdS, WdR: several small texts in one. No conditions.
-/
import Derived.Test.YteofhjegaaoglaaGwA
import Derived.Lib.IndexMore
import Derived.Lib.IndexBytes
import Derived.Lib.IndexLaws
namespace Go.Proofs.Yteofhjegaaoglaa
set_option linter.unusedVariables false
set_option linter.unusedSimpArgs false

def selL (s : List UInt8) (p : Nat → Bool) : Nat → List UInt8
  | 0 => []
  | i + 1 => selL s p i ++ (if p i then (s.drop i).take 1 else [])
theorem sel_len (s : List UInt8) (p : Nat → Bool) : ∀ i, (selL s p i).length ≤ i
  | 0 => by simp [selL]
  | i + 1 => by
    have := sel_len s p i
    rw [selL]
    split
    · simp; omega
    · simp; omega
theorem sel_none (s : List UInt8) (p : Nat → Bool) (h : ∀ j, j < s.length → p j = false) : ∀ i, i ≤ s.length → selL s p i = []
  | 0, _ => rfl
  | i + 1, hi => by rw [selL, sel_none s p h i (by omega), h i (by omega)]; rfl
theorem sel_mid (s : List UInt8) (p : Nat → Bool) (lo hi : Nat) (h : ∀ j, j < s.length → (p j = true ↔ lo ≤ j ∧ j < hi)) (hlh : lo ≤ hi) : ∀ i, i ≤ s.length → selL s p i = (s.take (min i hi)).drop lo
  | 0, _ => by simp [selL]
  | i + 1, hi2 => by
    have hj := h i (by omega)
    rw [selL, sel_mid s p lo hi h hlh i (by omega)]
    by_cases hp : p i = true
    · obtain ⟨h1, h2⟩ := hj.1 hp
      rw [if_pos hp, Nat.min_eq_left (by omega), Nat.min_eq_left (by omega)]
      rw [List.take_add, List.drop_append_of_le_length (by rw [List.length_take]; omega)]
    · rw [if_neg hp, List.append_nil]
      have h3 : ¬ (lo ≤ i ∧ i < hi) := fun h => hp (hj.2 h)
      by_cases h4 : i < hi
      · have h5 : i < lo := by omega
        rw [List.drop_of_length_le (by rw [List.length_take]; omega), List.drop_of_length_le (by rw [List.length_take]; omega)]
      · rw [Nat.min_eq_right (by omega), Nat.min_eq_right (by omega)]
def subC (fr ct : Int) (all : Bool) (i : Nat) : Bool := decide (fr ≤ (i : Int) + 1) && (all || (decide (0 < ct) && decide ((i : Int) + 1 < fr + ct)))
theorem sel_sub (s : List UInt8) (fr ct : Int) (all : Bool) : selL s (subC fr ct all) s.length = subM s fr ct all := by
  unfold subM
  by_cases h0 : all = false ∧ ct ≤ 0
  · rw [if_pos (.inl h0)]
    refine sel_none s _ (fun j hj => ?_) _ (Nat.le_refl _)
    obtain ⟨h1, h2⟩ := h0
    unfold subC
    rw [h1, decide_eq_false (by omega : ¬ 0 < ct)]; simp
  have hb : behM s.length fr ct all ≤ (s.length : Int) + 1 := by unfold behM; split <;> omega
  have hC : ∀ j, j < s.length → (subC fr ct all j = true ↔ (max fr 1 ≤ (j : Int) + 1 ∧ (j : Int) + 1 < behM s.length fr ct all)) := fun j hj => by
    unfold subC behM
    cases all with
    | true => simp; omega
    | false =>
      have : 0 < ct := by simp at h0; omega
      simp only [Bool.false_or, Bool.and_eq_true, decide_eq_true_eq, Bool.false_eq_true, if_false]
      omega
  by_cases h1 : behM s.length fr ct all ≤ max fr 1
  · rw [if_pos (.inr h1)]
    refine sel_none s _ (fun j hj => ?_) _ (Nat.le_refl _)
    have := hC j hj
    cases hs : subC fr ct all j with
    | false => rfl
    | true => have := this.1 hs; omega
  · rw [if_neg (by rintro (h | h); exact h0 h; exact h1 h)]
    rw [sel_mid s _ (max fr 1 - 1).toNat (behM s.length fr ct all - 1).toNat (fun j hj => by rw [hC j hj]; omega) (by omega) _ (Nat.le_refl _)]
    rw [List.drop_take]
    congr 1
    omega
theorem take_snoc {s : List UInt8} {i : Nat} {c : UInt8} (h : s[i]? = some c) : s.take i ++ [c] = s.take (i + 1) := by
  rw [List.take_add_one, h]; rfl
end Go.Proofs.Yteofhjegaaoglaa
namespace Go.Proofs.Yteofhjegaaoglaa
open Go.RowKit
set_option linter.unusedVariables false
set_option linter.unusedSimpArgs false

theorem str_ix {s : List UInt8} {i : Nat} {c : UInt8} (h : s[i]? = some c) (W : World) : (Instr.index 9 (.string ⟨s.toArray⟩) (.int .i64 (i : Int))).run Try.prog W = .ok (.int .u8 (c.toNat : Int)) W := by
  obtain ⟨h1, h2⟩ := List.getElem?_eq_some_iff.1 h
  have h3 : (⟨s.toArray⟩ : ByteArray)[i]? = some c := by
    rw [getElem?_pos (⟨s.toArray⟩ : ByteArray) i (by simpa [ByteArray.size] using h1)]
    congr 1
  unfold Instr.index
  simp [asIntOf, run_underlying Try.underlying9, h3]
theorem bytes_new1 (w : World) (bs : List UInt8) : Bytes (w.alloc (.cells (byteVals bs).toArray 5)) (some ⟨w.heap.size, 0, none⟩) bs :=
  At.of_bk (n := bs.length) (Bk.new w 5 (byteVals bs).toArray) (by rw [List.take_of_length_le (by simp [byteVals])])
set_option maxRecDepth 100000 in
set_option maxHeartbeats 4000000 in
theorem rindex_any (w : World) (s t : List UInt8) (hs : s.length ≤ 1000) (ht : t.length ≤ 1000) :
    Calls Try.prog 10 #[.string ⟨s.toArray⟩, .string ⟨t.toArray⟩] w fun e w' => e = .returned (.int .i64 (Lib.index s t + 1)) ∧ w = w' := by
  obtain ⟨S, hS⟩ : ∃ S, S = (⟨s.toArray⟩ : ByteArray) := ⟨_, rfl⟩
  obtain ⟨T, hT⟩ : ∃ T, T = (⟨t.toArray⟩ : ByteArray) := ⟨_, rfl⟩
  obtain ⟨L, hL⟩ : ∃ L, L = s.length := ⟨_, rfl⟩
  obtain ⟨M, hM⟩ : ∃ M, M = t.length := ⟨_, rfl⟩
  have hs1 : S.size = L := by rw [hS, hL]; simp [ByteArray.size]
  have ht1 : T.size = M := by rw [hT, hM]; simp [ByteArray.size]
  have hocc : ∀ j, j + M ≤ L → ((S.extract j (j + M)).toList == T.toList) = Lib.occAt s t j := fun j hj => by
    have h := Lib.occ_of_piece S T j (by omega)
    rw [ht1] at h
    rw [← h, hS, hT]
  rw [← hS, ← hT]
  rw [← hL] at hs; rw [← hM] at ht
  have HOC := Lib.hid hocc; have HL := Lib.hid hL; have HM := Lib.hid hM
  clear hS hT hL hM hocc
  go_enter Try.func10, Try.ntmps10
  go_upto_region 2 with fail
  go_loopw [5] (fun v5 wr => ∃ i : Nat, v5 = .int .i64 (i : Int) ∧ i ≤ L + 1 ∧ Lib.NoOcc s t i ∧ wr = w) (fun v5 _ => L + 2 - (intOf v5).toNat)
  case atStart => exact ⟨0, rfl, Nat.zero_le _, fun j hj => absurd hj (Nat.not_lt_zero _), rfl⟩
  case round =>
    obtain ⟨i, rfl, hi, hno, rfl⟩ := hrel
    have HNO := Lib.hid hno
    clear hno
    by_cases hin : i + M ≤ L
    · have hinI : (i : Int) + (M : Int) ≤ (L : Int) := by omega
      have hoc := HOC.out i hin
      cases ho : Lib.occAt s t i with
      | true =>
        rw [ho] at hoc
        have HIX : Hid (Lib.index s t = (i : Int)) := Lib.hid (Lib.index_hit HNO.out (by rw [← HL.out]; omega) ho)
        clear ho
        go_wp2_with fail
        go_ret
        rw [HIX.out]
        exact ⟨rfl, rfl⟩
      | false =>
        rw [ho] at hoc
        have HN2 := Lib.hid (Lib.NoOcc.succ HNO.out ho)
        clear ho
        go_wp2_with fail
        go_roundw
        case rel => exact ⟨i + 1, by go_num, by omega, HN2.out, trivial⟩
        case measure => first | (simp [intOf]; done) | (simp [intOf]; omega)
    · have hinI : ¬ ((i : Int) + (M : Int) ≤ (L : Int)) := by omega
      have HIX : Hid (Lib.index s t = -1) := Lib.hid (by
        refine Lib.index_past (fun h0 => ?_) HNO.out (by rw [← HL.out, ← HM.out]; omega)
        have h1 : M = 0 := by rw [HM.out, h0]; rfl
        have h2 := HNO.out 0 (by omega)
        rw [h0] at h2
        simp [Lib.occAt] at h2)
      go_wp2_with fail
      go_ret
      rw [HIX.out]
      exact ⟨rfl, rfl⟩
def belM (p fr ct : Int) : Bool := decide (0 < ct) && decide (p < fr + ct)
set_option maxRecDepth 100000 in
set_option maxHeartbeats 4000000 in
theorem below_any (w : World) (p fr ct : Int) (hp : 0 < p ∧ p ≤ 1000000) (hf : -9223372036854775808 ≤ fr ∧ fr ≤ p) (hc : -9223372036854775808 ≤ ct ∧ ct ≤ 9223372036854775807) :
    Calls Try.prog 19 #[.int .i64 p, .int .i64 fr, .int .i64 ct] w fun e w' => e = .returned (.bool (belM p fr ct)) ∧ w = w' := by
  by_cases h0 : ct ≤ 0
  · have hb : belM p fr ct = false := by unfold belM; rw [decide_eq_false (by omega : ¬ 0 < ct)]; rfl
    rw [hb]
    clear hb
    go_enter Try.func19, Try.ntmps19
    go_wp2_with fail
    go_ret
    exact ⟨rfl, rfl⟩
  · have hb : belM p fr ct = decide (p < fr + ct) := by unfold belM; rw [decide_eq_true (by omega : 0 < ct)]; rfl
    obtain ⟨b, hbb⟩ : ∃ b, b = decide (p < fr + ct) := ⟨_, rfl⟩
    rw [hb, ← hbb]
    clear hb
    by_cases h1 : fr < 0
    · have hw : IntKind.i64.wrap (fr + ct) = fr + ct := IntWalk.i64_in _ (by omega)
      clear hw
      go_enter Try.func19, Try.ntmps19
      go_wp2_with fail
      go_ret
      exact ⟨by first | rfl | (rw [hbb]; rfl), rfl⟩
    · have h2 : ¬ (p < fr) := by omega
      have hd : decide (p - fr < ct) = b := by rw [hbb]; exact decide_eq_decide.2 (by omega)
      clear hbb
      go_enter Try.func19, Try.ntmps19
      go_wp2_with fail
      go_ret
      exact ⟨by first | rfl | (rw [← hd]; rfl), rfl⟩
theorem sel_step (s : List UInt8) (p : Nat → Bool) (i : Nat) : selL s p (i + 1) = selL s p i ++ (if p i then (s.drop i).take 1 else []) := rfl
theorem subC_eq (fr ct : Int) (all : Bool) (i : Nat) : subC fr ct all i = (decide (fr ≤ (i : Int) + 1) && (all || belM ((i : Int) + 1) fr ct)) := rfl
set_option maxRecDepth 100000 in
set_option maxHeartbeats 4000000 in
theorem rsub_any (w : World) (s : List UInt8) (fr ct : Int) (hf : -9223372036854775808 ≤ fr ∧ fr ≤ 9223372036854775807) (hc : -9223372036854775808 ≤ ct ∧ ct ≤ 9223372036854775807) (hs : s.length ≤ 1000) (all : Bool) :
    Calls Try.prog 11 #[.string ⟨s.toArray⟩, .int .i64 fr, .int .i64 ct, .bool all] w fun e w' => e = .returned (.string ⟨(subM s fr ct all).toArray⟩) ∧ w = w' := by
  obtain ⟨S, hS⟩ : ∃ S, S = (⟨s.toArray⟩ : ByteArray) := ⟨_, rfl⟩
  obtain ⟨n, hn⟩ : ∃ n, n = s.length := ⟨_, rfl⟩
  have hs1 : S.size = n := by rw [hS, hn]; simp [ByteArray.size]
  obtain ⟨p, hp⟩ : ∃ p, p = subC fr ct all := ⟨_, rfl⟩
  have hsel : subM s fr ct all = selL s p n := by rw [hp, hn, sel_sub]
  have hpp : ∀ i, p i = (decide (fr ≤ (i : Int) + 1) && (all || belM ((i : Int) + 1) fr ct)) := fun i => by rw [hp, subC_eq]
  rw [← hS, hsel]
  rw [← hn] at hs
  have HS := Lib.hid hS; have HN := Lib.hid hn; have HPP := Lib.hid hpp
  clear hS hn hsel hpp hp
  go_enter Try.func11, Try.ntmps11
  go_upto_region 3 with fail
  go_loopw [9, 10, 11] (fun v9 v10 v11 wr => ∃ i : Nat, v10 = .int .i64 (i : Int) ∧ i ≤ n ∧ v9 = .string ⟨(selL s p i).toArray⟩ ∧ wr = w) (fun _ v10 _ _ => n + 1 - (intOf v10).toNat)
  case atStart => exact ⟨0, rfl, Nat.zero_le _, rfl, rfl⟩
  case round =>
    obtain ⟨i, rfl, hi, rfl, rfl⟩ := hrel
    obtain ⟨O, hO⟩ : ∃ O, O = (⟨(selL s p i).toArray⟩ : ByteArray) := ⟨_, rfl⟩
    rw [← hO]
    have hos : O.size ≤ i := by rw [hO]; have := sel_len s p i; simpa [ByteArray.size] using this
    have HO := Lib.hid hO
    clear hO
    rcases Nat.lt_or_ge i n with hin | hin
    · have hinI : (i : Int) < (n : Int) := by omega
      obtain ⟨T, hT⟩ : ∃ T, S.extract i (i + 1) = T := ⟨_, rfl⟩
      have hTb : T = ⟨((s.drop i).take 1).toArray⟩ := by rw [← hT, HS.out, ba_extract, Nat.add_sub_cancel_left]
      have hts : T.size ≤ 1 := by rw [hTb]; simp [ByteArray.size]; omega
      have hnov : ¬ 9223372036854775807 < O.size + T.size := by omega
      have hyes : p i = true → O ++ T = (⟨(selL s p (i + 1)).toArray⟩ : ByteArray) := fun h => by rw [HO.out, hTb, ba_append, selL, if_pos h]
      have hno : p i = false → O = (⟨(selL s p (i + 1)).toArray⟩ : ByteArray) := fun h => by rw [HO.out, selL, h]; simp
      have hpi := HPP.out i
      have HY := Lib.hid hyes; have HNO := Lib.hid hno
      clear hyes hno hTb
      by_cases h1 : fr ≤ (i : Int) + 1
      · rw [decide_eq_true h1, Bool.true_and] at hpi
        cases all with
        | true =>
          have HY2 := Lib.hid (HY.out (by rw [hpi]; rfl))
          clear hpi HY HNO
          go_wp2_with fail
          go_roundw
          case rel => exact ⟨i + 1, by go_num, by omega, by rw [HY2.out], trivial⟩
          case measure => first | (simp [intOf]; done) | (simp [intOf]; omega)
        | false =>
          rw [Bool.false_or] at hpi
          have HB := Lib.hid (fun W => below_any W ((i : Int) + 1) fr ct (by omega) ⟨hf.1, h1⟩ hc)
          cases hb : belM ((i : Int) + 1) fr ct with
          | true =>
            rw [hb] at hpi HB
            have HY2 := Lib.hid (HY.out hpi)
            clear hpi HY HNO hb
            go_wp2_with (go_at_call 19; refine (HB.out _).mono ?_; rintro e w2 ⟨rfl, rfl⟩)
            go_roundw
            case rel => exact ⟨i + 1, by go_num, by omega, by rw [HY2.out], trivial⟩
            case measure => first | (simp [intOf]; done) | (simp [intOf]; omega)
          | false =>
            rw [hb] at hpi HB
            have HN2 := Lib.hid (HNO.out hpi)
            clear hpi HY HNO hb
            go_wp2_with (go_at_call 19; refine (HB.out _).mono ?_; rintro e w2 ⟨rfl, rfl⟩)
            go_roundw
            case rel => exact ⟨i + 1, by go_num, by omega, by rw [← HN2.out], trivial⟩
            case measure => first | (simp [intOf]; done) | (simp [intOf]; omega)
      · rw [decide_eq_false h1, Bool.false_and] at hpi
        have HN2 := Lib.hid (HNO.out hpi)
        clear hpi HY HNO
        go_wp2_with fail
        go_roundw
        case rel => exact ⟨i + 1, by go_num, by omega, by rw [← HN2.out], trivial⟩
        case measure => first | (simp [intOf]; done) | (simp [intOf]; omega)
    · have hinI : ¬ ((i : Int) < (n : Int)) := by omega
      have HO2 := Lib.hid (show O = ⟨(selL s p n).toArray⟩ by rw [HO.out, show i = n by omega])
      go_wp2_with fail
      go_ret
      exact ⟨by (rw [HO2.out]; first | done | rfl), rfl⟩
set_option maxRecDepth 100000 in
set_option maxHeartbeats 4000000 in
theorem rup_any (w : World) (s : List UInt8) (hs : s.length ≤ 1000) :
    Calls Try.prog 13 #[.string ⟨s.toArray⟩] w fun e w' => e = .returned (.string ⟨(upM s).toArray⟩) ∧ Fr [] w w' := by
  obtain ⟨S, hS⟩ : ∃ S, S = (⟨s.toArray⟩ : ByteArray) := ⟨_, rfl⟩
  obtain ⟨n, hn⟩ : ∃ n, n = s.length := ⟨_, rfl⟩
  obtain ⟨R, hR⟩ : ∃ R, R = upM s := ⟨_, rfl⟩
  have hs1 : S.size = n := by rw [hS, hn]; simp [ByteArray.size]
  have hrl : R.length = n := by rw [hR, hn]; simp [upM]
  have hget : ∀ i c, s[i]? = some c → R[i]? = some (turnB 97 122 (-32) c) := fun i c h => by rw [hR, upM, List.getElem?_map, h]; rfl
  rw [← hS, ← hR]
  rw [← hn] at hs
  have HS := Lib.hid hS; have HN := Lib.hid hn; have HGET := Lib.hid hget; have HRL := Lib.hid hrl
  clear hS hn hR hget hrl
  go_enter Try.func13, Try.ntmps13
  go_upto_region 3 with fail
  go_loopw [3, 4, 5] (fun v3 v4 v5 wr => ∃ i : Nat, v4 = .int .i64 (i : Int) ∧ i ≤ n ∧ v3 = .string ⟨(R.take i).toArray⟩ ∧ Fr [] w wr) (fun _ v4 _ _ => n + 1 - (intOf v4).toNat)
  case atStart => exact ⟨0, rfl, Nat.zero_le _, by rw [List.take_zero], Fr.refl _ _⟩
  case round =>
    obtain ⟨i, rfl, hi, rfl, hfr⟩ := hrel
    have HFR := Lib.hid hfr
    clear hfr
    obtain ⟨O, hO⟩ : ∃ O, O = (⟨(R.take i).toArray⟩ : ByteArray) := ⟨_, rfl⟩
    rw [← hO]
    have hos : O.size = i := by rw [hO]; simp [ByteArray.size, HRL.out]; omega
    have HO := Lib.hid hO
    clear hO
    rcases Nat.lt_or_ge i n with hin | hin
    · have hinI : (i : Int) < (n : Int) := by omega
      obtain ⟨c, hc⟩ : ∃ c, s[i]? = some c := ⟨_, List.getElem?_eq_getElem (by have := HN.out; omega)⟩
      have hix := str_ix (s := s) hc
      rw [← HS.out] at hix
      have hrg := HGET.out i c hc
      obtain ⟨e, he⟩ : ∃ e, e = turnB 97 122 (-32) c := ⟨_, rfl⟩
      rw [← he] at hrg
      have hcat : O ++ ⟨[e].toArray⟩ = (⟨(R.take (i + 1)).toArray⟩ : ByteArray) := by rw [HO.out, ba_append, take_snoc hrg]
      obtain ⟨E, hE⟩ : ∃ E, E = (⟨[e].toArray⟩ : ByteArray) := ⟨_, rfl⟩
      have hes : E.size = 1 := by rw [hE]; rfl
      rw [← hE] at hcat
      have hnov : ¬ 9223372036854775807 < O.size + E.size := by omega
      obtain ⟨cn, hcn⟩ : ∃ cn : Nat, cn = c.toNat := ⟨_, rfl⟩
      have hcn1 : cn < 256 := by rw [hcn]; exact c.toNat_lt
      obtain ⟨dn, hdn⟩ : ∃ dn : Nat, dn = e.toNat := ⟨_, rfl⟩
      have hdn1 : dn < 256 := by rw [hdn]; exact e.toNat_lt
      rw [← hcn] at hix
      have hby : ∀ W : World, Bytes (W.alloc (.cells #[.int .u8 (dn : Int)] 5)) (some ⟨W.heap.size, 0, none⟩) [e] := fun W => by rw [hdn]; exact bytes_new1 W [e]
      have HBY := Lib.hid hby; have HCAT := Lib.hid hcat; have HE := Lib.hid hE
      by_cases h1 : 97 ≤ cn ∧ cn ≤ 122
      · have h1a : (97 : Int) ≤ (cn : Int) := by omega
        have h1b : (cn : Int) ≤ (122 : Int) := by omega
        have hd : (cn : Int) - 32 = (dn : Int) := by
          rw [hdn, he]
          unfold turnB
          rw [← hcn, if_pos h1]
          simp
          omega
        clear hc hrg he hE hcn hdn hby hcat h1
        go_wp2_with (refine wpList_str rfl 28 9 (.tmp 25) rfl 5 Try.underlying28 Try.underlying5 Try.underlying9 (some ⟨wr.heap.size, 0, none⟩) 1 1 (by first | rfl | (simp [Act.eval]; done)) [e] (HBY.out _) rfl ?_; rw [← HE.out])
        go_roundw
        case rel => exact ⟨i + 1, by go_num, by omega, by rw [HCAT.out], HFR.out.alloc _⟩
        case measure => first | (simp [intOf]; done) | (simp [intOf]; omega)
      · have hd : dn = cn := by
          rw [hdn, he]
          unfold turnB
          rw [← hcn, if_neg h1, ← hcn]
        subst hd
        by_cases h2 : 97 ≤ dn
        · have h1a : (97 : Int) ≤ (dn : Int) := by omega
          have h1b : ¬ ((dn : Int) ≤ (122 : Int)) := by omega
          clear hc hrg he hE hcn hdn hby hcat h1 h2
          go_wp2_with (refine wpList_str rfl 28 9 (.tmp 25) rfl 5 Try.underlying28 Try.underlying5 Try.underlying9 (some ⟨wr.heap.size, 0, none⟩) 1 1 (by first | rfl | (simp [Act.eval]; done)) [e] (HBY.out _) rfl ?_; rw [← HE.out])
          go_roundw
          case rel => exact ⟨i + 1, by go_num, by omega, by rw [HCAT.out], HFR.out.alloc _⟩
          case measure => first | (simp [intOf]; done) | (simp [intOf]; omega)
        · have h1a : ¬ ((97 : Int) ≤ (dn : Int)) := by omega
          clear hc hrg he hE hcn hdn hby hcat h1 h2
          go_wp2_with (refine wpList_str rfl 28 9 (.tmp 25) rfl 5 Try.underlying28 Try.underlying5 Try.underlying9 (some ⟨wr.heap.size, 0, none⟩) 1 1 (by first | rfl | (simp [Act.eval]; done)) [e] (HBY.out _) rfl ?_; rw [← HE.out])
          go_roundw
          case rel => exact ⟨i + 1, by go_num, by omega, by rw [HCAT.out], HFR.out.alloc _⟩
          case measure => first | (simp [intOf]; done) | (simp [intOf]; omega)
    · have hinI : ¬ ((i : Int) < (n : Int)) := by omega
      have hfin : O = ⟨R.toArray⟩ := by rw [HO.out, List.take_of_length_le (by rw [HRL.out]; omega)]
      have HFI := Lib.hid hfin
      clear hfin
      go_wp2_with fail
      go_ret
      exact ⟨by (rw [HFI.out]; first | done | rfl), HFR.out⟩
set_option maxRecDepth 100000 in
set_option maxHeartbeats 4000000 in
theorem rlo_any (w : World) (s : List UInt8) (hs : s.length ≤ 1000) :
    Calls Try.prog 15 #[.string ⟨s.toArray⟩] w fun e w' => e = .returned (.string ⟨(loM s).toArray⟩) ∧ Fr [] w w' := by
  obtain ⟨S, hS⟩ : ∃ S, S = (⟨s.toArray⟩ : ByteArray) := ⟨_, rfl⟩
  obtain ⟨n, hn⟩ : ∃ n, n = s.length := ⟨_, rfl⟩
  obtain ⟨R, hR⟩ : ∃ R, R = loM s := ⟨_, rfl⟩
  have hs1 : S.size = n := by rw [hS, hn]; simp [ByteArray.size]
  have hrl : R.length = n := by rw [hR, hn]; simp [loM]
  have hget : ∀ i c, s[i]? = some c → R[i]? = some (turnB 65 90 32 c) := fun i c h => by rw [hR, loM, List.getElem?_map, h]; rfl
  rw [← hS, ← hR]
  rw [← hn] at hs
  have HS := Lib.hid hS; have HN := Lib.hid hn; have HGET := Lib.hid hget; have HRL := Lib.hid hrl
  clear hS hn hR hget hrl
  go_enter Try.func15, Try.ntmps15
  go_upto_region 3 with fail
  go_loopw [3, 4, 5] (fun v3 v4 v5 wr => ∃ i : Nat, v4 = .int .i64 (i : Int) ∧ i ≤ n ∧ v3 = .string ⟨(R.take i).toArray⟩ ∧ Fr [] w wr) (fun _ v4 _ _ => n + 1 - (intOf v4).toNat)
  case atStart => exact ⟨0, rfl, Nat.zero_le _, by rw [List.take_zero], Fr.refl _ _⟩
  case round =>
    obtain ⟨i, rfl, hi, rfl, hfr⟩ := hrel
    have HFR := Lib.hid hfr
    clear hfr
    obtain ⟨O, hO⟩ : ∃ O, O = (⟨(R.take i).toArray⟩ : ByteArray) := ⟨_, rfl⟩
    rw [← hO]
    have hos : O.size = i := by rw [hO]; simp [ByteArray.size, HRL.out]; omega
    have HO := Lib.hid hO
    clear hO
    rcases Nat.lt_or_ge i n with hin | hin
    · have hinI : (i : Int) < (n : Int) := by omega
      obtain ⟨c, hc⟩ : ∃ c, s[i]? = some c := ⟨_, List.getElem?_eq_getElem (by have := HN.out; omega)⟩
      have hix := str_ix (s := s) hc
      rw [← HS.out] at hix
      have hrg := HGET.out i c hc
      obtain ⟨e, he⟩ : ∃ e, e = turnB 65 90 32 c := ⟨_, rfl⟩
      rw [← he] at hrg
      have hcat : O ++ ⟨[e].toArray⟩ = (⟨(R.take (i + 1)).toArray⟩ : ByteArray) := by rw [HO.out, ba_append, take_snoc hrg]
      obtain ⟨E, hE⟩ : ∃ E, E = (⟨[e].toArray⟩ : ByteArray) := ⟨_, rfl⟩
      have hes : E.size = 1 := by rw [hE]; rfl
      rw [← hE] at hcat
      have hnov : ¬ 9223372036854775807 < O.size + E.size := by omega
      obtain ⟨cn, hcn⟩ : ∃ cn : Nat, cn = c.toNat := ⟨_, rfl⟩
      have hcn1 : cn < 256 := by rw [hcn]; exact c.toNat_lt
      obtain ⟨dn, hdn⟩ : ∃ dn : Nat, dn = e.toNat := ⟨_, rfl⟩
      have hdn1 : dn < 256 := by rw [hdn]; exact e.toNat_lt
      rw [← hcn] at hix
      have hby : ∀ W : World, Bytes (W.alloc (.cells #[.int .u8 (dn : Int)] 5)) (some ⟨W.heap.size, 0, none⟩) [e] := fun W => by rw [hdn]; exact bytes_new1 W [e]
      have HBY := Lib.hid hby; have HCAT := Lib.hid hcat; have HE := Lib.hid hE
      by_cases h1 : 65 ≤ cn ∧ cn ≤ 90
      · have h1a : (65 : Int) ≤ (cn : Int) := by omega
        have h1b : (cn : Int) ≤ (90 : Int) := by omega
        have hd : (cn : Int) + 32 = (dn : Int) := by
          rw [hdn, he]
          unfold turnB
          rw [← hcn, if_pos h1]
          simp
          omega
        clear hc hrg he hE hcn hdn hby hcat h1
        go_wp2_with (refine wpList_str rfl 28 9 (.tmp 25) rfl 5 Try.underlying28 Try.underlying5 Try.underlying9 (some ⟨wr.heap.size, 0, none⟩) 1 1 (by first | rfl | (simp [Act.eval]; done)) [e] (HBY.out _) rfl ?_; rw [← HE.out])
        go_roundw
        case rel => exact ⟨i + 1, by go_num, by omega, by rw [HCAT.out], HFR.out.alloc _⟩
        case measure => first | (simp [intOf]; done) | (simp [intOf]; omega)
      · have hd : dn = cn := by
          rw [hdn, he]
          unfold turnB
          rw [← hcn, if_neg h1, ← hcn]
        subst hd
        by_cases h2 : 65 ≤ dn
        · have h1a : (65 : Int) ≤ (dn : Int) := by omega
          have h1b : ¬ ((dn : Int) ≤ (90 : Int)) := by omega
          clear hc hrg he hE hcn hdn hby hcat h1 h2
          go_wp2_with (refine wpList_str rfl 28 9 (.tmp 25) rfl 5 Try.underlying28 Try.underlying5 Try.underlying9 (some ⟨wr.heap.size, 0, none⟩) 1 1 (by first | rfl | (simp [Act.eval]; done)) [e] (HBY.out _) rfl ?_; rw [← HE.out])
          go_roundw
          case rel => exact ⟨i + 1, by go_num, by omega, by rw [HCAT.out], HFR.out.alloc _⟩
          case measure => first | (simp [intOf]; done) | (simp [intOf]; omega)
        · have h1a : ¬ ((65 : Int) ≤ (dn : Int)) := by omega
          clear hc hrg he hE hcn hdn hby hcat h1 h2
          go_wp2_with (refine wpList_str rfl 28 9 (.tmp 25) rfl 5 Try.underlying28 Try.underlying5 Try.underlying9 (some ⟨wr.heap.size, 0, none⟩) 1 1 (by first | rfl | (simp [Act.eval]; done)) [e] (HBY.out _) rfl ?_; rw [← HE.out])
          go_roundw
          case rel => exact ⟨i + 1, by go_num, by omega, by rw [HCAT.out], HFR.out.alloc _⟩
          case measure => first | (simp [intOf]; done) | (simp [intOf]; omega)
    · have hinI : ¬ ((i : Int) < (n : Int)) := by omega
      have hfin : O = ⟨R.toArray⟩ := by rw [HO.out, List.take_of_length_le (by rw [HRL.out]; omega)]
      have HFI := Lib.hid hfin
      clear hfin
      go_wp2_with fail
      go_ret
      exact ⟨by (rw [HFI.out]; first | done | rfl), HFR.out⟩
end Go.Proofs.Yteofhjegaaoglaa
