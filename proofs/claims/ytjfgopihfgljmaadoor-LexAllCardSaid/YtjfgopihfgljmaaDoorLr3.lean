/-
  The reference of tokens, its small functions: letter, digit, Blank, Escape, in. No conditions but sizes. (Printed by a program of the prover's.)
-/
import Derived.Test.YtjfgopihfgljmaaDoorLex14
import Derived.Test.YtjfgopihfgljmaaDoorLr2
namespace Go.Proofs.YtjfgopihfgljmaaDoor
open Go.RowKit
set_option linter.unusedVariables false
set_option linter.unusedSimpArgs false

theorem str_ix {s : List UInt8} {i : Nat} {c : UInt8} (h : s[i]? = some c) (W : World) : (Instr.index 9 (.string ⟨s.toArray⟩) (.int .i64 (i : Int))).run Tryd.prog W = .ok (.int .u8 (c.toNat : Int)) W := by
  obtain ⟨h1, h2⟩ := List.getElem?_eq_some_iff.1 h
  have h3 : (⟨s.toArray⟩ : ByteArray)[i]? = some c := by
    rw [getElem?_pos (⟨s.toArray⟩ : ByteArray) i (by simpa [ByteArray.size] using h1)]
    congr 1
  unfold Instr.index
  simp [asIntOf, run_underlying Tryd.underlying9, h3]
theorem bytes_new1 (w : World) (bs : List UInt8) : Bytes (w.alloc (.cells (byteVals bs).toArray 5)) (some ⟨w.heap.size, 0, none⟩) bs :=
  At.of_bk (n := bs.length) (Bk.new w 5 (byteVals bs).toArray) (by rw [List.take_of_length_le (by simp [byteVals])])
theorem ext_one {s : List UInt8} {i : Nat} {x : UInt8} (h : s[i]? = some x) : (⟨s.toArray⟩ : ByteArray).extract i (i + 1) = ⟨[x].toArray⟩ := by
  obtain ⟨h1, h2⟩ := List.getElem?_eq_some_iff.1 h
  rw [ba_extract, List.drop_eq_getElem_cons h1, Nat.add_sub_cancel_left, h2]; rfl
theorem letter12 (c : UInt8) (w : World) : Calls Tryd.prog 14 #[.int .u8 (c.toNat : Int)] w fun e w' => e = .returned (.bool (letM c)) ∧ w = w' := by
  obtain ⟨n, hn⟩ : ∃ n, n = c.toNat := ⟨_, rfl⟩
  have hn1 : n < 256 := by rw [hn]; exact c.toNat_lt
  obtain ⟨R, hR⟩ : ∃ R, R = letM c := ⟨_, rfl⟩
  rw [← hn, ← hR]
  have HN := Lib.hid hn; have HR := Lib.hid hR
  clear hn hR
  by_cases heq95 : n = 95
  · have feq95 : ((n : Int) == 95) = true := by first | (simp; done) | (simp; omega)
    have HV : Hid (R = true) := Lib.hid (by rw [HR.out]; have := HN.out; simp [letM, ← HN.out]; omega)
    go_enter Tryd.func14, Tryd.ntmps14
    go_wp2_with fail
    go_ret
    rw [HV.out]
    exact ⟨rfl, rfl⟩
  · have feq95 : ((n : Int) == 95) = false := by first | (simp; done) | (simp; omega)
    by_cases hge97 : 97 ≤ n
    · have fge97 : (97 : Int) ≤ (n : Int) := by omega
      by_cases hle122 : n ≤ 122
      · have fle122 : (n : Int) ≤ 122 := by omega
        have HV : Hid (R = true) := Lib.hid (by rw [HR.out]; have := HN.out; simp [letM, ← HN.out]; omega)
        go_enter Tryd.func14, Tryd.ntmps14
        go_wp2_with fail
        go_ret
        rw [HV.out]
        exact ⟨rfl, rfl⟩
      · have fle122 : ¬ ((n : Int) ≤ 122) := by omega
        by_cases hge65 : 65 ≤ n
        · have fge65 : (65 : Int) ≤ (n : Int) := by omega
          by_cases hle90 : n ≤ 90
          · have fle90 : (n : Int) ≤ 90 := by omega
            have HV : Hid (R = true) := Lib.hid (by rw [HR.out]; have := HN.out; simp [letM, ← HN.out]; omega)
            go_enter Tryd.func14, Tryd.ntmps14
            go_wp2_with fail
            go_ret
            rw [HV.out]
            exact ⟨rfl, rfl⟩
          · have fle90 : ¬ ((n : Int) ≤ 90) := by omega
            have HV : Hid (R = false) := Lib.hid (by rw [HR.out]; have := HN.out; simp [letM, ← HN.out]; omega)
            go_enter Tryd.func14, Tryd.ntmps14
            go_wp2_with fail
            go_ret
            rw [HV.out]
            exact ⟨rfl, rfl⟩
        · have fge65 : ¬ ((65 : Int) ≤ (n : Int)) := by omega
          have HV : Hid (R = false) := Lib.hid (by rw [HR.out]; have := HN.out; simp [letM, ← HN.out]; omega)
          go_enter Tryd.func14, Tryd.ntmps14
          go_wp2_with fail
          go_ret
          rw [HV.out]
          exact ⟨rfl, rfl⟩
    · have fge97 : ¬ ((97 : Int) ≤ (n : Int)) := by omega
      by_cases hge65 : 65 ≤ n
      · have fge65 : (65 : Int) ≤ (n : Int) := by omega
        by_cases hle90 : n ≤ 90
        · have fle90 : (n : Int) ≤ 90 := by omega
          have HV : Hid (R = true) := Lib.hid (by rw [HR.out]; have := HN.out; simp [letM, ← HN.out]; omega)
          go_enter Tryd.func14, Tryd.ntmps14
          go_wp2_with fail
          go_ret
          rw [HV.out]
          exact ⟨rfl, rfl⟩
        · have fle90 : ¬ ((n : Int) ≤ 90) := by omega
          have HV : Hid (R = false) := Lib.hid (by rw [HR.out]; have := HN.out; simp [letM, ← HN.out]; omega)
          go_enter Tryd.func14, Tryd.ntmps14
          go_wp2_with fail
          go_ret
          rw [HV.out]
          exact ⟨rfl, rfl⟩
      · have fge65 : ¬ ((65 : Int) ≤ (n : Int)) := by omega
        have HV : Hid (R = false) := Lib.hid (by rw [HR.out]; have := HN.out; simp [letM, ← HN.out]; omega)
        go_enter Tryd.func14, Tryd.ntmps14
        go_wp2_with fail
        go_ret
        rw [HV.out]
        exact ⟨rfl, rfl⟩
theorem digit12 (c : UInt8) (w : World) : Calls Tryd.prog 15 #[.int .u8 (c.toNat : Int)] w fun e w' => e = .returned (.bool (digM c)) ∧ w = w' := by
  obtain ⟨n, hn⟩ : ∃ n, n = c.toNat := ⟨_, rfl⟩
  have hn1 : n < 256 := by rw [hn]; exact c.toNat_lt
  obtain ⟨R, hR⟩ : ∃ R, R = digM c := ⟨_, rfl⟩
  rw [← hn, ← hR]
  have HN := Lib.hid hn; have HR := Lib.hid hR
  clear hn hR
  by_cases hge48 : 48 ≤ n
  · have fge48 : (48 : Int) ≤ (n : Int) := by omega
    by_cases hle57 : n ≤ 57
    · have fle57 : (n : Int) ≤ 57 := by omega
      have HV : Hid (R = true) := Lib.hid (by rw [HR.out]; have := HN.out; simp [digM, ← HN.out]; omega)
      go_enter Tryd.func15, Tryd.ntmps15
      go_wp2_with fail
      go_ret
      rw [HV.out]
      exact ⟨rfl, rfl⟩
    · have fle57 : ¬ ((n : Int) ≤ 57) := by omega
      have HV : Hid (R = false) := Lib.hid (by rw [HR.out]; have := HN.out; simp [digM, ← HN.out]; omega)
      go_enter Tryd.func15, Tryd.ntmps15
      go_wp2_with fail
      go_ret
      rw [HV.out]
      exact ⟨rfl, rfl⟩
  · have fge48 : ¬ ((48 : Int) ≤ (n : Int)) := by omega
    have HV : Hid (R = false) := Lib.hid (by rw [HR.out]; have := HN.out; simp [digM, ← HN.out]; omega)
    go_enter Tryd.func15, Tryd.ntmps15
    go_wp2_with fail
    go_ret
    rw [HV.out]
    exact ⟨rfl, rfl⟩
theorem digit02 (c : UInt8) (w : World) : Calls Tryd.prog 38 #[.int .u8 (c.toNat : Int)] w fun e w' => e = .returned (.bool (digM c)) ∧ w = w' := by
  obtain ⟨n, hn⟩ : ∃ n, n = c.toNat := ⟨_, rfl⟩
  have hn1 : n < 256 := by rw [hn]; exact c.toNat_lt
  obtain ⟨R, hR⟩ : ∃ R, R = digM c := ⟨_, rfl⟩
  rw [← hn, ← hR]
  have HN := Lib.hid hn; have HR := Lib.hid hR
  clear hn hR
  by_cases hge48 : 48 ≤ n
  · have fge48 : (48 : Int) ≤ (n : Int) := by omega
    by_cases hle57 : n ≤ 57
    · have fle57 : (n : Int) ≤ 57 := by omega
      have HV : Hid (R = true) := Lib.hid (by rw [HR.out]; have := HN.out; simp [digM, ← HN.out]; omega)
      go_enter Tryd.func38, Tryd.ntmps38
      go_wp2_with fail
      go_ret
      rw [HV.out]
      exact ⟨rfl, rfl⟩
    · have fle57 : ¬ ((n : Int) ≤ 57) := by omega
      have HV : Hid (R = false) := Lib.hid (by rw [HR.out]; have := HN.out; simp [digM, ← HN.out]; omega)
      go_enter Tryd.func38, Tryd.ntmps38
      go_wp2_with fail
      go_ret
      rw [HV.out]
      exact ⟨rfl, rfl⟩
  · have fge48 : ¬ ((48 : Int) ≤ (n : Int)) := by omega
    have HV : Hid (R = false) := Lib.hid (by rw [HR.out]; have := HN.out; simp [digM, ← HN.out]; omega)
    go_enter Tryd.func38, Tryd.ntmps38
    go_wp2_with fail
    go_ret
    rw [HV.out]
    exact ⟨rfl, rfl⟩
def blkM (c : UInt8) : Bool := decide (c.toNat = 32) || (decide (9 ≤ c.toNat) && decide (c.toNat ≤ 13))
theorem blank02 (c : UInt8) (w : World) : Calls Tryd.prog 37 #[.int .u8 (c.toNat : Int)] w fun e w' => e = .returned (.bool (blkM c)) ∧ w = w' := by
  obtain ⟨n, hn⟩ : ∃ n, n = c.toNat := ⟨_, rfl⟩
  have hn1 : n < 256 := by rw [hn]; exact c.toNat_lt
  obtain ⟨R, hR⟩ : ∃ R, R = blkM c := ⟨_, rfl⟩
  rw [← hn, ← hR]
  have HN := Lib.hid hn; have HR := Lib.hid hR
  clear hn hR
  by_cases heq32 : n = 32
  · have feq32 : ((n : Int) == 32) = true := by first | (simp; done) | (simp; omega)
    have HV : Hid (R = true) := Lib.hid (by rw [HR.out]; have := HN.out; simp [blkM, ← HN.out]; omega)
    go_enter Tryd.func37, Tryd.ntmps37
    go_wp2_with fail
    go_ret
    rw [HV.out]
    exact ⟨rfl, rfl⟩
  · have feq32 : ((n : Int) == 32) = false := by first | (simp; done) | (simp; omega)
    by_cases hge9 : 9 ≤ n
    · have fge9 : (9 : Int) ≤ (n : Int) := by omega
      by_cases hle13 : n ≤ 13
      · have fle13 : (n : Int) ≤ 13 := by omega
        have HV : Hid (R = true) := Lib.hid (by rw [HR.out]; have := HN.out; simp [blkM, ← HN.out]; omega)
        go_enter Tryd.func37, Tryd.ntmps37
        go_wp2_with fail
        go_ret
        rw [HV.out]
        exact ⟨rfl, rfl⟩
      · have fle13 : ¬ ((n : Int) ≤ 13) := by omega
        have HV : Hid (R = false) := Lib.hid (by rw [HR.out]; have := HN.out; simp [blkM, ← HN.out]; omega)
        go_enter Tryd.func37, Tryd.ntmps37
        go_wp2_with fail
        go_ret
        rw [HV.out]
        exact ⟨rfl, rfl⟩
    · have fge9 : ¬ ((9 : Int) ≤ (n : Int)) := by omega
      have HV : Hid (R = false) := Lib.hid (by rw [HR.out]; have := HN.out; simp [blkM, ← HN.out]; omega)
      go_enter Tryd.func37, Tryd.ntmps37
      go_wp2_with fail
      go_ret
      rw [HV.out]
      exact ⟨rfl, rfl⟩
/-! Escape. -/
theorem resc_any (c : Nat) (hc : c < 256) (w : World) : Calls Tryd.prog 39 #[.int .u8 (c : Int)] w fun e w' => e = .returned (.int .u8 (escM c : Int)) ∧ w = w' := by
  by_cases h : c = 110 ∨ c = 116 ∨ c = 114 ∨ c = 102 ∨ c = 118 ∨ c = 97 ∨ c = 98
  · rcases h with rfl | rfl | rfl | rfl | rfl | rfl | rfl
    all_goals
      go_enter Tryd.func39, Tryd.ntmps39
      go_wp2_with fail
      go_ret
      exact ⟨rfl, rfl⟩
  · have e110 : ((c : Int) == 110) = false := by simp; omega
    have e116 : ((c : Int) == 116) = false := by simp; omega
    have e114 : ((c : Int) == 114) = false := by simp; omega
    have e102 : ((c : Int) == 102) = false := by simp; omega
    have e118 : ((c : Int) == 118) = false := by simp; omega
    have e97 : ((c : Int) == 97) = false := by simp; omega
    have e98 : ((c : Int) == 98) = false := by simp; omega
    have he : escM c = c := by unfold escM; (repeat' split) <;> omega
    rw [he]
    clear he h
    go_enter Tryd.func39, Tryd.ntmps39
    go_wp2_with fail
    go_ret
    exact ⟨rfl, rfl⟩
/-! in. -/
set_option maxRecDepth 100000 in
set_option maxHeartbeats 4000000 in
theorem in_any (w : World) (a u : List UInt8) (ha : a.length ≤ 1000) (hu : u.length ≤ 100000) :
    Calls Tryd.prog 16 #[.string ⟨a.toArray⟩, .string ⟨u.toArray⟩] w fun e w' => e = .returned (.bool (inM a u)) ∧ w = w' := by
  obtain ⟨S, hS⟩ : ∃ S, S = (⟨a.toArray⟩ : ByteArray) := ⟨_, rfl⟩
  obtain ⟨U, hU⟩ : ∃ U, U = (⟨u.toArray⟩ : ByteArray) := ⟨_, rfl⟩
  obtain ⟨B, hB⟩ : ∃ B, B = (⟨#[32]⟩ : ByteArray) := ⟨_, rfl⟩
  obtain ⟨T, hT⟩ : ∃ T, T = (⟨(32 :: (u ++ [32])).toArray⟩ : ByteArray) := ⟨_, rfl⟩
  obtain ⟨L, hL⟩ : ∃ L, L = a.length := ⟨_, rfl⟩
  obtain ⟨m, hm⟩ : ∃ m, m = u.length := ⟨_, rfl⟩
  obtain ⟨M, hM⟩ : ∃ M, M = u.length + 2 := ⟨_, rfl⟩
  have hs1 : S.size = L := by rw [hS, hL]; simp [ByteArray.size]
  have hu1 : U.size = m := by rw [hU, hm]; simp [ByteArray.size]
  have hb1 : B.size = 1 := by rw [hB]; rfl
  have ht1 : T.size = M := by rw [hT, hM]; simp [ByteArray.size]
  have hcat1 : (⟨#[32]⟩ : ByteArray) ++ U ++ (⟨#[32]⟩ : ByteArray) = T := by
    rw [hU, hT]
    rw [show (⟨#[32]⟩ : ByteArray) = ⟨[32].toArray⟩ from rfl, ba_append, ba_append]; simp
  have hz1 : ((⟨#[32]⟩ : ByteArray) ++ U).size = m + 1 := by
    rw [hU, show (⟨#[32]⟩ : ByteArray) = ⟨[32].toArray⟩ from rfl, ba_append, ba_size, hm]; first | (simp; done) | (simp; omega)
  have hz0 : (⟨#[32]⟩ : ByteArray).size = 1 := rfl
  have hno1 : ¬ 9223372036854775807 < (⟨#[32]⟩ : ByteArray).size + U.size := by rw [hz0, hu1]; omega
  have hno2 : ¬ 9223372036854775807 < ((⟨#[32]⟩ : ByteArray) ++ U).size + (⟨#[32]⟩ : ByteArray).size := by rw [hz0, hz1]; omega
  have hocc : ∀ j, j + M ≤ L → ((S.extract j (j + M)).toList == T.toList) = ((a.drop j).take (u.length + 2) == 32 :: (u ++ [32])) := fun j hj => by
    rw [hS, hT, ba_extract, ByteArray.toList_mk, ByteArray.toList_mk, Nat.add_sub_cancel_left, hM]
  rw [← hS, ← hU]
  rw [← hL] at ha; rw [← hm] at hu
  have hMb : M ≤ 100002 := by rw [hM, ← hm]; omega
  have HOC := Lib.hid hocc; have HL := Lib.hid hL; have HM := Lib.hid hM
  obtain ⟨R, hR⟩ : ∃ R, R = inM a u := ⟨_, rfl⟩
  have HR := Lib.hid hR
  rw [← hR]
  clear hS hU hT hL hM hocc hB hb1 hR hm
  go_enter Tryd.func16, Tryd.ntmps16
  go_upto_region 3 with fail
  clear hcat1 hz1 hz0 hno1 hno2
  go_loopw [6] (fun v6 wr => ∃ i : Nat, v6 = .int .i64 (i : Int) ∧ i ≤ L + 1 ∧ (∀ j, j < i → j + M ≤ L → ((a.drop j).take (u.length + 2) == 32 :: (u ++ [32])) = false) ∧ wr = w) (fun v6 _ => L + 2 - (intOf v6).toNat)
  case atStart => exact ⟨0, rfl, Nat.zero_le _, fun j hj => absurd hj (Nat.not_lt_zero _), rfl⟩
  case round =>
    obtain ⟨i, rfl, hi, hno, rfl⟩ := hrel
    have HNO := Lib.hid hno
    clear hno
    by_cases hin : i + M ≤ L
    · have hinI : (i : Int) + (M : Int) ≤ (L : Int) := by omega
      have hoc := HOC.out i hin
      cases ho : ((a.drop i).take (u.length + 2) == 32 :: (u ++ [32])) with
      | true =>
        rw [ho] at hoc
        have HRT : Hid (R = true) := Lib.hid (by
          rw [HR.out, inM_iff]
          exact ⟨i, by have := HM.out; have := HL.out; omega, beq_iff_eq.1 ho⟩)
        clear ho
        go_wp2_with fail
        go_ret
        rw [HRT.out]
        exact ⟨rfl, rfl⟩
      | false =>
        rw [ho] at hoc
        have HN2 : Hid (∀ j, j < i + 1 → j + M ≤ L → ((a.drop j).take (u.length + 2) == 32 :: (u ++ [32])) = false) := Lib.hid (fun j hj hjm => by
          rcases Nat.lt_or_ge j i with h | h
          · exact HNO.out j h hjm
          · obtain rfl : j = i := by omega
            exact ho)
        clear ho
        go_wp2_with fail
        go_roundw
        case rel => exact ⟨i + 1, by go_num, by omega, HN2.out, trivial⟩
        case measure => first | (simp [intOf]; done) | (simp [intOf]; omega)
    · have hinI : ¬ ((i : Int) + (M : Int) ≤ (L : Int)) := by omega
      have HRF : Hid (R = false) := Lib.hid (by
        rw [HR.out]
        cases hq : inM a u with
        | false => rfl
        | true =>
          obtain ⟨j, h1, h2⟩ := (inM_iff a u).1 hq
          have h3 := HNO.out j (by have := HM.out; have := HL.out; omega) (by have := HM.out; have := HL.out; omega)
          rw [h2] at h3; simp at h3)
      go_wp2_with fail
      go_ret
      rw [HRF.out]
      exact ⟨rfl, rfl⟩
end Go.Proofs.YtjfgopihfgljmaaDoor
