/-
  Wd7, Wd8: several small texts in one. No conditions.
-/
import Derived.Test.YteofhjegaaoglaaGwA
import Derived.Lib.IndexLaws
namespace Go.Proofs.Yteofhjegaaoglaa
open Go.RowKit
set_option linter.unusedVariables false
set_option linter.unusedSimpArgs false

section
open Go.Lib
theorem sub_first (s : List UInt8) (k : Nat) : subM s 1 (k : Int) false = s.take k := by
  unfold subM behM
  simp only [Bool.false_eq_true, if_false, true_and]
  by_cases h : (k : Int) ≤ 0 ∨ min ((s.length : Int) + 1) (1 + (k : Int)) ≤ max 1 1
  · rw [if_pos h]
    rcases h with h | h
    · have : k = 0 := by omega
      subst this; simp
    · have : k = 0 ∨ s.length = 0 := by omega
      rcases this with h1 | h1
      · subst h1; simp
      · rw [List.eq_nil_of_length_eq_zero h1]; simp
  · rw [if_neg h]
    have e1 : (max (1 : Int) 1 - 1).toNat = 0 := by omega
    have e2 : (min ((s.length : Int) + 1) (1 + (k : Int)) - max 1 1).toNat = min s.length k := by omega
    rw [e1, e2, List.drop_zero]
    rcases Nat.le_total s.length k with h2 | h2
    · rw [Nat.min_eq_left h2, List.take_of_length_le (Nat.le_refl _), List.take_of_length_le h2]
    · rw [Nat.min_eq_right h2]
theorem sub_rest (s : List UInt8) (k : Nat) (ct : Int) : subM s ((k : Int) + 1) ct true = s.drop k := by
  unfold subM behM
  simp only [Bool.true_eq_false, false_and, false_or, if_true]
  by_cases h : (s.length : Int) + 1 ≤ max ((k : Int) + 1) 1
  · rw [if_pos h, List.drop_of_length_le (by omega)]
  · rw [if_neg h]
    have e1 : (max ((k : Int) + 1) 1 - 1).toNat = k := by omega
    have e2 : ((s.length : Int) + 1 - max ((k : Int) + 1) 1).toNat = (s.drop k).length := by rw [List.length_drop]; omega
    rw [e1, e2, List.take_length]
theorem halves_ok (s : List UInt8) (k : Nat) : subM s 1 (k : Int) false ++ subM s ((k : Int) + 1) 0 true = s := by
  rw [sub_first, sub_rest, List.take_append_drop]
theorem sub_mid (s : List UInt8) (k n : Nat) (h : k + n ≤ s.length) : subM s ((k : Int) + 1) (n : Int) false = (s.drop k).take n := by
  unfold subM behM
  simp only [Bool.false_eq_true, if_false, true_and]
  by_cases h0 : (n : Int) ≤ 0 ∨ min ((s.length : Int) + 1) ((k : Int) + 1 + (n : Int)) ≤ max ((k : Int) + 1) 1
  · rw [if_pos h0]
    have : n = 0 := by omega
    subst this; simp
  · rw [if_neg h0]
    have e1 : (max ((k : Int) + 1) 1 - 1).toNat = k := by omega
    have e2 : (min ((s.length : Int) + 1) ((k : Int) + 1 + (n : Int)) - max ((k : Int) + 1) 1).toNat = n := by omega
    rw [e1, e2]
theorem sub_none (s : List UInt8) (fr ct : Int) (h : ct ≤ 0) : subM s fr ct false = [] := by
  unfold subM
  rw [if_pos (.inl ⟨rfl, h⟩)]
theorem occ_take {s sub : List UInt8} {k : Nat} (h : occAt s sub k = true) (hk : k ≤ s.length) : k + sub.length ≤ s.length ∧ (s.drop k).take sub.length = sub := by
  unfold occAt at h
  obtain ⟨r, hr⟩ := List.isPrefixOf_iff_prefix.1 h
  have hl : (s.drop k).length = sub.length + r.length := by rw [← hr, List.length_append]
  rw [List.length_drop] at hl
  refine ⟨by omega, ?_⟩
  rw [← hr, List.take_left]
theorem there_none {s t : List UInt8} (h : index s t = -1) : index (t ++ s) t = 0 ∧ t ≠ s := by
  refine ⟨index_first (i := 0) (Nat.zero_le _) (by simp [occAt, List.isPrefixOf_iff_prefix]) (fun _ h => absurd h (Nat.not_lt_zero _)), ?_⟩
  rintro rfl
  rw [index_self] at h
  cases h
theorem there_some {s t : List UInt8} {k : Nat} (h : index s t = (k : Int)) : k + t.length ≤ s.length ∧ subM s ((k : Int) + 1) (t.length : Int) false = t ∧ (t ≠ [] → index (subM s 1 ((k : Int) + (t.length : Int) - 1) false) t = -1) := by
  rcases index_spec s t with ⟨h1, -⟩ | ⟨i, h1, h2, h3, h4⟩
  · rw [h] at h1; omega
  have hik : i = k := by rw [h] at h1; omega
  subst hik
  obtain ⟨h5, h6⟩ := occ_take h3 h2
  refine ⟨h5, by rw [sub_mid s i t.length h5, h6], fun hne => ?_⟩
  have hl : 0 < t.length := List.length_pos_iff.2 hne
  have e : (i : Int) + (t.length : Int) - 1 = ((i + t.length - 1 : Nat) : Int) := by omega
  rw [e, sub_first]
  refine index_none fun j hj => ?_
  by_cases ho : occAt (s.take (i + t.length - 1)) t j = true
  · exfalso
    obtain ⟨g1, g2⟩ := occ_take ho hj
    rw [List.length_take] at g1 hj
    have hji : j < i := by omega
    have : occAt s t j = true := by
      rw [occAt_iff_take s t j (by omega), beq_iff_eq]
      rw [List.drop_take, List.take_take] at g2
      rw [Nat.min_eq_left (by omega)] at g2
      exact g2
    rw [h4 j hji] at this; cases this
  · simpa using ho
end
def AwakeOk : Prop := ∀ w : World, GlobOk w → Calls Try.prog 7 #[] w fun e w' => e = .returned (.bool true) ∧ Fr [] w w'
theorem ba_beq (a : ByteArray) : (a == a) = true := by
  cases a with
  | mk d => show (d == d) = true; exact beq_self_eq_true d
set_option maxRecDepth 100000 in
set_option maxHeartbeats 2000000 in
theorem halves_walk (ha : AwakeOk) {w : World} (s : List UInt8) (n : Nat) (hn : n < 256) (hg : GlobOk w) :
    Calls Try.prog 6 #[.string ⟨s.toArray⟩, .int .u8 (n : Int)] w fun e w' => e = .returned (.bool true) ∧ Fr [] w w' := by
  have HAW := Lib.hid (ha w hg)
  obtain ⟨S, hS⟩ : ∃ S, S = (⟨s.toArray⟩ : ByteArray) := ⟨_, rfl⟩
  obtain ⟨L, hL⟩ : ∃ L, L = s.length := ⟨_, rfl⟩
  have hs1 : S.size = L := by rw [hS, hL]; simp [ByteArray.size]
  rw [← hS]
  by_cases h200 : 200 < L
  · have hI : (200 : Int) < (L : Int) := by omega
    clear hS hL hg ha
    go_enter Try.func6, Try.ntmps6
    go_wp2_with (go_at_call 7; refine HAW.out.mono ?_; rintro e w1 ⟨rfl, hf⟩; have HX := Lib.hid hf; clear hf)
    go_ret
    exact ⟨rfl, HX.out⟩
  · have hI : ¬ ((200 : Int) < (L : Int)) := by omega
    obtain ⟨U, hU⟩ : ∃ U, U = (⟨(upM s).toArray⟩ : ByteArray) := ⟨_, rfl⟩
    obtain ⟨V, hV⟩ : ∃ V, V = (⟨(loM s).toArray⟩ : ByteArray) := ⟨_, rfl⟩
    obtain ⟨up, hup⟩ : ∃ up : ByteArray → ByteArray, ∀ t : List UInt8, up ⟨t.toArray⟩ = ⟨(upM t).toArray⟩ := ⟨fun x => ⟨(upM x.data.toList).toArray⟩, fun t => rfl⟩
    obtain ⟨lo, hlo⟩ : ∃ lo : ByteArray → ByteArray, ∀ t : List UInt8, lo ⟨t.toArray⟩ = ⟨(loM t).toArray⟩ := ⟨fun x => ⟨(loM x.data.toList).toArray⟩, fun t => rfl⟩
    obtain ⟨sb, hsb⟩ : ∃ sb : ByteArray → Int → Int → Bool → ByteArray, ∀ (t : List UInt8) a b c, sb ⟨t.toArray⟩ a b c = ⟨(subM t a b c).toArray⟩ := ⟨fun x a b c => ⟨(subM x.data.toList a b c).toArray⟩, fun t a b c => rfl⟩
    obtain ⟨S1, hS1⟩ : ∃ S1, S1 = (⟨(subM s 1 (n : Int) false).toArray⟩ : ByteArray) := ⟨_, rfl⟩
    obtain ⟨S2, hS2⟩ : ∃ S2, S2 = (⟨(subM s ((n : Int) + 1) 0 true).toArray⟩ : ByteArray) := ⟨_, rfl⟩
    have hcat : S1 ++ S2 = S := by rw [hS1, hS2, ba_append, halves_ok, hS]
    have hnov : ¬ 9223372036854775807 < S1.size + S2.size := by
      rw [← ByteArray.size_append, hcat, hs1]; omega
    have hus : U.size = L := by rw [hU, hL, ← up_len s]; simp [ByteArray.size]
    have q1 : up S = U := by rw [hS, hU, hup]
    have q2 : up U = U := by rw [hU, hup, up_up]
    have q3 : lo U = V := by rw [hU, hV, hlo, lo_up]
    have q4 : lo S = V := by rw [hS, hV, hlo]
    have q5 : sb S 1 (n : Int) false = S1 := by rw [hS, hS1, hsb]
    have q6 : sb S ((n : Int) + 1) 0 true = S2 := by rw [hS, hS2, hsb]
    have hUP : ∀ (x : ByteArray) (W : World), x.size ≤ 1000 → Calls Try.prog 12 #[.string x] W fun e w' => e = .returned (.string (up x)) ∧ Fr [] W w' := fun x W hx => by
      obtain ⟨t, rfl⟩ : ∃ t : List UInt8, x = ⟨t.toArray⟩ := ⟨x.data.toList, ba_of x⟩
      rw [hup]; exact upper_any W t (by simp [ByteArray.size] at hx; omega)
    have hLO : ∀ (x : ByteArray) (W : World), x.size ≤ 1000 → Calls Try.prog 14 #[.string x] W fun e w' => e = .returned (.string (lo x)) ∧ Fr [] W w' := fun x W hx => by
      obtain ⟨t, rfl⟩ : ∃ t : List UInt8, x = ⟨t.toArray⟩ := ⟨x.data.toList, ba_of x⟩
      rw [hlo]; exact lower_any W t (by simp [ByteArray.size] at hx; omega)
    have hSB : ∀ (x : ByteArray) (W : World) (a b : Int) (c : Bool), x.size ≤ 1000 → (-1000 ≤ a ∧ a ≤ 1000) → (-1000 ≤ b ∧ b ≤ 1000) → Calls Try.prog 9 #[.string x, .int .i64 a, .int .i64 b, .bool c] W fun e w' => e = .returned (.string (sb x a b c)) ∧ W = w' := fun x W a b c hx h1 h2 => by
      obtain ⟨t, rfl⟩ : ∃ t : List UInt8, x = ⟨t.toArray⟩ := ⟨x.data.toList, ba_of x⟩
      rw [hsb]; exact substr_any W t a b (by omega) (by omega) (by simp [ByteArray.size] at hx; omega) c
    have eS := ba_beq S; have eU := ba_beq U; have eV := ba_beq V
    have HUP := Lib.hid hUP; have HLO := Lib.hid hLO; have HSB := Lib.hid hSB
    have hS1k : S.size ≤ 1000 := by omega
    have hU1k : U.size ≤ 1000 := by omega
    clear hS hL hU hV hS1 hS2 hg ha hup hlo hsb hUP hLO hSB
    go_enter Try.func6, Try.ntmps6
    go_upto_region 3 with (go_at_call 7; refine HAW.out.mono ?_; rintro e w1 ⟨rfl, hf⟩; have HX := Lib.hid hf; clear hf)
    go_wp2_with (first
      | (go_at_call 9; refine (HSB.out _ _ _ _ _ (by first | exact hS1k | exact hU1k) (by omega) (by omega)).mono ?_; rintro e w2 ⟨rfl, rfl⟩; simp only [q5, q6])
      | (go_at_call 12; refine (HUP.out _ _ (by first | exact hS1k | exact hU1k)).mono ?_; rintro e w2 ⟨rfl, hf⟩; have HX := Lib.hid (HX.out.trans hf); clear hf; simp only [q1, q2])
      | (go_at_call 14; refine (HLO.out _ _ (by first | exact hS1k | exact hU1k)).mono ?_; rintro e w2 ⟨rfl, hf⟩; have HX := Lib.hid (HX.out.trans hf); clear hf; simp only [q3, q4]))
    go_ret
    exact ⟨rfl, HX.out⟩
end Go.Proofs.Yteofhjegaaoglaa
namespace Go.Proofs.Yteofhjegaaoglaa
open Go.RowKit
set_option linter.unusedVariables false
set_option linter.unusedSimpArgs false

set_option maxRecDepth 100000 in
set_option maxHeartbeats 2000000 in
theorem there_walk (ha : AwakeOk) {w : World} (s t : List UInt8) (hg : GlobOk w) :
    Calls Try.prog 3 #[.string ⟨s.toArray⟩, .string ⟨t.toArray⟩] w fun e w' => e = .returned (.bool true) ∧ Fr [] w w' := by
  have HAW := Lib.hid (ha w hg)
  obtain ⟨S, hS⟩ : ∃ S, S = (⟨s.toArray⟩ : ByteArray) := ⟨_, rfl⟩
  obtain ⟨T, hT⟩ : ∃ T, T = (⟨t.toArray⟩ : ByteArray) := ⟨_, rfl⟩
  obtain ⟨L, hL⟩ : ∃ L, L = s.length := ⟨_, rfl⟩
  obtain ⟨M, hM⟩ : ∃ M, M = t.length := ⟨_, rfl⟩
  have hs1 : S.size = L := by rw [hS, hL]; simp [ByteArray.size]
  have ht1 : T.size = M := by rw [hT, hM]; simp [ByteArray.size]
  rw [← hS, ← hT]
  by_cases h200 : 200 < L
  · have hI : (200 : Int) < (L : Int) := by omega
    clear hS hL hT hM hg ha
    go_enter Try.func3, Try.ntmps3
    go_wp2_with (go_at_call 7; refine HAW.out.mono ?_; rintro e w1 ⟨rfl, hf⟩; have HX := Lib.hid hf; clear hf)
    go_ret
    exact ⟨rfl, HX.out⟩
  have hI : ¬ ((200 : Int) < (L : Int)) := by omega
  by_cases h201 : 200 < M
  · have hJ : (200 : Int) < (M : Int) := by omega
    clear hS hL hT hM hg ha
    go_enter Try.func3, Try.ntmps3
    go_wp2_with (go_at_call 7; refine HAW.out.mono ?_; rintro e w1 ⟨rfl, hf⟩; have HX := Lib.hid hf; clear hf)
    go_ret
    exact ⟨rfl, HX.out⟩
  have hJ : ¬ ((200 : Int) < (M : Int)) := by omega
  obtain ⟨ix, hix⟩ : ∃ ix : ByteArray → ByteArray → Int, ∀ a b : List UInt8, ix ⟨a.toArray⟩ ⟨b.toArray⟩ = Lib.index a b := ⟨fun x y => Lib.index x.data.toList y.data.toList, fun a b => rfl⟩
  obtain ⟨sb, hsb⟩ : ∃ sb : ByteArray → Int → Int → Bool → ByteArray, ∀ (t : List UInt8) a b c, sb ⟨t.toArray⟩ a b c = ⟨(subM t a b c).toArray⟩ := ⟨fun x a b c => ⟨(subM x.data.toList a b c).toArray⟩, fun t a b c => rfl⟩
  have hIX : ∀ (x y : ByteArray) (W : World), x.size ≤ 1000 → GlobOk W → Calls Try.prog 8 #[.string x, .string y] W fun e w' => e = .returned (.int .i64 (ix x y + 1)) ∧ w' = W := fun x y W hx hg => by
    obtain ⟨a, rfl⟩ : ∃ t : List UInt8, x = ⟨t.toArray⟩ := ⟨x.data.toList, ba_of x⟩
    obtain ⟨b, rfl⟩ : ∃ t : List UInt8, y = ⟨t.toArray⟩ := ⟨y.data.toList, ba_of y⟩
    rw [hix]; exact widx_any W a b (by simp [ByteArray.size] at hx; omega) hg
  have hSB : ∀ (x : ByteArray) (W : World) (a b : Int) (c : Bool), x.size ≤ 1000 → (-1000 ≤ a ∧ a ≤ 1000) → (-1000 ≤ b ∧ b ≤ 1000) → Calls Try.prog 9 #[.string x, .int .i64 a, .int .i64 b, .bool c] W fun e w' => e = .returned (.string (sb x a b c)) ∧ W = w' := fun x W a b c hx h1 h2 => by
    obtain ⟨t, rfl⟩ : ∃ t : List UInt8, x = ⟨t.toArray⟩ := ⟨x.data.toList, ba_of x⟩
    rw [hsb]; exact substr_any W t a b (by omega) (by omega) (by simp [ByteArray.size] at hx; omega) c
  have HIX := Lib.hid hIX; have HSB := Lib.hid hSB; have HG := Lib.hid hg
  have hS1k : S.size ≤ 1000 := by omega
  rcases Lib.index_spec s t with ⟨hn, -⟩ | ⟨k, hk, hk1, -, -⟩
  · obtain ⟨hn1, hn2⟩ := there_none hn
    have q1 : ix S T = -1 := by rw [hS, hT, hix, hn]
    have hTS : (T ++ S).size ≤ 1000 := by rw [ByteArray.size_append]; omega
    have hnov : ¬ 9223372036854775807 < T.size + S.size := by omega
    have q2 : ix (T ++ S) T = 0 := by rw [hS, hT, ba_append, hix, hn1]
    have q3 : (T.toList == S.toList) = false := by rw [hS, hT, ByteArray.toList_mk, ByteArray.toList_mk]; exact beq_eq_false_iff_ne.2 (by simpa using hn2)
    clear hS hL hT hM hg ha hix hsb hIX hSB hn hn1 hn2
    go_enter Try.func3, Try.ntmps3
    go_upto_region 3 with (go_at_call 7; refine HAW.out.mono ?_; rintro e w1 ⟨rfl, hf⟩; have HX := Lib.hid hf; clear hf)
    go_wp2_with (go_at_call 8; refine (HIX.out _ _ _ (by first | exact hS1k | exact hTS) (HG.out.fr HX.out)).mono ?_; rintro e w2 ⟨rfl, rfl⟩; simp only [q1, q2]; simp only [Int.reduceNeg, Int.reduceAdd])
    go_ret
    exact ⟨rfl, HX.out⟩
  · obtain ⟨g1, g2, g3⟩ := there_some hk
    obtain ⟨AH, hAH⟩ : ∃ AH, AH = (⟨(subM s 1 ((k : Int) + (t.length : Int) - 1) false).toArray⟩ : ByteArray) := ⟨_, rfl⟩
    have q1 : ix S T = (k : Int) := by rw [hS, hT, hix, hk]
    have q2 : sb S 1 ((k : Int) + (M : Int) - 1) false = AH := by rw [hS, hAH, hsb, hM]
    have q3 : sb S ((k : Int) + 1) (M : Int) false = T := by rw [hS, hT, hsb, hM, g2]
    have q4 : M ≠ 0 → ix AH T = -1 := fun h0 => by
      rw [hAH, hT, hix]
      exact g3 (fun e => h0 (by rw [hM, e]; rfl))
    have hkb : k + M ≤ L := by rw [hM, hL]; exact g1
    have eT := ba_beq T
    have hAHs : AH.size ≤ 1000 := by
      rw [hAH]
      rcases Nat.eq_zero_or_pos (k + t.length) with h | h
      · rw [sub_none s 1 _ (by omega)]; simp [ByteArray.size]
      · rw [show (k : Int) + (t.length : Int) - 1 = ((k + t.length - 1 : Nat) : Int) by omega, sub_first]
        simp [ByteArray.size]; omega
    have c1 : ¬ ((k : Int) + 1 = 0) := by omega
    have c1b : ((k : Int) + 1 == 0) = false := beq_eq_false_iff_ne.2 c1
    clear hS hL hT hM hg ha hix hsb hIX hSB hk g1 g2 g3 hAH
    have q6 : sb S 1 ((k : Int) + 1 - 1 + (M : Int) - 1) false = AH := by rw [show (k : Int) + 1 - 1 + (M : Int) - 1 = (k : Int) + (M : Int) - 1 by omega, q2]
    rcases Nat.eq_zero_or_pos M with hM0 | hM0
    · have c2 : ((M : Int) == 0) = true := by rw [hM0]; rfl
      have c3 : (M : Int) = 0 := by omega
      have HM0 := Lib.hid hM0
      clear hM0 q4
      have HC3 := Lib.hid c3
      clear c3
      go_enter Try.func3, Try.ntmps3
      go_upto_region 3 with (go_at_call 7; refine HAW.out.mono ?_; rintro e w1 ⟨rfl, hf⟩; have HX := Lib.hid hf; clear hf)
      go_wp2_with (first
        | (go_at_call 8; refine (HIX.out _ _ _ (by first | exact hS1k | exact hAHs) (HG.out.fr HX.out)).mono ?_; rintro e w2 ⟨rfl, rfl⟩; simp only [q1])
        | (go_at_call 9; refine (HSB.out _ _ _ _ _ hS1k (by omega) (by omega)).mono ?_; rintro e w2 ⟨rfl, rfl⟩; simp only [q3, q6, q2]))
      go_ret
      exact ⟨rfl, HX.out⟩
    · have q5 := q4 (by omega)
      have c2 : ((M : Int) == 0) = false := beq_eq_false_iff_ne.2 (by omega)
      have c3 : ¬ ((M : Int) = 0) := by omega
      clear q4
      go_enter Try.func3, Try.ntmps3
      go_upto_region 3 with (go_at_call 7; refine HAW.out.mono ?_; rintro e w1 ⟨rfl, hf⟩; have HX := Lib.hid hf; clear hf)
      go_wp2_with (first
        | (go_at_call 8; refine (HIX.out _ _ _ (by first | exact hS1k | exact hAHs) (HG.out.fr HX.out)).mono ?_; rintro e w2 ⟨rfl, rfl⟩; simp only [q1, q5]; try simp only [Int.reduceNeg, Int.reduceAdd])
        | (go_at_call 9; refine (HSB.out _ _ _ _ _ hS1k (by omega) (by omega)).mono ?_; rintro e w2 ⟨rfl, rfl⟩; simp only [q3, q6, q2]))
      go_ret
      exact ⟨rfl, HX.out⟩
end Go.Proofs.Yteofhjegaaoglaa
