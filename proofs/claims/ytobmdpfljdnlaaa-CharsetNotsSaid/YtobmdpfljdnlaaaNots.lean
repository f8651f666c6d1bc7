/-
  CharsetNots: the walk. No conditions.
-/
import Derived.Test.YtobmdpfljdnlaaaLaws
import Derived.Test.YtobmdpfljdnlaaaNotsLaw
namespace Go.Proofs.Ytobmdpfljdnlaaa
open Go.RowKit Go.ChangeShapes Go.WideShapes Go.ChangeAt Go.Deep
set_option linter.unusedVariables false
set_option linter.unusedSimpArgs false

theorem u8parts_ : ∃ i, Try.prog.info? 5 = some i ∧ i.zero = some (.int .u8 0) ∧ i.size = 1 ∧ i.bytes = 1 := info_parts (by kernel_rfl)
theorem sep_two (w : World) (R : S4) : At ((w.alloc (.cells R.cells 25)).alloc (.cells #[.int .u8 91, .int .u8 94] 5)) (some ⟨w.heap.size + 1, 0, none⟩) (byteVals [91, 94]) := by
  have h := At.of_bk (n := 2) (xs := byteVals [91, 94]) (Bk.new (w.alloc (.cells R.cells 25)) 5 #[.int .u8 91, .int .u8 94]) (by simp [byteVals])
  simpa using h
theorem two_len {bs : List UInt8} (h : 1 ≤ bs.length) : 2 + (bs.length - 1) = (91 :: 94 :: bs.drop 1 : List UInt8).length := by simp; omega
theorem two_cut {w : World} {X : Option Addr} {bs : List UInt8} {n : Nat} (hn : bs.length ≤ n) (h : At w X (((byteVals bs).drop 1).take (n - 1))) : At w X (byteVals (bs.drop 1)) := by
  have e : ((byteVals bs).drop 1).take (n - 1) = byteVals (bs.drop 1) := by
    rw [List.take_of_length_le (by simp [byteVals]; omega)]
    simp [byteVals, List.map_drop]
  rw [e] at h; exact h
theorem brkL_le {bs : List UInt8} {first : Nat} : ∀ (k nx : Nat) (S R : S4) (n : Nat), S.ok → nx ≤ bs.length + 1 → brkL bs first k nx S = .ok (R, n) → R.ok ∧ n ≤ bs.length + 1 := by
  intro k
  induction k with
  | zero => intro nx S R n hS hn h; unfold brkL at h; injection h with h; injection h with h1 h2; subst h1 h2; exact ⟨hS, hn⟩
  | succ k ih =>
    intro nx S R n hS hn h
    unfold brkL at h
    split at h
    · cases hm : memberS bs nx with
      | error p => rw [hm] at h; cases h
      | ok q =>
        obtain ⟨M, m⟩ := q
        rw [hm] at h
        obtain ⟨h1, h2, h3⟩ := memberS_ok hm
        exact ih m _ R n (S4.or_ok hS h1) (by omega) h
    · injection h with h; injection h with h1 h2; subst h1 h2; exact ⟨hS, hn⟩
theorem brkE_le {bs : List UInt8} {neg : Bool} {i : Nat} {r : Except (Nat × Nat) (S4 × Nat)} {R : S4} {n : Nat} (h : brkE neg i r = .ok (R, n)) (hr : ∀ R n, r = .ok (R, n) → R.ok ∧ n ≤ bs.length + 1) : R.ok ∧ n ≤ bs.length + 2 := by
  cases r with
  | error p => cases h
  | ok q =>
    obtain ⟨M, m⟩ := q
    obtain ⟨h1, h2⟩ := hr M m rfl
    unfold brkE at h
    injection h with h; injection h with e1 e2
    subst e1 e2
    refine ⟨?_, by omega⟩
    cases neg
    · exact h1
    · exact S4.not_ok M
theorem bracket_le {bs : List UInt8} {R : S4} {n : Nat} (h : bracketS bs 0 = .ok (R, n)) : R.ok ∧ n ≤ bs.length + 2 := by
  unfold bracketS at h
  split at h
  · exact brkE_le h fun R n => brkL_le _ _ _ R n S4.empty_ok (by omega)
  · exact brkE_le h fun R n => brkL_le _ _ _ R n S4.empty_ok (by omega)
set_option maxRecDepth 100000 in
set_option maxHeartbeats 4000000 in
theorem nots_walk {w : World} {A : Option Addr} {bs : List UInt8} {c : Nat} (hg : GlobOk w) (hB : Bytes w A bs) (hc : bs.length ≤ c) (hA : A = none → c = 0) (hcm : c ≤ maxLen) :
    Calls Try.prog 5 #[.slice A bs.length c] w fun e w' => e = .returned (.bool true) ∧ Fr [] w w' := by
  obtain ⟨i0, hi0, hz0, hz1, hz2⟩ := u8parts_
  have HAN := Lib.hid hA; clear hA
  go_enter Try.func5, Try.ntmps5
  go_wp2_with fail
  go_at_call 8
  refine (awake_any hg).mono ?_
  rintro e w1 ⟨rfl, hf1⟩
  have HG1 := Lib.hid (hg.fr hf1)
  have HB1 : Hid (Bytes w1 A bs) := Lib.hid (hB.fr_nil hf1)
  have HF1 := Lib.hid hf1
  clear hg hB hf1
  by_cases hbig : 200 < bs.length
  · go_wp2_with fail
    go_ret
    exact ⟨rfl, HF1.out⟩
  by_cases hsm : bs.length < 2
  · go_wp2_with fail
    go_ret
    exact ⟨rfl, HF1.out⟩
  obtain ⟨b, off, rfl, hb, hcell⟩ := byte_at HB1.out (i := 0) (by omega)
  have c0 := hcell 0 (by omega)
  have c1 := hcell 1 (by omega)
  clear hcell
  simp only [Nat.add_zero] at c0
  have b0 := bn_lt bs 0
  have b1 := bn_lt bs 1
  have d1 : decide ((200 : Int) < (bs.length : Int)) = false := by simp; omega
  have d2 : decide ((bs.length : Int) < 2) = false := by simp; omega
  by_cases g0 : (bn bs 0 : Int) ≠ 91
  · have d3 : ((bn bs 0 : Int) != 91) = true := by simpa using g0
    go_wp2_with fail
    go_ret
    exact ⟨rfl, HF1.out⟩
  have g0 : (bn bs 0 : Int) = 91 := by omega
  rw [g0] at c0
  by_cases g1 : (bn bs 1 : Int) = 94
  · rw [g1] at c1
    go_wp2_with fail
    go_ret
    exact ⟨rfl, HF1.out⟩
  · have d4 : ((bn bs 1 : Int) == 94) = false := by simpa using g1
    have e0 : bn bs 0 = 91 := by omega
    have e1 : bn bs 1 ≠ 94 := by omega
    have hlaw := nots_law (bs := bs) (by omega) e1
    have HL := Lib.hid hlaw; have H0 := Lib.hid e0; have HC := Lib.hid hc; have HCM := Lib.hid hcm
    clear hlaw e0 e1 
    go_wp2_with fail
    clear g0 g1 b0 b1 c0 c1 d1 d2 d4
    go_at_call 18
    refine (bracket_any HB1.out 0 (by omega) (by omega) HC.out HAN.out HCM.out HG1.out H0.out).mono ?_
    rintro e w2 hp
    cases hr : bracketS bs 0 with
    | error q =>
      obtain ⟨p, cc⟩ := q
      rw [hr] at hp
      rw [hr] at HL
      obtain ⟨v, rfl, hv, hf2⟩ := hp
      have HF2 := Lib.hid (HF1.out.trans hf2)
      have HB2 : Hid (Bytes w2 (some ⟨b, off, none⟩) bs) := Lib.hid (HB1.out.fr_nil hf2)
      have HG2 := Lib.hid (HG1.out.fr hf2)
      obtain ⟨fg, rfl, hfb⟩ := hv
      clear hf2 HB1 HG1 HF1 hfb
      unfold S4.val
      go_wp2_with (first
        | (refine wpList_same rfl 38 (.tmp 38) rfl 5 Try.underlying38 Try.underlying5 ⟨w2.heap.size + 1, 0, none⟩ 2 2 (by first | rfl | (simp [Act.eval]; done)) (byteVals [91, 94]) (sep_two w2 S4.empty) ?_; intro w3 hS hF1; have HF3 : Hid (Fr [] w2 w3) := Lib.hid (((Fr.refl [] w2).alloc _).trans (((Fr.refl [] _).alloc _).trans' hF1 (by simp))); have HK3 := Lib.hid (Fr.trans' ((Fr.refl [] _).alloc _) hF1 (by simp)); have HS3 := Lib.hid hS; have HB3 := Lib.hid (HB2.out.fr_nil HF3.out); clear hS hF1)
        | (refine wpList_cut rfl 38 (.tmp 40) (some (.const (.int .i64 1))) none none rfl 5 i0 Try.underlying38 hi0 hz1 (some ⟨b, off, none⟩) bs.length c rfl (byteVals bs) HB3.out (byteVals_length _) HC.out HAN.out 1 bs.length c (.inr (by first | rfl | (simp [Act.eval]; done))) (.inl ⟨rfl, rfl, rfl⟩) (.inl ⟨rfl, rfl⟩) (by omega) HC.out (by omega) (by omega) ?_; intro X hX hX0 hX1; have HX := Lib.hid (two_cut (Nat.le_refl _) hX); clear hX hX0 hX1)
        | (at_builtin; refine wpList_append_full rfl (.tmp 39) (.tmp 41) 38 rfl 5 i0 _ Try.underlying38 hi0 hz0 hz1 rfl (some ⟨w2.heap.size + 1, 0, none⟩) X 2 (bs.length - 1) (c - 1) (by first | rfl | (simp [Act.eval]; done)) (by first | rfl | (simp [Act.eval]; done)) (byteVals [91, 94]) (byteVals (bs.drop 1)) HS3.out (by simp [byteVals]) HX.out (by simp [byteVals]) (fun h => by cases h) (by rw [hz2]; omega) (by unfold maxLen; omega) ?_; intro A5 c5 w5 hat hle hmx hnil hfr hwh; rw [← byteVals_append] at hat; have HAT := Lib.hid hat; have HF5 := Lib.hid hfr; have HNIL := Lib.hid hnil; clear hat hfr hnil hwh))
      go_at_call 18
      rw [two_len (bs := bs) (by omega)]
      refine (bracket_any (bs := 91 :: 94 :: bs.drop 1) HAT.out 0 (by simp; omega) (by simp) (by simp; omega) HNIL.out hmx (HG2.out.fr (HF3.out.trans HF5.out)) (by simp [bn])).mono ?_
      rintro e w6 hp2
      rw [HL.out] at hp2
      obtain ⟨v6, rfl, ⟨fg6, rfl, hfb6⟩, hf6⟩ := hp2
      have HFF := Lib.hid (((HF2.out.trans HF3.out).trans HF5.out).trans hf6)
      clear hf6 hfb6 HS3 HB3 HX HAT HNIL HB2 HG2 HF2 HF3 HF5 HK3
      unfold S4.val
      go_wp2_with fail
      go_ret
      exact ⟨rfl, HFF.out.alloc _⟩
    | ok q =>
      obtain ⟨R, n⟩ := q
      rw [hr] at hp
      rw [hr] at HL
      obtain ⟨rfl, hf2⟩ := hp
      have HF2 := Lib.hid (HF1.out.trans hf2)
      have HB2 : Hid (Bytes w2 (some ⟨b, off, none⟩) bs) := Lib.hid (HB1.out.fr_nil hf2)
      have HG2 := Lib.hid (HG1.out.fr hf2)
      clear hf2 HB1 HG1 HF1
      unfold S4.val
      go_wp2_with (first
        | (refine wpList_same rfl 38 (.tmp 38) rfl 5 Try.underlying38 Try.underlying5 ⟨w2.heap.size + 1, 0, none⟩ 2 2 (by first | rfl | (simp [Act.eval]; done)) (byteVals [91, 94]) (sep_two w2 R) ?_; intro w3 hS hF1; have HF3 : Hid (Fr [] w2 w3) := Lib.hid (((Fr.refl [] w2).alloc _).trans (((Fr.refl [] _).alloc _).trans' hF1 (by simp))); have HK3 := Lib.hid (Fr.trans' ((Fr.refl [] _).alloc _) hF1 (by simp)); have HS3 := Lib.hid hS; have HB3 := Lib.hid (HB2.out.fr_nil HF3.out); clear hS hF1)
        | (refine wpList_cut rfl 38 (.tmp 40) (some (.const (.int .i64 1))) none none rfl 5 i0 Try.underlying38 hi0 hz1 (some ⟨b, off, none⟩) bs.length c rfl (byteVals bs) HB3.out (byteVals_length _) HC.out HAN.out 1 bs.length c (.inr (by first | rfl | (simp [Act.eval]; done))) (.inl ⟨rfl, rfl, rfl⟩) (.inl ⟨rfl, rfl⟩) (by omega) HC.out (by omega) (by omega) ?_; intro X hX hX0 hX1; have HX := Lib.hid (two_cut (Nat.le_refl _) hX); clear hX hX0 hX1)
        | (at_builtin; refine wpList_append_full rfl (.tmp 39) (.tmp 41) 38 rfl 5 i0 _ Try.underlying38 hi0 hz0 hz1 rfl (some ⟨w2.heap.size + 1, 0, none⟩) X 2 (bs.length - 1) (c - 1) (by first | rfl | (simp [Act.eval]; done)) (by first | rfl | (simp [Act.eval]; done)) (byteVals [91, 94]) (byteVals (bs.drop 1)) HS3.out (by simp [byteVals]) HX.out (by simp [byteVals]) (fun h => by cases h) (by rw [hz2]; omega) (by unfold maxLen; omega) ?_; intro A5 c5 w5 hat hle hmx hnil hfr hwh; rw [← byteVals_append] at hat; have HAT := Lib.hid hat; have HF5 := Lib.hid hfr; have HNIL := Lib.hid hnil; clear hat hfr hnil hwh))
      go_at_call 18
      rw [two_len (bs := bs) (by omega)]
      refine (bracket_any (bs := 91 :: 94 :: bs.drop 1) HAT.out 0 (by simp; omega) (by simp) (by simp; omega) HNIL.out hmx (HG2.out.fr (HF3.out.trans HF5.out)) (by simp [bn])).mono ?_
      rintro e w6 hp2
      rw [HL.out] at hp2
      obtain ⟨rfl, hf6⟩ := hp2
      have hK1 : Bk w6 w2.heap.size 25 R.cells := (((Bk.new w2 _ _).fr HK3.out (by simp)).fr HF5.out (by simp)).fr hf6 (by simp)
      have HK := Lib.hid (show KeepL w w6 [(w2.heap.size, R)] from ⟨fun p hp => by rw [List.mem_singleton.1 hp]; exact hK1, ((HF2.out.trans HF3.out).trans HF5.out).trans hf6⟩)
      clear hf6 hK1 HS3 HB3 HX HAT HNIL HB2 HG2
      unfold S4.val
      have ⟨okR, hnb⟩ := bracket_le hr
      have hwn : IntKind.i64.wrap ((n : Int) + 1) = (n : Int) + 1 := by rw [IntKind.wrap_i64]; omega
      have q1 := fun V => eqSelf R.not V
      go_wp2_with fail
      refine wp_region_nice_all (fun a b => Fr [] a b) (fun W => KeepL w W [(w2.heap.size, R), (w6.heap.size, R.not)]) (by kernel_rfl) (fun w => Fr.refl [] w) (fun a b c h k => h.trans k) (fun a b h k => h.fr k) (by kernel_rfl) (by kernel_rfl) (by kernel_rfl) (fun _ _ d _ _ h => by cases d <;> exact h) (((HK.out.fr ((Fr.refl [] w6).alloc _)).snoc (Bk.new w6 _ _)).drew) ?_
      refine nice_move _ rfl rfl ?_
      simp only [Act.put, Act.eval, List.setIfInBounds_toArray, List.set_cons_zero, List.set_cons_succ, List.getElem?_toArray, List.getElem?_cons_zero, List.getElem?_cons_succ, Option.getD_some]
      refine nice_val (v := .bool true) rfl (fun W hS => ?_) ?_
      · go_simp
        first | done | rfl
      simp only [Act.put, List.setIfInBounds_toArray, List.set_cons_zero, List.set_cons_succ]
      refine nice_move _ rfl rfl ?_
      simp only [Act.put, Act.eval, List.setIfInBounds_toArray, List.set_cons_zero, List.set_cons_succ, List.getElem?_toArray, List.getElem?_cons_zero, List.getElem?_cons_succ, Option.getD_some]
      refine nice_move _ rfl rfl ?_
      simp only [Act.put, Act.eval, List.setIfInBounds_toArray, List.set_cons_zero, List.set_cons_succ, List.getElem?_toArray, List.getElem?_cons_zero, List.getElem?_cons_succ, Option.getD_some]
      refine nice_move _ rfl rfl ?_
      simp only [Act.put, Act.eval, List.setIfInBounds_toArray, List.set_cons_zero, List.set_cons_succ, List.getElem?_toArray, List.getElem?_cons_zero, List.getElem?_cons_succ, Option.getD_some]
      refine nice_val (v := .int .i64 ((n : Int) + 1)) rfl (fun W hS => ?_) ?_
      · go_simp
        first | done | rfl
      simp only [Act.put, List.setIfInBounds_toArray, List.set_cons_zero, List.set_cons_succ]
      refine nice_val (v := .bool true) rfl (fun W hS => ?_) ?_
      · go_simp
        first | done | rfl
      simp only [Act.put, List.setIfInBounds_toArray, List.set_cons_zero, List.set_cons_succ]
      refine nice_val (v := ?_) rfl (fun W hS => ?_) ?_
      rotate_left
      · go_simp
        first | done | rfl
      simp only [Act.put, List.setIfInBounds_toArray, List.set_cons_zero, List.set_cons_succ]
      refine nice_move _ rfl rfl ?_
      simp only [Act.put, Act.eval, List.setIfInBounds_toArray, List.set_cons_zero, List.set_cons_succ, List.getElem?_toArray, List.getElem?_cons_zero, List.getElem?_cons_succ, Option.getD_some]
      refine nice_val (v := S4.val R.not) rfl (fun W hS => ?_) ?_
      · obtain ⟨c0, c1, c2, c3⟩ := hS.c (g := w6.heap.size) (R := R.not) (by simp)
        go_simp
        rfl
      simp only [Act.put, List.setIfInBounds_toArray, List.set_cons_zero, List.set_cons_succ]
      refine nice_val (v := S4.val R) rfl (fun W hS => ?_) ?_
      · obtain ⟨c0, c1, c2, c3⟩ := hS.c (g := w2.heap.size) (R := R) (by simp)
        go_simp
        rfl
      simp only [Act.put, List.setIfInBounds_toArray, List.set_cons_zero, List.set_cons_succ]
      refine nice_call rfl (fun W hS => not_any R W okR) (fun W => ?_) ?_
      · go_simp
        first | done | rfl
      simp only [Act.put, List.setIfInBounds_toArray, List.set_cons_zero, List.set_cons_succ]
      refine nice_val (v := .bool true) rfl (fun W hS => ?_) ?_
      · unfold S4.val
        go_simp
      simp only [Act.put, List.setIfInBounds_toArray, List.set_cons_zero, List.set_cons_succ]
      refine nice_val (v := ?_) rfl (fun W hS => ?_) ?_
      rotate_left
      · go_simp
        first | done | rfl
      simp only [Act.put, List.setIfInBounds_toArray, List.set_cons_zero, List.set_cons_succ]
      refine nice_val (v := ?_) rfl (fun W hS => ?_) ?_
      rotate_left
      · go_simp
        first | done | rfl
      simp only [Act.put, List.setIfInBounds_toArray, List.set_cons_zero, List.set_cons_succ]
      refine nice_nil ?_
      intro w7 hL7 _
      have HL7 := Lib.hid hL7; clear hL7
      go_wp2_with fail
      go_ret
      exact ⟨rfl, HL7.out.2⟩

theorem charsetNots_open {H : Type} {enc : TypeId × Value → H} (W : World) (base : Nat) (v0 : Value) (d0 : DataW H) (p0 : List MemPlace) (k0 : Value.okWide Try.prog W .any base 38 v0) (h0 : DataW.Trod enc Try.prog W 0 (fun _ => true) true 38 v0 d0 p0) (hg : GlobOk W) :
    Calls Try.prog 5 #[v0] W fun e W' => e = .returned (.bool true) ∧ Below W.heap.size W W' := by
  obtain ⟨A, len, cap, rfl⟩ := okWide_slice Try.underlying38 k0
  obtain ⟨A', cap', bs, h1, h2, h3, h4, h5⟩ := (Rd.of_trod h0).bytes_ Try.underlying38 Try.underlying5 (by kernel_rfl)
  simp [Value.cells] at h1
  obtain ⟨rfl, rfl, rfl⟩ := h1
  exact (nots_walk hg h5 h2 h4 h3).mono fun e W' ⟨h1, h2⟩ => ⟨h1, h2.below_nil⟩
end Go.Proofs.Ytobmdpfljdnlaaa
