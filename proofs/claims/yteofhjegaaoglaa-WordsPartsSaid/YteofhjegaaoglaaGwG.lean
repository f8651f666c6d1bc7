/-
  WdX, WdY: several small texts in one. No conditions.
-/
import Derived.Test.YteofhjegaaoglaaGwE
import Derived.Test.YteofhjegaaoglaaGwF
namespace Go.Proofs.Yteofhjegaaoglaa
open Go.RowKit
set_option linter.unusedVariables false
set_option linter.unusedSimpArgs false

set_option maxRecDepth 100000 in
set_option maxHeartbeats 4000000 in
theorem parts7_walk {w : World} (s t : List UInt8) (fr ct : Int) (hf : -9223372036854775808 ≤ fr ∧ fr ≤ 9223372036854775807) (hc : -9223372036854775808 ≤ ct ∧ ct ≤ 9223372036854775807) (all : Bool) (hg : GlobOk w) :
    Calls Try.prog 4 #[.string ⟨s.toArray⟩, .string ⟨t.toArray⟩, .int .i64 fr, .int .i64 ct, .bool all] w fun e w' => e = .returned (.bool true) ∧ Fr [] w w' := by
  have HAW := Lib.hid (awake_ok w hg)
  obtain ⟨S, hS⟩ : ∃ S, S = (⟨s.toArray⟩ : ByteArray) := ⟨_, rfl⟩
  obtain ⟨T, hT⟩ : ∃ T, T = (⟨t.toArray⟩ : ByteArray) := ⟨_, rfl⟩
  obtain ⟨L, hL⟩ : ∃ L, L = s.length := ⟨_, rfl⟩
  obtain ⟨M, hM⟩ : ∃ M, M = t.length := ⟨_, rfl⟩
  have hs1 : S.size = L := by rw [hS, hL]; simp [ByteArray.size]
  have ht1 : T.size = M := by rw [hT, hM]; simp [ByteArray.size]
  rw [← hS, ← hT]
  by_cases h200 : 200 < L
  · have hI : (200 : Int) < (L : Int) := by omega
    clear hS hL hT hM hg hf hc
    go_enter Try.func4, Try.ntmps4
    go_wp2_with (go_at_call 7; refine HAW.out.mono ?_; rintro e w1 ⟨rfl, hf⟩; have HX := Lib.hid hf; clear hf)
    go_ret
    exact ⟨rfl, HX.out⟩
  have hI : ¬ ((200 : Int) < (L : Int)) := by omega
  by_cases h201 : 200 < M
  · have hJ : (200 : Int) < (M : Int) := by omega
    clear hS hL hT hM hg hf hc
    go_enter Try.func4, Try.ntmps4
    go_wp2_with (go_at_call 7; refine HAW.out.mono ?_; rintro e w1 ⟨rfl, hf⟩; have HX := Lib.hid hf; clear hf)
    go_ret
    exact ⟨rfl, HX.out⟩
  have hJ : ¬ ((200 : Int) < (M : Int)) := by omega
  obtain ⟨X, hX⟩ : ∃ X, X = Lib.index s t + 1 := ⟨_, rfl⟩
  obtain ⟨B, hB⟩ : ∃ B, B = (⟨(subM s fr ct all).toArray⟩ : ByteArray) := ⟨_, rfl⟩
  obtain ⟨U, hU⟩ : ∃ U, U = (⟨(upM s).toArray⟩ : ByteArray) := ⟨_, rfl⟩
  obtain ⟨V, hV⟩ : ∃ V, V = (⟨(loM s).toArray⟩ : ByteArray) := ⟨_, rfl⟩
  have hI1 : ∀ W, GlobOk W → Calls Try.prog 8 #[.string S, .string T] W fun e w' => e = .returned (.int .i64 X) ∧ w' = W := fun W hg => by
    rw [hS, hT, hX]; exact widx_any W s t (by omega) hg
  have hI2 : ∀ W, Calls Try.prog 10 #[.string S, .string T] W fun e w' => e = .returned (.int .i64 X) ∧ W = w' := fun W => by
    rw [hS, hT, hX]; exact rindex_any W s t (by omega) (by omega)
  have hB1 : ∀ W, Calls Try.prog 9 #[.string S, .int .i64 fr, .int .i64 ct, .bool all] W fun e w' => e = .returned (.string B) ∧ W = w' := fun W => by
    rw [hS, hB]; exact substr_any W s fr ct hf hc (by omega) all
  have hB2 : ∀ W, Calls Try.prog 11 #[.string S, .int .i64 fr, .int .i64 ct, .bool all] W fun e w' => e = .returned (.string B) ∧ W = w' := fun W => by
    rw [hS, hB]; exact rsub_any W s fr ct hf hc (by omega) all
  have hU1 : ∀ W, Calls Try.prog 12 #[.string S] W fun e w' => e = .returned (.string U) ∧ Fr [] W w' := fun W => by
    rw [hS, hU]; exact upper_any W s (by omega)
  have hU2 : ∀ W, Calls Try.prog 13 #[.string S] W fun e w' => e = .returned (.string U) ∧ Fr [] W w' := fun W => by
    rw [hS, hU]; exact rup_any W s (by omega)
  have hV1 : ∀ W, Calls Try.prog 14 #[.string S] W fun e w' => e = .returned (.string V) ∧ Fr [] W w' := fun W => by
    rw [hS, hV]; exact lower_any W s (by omega)
  have hV2 : ∀ W, Calls Try.prog 15 #[.string S] W fun e w' => e = .returned (.string V) ∧ Fr [] W w' := fun W => by
    rw [hS, hV]; exact rlo_any W s (by omega)
  have eB := ba_beq B; have eU := ba_beq U; have eV := ba_beq V
  have HI1 := Lib.hid hI1; have HI2 := Lib.hid hI2; have HB1 := Lib.hid hB1; have HB2 := Lib.hid hB2; have HU1 := Lib.hid hU1; have HU2 := Lib.hid hU2; have HV1 := Lib.hid hV1; have HV2 := Lib.hid hV2; have HG := Lib.hid hg
  clear hS hT hL hM hX hB hU hV hI1 hI2 hB1 hB2 hU1 hU2 hV1 hV2 hg hf hc
  go_enter Try.func4, Try.ntmps4
  go_upto_region 3 with (go_at_call 7; refine HAW.out.mono ?_; rintro e w1 ⟨rfl, hf⟩; have HX := Lib.hid hf; clear hf)
  go_wp2_with (first
    | (go_at_call 8; refine (HI1.out _ (HG.out.fr HX.out)).mono ?_; rintro e w2 ⟨rfl, rfl⟩)
    | (go_at_call 10; refine (HI2.out _).mono ?_; rintro e w2 ⟨rfl, rfl⟩)
    | (go_at_call 9; refine (HB1.out _).mono ?_; rintro e w2 ⟨rfl, rfl⟩)
    | (go_at_call 11; refine (HB2.out _).mono ?_; rintro e w2 ⟨rfl, rfl⟩)
    | (go_at_call 12; refine (HU1.out _).mono ?_; rintro e w2 ⟨rfl, hf⟩; have HX := Lib.hid (HX.out.trans hf); clear hf)
    | (go_at_call 13; refine (HU2.out _).mono ?_; rintro e w2 ⟨rfl, hf⟩; have HX := Lib.hid (HX.out.trans hf); clear hf)
    | (go_at_call 14; refine (HV1.out _).mono ?_; rintro e w2 ⟨rfl, hf⟩; have HX := Lib.hid (HX.out.trans hf); clear hf)
    | (go_at_call 15; refine (HV2.out _).mono ?_; rintro e w2 ⟨rfl, hf⟩; have HX := Lib.hid (HX.out.trans hf); clear hf))
  go_ret
  exact ⟨rfl, HX.out⟩
theorem i64_bounds (n : Int) (h : (Lit.int .i64 n).wf = true) : -9223372036854775808 ≤ n ∧ n ≤ 9223372036854775807 := by
  simpa [Lit.wf, IntKind.min, IntKind.max, IntKind.signed, IntKind.bits] using h
set_option maxRecDepth 100000 in
theorem wordsParts_open {H : Type} {enc : TypeId × Value → H} (W : World) (base : Nat) (v0 : Value) (d0 : DataW H) (p0 : List MemPlace) (v1 : Value) (d1 : DataW H) (p1 : List MemPlace) (v2 : Value) (d2 : DataW H) (p2 : List MemPlace) (v3 : Value) (d3 : DataW H) (p3 : List MemPlace) (v4 : Value) (d4 : DataW H) (p4 : List MemPlace)
    (k0 : Value.okWide Try.prog W .any base 9 v0) (k1 : Value.okWide Try.prog W .any base 9 v1) (k2 : Value.okWide Try.prog W .any base 2 v2) (k3 : Value.okWide Try.prog W .any base 2 v3) (k4 : Value.okWide Try.prog W .any base 4 v4)
    (h0 : DataW.Trod enc Try.prog W 0 (fun _ => true) true 9 v0 d0 p0) (h1 : DataW.Trod enc Try.prog W 0 (fun _ => true) true 9 v1 d1 p1) (h2 : DataW.Trod enc Try.prog W 0 (fun _ => true) true 2 v2 d2 p2) (h3 : DataW.Trod enc Try.prog W 0 (fun _ => true) true 2 v3 d3 p3) (h4 : DataW.Trod enc Try.prog W 0 (fun _ => true) true 4 v4 d4 p4) (hg : GlobOk W) :
    Calls Try.prog 4 #[v0, v1, v2, v3, v4] W fun e W' => e = .returned (.bool true) ∧ Below W.heap.size W W' := by
  obtain ⟨s, rfl, hs⟩ := arg_string Try.underlying9 k0 h0
  obtain ⟨t, rfl, ht⟩ := arg_string Try.underlying9 k1 h1
  obtain ⟨n, rfl, hn⟩ := arg_int Try.underlying2 k2 h2
  obtain ⟨m, rfl, hm⟩ := arg_int Try.underlying2 k3 h3
  obtain ⟨b, rfl⟩ := arg_bool Try.underlying4 k4 h4
  have h := parts7_walk (w := W) s.data.toList t.data.toList n m (i64_bounds n hn) (i64_bounds m hm) b hg
  rw [← ba_of, ← ba_of] at h
  exact h.mono fun e W' ⟨h1, h2⟩ => ⟨h1, h2.below_nil⟩
end Go.Proofs.Yteofhjegaaoglaa
namespace Go.Proofs.Yteofhjegaaoglaa
open Go.RowKit
set_option linter.unusedVariables false
set_option linter.unusedSimpArgs false

theorem sub_len (s : List UInt8) (fr ct : Int) (all : Bool) : (subM s fr ct all).length ≤ s.length := by
  unfold subM
  split
  · simp
  · rw [List.length_take, List.length_drop]; omega
theorem sub_index (s : List UInt8) (fr ct : Int) (all : Bool) : 0 ≤ Lib.index s (subM s fr ct all) := by
  unfold subM
  split
  · rw [Lib.index_empty]; omega
  · obtain ⟨a, ha⟩ : ∃ a, a = (max fr 1 - 1).toNat := ⟨_, rfl⟩
    obtain ⟨n, hn⟩ : ∃ n, n = (behM s.length fr ct all - max fr 1).toNat := ⟨_, rfl⟩
    rw [← ha, ← hn]
    have ho : Lib.occAt s ((s.drop a).take n) a = true := by
      unfold Lib.occAt
      rw [List.isPrefixOf_iff_prefix]; exact List.take_prefix _ _
    by_cases hle : a ≤ s.length
    · rcases Lib.index_spec s ((s.drop a).take n) with ⟨h, h2⟩ | ⟨i, h, -⟩
      · rw [h2 a hle] at ho; cases ho
      · omega
    · rw [List.drop_of_length_le (by omega), List.take_nil, Lib.index_empty]; omega
def NewIs (w w' : World) (fv ev : Value) : Prop := (fv = .pointer none ∧ ∃ g, ev = .iface 51 (.pointer (some ⟨g, 0, none⟩))) ∨ ∃ (L : List Sp) (fb : Nat), fv = .pointer (some ⟨fb, 0, none⟩) ∧ ev = .nilIface ∧ FdL L ∧ FinderAt w' w.heap.size fb L
theorem new_v {w : World} {A : Option Addr} {bs : List UInt8} {c : Nat} (n : Nat) (hn : bs.length = n) (h : Bytes w A bs) (hl : n ≤ 150) (hc : n ≤ c) (hA : A = none → c = 0) (hcm : c ≤ maxLen) (hg : GlobOk w) :
    Calls Try.prog 16 #[.slice A n c] w fun e w' => ∃ fv ev, e = .returned (.tuple #[fv, ev]) ∧ Fr [] w w' ∧ NewIs w w' fv ev := by
  subst hn
  refine (new_any h hl hc hA hcm hg).mono fun e w' hp => ?_
  unfold NewPost at hp
  obtain ⟨hf, hr⟩ := hp
  cases hp : parseS bs with
  | error q =>
    rw [hp] at hr
    obtain ⟨v, h1, g, rfl, -⟩ := hr
    exact ⟨_, _, h1, hf, .inl ⟨rfl, g, rfl⟩⟩
  | ok t =>
    rw [hp] at hr
    dsimp only at hr
    by_cases hs : 4000 ≤ sizP (toP t)
    · rw [if_pos hs] at hr
      obtain ⟨v, h1, g, rfl, -⟩ := hr
      exact ⟨_, _, h1, hf, .inl ⟨rfl, g, rfl⟩⟩
    · rw [if_neg hs] at hr
      obtain ⟨fb, h1, -, h2⟩ := hr
      exact ⟨_, _, h1, hf, .inr ⟨_, fb, rfl, rfl, fdl_of hp (by omega), h2⟩⟩
set_option maxRecDepth 100000 in
set_option maxHeartbeats 8000000 in
theorem stay_walk {w : World} {A : Option Addr} {a : List UInt8} {ca : Nat} (ha : Bytes w A a) (hac : a.length ≤ ca) (hna : A = none → ca = 0) (hma : ca ≤ maxLen) (s : List UInt8) (fr ct : Int) (hf : -9223372036854775808 ≤ fr ∧ fr ≤ 9223372036854775807) (hc : -9223372036854775808 ≤ ct ∧ ct ≤ 9223372036854775807) (hg : GlobOk w) :
    Calls Try.prog 5 #[.slice A a.length ca, .string ⟨s.toArray⟩, .int .i64 fr, .int .i64 ct] w fun e w' => e = .returned (.bool true) ∧ Fr [] w w' := by
  have HAW := Lib.hid (awake_ok w hg)
  obtain ⟨la, hla⟩ : ∃ L, L = a.length := ⟨_, rfl⟩
  obtain ⟨S, hS⟩ : ∃ S, S = (⟨s.toArray⟩ : ByteArray) := ⟨_, rfl⟩
  obtain ⟨L, hL⟩ : ∃ L, L = s.length := ⟨_, rfl⟩
  have hs1 : S.size = L := by rw [hS, hL]; simp [ByteArray.size]
  rw [← hS, ← hla]
  rw [← hla] at hac
  by_cases h40 : 40 < la
  · have hI : (40 : Int) < (la : Int) := by omega
    clear hS hL hla ha hg hf hc
    go_enter Try.func5, Try.ntmps5
    go_wp2_with (go_at_call 7; refine HAW.out.mono ?_; rintro e w1 ⟨rfl, hf⟩; have HX := Lib.hid hf; clear hf)
    go_ret
    exact ⟨rfl, HX.out⟩
  have hI : ¬ ((40 : Int) < (la : Int)) := by omega
  by_cases h60 : 60 < L
  · have hJ : (60 : Int) < (L : Int) := by omega
    clear hS hL hla ha hg hf hc
    go_enter Try.func5, Try.ntmps5
    go_wp2_with (go_at_call 7; refine HAW.out.mono ?_; rintro e w1 ⟨rfl, hf⟩; have HX := Lib.hid hf; clear hf)
    go_ret
    exact ⟨rfl, HX.out⟩
  have hJ : ¬ ((60 : Int) < (L : Int)) := by omega
  obtain ⟨T, hT⟩ : ∃ T, T = (⟨(subM s fr ct false).toArray⟩ : ByteArray) := ⟨_, rfl⟩
  obtain ⟨m, hm⟩ : ∃ m, m = (subM s fr ct false).length := ⟨_, rfl⟩
  have ht1 : T.size = m := by rw [hT, hm]; simp [ByteArray.size]
  have hmL : m ≤ L := by rw [hm, hL]; exact sub_len s fr ct false
  obtain ⟨X, hX⟩ : ∃ X, X = Lib.index s (subM s fr ct false) + 1 := ⟨_, rfl⟩
  have hX0 : 0 < X := by have := sub_index s fr ct false; omega
  have hX1 : (X == 0) = false := beq_eq_false_iff_ne.2 (by omega)
  obtain ⟨U, hU⟩ : ∃ U, U = (⟨(upM s).toArray⟩ : ByteArray) := ⟨_, rfl⟩
  obtain ⟨V, hV⟩ : ∃ V, V = (⟨(loM s).toArray⟩ : ByteArray) := ⟨_, rfl⟩
  have hI1 : ∀ W, GlobOk W → Calls Try.prog 8 #[.string S, .string T] W fun e w' => e = .returned (.int .i64 X) ∧ w' = W := fun W hg => by
    rw [hS, hT, hX]; exact widx_any W s _ (by omega) hg
  have hB1 : ∀ W, Calls Try.prog 9 #[.string S, .int .i64 fr, .int .i64 ct, .bool false] W fun e w' => e = .returned (.string T) ∧ W = w' := fun W => by
    rw [hS, hT]; exact substr_any W s fr ct hf hc (by omega) false
  have hU1 : ∀ (x : ByteArray) W, x = S ∨ x = V → Calls Try.prog 12 #[.string x] W fun e w' => e = .returned (.string U) ∧ Fr [] W w' := fun x W h => by
    rcases h with rfl | rfl
    · rw [hS, hU]; exact upper_any W s (by omega)
    · rw [hV, hU, ← up_lo s]; exact upper_any W (loM s) (by simp [loM]; omega)
  have hV1 : ∀ W, Calls Try.prog 14 #[.string S] W fun e w' => e = .returned (.string V) ∧ Fr [] W w' := fun W => by
    rw [hS, hV]; exact lower_any W s (by omega)
  have hR1 : ∀ W lo fb Ls, FdL Ls → FinderAt W lo fb Ls → Calls Try.prog 17 #[.pointer (some ⟨fb, 0, none⟩), .string ⟨#[38]⟩, .string S, .bool true] W fun e w' => ∃ n : Int, e = .returned (.tuple #[.string S, .int .i64 n, .nilIface]) ∧ Fr [] W w' := fun W lo fb Ls hd hF => by
    obtain ⟨o1, o2, -⟩ := findsS_ord (tx := s) hd.1 hd.2.1
    have h := replace_any hF hd [38] s true (by decide) (by omega) (findsS Ls s) rfl s (by rw [repl_amp _ 0 (Nat.zero_le _) o1 (fun _ _ => Nat.zero_le _) o2, List.drop_zero]) (by omega)
    rw [← hS] at h
    exact h.mono fun e w' ⟨h1, h2⟩ => ⟨((findsS Ls s).length : Int), by rw [h1, hS], h2⟩
  have eS := ba_beq S; have eU := ba_beq U
  have HI1 := Lib.hid hI1; have HB1 := Lib.hid hB1; have HU1 := Lib.hid hU1; have HV1 := Lib.hid hV1; have HR1 := Lib.hid hR1; have HG := Lib.hid hg; have HA := Lib.hid ha; have HLA := Lib.hid hla; have HNA := Lib.hid hna; have HX0 := Lib.hid hX0
  clear hS hL hT hm hX hU hV hI1 hB1 hU1 hV1 hR1 hg hf hc ha hla hna hX0
  have hnL : ¬ ((L : Int) < (m : Int)) := by omega
  rcases Nat.eq_zero_or_pos m with hm0 | hm0
  case' inl =>
    have hm0I : ¬ ((0 : Int) < (m : Int)) := by omega
  case' inr =>
    have hm0I : (0 : Int) < (m : Int) := by omega
  all_goals
    have HM0 := Lib.hid hm0
    clear hm0
    go_enter Try.func5, Try.ntmps5
    go_upto_region 3 with (go_at_call 7; refine HAW.out.mono ?_; rintro e w1 ⟨rfl, hf⟩; have HX := Lib.hid hf; clear hf)
    go_upto_region 8 with (first
      | (go_at_call 8; refine (HI1.out _ (HG.out.fr HX.out)).mono ?_; rintro e w2 ⟨rfl, rfl⟩)
      | (go_at_call 9; refine (HB1.out _).mono ?_; rintro e w2 ⟨rfl, rfl⟩)
      | (go_at_call 12; refine (HU1.out _ _ (by first | exact .inl rfl | exact .inr rfl)).mono ?_; rintro e w2 ⟨rfl, hf⟩; have HX := Lib.hid (HX.out.trans hf); clear hf)
      | (go_at_call 14; refine (HV1.out _).mono ?_; rintro e w2 ⟨rfl, hf⟩; have HX := Lib.hid (HX.out.trans hf); clear hf))
    go_upto_region 9 with (go_at_call 16; refine (new_v la HLA.out.symm (HA.out.fr_nil HX.out) (by omega) hac HNA.out hma (HG.out.fr HX.out)).mono ?_; rintro e w5 ⟨fv, ev, rfl, hf, his⟩; have HX5 := Lib.hid (HX.out.trans hf); have HIS := Lib.hid his; clear hf his)
    rcases HIS.out with ⟨rfl, g, rfl⟩ | ⟨Ls, fb, rfl, rfl, hd, hF⟩
    · go_wp2_with fail
      go_ret
      exact ⟨rfl, HX5.out⟩
    · have HD := Lib.hid hd; have HF := Lib.hid hF
      clear hd hF
      go_wp2_with (go_at_call 17; refine (HR1.out _ _ _ _ HD.out HF.out).mono ?_; rintro e w6 ⟨n, rfl, hf⟩; have HX6 := Lib.hid (HX5.out.trans hf); clear hf)
      go_ret
      exact ⟨rfl, HX6.out⟩
set_option maxRecDepth 100000 in
theorem wordsStay_open {H : Type} {enc : TypeId × Value → H} (W : World) (base : Nat) (v0 : Value) (d0 : DataW H) (p0 : List MemPlace) (v1 : Value) (d1 : DataW H) (p1 : List MemPlace) (v2 : Value) (d2 : DataW H) (p2 : List MemPlace) (v3 : Value) (d3 : DataW H) (p3 : List MemPlace)
    (k0 : Value.okWide Try.prog W .any base 28 v0) (k1 : Value.okWide Try.prog W .any base 9 v1) (k2 : Value.okWide Try.prog W .any base 2 v2) (k3 : Value.okWide Try.prog W .any base 2 v3)
    (h0 : DataW.Trod enc Try.prog W 0 (fun _ => true) true 28 v0 d0 p0) (h1 : DataW.Trod enc Try.prog W 0 (fun _ => true) true 9 v1 d1 p1) (h2 : DataW.Trod enc Try.prog W 0 (fun _ => true) true 2 v2 d2 p2) (h3 : DataW.Trod enc Try.prog W 0 (fun _ => true) true 2 v3 d3 p3) (hg : GlobOk W) :
    Calls Try.prog 5 #[v0, v1, v2, v3] W fun e W' => e = .returned (.bool true) ∧ Below W.heap.size W W' := by
  obtain ⟨A1, c1, b1, rfl, g1, g2, g3, g4⟩ := arg_bytes k0 h0
  obtain ⟨s, rfl, hs⟩ := arg_string Try.underlying9 k1 h1
  obtain ⟨n, rfl, hn⟩ := arg_int Try.underlying2 k2 h2
  obtain ⟨m, rfl, hm⟩ := arg_int Try.underlying2 k3 h3
  have h := stay_walk (w := W) g4 g1 g3 g2 s.data.toList n m (i64_bounds n hn) (i64_bounds m hm) hg
  rw [← ba_of] at h
  exact h.mono fun e W' ⟨h1, h2⟩ => ⟨h1, h2.below_nil⟩
end Go.Proofs.Yteofhjegaaoglaa
