/-
  The walk of FieldsText. No conditions.
-/
import Derived.Test.YtokamlobppejhaaDoorFdN
namespace Go.Proofs.YtokamlobppejhaaDoor
open Go.RowKit Go.ChangeShapes Go.WideShapes Go.ChangeAt Go.Deep
set_option linter.unusedVariables false
set_option linter.unusedSimpArgs false

set_option maxRecDepth 100000 in
set_option maxHeartbeats 4000000 in
theorem text_walk {w : World} (text s : List UInt8) (ht : text.length ≤ maxLen) (hs : s.length ≤ maxLen) (m : Nat) (hm : m ≤ 255) :
    Calls Tryd.prog 3 #[.string ⟨text.toArray⟩, .string ⟨s.toArray⟩, .int .u8 (m : Int)] w fun e w' => e = .returned (.bool true) ∧ Fr [] w w' := by
  unfold maxLen at ht hs
  go_enter Tryd.func3, Tryd.ntmps3
  go_wp2_with fail
  go_at_call 6
  refine (awake_any w).mono ?_
  rintro e w1 ⟨rfl, hf1⟩
  have HF1 := Lib.hid hf1; clear hf1
  by_cases h60 : 60 < text.length
  · go_wp2_with fail
    go_ret
    exact ⟨rfl, HF1.out⟩
  by_cases h61 : 60 < s.length
  · go_wp2_with fail
    go_ret
    exact ⟨rfl, HF1.out⟩
  have t60 : text.length ≤ 60 := by omega
  have s60 : s.length ≤ 60 := by omega
  go_wp2_with fail
  go_at_call 7
  refine (fnew_any w1).mono ?_
  rintro e w2 ⟨rfl, hr2, hf2, hz2⟩
  obtain ⟨g, hg⟩ : ∃ g, w1.heap.size = g := ⟨_, rfl⟩
  have hgw : w.heap.size ≤ g := by rw [← hg]; exact HF1.out.size
  rw [hg] at hr2 ⊢
  have HR2 := Lib.hid hr2; have HF2 := Lib.hid (HF1.out.trans hf2)
  have hgz : w2.heap.size = g + 1 := by rw [hz2, hg]
  have HGZ := Lib.hid hgz
  clear hr2 hf2 hg HF1 hz2 hgz
  go_wp2_with fail
  go_at_call 7
  refine (fnew_any w2).mono ?_
  rintro e w3 ⟨rfl, hq3, hf3, -⟩
  obtain ⟨q, hq⟩ : ∃ q, w2.heap.size = q := ⟨_, rfl⟩
  have hqg : q = g + 1 := by rw [← hq]; exact HGZ.out
  rw [hq] at hq3 ⊢
  have HQ3 := Lib.hid hq3; have HF3 := Lib.hid (HF2.out.trans hf3); have HR3 := Lib.hid (HR2.out.fr_nil hf3); have HQG := Lib.hid hqg
  clear hq3 hf3 hq HF2 HR2 hqg HGZ
  obtain ⟨k, hk⟩ : ∃ k, 1 + m % 40 = k := ⟨_, rfl⟩
  have hk1 : 1 ≤ k ∧ k ≤ 40 := by omega
  have hrem : (m : Int).tmod 40 = (k : Int) - 1 := by
    have : (m : Int).tmod 40 = ((m % 40 : Nat) : Int) := rfl
    omega
  have hadd : (1 : Int) + ((k : Int) - 1) = (k : Int) := by omega
  have HK := Lib.hid hk; clear hk
  have hsl := splM_len text
  have hss := splM_sum text
  obtain ⟨l, hl⟩ : ∃ l, splM text = l := ⟨_, rfl⟩
  rw [hl] at hsl hss
  obtain ⟨x1, hx1⟩ : ∃ x1 : Rc, x1 = { newRc with text := text, l := l } := ⟨_, rfl⟩
  have hxl : x1.l = l := by rw [hx1]
  have hxj : x1.jn = [32] := by rw [hx1]; rfl
  have hxt : x1.text = text := by rw [hx1]
  have HL := Lib.hid hl; have HX1 := Lib.hid hx1
  clear hl hx1
  go_wp2_with fail
  go_at_call 8
  refine (set_ok HR3.out (.inl rfl) text (by omega) (by show (splM text).length ≤ 1000; rw [HL.out]; omega) x1 (by rw [HX1.out, ← HL.out]; rfl)).mono ?_
  rintro e w4 ⟨rfl, hr4, hf4⟩
  have HR4 := Lib.hid hr4; have HF4 := Lib.hid (trans_new HF3.out hf4 hgw); have HQ4 := Lib.hid (HQ3.out.fr_one HR3.out (by have := HQG.out; omega) hf4)
  clear hr4 hf4 HR3 HQ3 HF3
  go_wp2_with fail
  go_at_call 8
  refine (set_ok HQ4.out (.inl rfl) text (by omega) (by show (splM text).length ≤ 1000; rw [HL.out]; omega) x1 (by rw [HX1.out, ← HL.out]; rfl)).mono ?_
  rintro e w5 ⟨rfl, hr5, hf5⟩
  have hqw : w.heap.size ≤ q := by have := HQG.out; omega
  have HQ5 := Lib.hid hr5; have HF5 := Lib.hid (trans_new HF4.out hf5 hqw); have HR5 := Lib.hid (HR4.out.fr_one HQ4.out (by have := HQG.out; omega) hf5)
  clear hr5 hf5 HR4 HQ4 HF4
  go_wp2_with fail
  go_at_call 9
  refine (get_any HR5.out 0).mono ?_
  rintro e w6 ⟨rfl, rfl⟩
  rw [getM_zero, hxt]
  go_wp2_with fail
  go_at_call 10
  refine (count_any HR5.out).mono ?_
  rintro e w6 ⟨rfl, rfl⟩
  rw [hxl]
  go_wp2_with fail
  go_at_call 9
  refine (get_any HR5.out _).mono ?_
  rintro e w6 ⟨rfl, rfl⟩
  have e7 : (⟨(getM x1.text x1.l ((l.length : Int) + 1)).toArray⟩ : ByteArray) = ⟨#[]⟩ := by
    have := getM_nat x1.text x1.l (l.length + 1) (by omega)
    rw [hxl] at this ⊢
    have h2 : getM x1.text l ((l.length : Int) + 1) = [] := by
      rw [show ((l.length : Int) + 1) = ((l.length + 1 : Nat) : Int) by omega, this, List.getD_eq_getElem?_getD, List.getElem?_eq_none (by omega)]; rfl
    rw [h2]
  rw [e7]
  clear e7
  go_wp2_with fail
  go_at_call 11
  obtain ⟨x2, hx2⟩ : ∃ x2 : Rc, { x1 with text := Lib.join (putM x1.l k s) x1.jn, l := putM x1.l k s } = x2 := ⟨_, rfl⟩
  have hx2l : x2.l = putM l k s := by rw [← hx2, hxl]
  refine (put_ok HQ5.out k hk1.1 (by omega) (by rw [hxl]; omega) s (by rw [hxl, hxj]; show 1 * _ + _ + _ ≤ _; omega) x2 hx2).mono ?_
  rintro e w6 ⟨rfl, hr6, hf6⟩
  have HQ6 := Lib.hid hr6; have HF6 := Lib.hid (trans_new HF5.out hf6 hqw); have HR6 := Lib.hid (HR5.out.fr_one HQ5.out (by have := HQG.out; omega) hf6)
  clear hr6 hf6 HR5 HQ5 HF5 hx2 hrem hadd
  go_wp2_with fail
  go_loop [10] (fun v10 => ∃ i : Nat, v10 = .int .i64 (i : Int) ∧ 1 ≤ i ∧ i ≤ 46) (fun v10 => 46 - (intOf v10).toNat)
  case atStart => exact ⟨1, rfl, by omega, by omega⟩
  case round =>
    obtain ⟨i, rfl, hi1, hi2⟩ := hrel
    by_cases hle : i ≤ 45
    · have hq : getM x2.text x2.l (i : Int) = if i = k then s else getM x1.text x1.l (i : Int) := by
        rw [getM_nat _ _ _ hi1, getM_nat _ _ _ hi1, hx2l, hxl, put_get l k (i - 1) hk1.1 s]
        by_cases e : i = k
        · rw [if_pos e, if_pos (by omega)]
        · rw [if_neg e, if_neg (by omega)]
      obtain ⟨y, hy⟩ : ∃ y, getM x1.text x1.l (i : Int) = y := ⟨_, rfl⟩
      rw [hy] at hq
      by_cases e : i = k
      · subst e
        rw [if_pos rfl] at hq
        have HY := Lib.hid hy; have HQ := Lib.hid hq
        clear hy hq
        go_wp2_with fail
        go_at_call 9
        refine (get_any HR6.out (i : Int)).mono ?_
        rintro e w7 ⟨rfl, rfl⟩
        rw [HY.out]
        go_wp2_with fail
        go_at_call 9
        refine (get_any HQ6.out (i : Int)).mono ?_
        rintro e w7 ⟨rfl, rfl⟩
        rw [HQ.out]
        go_wp2_with fail
        go_round
        case rel => exact ⟨i + 1, by go_num, by omega, by omega⟩
        case measure => first | (simp [intOf]; done) | (simp [intOf]; omega)
      · rw [if_neg e] at hq
        have HY := Lib.hid hy; have HQ := Lib.hid hq
        have t1 : ((i : Int) == (k : Int)) = false := beq_eq_false_iff_ne.2 (by omega)
        clear hy hq
        go_wp2_with fail
        go_at_call 9
        refine (get_any HR6.out (i : Int)).mono ?_
        rintro e w7 ⟨rfl, rfl⟩
        rw [HY.out]
        go_wp2_with fail
        go_at_call 9
        refine (get_any HQ6.out (i : Int)).mono ?_
        rintro e w7 ⟨rfl, rfl⟩
        rw [HQ.out]
        go_wp2_with fail
        go_round
        case rel => exact ⟨i + 1, by go_num, by omega, by omega⟩
        case measure => first | (simp [intOf]; done) | (simp [intOf]; omega)
    · have hcl : (x2.l.length : Int) = ((max k l.length : Nat) : Int) := by rw [hx2l, put_len]
      obtain ⟨M, hM⟩ : ∃ M : Nat, max k l.length = M := ⟨_, rfl⟩
      rw [hM] at hcl
      have HM : Hid (max (k : Int) (l.length : Int) = (M : Int)) := Lib.hid (by omega)
      clear hM
      go_wp2_with fail
      go_at_call 10
      refine (count_any HQ6.out).mono ?_
      rintro e w7 ⟨rfl, rfl⟩
      rw [hcl]
      clear hcl
      go_wp2_with fail
      go_at_call 10
      refine (count_any HR6.out).mono ?_
      rintro e w7 ⟨rfl, rfl⟩
      rw [hxl]
      go_wp2_with (refine wpList_max rfl (.tmp 77) (.tmp 79) _ rfl .i64 _ _ _ (by rfl) (by rfl) HM.out ?_)
      go_at_call 9
      refine (get_any HR6.out 0).mono ?_
      rintro e w7 ⟨rfl, rfl⟩
      rw [getM_zero, hxt]
      go_wp2_with fail
      go_ret
      exact ⟨rfl, HF6.out⟩
set_option maxRecDepth 100000 in
theorem fieldsText_open {H : Type} {enc : TypeId × Value → H} (W : World) (base : Nat) (v0 : Value) (d0 : DataW H) (p0 : List MemPlace) (v1 : Value) (d1 : DataW H) (p1 : List MemPlace) (v2 : Value) (d2 : DataW H) (p2 : List MemPlace)
    (k0 : Value.okWide Tryd.prog W .any base 9 v0) (k1 : Value.okWide Tryd.prog W .any base 9 v1) (k2 : Value.okWide Tryd.prog W .any base 5 v2) (h0 : DataW.Trod enc Tryd.prog W 0 (fun _ => true) true 9 v0 d0 p0) (h1 : DataW.Trod enc Tryd.prog W 0 (fun _ => true) true 9 v1 d1 p1) (h2 : DataW.Trod enc Tryd.prog W 0 (fun _ => true) true 5 v2 d2 p2) :
    Calls Tryd.prog 3 #[v0, v1, v2] W fun e W' => e = .returned (.bool true) ∧ Below W.heap.size W W' := by
  obtain ⟨s, rfl, hs⟩ := arg_string Tryd.underlying9 k0 h0
  obtain ⟨t, rfl, ht⟩ := arg_string Tryd.underlying9 k1 h1
  obtain ⟨n, rfl, hn⟩ := arg_int Tryd.underlying5 k2 h2
  have hb : 0 ≤ n ∧ n ≤ 255 := by simpa [Lit.wf, IntKind.min, IntKind.max, IntKind.signed, IntKind.bits] using hn
  obtain ⟨m, rfl⟩ := Int.eq_ofNat_of_zero_le hb.1
  have h := text_walk (w := W) s.data.toList t.data.toList hs ht m (by omega)
  rw [← ba_of, ← ba_of] at h
  exact h.mono fun e w' h => ⟨h.1, h.2.below_nil⟩
end Go.Proofs.YtokamlobppejhaaDoor
