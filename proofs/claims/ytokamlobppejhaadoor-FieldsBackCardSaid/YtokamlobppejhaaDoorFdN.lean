/-
  The walk of FieldsNone. No conditions.
-/
import Derived.Test.YtokamlobppejhaaDoorFd5
import Derived.Test.YtokamlobppejhaaDoorRead
namespace Go.Proofs.YtokamlobppejhaaDoor
open Go.RowKit Go.ChangeShapes Go.WideShapes Go.ChangeAt Go.Deep
set_option linter.unusedVariables false
set_option linter.unusedSimpArgs false

set_option maxRecDepth 100000 in
set_option maxHeartbeats 4000000 in
theorem none_walk {w : World} (text : List UInt8) (ht : text.length ≤ maxLen) (m : Nat) (hm : m ≤ 255) :
    Calls Tryd.prog 4 #[.string ⟨text.toArray⟩, .int .u8 (m : Int)] w fun e w' => e = .returned (.bool true) ∧ Fr [] w w' := by
  unfold maxLen at ht
  go_enter Tryd.func4, Tryd.ntmps4
  go_wp2_with fail
  go_at_call 6
  refine (awake_any w).mono ?_
  rintro e w1 ⟨rfl, hf1⟩
  have HF1 := Lib.hid hf1; clear hf1
  by_cases h60 : 60 < text.length
  · go_wp2_with fail
    go_ret
    exact ⟨rfl, HF1.out⟩
  have t60 : text.length ≤ 60 := by omega
  go_wp2_with fail
  go_at_call 7
  refine (fnew_any w1).mono ?_
  rintro e w2 ⟨rfl, hr1, hf2, -⟩
  obtain ⟨g, hg⟩ : ∃ g, w1.heap.size = g := ⟨_, rfl⟩
  have hgw : w.heap.size ≤ g := by rw [← hg]; exact HF1.out.size
  rw [hg] at hr1 ⊢
  have HR1 := Lib.hid hr1; have HF2 := Lib.hid (HF1.out.trans hf2)
  clear hr1 hf2 hg HF1
  go_wp2_with fail
  go_at_call 8
  have hsl := splM_len text
  have hss := splM_sum text
  obtain ⟨x1, hx1⟩ : ∃ x1 : Rc, x1 = { newRc with text := text, l := splM text } := ⟨_, rfl⟩
  refine (set_ok HR1.out (.inl rfl) text (by omega) (by show (splM text).length ≤ 1000; omega) x1 (by rw [hx1]; rfl)).mono ?_
  rintro e w3 ⟨rfl, hr3, hf3⟩
  have HR3 := Lib.hid hr3; have HF3 := Lib.hid (trans_new HF2.out hf3 hgw); have HX1 := Lib.hid hx1
  clear hr3 hf3 HR1 HF2 hx1
  go_wp2_with fail
  go_at_call 12
  refine (resize_ok HR3.out 0 (by omega) (by rw [HX1.out]; show _ * 0 + Lib.lens (splM text) ≤ _; omega) ⟨0, 0, [32], [], []⟩ (by rw [HX1.out, pad0]; rfl)).mono ?_
  rintro e w4 ⟨rfl, hr4, hf4⟩
  have HR4 := Lib.hid hr4; have HF4 := Lib.hid (trans_new HF3.out hf4 hgw)
  clear hr4 hf4 HR3 HF3
  go_wp2_with fail
  go_at_call 10
  refine (count_any HR4.out).mono ?_
  rintro e w5 ⟨rfl, rfl⟩
  have e3 : ((⟨0, 0, [32], [], []⟩ : Rc).l.length : Int) = 0 := by rfl
  rw [e3]
  clear e3
  go_wp2_with fail
  go_at_call 9
  refine (get_any HR4.out 0).mono ?_
  rintro e w5 ⟨rfl, rfl⟩
  have e4 : (⟨(getM (⟨0, 0, [32], [], []⟩ : Rc).text (⟨0, 0, [32], [], []⟩ : Rc).l 0).toArray⟩ : ByteArray) = ⟨#[]⟩ := by rfl
  rw [e4]
  clear e4
  go_wp2_with fail
  go_at_call 9
  refine (get_any HR4.out 1).mono ?_
  rintro e w5 ⟨rfl, rfl⟩
  have e4 : (⟨(getM (⟨0, 0, [32], [], []⟩ : Rc).text (⟨0, 0, [32], [], []⟩ : Rc).l 1).toArray⟩ : ByteArray) = ⟨#[]⟩ := by rfl
  rw [e4]
  clear e4
  obtain ⟨k, hk⟩ : ∃ k, m % 50 = k := ⟨_, rfl⟩
  have hk50 : k < 50 := by omega
  have hrem : (m : Int).tmod 50 = (k : Int) := by rw [← hk]; rfl
  go_wp2_with fail
  go_at_call 12
  obtain ⟨tx, htx⟩ : ∃ tx, Lib.join (List.replicate k []) [32] = tx := ⟨_, rfl⟩
  have htl : tx.length = k - 1 := by rw [← htx, join_len, lens_rep]; simp
  refine (resize_ok HR4.out k (by omega) (by show 1 * k + 0 ≤ 65536; omega) ⟨0, 0, [32], tx, List.replicate k []⟩ (by rw [← htx, ← pad_nil])).mono ?_
  rintro e w6 ⟨rfl, hr6, hf6⟩
  have HR6 := Lib.hid hr6; have HF6 := Lib.hid (trans_new HF4.out hf6 hgw)
  clear hr6 hf6 HR4 HF4 htx hrem hk
  go_wp2_with fail
  go_at_call 10
  refine (count_any HR6.out).mono ?_
  rintro e w7 ⟨rfl, rfl⟩
  have e5 : ((⟨0, 0, [32], tx, List.replicate k []⟩ : Rc).l.length : Int) = (k : Int) := by simp
  rw [e5]
  clear e5
  go_wp2_with fail
  go_at_call 9
  refine (get_any HR6.out 0).mono ?_
  rintro e w7 ⟨rfl, rfl⟩
  have e6 : (⟨(getM (⟨0, 0, [32], tx, List.replicate k []⟩ : Rc).text (⟨0, 0, [32], tx, List.replicate k []⟩ : Rc).l 0).toArray⟩ : ByteArray) = ⟨tx.toArray⟩ := by rfl
  rw [e6]
  clear e6
  have HTL := Lib.hid htl
  have HM : Hid (max ((k : Int) - 1) 0 = (tx.length : Int)) := Lib.hid (by omega)
  have hwk : IntKind.i64.wrap ((k : Int) - 1) = (k : Int) - 1 := by rw [IntKind.wrap_i64]; omega
  clear htl
  go_wp2_with (refine wpList_max rfl (.tmp 56) (.const (.int .i64 0)) _ rfl .i64 _ _ _ (by rfl) (by rfl) HM.out ?_)
  go_loop [7] (fun v7 => ∃ i : Nat, v7 = .int .i64 (i : Int) ∧ 1 ≤ i ∧ i ≤ k + 1) (fun v7 => k + 2 - (intOf v7).toNat)
  case atStart => exact ⟨1, rfl, by omega, by omega⟩
  case round =>
    obtain ⟨i, rfl, hi1, hi2⟩ := hrel
    by_cases hle : i ≤ k
    · go_wp2_with fail
      go_at_call 9
      refine (get_any HR6.out (i : Int)).mono ?_
      rintro e w7 ⟨rfl, rfl⟩
      have e7 : (⟨(getM (⟨0, 0, [32], tx, List.replicate k []⟩ : Rc).text (⟨0, 0, [32], tx, List.replicate k []⟩ : Rc).l (i : Int)).toArray⟩ : ByteArray) = ⟨#[]⟩ := by rw [rep_getM _ _ _ hi1]
      rw [e7]
      clear e7
      go_wp2_with fail
      go_round
      case rel => exact ⟨i + 1, by go_num, by omega, by omega⟩
      case measure => first | (simp [intOf]; done) | (simp [intOf]; omega)
    · go_wp2_with fail
      go_ret
      exact ⟨rfl, HF6.out⟩
set_option maxRecDepth 100000 in
theorem fieldsNone_open {H : Type} {enc : TypeId × Value → H} (W : World) (base : Nat) (v0 : Value) (d0 : DataW H) (p0 : List MemPlace) (v1 : Value) (d1 : DataW H) (p1 : List MemPlace)
    (k0 : Value.okWide Tryd.prog W .any base 9 v0) (k1 : Value.okWide Tryd.prog W .any base 5 v1) (h0 : DataW.Trod enc Tryd.prog W 0 (fun _ => true) true 9 v0 d0 p0) (h1 : DataW.Trod enc Tryd.prog W 0 (fun _ => true) true 5 v1 d1 p1) :
    Calls Tryd.prog 4 #[v0, v1] W fun e W' => e = .returned (.bool true) ∧ Below W.heap.size W W' := by
  obtain ⟨s, rfl, hs⟩ := arg_string Tryd.underlying9 k0 h0
  obtain ⟨n, rfl, hn⟩ := arg_int Tryd.underlying5 k1 h1
  have hb : 0 ≤ n ∧ n ≤ 255 := by simpa [Lit.wf, IntKind.min, IntKind.max, IntKind.signed, IntKind.bits] using hn
  obtain ⟨m, rfl⟩ := Int.eq_ofNat_of_zero_le hb.1
  have h := none_walk (w := W) s.data.toList hs m (by omega)
  rw [← ba_of] at h
  exact h.mono fun e w' h => ⟨h.1, h.2.below_nil⟩
end Go.Proofs.YtokamlobppejhaaDoor
