/-
  The iterator of an array's All, for every loop body. No conditions.
-/
import Derived.RangeFuncNested
import Derived.RangeFuncBound
import Derived.RangeFuncCalls
import Derived.RangeFuncLeaves
import Derived.Shelf.Abstract
import Derived.Shelf.RegionOpen
import Derived.WalkKit
import Derived.OwnWalkIn
import Derived.TacticsInMore
import Derived.LoopNIn
import Derived.LoopIn
import Derived.Test.YtfabmbemdaelcaaAcG
namespace Go.Proofs.Ytfabmbemdaelcaa.C
open Go.RowKit Go.Shelf Go.Maps
attribute [local go_sem] Oper.semAt_some
set_option linter.unusedVariables false
set_option linter.unusedSimpArgs false

set_option maxRecDepth 100000 in
set_option maxHeartbeats 4000000 in
theorem all1_in {W : World} {l ba ga : Nat} {la : List Nat} {es : List (Ent CV)} (hbox : W.cell? ⟨ba, 0, none⟩ = some (.pointer (some ⟨ga, 0, none⟩))) (ha : Arr W ga la es) (hn : es.length ≤ 1000)
    (J : Nat → Nat → World → Prop) (Jx : World → Prop)
    (h0 : ∀ Bl W', Fr [] W W' → W.heap.size ≤ Bl → Bl < W'.heap.size → J Bl 0 W')
    (hgrow : ∀ Bl k W1 W2, J Bl k W1 → Fr [] W1 W2 → J Bl k W2)
    (hY : ∀ Bl k (x : List UInt8 × CV) W1, W.heap.size ≤ Bl → (live es)[k]? = some x → J Bl k W1 → YieldAt Fence.wide 2 Try.prog l #[.string ⟨x.1.toArray⟩, x.2.val] W1 fun e W' =>
      (e = .returned (.bool true) ∧ J Bl (k + 1) W' ∧ W'.heap[Bl]? = W1.heap[Bl]?) ∨ (e = .returned (.bool false) ∧ Jx W')) :
    CallsIn Fence.wide 3 Try.prog 30 #[.func (.yield l) #[] #[], .pointer (some ⟨ba, 0, none⟩)] W fun e W' => (∃ v, e = .returned v) ∧
      ((∃ Bl, W.heap.size ≤ Bl ∧ J Bl (live es).length W') ∨ Jx W') := by
  have HA := Lib.hid ha; have H0 := Lib.hid h0; have HG := Lib.hid hgrow; have HY := Lib.hid hY
  clear ha h0 hgrow hY
  refine callsIn_of_wp Try.func30 rfl trivial ?_ rfl
  simp only [Try.ntmps30, List.size_toArray, List.length_cons, List.length_nil, Nat.reduceAdd, Nat.reduceSub, Array.replicate_succ, Array.replicate_zero, List.push_toArray, List.append_toArray, List.nil_append, List.cons_append]
  gi_wp2
  refine ⟨trivial, ?_⟩
  refine (callsIn_wide.2 (living_any HA.out hn)).mono ?_
  rintro e w1 ⟨Bl, rfl, hBl, hf1, hown⟩
  obtain ⟨n, hnl⟩ : ∃ n, n = (live es).length := ⟨_, rfl⟩
  have hn2 : n ≤ 1000 := by rw [hnl]; exact Nat.le_trans (live_le es) hn
  rw [← hnl] at hown ⊢
  have HOWN := Lib.hid hown; have HF1 := Lib.hid hf1; have HNL := Lib.hid hnl
  have hB1 : Bl < w1.heap.size := by
    obtain ⟨h1, ⟨h2, h3⟩ | ⟨g, cap, cur, h2, -, hb, -⟩⟩ := HOWN.out
    · cases h2
    · injection h2 with h2
      injection h2 with h2; injection h2 with h2
      subst h2
      exact (Array.getElem?_eq_some_iff.1 hb).1
  have hj0 := H0.out Bl w1 hf1 hBl hB1
  have HJ0 := Lib.hid hj0
  clear hown hf1 hnl hj0
  gi_wp2
  gi_loopw [8] (fun v wr => ∃ k : Nat, v = .int .i64 (k : Int) ∧ k ≤ n ∧ J Bl k wr ∧ wr.heap[Bl]? = w1.heap[Bl]?) (fun v _ => n - (intOf v).toNat)
  case atStart => exact ⟨0, rfl, by omega, HJ0.out, rfl⟩
  case round =>
    obtain ⟨k, rfl, hk, hj, hbl⟩ := hrel
    have HJ := Lib.hid hj; have HBL := Lib.hid hbl
    clear hj hbl
    by_cases hlt : k < n
    · obtain ⟨x, hx⟩ : ∃ x, (live es)[k]? = some x := ⟨_, List.getElem?_eq_getElem (by rw [← HNL.out]; exact hlt)⟩
      have hxm : ((live es).map some)[k]? = some (some x) := by rw [List.getElem?_map, hx]; rfl
      obtain ⟨b, hb, -, -, hc⟩ := row_ent HOWN.out hxm
      simp at hb
      subst hb
      have hcr : ∀ j v, j < 7 → (cellsE (some x))[j]? = some v → wr.cell? ⟨Bl, k * 7 + j, none⟩ = some v := fun j v hj hv => (World.cell?_of_block (w := w1) (a := ⟨Bl, k * 7 + j, none⟩) HBL.out).trans (hc j v hj hv)
      obtain ⟨key, v⟩ := x
      have c0 : wr.cell? ⟨Bl, k * 7, none⟩ = some (.string ⟨key.toArray⟩) := hcr 0 _ (by omega) rfl
      have c1 : wr.cell? ⟨Bl, k * 7 + 1, none⟩ = some (.int .i64 v.k) := hcr 1 _ (by omega) rfl
      have c2 : wr.cell? ⟨Bl, k * 7 + 2, none⟩ = some (.string ⟨v.s.toArray⟩) := hcr 2 _ (by omega) rfl
      have c3 : wr.cell? ⟨Bl, k * 7 + 3, none⟩ = some (.bool v.n) := hcr 3 _ (by omega) rfl
      have c4 : wr.cell? ⟨Bl, k * 7 + 4, none⟩ = some (.int .u64 v.h) := hcr 4 _ (by omega) rfl
      have c5 : wr.cell? ⟨Bl, k * 7 + 5, none⟩ = some (.int .u64 v.l) := hcr 5 _ (by omega) rfl
      have c6 : wr.cell? ⟨Bl, k * 7 + 6, none⟩ = some (.bool true) := hcr 6 _ (by omega) rfl
      obtain ⟨wx, hwx⟩ : ∃ wx, wx = wr.alloc (.cells #[.string ⟨key.toArray⟩, .int .i64 v.k, .string ⟨v.s.toArray⟩, .bool v.n, .int .u64 v.h, .int .u64 v.l, .bool true] 69) := ⟨_, rfl⟩
      have hfx : Fr [] wr wx := by rw [hwx]; exact (Fr.refl [] wr).alloc _
      have hblx : wx.heap[Bl]? = w1.heap[Bl]? := (hfx.block Bl (by
        rcases Nat.lt_or_ge Bl wr.heap.size with h | h
        · exact h
        · have h2 := HBL.out
          rw [Array.getElem?_eq_none h, Array.getElem?_eq_getElem hB1] at h2
          cases h2) (by simp)).trans HBL.out
      obtain ⟨fn, tmps, assign, body, hy, hR⟩ := HY.out Bl k (key, v) wx hBl hx (HG.out Bl k wr wx HJ.out hfx)
      unfold CV.val at hy
      dsimp only at hy
      rw [hwx] at hy
      have HR := Lib.hid hR; have HBX := Lib.hid hblx; have HWX := Lib.hid hwx
      clear hxm hc hcr hR hblx hfx hx hwx
      gi_wp2
      rw [← HWX.out]
      refine HR.out.mono ?_
      rintro e W3 (⟨rfl, hJ3, hk3⟩ | ⟨rfl, hJx3⟩)
      · have HJ3 := Lib.hid hJ3; have HK3 := Lib.hid (hk3.trans HBX.out)
        clear hJ3 hk3 hy c0 c1 c2 c3 c4 c5 c6
        gi_wp2
        go_roundw
        case rel => exact ⟨k + 1, by go_num, by omega, HJ3.out, HK3.out⟩
        case measure => first | (simp [intOf]; done) | (simp [intOf]; omega)
      · have HJX := Lib.hid hJx3
        clear hJx3 hy c0 c1 c2 c3 c4 c5 c6
        gi_wp2
        refine bodyPost_ret (results_none rfl _ _ _) rfl ?_
        exact ⟨⟨_, rfl⟩, .inr HJX.out⟩
    · obtain rfl : k = n := by omega
      gi_wp2
      go_end0
      exact ⟨⟨_, rfl⟩, .inl ⟨Bl, hBl, by rw [← HNL.out]; exact HJ.out⟩⟩
end Go.Proofs.Ytfabmbemdaelcaa.C
