/-
  Compile, of a part that can be laid. No conditions.
-/
import Derived.Test.YtkihikphebkepaaLy7
import Derived.OwnWalk
namespace Go.Proofs.Ytkihikphebkepaa
open Go.RowKit Go.ChangeMaps
set_option linter.unusedVariables false
set_option linter.unusedSimpArgs false

theorem own_rebase {w : World} {base base' n sz : Nat} {v : Value} {e : TypeId} {xs : List Value} (h : w.ownsRow base e sz v n xs) (hb : ∀ g, v.ownBlock = some g → base' ≤ g) : w.ownsRow base' e sz v n xs := by
  obtain ⟨h1, h2 | ⟨g, cap, cur, h2, h0, h3⟩⟩ := h
  · exact ⟨h1, .inl h2⟩
  · exact ⟨h1, .inr ⟨g, cap, cur, h2, hb g (by rw [h2]; rfl), h3⟩⟩
/-- Steps that a call has made. -/
def StepsNew (w : World) (L : List Sp) (v : Value) (w' : World) : Prop := ∃ A cap, v = .slice A L.length cap ∧ w'.ownsRow w.heap.size 48 7 v L.length (L.flatMap Sp.cells)
def Sp.found : Sp := ⟨4, 0, 0, 0, 0, 0, 0⟩
/-- What Compile answers. -/
def CompPost (w : World) (t : PT) (e : Ending) (w' : World) : Prop :=
  Fr [] w w' ∧ (rightP t = false ∧ e = .returned (.tuple #[.slice none 0 0, .iface 60 (.int .i64 4)]) ∨
    rightP t = true ∧ 4000 ≤ sizP t ∧ e = .returned (.tuple #[.slice none 0 0, .iface 60 (.int .i64 5)]) ∨
    rightP t = true ∧ sizP t < 4000 ∧ ∃ v, e = .returned (.tuple #[v, .nilIface]) ∧ StepsNew w (layP t 0 ++ [Sp.found]) v w')
def PT.val (t : PT) : Value := .agg #[.int .i64 t.k, .int .u64 t.s0, .int .u64 t.s1, .int .u64 t.s2, .int .u64 t.s3, .int .i64 t.mn, .int .i64 t.mx, .slice t.A t.l.length t.c]
set_option maxRecDepth 100000 in
set_option maxHeartbeats 4000000 in
theorem compile_any {w : World} {t : PT} (hlay : LayOk t) (hp : PMem w t) (hcnt : cntP t ≤ 1199) :
    Calls Try.prog 10 #[t.val] w (CompPost w t) := by
  obtain ⟨wb, hwb⟩ : ∃ wb, wb = w.alloc (.cells #[.int .i64 t.k, .int .u64 t.s0, .int .u64 t.s1, .int .u64 t.s2, .int .u64 t.s3, .int .i64 t.mn, .int .i64 t.mx, .slice t.A t.l.length t.c] 30) := ⟨_, rfl⟩
  have hbk : Bk wb w.heap.size 30 #[.int .i64 t.k, .int .u64 t.s0, .int .u64 t.s1, .int .u64 t.s2, .int .u64 t.s3, .int .i64 t.mn, .int .i64 t.mx, .slice t.A t.l.length t.c] := by rw [hwb]; exact Bk.new w _ _
  have hfb : Fr [] w wb := by rw [hwb]; exact (Fr.refl [] w).alloc _
  have hcells : CellsAt wb w.heap.size 0 t.cells := ⟨_, hbk, fun j u hu => by rw [Nat.zero_add]; simpa [PT.cells] using hu⟩
  have hpb := hp.keep (KeepT.of_nil hfb)
  have hmeas := measure_any hcells hpb hcnt
  obtain ⟨b, hbe⟩ : ∃ b, b = w.heap.size := ⟨_, rfl⟩
  have HLAY := Lib.hid hlay; have HPB := Lib.hid hpb; have HFB := Lib.hid hfb; have HCE := Lib.hid hcells; have HME := Lib.hid hmeas; have HWB := Lib.hid hwb; have HBE := Lib.hid hbe
  clear hlay hp hwb hbk hfb hcells hpb hmeas hbe
  unfold PT.val
  obtain ⟨n, hn⟩ : ∃ n, n = t.l.length := ⟨_, rfl⟩
  have HN := Lib.hid hn
  rw [← hn]
  rw [← hn] at HWB
  clear hn
  go_enter Try.func10, Try.ntmps10
  go_wp2_with fail
  go_at_call 17
  rw [← HWB.out, ← HBE.out]
  rw [← HBE.out] at HME
  refine HME.out.mono ?_
  rintro e w1 ⟨hf, h⟩
  have HF := Lib.hid (HFB.out.trans hf); have HFBW := Lib.hid hf; clear hf
  rcases h with ⟨hr, rfl⟩ | ⟨hr, hs, rfl⟩ | ⟨hr, hs, mv, es, rfl, hm, hcov, hmv⟩
  · have HR := Lib.hid hr; clear hr
    go_wp2_with fail
    go_ret2
    exact ⟨HF.out, .inl ⟨HR.out, rfl⟩⟩
  · have HR := Lib.hid hr; clear hr
    go_wp2_with fail
    go_ret2
    exact ⟨HF.out, .inr (.inl ⟨HR.out, hs, rfl⟩)⟩
  · obtain ⟨z, hz⟩ : ∃ z, z = sizP t := ⟨_, rfl⟩
    rw [← hz] at hs ⊢
    obtain ⟨i0, hi0, hz0, hz1, hz2⟩ := stepParts
    have HR := Lib.hid hr; have HM := Lib.hid hm; have HCOV := Lib.hid hcov; have HZ := Lib.hid hz
    have hcl := HCE.out
    clear hr hm hcov hz
    clear hcl
    go_upto_region 5 with (refine wpList_make_own _ rfl _ _ 22 rfl 0 48 i0 _ 7 Try.underlying22 hi0 hz0 hz1 .i64 .i64 _ (z + 1) rfl rfl (by first | rfl | (simp [Act.eval]; done)) (by rw [hz2]; omega) (by unfold maxLen; omega) (Nat.zero_le _) ?_; intro w3 hown3 hgr3; have hf3 : Fr [] w1 w3 := (Fr.refl [] w1).grown hgr3 (by simp); have HOWN3 := Lib.hid hown3; have HF3 := Lib.hid hf3; clear hown3 hgr3 hf3)
    obtain ⟨B, hB⟩ : ∃ B, B = w1.heap.size := ⟨_, rfl⟩
    rw [← hB] at HOWN3 ⊢
    have hBw : w.heap.size ≤ B := by rw [hB]; exact HF.out.size
    obtain ⟨w4, hw4⟩ : ∃ w4, w4 = w3.alloc (.cells #[.map (some mv), .slice (some ⟨B, 0, none⟩) 0 (z + 1)] 56) := ⟨_, rfl⟩
    have hg4 : Bk w4 w3.heap.size 56 #[.map (some mv), .slice (some ⟨B, 0, none⟩) 0 (z + 1)] := by rw [hw4]; exact Bk.new w3 _ _
    have hf4 : Fr [] w1 w4 := by rw [hw4]; exact HF3.out.alloc _
    have hr4 : w4.ownsRow 0 48 7 (.slice (some ⟨B, 0, none⟩) 0 (z + 1)) 0 [] := by rw [hw4]; exact own_fr HOWN3.out ((Fr.refl [] w3).alloc _) (by simp)
    rw [← hw4]
    obtain ⟨gy, hgy⟩ : ∃ gy, gy = w3.heap.size := ⟨_, rfl⟩
    have hgw : w.heap.size ≤ gy := by rw [hgy]; exact Nat.le_trans HF.out.size HF3.out.size
    rw [← hgy] at hg4 ⊢
    have hlay4 : LaySt w4 gy mv [gy, B] [] := ⟨some ⟨B, 0, none⟩, z + 1, rfl, hg4, hr4⟩
    have hw14 : Fr [] w w4 := HF.out.trans hf4
    have hb4 : Fr [] wb w4 := HFBW.out.trans hf4
    have hk4 : KeepT wb w4 := KeepT.of_nil hb4
    have hcall := HLAY.out w4 gy mv [gy, B] es [] b 0 hlay4 (HM.out.nil_ hf4) HCOV.out (by rw [HBE.out]; exact HCE.out.keep hk4) (HPB.out.keep hk4) HR.out hcnt (by rw [← HZ.out]; simp; omega)
    have HCALL := Lib.hid hcall; have HLAY4 := Lib.hid hlay4; have HW14 := Lib.hid hw14; have HHM := Lib.hid (HM.out.nil_ hf4)
    clear hB hw4 hg4 hf4 hr4 hgy hlay4 hw14 hb4 hk4 hcall
    go_wp2_with fail
    go_at_call 18
    refine HCALL.out.mono ?_
    rintro e w5 ⟨rfl, hout⟩
    rw [List.nil_append] at hout
    obtain ⟨l5, ⟨A5, cap5, rfl, hg5, hr5⟩, hf5, hl5⟩ := hout
    obtain ⟨L5, hL5⟩ : ∃ L5, L5 = layP t ([] : List Sp).length := ⟨_, rfl⟩
    rw [← hL5] at hg5 hr5 hl5
    have hln5 : L5.length = z := by rw [hL5, layP_len t _ HR.out, ← HZ.out]
    have hfw5 : Fr [] w w5 := HW14.out.trans' hf5 (by simp; omega)
    have hblk : ∀ b, (Value.slice A5 L5.length cap5).ownBlock = some b → w.heap.size ≤ b := fun b hb => by
      rcases hl5 b (by simp [hb]) with h | h
      · simp at h; omega
      · exact Nat.le_trans HW14.out.size h
    rw [hln5] at hg5 hr5 hblk
    have x1 := hg5.cell_ (i := 1) rfl
    have hown5 : ∀ O, (w5.alloc O).ownsRow 0 48 7 (.slice A5 z cap5) z (L5.flatMap Sp.cells) := fun O => own_fr hr5 ((Fr.refl [] w5).alloc O) (by simp)
    have HOWN5 := Lib.hid hown5; have HBLK := Lib.hid hblk; have HFW5 := Lib.hid hfw5; have HL5 := Lib.hid hL5; have HLN5 := Lib.hid hln5
    clear hg5 hr5 hf5 hl5 hL5 hln5 hfw5 hblk hown5
    go_wp2_with (at_builtin; refine wpList_append_R rfl (.tmp 26) (.tmp 28) 22 rfl 0 48 i0 _ 7 56 Try.underlying22 hi0 hz0 hz1 hz2 rfl (by omega) (.slice A5 z cap5) z _ (by first | rfl | (simp [Act.eval]; done)) (HOWN5.out _) ⟨w5.heap.size, 0, none⟩ 1 1 [.int .i64 4, .int .u64 0, .int .u64 0, .int .u64 0, .int .u64 0, .int .i64 0, .int .i64 0] (by first | rfl | (simp [Act.eval]; done)) rfl (seven_new w5 48 _ _ _ _ _ _ _) (by simp [Value.oneCell']) (by unfold maxLen; omega) (by omega) (Nat.zero_le _) ?_; intro v' w6 hown6 hgr6 hat6; have HOWN6 := Lib.hid hown6; have HGR6 := Lib.hid hgr6; have HAT6 := Lib.hid hat6; clear hown6 hgr6 hat6)
    go_ret2
    have hlen : (layP t 0 ++ [Sp.found]).length = z + 1 := by rw [List.length_append, layP_len t 0 HR.out, ← HZ.out]; rfl
    have hL5' : L5 = layP t 0 := HL5.out
    have hown := HOWN6.out
    have e1 : L5.flatMap Sp.cells ++ [.int .i64 4, .int .u64 0, .int .u64 0, .int .u64 0, .int .u64 0, .int .i64 0, .int .i64 0] = (layP t 0 ++ [Sp.found]).flatMap Sp.cells := by rw [hL5']; simp [Sp.cells, Sp.found]
    rw [e1] at hown
    have hsz6 := HFW5.out.size
    have hblk6 : ∀ g, v'.ownBlock = some g → w.heap.size ≤ g := fun g hg => by
      rcases HAT6.out with h | h
      · exact HBLK.out g (by rw [← h]; exact hg)
      · rw [hg] at h; simp at h; omega
    refine ⟨(HFW5.out.alloc _).grown HGR6.out (fun g hg => .inr (HBLK.out g hg)), .inr (.inr ⟨HR.out, by rw [← HZ.out]; exact hs, v', rfl, ?_⟩)⟩
    obtain ⟨A', c', hv⟩ := own_form hown (by omega)
    refine ⟨A', c', by rw [hlen]; exact hv, ?_⟩
    rw [hlen]
    exact own_rebase hown hblk6
end Go.Proofs.Ytkihikphebkepaa
