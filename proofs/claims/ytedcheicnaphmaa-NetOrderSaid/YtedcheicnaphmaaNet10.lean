/-
  Wire: a copy of a net's wire. No conditions on the program.
-/
import Derived.Test.YtedcheicnaphmaaNet9
namespace Go.Proofs.Ytedcheicnaphmaa
open Go.RowKit
set_option linter.unusedVariables false
set_option linter.unusedSimpArgs false

theorem far_c {W : World} {a b i j : Nat} {u : Value} (h : a ≠ b) : (W.setCell ⟨a, i, none⟩ u).cell? ⟨b, j, none⟩ = W.cell? ⟨b, j, none⟩ := World.cell?_setCell_far W ⟨a, i, none⟩ ⟨b, j, none⟩ u h
set_option maxRecDepth 100000 in
set_option maxHeartbeats 2000000 in
theorem wire_yes {w : World} {B n : Nat} {now : Int} {ws : List Wr} (h : NetS w B n now ws) (hlen : ws.length ≤ 64) {k : Nat} (hk : k < ws.length) (x : Wr) (hx : ws.getD k default = x) (hi : x.inn.length ≤ 100000000) (hgo : x.got.length ≤ 100000000) :
    Calls Try.prog 14 #[.pointer (some ⟨n, 0, none⟩), .int .i64 ((k : Int) + 1)] w fun e w' => ∃ A1 c1 A2 c2, e = .returned (.tuple #[.agg #[.int .i64 x.st, .string ⟨x.nm.toArray⟩, .slice A1 x.inn.length c1, .int .i64 x.win, .slice A2 x.got.length c2, .bool x.en, .bool x.sh, .bool x.rs], .bool true]) ∧ Bytes w' A1 x.inn ∧ Bytes w' A2 x.got ∧ NetS w' B n now ws ∧ Fr [] w w' := by
  obtain ⟨v, G, IV, GV, h⟩ := h
  have hw := h.wire k hk
  rw [hx] at hw
  obtain ⟨IA, icap, hiv, hiat, hil1, hil2, hiA, -⟩ := (h.inn k hk).at_
  obtain ⟨GA, gcap, hgv, hgat, hgl1, hgl2, hgA, -⟩ := (h.got k hk).at_
  rw [hx, byteVals_length] at hiv hgv
  rw [hx] at hiat hgat hil1 hgl1
  rw [byteVals_length] at hil1 hgl1
  rw [hiv, hgv] at hw
  obtain ⟨d0, d1, d2, d3, d4, d5, d6, d7, -⟩ := w_cells hw
  have hgl := hw.lt
  have hat := fun (w : World) (h : NetR w B n now ws v G IV GV) => at_yes h hlen k hk
  have HAT := Lib.hid hat; have H := Lib.hid h; have HW := Lib.hid hw
  have HIA := Lib.hid hiat; have HGA := Lib.hid hgat; have HIN := Lib.hid hiA; have HGN := Lib.hid hgA
  clear h hw hiat hgat hiA hgA hiv hgv hx hat
  go_enter Try.func14, Try.ntmps14
  go_wp2_with fail
  go_at_call 20
  refine (HAT.out _ (H.out.fr_nil ((Fr.refl [] w).alloc _))).mono ?_
  rintro e w1 ⟨rfl, rfl⟩
  go_upto_region 5 with fail
  refine code_gen fun wb hwb => ?_
  have h4 : Bk wb w.heap.size 41 #[.int .i64 0, .string ⟨#[]⟩, .slice none 0 0, .int .i64 0, .slice none 0 0, .bool false, .bool false, .bool false] := by rw [hwb]; exact (Bk.new w _ _).alloc _
  have h7 : Bk wb (w.heap.size + 1) 41 #[.int .i64 x.st, .string ⟨x.nm.toArray⟩, .slice IA x.inn.length icap, .int .i64 x.win, .slice GA x.got.length gcap, .bool x.en, .bool x.sh, .bool x.rs] := by
    rw [hwb]
    have := Bk.new (w.alloc (.cells #[.int .i64 0, .string ⟨#[]⟩, .slice none 0 0, .int .i64 0, .slice none 0 0, .bool false, .bool false, .bool false] 41)) 41 #[.int .i64 x.st, .string ⟨x.nm.toArray⟩, .slice IA x.inn.length icap, .int .i64 x.win, .slice GA x.got.length gcap, .bool x.en, .bool x.sh, .bool x.rs]
    simpa using this
  have hfb : Fr [] w wb := by rw [hwb]; exact ((Fr.refl [] w).alloc _).alloc _
  clear hwb
  have hwk := HW.out.fr hfb (by simp)
  have e2 : wb.cell? ⟨G k, 2, none⟩ = some (.slice IA x.inn.length icap) := hwk.cell_ (i := 2) rfl
  have e4 : wb.cell? ⟨G k, 4, none⟩ = some (.slice GA x.got.length gcap) := hwk.cell_ (i := 4) rfl
  have hgk : G k ≠ w.heap.size + 1 := by omega
  have HFB := Lib.hid hfb; have H4 := Lib.hid h4; have H7 := Lib.hid h7
  clear h4 h7 hfb hwk d0 d1 d2 d3 d4 d5 d6 d7
  refine wp_region_M_ (G := fun a b => Fr [] a b) (S := fun W => W.cell? ⟨G k, 2, none⟩ = some (.slice IA x.inn.length icap) ∧ W.cell? ⟨G k, 4, none⟩ = some (.slice GA x.got.length gcap)) ⟨fun w => Fr.refl [] w, fun a b c h k => h.trans k, fun a b h k' => ⟨(k'.cell (World.block_lt_of_cell? a _ h.1) (by simp)).trans h.1, (k'.cell (World.block_lt_of_cell? a _ h.2) (by simp)).trans h.2⟩, by kernel_rfl, fun _ _ d _ _ h => by cases d <;> exact h⟩ (by kernel_rfl) fun su => ?_
  have SU := Lib.hid su
  have HS : Hid (wb.drew.cell? ⟨G k, 2, none⟩ = some (.slice IA x.inn.length icap) ∧ wb.drew.cell? ⟨G k, 4, none⟩ = some (.slice GA x.got.length gcap)) := Lib.hid ⟨e2, e4⟩
  clear su e2 e4
  refine M_move (i := 0) _ SU.out rfl rfl (by kernel_rfl) HS.out rfl ?_
  simp only [Act.put, Act.eval, List.setIfInBounds_toArray, List.set_cons_zero, List.set_cons_succ, List.getElem?_toArray, List.getElem?_cons_zero, List.getElem?_cons_succ, Option.getD_some]
  refine M_val (i := 1) (v := ?_) SU.out rfl (by kernel_rfl) HS.out rfl (fun W hS => ?_) ?_
  rotate_left
  · go_simp
    first | done | rfl
  simp only [Act.put, List.setIfInBounds_toArray, List.set_cons_zero, List.set_cons_succ]
  refine M_val (i := 2) (v := ?_) SU.out rfl (by kernel_rfl) HS.out rfl (fun W hS => ?_) ?_
  rotate_left
  · go_simp
    first | done | rfl
  simp only [Act.put, List.setIfInBounds_toArray, List.set_cons_zero, List.set_cons_succ]
  refine M_val (i := 3) (v := ?_) SU.out rfl (by kernel_rfl) HS.out rfl (fun W hS => ?_) ?_
  rotate_left
  · go_simp
    first | done | rfl
  simp only [Act.put, List.setIfInBounds_toArray, List.set_cons_zero, List.set_cons_succ]
  refine M_val (i := 4) (v := .slice IA x.inn.length icap) SU.out rfl (by kernel_rfl) HS.out rfl (fun W hS => ?_) ?_
  · obtain ⟨s1, s2⟩ := hS
    go_simp
    first | done | rfl
  simp only [Act.put, List.setIfInBounds_toArray, List.set_cons_zero, List.set_cons_succ]
  refine M_move (i := 6) _ SU.out rfl rfl (by kernel_rfl) HS.out rfl ?_
  simp only [Act.put, Act.eval, List.setIfInBounds_toArray, List.set_cons_zero, List.set_cons_succ, List.getElem?_toArray, List.getElem?_cons_zero, List.getElem?_cons_succ, Option.getD_some]
  refine M_val (i := 7) (v := ?_) SU.out rfl (by kernel_rfl) HS.out rfl (fun W hS => ?_) ?_
  rotate_left
  · go_simp
    first | done | rfl
  simp only [Act.put, List.setIfInBounds_toArray, List.set_cons_zero, List.set_cons_succ]
  refine M_val (i := 8) (v := ?_) SU.out rfl (by kernel_rfl) HS.out rfl (fun W hS => ?_) ?_
  rotate_left
  · go_simp
    first | done | rfl
  simp only [Act.put, List.setIfInBounds_toArray, List.set_cons_zero, List.set_cons_succ]
  refine M_val (i := 9) (v := ?_) SU.out rfl (by kernel_rfl) HS.out rfl (fun W hS => ?_) ?_
  rotate_left
  · go_simp
    first | done | rfl
  simp only [Act.put, List.setIfInBounds_toArray, List.set_cons_zero, List.set_cons_succ]
  refine M_val (i := 10) (v := .slice GA x.got.length gcap) SU.out rfl (by kernel_rfl) HS.out rfl (fun W hS => ?_) ?_
  · obtain ⟨s1, s2⟩ := hS
    go_simp
    first | done | rfl
  simp only [Act.put, List.setIfInBounds_toArray, List.set_cons_zero, List.set_cons_succ]
  refine wpAnyM_all (rs := [5]) (by kernel_rfl) (by simp) (fun w2 hG2 => ?_)
  refine allM.head rfl rfl (fun K5 hK5 => ?_) allM.nil
  go_simp
  have hf2 := (HFB.out.drew).trans hG2
  refine (clone_any (HIA.out.fr_nil hf2) HIN.out hil1 (by omega)).mono ?_
  rintro e w3 ⟨A1, c1, rfl, hb1, -, -, -, hf3, hn1⟩
  have hs2 : w.heap.size + 1 < w2.heap.size := Nat.lt_of_lt_of_le H7.out.lt hG2.size
  have HN1 : Hid (∀ a, A1 = some a → w.heap.size + 1 < a.block) := Lib.hid fun a ha => Nat.lt_of_lt_of_le hs2 (hn1 a ha)
  have HS2 := Lib.hid hs2
  have HF23 := Lib.hid hf3.size
  clear hn1 hs2
  have hf3' := hf2.trans hf3
  have hS3 := SU.out.sg _ _ HS.out (hG2.trans hf3)
  refine hK5.out _ _ hS3 ?_
  clear hK5 K5
  have HB1 := Lib.hid hb1; have HF3 := Lib.hid hf3'; have HG3 := Lib.hid (hG2.trans hf3); have HS3 := Lib.hid hS3
  clear hb1 hf3 hf2 hG2 hf3' hS3
  refine M_val (i := 12) (v := ?_) SU.out rfl (by kernel_rfl) HS3.out rfl (fun W hS => ?_) ?_
  rotate_left
  · go_simp
    first | done | rfl
  simp only [Act.put, List.setIfInBounds_toArray, List.set_cons_zero, List.set_cons_succ]
  refine wpAnyM_all (rs := [11]) (by kernel_rfl) (by simp) (fun w4 hG4 => ?_)
  refine allM.head rfl rfl (fun K6 hK6 => ?_) allM.nil
  go_simp
  have hf4 := HF3.out.trans hG4
  refine (clone_any (HGA.out.fr_nil hf4) HGN.out hgl1 (by omega)).mono ?_
  rintro e w5 ⟨A2, c2, rfl, hb2, -, -, -, hf5, hn2⟩
  have HN2 : Hid (∀ a, A2 = some a → w.heap.size + 1 < a.block) := Lib.hid fun a ha => by
    have := hn2 a ha; have := hG4.size; have := HF23.out; have := HS2.out; omega
  clear hn2
  have hf5' := hf4.trans hf5
  have hS5 := SU.out.sg _ _ HS3.out (hG4.trans hf5)
  refine hK6.out _ _ hS5 ?_
  clear hK6 K6
  have HB2 := Lib.hid hb2; have HF5 := Lib.hid hf5'; have HG5 := Lib.hid (HG3.out.trans (hG4.trans hf5)); have HB1' := Lib.hid (HB1.out.fr_nil (hG4.trans hf5)); have HS5 := Lib.hid hS5
  clear hb2 hf5 hf4 hG4 hf5' hS5
  refine wpAnyM_all (rs := [13]) (by kernel_rfl) (by simp) (fun w6 hG6 => ?_)
  refine allM.head rfl rfl (fun K7 hK7 => ?_) allM.nil
  have h7 := (H7.out.drew.fr HG5.out (by simp)).fr hG6 (by simp)
  have hS6 := SU.out.sg _ _ HS5.out hG6
  have e2 : w6.cell? ⟨w.heap.size + 1, 2, none⟩ = some (.slice IA x.inn.length icap) := h7.cell_ (i := 2) rfl
  have f2 := h7.frozen 2
  go_simp
  refine hK7.out _ _ ⟨(far_c hgk.symm).trans hS6.1, (far_c hgk.symm).trans hS6.2⟩ ?_
  have hf6 : Fr [] w (w6.setCell ⟨w.heap.size + 1, 2, none⟩ (.slice A1 x.inn.length c1)) := (HF5.out.trans hG6).setCell (.inr (by simp)) _
  have h72 := h7.put 2 (.slice A1 x.inn.length c1)
  have h42 := ((H4.out.drew.fr HG5.out (by simp)).fr hG6 (by simp)).far (p := ⟨w.heap.size + 1, 2, none⟩) (by simp) (.slice A1 x.inn.length c1)
  have hs6 : w.heap.size ≤ w6.heap.size := Nat.le_trans HF5.out.size hG6.size
  have H72 := Lib.hid h72; have H42 := Lib.hid h42; have HF6 := Lib.hid hf6; have HS6 := Lib.hid hS6; have HG6 := Lib.hid hG6
  clear hK7 K7 e2 f2 h7 h72 h42 hf6 hS6 hG6
  refine M_val (i := 14) (v := ?_) SU.out rfl (by kernel_rfl) ⟨(far_c hgk.symm).trans HS6.out.1, (far_c hgk.symm).trans HS6.out.2⟩ rfl (fun W hS => ?_) ?_
  rotate_left
  · go_simp
    first | done | rfl
  simp only [Act.put, List.setIfInBounds_toArray, List.set_cons_zero, List.set_cons_succ]
  refine wpAnyM_all (rs := [15]) (by kernel_rfl) (by simp) (fun w7 hG7 => ?_)
  refine allM.head rfl rfl (fun K8 hK8 => ?_) allM.nil
  have h7 := H72.out.fr hG7 (by simp)
  have e4 : w7.cell? ⟨w.heap.size + 1, 4, none⟩ = some (.slice GA x.got.length gcap) := h7.cell_ (i := 4) rfl
  have f4 := h7.frozen 4
  go_simp
  have q1 : w7.cell? ⟨G k, 2, none⟩ = some (.slice IA x.inn.length icap) ∧ w7.cell? ⟨G k, 4, none⟩ = some (.slice GA x.got.length gcap) := SU.out.sg _ _ ⟨(far_c hgk.symm).trans HS6.out.1, (far_c hgk.symm).trans HS6.out.2⟩ hG7
  refine hK8.out _ _ ⟨(far_c hgk.symm).trans q1.1, (far_c hgk.symm).trans q1.2⟩ ?_
  have hf7 : Fr [] w (w7.setCell ⟨w.heap.size + 1, 4, none⟩ (.slice A2 x.got.length c2)) := (HF6.out.trans hG7).setCell (.inr (by simp)) _
  have h74 := h7.put 4 (.slice A2 x.got.length c2)
  have h44 := (H42.out.fr hG7 (by simp)).far (p := ⟨w.heap.size + 1, 4, none⟩) (by simp) (.slice A2 x.got.length c2)
  have hfw : Fr [w.heap.size + 1] w5 (w7.setCell ⟨w.heap.size + 1, 4, none⟩ (.slice A2 x.got.length c2)) := (((HG6.out.nil_).setCell (.inl (by simp)) _).trans hG7.nil_).setCell (.inl (by simp)) _
  clear hK8 K8 e4 f4 h7 q1 hG7
  refine wpAnyM_done (by kernel_rfl) (fun w8 hG8 => ?_)
  have h78 : Bk w8 (w.heap.size + 1) 41 #[.int .i64 x.st, .string ⟨x.nm.toArray⟩, .slice A1 x.inn.length c1, .int .i64 x.win, .slice A2 x.got.length c2, .bool x.en, .bool x.sh, .bool x.rs] := h74.fr hG8 (by simp)
  have h48 := h44.fr hG8 (by simp)
  have z0 := h48.frozen 0; have z1 := h48.frozen 1; have z2 := h48.frozen 2; have z3 := h48.frozen 3; have z4 := h48.frozen 4; have z5 := h48.frozen 5; have z6 := h48.frozen 6; have z7 := h48.frozen 7
  have y0 := h48.cell_ (i := 0) rfl; have y1 := h48.cell_ (i := 1) rfl; have y2 := h48.cell_ (i := 2) rfl; have y3 := h48.cell_ (i := 3) rfl; have y4 := h48.cell_ (i := 4) rfl; have y5 := h48.cell_ (i := 5) rfl; have y6 := h48.cell_ (i := 6) rfl; have y7 := h48.cell_ (i := 7) rfl
  have x0 := h78.cell_ (i := 0) rfl; have x1 := h78.cell_ (i := 1) rfl; have x2 := h78.cell_ (i := 2) rfl; have x3 := h78.cell_ (i := 3) rfl; have x4 := h78.cell_ (i := 4) rfl; have x5 := h78.cell_ (i := 5) rfl; have x6 := h78.cell_ (i := 6) rfl; have x7 := h78.cell_ (i := 7) rfl
  have HF8 := Lib.hid (hf7.trans hG8); have HFW := Lib.hid (hfw.trans hG8.nil_); have H48 := Lib.hid h48
  clear h74 h44 hf7 hfw hG8 h78 h48
  go_wp2_with fail
  refine body_gen fun W hW => ?_
  have j : Bk W w.heap.size 41 #[.int .i64 x.st, .string ⟨x.nm.toArray⟩, .slice A1 x.inn.length c1, .int .i64 x.win, .slice A2 x.got.length c2, .bool x.en, .bool x.sh, .bool x.rs] := by
    rw [hW]; exact (((((((H48.out.put 0 _).put 1 _).put 2 _).put 3 _).put 4 _).put 5 _).put 6 _).put 7 _
  have hff : Fr [] w W := by
    rw [hW]
    exact (((((((HF8.out.setCell (.inr (by simp)) _).setCell (.inr (by simp)) _).setCell (.inr (by simp)) _).setCell (.inr (by simp)) _).setCell (.inr (by simp)) _).setCell (.inr (by simp)) _).setCell (.inr (by simp)) _).setCell (.inr (by simp)) _
  have hfw : Fr [w.heap.size + 1, w.heap.size] w5 W := by
    rw [hW]
    exact ((((((((HFW.out.mono (l' := [w.heap.size + 1, w.heap.size]) (by simp)).setCell (.inl (by simp)) _).setCell (.inl (by simp)) _).setCell (.inl (by simp)) _).setCell (.inl (by simp)) _).setCell (.inl (by simp)) _).setCell (.inl (by simp)) _).setCell (.inl (by simp)) _).setCell (.inl (by simp)) _
  clear hW
  have k0 := j.cell_ (i := 0) rfl; have k1 := j.cell_ (i := 1) rfl; have k2 := j.cell_ (i := 2) rfl; have k3 := j.cell_ (i := 3) rfl; have k4 := j.cell_ (i := 4) rfl; have k5 := j.cell_ (i := 5) rfl; have k6 := j.cell_ (i := 6) rfl; have k7 := j.cell_ (i := 7) rfl
  refine bodyPost_ret (v := .tuple #[.agg #[.int .i64 x.st, .string ⟨x.nm.toArray⟩, .slice A1 x.inn.length c1, .int .i64 x.win, .slice A2 x.got.length c2, .bool x.en, .bool x.sh, .bool x.rs], .bool true]) (by simp [results, Try.results14, go_sem, k0, k1, k2, k3, k4, k5, k6, k7]) rfl ?_
  exact ⟨A1, c1, A2, c2, rfl, HB1'.out.fr hfw (fun a ha _ => by have := HN1.out a ha; simp; omega), HB2.out.fr hfw (fun a ha _ => by have := HN2.out a ha; simp; omega), ⟨v, G, IV, GV, H.out.fr_nil hff⟩, hff⟩
end Go.Proofs.Ytedcheicnaphmaa
