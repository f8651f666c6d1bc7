/-
  Drop of an array of ints, where too few are gaps for a new list. No conditions.
-/
import Derived.Test.YtfabmbemdaelcaaAs3
namespace Go.Proofs.Ytfabmbemdaelcaa
open Go.RowKit Go.ChangeShapes Go.WideShapes Go.Maps
set_option linter.unusedVariables false
set_option linter.unusedSimpArgs false

theorem flatE_gap (es : List (Ent Int)) : ∀ i : Nat, i < es.length → (((es.flatMap cellsE).set (i * 3) (.string ⟨#[]⟩)).set (i * 3 + 1) (.int .i64 0)).set (i * 3 + 2) (.bool false) = (es.set i none).flatMap cellsE := by
  induction es with
  | nil => intro i h; simp at h
  | cons a r ih =>
    intro i h
    have hl := cellsE_len a
    rw [List.flatMap_cons]
    cases i with
    | zero =>
      rw [List.set_cons_zero, List.flatMap_cons, List.set_append_left _ _ (by omega), List.set_append_left _ _ (by simp; omega), List.set_append_left _ _ (by simp; omega)]
      cases a <;> rfl
    | succ i =>
      rw [List.set_cons_succ, List.flatMap_cons, List.set_append_right _ _ (by omega), List.set_append_right _ _ (by omega), List.set_append_right _ _ (by omega), hl,
        show (i + 1) * 3 - 3 = i * 3 by omega, show (i + 1) * 3 + 1 - 3 = i * 3 + 1 by omega, show (i + 1) * 3 + 2 - 3 = i * 3 + 2 by omega, ih i (by simpa using h)]
theorem row_gap {w : World} {b n cap : Nat} {es : List (Ent Int)} (h : w.ownsRow 0 66 3 (.slice (some ⟨b, 0, none⟩) n cap) n (es.flatMap cellsE)) {i : Nat} (hi : i < es.length) :
    (((w.setCell ⟨b, i * 3, none⟩ (.string ⟨#[]⟩)).setCell ⟨b, i * 3 + 1, none⟩ (.int .i64 0)).setCell ⟨b, i * 3 + 2, none⟩ (.bool false)).ownsRow 0 66 3 (.slice (some ⟨b, 0, none⟩) n cap) n ((es.set i none).flatMap cellsE) := by
  obtain ⟨h1, ⟨h2, h3⟩ | ⟨b', cap', cur, h2, h0, hb, h3, h4, h5, h6⟩⟩ := h
  · cases h2
  · injection h2 with h2 _ h2'
    injection h2 with h2; injection h2 with h2
    subst h2 h2'
    have hbk : Bk w b 66 cur := hb
    refine ⟨by rw [flatE_len, List.length_set]; rw [flatE_len] at h1; exact h1, .inr ⟨b, cap, _, rfl, h0, ((hbk.put (i * 3) (.string ⟨#[]⟩)).put (i * 3 + 1) (.int .i64 0)).put (i * 3 + 2) (.bool false), h3, h4, by simpa using h5, ?_⟩⟩
    rw [Array.toList_setIfInBounds, Array.toList_setIfInBounds, Array.toList_setIfInBounds, List.take_set, List.take_set, List.take_set, h6, flatE_gap es i hi]
theorem row_all {w : World} {A : Option Addr} {n cap : Nat} {es : List (Ent Int)} (h : w.ownsRow 0 66 3 (.slice A n cap) n (es.flatMap cellsE)) {b : Nat} (hA : A = some ⟨b, 0, none⟩) :
    ∃ cur, Bk w b 66 cur := by
  obtain ⟨h1, ⟨h2, h3⟩ | ⟨b', cap', cur, h2, h0, hb, h3, h4, h5, h6⟩⟩ := h
  · injection h2 with h2 _ _; rw [h2] at hA; cases hA
  · injection h2 with h2 _ _; rw [hA] at h2; injection h2 with h2; injection h2 with h2; subst h2
    exact ⟨cur, hb⟩
theorem ent_cells {w : World} {b n cap : Nat} {es : List (Ent Int)} (h : w.ownsRow 0 66 3 (.slice (some ⟨b, 0, none⟩) n cap) n (es.flatMap cellsE)) {i : Nat} {k : List UInt8} {u : Int} (hi : es[i]? = some (some (k, u))) :
    w.cell? ⟨b, i * 3, none⟩ = some (.string ⟨k.toArray⟩) ∧ w.cell? ⟨b, i * 3 + 1, none⟩ = some (.int .i64 u) ∧ w.cell? ⟨b, i * 3 + 2, none⟩ = some (.bool true) := by
  obtain ⟨b', hb, -, -, hc⟩ := row_ent h hi
  injection hb with hb; injection hb with hb; subst hb
  exact ⟨hc 0 _ (by omega) rfl, hc 1 _ (by omega) rfl, hc 2 _ (by omega) rfl⟩
set_option maxRecDepth 100000 in
set_option maxHeartbeats 4000000 in
theorem drop_none {w : World} {g : Nat} {l : List Nat} {es : List (Ent Int)} (h : Arr w g l es) (k : List UInt8) (hk : k.length ≤ maxLen) (hi : idxOf es k = none) :
    Calls Try.prog 11 #[.pointer (some ⟨g, 0, none⟩), .string ⟨k.toArray⟩] w fun e w' => e = .returned (.bool false) ∧ w' = w := by
  obtain ⟨mv, A, cap, D, rfl, hb, hm, M, hr⟩ := h
  have hlk := hm.look M (k := k) hk
  have c0 := hb.cell_ (i := 0) rfl
  have e1 : posI es k = 0 := by unfold posI; rw [hi]
  rw [hi, e1] at hlk
  clear hi e1 hm M hr hb
  go_enter Try.func11, Try.ntmps11
  go_wp2_with fail
  go_ret
  exact ⟨rfl, rfl⟩
set_option maxRecDepth 100000 in
set_option maxHeartbeats 8000000 in
theorem drop_some {w : World} {g : Nat} {l : List Nat} {es : List (Ent Int)} (h : Arr w g l es) (k : List UInt8) (hk : k.length ≤ 1000) (hn : es.length ≤ 1000) (hwt : wt es ≤ 10000000) {i : Nat} (hi : idxOf es k = some i) (hgap : es.length ≤ 2 * ((live es).length - 1) + 8) :
    Calls Try.prog 11 #[.pointer (some ⟨g, 0, none⟩), .string ⟨k.toArray⟩] w (SetPost w g l (es.set i none) true) := by
  obtain ⟨mv, A, cap, D, rfl, hb, hm, M, hr⟩ := h
  have hlk := hm.look M (k := k) (by unfold maxLen; omega)
  have e1 : posI es k = (i : Int) := by unfold posI; rw [hi]
  rw [hi, e1] at hlk
  obtain ⟨u, hu⟩ := idxOf_some hi
  have hlt := idxOf_lt hi
  have hgl := live_gap_len hu
  have hng := own_ne hr hb (by decide)
  obtain ⟨b, rfl, hbl, -, -⟩ := row_ent hr hu
  obtain ⟨cur, hcur⟩ := row_all hr rfl
  have hbg : g ≠ b := fun e => hng (by rw [e]; rfl)
  rcases hm with ⟨rfl, rfl⟩ | ⟨bm, rfl, hown⟩
  · have := M.has k; rw [hi] at this; cases this
  obtain ⟨mes, mc, hmb, -⟩ := id hown
  have hgm : g ≠ bm := bk_ne_map hb hmb
  have hbm : b ≠ bm := bk_ne_map hcur hmb
  have c0 := hb.cell_ (i := 0) rfl
  obtain ⟨N, hN⟩ : ∃ N, N = (live (es.set i none)).length := ⟨_, rfl⟩
  have hN1 : N + 1 = (live es).length := by rw [hN]; exact hgl.1
  have HMD := Lib.hid (M.del hi); have HB := Lib.hid hb; have HR := Lib.hid hr; have HCUR := Lib.hid hcur; have HOWN := Lib.hid hown; have HGL := Lib.hid hgl.2; have HN := Lib.hid hN; have HU := Lib.hid hu; have HM0 := Lib.hid M
  have hwle : 32 + k.length ≤ wt es := by have := hgl.2; omega
  have hgapN : es.length ≤ 2 * N + 8 := by rw [← hN1] at hgap; simpa using hgap
  have hNle : N ≤ 1000 := by have := live_le es; omega
  have hltI : (i : Int) < (es.length : Int) := by omega
  clear hi e1 M hr hb hu hgl hng hmb hown hcur hN hN1 hgap
  go_enter Try.func11, Try.ntmps11
  go_upto_region 7 with (at_delete; refine wpList_delete_own _ rfl _ _ 25 9 rfl 3 strKey Try.underlying25 _ bm es.length D rfl HOWN.out _ _ rfl (keyS (by unfold maxLen; omega)) ?_; intro w1 hown1 hturn1; have hf1 := (Fr.refl [bm] w).grown hturn1.grown (fun g' e => .inl (by injection e with e; simp [e])); have hb1 := HB.out.fr hf1 (by simpa using hgm); have x1 := hb1.cell_ (i := 1) rfl; have x2 := hb1.cell_ (i := 2) rfl; have g2 := hb1.frozen 2; have hcur1 := HCUR.out.fr hf1 (by simpa using hbm); have hr1 := own_fr HR.out hf1 (fun b' hb' hbl' => by simp [Value.ownBlock] at hb' hbl'; omega); obtain ⟨y0, y1, y2⟩ := ent_cells hr1 HU.out; have z0 := hcur1.frozen (i * 3); have z1 := hcur1.frozen (i * 3 + 1); have z2 := hcur1.frozen (i * 3 + 2); have HR1 := Lib.hid hr1; have HB1 := Lib.hid hb1; have HF1 := Lib.hid hf1; have HOWN1 := Lib.hid hown1; have HCUR1 := Lib.hid hcur1; clear hown1 hturn1 hf1 hb1 hcur1 hr1 c0)
  refine code_gen fun Wf hWf => ?_
  have hFr : Fr [g, b] w1 Wf := by rw [hWf]; exact ((((Fr.refl [g, b] w1).setCell (.inl (by simp)) _).setCell (.inl (by simp)) _).setCell (.inl (by simp)) _).setCell (.inl (by simp)) _
  have hbf : Bk Wf g 28 #[.map (some bm), .slice (some ⟨b, 0, none⟩) es.length cap, .int .i64 ((wt es : Int) - (32 + (k.length : Int)))] := by
    rw [hWf]; exact (((HB1.out.far (p := ⟨b, i * 3, none⟩) hbg _).far (p := ⟨b, i * 3 + 1, none⟩) hbg _).far (p := ⟨b, i * 3 + 2, none⟩) hbg _).put 2 _
  have hrf : Wf.ownsRow 0 66 3 (.slice (some ⟨b, 0, none⟩) es.length cap) es.length ((es.set i none).flatMap cellsE) := by
    rw [hWf]; exact own_fr (row_gap HR1.out hlt) (l := [g]) ((Fr.refl [g] _).setCell (.inl (by simp)) _) (fun b' hb' hbl' => by simp [Value.ownBlock] at hb' hbl'; omega)
  have hmf : MapV Wf (.map (some bm)) es.length (D.del (.string k)) := MapV.fr (w := w1) (.inr ⟨bm, rfl, HOWN1.out⟩) hFr (fun b' hb' hbl' => by injection hb' with hb'; simp at hbl'; omega)
  have hl0 := fun ty => hmf.len_ HMD.out ty
  have hl1 := fun ty => (MapV.fr hmf ((Fr.refl [] Wf).drew) (by simp)).len_ HMD.out ty
  have hl2 := fun q ty => (MapV.fr hmf ((Fr.refl [] Wf).drewN q) (by simp)).len_ HMD.out ty
  rw [← HN.out] at hl0 hl1 hl2
  have c0 := hbf.cell_ (i := 0) rfl; have c1 := hbf.cell_ (i := 1) rfl
  have HFR := Lib.hid hFr; have HBF := Lib.hid hbf; have HRF := Lib.hid hrf; have HMF := Lib.hid hmf
  have m1 : IntKind.i64.wrap (2 * (N : Int)) = 2 * (N : Int) := by rw [IntKind.wrap_i64]; omega
  have m2 : IntKind.i64.wrap (2 * (N : Int) + 8) = 2 * (N : Int) + 8 := by rw [IntKind.wrap_i64]; omega
  have m3 : ¬ 2 * N + 8 < es.length := by omega
  have m4 : ¬ 2 * (N : Int) + 8 < (es.length : Int) := by omega
  clear hWf hFr hbf hrf hmf x1 x2 g2 y0 y1 y2 z0 z1 z2 hlk
  go_quiet (fail)
  go_wp2_with fail
  go_ret
  have hwt2 : ((wt (es.set i none) : Nat) : Int) = (wt es : Int) - (32 + (k.length : Int)) := by have := HGL.out; omega
  refine ⟨rfl, _, ⟨.map (some bm), some ⟨b, 0, none⟩, cap, D.del (.string k), rfl, ?_, ?_, HMD.out, ?_⟩, ?_, ?_⟩
  · rw [List.length_set, hwt2]; exact HBF.out.drewN _
  · rw [List.length_set]; exact MapV.fr HMF.out ((Fr.refl [] Wf).drewN _) (by simp)
  · rw [List.length_set]; exact own_fr HRF.out ((Fr.refl [] Wf).drewN _) (by simp)
  · exact (((Fr.refl _ w).trans' HF1.out (fun b' hb' => by simp at hb'; subst hb'; left; simp [mapBlk])).trans' HFR.out (fun b' hb' => by left; simp at hb'; rcases hb' with rfl | rfl <;> simp [Value.ownBlock])).drewN _
  · intro b' hb'; rw [List.length_set] at hb'; exact .inl hb'
end Go.Proofs.Ytfabmbemdaelcaa
