/-
  Drop of an element that is there, of an array of cells. No conditions.
-/
import Derived.Test.YtfabmbemdaelcaaAc6
namespace Go.Proofs.Ytfabmbemdaelcaa.C
open Go.RowKit Go.ChangeShapes Go.WideShapes Go.Maps
set_option linter.unusedVariables false
set_option linter.unusedSimpArgs false

theorem live_gap_mem {es : List (Ent CV)} {i : Nat} {p : List UInt8 × CV} (h : p ∈ live (es.set i none)) : p ∈ live es := by
  unfold live at h ⊢
  obtain ⟨e, he, hep⟩ := List.mem_filterMap.1 h
  rcases List.mem_or_eq_of_mem_set he with he | rfl
  · exact List.mem_filterMap.2 ⟨e, he, hep⟩
  · cases hep
set_option maxRecDepth 100000 in
set_option maxHeartbeats 8000000 in
theorem drop_some {w : World} {g : Nat} {l : List Nat} {es : List (Ent CV)} (h : Arr w g l es) (k : List UInt8) (hk : k.length ≤ maxLen) (hn : es.length ≤ 1000) (hks : ∀ p ∈ live es, p.1.length ≤ maxLen) {i : Nat} (hi : idxOf es k = some i) :
    Calls Try.prog 15 #[.pointer (some ⟨g, 0, none⟩), .string ⟨k.toArray⟩] w (SetPost w g l (if es.length ≤ 2 * (live (es.set i none)).length + 8 then es.set i none else (live (es.set i none)).map some) true) := by
  obtain ⟨mv, A, cap, D, W0, rfl, hb, hm, M, hr, hW0⟩ := h
  have hlk := hm.look M (k := k) hk
  have e1 : posI es k = (i : Int) := by unfold posI; rw [hi]
  rw [hi, e1] at hlk
  obtain ⟨u, hu⟩ := idxOf_some hi
  have hlt := idxOf_lt hi
  have hgl := live_gap_len hu
  have hng := own_ne hr hb (by decide)
  obtain ⟨b, rfl, hbl, -, -⟩ := row_ent hr hu
  obtain ⟨cur, hcur⟩ := row_all hr rfl
  have hbg : g ≠ b := fun e => hng (by rw [e]; rfl)
  rcases hm with ⟨rfl, rfl⟩ | ⟨bm, rfl, hown⟩
  · have := M.has k; rw [hi] at this; cases this
  obtain ⟨mes, mc, hmb, -⟩ := id hown
  have hgm : g ≠ bm := bk_ne_map hb hmb
  have hbm : b ≠ bm := bk_ne_map hcur hmb
  have c0 := hb.cell_ (i := 0) rfl
  obtain ⟨N, hN⟩ : ∃ N, N = (live (es.set i none)).length := ⟨_, rfl⟩
  have hN1 : N + 1 = (live es).length := by rw [hN]; exact hgl.1
  have HMD := Lib.hid (M.del hi); have HB := Lib.hid hb; have HR := Lib.hid hr; have HCUR := Lib.hid hcur; have HOWN := Lib.hid hown; have HGL := Lib.hid hgl.2; have HN := Lib.hid hN; have HU := Lib.hid hu; have HM0 := Lib.hid M
  have HW0 := Lib.hid hW0
  obtain ⟨ya, hy1⟩ : ∃ ya, ya = IntKind.i64.wrap (32 + (k.length : Int)) := ⟨_, rfl⟩
  obtain ⟨yb, hy2⟩ : ∃ yb, yb = IntKind.i64.wrap (W0 - ya) := ⟨_, rfl⟩
  have HY1 := Lib.hid hy1; have HY2 := Lib.hid hy2
  have s1 := hy1.symm; have s2 := hy2.symm
  clear hy1 hy2 hW0
  have hNle : N ≤ 1000 := by have := live_le es; omega
  have hltI : (i : Int) < (es.length : Int) := by omega
  rw [← hN]
  clear hi e1 M hr hb hu hgl hng hmb hown hcur hN1 hN
  go_enter Try.func15, Try.ntmps15
  go_upto_region 7 with (at_delete; refine wpList_delete_own _ rfl _ _ 25 9 rfl 3 strKey Try.underlying25 _ bm es.length D rfl HOWN.out _ _ rfl (keyS hk) ?_; intro w1 hown1 hturn1; have hf1 := (Fr.refl [bm] w).grown hturn1.grown (fun g' e => .inl (by injection e with e; simp [e])); have hb1 := HB.out.fr hf1 (by simpa using hgm); have x1 := hb1.cell_ (i := 1) rfl; have x2 := hb1.cell_ (i := 2) rfl; have g2 := hb1.frozen 2; have hcur1 := HCUR.out.fr hf1 (by simpa using hbm); have hr1 := own_fr HR.out hf1 (fun b' hb' hbl' => by simp [Value.ownBlock] at hb' hbl'; omega); obtain ⟨y0, y1, y2, y3, y4, y5, y6⟩ := ent_cells hr1 HU.out; have z0 := hcur1.frozen (i * 7); have z1 := hcur1.frozen (i * 7 + 1); have z2 := hcur1.frozen (i * 7 + 2); have z3 := hcur1.frozen (i * 7 + 3); have z4 := hcur1.frozen (i * 7 + 4); have z5 := hcur1.frozen (i * 7 + 5); have z6 := hcur1.frozen (i * 7 + 6); have HR1 := Lib.hid hr1; have HB1 := Lib.hid hb1; have HF1 := Lib.hid hf1; have HOWN1 := Lib.hid hown1; have HCUR1 := Lib.hid hcur1; clear hown1 hturn1 hf1 hb1 hcur1 hr1 c0)
  refine code_gen fun Wf hWf => ?_
  have hFr : Fr [g, b] w1 Wf := by rw [hWf]; exact (gapC_fr (Fr.refl [g, b] w1) (.inl (by simp)) (i * 7)).setCell (.inl (by simp)) _
  have hbf : Bk Wf g 46 #[.map (some bm), .slice (some ⟨b, 0, none⟩) es.length cap, .int .i64 yb] := by
    rw [hWf]; exact (HB1.out.fr (gapC_fr (Fr.refl [b] w1) (.inl (by simp)) (i * 7)) (by simpa using hbg)).put 2 _
  have hrf : Wf.ownsRow 0 69 7 (.slice (some ⟨b, 0, none⟩) es.length cap) es.length ((es.set i none).flatMap cellsE) := by
    rw [hWf]; exact own_fr (row_gap HR1.out hlt) (l := [g]) ((Fr.refl [g] _).setCell (.inl (by simp)) _) (fun b' hb' hbl' => by simp [Value.ownBlock] at hb' hbl'; omega)
  have hmf : MapV Wf (.map (some bm)) es.length (D.del (.string k)) := MapV.fr (w := w1) (.inr ⟨bm, rfl, HOWN1.out⟩) hFr (fun b' hb' hbl' => by injection hb' with hb'; simp at hbl'; omega)
  have hl0 := fun ty => hmf.len_ HMD.out ty
  have hl1 := fun ty => (MapV.fr hmf ((Fr.refl [] Wf).drew) (by simp)).len_ HMD.out ty
  have hl2 := fun q ty => (MapV.fr hmf ((Fr.refl [] Wf).drewN q) (by simp)).len_ HMD.out ty
  rw [← HN.out] at hl0 hl1 hl2
  have c0 := hbf.cell_ (i := 0) rfl; have c1 := hbf.cell_ (i := 1) rfl
  have HFR := Lib.hid hFr
  have m1 : IntKind.i64.wrap (2 * (N : Int)) = 2 * (N : Int) := by rw [IntKind.wrap_i64]; omega
  have m2 : IntKind.i64.wrap (2 * (N : Int) + 8) = 2 * (N : Int) + 8 := by rw [IntKind.wrap_i64]; omega
  have hwt2 : yb = IntKind.i64.wrap ((wt (es.set i none) : Nat) : Int) := by
    have q1 := HY1.out; have q2 := HY2.out; have q3 := HW0.out; have q4 := HGL.out
    rw [q2, q1, q3, wrap_sub, show (wt es : Int) - (32 + (k.length : Int)) = ((wt (es.set i none) : Nat) : Int) by omega]
  have hfin : ∀ q, SetPost w g (g :: ((mapBlk (.map (some bm))).toList ++ (Value.slice (some ⟨b, 0, none⟩) es.length cap).ownBlock.toList)) (es.set i none) true (.returned (.bool true)) (Wf.drewN q) := by
    intro q
    refine ⟨rfl, _, ⟨.map (some bm), some ⟨b, 0, none⟩, cap, D.del (.string k), yb, rfl, ?_, ?_, HMD.out, ?_, hwt2⟩, ?_, ?_⟩
    · rw [List.length_set]; exact hbf.drewN _
    · rw [List.length_set]; exact MapV.fr hmf ((Fr.refl [] Wf).drewN _) (by simp)
    · rw [List.length_set]; exact own_fr hrf ((Fr.refl [] Wf).drewN _) (by simp)
    · exact (((Fr.refl _ w).trans' HF1.out (fun b' hb' => by simp at hb'; subst hb'; left; simp [mapBlk])).trans' HFR.out (fun b' hb' => by left; simp at hb'; rcases hb' with rfl | rfl <;> simp [Value.ownBlock])).drewN _
    · intro b' hb'; rw [List.length_set] at hb'; exact .inl hb'
  have HFIN := Lib.hid hfin
  have HWT := Lib.hid hwt2
  have HBF := Lib.hid hbf; have HRF := Lib.hid hrf; have HMF := Lib.hid hmf
  clear hWf hFr hbf hrf hmf x1 x2 g2 y0 y1 y2 y3 y4 y5 y6 z0 z1 z2 z3 z4 z5 z6 hlk hfin hwt2
  by_cases hgap : es.length ≤ 2 * N + 8
  · rw [if_pos hgap]
    have m3 : ¬ 2 * N + 8 < es.length := by omega
    have m4 : ¬ 2 * (N : Int) + 8 < (es.length : Int) := by omega
    go_quiet (fail)
    go_wp2_with fail
    go_ret
    exact HFIN.out _
  · rw [if_neg hgap]
    have m3 : 2 * N + 8 < es.length := by omega
    have m4 : 2 * (N : Int) + 8 < (es.length : Int) := by omega
    go_quiet (fail)
    clear hl0 hl1 hl2 c0 c1 m1 m2
    obtain ⟨-, l8, harr, hfz, -⟩ := HFIN.out nq
    have hb7 := HBF.out.drewN nq
    have hm7 := MapV.fr HMF.out ((Fr.refl [] Wf).drewN nq) (by simp)
    have hfq : Fr [] Wf (Wf.drewN nq) := (Fr.refl [] Wf).drewN nq
    obtain ⟨Wq, hWq⟩ : ∃ Wq, Wq = Wf.drewN nq := ⟨_, rfl⟩
    rw [← hWq] at harr hb7 hm7 hfq hfz ⊢
    have HFZ := Lib.hid hfz
    have HARR := Lib.hid harr; have HB7 := Lib.hid hb7; have HM7 := Lib.hid hm7; have HFQ := Lib.hid hfq
    clear hWq harr hb7 hm7 hfq hfz
    go_wp2_with fail
    go_at_call 29
    refine (living_any HARR.out (by rw [List.length_set]; exact hn)).mono ?_
    rintro e w8 ⟨B, rfl, hB8, hf8, hrow⟩
    rw [← HN.out] at hrow ⊢
    have hb8 := HB7.out.fr hf8 (by simp)
    have hm8 := MapV.fr HM7.out hf8 (by simp)
    rcases hm8 with ⟨h, -⟩ | ⟨bm', h, hown8⟩
    · cases h
    injection h with h; injection h with h; subst h
    have x1 := hb8.cell_ (i := 1) rfl; have f1 := hb8.frozen 1
    have hrow9 := own_fr (w' := w8.setCell ⟨g, 1, none⟩ (.slice (some ⟨B, 0, none⟩) N N)) hrow (l := [g]) ((Fr.refl [g] w8).setCell (.inl (by simp)) _) (fun b' hb' hbl' => by simp at hbl'; subst hbl'; exact own_ne hrow hb8 (by decide) hb')
    have hown9 := hown8.setCell (a := ⟨g, 1, none⟩) hgm.symm (.slice (some ⟨B, 0, none⟩) N N)
    have HB8 := Lib.hid hb8; have HO9 := Lib.hid hown9; have HF8 := Lib.hid hf8; have HR9 := Lib.hid hrow9; have HBB := Lib.hid hB8
    clear hb8 hf8 hrow hB8 hrow9 hown9 hown8
    go_wp2_with fail
    go_loopw [65] (fun v65 wr => ∃ j : Nat, ∃ Dj, v65 = .int .i64 (j : Int) ∧ j ≤ N ∧ wr.ownsMap Try.prog 9 (plainElem Try.prog 3) bm (es.length + j) Dj ∧ Mq (D.del (.string k)) Dj (live (es.set i none)) j ∧ Bk wr g 46 #[.map (some bm), .slice (some ⟨B, 0, none⟩) N N, .int .i64 yb] ∧ wr.ownsRow 0 69 7 (.slice (some ⟨B, 0, none⟩) N N) N (((live (es.set i none)).map some).flatMap cellsE) ∧ Fr [g, bm] w8 wr) (fun v65 _ => N - (intOf v65).toNat)
    case atStart => exact ⟨0, _, rfl, by omega, HO9.out, Mq.start _ HMD.out.tidy, HB8.out.put 1 _, HR9.out, (Fr.refl [g, bm] w8).setCell (.inl (by simp)) _⟩
    case round =>
      obtain ⟨j, Dj, rfl, hj, hown, hmq, hbw, hrw, hf⟩ := hrel
      by_cases hjN : j < N
      · obtain ⟨p, hp⟩ : ∃ p, (live (es.set i none))[j]? = some p := ⟨_, List.getElem?_eq_getElem (by rw [← HN.out]; exact hjN)⟩
        obtain ⟨key, v⟩ := p
        obtain ⟨d0, d1, d2, d3, d4, d5, d6⟩ := ent_cells hrw (i := j) (k := key) (u := v) (by rw [List.getElem?_map, hp]; rfl)
        have hjI : (j : Int) < (N : Int) := by omega
        have HOWN := Lib.hid hown; have HMQ := Lib.hid hmq; have HBW := Lib.hid hbw; have HRW := Lib.hid hrw; have HF := Lib.hid hf; have HP := Lib.hid hp
        have hkl : key.length ≤ maxLen := hks _ (live_gap_mem (List.mem_of_getElem? hp))
        clear hown hmq hbw hrw hf hp
        go_upto_region 12 with fail
        obtain ⟨be, hbe⟩ : ∃ be, be = wr.heap.size := ⟨_, rfl⟩
        rw [← hbe]
        refine code_gen fun W1 hW1 => ?_
        have HG1 : Hid (Bk W1 g 46 #[.map (some bm), .slice (some ⟨B, 0, none⟩) N N, .int .i64 yb]) := Lib.hid (by rw [hW1]; exact HBW.out.alloc _)
        have HE1 : Hid (Bk W1 be 69 #[.string ⟨key.toArray⟩, .int .i64 v.k, .string ⟨v.s.toArray⟩, .bool v.n, .int .u64 v.h, .int .u64 v.l, .bool true]) := Lib.hid (by rw [hW1, hbe]; exact Bk.new wr _ _)
        have HM1 : Hid (W1.ownsMap Try.prog 9 (plainElem Try.prog 3) bm (es.length + j) Dj) := Lib.hid (by rw [hW1]; exact HOWN.out.alloc _)
        have HFa : Hid (Fr [g, bm] w8 W1) := Lib.hid (by rw [hW1]; exact HF.out.alloc _)
        have HRa : Hid (W1.ownsRow 0 69 7 (.slice (some ⟨B, 0, none⟩) N N) N (((live (es.set i none)).map some).flatMap cellsE)) := Lib.hid (by rw [hW1]; exact own_fr HRW.out ((Fr.refl [] wr).alloc _) (by simp))
        clear hW1 hbe d0 d1 d2 d3 d4 d5 d6
        refine wp_region_M_ (G := fun a b => a = b) (S := fun W => W.cell? ⟨g, 0, none⟩ = some (.map (some bm)) ∧ Bk W be 69 #[.string ⟨key.toArray⟩, .int .i64 v.k, .string ⟨v.s.toArray⟩, .bool v.n, .int .u64 v.h, .int .u64 v.l, .bool true]) ⟨fun _ => rfl, fun a b c h k => h.trans k, fun a b h k => k ▸ h, by kernel_rfl, fun _ _ d _ _ h => by cases d <;> exact h⟩ (by kernel_rfl) fun su => ?_
        have SU := Lib.hid su
        have HS : Hid (W1.drew.cell? ⟨g, 0, none⟩ = some (.map (some bm)) ∧ Bk W1.drew be 69 #[.string ⟨key.toArray⟩, .int .i64 v.k, .string ⟨v.s.toArray⟩, .bool v.n, .int .u64 v.h, .int .u64 v.l, .bool true]) := Lib.hid ⟨HG1.out.cell_ (i := 0) rfl, HE1.out⟩
        clear su
        refine M_move (i := 0) _ SU.out rfl rfl (by kernel_rfl) HS.out rfl ?_
        simp only [Act.put, Act.eval, Array.getD_eq_getD_getElem?, List.setIfInBounds_toArray, List.set_cons_zero, List.set_cons_succ, List.getElem?_toArray, List.getElem?_cons_zero, List.getElem?_cons_succ, Option.getD_some]
        refine M_val (i := 1) (v := ?_) SU.out rfl (by kernel_rfl) HS.out rfl (fun W hS => ?_) ?_
        rotate_left
        · obtain ⟨s0, s1⟩ := hS; have q0 := s1.cell_ (i := 0) rfl
          go_simp
          first | done | rfl | omega | (simp; done) | (simp; omega)
        simp only [Act.put, List.setIfInBounds_toArray, List.set_cons_zero, List.set_cons_succ]
        refine M_val (i := 2) (v := ?_) SU.out rfl (by kernel_rfl) HS.out rfl (fun W hS => ?_) ?_
        rotate_left
        · obtain ⟨s0, s1⟩ := hS; have q0 := s1.cell_ (i := 0) rfl
          go_simp
          first | done | rfl | omega | (simp; done) | (simp; omega)
        simp only [Act.put, List.setIfInBounds_toArray, List.set_cons_zero, List.set_cons_succ]
        refine M_val (i := 3) (v := .map (some bm)) SU.out rfl (by kernel_rfl) HS.out rfl (fun W hS => ?_) ?_
        · obtain ⟨s0, s1⟩ := hS; have q0 := s1.cell_ (i := 0) rfl
          go_simp
          first | done | rfl | omega | (simp; done) | (simp; omega)
        simp only [Act.put, List.setIfInBounds_toArray, List.set_cons_zero, List.set_cons_succ]
        refine M_val (i := 4) (v := ?_) SU.out rfl (by kernel_rfl) HS.out rfl (fun W hS => ?_) ?_
        rotate_left
        · obtain ⟨s0, s1⟩ := hS; have q0 := s1.cell_ (i := 0) rfl
          go_simp
          first | done | rfl | omega | (simp; done) | (simp; omega)
        simp only [Act.put, List.setIfInBounds_toArray, List.set_cons_zero, List.set_cons_succ]
        refine M_val (i := 5) (v := .string ⟨key.toArray⟩) SU.out rfl (by kernel_rfl) HS.out rfl (fun W hS => ?_) ?_
        · obtain ⟨s0, s1⟩ := hS; have q0 := s1.cell_ (i := 0) rfl
          go_simp
          first | done | rfl | omega | (simp; done) | (simp; omega)
        simp only [Act.put, List.setIfInBounds_toArray, List.set_cons_zero, List.set_cons_succ]
        refine M_move (i := 6) _ SU.out rfl rfl (by kernel_rfl) HS.out rfl ?_
        simp only [Act.put, Act.eval, Array.getD_eq_getD_getElem?, List.setIfInBounds_toArray, List.set_cons_zero, List.set_cons_succ, List.getElem?_toArray, List.getElem?_cons_zero, List.getElem?_cons_succ, Option.getD_some]
        refine wpAnyM_all (rs := [7]) (by kernel_rfl) (by simp) (fun w' hG => ?_)
        obtain rfl := hG
        obtain ⟨W2, hst, hown2, hturn⟩ := HM1.out.drew.store strKey Try.underlying25 (by unfold maxLen; omega) (keyS (k := key) hkl) (plainElem_int (H := Unit) Try.underlying3 (a := (j : Int)) (WalkArith.wf_i64 (by omega)))
        refine allM.head rfl rfl (fun K6 hK6 => ?_) allM.nil
        obtain ⟨mes, mc, hmb, -⟩ := HM1.out
        have hF2 : Fr [bm] W1.drew W2 := (Fr.refl [bm] W1.drew).grown hturn.grown (fun g' e => .inl (by injection e with e; simp [e]))
        have hb2 := (Bk.drew HG1.out).fr hF2 (by simpa using hgm)
        have he2 := (Bk.drew HE1.out).fr hF2 (by simpa using bk_ne_map HE1.out hmb)
        have hr2 := own_fr (w := W1.drew) HRa.out hF2 (fun b hb hbm => by simp at hbm; subst hbm; exact own_ne_map HRa.out hmb hb)
        have HS2 := Lib.hid (And.intro (hb2.cell_ (i := 0) rfl) he2)
        have HO2 := Lib.hid hown2; have HF2 := Lib.hid hF2; have HB2 := Lib.hid hb2; have HR2 := Lib.hid hr2
        clear hown2 hturn hmb hF2 hb2 hr2 he2
        go_simp
        refine hK6.out _ _ HS2.out ?_
        clear hK6 K6 hst
        refine wpAnyM_done (by kernel_rfl) (fun w' hG => ?_)
        obtain rfl := hG
        clear SU HS HS2
        go_wp2_with fail
        go_roundw
        case rel => exact ⟨j + 1, _, by go_num, by omega, HO2.out, HMQ.out.step HMD.out HP.out, HB2.out, HR2.out, HFa.out.drew.trans' HF2.out (fun b hb => .inl (by simp at hb; simp [hb]))⟩
        case measure => first | (simp [intOf]; done) | (simp [intOf]; omega)
      · obtain rfl : j = N := by omega
        have hmp := Mq.end_ HMD.out (by rw [← HN.out]; exact hmq)
        have hsz : Maps.size Dj = j := by rw [hmq.size, HMD.out.size, ← HN.out]
        have hll : ((live (es.set i none)).map some).length = j := by rw [List.length_map, ← HN.out]
        have hwe : wt ((live (es.set i none)).map some) = wt (es.set i none) := by unfold wt; rw [live_live]
        have hti := tight hown
        rw [hsz] at hti
        have hfin : SetPost w g (g :: ((mapBlk (.map (some bm))).toList ++ (Value.slice (some ⟨b, 0, none⟩) es.length cap).ownBlock.toList)) ((live (es.set i none)).map some) true (.returned (.bool true)) wr := by
          refine ⟨rfl, g :: ((mapBlk (.map (some bm))).toList ++ (Value.slice (some ⟨B, 0, none⟩) ((live (es.set i none)).map some).length j).ownBlock.toList), ⟨.map (some bm), some ⟨B, 0, none⟩, j, Dj, yb, rfl, ?_, ?_, hmp, ?_, by rw [hwe]; exact HWT.out⟩, ?_, ?_⟩
          · rw [hll]; exact hbw
          · rw [hll]; exact .inr ⟨bm, rfl, hti⟩
          · rw [hll]; exact hrw
          · exact (HFZ.out.trans' HF8.out (by simp)).trans' hf (fun b' hb' => by left; simp at hb'; rcases hb' with rfl | rfl <;> simp [mapBlk])
          · intro b' hb'
            have h8 := HFZ.out.size
            have h9 := HBB.out
            rcases List.mem_cons.1 hb' with rfl | hb'
            · left; simp
            · rcases List.mem_append.1 hb' with hb' | hb'
              · left; simp only [List.mem_cons, List.mem_append]; exact .inr (.inl hb')
              · right; simp [Value.ownBlock] at hb'; omega
        have HFN := Lib.hid hfin
        clear hfin hown hmq hbw hrw hf hmp hsz hll hwe hti
        go_wp2_with fail
        go_ret
        exact HFN.out
theorem drop_any {w : World} {g : Nat} {l : List Nat} {es : List (Ent CV)} (h : Arr w g l es) (k : List UInt8) (hk : k.length ≤ maxLen) (hn : es.length ≤ 1000) (hks : ∀ p ∈ live es, p.1.length ≤ maxLen) :
    Calls Try.prog 15 #[.pointer (some ⟨g, 0, none⟩), .string ⟨k.toArray⟩] w (SetPost w g l (match idxOf es k with
      | some i => if es.length ≤ 2 * (live (es.set i none)).length + 8 then es.set i none else (live (es.set i none)).map some
      | none => es) (idxOf es k).isSome) := by
  cases hi : idxOf es k with
  | none => exact (drop_none h k hk hi).mono fun e w' hp => ⟨hp.1, l, by rw [hp.2]; exact h, by rw [hp.2]; exact Fr.refl l w, fun b hb => .inl hb⟩
  | some i => exact drop_some h k hk hn hks hi
end Go.Proofs.Ytfabmbemdaelcaa.C
