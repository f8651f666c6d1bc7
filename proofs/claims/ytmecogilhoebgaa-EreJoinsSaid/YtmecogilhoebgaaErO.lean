/-
  one: two parts in memory that are one plain part. No conditions.
-/
import Derived.Test.YtmecogilhoebgaaErW
import Derived.Test.YtmecogilhoebgaaDrawn
namespace Go.Proofs.Ytmecogilhoebgaa
open Go.RowKit
set_option linter.unusedVariables false
set_option linter.unusedSimpArgs false

theorem eqSet4 (a b c d a' b' c' d' : Int) (w : World) : (Op.equalIn 10000 26 (.agg #[.int .u64 a, .int .u64 b, .int .u64 c, .int .u64 d]) (.agg #[.int .u64 a', .int .u64 b', .int .u64 c', .int .u64 d'])).run Try.prog w = .ok (a == a' && b == b' && c == c' && d == d') w := by
  have u3 := Try.underlying24
  have a3 := Try.isAgg24
  have z3 := Try.sizeOf24
  rw [show (10000 : Nat) = 9999 + 1 from rfl, Op.equalIn]
  simp only [Sem.run_bind, run_underlying Try.underlying26, Result.andThen_ok]
  simp only [Std.Legacy.Range.forIn_eq_forIn_range', Std.Legacy.Range.size, Nat.sub_zero, Nat.add_sub_cancel, Nat.div_one, List.range'_succ, List.range'_zero, List.forIn_cons, List.forIn_nil]
  go_simp
  by_cases h1 : a = a' <;> by_cases h2 : b = b' <;> by_cases h3 : c = c' <;> by_cases h4 : d = d' <;> simp [h1, h2, h3, h4]
def OneOk (t : RT) : Prop := ∀ (p q : PT) (w : World), RepP t p → RepP t q → PMem w p → PMem w q → Calls Try.prog 9 #[p.val, q.val] w fun e w' => e = .returned (.bool true) ∧ Fr [] w w'
theorem RepP.val {t : RT} {p : PT} (h : RepP t p) : p.val = .agg #[.int .i64 t.k, .int .u64 t.s.a, .int .u64 t.s.b, .int .u64 t.s.c, .int .u64 t.s.d, .int .i64 t.mn, .int .i64 t.mx, .slice p.A t.l.length p.c] := by
  rw [RepP_eq] at h
  obtain ⟨h1, h2, h3, h4, h5, h6, h7, h8⟩ := h
  rw [PT.val, h1, h2, h3, h4, h5, h6, h7, h8.len]
theorem RepP.child {w : World} {t : RT} {p : PT} (h : RepP t p) (hm : PMem w p) {i : Nat} {u : RT} (hu : t.l[i]? = some u) :
    ∃ b off q, p.A = some ⟨b, off, none⟩ ∧ RepP u q ∧ CellsAt w b (off + i * 8) q.cells ∧ PMem w q := by
  rw [RepP_eq] at h
  have hl : RepL t.l p.l := h.2.2.2.2.2.2.2
  have hlt : i < t.l.length := by
    rcases Nat.lt_or_ge i t.l.length with h1 | h1
    · exact h1
    · rw [List.getElem?_eq_none h1] at hu; cases hu
  have hq : p.l[i]? = some (p.l[i]'(by rw [← hl.len]; exact hlt)) := List.getElem?_eq_getElem _
  rw [PMem_eq] at hm
  obtain ⟨⟨b, off, hA, hc⟩, hpm⟩ := hm.get hq
  rw [Nat.zero_add] at hc
  exact ⟨b, off, _, hA, hl.get hu hq, hc, hpm⟩
def OneRel (w : World) (n : Nat) (v : Value) (wr : World) : Prop := ∃ j : Nat, v = .int .i64 (j : Int) ∧ j ≤ n ∧ Fr [] w wr
set_option maxRecDepth 100000 in
set_option maxHeartbeats 8000000 in
theorem one_of (t : RT) (hn : t.l.length ≤ 100000) (h : ∀ u ∈ t.l, OneOk u) : OneOk t := by
  intro p q w hp hq hpm hqm
  rw [hp.val, hq.val]
  have HP := Lib.hid hp; have HQ := Lib.hid hq; have HPM := Lib.hid hpm; have HQM := Lib.hid hqm; have HU := Lib.hid h
  obtain ⟨n, hne⟩ : ∃ n, n = t.l.length := ⟨_, rfl⟩
  rw [← hne] at hn ⊢
  have HN := Lib.hid hne
  clear hp hq hpm hqm h hne
  have hneq : ∀ W, (binOp .neq 26 (.agg #[.int .u64 t.s.a, .int .u64 t.s.b, .int .u64 t.s.c, .int .u64 t.s.d]) (.agg #[.int .u64 t.s.a, .int .u64 t.s.b, .int .u64 t.s.c, .int .u64 t.s.d])).run Try.prog W = .ok (.bool false) W := fun W => by
    have h := eqSet4 t.s.a t.s.b t.s.c t.s.d t.s.a t.s.b t.s.c t.s.d W
    have h' : (Op.equal 26 (.agg #[.int .u64 t.s.a, .int .u64 t.s.b, .int .u64 t.s.c, .int .u64 t.s.d]) (.agg #[.int .u64 t.s.a, .int .u64 t.s.b, .int .u64 t.s.c, .int .u64 t.s.d])).run Try.prog W = .ok true W := by
      unfold Op.equal Op.maxDepth
      rw [h]; simp
    simp [binOp, h']
  go_enter Try.func9, Try.ntmps9
  go_wp2_with fail
  refine code_gen1 fun W0 hW0 => ?_
  obtain ⟨b2, hb2⟩ : ∃ x, x = w.heap.size := ⟨_, rfl⟩
  obtain ⟨b3, hb3⟩ : ∃ x, x = w.heap.size + 1 := ⟨_, rfl⟩
  have hf0 : Fr [] w W0 := by rw [hW0]; exact ((Fr.refl [] w).alloc _).alloc _
  have hk2 : Bk W0 b2 29 #[.int .i64 t.k, .int .u64 t.s.a, .int .u64 t.s.b, .int .u64 t.s.c, .int .u64 t.s.d, .int .i64 t.mn, .int .i64 t.mx, .slice p.A n p.c] := by rw [hW0, hb2]; exact (Bk.new w _ _).alloc _
  have hk3 : Bk W0 b3 29 #[.int .i64 t.k, .int .u64 t.s.a, .int .u64 t.s.b, .int .u64 t.s.c, .int .u64 t.s.d, .int .i64 t.mn, .int .i64 t.mx, .slice q.A n q.c] := by
    rw [hW0, hb3]
    have := Bk.new (w.alloc (.cells #[.int .i64 t.k, .int .u64 t.s.a, .int .u64 t.s.b, .int .u64 t.s.c, .int .u64 t.s.d, .int .i64 t.mn, .int .i64 t.mx, .slice p.A n p.c] 29)) 29 #[.int .i64 t.k, .int .u64 t.s.a, .int .u64 t.s.b, .int .u64 t.s.c, .int .u64 t.s.d, .int .i64 t.mn, .int .i64 t.mx, .slice q.A n q.c]
    simpa using this
  rw [← hb3, ← hb2]
  have HK2 := Lib.hid hk2; have HK3 := Lib.hid hk3; have HF0 := Lib.hid hf0
  clear hW0 hb2 hb3 hk2 hk3 hf0 hneq
  go_loopw [5] (fun v wr => OneRel W0 n v wr) (fun v _ => n - (intOf v).toNat)
  case atStart => exact ⟨0, rfl, Nat.zero_le _, Fr.refl _ _⟩
  case round =>
    unfold OneRel at hrel
    obtain ⟨j, rfl, hj, hfr⟩ := hrel
    have HFR := Lib.hid hfr
    have a7 : wr.cell? ⟨b2, 7, none⟩ = some (.slice p.A n p.c) := (HK2.out.fr hfr (by simp)).cell_ (i := 7) rfl
    clear hfr
    by_cases hjn : j < n
    · obtain ⟨u, hu⟩ : ∃ u, t.l[j]? = some u := ⟨_, List.getElem?_eq_getElem (by rw [← HN.out]; exact hjn)⟩
      obtain ⟨pb, po, p1, hpA, hp1, hpc, hpm1⟩ := HP.out.child HPM.out hu
      obtain ⟨qb, qo, q1, hqA, hq1, hqc, hqm1⟩ := HQ.out.child HQM.out hu
      have hcall : ∀ V, Fr [] wr V → Calls Try.prog 9 #[p1.val, q1.val] V fun e w' => e = .returned (.bool true) ∧ Fr [] V w' := fun V hV =>
        HU.out u (List.mem_of_getElem? hu) p1 q1 V hp1 hq1 (hpm1.keep (KeepT.of_nil ((HF0.out.trans HFR.out).trans hV))) (hqm1.keep (KeepT.of_nil ((HF0.out.trans HFR.out).trans hV)))
      have hfact : ∀ V, Fr [] wr V → V.cell? ⟨b2, 7, none⟩ = some (.slice (some ⟨pb, po, none⟩) n p.c) ∧ V.cell? ⟨b3, 7, none⟩ = some (.slice (some ⟨qb, qo, none⟩) n q.c) ∧ CellsAt V pb (po + j * 8) p1.cells ∧ CellsAt V qb (qo + j * 8) q1.cells := fun V hV => by
        have hk := HFR.out.trans hV
        have k2 := (HK2.out.fr hk (by simp)).cell_ (i := 7) rfl
        have k3 := (HK3.out.fr hk (by simp)).cell_ (i := 7) rfl
        rw [hpA] at k2; rw [hqA] at k3
        exact ⟨k2, k3, hpc.keep (KeepT.of_nil (HF0.out.trans hk)), hqc.keep (KeepT.of_nil (HF0.out.trans hk))⟩
      rw [hpA] at a7
      have HCALL := Lib.hid hcall; have HFACT := Lib.hid hfact
      clear hcall hfact hpA hqA hpc hqc hpm1 hqm1 hp1 hq1
      go_wp2_with fail
      refine wp_region_M_ (G := fun a b => Fr [] a b) (S := fun V => Fr [] wr V) ⟨fun _ => Fr.refl _ _, fun a b c h k => h.trans k, fun a b h k => h.trans k, by kernel_rfl, fun _ _ d _ _ h => by cases d <;> exact h⟩ (by kernel_rfl) fun su => ?_
      have SU := Lib.hid su
      have HS : Hid (Fr [] wr (World.drew wr)) := Lib.hid ((Fr.refl [] wr).drew)
      clear su
      unfold PT.val at *
      refine M_val (i := 0) (v := .pointer (some ⟨b2, 7, none⟩)) SU.out rfl (by kernel_rfl) HS.out rfl (fun W hS => ?_) ?_
      · obtain ⟨a7, d7, hx, hy⟩ := HFACT.out W hS; have x0 := hx.cell (j := 0) rfl; rw [Nat.add_zero] at x0; have x1 := hx.cell (j := 1) rfl; have x2 := hx.cell (j := 2) rfl; have x3 := hx.cell (j := 3) rfl; have x4 := hx.cell (j := 4) rfl; have x5 := hx.cell (j := 5) rfl; have x6 := hx.cell (j := 6) rfl; have x7 := hx.cell (j := 7) rfl; have y0 := hy.cell (j := 0) rfl; rw [Nat.add_zero] at y0; have y1 := hy.cell (j := 1) rfl; have y2 := hy.cell (j := 2) rfl; have y3 := hy.cell (j := 3) rfl; have y4 := hy.cell (j := 4) rfl; have y5 := hy.cell (j := 5) rfl; have y6 := hy.cell (j := 6) rfl; have y7 := hy.cell (j := 7) rfl; clear hx hy
        go_simp
        first | done | rfl | omega | (simp; done) | (simp; omega)
      simp only [Act.put, List.setIfInBounds_toArray, List.set_cons_zero, List.set_cons_succ]
      refine M_val (i := 1) (v := .slice (some ⟨pb, po, none⟩) n p.c) SU.out rfl (by kernel_rfl) HS.out rfl (fun W hS => ?_) ?_
      · obtain ⟨a7, d7, hx, hy⟩ := HFACT.out W hS; have x0 := hx.cell (j := 0) rfl; rw [Nat.add_zero] at x0; have x1 := hx.cell (j := 1) rfl; have x2 := hx.cell (j := 2) rfl; have x3 := hx.cell (j := 3) rfl; have x4 := hx.cell (j := 4) rfl; have x5 := hx.cell (j := 5) rfl; have x6 := hx.cell (j := 6) rfl; have x7 := hx.cell (j := 7) rfl; have y0 := hy.cell (j := 0) rfl; rw [Nat.add_zero] at y0; have y1 := hy.cell (j := 1) rfl; have y2 := hy.cell (j := 2) rfl; have y3 := hy.cell (j := 3) rfl; have y4 := hy.cell (j := 4) rfl; have y5 := hy.cell (j := 5) rfl; have y6 := hy.cell (j := 6) rfl; have y7 := hy.cell (j := 7) rfl; clear hx hy
        go_simp
        first | done | rfl | omega | (simp; done) | (simp; omega)
      simp only [Act.put, List.setIfInBounds_toArray, List.set_cons_zero, List.set_cons_succ]
      refine M_move (i := 2) _ SU.out rfl rfl (by kernel_rfl) HS.out rfl ?_
      simp only [Act.put, Act.eval, Array.getD_eq_getD_getElem?, List.setIfInBounds_toArray, List.set_cons_zero, List.set_cons_succ, List.getElem?_toArray, List.getElem?_cons_zero, List.getElem?_cons_succ, Option.getD_some]
      refine M_val (i := 3) (v := .pointer (some ⟨pb, po + j * 8, none⟩)) SU.out rfl (by kernel_rfl) HS.out rfl (fun W hS => ?_) ?_
      · obtain ⟨a7, d7, hx, hy⟩ := HFACT.out W hS; have x0 := hx.cell (j := 0) rfl; rw [Nat.add_zero] at x0; have x1 := hx.cell (j := 1) rfl; have x2 := hx.cell (j := 2) rfl; have x3 := hx.cell (j := 3) rfl; have x4 := hx.cell (j := 4) rfl; have x5 := hx.cell (j := 5) rfl; have x6 := hx.cell (j := 6) rfl; have x7 := hx.cell (j := 7) rfl; have y0 := hy.cell (j := 0) rfl; rw [Nat.add_zero] at y0; have y1 := hy.cell (j := 1) rfl; have y2 := hy.cell (j := 2) rfl; have y3 := hy.cell (j := 3) rfl; have y4 := hy.cell (j := 4) rfl; have y5 := hy.cell (j := 5) rfl; have y6 := hy.cell (j := 6) rfl; have y7 := hy.cell (j := 7) rfl; clear hx hy
        go_simp
        first | done | rfl | omega | (simp; done) | (simp; omega)
      simp only [Act.put, List.setIfInBounds_toArray, List.set_cons_zero, List.set_cons_succ]
      refine M_val (i := 4) (v := (.agg #[.int .i64 p1.k, .int .u64 p1.s0, .int .u64 p1.s1, .int .u64 p1.s2, .int .u64 p1.s3, .int .i64 p1.mn, .int .i64 p1.mx, .slice p1.A p1.l.length p1.c])) SU.out rfl (by kernel_rfl) HS.out rfl (fun W hS => ?_) ?_
      · obtain ⟨a7, d7, hx, hy⟩ := HFACT.out W hS; have x0 := hx.cell (j := 0) rfl; rw [Nat.add_zero] at x0; have x1 := hx.cell (j := 1) rfl; have x2 := hx.cell (j := 2) rfl; have x3 := hx.cell (j := 3) rfl; have x4 := hx.cell (j := 4) rfl; have x5 := hx.cell (j := 5) rfl; have x6 := hx.cell (j := 6) rfl; have x7 := hx.cell (j := 7) rfl; have y0 := hy.cell (j := 0) rfl; rw [Nat.add_zero] at y0; have y1 := hy.cell (j := 1) rfl; have y2 := hy.cell (j := 2) rfl; have y3 := hy.cell (j := 3) rfl; have y4 := hy.cell (j := 4) rfl; have y5 := hy.cell (j := 5) rfl; have y6 := hy.cell (j := 6) rfl; have y7 := hy.cell (j := 7) rfl; clear hx hy
        go_simp
        first | done | rfl | omega | (simp; done) | (simp; omega)
      simp only [Act.put, List.setIfInBounds_toArray, List.set_cons_zero, List.set_cons_succ]
      refine M_val (i := 5) (v := .pointer (some ⟨b3, 7, none⟩)) SU.out rfl (by kernel_rfl) HS.out rfl (fun W hS => ?_) ?_
      · obtain ⟨a7, d7, hx, hy⟩ := HFACT.out W hS; have x0 := hx.cell (j := 0) rfl; rw [Nat.add_zero] at x0; have x1 := hx.cell (j := 1) rfl; have x2 := hx.cell (j := 2) rfl; have x3 := hx.cell (j := 3) rfl; have x4 := hx.cell (j := 4) rfl; have x5 := hx.cell (j := 5) rfl; have x6 := hx.cell (j := 6) rfl; have x7 := hx.cell (j := 7) rfl; have y0 := hy.cell (j := 0) rfl; rw [Nat.add_zero] at y0; have y1 := hy.cell (j := 1) rfl; have y2 := hy.cell (j := 2) rfl; have y3 := hy.cell (j := 3) rfl; have y4 := hy.cell (j := 4) rfl; have y5 := hy.cell (j := 5) rfl; have y6 := hy.cell (j := 6) rfl; have y7 := hy.cell (j := 7) rfl; clear hx hy
        go_simp
        first | done | rfl | omega | (simp; done) | (simp; omega)
      simp only [Act.put, List.setIfInBounds_toArray, List.set_cons_zero, List.set_cons_succ]
      refine M_val (i := 6) (v := .slice (some ⟨qb, qo, none⟩) n q.c) SU.out rfl (by kernel_rfl) HS.out rfl (fun W hS => ?_) ?_
      · obtain ⟨a7, d7, hx, hy⟩ := HFACT.out W hS; have x0 := hx.cell (j := 0) rfl; rw [Nat.add_zero] at x0; have x1 := hx.cell (j := 1) rfl; have x2 := hx.cell (j := 2) rfl; have x3 := hx.cell (j := 3) rfl; have x4 := hx.cell (j := 4) rfl; have x5 := hx.cell (j := 5) rfl; have x6 := hx.cell (j := 6) rfl; have x7 := hx.cell (j := 7) rfl; have y0 := hy.cell (j := 0) rfl; rw [Nat.add_zero] at y0; have y1 := hy.cell (j := 1) rfl; have y2 := hy.cell (j := 2) rfl; have y3 := hy.cell (j := 3) rfl; have y4 := hy.cell (j := 4) rfl; have y5 := hy.cell (j := 5) rfl; have y6 := hy.cell (j := 6) rfl; have y7 := hy.cell (j := 7) rfl; clear hx hy
        go_simp
        first | done | rfl | omega | (simp; done) | (simp; omega)
      simp only [Act.put, List.setIfInBounds_toArray, List.set_cons_zero, List.set_cons_succ]
      refine M_move (i := 7) _ SU.out rfl rfl (by kernel_rfl) HS.out rfl ?_
      simp only [Act.put, Act.eval, Array.getD_eq_getD_getElem?, List.setIfInBounds_toArray, List.set_cons_zero, List.set_cons_succ, List.getElem?_toArray, List.getElem?_cons_zero, List.getElem?_cons_succ, Option.getD_some]
      refine M_val (i := 8) (v := .pointer (some ⟨qb, qo + j * 8, none⟩)) SU.out rfl (by kernel_rfl) HS.out rfl (fun W hS => ?_) ?_
      · obtain ⟨a7, d7, hx, hy⟩ := HFACT.out W hS; have x0 := hx.cell (j := 0) rfl; rw [Nat.add_zero] at x0; have x1 := hx.cell (j := 1) rfl; have x2 := hx.cell (j := 2) rfl; have x3 := hx.cell (j := 3) rfl; have x4 := hx.cell (j := 4) rfl; have x5 := hx.cell (j := 5) rfl; have x6 := hx.cell (j := 6) rfl; have x7 := hx.cell (j := 7) rfl; have y0 := hy.cell (j := 0) rfl; rw [Nat.add_zero] at y0; have y1 := hy.cell (j := 1) rfl; have y2 := hy.cell (j := 2) rfl; have y3 := hy.cell (j := 3) rfl; have y4 := hy.cell (j := 4) rfl; have y5 := hy.cell (j := 5) rfl; have y6 := hy.cell (j := 6) rfl; have y7 := hy.cell (j := 7) rfl; clear hx hy
        go_simp
        first | done | rfl | omega | (simp; done) | (simp; omega)
      simp only [Act.put, List.setIfInBounds_toArray, List.set_cons_zero, List.set_cons_succ]
      refine M_val (i := 9) (v := (.agg #[.int .i64 q1.k, .int .u64 q1.s0, .int .u64 q1.s1, .int .u64 q1.s2, .int .u64 q1.s3, .int .i64 q1.mn, .int .i64 q1.mx, .slice q1.A q1.l.length q1.c])) SU.out rfl (by kernel_rfl) HS.out rfl (fun W hS => ?_) ?_
      · obtain ⟨a7, d7, hx, hy⟩ := HFACT.out W hS; have x0 := hx.cell (j := 0) rfl; rw [Nat.add_zero] at x0; have x1 := hx.cell (j := 1) rfl; have x2 := hx.cell (j := 2) rfl; have x3 := hx.cell (j := 3) rfl; have x4 := hx.cell (j := 4) rfl; have x5 := hx.cell (j := 5) rfl; have x6 := hx.cell (j := 6) rfl; have x7 := hx.cell (j := 7) rfl; have y0 := hy.cell (j := 0) rfl; rw [Nat.add_zero] at y0; have y1 := hy.cell (j := 1) rfl; have y2 := hy.cell (j := 2) rfl; have y3 := hy.cell (j := 3) rfl; have y4 := hy.cell (j := 4) rfl; have y5 := hy.cell (j := 5) rfl; have y6 := hy.cell (j := 6) rfl; have y7 := hy.cell (j := 7) rfl; clear hx hy
        go_simp
        first | done | rfl | omega | (simp; done) | (simp; omega)
      simp only [Act.put, List.setIfInBounds_toArray, List.set_cons_zero, List.set_cons_succ]
      refine M_call (i := 10) (v := .bool true) SU.out rfl (by kernel_rfl) HS.out rfl (fun V hS => (HCALL.out V hS)) (fun V => ?_) ?_
      · go_simp
        first | done | rfl
      simp only [Act.put, List.setIfInBounds_toArray, List.set_cons_zero, List.set_cons_succ]
      refine M_val (i := 11) (v := .bool false) SU.out rfl (by kernel_rfl) HS.out rfl (fun W hS => ?_) ?_
      · obtain ⟨a7, d7, hx, hy⟩ := HFACT.out W hS; have x0 := hx.cell (j := 0) rfl; rw [Nat.add_zero] at x0; have x1 := hx.cell (j := 1) rfl; have x2 := hx.cell (j := 2) rfl; have x3 := hx.cell (j := 3) rfl; have x4 := hx.cell (j := 4) rfl; have x5 := hx.cell (j := 5) rfl; have x6 := hx.cell (j := 6) rfl; have x7 := hx.cell (j := 7) rfl; have y0 := hy.cell (j := 0) rfl; rw [Nat.add_zero] at y0; have y1 := hy.cell (j := 1) rfl; have y2 := hy.cell (j := 2) rfl; have y3 := hy.cell (j := 3) rfl; have y4 := hy.cell (j := 4) rfl; have y5 := hy.cell (j := 5) rfl; have y6 := hy.cell (j := 6) rfl; have y7 := hy.cell (j := 7) rfl; clear hx hy
        go_simp
        first | done | rfl | omega | (simp; done) | (simp; omega)
      simp only [Act.put, List.setIfInBounds_toArray, List.set_cons_zero, List.set_cons_succ]

      refine wpAnyM_done (by kernel_rfl) (fun w' hG => ?_)
      have HG' := Lib.hid (HFR.out.drew.trans hG)
      clear hG HS SU
      go_wp2_with fail
      go_roundw
      case rel => exact ⟨j + 1, by go_num, by omega, HG'.out⟩
      case measure => simp [intOf]; omega
    · go_wp2_with fail
      go_ret
      exact ⟨rfl, HF0.out.trans HFR.out⟩
end Go.Proofs.Ytmecogilhoebgaa
