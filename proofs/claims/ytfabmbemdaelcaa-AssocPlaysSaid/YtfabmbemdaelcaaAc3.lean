/-
  Set of a new key, of an array of cells. No conditions.
-/
import Derived.Test.YtfabmbemdaelcaaAc2
namespace Go.Proofs.Ytfabmbemdaelcaa.C
open Go.RowKit Go.ChangeShapes Go.WideShapes Go.Maps
set_option linter.unusedVariables false
set_option linter.unusedSimpArgs false

section
variable {P : Program}
/-- 'append' of a row's items to a row of the call's own, at one operation, in a region that draws. -/
theorem wp_append_R {o : Oper} {a : Act} {w : World} {K : Act → World → Prop} {Q : Exit → Act → World → Prop} (s x : Operand) (t : TypeId)
    (ho : o.op = .call { callee := .builtin .append, args := #[s, x], argTypes := #[t, t] })
    (base : Nat) (e : TypeId) (i : TypeInfo) (z : Value) (size bytes : Nat) (ht : P.underlying t = some (.slice e)) (hi : P.info? e = some i) (hz : i.zero = some z)
    (hsize : i.size = size) (hby : i.bytes = bytes) (hzs : z.cells.size = size) (hsz : 0 < size)
    (v : Value) (n : Nat) (xs : List Value) (hs : a.eval s = v) (hown : w.ownsRow base e size v n xs)
    (ad : Addr) (m c : Nat) (news : List Value) (hx : a.eval x = .slice (some ad) m c) (hl : news.length = m * size) (hnews : ∀ j u, news[j]? = some u → w.cell? (ad.add j) = some u) (h1 : ∀ u ∈ news, u.oneCell' = true)
    (h63 : n + m ≤ maxLen) (hbytes : (n + m) * bytes ≤ 140737488355328) (hbase : base ≤ w.heap.size)
    (hK : ∀ v' w', w'.ownsRow base e size v' (n + m) (xs ++ news) → w.grownBy w' v.ownBlock → (v'.ownBlock = v.ownBlock ∨ v'.ownBlock = some w.heap.size) → K (a.put o.dst v') w') :
    o.wp P a w K Q := by
  obtain ⟨v', w', hr, h2, h3, -, h5⟩ := run_append_own_at (P := P) w base t o.type e i z size bytes ht hi hz hsize hby hzs hsz v n xs hown ad m c news hl hnews h1 h63 hbytes hbase
  unfold Oper.wp execOp
  simp only [ho, resolve, invoke, builtin, Sem.run_bind, Sem.run_pure, Result.andThen_ok, List.map_toArray, List.map_cons, List.map_nil, hs, hx, hr]
  exact hK _ _ h2 h3 h5
end
set_option maxRecDepth 100000 in
set_option maxHeartbeats 8000000 in
theorem set_new {w : World} {g : Nat} {l : List Nat} {es : List (Ent CV)} (h : Arr w g l es) (k : List UInt8) (v : CV) (hk : k.length ≤ maxLen) (hn : es.length ≤ 1000) (hi : idxOf es k = none) :
    Calls Try.prog 14 #[.pointer (some ⟨g, 0, none⟩), .string ⟨k.toArray⟩, v.val] w (SetPost w g l (es ++ [some (k, v)]) true) := by
  obtain ⟨bx, hbx⟩ : ∃ bx, bx = w.heap.size := ⟨_, rfl⟩
  obtain ⟨wb, hwb⟩ : ∃ wb, wb = w.alloc (.cells #[.int .i64 v.k, .string ⟨v.s.toArray⟩, .bool v.n, .int .u64 v.h, .int .u64 v.l] 41) := ⟨_, rfl⟩
  have hws : wb.heap.size = w.heap.size + 1 := by rw [hwb]; simp
  have hltl := h.lt
  have h' : Arr wb g l es := by rw [hwb]; exact h.fr_nil ((Fr.refl [] w).alloc _)
  have hfw : Fr [] w wb := by rw [hwb]; exact (Fr.refl [] w).alloc _
  have hbxk : Bk wb bx 41 #[.int .i64 v.k, .string ⟨v.s.toArray⟩, .bool v.n, .int .u64 v.h, .int .u64 v.l] := by rw [hwb, hbx]; exact Bk.new w _ _
  clear h
  obtain ⟨mv, A, cap, D, W0, rfl, hb, hm, M, hr, hW0⟩ := h'
  have hlk := hm.look M (k := k) hk
  have c0 := hb.cell_ (i := 0) rfl; have c1 := hb.cell_ (i := 1) rfl; have f0 := hb.frozen 0
  have e1 : posI es k = 0 := by unfold posI; rw [hi]
  rw [hi, e1] at hlk
  obtain ⟨i0, hi0, hz0, hz1, hz2⟩ := entParts
  obtain ⟨ls, hls⟩ : ∃ ls, ls = g :: ((mapBlk mv).toList ++ (Value.slice A es.length cap).ownBlock.toList) := ⟨_, rfl⟩
  rw [← hls] at hltl ⊢
  have HLS := Lib.hid hls; have HNE := Lib.hid (own_ne hr hb (by decide))
  have HI := Lib.hid hi; have HMP := Lib.hid M; have HB := Lib.hid hb; have HR := Lib.hid hr; have HWB := Lib.hid hwb; have HFW := Lib.hid hfw; have HBX := Lib.hid hbxk; have HBXE := Lib.hid hbx
  have hgx : g ≠ bx := hb.ne_ hbxk (by decide)
  have HLL := Lib.hid hltl; have HW0 := Lib.hid hW0
  have hgl := hb.lt
  have hgw : g < w.heap.size := hltl g (by rw [hls]; simp)
  have c0w : w.cell? ⟨g, 0, none⟩ = some mv := (hfw.cell (p := ⟨g, 0, none⟩) hgw (by simp)).symm.trans c0
  have f0w : w.frozen? ⟨g, 0, none⟩ = false := by rw [← hfw.frozen (p := ⟨g, 0, none⟩) hgw (by simp)]; exact f0
  rw [hwb] at hlk c0 c1 f0
  unfold CV.val
  clear hW0 e1 hls hi M hb hr hltl hwb hfw hbxk hbx
  rcases hm with ⟨rfl, rfl⟩ | ⟨bm, rfl, hown⟩
  case' inl =>
    have hmm := @run_makeMap Try.prog
    have heq := run_eql_map_nil (P := Try.prog) (w.alloc (.cells #[.int .i64 v.k, .string ⟨v.s.toArray⟩, .bool v.n, .int .u64 v.h, .int .u64 v.l] 41)) 25 9 3 none Try.underlying25
    go_enter Try.func14, Try.ntmps14
    go_upto_region 7 with fail
    clear hmm heq
    try rw [← HWB.out]
    obtain ⟨bm, hbm⟩ : ∃ bm, bm = w.heap.size + 1 := ⟨_, rfl⟩
    rw [← hbm, ← HBXE.out]
    refine code_gen fun W1 hW1 => ?_
    rw [← World.setCell_alloc_past (w := w) _ g 0 (.map (some bm)) hgw, ← HWB.out] at hW1
    have HB1 : Hid (Bk W1 g 46 #[.map (some bm), .slice A es.length cap, .int .i64 W0]) := Lib.hid (by rw [hW1]; exact (HB.out.put 0 _).alloc _)
    have HM1 : Hid (W1.ownsMap Try.prog 9 (plainElem Try.prog 3) bm es.length (.map [] : DataW Unit)) := Lib.hid (by
      rw [hW1, hbm]
      have h := (World.ownsMap_made (wb.setCell ⟨g, 0, none⟩ (.map (some (w.heap.size + 1)))) Try.prog 9 (plainElem (H := Unit) Try.prog 3)).mono (Nat.zero_le es.length)
      have e : (wb.setCell ⟨g, 0, none⟩ (.map (some (w.heap.size + 1)))).heap.size = w.heap.size + 1 := by simp [hws]
      rw [e] at h
      exact h)
    have HF1 : Hid (Fr ls wb W1) := Lib.hid (by rw [hW1]; exact ((Fr.refl ls wb).setCell (.inl (by rw [HLS.out]; simp)) _).alloc _)
    have HBM : Hid (bm ∈ ls ∨ w.heap.size ≤ bm) := Lib.hid (.inr (by rw [hbm]; omega))
    have HR1 : Hid (W1.ownsRow 0 69 7 (.slice A es.length cap) es.length (es.flatMap cellsE)) := Lib.hid (own_fr HR.out (l := [g]) (by rw [hW1]; exact ((Fr.refl [g] wb).setCell (.inl (by simp)) _).alloc _) (fun b hb hbg => by simp at hbg; subst hbg; exact HNE.out hb))
    have HX1 : Hid (Bk W1 bx 41 #[.int .i64 v.k, .string ⟨v.s.toArray⟩, .bool v.n, .int .u64 v.h, .int .u64 v.l]) := Lib.hid (by rw [hW1]; exact (HBX.out.far (p := ⟨g, 0, none⟩) hgx.symm _).alloc _)
    clear hW1 hbm
  case' inr =>
    have heq := run_eql_map_nil (P := Try.prog) (w.alloc (.cells #[.int .i64 v.k, .string ⟨v.s.toArray⟩, .bool v.n, .int .u64 v.h, .int .u64 v.l] 41)) 25 9 3 (some bm) Try.underlying25
    go_enter Try.func14, Try.ntmps14
    go_upto_region 7 with fail
    rw [← HWB.out, ← HBXE.out]
    refine code_gen fun W1 hW1 => ?_
    have HB1 : Hid (Bk W1 g 46 #[.map (some bm), .slice A es.length cap, .int .i64 W0]) := Lib.hid (by rw [hW1]; exact HB.out)
    have HM1 : Hid (W1.ownsMap Try.prog 9 (plainElem Try.prog 3) bm es.length D) := Lib.hid (by rw [hW1]; exact hown)
    have HF1 : Hid (Fr ls wb W1) := Lib.hid (by rw [hW1]; exact Fr.refl ls wb)
    have HBM : Hid (bm ∈ ls ∨ w.heap.size ≤ bm) := Lib.hid (.inl (by rw [HLS.out]; simp [mapBlk]))
    have HR1 : Hid (W1.ownsRow 0 69 7 (.slice A es.length cap) es.length (es.flatMap cellsE)) := Lib.hid (by rw [hW1]; exact HR.out)
    have HX1 : Hid (Bk W1 bx 41 #[.int .i64 v.k, .string ⟨v.s.toArray⟩, .bool v.n, .int .u64 v.h, .int .u64 v.l]) := Lib.hid (by rw [hW1]; exact HBX.out)
    clear hW1 hown heq
  all_goals
    clear c0 c1 f0 hlk
    refine wp_region_M_ (G := fun a b => a = b) (S := fun W => W.cell? ⟨g, 0, none⟩ = some (.map (some bm)) ∧ W.cell? ⟨g, 1, none⟩ = some (.slice A es.length cap)) ⟨fun _ => rfl, fun a b c h k => h.trans k, fun a b h k => k ▸ h, by kernel_rfl, fun _ _ d _ _ h => by cases d <;> exact h⟩ (by kernel_rfl) fun su => ?_
    have SU := Lib.hid su
    have HS : Hid (W1.drew.cell? ⟨g, 0, none⟩ = some (.map (some bm)) ∧ W1.drew.cell? ⟨g, 1, none⟩ = some (.slice A es.length cap)) := Lib.hid ⟨HB1.out.cell_ (i := 0) rfl, HB1.out.cell_ (i := 1) rfl⟩
    clear su
    refine M_move (i := 0) _ SU.out rfl rfl (by kernel_rfl) HS.out rfl ?_
    simp only [Act.put, Act.eval, Array.getD_eq_getD_getElem?, List.setIfInBounds_toArray, List.set_cons_zero, List.set_cons_succ, List.getElem?_toArray, List.getElem?_cons_zero, List.getElem?_cons_succ, Option.getD_some]
    refine M_val (i := 1) (v := ?_) SU.out rfl (by kernel_rfl) HS.out rfl (fun W hS => ?_) ?_
    rotate_left
    · obtain ⟨s0, s1⟩ := hS
      go_simp
      first | done | rfl | omega | (simp; done) | (simp; omega)
    simp only [Act.put, List.setIfInBounds_toArray, List.set_cons_zero, List.set_cons_succ]
    refine M_val (i := 2) (v := ?_) SU.out rfl (by kernel_rfl) HS.out rfl (fun W hS => ?_) ?_
    rotate_left
    · obtain ⟨s0, s1⟩ := hS
      go_simp
      first | done | rfl | omega | (simp; done) | (simp; omega)
    simp only [Act.put, List.setIfInBounds_toArray, List.set_cons_zero, List.set_cons_succ]
    refine M_val (i := 3) (v := .map (some bm)) SU.out rfl (by kernel_rfl) HS.out rfl (fun W hS => ?_) ?_
    · obtain ⟨s0, s1⟩ := hS
      go_simp
      first | done | rfl | omega | (simp; done) | (simp; omega)
    simp only [Act.put, List.setIfInBounds_toArray, List.set_cons_zero, List.set_cons_succ]
    refine M_move (i := 4) _ SU.out rfl rfl (by kernel_rfl) HS.out rfl ?_
    simp only [Act.put, Act.eval, Array.getD_eq_getD_getElem?, List.setIfInBounds_toArray, List.set_cons_zero, List.set_cons_succ, List.getElem?_toArray, List.getElem?_cons_zero, List.getElem?_cons_succ, Option.getD_some]
    refine M_move (i := 5) _ SU.out rfl rfl (by kernel_rfl) HS.out rfl ?_
    simp only [Act.put, Act.eval, Array.getD_eq_getD_getElem?, List.setIfInBounds_toArray, List.set_cons_zero, List.set_cons_succ, List.getElem?_toArray, List.getElem?_cons_zero, List.getElem?_cons_succ, Option.getD_some]
    refine M_val (i := 6) (v := ?_) SU.out rfl (by kernel_rfl) HS.out rfl (fun W hS => ?_) ?_
    rotate_left
    · obtain ⟨s0, s1⟩ := hS
      go_simp
      first | done | rfl | omega | (simp; done) | (simp; omega)
    simp only [Act.put, List.setIfInBounds_toArray, List.set_cons_zero, List.set_cons_succ]
    refine M_val (i := 7) (v := ?_) SU.out rfl (by kernel_rfl) HS.out rfl (fun W hS => ?_) ?_
    rotate_left
    · obtain ⟨s0, s1⟩ := hS
      go_simp
      first | done | rfl | omega | (simp; done) | (simp; omega)
    simp only [Act.put, List.setIfInBounds_toArray, List.set_cons_zero, List.set_cons_succ]
    refine M_val (i := 8) (v := .slice A es.length cap) SU.out rfl (by kernel_rfl) HS.out rfl (fun W hS => ?_) ?_
    · obtain ⟨s0, s1⟩ := hS
      go_simp
      first | done | rfl | omega | (simp; done) | (simp; omega)
    simp only [Act.put, List.setIfInBounds_toArray, List.set_cons_zero, List.set_cons_succ]
    refine M_val (i := 9) (v := .int .i64 (es.length : Int)) SU.out rfl (by kernel_rfl) HS.out rfl (fun W hS => ?_) ?_
    · obtain ⟨s0, s1⟩ := hS
      go_simp
      first | done | rfl | omega | (simp; done) | (simp; omega)
    simp only [Act.put, List.setIfInBounds_toArray, List.set_cons_zero, List.set_cons_succ]
    refine wpAnyM_all (rs := [10]) (by kernel_rfl) (by simp) (fun w' hG => ?_)
    obtain rfl := hG
    obtain ⟨W2, hst, hown2, hturn⟩ := HM1.out.drew.store strKey Try.underlying25 (by unfold maxLen; omega) (keyS (k := k) hk) (plainElem_int (H := Unit) Try.underlying3 (a := (es.length : Int)) (WalkArith.wf_i64 (by omega)))
    refine allM.head rfl rfl (fun K6 hK6 => ?_) allM.nil
    obtain ⟨mes, mc, hmb, -⟩ := HM1.out
    have hgm : g ≠ bm := bk_ne_map HB1.out hmb
    have HNB := Lib.hid (own_ne_map HR1.out hmb)
    have hF2 : Fr [bm] W1.drew W2 := (Fr.refl [bm] W1.drew).grown hturn.grown (fun g' e => .inl (by injection e with e; simp [e]))
    have hb2 := (Bk.drew HB1.out).fr hF2 (by simpa using hgm)
    have hr2 := own_fr (w := W1.drew) HR1.out hF2 (fun b hb hbm => by simp at hbm; subst hbm; exact own_ne_map HR1.out hmb hb)
    have HS2 : Hid (W2.cell? ⟨g, 0, none⟩ = some (.map (some bm)) ∧ W2.cell? ⟨g, 1, none⟩ = some (.slice A es.length cap)) := Lib.hid ⟨hb2.cell_ (i := 0) rfl, hb2.cell_ (i := 1) rfl⟩
    have hx2 := (Bk.drew HX1.out).fr hF2 (by simpa using bk_ne_map HX1.out hmb)
    have HX2 := Lib.hid hx2
    have HOWN2 := Lib.hid hown2; have HF2 := Lib.hid hF2; have HB2 := Lib.hid hb2; have HR2 := Lib.hid hr2
    clear hown2 hturn hmb hF2 hb2 hr2 hx2
    go_simp
    refine hK6.out _ _ HS2.out ?_
    clear hK6 K6 hst
    refine wpAnyM_done (by kernel_rfl) (fun w' hG => ?_)
    obtain rfl := hG
    clear SU HS HS2
    obtain ⟨y1, hy1⟩ : ∃ y1, y1 = IntKind.i64.wrap (32 + (k.length : Int)) := ⟨_, rfl⟩
    obtain ⟨y2, hy2⟩ : ∃ y2, y2 = IntKind.i64.wrap (W0 + y1) := ⟨_, rfl⟩
    have HY1 := Lib.hid hy1; have HY2 := Lib.hid hy2
    have s1 := hy1.symm; have s2 := hy2.symm
    clear hy1 hy2
    go_upto_region 8 with fail
    refine wp_region_F_ (G := fun a b => a = b) (F := fun i => i == 12) (S := fun W => W.cell? ⟨g, 1, none⟩ = some (.slice A es.length cap) ∧ Bk W bx 41 #[.int .i64 v.k, .string ⟨v.s.toArray⟩, .bool v.n, .int .u64 v.h, .int .u64 v.l]) ⟨fun _ => rfl, fun a b c h k => h.trans k, fun a b h k => k ▸ h, by kernel_rfl, fun _ _ d _ _ h => by cases d <;> exact h⟩ (by kernel_rfl) fun su => ?_
    have SU := Lib.hid su
    obtain ⟨wd, hwd⟩ : ∃ wd, wd = W2.drew := ⟨_, rfl⟩
    rw [← hwd]
    have HBD : Hid (Bk wd g 46 #[.map (some bm), .slice A es.length cap, .int .i64 W0]) := Lib.hid (by rw [hwd]; exact HB2.out.drew)
    have HXD : Hid (Bk wd bx 41 #[.int .i64 v.k, .string ⟨v.s.toArray⟩, .bool v.n, .int .u64 v.h, .int .u64 v.l]) := Lib.hid (by rw [hwd]; exact HX2.out.drew)
    have HRD : Hid (wd.ownsRow 0 69 7 (.slice A es.length cap) es.length (es.flatMap cellsE)) := Lib.hid (by rw [hwd]; exact HR2.out)
    have HFD : Hid (Fr [] W2 wd) := Lib.hid (by rw [hwd]; exact (Fr.refl [] W2).drew)
    have HS : Hid (wd.cell? ⟨g, 1, none⟩ = some (.slice A es.length cap) ∧ Bk wd bx 41 #[.int .i64 v.k, .string ⟨v.s.toArray⟩, .bool v.n, .int .u64 v.h, .int .u64 v.l]) := Lib.hid ⟨HBD.out.cell_ (i := 1) rfl, HXD.out⟩
    clear su hwd
    refine F_move (i := 0) _ SU.out rfl rfl (by kernel_rfl) HS.out rfl ?_
    simp only [Act.put, Act.eval, Array.getD_eq_getD_getElem?, List.setIfInBounds_toArray, List.set_cons_zero, List.set_cons_succ, List.getElem?_toArray, List.getElem?_cons_zero, List.getElem?_cons_succ, Option.getD_some]
    refine F_move (i := 1) _ SU.out rfl rfl (by kernel_rfl) HS.out rfl ?_
    simp only [Act.put, Act.eval, Array.getD_eq_getD_getElem?, List.setIfInBounds_toArray, List.set_cons_zero, List.set_cons_succ, List.getElem?_toArray, List.getElem?_cons_zero, List.getElem?_cons_succ, Option.getD_some]
    refine F_val (i := 2) (v := ?_) SU.out rfl (by kernel_rfl) HS.out rfl (fun W hS => ?_) ?_
    rotate_left
    · obtain ⟨s0, s1⟩ := hS; have q0 := s1.cell_ (i := 0) rfl; have q1 := s1.cell_ (i := 1) rfl; have q2 := s1.cell_ (i := 2) rfl; have q3 := s1.cell_ (i := 3) rfl; have q4 := s1.cell_ (i := 4) rfl
      go_simp
      first | done | rfl | omega | (simp; done) | (simp; omega)
    simp only [Act.put, List.setIfInBounds_toArray, List.set_cons_zero, List.set_cons_succ]
    refine F_val (i := 3) (v := ?_) SU.out rfl (by kernel_rfl) HS.out rfl (fun W hS => ?_) ?_
    rotate_left
    · obtain ⟨s0, s1⟩ := hS; have q0 := s1.cell_ (i := 0) rfl; have q1 := s1.cell_ (i := 1) rfl; have q2 := s1.cell_ (i := 2) rfl; have q3 := s1.cell_ (i := 3) rfl; have q4 := s1.cell_ (i := 4) rfl
      go_simp
      first | done | rfl | omega | (simp; done) | (simp; omega)
    simp only [Act.put, List.setIfInBounds_toArray, List.set_cons_zero, List.set_cons_succ]
    refine F_val (i := 4) (v := .slice A es.length cap) SU.out rfl (by kernel_rfl) HS.out rfl (fun W hS => ?_) ?_
    · obtain ⟨s0, s1⟩ := hS; have q0 := s1.cell_ (i := 0) rfl; have q1 := s1.cell_ (i := 1) rfl; have q2 := s1.cell_ (i := 2) rfl; have q3 := s1.cell_ (i := 3) rfl; have q4 := s1.cell_ (i := 4) rfl
      go_simp
      first | done | rfl | omega | (simp; done) | (simp; omega)
    simp only [Act.put, List.setIfInBounds_toArray, List.set_cons_zero, List.set_cons_succ]
    refine F_move (i := 5) _ SU.out rfl rfl (by kernel_rfl) HS.out rfl ?_
    simp only [Act.put, Act.eval, Array.getD_eq_getD_getElem?, List.setIfInBounds_toArray, List.set_cons_zero, List.set_cons_succ, List.getElem?_toArray, List.getElem?_cons_zero, List.getElem?_cons_succ, Option.getD_some]
    refine F_val (i := 6) (v := .agg #[.int .i64 v.k, .string ⟨v.s.toArray⟩, .bool v.n, .int .u64 v.h, .int .u64 v.l]) SU.out rfl (by kernel_rfl) HS.out rfl (fun W hS => ?_) ?_
    · obtain ⟨s0, s1⟩ := hS; have q0 := s1.cell_ (i := 0) rfl; have q1 := s1.cell_ (i := 1) rfl; have q2 := s1.cell_ (i := 2) rfl; have q3 := s1.cell_ (i := 3) rfl; have q4 := s1.cell_ (i := 4) rfl
      go_simp
      first | done | rfl | omega | (simp; done) | (simp; omega)
    simp only [Act.put, List.setIfInBounds_toArray, List.set_cons_zero, List.set_cons_succ]
    refine F_val (i := 7) (v := .agg #[.string ⟨k.toArray⟩, .int .i64 v.k, .string ⟨v.s.toArray⟩, .bool v.n, .int .u64 v.h, .int .u64 v.l, .bool true]) SU.out rfl (by kernel_rfl) HS.out rfl (fun W hS => ?_) ?_
    · obtain ⟨s0, s1⟩ := hS; have q0 := s1.cell_ (i := 0) rfl; have q1 := s1.cell_ (i := 1) rfl; have q2 := s1.cell_ (i := 2) rfl; have q3 := s1.cell_ (i := 3) rfl; have q4 := s1.cell_ (i := 4) rfl
      go_simp
      first | done | rfl | omega | (simp; done) | (simp; omega)
    simp only [Act.put, List.setIfInBounds_toArray, List.set_cons_zero, List.set_cons_succ]
    refine wpAnyF_all (rs := [8]) (by kernel_rfl) (by simp) (fun w' hG => ?_)
    obtain rfl := hG
    refine allF.head rfl rfl (fun K6 hK6 => ?_) allF.nil
    go_simp
    obtain ⟨we, hwe⟩ : ∃ we, we = wd.alloc (.cells #[.string ⟨k.toArray⟩, .int .i64 v.k, .string ⟨v.s.toArray⟩, .bool v.n, .int .u64 v.h, .int .u64 v.l, .bool true] 69) := ⟨_, rfl⟩
    rw [← hwe]
    have hBE : Bk we g 46 #[.map (some bm), .slice A es.length cap, .int .i64 W0] := by rw [hwe]; exact HBD.out.alloc _
    have hXE : Bk we bx 41 #[.int .i64 v.k, .string ⟨v.s.toArray⟩, .bool v.n, .int .u64 v.h, .int .u64 v.l] := by rw [hwe]; exact HXD.out.alloc _
    have hRE : we.ownsRow 0 69 7 (.slice A es.length cap) es.length (es.flatMap cellsE) := by rw [hwe]; exact own_fr HRD.out ((Fr.refl [] wd).alloc _) (by simp)
    have hNE : Bk we wd.heap.size 69 #[.string ⟨k.toArray⟩, .int .i64 v.k, .string ⟨v.s.toArray⟩, .bool v.n, .int .u64 v.h, .int .u64 v.l, .bool true] := by rw [hwe]; exact Bk.new wd _ _
    have hFE : Fr [] wd we := by rw [hwe]; exact (Fr.refl [] wd).alloc _
    have HBE := Lib.hid hBE; have HXE := Lib.hid hXE; have HRE := Lib.hid hRE; have HNE2 := Lib.hid hNE; have HFE := Lib.hid hFE
    refine hK6.out _ _ (.inr ⟨hBE.cell_ (i := 1) rfl, hXE⟩) ?_
    clear hK6 K6 hwe hBE hXE hRE hNE hFE
    refine wpAnyF_all (rs := [9]) (by kernel_rfl) (by simp) (fun w' hG => ?_)
    obtain rfl := hG
    refine allF.head rfl rfl (fun K7 hK7 => ?_) allF.nil
    refine wp_append_R (.tmp 50) (.tmp 54) 44 rfl 0 69 i0 _ 7 72 Try.underlying44 hi0 hz0 hz1 hz2 rfl (by omega) (.slice A es.length cap) es.length (es.flatMap cellsE) (by first | rfl | (simp [Act.eval]; done)) HRE.out ⟨wd.heap.size, 0, none⟩ 1 1 [.string ⟨k.toArray⟩, .int .i64 v.k, .string ⟨v.s.toArray⟩, .bool v.n, .int .u64 v.h, .int .u64 v.l, .bool true] (by first | rfl | (simp [Act.eval]; done)) rfl (by
      intro i u hu
      have hb := HNE2.out
      match i, hu with
      | 0, hu => injection hu with hu; subst hu; exact hb.cell_ (i := 0) rfl
      | 1, hu => injection hu with hu; subst hu; exact hb.cell_ (i := 1) rfl
      | 2, hu => injection hu with hu; subst hu; exact hb.cell_ (i := 2) rfl
      | 3, hu => injection hu with hu; subst hu; exact hb.cell_ (i := 3) rfl
      | 4, hu => injection hu with hu; subst hu; exact hb.cell_ (i := 4) rfl
      | 5, hu => injection hu with hu; subst hu; exact hb.cell_ (i := 5) rfl
      | 6, hu => injection hu with hu; subst hu; exact hb.cell_ (i := 6) rfl) (by simp [Value.oneCell']) (by unfold maxLen; omega) (by omega) (Nat.zero_le _) ?_
    intro v' w4 hown4 hgr hat
    obtain ⟨VA, vc, rfl⟩ := own_form hown4 (by omega)
    have hb4 := HBE.out.grown hgr (fun e => own_ne HRE.out HBE.out (by decide) e.symm)
    have hx4 := HXE.out.grown hgr (fun e => own_ne HRE.out HXE.out (by decide) e.symm)
    have HS4 : Hid (w4.cell? ⟨g, 1, none⟩ = some (.slice A es.length cap) ∧ Bk w4 bx 41 #[.int .i64 v.k, .string ⟨v.s.toArray⟩, .bool v.n, .int .u64 v.h, .int .u64 v.l]) := Lib.hid ⟨hb4.cell_ (i := 1) rfl, hx4⟩
    have c1 := HS4.out.1
    have f1 := hb4.frozen 1
    have HOWN4 := Lib.hid hown4; have HGR := Lib.hid hgr; have HAT := Lib.hid hat; have HB4 := Lib.hid hb4
    refine hK7.out _ _ (.inr HS4.out) ?_
    clear hown4 hgr hat hb4 hx4 hK7 K7
    simp only [Act.put, List.setIfInBounds_toArray, List.set_cons_zero, List.set_cons_succ]
    refine wpAnyF_all (rs := [10]) (by kernel_rfl) (by simp) (fun w' hG => ?_)
    obtain rfl := hG
    refine allF.head rfl rfl (fun K9 hK9 => ?_) allF.nil
    go_simp
    refine hK9.out _ _ (.inr HS4.out) ?_
    clear hK9 K9
    refine wpAnyF_all (rs := [11]) (by kernel_rfl) (by simp) (fun w' hG => ?_)
    obtain rfl := hG
    refine allF.head rfl rfl (fun Ka hKa => ?_) allF.nil
    go_simp
    refine hKa.out _ _ (.inr HS4.out) ?_
    clear hKa Ka
    refine wpAnyF_all (rs := [12]) (by kernel_rfl) (by simp) (fun w' hG => ?_)
    obtain rfl := hG
    refine allF.head rfl rfl (fun K8 hK8 => ?_) allF.nil
    go_simp
    refine hK8.out _ _ (.inl rfl) ?_
    clear hK8 K8 c1 f1
    refine wpAnyF_done (by kernel_rfl) (fun w' hG => ?_)
    obtain rfl := hG
    have g2 := HB4.out.frozen 2; have x2 := HB4.out.cell_ (i := 2) rfl
    clear SU HS HS4
    go_wp2_with fail
    go_ret
    have hl : (es ++ [some (k, v)]).length = es.length + 1 := by simp
    have hw : wt (es ++ [some (k, v)]) = wt es + (32 + k.length) := by simp [wt, live]
    have hwI : y2 = IntKind.i64.wrap ((wt es + (32 + k.length) : Nat) : Int) := by
      have q1 := HY1.out; have q2 := HY2.out; have q3 := HW0.out
      rw [q2, q1, q3, wrap_add, show ((wt es + (32 + k.length) : Nat) : Int) = (wt es : Int) + (32 + (k.length : Int)) by omega]
    have hfl : (es ++ [some (k, v)]).flatMap cellsE = es.flatMap cellsE ++ [.string ⟨k.toArray⟩, .int .i64 v.k, .string ⟨v.s.toArray⟩, .bool v.n, .int .u64 v.h, .int .u64 v.l, .bool true] := by simp [cellsE]
    have hFr : Fr (g :: (Value.slice A es.length cap).ownBlock.toList) W2 ((w4.setCell ⟨g, 1, none⟩ (.slice VA (es.length + 1) vc)).setCell ⟨g, 2, none⟩ (.int .i64 y2)) :=
      (((((Fr.refl _ W2).trans' HFD.out (by simp)).trans' HFE.out (by simp)).grown HGR.out (fun g' e => .inl (by simp [e]))).setCell (.inl (by simp)) _).setCell (.inl (by simp)) _
    have hm2 : MapV W2 (.map (some bm)) (es.length + 1) _ := .inr ⟨bm, rfl, HOWN2.out⟩
    have hng := own_ne HOWN4.out HB4.out (by decide)
    have hs1 := HF1.out.size
    have hs2 : W1.heap.size ≤ W2.heap.size := HF2.out.size
    have hs3 := HFD.out.size
    have hs4 := HFE.out.size
    refine ⟨rfl, g :: ((mapBlk (.map (some bm))).toList ++ (Value.slice VA (es ++ [some (k, v)]).length vc).ownBlock.toList), ⟨.map (some bm), VA, vc, _, y2, rfl, ?_, ?_, HMP.out.new v HI.out, ?_, by rw [hw]; exact hwI⟩, ?_, ?_⟩
    · rw [hl]; exact (HB4.out.put 1 _).put 2 _
    · rw [hl]; exact hm2.fr hFr (fun b hb hbl => by
        injection hb with hb; subst hb
        rcases List.mem_cons.1 hbl with e | hbl
        · exact hgm e.symm
        · exact HNB.out (by simpa using hbl))
    · rw [hl, hfl]
      exact own_fr HOWN4.out (l := [g]) (((Fr.refl [g] w4).setCell (.inl (by simp)) _).setCell (.inl (by simp)) _) (fun b hb hbg => by simp at hbg; subst hbg; exact hng hb)
    · exact ((((Fr.refl ls w).trans' HFW.out (by simp)).trans' HF1.out.drew (fun b hb => .inl hb)).trans' HF2.out (fun b hb => by simp at hb; subst hb; exact HBM.out)).trans' hFr (fun b hb => .inl (by
        rw [HLS.out]
        rcases List.mem_cons.1 hb with rfl | hb
        · simp
        · simp only [List.mem_cons, List.mem_append]; exact .inr (.inr hb)))
    · intro b hb
      rcases List.mem_cons.1 hb with rfl | hb
      · left; rw [HLS.out]; simp
      · rcases List.mem_append.1 hb with hb | hb
        · have : b = bm := by simpa [mapBlk, eq_comm] using hb
          subst this; exact HBM.out
        · rw [hl] at hb
          rcases HAT.out with h | h
          · left; rw [h] at hb; rw [HLS.out]; simp only [List.mem_cons, List.mem_append]; exact .inr (.inr hb)
          · right; rw [h] at hb; simp at hb; subst hb; omega
theorem set_any {w : World} {g : Nat} {l : List Nat} {es : List (Ent CV)} (h : Arr w g l es) (k : List UInt8) (v : CV) (hk : k.length ≤ maxLen) (hn : es.length ≤ 1000) :
    Calls Try.prog 14 #[.pointer (some ⟨g, 0, none⟩), .string ⟨k.toArray⟩, v.val] w (SetPost w g l (setE es k v) (idxOf es k).isNone) := by
  unfold setE
  cases hi : idxOf es k with
  | none => exact set_new h k v hk hn hi
  | some i => exact set_old h k v hk hi
end Go.Proofs.Ytfabmbemdaelcaa.C
