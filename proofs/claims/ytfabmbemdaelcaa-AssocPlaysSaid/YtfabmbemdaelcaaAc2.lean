/-
  Set of an array of cells. No conditions.
-/
import Derived.Test.YtfabmbemdaelcaaAc1
namespace Go.Proofs.Ytfabmbemdaelcaa.C
open Go.RowKit Go.ChangeShapes Go.WideShapes Go.Maps
set_option linter.unusedVariables false
set_option linter.unusedSimpArgs false

theorem entParts : ∃ i, Try.prog.info? 69 = some i ∧ i.zero = some (.agg #[.string ⟨#[]⟩, .int .i64 0, .string ⟨#[]⟩, .bool false, .int .u64 0, .int .u64 0, .bool false]) ∧ i.size = 7 ∧ i.bytes = 72 := info_parts (by kernel_rfl)
/-- Five cells written behind each other. -/
def put5 (l : List Value) (i : Nat) (v : CV) : List Value := ((((l.set i (.int .i64 v.k)).set (i + 1) (.string ⟨v.s.toArray⟩)).set (i + 2) (.bool v.n)).set (i + 3) (.int .u64 v.h)).set (i + 4) (.int .u64 v.l)
theorem flatE_set (es : List (Ent CV)) (k : List UInt8) (u v : CV) : ∀ i : Nat, es[i]? = some (some (k, u)) → put5 (es.flatMap cellsE) (i * 7 + 1) v = (es.set i (some (k, v))).flatMap cellsE := by
  induction es with
  | nil => intro i h; simp at h
  | cons a r ih =>
    intro i h
    have hl := cellsE_len a
    rw [List.flatMap_cons]
    cases i with
    | zero =>
      injection h with h; subst h
      rw [List.set_cons_zero, List.flatMap_cons]
      unfold put5
      rw [List.set_append_left _ _ (by rw [cellsE_len]; omega), List.set_append_left _ _ (by simp [cellsE_len]), List.set_append_left _ _ (by simp [cellsE_len]), List.set_append_left _ _ (by simp [cellsE_len]), List.set_append_left _ _ (by simp [cellsE_len])]
      rfl
    | succ i =>
      rw [List.set_cons_succ, List.flatMap_cons, ← ih i (by simpa using h)]
      unfold put5
      rw [List.set_append_right _ _ (by omega), List.set_append_right _ _ (by omega), List.set_append_right _ _ (by omega), List.set_append_right _ _ (by omega), List.set_append_right _ _ (by omega), hl,
        show (i + 1) * 7 + 1 - 7 = i * 7 + 1 by omega, show (i + 1) * 7 + 1 + 1 - 7 = i * 7 + 1 + 1 by omega, show (i + 1) * 7 + 1 + 2 - 7 = i * 7 + 1 + 2 by omega, show (i + 1) * 7 + 1 + 3 - 7 = i * 7 + 1 + 3 by omega, show (i + 1) * 7 + 1 + 4 - 7 = i * 7 + 1 + 4 by omega]
/-- .. in memory. -/
def putC (w : World) (b i : Nat) (v : CV) : World := ((((w.setCell ⟨b, i, none⟩ (.int .i64 v.k)).setCell ⟨b, i + 1, none⟩ (.string ⟨v.s.toArray⟩)).setCell ⟨b, i + 2, none⟩ (.bool v.n)).setCell ⟨b, i + 3, none⟩ (.int .u64 v.h)).setCell ⟨b, i + 4, none⟩ (.int .u64 v.l)
theorem putC_fr {l : List Nat} {w W : World} (h : Fr l w W) {b : Nat} (hb : b ∈ l ∨ w.heap.size ≤ b) (i : Nat) (v : CV) : Fr l w (putC W b i v) := ((((h.setCell hb _).setCell hb _).setCell hb _).setCell hb _).setCell hb _
theorem row_set {w : World} {b n cap : Nat} {es : List (Ent CV)} (h : w.ownsRow 0 69 7 (.slice (some ⟨b, 0, none⟩) n cap) n (es.flatMap cellsE)) {i : Nat} {k : List UInt8} {u : CV} (hi : es[i]? = some (some (k, u))) (v : CV) :
    (putC w b (i * 7 + 1) v).ownsRow 0 69 7 (.slice (some ⟨b, 0, none⟩) n cap) n ((es.set i (some (k, v))).flatMap cellsE) := by
  obtain ⟨h1, ⟨h2, h3⟩ | ⟨b', cap', cur, h2, h0, hb, h3, h4, h5, h6⟩⟩ := h
  · cases h2
  · injection h2 with h2 _ h2'
    injection h2 with h2; injection h2 with h2
    subst h2 h2'
    have hbk : Bk w b 69 cur := hb
    refine ⟨by rw [flatE_len, List.length_set]; rw [flatE_len] at h1; exact h1, .inr ⟨b, cap, _, rfl, h0, ((((hbk.put (i * 7 + 1) (.int .i64 v.k)).put (i * 7 + 1 + 1) (.string ⟨v.s.toArray⟩)).put (i * 7 + 1 + 2) (.bool v.n)).put (i * 7 + 1 + 3) (.int .u64 v.h)).put (i * 7 + 1 + 4) (.int .u64 v.l), h3, h4, by simpa using h5, ?_⟩⟩
    rw [Array.toList_setIfInBounds, Array.toList_setIfInBounds, Array.toList_setIfInBounds, Array.toList_setIfInBounds, Array.toList_setIfInBounds, List.take_set, List.take_set, List.take_set, List.take_set, List.take_set, h6]
    exact flatE_set es k u v i hi
theorem row_all {w : World} {A : Option Addr} {n cap : Nat} {es : List (Ent CV)} (h : w.ownsRow 0 69 7 (.slice A n cap) n (es.flatMap cellsE)) {b : Nat} (hA : A = some ⟨b, 0, none⟩) :
    ∃ cur, Bk w b 69 cur := by
  obtain ⟨h1, ⟨h2, h3⟩ | ⟨b', cap', cur, h2, h0, hb, h3, h4, h5, h6⟩⟩ := h
  · injection h2 with h2 _ _; rw [h2] at hA; cases hA
  · injection h2 with h2 _ _; rw [hA] at h2; injection h2 with h2; injection h2 with h2; subst h2
    exact ⟨cur, hb⟩
/-- What Set and Drop leave. -/
def SetPost (w : World) (g : Nat) (l : List Nat) (es' : List (Ent CV)) (r : Bool) (e : Ending) (w' : World) : Prop :=
  e = .returned (.bool r) ∧ ∃ l', Arr w' g l' es' ∧ Fr l w w' ∧ ∀ b ∈ l', b ∈ l ∨ w.heap.size ≤ b
set_option maxRecDepth 100000 in
set_option maxHeartbeats 4000000 in
theorem set_old {w : World} {g : Nat} {l : List Nat} {es : List (Ent CV)} (h : Arr w g l es) (k : List UInt8) (v : CV) (hk : k.length ≤ maxLen) {i : Nat} (hi : idxOf es k = some i) :
    Calls Try.prog 14 #[.pointer (some ⟨g, 0, none⟩), .string ⟨k.toArray⟩, v.val] w (SetPost w g l (es.set i (some (k, v))) false) := by
  obtain ⟨bx, hbx⟩ : ∃ bx, bx = w.heap.size := ⟨_, rfl⟩
  obtain ⟨wb, hwb⟩ : ∃ wb, wb = w.alloc (.cells #[.int .i64 v.k, .string ⟨v.s.toArray⟩, .bool v.n, .int .u64 v.h, .int .u64 v.l] 41) := ⟨_, rfl⟩
  have hgl := h.lt
  have h' : Arr wb g l es := by rw [hwb]; exact h.fr_nil ((Fr.refl [] w).alloc _)
  have hfw : Fr [] w wb := by rw [hwb]; exact (Fr.refl [] w).alloc _
  have hbxk : Bk wb bx 41 #[.int .i64 v.k, .string ⟨v.s.toArray⟩, .bool v.n, .int .u64 v.h, .int .u64 v.l] := by rw [hwb, hbx]; exact Bk.new w _ _
  clear h
  obtain ⟨mv, A, cap, D, W0, rfl, hb, hm, M, hr, hW0⟩ := h'
  have hlk := hm.look M (k := k) hk
  obtain ⟨u, hu⟩ := idxOf_some hi
  have e1 : posI es k = (i : Int) := by unfold posI; rw [hi]
  have hlt := idxOf_lt hi
  have hne := own_ne hr hb (by decide)
  obtain ⟨b, rfl, hbl, fz, hc⟩ := row_ent hr hu
  have hltI : (i : Int) < (es.length : Int) := by omega
  have hbg : b ≠ g := fun e => hne (by rw [← e]; rfl)
  have hbm : mapBlk mv ≠ some b := by
    obtain ⟨h1, ⟨h2, h3⟩ | ⟨b', cap', cur, h2, h0, hb', h6⟩⟩ := hr
    · cases h2
    · injection h2 with h2 _ _; injection h2 with h2; injection h2 with h2; subst h2
      exact hm.ne_ (g := b) (t := 69) (cs := cur) hb'
  have hsl := (live_set_len v hu).2
  have hpf : Fr [b] wb (putC wb b (i * 7 + 1) v).drew := (putC_fr (Fr.refl [b] wb) (.inl (by simp)) (i * 7 + 1) v).drew
  have hfin : SetPost w g (g :: ((mapBlk mv).toList ++ (Value.slice (some ⟨b, 0, none⟩) es.length cap).ownBlock.toList)) (es.set i (some (k, v))) false (.returned (.bool false)) (putC wb b (i * 7 + 1) v).drew := by
    refine ⟨rfl, _, ⟨mv, some ⟨b, 0, none⟩, cap, D, W0, rfl, ?_, ?_, M.set v hi, ?_, by rw [hsl]; exact hW0⟩, ((Fr.refl _ w).trans' hfw (by simp)).trans' hpf (fun b' hb' => by simp at hb'; subst hb'; exact .inl (by simp [Value.ownBlock])), fun b hb => ?_⟩
    · rw [List.length_set]; exact hb.fr hpf (by simpa using hbg.symm)
    · rw [List.length_set]; exact MapV.fr hm hpf (fun b' hb' hbl' => by simp at hbl'; subst hbl'; exact hbm hb')
    · rw [List.length_set]; exact own_fr (row_set hr hu v) ((Fr.refl [] _).drew) (by simp)
    · rw [List.length_set] at hb; exact .inl hb
  have HNX := Lib.hid (show b ≠ bx from fun e => by
    obtain ⟨cur, hcur⟩ : ∃ cur, Bk wb b 69 cur := row_all hr rfl
    exact hcur.ne_ hbxk (by decide) e)
  have HFIN := Lib.hid hfin; have HPF := Lib.hid hpf
  have HBX := Lib.hid hbxk; have HB := Lib.hid hb; have HWB := Lib.hid hwb; have HBE := Lib.hid hbx; have HC := Lib.hid hc
  have c0 := hb.cell_ (i := 0) rfl
  rw [hi, e1] at hlk
  rw [hwb] at hlk c0
  clear hW0 hi e1 hm M hr hb hc hu hne hbm hsl hfin hpf hgl hfw hbxk hwb hbx
  unfold CV.val
  go_enter Try.func14, Try.ntmps14
  go_upto_region 3 with fail
  rw [← HWB.out, ← HBE.out]
  clear hlk c0
  have hb2 := Bk.drew HB.out
  have hbx := Bk.drew HBX.out
  refine wp_region_M_ (G := fun a b => a = b) (S := fun W => W.cell? ⟨g, 1, none⟩ = some (.slice (some ⟨b, 0, none⟩) es.length cap) ∧ Bk W bx 41 #[.int .i64 v.k, .string ⟨v.s.toArray⟩, .bool v.n, .int .u64 v.h, .int .u64 v.l]) ⟨fun _ => rfl, fun a b c h k => h.trans k, fun a b h k => k ▸ h, by kernel_rfl, fun _ _ d _ _ h => by cases d <;> exact h⟩ (by kernel_rfl) fun su => ?_
  have SU := Lib.hid su
  have HS : Hid (wb.drew.cell? ⟨g, 1, none⟩ = some (.slice (some ⟨b, 0, none⟩) es.length cap) ∧ Bk wb.drew bx 41 #[.int .i64 v.k, .string ⟨v.s.toArray⟩, .bool v.n, .int .u64 v.h, .int .u64 v.l]) := Lib.hid ⟨hb2.cell_ (i := 1) rfl, hbx⟩
  clear su
  refine M_move (i := 0) _ SU.out rfl rfl (by kernel_rfl) HS.out rfl ?_
  simp only [Act.put, Act.eval, Array.getD_eq_getD_getElem?, List.setIfInBounds_toArray, List.set_cons_zero, List.set_cons_succ, List.getElem?_toArray, List.getElem?_cons_zero, List.getElem?_cons_succ, Option.getD_some]
  refine M_val (i := 1) (v := ?_) SU.out rfl (by kernel_rfl) HS.out rfl (fun W hS => ?_) ?_
  rotate_left
  · obtain ⟨s0, s1⟩ := hS; have q0 := s1.cell_ (i := 0) rfl; have q1 := s1.cell_ (i := 1) rfl; have q2 := s1.cell_ (i := 2) rfl; have q3 := s1.cell_ (i := 3) rfl; have q4 := s1.cell_ (i := 4) rfl
    go_simp
    first | done | rfl | omega | (simp; done) | (simp; omega)
  simp only [Act.put, List.setIfInBounds_toArray, List.set_cons_zero, List.set_cons_succ]
  refine M_val (i := 2) (v := ?_) SU.out rfl (by kernel_rfl) HS.out rfl (fun W hS => ?_) ?_
  rotate_left
  · obtain ⟨s0, s1⟩ := hS; have q0 := s1.cell_ (i := 0) rfl; have q1 := s1.cell_ (i := 1) rfl; have q2 := s1.cell_ (i := 2) rfl; have q3 := s1.cell_ (i := 3) rfl; have q4 := s1.cell_ (i := 4) rfl
    go_simp
    first | done | rfl | omega | (simp; done) | (simp; omega)
  simp only [Act.put, List.setIfInBounds_toArray, List.set_cons_zero, List.set_cons_succ]
  refine M_val (i := 3) (v := .slice (some ⟨b, 0, none⟩) es.length cap) SU.out rfl (by kernel_rfl) HS.out rfl (fun W hS => ?_) ?_
  · obtain ⟨s0, s1⟩ := hS; have q0 := s1.cell_ (i := 0) rfl; have q1 := s1.cell_ (i := 1) rfl; have q2 := s1.cell_ (i := 2) rfl; have q3 := s1.cell_ (i := 3) rfl; have q4 := s1.cell_ (i := 4) rfl
    go_simp
    first | done | rfl | omega | (simp; done) | (simp; omega)
  simp only [Act.put, List.setIfInBounds_toArray, List.set_cons_zero, List.set_cons_succ]
  refine M_move (i := 4) _ SU.out rfl rfl (by kernel_rfl) HS.out rfl ?_
  simp only [Act.put, Act.eval, Array.getD_eq_getD_getElem?, List.setIfInBounds_toArray, List.set_cons_zero, List.set_cons_succ, List.getElem?_toArray, List.getElem?_cons_zero, List.getElem?_cons_succ, Option.getD_some]
  refine M_val (i := 5) (v := ?_) SU.out rfl (by kernel_rfl) HS.out rfl (fun W hS => ?_) ?_
  rotate_left
  · obtain ⟨s0, s1⟩ := hS; have q0 := s1.cell_ (i := 0) rfl; have q1 := s1.cell_ (i := 1) rfl; have q2 := s1.cell_ (i := 2) rfl; have q3 := s1.cell_ (i := 3) rfl; have q4 := s1.cell_ (i := 4) rfl
    go_simp
    first | done | rfl | omega | (simp; done) | (simp; omega)
  simp only [Act.put, List.setIfInBounds_toArray, List.set_cons_zero, List.set_cons_succ]
  refine M_val (i := 6) (v := ?_) SU.out rfl (by kernel_rfl) HS.out rfl (fun W hS => ?_) ?_
  rotate_left
  · obtain ⟨s0, s1⟩ := hS; have q0 := s1.cell_ (i := 0) rfl; have q1 := s1.cell_ (i := 1) rfl; have q2 := s1.cell_ (i := 2) rfl; have q3 := s1.cell_ (i := 3) rfl; have q4 := s1.cell_ (i := 4) rfl
    go_simp
    first | done | rfl | omega | (simp; done) | (simp; omega)
  simp only [Act.put, List.setIfInBounds_toArray, List.set_cons_zero, List.set_cons_succ]
  refine M_val (i := 7) (v := ?_) SU.out rfl (by kernel_rfl) HS.out rfl (fun W hS => ?_) ?_
  rotate_left
  · obtain ⟨s0, s1⟩ := hS; have q0 := s1.cell_ (i := 0) rfl; have q1 := s1.cell_ (i := 1) rfl; have q2 := s1.cell_ (i := 2) rfl; have q3 := s1.cell_ (i := 3) rfl; have q4 := s1.cell_ (i := 4) rfl
    go_simp
    first | done | rfl | omega | (simp; done) | (simp; omega)
  simp only [Act.put, List.setIfInBounds_toArray, List.set_cons_zero, List.set_cons_succ]
  refine wpAnyM_all (rs := [8]) (by kernel_rfl) (by simp) (fun w' hG => ?_)
  obtain rfl := hG
  have hbbx : b ≠ bx := HNX.out
  have hbc : ∀ j u', j < 7 → (cellsE (some (k, u)))[j]? = some u' → wb.cell? ⟨b, i * 7 + j, none⟩ = some u' := HC.out
  have d1 := hbc 1 _ (by omega) rfl
  have d2 : wb.cell? ⟨b, i * 7 + 1 + 1, none⟩ = some (.string ⟨u.s.toArray⟩) := hbc 2 _ (by omega) rfl
  have d3 : wb.cell? ⟨b, i * 7 + 1 + 2, none⟩ = some (.bool u.n) := hbc 3 _ (by omega) rfl
  have d4 : wb.cell? ⟨b, i * 7 + 1 + 3, none⟩ = some (.int .u64 u.h) := hbc 4 _ (by omega) rfl
  have d5 : wb.cell? ⟨b, i * 7 + 1 + 4, none⟩ = some (.int .u64 u.l) := hbc 5 _ (by omega) rfl
  have d2' := d2; have d3' := d3; have d4' := d4; have d5' := d5
  rw [show i * 7 + 1 + 1 = i * 7 + 2 from rfl] at d2'
  rw [show i * 7 + 1 + 2 = i * 7 + 3 from rfl] at d3'
  rw [show i * 7 + 1 + 3 = i * 7 + 4 from rfl] at d4'
  rw [show i * 7 + 1 + 4 = i * 7 + 5 from rfl] at d5'
  refine allM.head rfl rfl (fun K6 hK6 => ?_) allM.nil
  go_simp
  have HS2 : (putC wb b (i * 7 + 1) v).drew.cell? ⟨g, 1, none⟩ = some (.slice (some ⟨b, 0, none⟩) es.length cap) ∧ Bk (putC wb b (i * 7 + 1) v).drew bx 41 #[.int .i64 v.k, .string ⟨v.s.toArray⟩, .bool v.n, .int .u64 v.h, .int .u64 v.l] := ⟨(HB.out.fr HPF.out (by simpa using hbg.symm)).cell_ (i := 1) rfl, HBX.out.fr HPF.out (by simpa using hbbx.symm)⟩
  unfold putC at HS2
  refine hK6.out _ _ HS2 ?_
  clear hK6 K6 HS2 d1 d2 d3 d4 d5 d2' d3' d4' d5' hbc
  refine wpAnyM_done (by kernel_rfl) (fun w' hG => ?_)
  obtain rfl := hG
  go_wp2_with fail
  go_ret
  exact HFIN.out
end Go.Proofs.Ytfabmbemdaelcaa.C
