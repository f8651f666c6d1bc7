/-
  Drop of an array of cells. No conditions.
-/
import Derived.Test.YtfabmbemdaelcaaAc5
namespace Go.Proofs.Ytfabmbemdaelcaa.C
open Go.RowKit Go.ChangeShapes Go.WideShapes Go.Maps
set_option linter.unusedVariables false
set_option linter.unusedSimpArgs false

/-- A gap written. -/
def gap7 (l : List Value) (i : Nat) : List Value := (((((((l.set (i) (.string ⟨#[]⟩)).set (i + 1) (.int .i64 0)).set (i + 2) (.string ⟨#[]⟩)).set (i + 3) (.bool false)).set (i + 4) (.int .u64 0)).set (i + 5) (.int .u64 0)).set (i + 6) (.bool false))
def gapC (w : World) (b i : Nat) : World := (((((((w.setCell ⟨b, i, none⟩ (.string ⟨#[]⟩)).setCell ⟨b, i + 1, none⟩ (.int .i64 0)).setCell ⟨b, i + 2, none⟩ (.string ⟨#[]⟩)).setCell ⟨b, i + 3, none⟩ (.bool false)).setCell ⟨b, i + 4, none⟩ (.int .u64 0)).setCell ⟨b, i + 5, none⟩ (.int .u64 0)).setCell ⟨b, i + 6, none⟩ (.bool false))
theorem gapC_fr {l : List Nat} {w W : World} (h : Fr l w W) {b : Nat} (hb : b ∈ l ∨ w.heap.size ≤ b) (i : Nat) : Fr l w (gapC W b i) := (((((((h.setCell hb _).setCell hb _).setCell hb _).setCell hb _).setCell hb _).setCell hb _).setCell hb _)
theorem flatE_gap (es : List (Ent CV)) : ∀ i : Nat, i < es.length → gap7 (es.flatMap cellsE) (i * 7) = (es.set i none).flatMap cellsE := by
  induction es with
  | nil => intro i h; simp at h
  | cons a r ih =>
    intro i h
    have hl := cellsE_len a
    rw [List.flatMap_cons]
    cases i with
    | zero =>
      rw [List.set_cons_zero, List.flatMap_cons]
      unfold gap7
      rw [List.set_append_left _ _ (by omega), List.set_append_left _ _ (by simp; omega), List.set_append_left _ _ (by simp; omega), List.set_append_left _ _ (by simp; omega), List.set_append_left _ _ (by simp; omega), List.set_append_left _ _ (by simp; omega), List.set_append_left _ _ (by simp; omega)]
      cases a <;> rfl
    | succ i =>
      rw [List.set_cons_succ, List.flatMap_cons, ← ih i (by simpa using h)]
      unfold gap7
      rw [List.set_append_right _ _ (by omega), List.set_append_right _ _ (by omega), List.set_append_right _ _ (by omega), List.set_append_right _ _ (by omega), List.set_append_right _ _ (by omega), List.set_append_right _ _ (by omega), List.set_append_right _ _ (by omega), hl,
        show (i + 1) * 7 - 7 = i * 7 by omega, show (i + 1) * 7 + 1 - 7 = i * 7 + 1 by omega, show (i + 1) * 7 + 2 - 7 = i * 7 + 2 by omega, show (i + 1) * 7 + 3 - 7 = i * 7 + 3 by omega, show (i + 1) * 7 + 4 - 7 = i * 7 + 4 by omega, show (i + 1) * 7 + 5 - 7 = i * 7 + 5 by omega, show (i + 1) * 7 + 6 - 7 = i * 7 + 6 by omega]
theorem row_gap {w : World} {b n cap : Nat} {es : List (Ent CV)} (h : w.ownsRow 0 69 7 (.slice (some ⟨b, 0, none⟩) n cap) n (es.flatMap cellsE)) {i : Nat} (hi : i < es.length) :
    (gapC w b (i * 7)).ownsRow 0 69 7 (.slice (some ⟨b, 0, none⟩) n cap) n ((es.set i none).flatMap cellsE) := by
  obtain ⟨h1, ⟨h2, h3⟩ | ⟨b', cap', cur, h2, h0, hb, h3, h4, h5, h6⟩⟩ := h
  · cases h2
  · injection h2 with h2 _ h2'
    injection h2 with h2; injection h2 with h2
    subst h2 h2'
    have hbk : Bk w b 69 cur := hb
    refine ⟨by rw [flatE_len, List.length_set]; rw [flatE_len] at h1; exact h1, .inr ⟨b, cap, _, rfl, h0, (((((((hbk.put (i * 7) (.string ⟨#[]⟩)).put (i * 7 + 1) (.int .i64 0)).put (i * 7 + 2) (.string ⟨#[]⟩)).put (i * 7 + 3) (.bool false)).put (i * 7 + 4) (.int .u64 0)).put (i * 7 + 5) (.int .u64 0)).put (i * 7 + 6) (.bool false)), h3, h4, by simpa using h5, ?_⟩⟩
    rw [Array.toList_setIfInBounds, Array.toList_setIfInBounds, Array.toList_setIfInBounds, Array.toList_setIfInBounds, Array.toList_setIfInBounds, Array.toList_setIfInBounds, Array.toList_setIfInBounds, List.take_set, List.take_set, List.take_set, List.take_set, List.take_set, List.take_set, List.take_set, h6]
    exact flatE_gap es i hi
theorem ent_cells {w : World} {b n cap : Nat} {es : List (Ent CV)} (h : w.ownsRow 0 69 7 (.slice (some ⟨b, 0, none⟩) n cap) n (es.flatMap cellsE)) {i : Nat} {k : List UInt8} {u : CV} (hi : es[i]? = some (some (k, u))) :
    w.cell? ⟨b, i * 7, none⟩ = some (.string ⟨k.toArray⟩) ∧ w.cell? ⟨b, i * 7 + 1, none⟩ = some (.int .i64 u.k) ∧ w.cell? ⟨b, i * 7 + 2, none⟩ = some (.string ⟨u.s.toArray⟩) ∧ w.cell? ⟨b, i * 7 + 3, none⟩ = some (.bool u.n) ∧ w.cell? ⟨b, i * 7 + 4, none⟩ = some (.int .u64 u.h) ∧ w.cell? ⟨b, i * 7 + 5, none⟩ = some (.int .u64 u.l) ∧ w.cell? ⟨b, i * 7 + 6, none⟩ = some (.bool true) := by
  obtain ⟨b', hb, -, -, hc⟩ := row_ent h hi
  injection hb with hb; injection hb with hb; subst hb
  exact ⟨hc 0 _ (by omega) rfl, hc 1 _ (by omega) rfl, hc 2 _ (by omega) rfl, hc 3 _ (by omega) rfl, hc 4 _ (by omega) rfl, hc 5 _ (by omega) rfl, hc 6 _ (by omega) rfl⟩
set_option maxRecDepth 100000 in
set_option maxHeartbeats 4000000 in
theorem drop_none {w : World} {g : Nat} {l : List Nat} {es : List (Ent CV)} (h : Arr w g l es) (k : List UInt8) (hk : k.length ≤ maxLen) (hi : idxOf es k = none) :
    Calls Try.prog 15 #[.pointer (some ⟨g, 0, none⟩), .string ⟨k.toArray⟩] w fun e w' => e = .returned (.bool false) ∧ w' = w := by
  obtain ⟨mv, A, cap, D, W0, rfl, hb, hm, M, hr, hW0⟩ := h
  have hlk := hm.look M (k := k) hk
  have c0 := hb.cell_ (i := 0) rfl
  have e1 : posI es k = 0 := by unfold posI; rw [hi]
  rw [hi, e1] at hlk
  clear hW0 hi e1 hm M hr hb
  go_enter Try.func15, Try.ntmps15
  go_wp2_with fail
  go_ret
  exact ⟨rfl, rfl⟩
/-- A map's bound is its size. -/
theorem tight {w : World} {b n : Nat} {D : DataW Unit} (h : w.ownsMap Try.prog 9 (plainElem Try.prog 3) b n D) : w.ownsMap Try.prog 9 (plainElem Try.prog 3) b (Maps.size D) D := by
  have hs := h.len (t := 25) (e := 3) Try.underlying25 0
  obtain ⟨es, clock, hb, F, -, rfl⟩ := h
  exact ⟨es, clock, hb, F, by simp [Maps.size, length_sorted], rfl⟩
/-- The map while it is led to the new places: those ahead of j are. -/
structure Mq (D0 D : DataW Unit) (K : List (List UInt8 × CV)) (j : Nat) : Prop where
  has : ∀ k, Maps.has D (.string k) = Maps.has D0 (.string k)
  size : Maps.size D = Maps.size D0
  tidy : Maps.Tidy D
  at_ : ∀ t p, t < j → K[t]? = some p → D.atKey (.string p.1) (.lit (.int .i64 0)) = .lit (.int .i64 (t : Int))
theorem live_idx {V : Type} (es : List (Ent V)) (hd : Dist es) (k : List UInt8) : (∀ i, idxOf ((live es).map some) k = some i → ∃ v, (live es)[i]? = some (k, v)) ∧ (idxOf ((live es).map some) k).isSome = (idxOf es k).isSome := by
  constructor
  · intro i hi
    obtain ⟨v, hv⟩ := idxOf_some hi
    rw [List.getElem?_map] at hv
    obtain ⟨p, hp, e⟩ := Option.map_eq_some_iff.1 hv
    injection e with e; subst e
    exact ⟨v, hp⟩
  · induction es with
    | nil => rfl
    | cons e r ih =>
      have h2 := ih (List.pairwise_cons.1 hd).2
      cases e with
      | none =>
        have e1 : live (none :: r) = live r := rfl
        rw [e1, h2, idxOf]
        simp [keyIs]
      | some p =>
        have e1 : live (some p :: r) = p :: live r := rfl
        rw [e1, List.map_cons, idxOf, idxOf]
        split
        · rfl
        · cases h3 : idxOf ((live r).map some) k <;> cases h4 : idxOf r k <;> simp_all
theorem live_live {V : Type} (es : List (Ent V)) : live ((live es).map some) = live es := by
  unfold live; simp [List.filterMap_map]
theorem live_dist {V : Type} {es : List (Ent V)} (hd : Dist es) : Dist ((live es).map some) := by
  induction es with
  | nil => exact List.Pairwise.nil
  | cons e r ih =>
    have h2 := List.pairwise_cons.1 hd
    cases e with
    | none => exact ih h2.2
    | some p =>
      have e1 : live (some p :: r) = p :: live r := rfl
      rw [e1, List.map_cons]
      refine List.pairwise_cons.2 ⟨fun b hb k hk => ?_, ih h2.2⟩
      obtain ⟨x, hx, rfl⟩ := List.mem_map.1 hb
      exact h2.1 (some x) (by unfold live at hx; obtain ⟨y, hy, hyx⟩ := List.mem_filterMap.1 hx; simp at hyx; rw [← hyx]; exact hy) k hk
theorem Mq.start {D : DataW Unit} (K : List (List UInt8 × CV)) (h : Maps.Tidy D) : Mq D D K 0 := ⟨fun _ => rfl, rfl, h, fun t p ht => absurd ht (by omega)⟩
theorem Mq.step {D0 D : DataW Unit} {es : List (Ent CV)} (M : Mp D0 es) {j : Nat} (h : Mq D0 D (live es) j) {p : List UInt8 × CV} (hp : (live es)[j]? = some p) : Mq D0 (D.put (.string p.1) (.lit (.int .i64 (j : Int)))) (live es) (j + 1) := by
  have hd := live_dist M.dist
  have hthere : Maps.has D (.string p.1) = true := by
    rw [h.has, M.has, ← (live_idx es M.dist p.1).2]
    cases hi : idxOf ((live es).map some) p.1 with
    | some _ => rfl
    | none =>
      have := idxOf_none.1 hi (some p) (List.mem_map.2 ⟨p, List.mem_of_getElem? hp, rfl⟩)
      simp [keyIs] at this
  refine ⟨fun k => ?_, ?_, h.tidy.put (keyLit _) _, fun t x ht hx => ?_⟩
  · by_cases e : k = p.1
    · subst e; rw [Maps.has_put_same h.tidy.isMap (keyLit _), ← h.has, hthere]
    · rw [Maps.has_put_other (strNe e), h.has]
  · rw [Maps.size_put h.tidy, hthere, if_pos rfl, h.size]
  · by_cases e : t = j
    · subst e
      rw [hp] at hx; injection hx with hx; subst hx
      exact Maps.atKey_put_same h.tidy.isMap (keyLit _) _ _
    · have hne : x.1 ≠ p.1 := by
        intro e2
        have h1 : ((live es).map some)[t]? = some (some x) := by rw [List.getElem?_map, hx]; rfl
        have h2 : ((live es).map some)[j]? = some (some p) := by rw [List.getElem?_map, hp]; rfl
        have l1 := (List.getElem?_eq_some_iff.1 h1)
        have l2 := (List.getElem?_eq_some_iff.1 h2)
        have := List.pairwise_iff_getElem.1 hd t j l1.1 l2.1 (by omega) x.1 (by rw [l1.2]; simp [keyIs])
        rw [l2.2] at this
        simp [keyIs, e2] at this
      rw [Maps.atKey_put_other (strNe hne)]
      exact h.at_ t x (by omega) hx
theorem Mq.end_ {D0 D : DataW Unit} {es : List (Ent CV)} (M : Mp D0 es) (h : Mq D0 D (live es) (live es).length) : Mp D ((live es).map some) := by
  refine ⟨fun k => ?_, fun k i hi => ?_, ?_, h.tidy, live_dist M.dist⟩
  · rw [h.has, M.has, (live_idx es M.dist k).2]
  · obtain ⟨v, hv⟩ := (live_idx es M.dist k).1 i hi
    exact h.at_ i (k, v) (List.getElem?_eq_some_iff.1 hv).1 hv
  · rw [h.size, M.size, live_live]
end Go.Proofs.Ytfabmbemdaelcaa.C
