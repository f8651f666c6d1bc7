/-
  An array of cells in memory; Get, Len and Weight. No conditions.
-/
import Derived.Test.YtfabmbemdaelcaaAs6
namespace Go.Proofs.Ytfabmbemdaelcaa.C
open Go.RowKit Go.ChangeShapes Go.WideShapes Go.Maps
set_option linter.unusedVariables false
set_option linter.unusedSimpArgs false

theorem wrap_add (a b : Int) : IntKind.i64.wrap (IntKind.i64.wrap a + IntKind.i64.wrap b) = IntKind.i64.wrap (a + b) := by
  simp only [IntKind.wrap_i64]; omega
theorem wrap_sub (a b : Int) : IntKind.i64.wrap (IntKind.i64.wrap a - IntKind.i64.wrap b) = IntKind.i64.wrap (a - b) := by
  simp only [IntKind.wrap_i64]; omega
/-- A cell of the language. -/
structure CV where
  k : Int
  s : List UInt8
  n : Bool
  h : Int
  l : Int
deriving DecidableEq
def CV.zero : CV := ⟨0, [], false, 0, 0⟩
def CV.cells (v : CV) : List Value := [.int .i64 v.k, .string ⟨v.s.toArray⟩, .bool v.n, .int .u64 v.h, .int .u64 v.l]
theorem body_gen {P : Program} {f : Func} {post : Ending → World → Prop} {ex : Exit} {a : Act} {w : World} (h : ∀ W, W = w → bodyPost P f post ex a W) : bodyPost P f post ex a w := h w rfl
/-- A block of a cell, written anew. -/
theorem five_new (w : World) (t : TypeId) (a b c d e : Value) : Bk ((((((w.alloc (.cells #[.int .i64 0, .string ⟨#[]⟩, .bool false, .int .u64 0, .int .u64 0] t)).setCell ⟨w.heap.size, 0, none⟩ a).setCell ⟨w.heap.size, 1, none⟩ b).setCell ⟨w.heap.size, 2, none⟩ c).setCell ⟨w.heap.size, 3, none⟩ d).setCell ⟨w.heap.size, 4, none⟩ e) w.heap.size t #[a, b, c, d, e] :=
  (((((Bk.new w t _).put 0 a).put 1 b).put 2 c).put 3 d).put 4 e
theorem five_fr (w : World) (t : TypeId) (a b c d e : Value) : Fr [] w ((((((w.alloc (.cells #[.int .i64 0, .string ⟨#[]⟩, .bool false, .int .u64 0, .int .u64 0] t)).setCell ⟨w.heap.size, 0, none⟩ a).setCell ⟨w.heap.size, 1, none⟩ b).setCell ⟨w.heap.size, 2, none⟩ c).setCell ⟨w.heap.size, 3, none⟩ d).setCell ⟨w.heap.size, 4, none⟩ e) :=
  ((((((Fr.refl [] w).alloc _).setCell (.inr (Nat.le_refl _)) _).setCell (.inr (Nat.le_refl _)) _).setCell (.inr (Nat.le_refl _)) _).setCell (.inr (Nat.le_refl _)) _).setCell (.inr (Nat.le_refl _)) _
def CV.val (v : CV) : Value := .agg #[.int .i64 v.k, .string ⟨v.s.toArray⟩, .bool v.n, .int .u64 v.h, .int .u64 v.l]
/-- An element's cells, or a gap's. -/
def cellsE : Ent CV → List Value
  | some (k, v) => [.string ⟨k.toArray⟩, .int .i64 v.k, .string ⟨v.s.toArray⟩, .bool v.n, .int .u64 v.h, .int .u64 v.l, .bool true]
  | none => [.string ⟨#[]⟩, .int .i64 0, .string ⟨#[]⟩, .bool false, .int .u64 0, .int .u64 0, .bool false]
theorem cellsE_len (e : Ent CV) : (cellsE e).length = 7 := by cases e <;> rfl
theorem flatE_at (es : List (Ent CV)) (e : Ent CV) (j : Nat) (hj : j < 7) : ∀ k : Nat, es[k]? = some e → (es.flatMap cellsE)[k * 7 + j]? = (cellsE e)[j]? := by
  induction es with
  | nil => intro k h; simp at h
  | cons a r ih =>
    intro k h
    have hl := cellsE_len a
    rw [List.flatMap_cons]
    cases k with
    | zero => injection h with h; subst h; rw [List.getElem?_append_left (by omega)]; simp
    | succ k =>
      rw [List.getElem?_append_right (by omega), hl, show (k + 1) * 7 + j - 7 = k * 7 + j by omega]
      exact ih k (by simpa using h)
theorem flatE_len (es : List (Ent CV)) : (es.flatMap cellsE).length = es.length * 7 := by
  induction es with
  | nil => rfl
  | cons a r ih => rw [List.flatMap_cons, List.length_append, ih, cellsE_len, List.length_cons]; omega
/-- The array at block g; l: its blocks. -/
def Arr (w : World) (g : Nat) (l : List Nat) (es : List (Ent CV)) : Prop :=
  ∃ mv A cap D W0, l = g :: ((mapBlk mv).toList ++ (Value.slice A es.length cap).ownBlock.toList) ∧ Bk w g 46 #[mv, .slice A es.length cap, .int .i64 W0] ∧
    MapV w mv es.length D ∧ Mp D es ∧ w.ownsRow 0 69 7 (.slice A es.length cap) es.length (es.flatMap cellsE) ∧ W0 = IntKind.i64.wrap (wt es : Int)
theorem row_ent {w : World} {A : Option Addr} {n cap : Nat} {es : List (Ent CV)} (h : w.ownsRow 0 69 7 (.slice A n cap) n (es.flatMap cellsE)) {i : Nat} {e : Ent CV} (hi : es[i]? = some e) :
    ∃ b, A = some ⟨b, 0, none⟩ ∧ b < w.heap.size ∧ (∀ x, w.frozen? ⟨b, x, none⟩ = false) ∧ ∀ j v, j < 7 → (cellsE e)[j]? = some v → w.cell? ⟨b, i * 7 + j, none⟩ = some v := by
  obtain ⟨h1, ⟨h2, h3⟩ | ⟨b, cap', cur, h2, -, hb, h3, h4, h5, h6⟩⟩ := h
  · have := (List.getElem?_eq_some_iff.1 hi).1
    rw [flatE_len] at h1; omega
  · injection h2 with h2 _ _
    have hbk : Bk w b 69 cur := hb
    refine ⟨b, h2, hbk.lt, fun x => hbk.frozen x, fun j v hj hv => ?_⟩
    rw [hbk.cell]
    have e1 := flatE_at es e j hj i hi
    rw [hv, ← h6, List.getElem?_take] at e1
    split at e1
    · simpa using e1
    · cases e1
theorem Arr.lt {w : World} {g : Nat} {l : List Nat} {es : List (Ent CV)} (h : Arr w g l es) : ∀ b ∈ l, b < w.heap.size := by
  obtain ⟨mv, A, cap, D, W0, rfl, hb, hm, M, hr, hW0⟩ := h
  intro b hbl
  rcases List.mem_cons.1 hbl with rfl | hbl
  · exact hb.lt
  · rcases List.mem_append.1 hbl with hbl | hbl
    · exact hm.lt b (by simpa using hbl)
    · obtain ⟨h1, ⟨h2, h3⟩ | ⟨b', cap', cur, h2, -, hb', h3, h4, h5, h6⟩⟩ := hr
      · rw [h2] at hbl; simp [Value.ownBlock] at hbl
      · rw [h2] at hbl; simp [Value.ownBlock] at hbl; subst hbl; exact Bk.lt (g := b) (t := 69) (cs := cur) hb'
theorem Arr.fr {w w' : World} {g : Nat} {l l' : List Nat} {es : List (Ent CV)} (h : Arr w g l es) (hf : Fr l' w w') (hn : ∀ b ∈ l, b ∉ l') : Arr w' g l es := by
  have hlt := h.lt
  obtain ⟨mv, A, cap, D, W0, rfl, hb, hm, M, hr, hW0⟩ := h
  refine ⟨mv, A, cap, D, W0, rfl, hb.fr hf (hn g (by simp)), hm.fr hf fun b hb => hn b (by simp [hb]), M, ?_, hW0⟩
  obtain ⟨h1, h2 | ⟨b', cap', cur, h2, h0, hb', h6⟩⟩ := hr
  · exact ⟨h1, .inl h2⟩
  · have hbl : b' ∈ g :: ((mapBlk mv).toList ++ (Value.slice A es.length cap).ownBlock.toList) := by rw [h2]; simp [Value.ownBlock]
    exact ⟨h1, .inr ⟨b', cap', cur, h2, h0, (hf.block b' (hlt b' hbl) (hn b' hbl)).trans hb', h6⟩⟩
theorem Arr.fr_nil {w w' : World} {g : Nat} {l : List Nat} {es : List (Ent CV)} (h : Arr w g l es) (hf : Fr [] w w') : Arr w' g l es := h.fr hf (by simp)
def valC (es : List (Ent CV)) (k : List UInt8) : CV := match idxOf es k with
  | some i => (match es[i]? with | some (some (_, v)) => v | _ => CV.zero)
  | none => CV.zero
set_option maxRecDepth 100000 in
set_option maxHeartbeats 4000000 in
theorem get_any {w : World} {g : Nat} {l : List Nat} {es : List (Ent CV)} (h : Arr w g l es) (k : List UInt8) (hk : k.length ≤ maxLen) :
    Calls Try.prog 17 #[.pointer (some ⟨g, 0, none⟩), .string ⟨k.toArray⟩] w fun e w' => e = .returned (.tuple #[(valC es k).val, .bool (idxOf es k).isSome]) ∧ Fr [] w w' := by
  obtain ⟨mv, A, cap, D, W0, rfl, hb, hm, M, hr, hW0⟩ := h
  have hmf := fun (W : World) (hf : Fr [] w W) => (hm.fr hf (by simp)).look M hk
  have hbf := fun (W : World) (hf : Fr [] w W) => hb.fr hf (by simp)
  have HM := Lib.hid hmf; have HB := Lib.hid hbf
  have hgl := hb.lt
  clear hmf hbf
  cases hi : idxOf es k with
  | none =>
    have e1 : posI es k = 0 := by unfold posI; rw [hi]
    have e2 : valC es k = CV.zero := by unfold valC; rw [hi]
    rw [e2]
    have hlk := HM.out (w.alloc (.cells #[.int .i64 0, .string ⟨#[]⟩, .bool false, .int .u64 0, .int .u64 0] 41)) ((Fr.refl [] w).alloc _)
    have c0 := (HB.out (w.alloc (.cells #[.int .i64 0, .string ⟨#[]⟩, .bool false, .int .u64 0, .int .u64 0] 41)) ((Fr.refl [] w).alloc _)).cell_ (i := 0) rfl
    rw [hi, e1] at hlk
    clear hi e1 e2 hm M hr hb
    go_enter Try.func17, Try.ntmps17
    go_wp2_with fail
    refine body_gen fun V hV => ?_
    have hb5 : Bk V w.heap.size 41 #[.int .i64 0, .string ⟨#[]⟩, .bool false, .int .u64 0, .int .u64 0] := by rw [hV]; exact Bk.new w _ _
    have hfv : Fr [] w V := by rw [hV]; exact (Fr.refl [] w).alloc _
    have k0 := hb5.cell_ (i := 0) rfl; have k1 := hb5.cell_ (i := 1) rfl; have k2 := hb5.cell_ (i := 2) rfl; have k3 := hb5.cell_ (i := 3) rfl; have k4 := hb5.cell_ (i := 4) rfl
    clear hV
    refine bodyPost_ret (v := .tuple #[CV.zero.val, .bool false]) (by simp [results, Try.results17, go_sem, k0, k1, k2, k3, k4, CV.val, CV.zero]) rfl ?_
    exact ⟨rfl, hfv⟩
  | some i =>
    obtain ⟨v, hv⟩ := idxOf_some hi
    have e1 : posI es k = (i : Int) := by unfold posI; rw [hi]
    have e2 : valC es k = v := by unfold valC; rw [hi]; simp only [hv]
    have hlt := idxOf_lt hi
    obtain ⟨b, rfl, hbl, -, hc⟩ := row_ent (own_fr hr ((Fr.refl [] w).alloc (.cells #[.int .i64 0, .string ⟨#[]⟩, .bool false, .int .u64 0, .int .u64 0] 41)) (by simp)) hv
    have d1 := hc 1 _ (by omega) rfl; have d2 := hc 2 _ (by omega) rfl; have d3 := hc 3 _ (by omega) rfl; have d4 := hc 4 _ (by omega) rfl; have d5 := hc 5 _ (by omega) rfl
    have hltI : (i : Int) < (es.length : Int) := by omega
    rw [e2]
    have hlk := HM.out (w.alloc (.cells #[.int .i64 0, .string ⟨#[]⟩, .bool false, .int .u64 0, .int .u64 0] 41)) ((Fr.refl [] w).alloc _)
    have hb2 := HB.out (w.alloc (.cells #[.int .i64 0, .string ⟨#[]⟩, .bool false, .int .u64 0, .int .u64 0] 41)) ((Fr.refl [] w).alloc _)
    have c0 := hb2.cell_ (i := 0) rfl; have c1 := hb2.cell_ (i := 1) rfl
    rw [hi, e1] at hlk
    clear hi e1 e2 hm M hr hb hc hv hb2
    go_enter Try.func17, Try.ntmps17
    go_wp2_with fail
    refine body_gen fun V hV => ?_
    have hb5 : Bk V w.heap.size 41 #[.int .i64 v.k, .string ⟨v.s.toArray⟩, .bool v.n, .int .u64 v.h, .int .u64 v.l] := by rw [hV]; exact Bk.new w _ _
    have hfv : Fr [] w V := by rw [hV]; exact (Fr.refl [] w).alloc _
    have k0 := hb5.cell_ (i := 0) rfl; have k1 := hb5.cell_ (i := 1) rfl; have k2 := hb5.cell_ (i := 2) rfl; have k3 := hb5.cell_ (i := 3) rfl; have k4 := hb5.cell_ (i := 4) rfl
    clear hV
    refine bodyPost_ret (v := .tuple #[v.val, .bool true]) (by simp [results, Try.results17, go_sem, k0, k1, k2, k3, k4, CV.val]) rfl ?_
    exact ⟨rfl, hfv⟩
set_option maxRecDepth 100000 in
theorem len_any {w : World} {g : Nat} {l : List Nat} {es : List (Ent CV)} (h : Arr w g l es) :
    Calls Try.prog 19 #[.pointer (some ⟨g, 0, none⟩)] w fun e w' => e = .returned (.int .i64 ((live es).length : Int)) ∧ w' = w := by
  obtain ⟨mv, A, cap, D, W0, rfl, hb, hm, M, hr, hW0⟩ := h
  have hlen := fun ty => hm.len_ M ty
  have c0 := hb.cell_ (i := 0) rfl
  clear hm M hr hb
  go_enter Try.func19, Try.ntmps19
  go_wp2_with fail
  go_ret
  exact ⟨rfl, rfl⟩
end Go.Proofs.Ytfabmbemdaelcaa.C
