/-
  An array of ints in memory; Get and Len. No conditions.
-/
import Derived.Test.YtfabmbemdaelcaaAsM
import Derived.Maps.OwnSet
import Derived.StringKeys
import Derived.Maps.AppendAt
import Derived.WalkKit
import Derived.KernelRfl
import Derived.Below
import Derived.Deep.QuietTactic
import Derived.BigQuiet
import Derived.LoopTactic
import Derived.Test.YtfabmbemdaelcaaRows
namespace Go.Proofs.Ytfabmbemdaelcaa
open Go.RowKit Go.ChangeShapes Go.WideShapes Go.Maps
set_option linter.unusedVariables false
set_option linter.unusedSimpArgs false

theorem strKey : Keyed Try.prog 9 := string_keyed Try.underlying9
theorem zeroI (w : World) : (zeroValue 3).run Try.prog w = .ok (.int .i64 0) w := by kernel_rfl
theorem keyS {k : List UInt8} (hk : k.length ≤ maxLen) : keyOf Try.prog 9 (.string ⟨k.toArray⟩) = some (.string k) := by
  have h := Go.WideMaps.keyOf_string_mk (s := ⟨k.toArray⟩) Try.underlying9 (by rw [ba_size]; exact hk)
  simpa using h
/-- A map value that leads to such a datum, of at most n entries. -/
def MapV (w : World) (mv : Value) (n : Nat) (D : DataW Unit) : Prop :=
  (mv = .map none ∧ D = .map []) ∨ ∃ b, mv = .map (some b) ∧ w.ownsMap Try.prog 9 (plainElem Try.prog 3) b n D
def mapBlk : Value → Option Nat
  | .map (some b) => some b
  | _ => none
def posI {V : Type} (es : List (Ent V)) (k : List UInt8) : Int := match idxOf es k with
  | some i => (i : Int)
  | none => 0
theorem MapV.keep {w w' : World} {mv : Value} {n : Nat} {D : DataW Unit} (h : MapV w mv n D) (hk : ∀ b, mapBlk mv = some b → w'.heap[b]? = w.heap[b]?) : MapV w' mv n D := by
  rcases h with h | ⟨b, rfl, es, clock, hb, h2⟩
  · exact .inl h
  · exact .inr ⟨b, rfl, es, clock, (hk b rfl).trans hb, h2⟩
theorem MapV.lt {w : World} {mv : Value} {n : Nat} {D : DataW Unit} (h : MapV w mv n D) : ∀ b, mapBlk mv = some b → b < w.heap.size := by
  rcases h with ⟨rfl, -⟩ | ⟨b, rfl, h⟩
  · intro b hb; cases hb
  · intro b' hb; injection hb with hb; subst hb; exact h.lt
theorem MapV.fr {w w' : World} {l : List Nat} {mv : Value} {n : Nat} {D : DataW Unit} (h : MapV w mv n D) (hf : Fr l w w') (hn : ∀ b, mapBlk mv = some b → b ∉ l) : MapV w' mv n D :=
  h.keep fun b hb => hf.block b (h.lt b hb) (hn b hb)
theorem MapV.look {V : Type} {w : World} {mv : Value} {n : Nat} {D : DataW Unit} {es : List (Ent V)} (h : MapV w mv n D) (M : Mp D es) {k : List UInt8} (hk : k.length ≤ maxLen) :
    (Instr.lookup 25 mv (.string ⟨k.toArray⟩) true).run Try.prog w = .ok (.tuple #[.int .i64 (posI es k), .bool (idxOf es k).isSome]) w := by
  have hh := M.has k
  rcases h with ⟨rfl, rfl⟩ | ⟨b, rfl, hown⟩
  · have h2 := Maps.look_nil (w := w) true strKey Try.underlying25 (zeroI w) (keyS hk)
    have hn : (idxOf es k).isSome = false := by rw [← hh]; rfl
    have hn2 : idxOf es k = none := by simpa using hn
    rw [h2, hn]; unfold posI; rw [hn2]; rfl
  · obtain ⟨v, ps, hrun, hv⟩ := hown.look_ok strKey Try.underlying25 (zeroI w) (plainElem_int Try.underlying3 (by decide)) (keyS hk)
    obtain ⟨c, rfl, hc, -⟩ := plainElem_int_inv Try.underlying3 hv
    rw [hrun, hh]
    have hc' : D.atKey (.string k) (.lit (.int .i64 0)) = .lit (.int .i64 c) := congrArg Prod.fst hc
    unfold posI
    cases hi : idxOf es k with
    | some i =>
      rw [M.at_ k i hi] at hc'
      injection hc' with hc'; injection hc' with _ hc'
      rw [← hc']
    | none =>
      rw [hi] at hh
      rw [Maps.atKey_of_not_has hh] at hc'
      injection hc' with hc'; injection hc' with _ hc'
      rw [← hc']
theorem MapV.len_ {V : Type} {w : World} {mv : Value} {n : Nat} {D : DataW Unit} {es : List (Ent V)} (h : MapV w mv n D) (M : Mp D es) (ty : TypeId) :
    (Builtin.len_ #[25] ty #[mv]).run Try.prog w = .ok (.int .i64 ((live es).length : Int)) w := by
  have hs := M.size
  rcases h with ⟨rfl, rfl⟩ | ⟨b, rfl, hown⟩
  · rw [Maps.len_nil Try.underlying25, ← hs]; rfl
  · rw [hown.len Try.underlying25, hs]

/-- An element's cells, or a gap's. -/
def cellsE : Ent Int → List Value
  | some (k, v) => [.string ⟨k.toArray⟩, .int .i64 v, .bool true]
  | none => [.string ⟨#[]⟩, .int .i64 0, .bool false]
theorem cellsE_len (e : Ent Int) : (cellsE e).length = 3 := by cases e <;> rfl
theorem flatE_at (es : List (Ent Int)) (e : Ent Int) (j : Nat) (hj : j < 3) : ∀ k : Nat, es[k]? = some e → (es.flatMap cellsE)[k * 3 + j]? = (cellsE e)[j]? := by
  induction es with
  | nil => intro k h; simp at h
  | cons a r ih =>
    intro k h
    have hl := cellsE_len a
    rw [List.flatMap_cons]
    cases k with
    | zero => injection h with h; subst h; rw [List.getElem?_append_left (by omega)]; simp
    | succ k =>
      rw [List.getElem?_append_right (by omega), hl, show (k + 1) * 3 + j - 3 = k * 3 + j by omega]
      exact ih k (by simpa using h)
theorem flatE_len (es : List (Ent Int)) : (es.flatMap cellsE).length = es.length * 3 := by
  induction es with
  | nil => rfl
  | cons a r ih => rw [List.flatMap_cons, List.length_append, ih, cellsE_len, List.length_cons]; omega
/-- The array at block g; l: its blocks. -/
def Arr (w : World) (g : Nat) (l : List Nat) (es : List (Ent Int)) : Prop :=
  ∃ mv A cap D, l = g :: ((mapBlk mv).toList ++ (Value.slice A es.length cap).ownBlock.toList) ∧ Bk w g 28 #[mv, .slice A es.length cap, .int .i64 (wt es : Int)] ∧
    MapV w mv es.length D ∧ Mp D es ∧ w.ownsRow 0 66 3 (.slice A es.length cap) es.length (es.flatMap cellsE)
theorem row_ent {w : World} {A : Option Addr} {n cap : Nat} {es : List (Ent Int)} (h : w.ownsRow 0 66 3 (.slice A n cap) n (es.flatMap cellsE)) {i : Nat} {e : Ent Int} (hi : es[i]? = some e) :
    ∃ b, A = some ⟨b, 0, none⟩ ∧ b < w.heap.size ∧ w.frozen? ⟨b, i * 3 + 1, none⟩ = false ∧ ∀ j v, j < 3 → (cellsE e)[j]? = some v → w.cell? ⟨b, i * 3 + j, none⟩ = some v := by
  obtain ⟨h1, ⟨h2, h3⟩ | ⟨b, cap', cur, h2, -, hb, h3, h4, h5, h6⟩⟩ := h
  · have := (List.getElem?_eq_some_iff.1 hi).1
    rw [flatE_len] at h1; omega
  · injection h2 with h2 _ _
    have hbk : Bk w b 66 cur := hb
    refine ⟨b, h2, hbk.lt, hbk.frozen _, fun j v hj hv => ?_⟩
    rw [hbk.cell]
    have e1 := flatE_at es e j hj i hi
    rw [hv, ← h6, List.getElem?_take] at e1
    split at e1
    · simpa using e1
    · cases e1
theorem Arr.lt {w : World} {g : Nat} {l : List Nat} {es : List (Ent Int)} (h : Arr w g l es) : ∀ b ∈ l, b < w.heap.size := by
  obtain ⟨mv, A, cap, D, rfl, hb, hm, M, hr⟩ := h
  intro b hbl
  rcases List.mem_cons.1 hbl with rfl | hbl
  · exact hb.lt
  · rcases List.mem_append.1 hbl with hbl | hbl
    · exact hm.lt b (by simpa using hbl)
    · obtain ⟨h1, ⟨h2, h3⟩ | ⟨b', cap', cur, h2, -, hb', h3, h4, h5, h6⟩⟩ := hr
      · rw [h2] at hbl; simp [Value.ownBlock] at hbl
      · rw [h2] at hbl; simp [Value.ownBlock] at hbl; subst hbl; exact Bk.lt (g := b) (t := 66) (cs := cur) hb'
theorem Arr.fr {w w' : World} {g : Nat} {l l' : List Nat} {es : List (Ent Int)} (h : Arr w g l es) (hf : Fr l' w w') (hn : ∀ b ∈ l, b ∉ l') : Arr w' g l es := by
  have hlt := h.lt
  obtain ⟨mv, A, cap, D, rfl, hb, hm, M, hr⟩ := h
  refine ⟨mv, A, cap, D, rfl, hb.fr hf (hn g (by simp)), hm.fr hf fun b hb => hn b (by simp [hb]), M, ?_⟩
  obtain ⟨h1, h2 | ⟨b', cap', cur, h2, h0, hb', h6⟩⟩ := hr
  · exact ⟨h1, .inl h2⟩
  · have hbl : b' ∈ g :: ((mapBlk mv).toList ++ (Value.slice A es.length cap).ownBlock.toList) := by rw [h2]; simp [Value.ownBlock]
    exact ⟨h1, .inr ⟨b', cap', cur, h2, h0, (hf.block b' (hlt b' hbl) (hn b' hbl)).trans hb', h6⟩⟩
theorem Arr.fr_nil {w w' : World} {g : Nat} {l : List Nat} {es : List (Ent Int)} (h : Arr w g l es) (hf : Fr [] w w') : Arr w' g l es := h.fr hf (by simp)
def valI (es : List (Ent Int)) (k : List UInt8) : Int := match idxOf es k with
  | some i => (match es[i]? with | some (some (_, v)) => v | _ => 0)
  | none => 0
set_option maxRecDepth 100000 in
set_option maxHeartbeats 4000000 in
theorem get_any {w : World} {g : Nat} {l : List Nat} {es : List (Ent Int)} (h : Arr w g l es) (k : List UInt8) (hk : k.length ≤ maxLen) :
    Calls Try.prog 10 #[.pointer (some ⟨g, 0, none⟩), .string ⟨k.toArray⟩] w fun e w' => e = .returned (.tuple #[.int .i64 (valI es k), .bool (idxOf es k).isSome]) ∧ w' = w := by
  obtain ⟨mv, A, cap, D, rfl, hb, hm, M, hr⟩ := h
  have hlk := hm.look M hk
  have c0 := hb.cell_ (i := 0) rfl; have c1 := hb.cell_ (i := 1) rfl
  cases hi : idxOf es k with
  | none =>
    have e1 : posI es k = 0 := by unfold posI; rw [hi]
    have e2 : valI es k = 0 := by unfold valI; rw [hi]
    rw [hi, e1] at hlk
    rw [e2]
    clear hi e1 e2 hm M hr hb
    go_enter Try.func10, Try.ntmps10
    go_wp2_with fail
    go_ret2
    exact ⟨rfl, rfl⟩
  | some i =>
    obtain ⟨v, hv⟩ := idxOf_some hi
    have e1 : posI es k = (i : Int) := by unfold posI; rw [hi]
    have e2 : valI es k = v := by unfold valI; rw [hi]; simp only [hv]
    have hlt := idxOf_lt hi
    obtain ⟨b, rfl, hbl, -, hc⟩ := row_ent hr hv
    have d1 := hc 1 _ (by omega) rfl
    have hltI : (i : Int) < (es.length : Int) := by omega
    rw [hi, e1] at hlk
    rw [e2]
    clear hi e1 e2 hm M hr hb hc hv
    go_enter Try.func10, Try.ntmps10
    go_wp2_with fail
    go_ret2
    exact ⟨rfl, rfl⟩
set_option maxRecDepth 100000 in
theorem len_any {w : World} {g : Nat} {l : List Nat} {es : List (Ent Int)} (h : Arr w g l es) :
    Calls Try.prog 12 #[.pointer (some ⟨g, 0, none⟩)] w fun e w' => e = .returned (.int .i64 ((live es).length : Int)) ∧ w' = w := by
  obtain ⟨mv, A, cap, D, rfl, hb, hm, M, hr⟩ := h
  have hlen := fun ty => hm.len_ M ty
  have c0 := hb.cell_ (i := 0) rfl
  clear hm M hr hb
  go_enter Try.func12, Try.ntmps12
  go_wp2_with fail
  go_ret
  exact ⟨rfl, rfl⟩
theorem weight_any {w : World} {g : Nat} {l : List Nat} {es : List (Ent Int)} (h : Arr w g l es) :
    Calls Try.prog 27 #[.pointer (some ⟨g, 0, none⟩)] w fun e w' => e = .returned (.int .i64 (wt es : Int)) ∧ w' = w := by
  obtain ⟨mv, A, cap, D, rfl, hb, hm, M, hr⟩ := h
  have c2 := hb.cell_ (i := 2) rfl
  clear hm M hr hb
  go_enter Try.func27, Try.ntmps27
  go_wp2_with fail
  go_ret
  exact ⟨rfl, rfl⟩
end Go.Proofs.Ytfabmbemdaelcaa
