/-
  Arrays of ints beside a list of keys that stays. No conditions.
-/
import Derived.Test.YtfabmbemdaelcaaAs5
namespace Go.Proofs.Ytfabmbemdaelcaa
open Go.RowKit Go.ChangeShapes Go.WideShapes Go.Maps
set_option linter.unusedVariables false
set_option linter.unusedSimpArgs false

/-- An array that lies in blocks new since w0, none of them B. -/
def ArrB (w0 w : World) (g : Nat) (es : List (Ent Int)) (B : Nat) : Prop := ∃ l, Arr w g l es ∧ (∀ b ∈ l, w0.heap.size ≤ b) ∧ Fr [] w0 w ∧ B ∉ l ∧ B < w.heap.size
theorem ArrB.arrN {w0 w : World} {g B : Nat} {es : List (Ent Int)} (h : ArrB w0 w g es B) : ArrN w0 w g es := by
  obtain ⟨l, h1, h2, h3, -⟩ := h
  exact ⟨l, h1, h2, h3⟩
theorem ArrB.lt {w0 w : World} {g B : Nat} {es : List (Ent Int)} (h : ArrB w0 w g es B) : B < w.heap.size := by
  obtain ⟨l, -, -, -, -, h5⟩ := h
  exact h5
theorem SetPost.arrB {w0 w w' : World} {g B : Nat} {l : List Nat} {es' : List (Ent Int)} {r : Bool} {e : Ending} (h : SetPost w g l es' r e w') (h2 : ∀ b ∈ l, w0.heap.size ≤ b) (h3 : Fr [] w0 w) (hB : B ∉ l) (hl : B < w.heap.size) :
    e = .returned (.bool r) ∧ ArrB w0 w' g es' B ∧ w'.heap[B]? = w.heap[B]? := by
  obtain ⟨rfl, l', a1, a2, a3⟩ := h
  refine ⟨rfl, ⟨l', a1, fun b hb => ?_, h3.trans' a2 (fun b hb => .inr (h2 b hb)), fun hb => ?_, Nat.lt_of_lt_of_le hl a2.size⟩, a2.block B hl hB⟩
  · rcases a3 b hb with h | h
    · exact h2 b h
    · exact Nat.le_trans h3.size h
  · rcases a3 B hb with h | h
    · exact hB h
    · omega
theorem setB {w0 w : World} {g B : Nat} {es : List (Ent Int)} (h : ArrB w0 w g es B) (k : List UInt8) (v : Int) (hk : k.length ≤ 1000) (hn : es.length ≤ 1000) (hwt : wt es ≤ 10000000) :
    Calls Try.prog 8 #[.pointer (some ⟨g, 0, none⟩), .string ⟨k.toArray⟩, .int .i64 v] w fun e w' => e = .returned (.bool (idxOf es k).isNone) ∧ ArrB w0 w' g (setE es k v) B ∧ w'.heap[B]? = w.heap[B]? := by
  obtain ⟨l, h1, h2, h3, h4, h5⟩ := h
  exact (set_any h1 k v hk hn hwt).mono fun e w' hp => hp.arrB h2 h3 h4 h5
theorem dropB {w0 w : World} {g B : Nat} {es : List (Ent Int)} (h : ArrB w0 w g es B) (k : List UInt8) (hk : k.length ≤ maxLen) (hk2 : ∀ i, idxOf es k = some i → k.length ≤ 1000) (hn : es.length ≤ 1000) (hwt : wt es ≤ 10000000) (hgap : es.length ≤ 2 * ((live es).length - 1) + 8) :
    Calls Try.prog 11 #[.pointer (some ⟨g, 0, none⟩), .string ⟨k.toArray⟩] w fun e w' => e = .returned (.bool (idxOf es k).isSome) ∧ ArrB w0 w' g (dropE es k) B ∧ w'.heap[B]? = w.heap[B]? := by
  obtain ⟨l, h1, h2, h3, h4, h5⟩ := h
  unfold dropE
  cases hi : idxOf es k with
  | none => exact (drop_none h1 k hk hi).mono fun e w' hp => ⟨hp.1, by rw [hp.2]; exact ⟨l, h1, h2, h3, h4, h5⟩, by rw [hp.2]⟩
  | some i => exact (drop_some h1 k (hk2 i hi) hn hwt hi hgap).mono fun e w' hp => hp.arrB h2 h3 h4 h5
theorem cell_of_heap {w w' : World} {B i : Nat} (h : w'.heap[B]? = w.heap[B]?) : w'.cell? ⟨B, i, none⟩ = w.cell? ⟨B, i, none⟩ := by
  unfold World.cell?; simp only [h]
theorem keysB {w0 w : World} {g : Nat} {es : List (Ent Int)} (h : ArrN w0 w g es) (hn : es.length ≤ 1000) :
    Calls Try.prog 9 #[.pointer (some ⟨g, 0, none⟩)] w fun e w' => ∃ B, e = .returned (.slice (some ⟨B, 0, none⟩) (live es).length (live es).length) ∧ ArrB w0 w' g es B ∧
      ∀ w2 : World, w2.heap[B]? = w'.heap[B]? → ∀ i p, (live es)[i]? = some p → w2.cell? ⟨B, i, none⟩ = some (.string ⟨p.1.toArray⟩) := by
  obtain ⟨l, h1, h2, h3⟩ := h
  have hlt := h1.lt
  refine (keys_any h1 hn).mono fun e w' hp => ?_
  obtain ⟨B, rfl, hBw, hB, hf, hc⟩ := hp
  exact ⟨B, rfl, ⟨l, h1.fr_nil hf, h2, h3.trans hf, fun hb => by have := hlt B hb; omega, hB⟩, fun w2 hw2 i p hi => (cell_of_heap hw2).trans (hc i p hi)⟩
end Go.Proofs.Ytfabmbemdaelcaa
