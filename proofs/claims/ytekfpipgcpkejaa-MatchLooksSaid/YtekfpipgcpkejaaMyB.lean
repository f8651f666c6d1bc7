/-
  Bytes that a law appends to one another. No conditions.
-/
import Derived.Test.YtekfpipgcpkejaaOwn
import Derived.Test.YtekfpipgcpkejaaRead
namespace Go.Proofs.Ytekfpipgcpkejaa
open Go.RowKit
set_option linter.unusedVariables false
set_option linter.unusedSimpArgs false

def MyB (w wr : World) (v : Value) (bs : List UInt8) : Prop := Own wr 5 v (byteVals bs) ∧ (∀ b, v.ownBlock = some b → w.heap.size ≤ b) ∧ Fr [] w wr
theorem MyB.snoc {w wr w' : World} {v v' : Value} {bs : List UInt8} {x : UInt8} {O : Obj} (h : MyB w wr v bs) (h1 : Own w' 5 v' (byteVals bs ++ [.int .u8 (x.toNat : Int)])) (h2 : (wr.alloc O).grownBy w' v.ownBlock)
    (h3 : v'.ownBlock = v.ownBlock ∨ v'.ownBlock = some (wr.alloc O).heap.size) : MyB w w' v' (bs ++ [x]) := by
  obtain ⟨-, k2, k3⟩ := h
  refine ⟨by rw [byteVals_append]; exact h1, fun b hb => ?_, (k3.alloc O).grown h2 (fun g hg => .inr (k2 g hg))⟩
  rcases h3 with h3 | h3
  · exact k2 b (by rw [← h3]; exact hb)
  · rw [h3] at hb; injection hb with hb
    have := k3.size
    simp at hb; omega
theorem one_byte (w : World) (x : Int) : At (w.alloc (.cells #[.int .u8 x] 5)) (some ⟨w.heap.size, 0, none⟩) [.int .u8 x] :=
  At.of_bk (n := 1) (Bk.new w 5 #[.int .u8 x]) (by simp)
theorem MyB.cat {w wr w' : World} {v v' : Value} {bs cs : List UInt8} (h : MyB w wr v bs) (h1 : Own w' 5 v' (byteVals bs ++ byteVals cs)) (h2 : wr.grownBy w' v.ownBlock) (h3 : v'.ownBlock = v.ownBlock ∨ v'.ownBlock = some wr.heap.size) : MyB w w' v' (bs ++ cs) := by
  obtain ⟨-, k2, k3⟩ := h
  refine ⟨by rw [byteVals_append]; exact h1, fun b hb => ?_, k3.grown h2 (fun g hg => .inr (k2 g hg))⟩
  rcases h3 with h3 | h3
  · exact k2 b (by rw [← h3]; exact hb)
  · rw [h3] at hb; injection hb with hb
    have := k3.size
    omega
theorem len_ok (xs : List UInt8) (m : Nat) {bytes : Nat} (hb : bytes = 1) (hx : xs.length + m ≤ 1000) : (byteVals xs).length + m ≤ maxLen ∧ ((byteVals xs).length + m) * bytes ≤ 140737488355328 := by
  rw [byteVals_length, hb]; unfold maxLen; omega
theorem MyB.alloc {w wr : World} {v : Value} {bs : List UInt8} (h : MyB w wr v bs) (O : Obj) : MyB w (wr.alloc O) v bs :=
  ⟨h.1.fr ((Fr.refl [] wr).alloc O) (by simp), h.2.1, h.2.2.alloc O⟩
theorem own_new (w : World) (bs : List UInt8) (hl : bs.length ≤ maxLen) : MyB w (w.alloc (.cells (byteVals bs).toArray 5)) (.slice (some ⟨w.heap.size, 0, none⟩) bs.length bs.length) bs := by
  refine ⟨⟨_, bs.length, by rw [byteVals_length], by rw [byteVals_length]; exact Nat.le_refl _, hl, .inr ⟨w.heap.size, 0, (byteVals bs).toArray, rfl, heap_alloc_new w _, by simp [byteVals], by simp⟩⟩, fun b hb => ?_, (Fr.refl [] w).alloc _⟩
  simp [Value.ownBlock] at hb; omega
theorem MyB.form {w wr : World} {v : Value} {bs : List UInt8} (h : MyB w wr v bs) : ∃ A c, v = .slice A (byteVals bs).length c ∧ Bytes wr A bs ∧ (byteVals bs).length ≤ c ∧ c ≤ maxLen ∧ (A = none → c = 0) ∧ Fr [] w wr := by
  obtain ⟨A, c, hv, hat, h1, h2, h3, -⟩ := h.1.at_
  exact ⟨A, c, hv, hat, h1, h2, h3, h.2.2⟩
end Go.Proofs.Ytekfpipgcpkejaa
