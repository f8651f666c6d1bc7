/-
  bytes.Index at a separator of two bytes or more, by the shelf's contract. Of fewer than 4294967281 bytes (a bound of the model).
-/
import Derived.Test.YtmecogilhoebgaaShelf
import Derived.Test.YtmecogilhoebgaaEsc
import Derived.Lib.IndexLaws
namespace Go.Proofs.Ytmecogilhoebgaa
open Go.RowKit
set_option linter.unusedVariables false
set_option linter.unusedSimpArgs false

/-- The variable that the library's search reads is there. -/
def GlobOk (w : World) : Prop := ∃ m, w.cell? ⟨0, 0, none⟩ = some (.int .i64 m)
theorem GlobOk.fr {w w' : World} (h : GlobOk w) (hf : Fr [] w w') : GlobOk w' := by
  obtain ⟨m, hm⟩ := h
  exact ⟨m, (hf.cell (World.block_lt_of_cell? w _ hm) (by simp)).trans hm⟩

theorem nums_of (l : List UInt8) : Lib.bytesOf (l.map fun b : UInt8 => (b.toNat : Int)) = l := by
  unfold Lib.bytesOf
  rw [List.map_map]
  conv => rhs; rw [← List.map_id l]
  apply List.map_congr_left
  intro b _
  simp
theorem nums_range (l : List UInt8) : ∀ x ∈ l.map (fun b : UInt8 => (b.toNat : Int)), 0 ≤ x ∧ x < 256 := by
  intro x hx
  obtain ⟨b, _, rfl⟩ := List.mem_map.1 hx
  have := b.toNat_lt
  omega
theorem nums_cells {w : World} {a : Addr} {l : List UInt8} (h : Bytes w (some a) l) : ∀ i, i < l.length → w.cell? (a.add i) = some (.int .u8 ((l.map fun b : UInt8 => (b.toNat : Int)).getD i 0)) := by
  intro i hi
  have e : (byteVals l)[i]? = some (.int .u8 ((l.map fun b : UInt8 => (b.toNat : Int)).getD i 0)) := by simp [byteVals, hi]
  exact At.cells h i _ e

theorem index_any {w : World} {A B : Option Addr} {bs sub : List UInt8} {c d : Nat} (h1 : Bytes w A bs) (h2 : Bytes w B sub) (hs : 2 ≤ sub.length) (hs2 : sub.length ≤ 1000) (hl : bs.length < 4294967281) (hc : bs.length ≤ c) (hg : GlobOk w) (n m : Nat) (hn : bs.length = n) (hm : sub.length = m) :
    Calls Try.prog 34 #[.slice A n c, .slice B m d] w fun e w' => e = .returned (.int .i64 (Lib.index bs sub)) ∧ Fr [] w w' := by
  subst hn hm
  by_cases hlt : bs.length < sub.length
  · have e : Lib.index bs sub = -1 := Lib.index_long (by omega) (by rintro rfl; omega)
    rw [e]
    exact (Try.bytes_Index_longer A B bs.length c sub.length d w hs hlt (by omega)).mono fun e w' ⟨he, hw⟩ => ⟨he, by rw [hw]; exact Fr.refl _ _⟩
  · obtain ⟨g, hg⟩ := hg
    obtain ⟨a, rfl⟩ : ∃ a, A = some a := by
      rcases h1 with h | ⟨a, h, _⟩
      · exfalso
        have : bs = [] := by simpa [byteVals] using h
        subst this; apply hlt; simp; omega
      · exact ⟨a, h⟩
    obtain ⟨b, rfl⟩ : ∃ b, B = some b := by
      rcases h2 with h | ⟨b, h, _⟩
      · exfalso
        have : sub = [] := by simpa [byteVals] using h
        subst this; simp at hs
      · exact ⟨b, h⟩
    have hx := Try.bytes_Index_at a b bs.length c sub.length d (bs.map fun b : UInt8 => (b.toNat : Int)) (sub.map fun b : UInt8 => (b.toNat : Int)) g w (by simp) (by simp) (nums_range _) (nums_range _) (nums_cells h1) (nums_cells h2) hc hl (by omega) hg
    rw [nums_of, nums_of] at hx
    exact hx.mono fun e w' ⟨he, q, hw⟩ => ⟨he, by rw [hw]; exact (Fr.refl _ _).drewN q⟩
end Go.Proofs.Ytmecogilhoebgaa
