/-
 ErN, Index: several small texts in one. No conditions.
-/
import Derived.Test.YtfbmogccmlikaaaGreatDoorGc
import Derived.Test.YtfbmogccmlikaaaGreatDoorShelf
import Derived.Lib.IndexLaws
namespace Go.Proofs.YtfbmogccmlikaaaGreatDoor
set_option linter.unusedVariables false
set_option linter.unusedSimpArgs false
def isDig (c : UInt8) : Bool := decide (48 ≤ c.toNat) && decide (c.toNat ≤ 57)
def numV (l : List UInt8) : Nat := l.foldl (fun v c => v * 10 + (c.toNat - 48)) 0
def numS (l : List UInt8) : Nat × Nat := if 3 < (l.takeWhile isDig).length then (0, 0) else (numV (l.takeWhile isDig), (l.takeWhile isDig).length)
def intervalT (l : List UInt8) (v n : Nat) : Int × Int × Nat :=
 if n = 0 then (0, 0, 0)
 else if bn l (n + 1) = 44 then
  (if bn l (n + 2 + (numS (l.drop (n + 2))).2) = 125 then ((v : Int), (if (numS (l.drop (n + 2))).2 = 0 then -1 else ((numS (l.drop (n + 2))).1 : Int)), n + 2 + (numS (l.drop (n + 2))).2 + 1) else (0, 0, 0))
 else if bn l (n + 1) = 125 then ((v : Int), (v : Int), n + 2)
 else (0, 0, 0)
def intervalS (l : List UInt8) : Int × Int × Nat := intervalT l (numS (l.drop 1)).1 (numS (l.drop 1)).2
def signS (bs : List UInt8) (i : Nat) : Int × Int × Nat :=
 if bn bs i = 42 then (0, -1, 1) else if bn bs i = 43 then (1, -1, 1) else if bn bs i = 63 then (0, 1, 1) else if bn bs i = 123 then intervalS (bs.drop i) else (0, 0, 0)
theorem numS_le (l : List UInt8) : (numS l).2 ≤ l.length ∧ (numS l).2 ≤ 3 ∧ (numS l).1 ≤ 999 := by
 unfold numS
 have h := (List.takeWhile_sublist (l := l) isDig).length_le
 split
 ·simp
 ·refine ⟨h, by simp; omega, ?_⟩
  have hall : ∀ c ∈ l.takeWhile isDig, isDig c = true := fun c hc => by
   have := List.all_takeWhile (p := isDig) (l := l)
   rw [List.all_eq_true] at this
   exact this c hc
  generalize l.takeWhile isDig = x at *
  have hd : ∀ c : UInt8, isDig c = true → c.toNat - 48 ≤ 9 := fun c hc => by unfold isDig at hc; simp at hc; omega
  match x with
  | [] => simp [numV]
  | [a] => have := hd a (hall a (by simp)); simp [numV]; omega
  | [a, b] => have := hd a (hall a (by simp)); have := hd b (hall b (by simp)); simp [numV]; omega
  | [a, b, c] => have := hd a (hall a (by simp)); have := hd b (hall b (by simp)); have := hd c (hall c (by simp)); simp [numV]; omega
  | _ :: _ :: _ :: _ :: _ => simp at *
theorem bn_pos {bs : List UInt8} {i c : Nat} (h : bn bs i = c) (hc : 0 < c) : i < bs.length := by
 rcases Nat.lt_or_ge i bs.length with h1 | h1
 ·exact h1
 ·unfold bn at h; simp [List.getD_eq_getElem?_getD, List.getElem?_eq_none h1] at h; omega
theorem intervalT_le (l : List UInt8) (v n : Nat) : (intervalT l v n).2.2 ≤ l.length := by
 unfold intervalT
 split
 ·simp
 ·split
  ·split
   ·rename_i h; have := bn_pos h (by omega); simp; omega
   ·simp
  ·split
   ·rename_i h; have := bn_pos h (by omega); simp; omega
   ·simp
theorem signS_le (bs : List UInt8) (i : Nat) (hi : i ≤ bs.length) : i + (signS bs i).2.2 ≤ bs.length := by
 unfold signS
 split
 ·rename_i h; have := bn_pos h (by omega); simp; omega
 ·split
  ·rename_i h; have := bn_pos h (by omega); simp; omega
  ·split
   ·rename_i h; have := bn_pos h (by omega); simp; omega
   ·split
    ·have := intervalT_le (bs.drop i) (numS ((bs.drop i).drop 1)).1 (numS ((bs.drop i).drop 1)).2
     unfold intervalS; simp at this ⊢; omega
    ·simp; exact hi
end Go.Proofs.YtfbmogccmlikaaaGreatDoor
namespace Go.Proofs.YtfbmogccmlikaaaGreatDoor
open Go.RowKit
set_option linter.unusedVariables false
set_option linter.unusedSimpArgs false
def GlobOk (w : World) : Prop := ∃ m, w.cell? ⟨1, 0, none⟩ = some (.int .i64 m)
theorem GlobOk.fr {w w' : World} (h : GlobOk w) (hf : Fr [] w w') : GlobOk w' := by
 obtain ⟨m, hm⟩ := h
 exact ⟨m, (hf.cell (World.block_lt_of_cell? w _ hm) (by simp)).trans hm⟩
theorem nums_of (l : List UInt8) : Lib.bytesOf (l.map fun b : UInt8 => (b.toNat : Int)) = l := by
 unfold Lib.bytesOf
 rw [List.map_map]
 conv => rhs; rw [← List.map_id l]
 apply List.map_congr_left
 intro b _
 simp
theorem nums_range (l : List UInt8) : ∀ x ∈ l.map (fun b : UInt8 => (b.toNat : Int)), 0 ≤ x ∧ x < 256 := by
 intro x hx
 obtain ⟨b, _, rfl⟩ := List.mem_map.1 hx
 have := b.toNat_lt
 omega
theorem nums_cells {w : World} {a : Addr} {l : List UInt8} (h : Bytes w (some a) l) : ∀ i, i < l.length → w.cell? (a.add i) = some (.int .u8 ((l.map fun b : UInt8 => (b.toNat : Int)).getD i 0)) := by
 intro i hi
 have e : (byteVals l)[i]? = some (.int .u8 ((l.map fun b : UInt8 => (b.toNat : Int)).getD i 0)) := by simp [byteVals, hi]
 exact At.cells h i _ e
theorem index_any {w : World} {A B : Option Addr} {bs sub : List UInt8} {c d : Nat} (h1 : Bytes w A bs) (h2 : Bytes w B sub) (hs : 2 ≤ sub.length) (hs2 : sub.length ≤ 1000) (hl : bs.length < 4294967281) (hc : bs.length ≤ c) (hg : GlobOk w) (n m : Nat) (hn : bs.length = n) (hm : sub.length = m) :
    Calls Tryz.prog 61 #[.slice A n c, .slice B m d] w fun e w' => e = .returned (.int .i64 (Lib.index bs sub)) ∧ Fr [] w w' := by
 subst hn hm
 by_cases hlt : bs.length < sub.length
 ·have e : Lib.index bs sub = -1 := Lib.index_long (by omega) (by rintro rfl; omega)
  rw [e]
  exact (Tryz.bytes_Index_longer A B bs.length c sub.length d w hs hlt (by omega)).mono fun e w' ⟨he, hw⟩ => ⟨he, by rw [hw]; exact Fr.refl _ _⟩
 ·obtain ⟨g, hg⟩ := hg
  obtain ⟨a, rfl⟩ : ∃ a, A = some a := by
   rcases h1 with h | ⟨a, h, _⟩
   ·exfalso
    have : bs = [] := by simpa [byteVals] using h
    subst this; apply hlt; simp; omega
   ·exact ⟨a, h⟩
  obtain ⟨b, rfl⟩ : ∃ b, B = some b := by
   rcases h2 with h | ⟨b, h, _⟩
   ·exfalso
    have : sub = [] := by simpa [byteVals] using h
    subst this; simp at hs
   ·exact ⟨b, h⟩
  have hx := Tryz.bytes_Index_at a b bs.length c sub.length d (bs.map fun b : UInt8 => (b.toNat : Int)) (sub.map fun b : UInt8 => (b.toNat : Int)) g w (by simp) (by simp) (nums_range _) (nums_range _) (nums_cells h1) (nums_cells h2) hc hl (by omega) hg
  rw [nums_of, nums_of] at hx
  exact hx.mono fun e w' ⟨he, q, hw⟩ => ⟨he, by rw [hw]; exact (Fr.refl _ _).drewN q⟩
end Go.Proofs.YtfbmogccmlikaaaGreatDoor
