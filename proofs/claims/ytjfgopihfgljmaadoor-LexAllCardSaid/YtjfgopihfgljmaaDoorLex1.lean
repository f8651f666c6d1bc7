/-
  The lexer's reader in memory; byteAt, digit, letter, fault, pass. No conditions on the program.
-/
import Derived.Test.YtjfgopihfgljmaaDoorRows
import Derived.Test.YtjfgopihfgljmaaDoorLexM
import Derived.Test.YtjfgopihfgljmaaDoorOwn
import Derived.Test.YtjfgopihfgljmaaDoorDrawnF
import Derived.LoopTactic
import Derived.Deep.QuietTactic
import Derived.BigQuiet
namespace Go.Proofs.YtjfgopihfgljmaaDoor
open Go.RowKit
set_option linter.unusedVariables false
set_option linter.unusedSimpArgs false

theorem code_gen {P : Program} {c : Code} {Q : Exit → Act → World → Prop} {a : Act} {w : World} (h : ∀ W, W = w → c.wp P Q a W) : c.wp P Q a w := h w rfl
theorem calls_gen {P : Program} {f : FuncId} {args : Array Value} {R : Ending → World → Prop} {w : World} (h : ∀ W, W = w → Calls P f args W R) : Calls P f args w R := h w rfl
theorem body_gen {P : Program} {f : Func} {post : Ending → World → Prop} {ex : Exit} {a : Act} {w : World} (h : ∀ W, W = w → bodyPost P f post ex a W) : bodyPost P f post ex a w := h w rfl
theorem byte_at {w : World} {A : Option Addr} {bs : List UInt8} (h : Bytes w A bs) {i : Nat} (hi : i < bs.length) : ∃ a, A = some a ∧ a.block < w.heap.size ∧ w.cell? (a.add i) = some (.int .u8 ((bs.getD i 0).toNat : Int)) := by
  refine At.get h ?_
  simp [byteVals, List.getElem?_eq_getElem hi, List.getD_eq_getElem?_getD]

/-- The reader at block g, at place i of its source. -/
structure Rdr (w : World) (g : Nat) (A : Option Addr) (c : Nat) (src : List UInt8) (i : Nat) (L : Value) : Prop where
  blk : Bk w g 54 #[.slice A src.length c, .int .i64 (i : Int), L]
  byt : Bytes w A src
  lt_ : src ≠ [] → ∀ a, A = some a → a.block < g
  cap : src.length ≤ c
  nil : A = none → c = 0
  len : src.length ≤ 16384
  at_ : i ≤ src.length
namespace Rdr
variable {w w' : World} {g : Nat} {A : Option Addr} {c : Nat} {src : List UInt8} {i : Nat} {L : Value}
theorem byt_fr {l : List Nat} (h : Rdr w g A c src i L) (hf : Fr l w w') (hl : ∀ b ∈ l, g ≤ b) : Bytes w' A src := by
  by_cases e : src = []
  · subst e; exact .inl rfl
  · exact h.byt.fr hf (fun a ha _ hm => by have := hl _ hm; have := h.lt_ e a ha; omega)
/-- Whatever new blocks, and which blocks behind the reader's, have turned. -/
theorem fr_far {l : List Nat} (h : Rdr w g A c src i L) (hf : Fr l w w') (hl : ∀ b ∈ l, g < b) : Rdr w' g A c src i L :=
  { h with blk := h.blk.fr hf (fun hm => by have := hl _ hm; omega), byt := h.byt_fr hf (fun b hb => Nat.le_of_lt (hl b hb)) }
theorem fr_nil (h : Rdr w g A c src i L) (hf : Fr [] w w') : Rdr w' g A c src i L := h.fr_far hf (by simp)
theorem drewN (h : Rdr w g A c src i L) (n : Nat) : Rdr (w.drewN n) g A c src i L := h.fr_nil ((Fr.refl [] w).drewN n)
theorem move (h : Rdr w g A c src i L) {j : Nat} (hj : j ≤ src.length) : Rdr (w.setCell ⟨g, 1, none⟩ (.int .i64 (j : Int))) g A c src j L :=
  { h with blk := h.blk.put 1 _, byt := h.byt_fr (l := [g]) ((Fr.refl [g] w).setCell (.inl (by simp)) _) (by simp), at_ := hj }
theorem cells (h : Rdr w g A c src i L) : w.cell? ⟨g, 0, none⟩ = some (.slice A src.length c) ∧ w.cell? ⟨g, 1, none⟩ = some (.int .i64 (i : Int)) ∧ w.cell? ⟨g, 2, none⟩ = some L ∧ w.frozen? ⟨g, 1, none⟩ = false :=
  ⟨h.blk.cell_ rfl, h.blk.cell_ rfl, h.blk.cell_ rfl, h.blk.frozen 1⟩
end Rdr

theorem byteAt_any {w : World} {g : Nat} {A : Option Addr} {c : Nat} {src : List UInt8} {i : Nat} {L : Value} (h : Rdr w g A c src i L) (x : Int) (j : Nat) (hx : x = (j : Int)) :
    Calls Tryd.prog 28 #[.pointer (some ⟨g, 0, none⟩), .int .i64 x] w fun e w' => e = .returned (.int .u8 ((src.getD j 0).toNat : Int)) ∧ w = w' := by
  subst hx
  obtain ⟨c0, -, -, -⟩ := h.cells
  have hl := h.len
  by_cases hj : j < src.length
  · obtain ⟨a, rfl, hb, e0⟩ := byte_at h.byt hj
    clear h
    generalize (src.getD j 0).toNat = q at *
    go_enter Tryd.func28, Tryd.ntmps28
    go_wp2_with fail
    go_ret
    exact ⟨rfl, rfl⟩
  · have hz : src.getD j 0 = 0 := by simp [List.getD_eq_getElem?_getD, List.getElem?_eq_none (Nat.le_of_not_lt hj)]
    rw [hz]
    clear h hz
    go_enter Tryd.func28, Tryd.ntmps28
    go_wp2_with fail
    go_ret
    exact ⟨rfl, rfl⟩
theorem digit_any (c : UInt8) (w : World) : Calls Tryd.prog 29 #[.int .u8 (c.toNat : Int)] w fun e w' => e = .returned (.bool (digM c)) ∧ w = w' := by
  unfold digM
  generalize c.toNat = q
  cases h1 : decide ((48 : Int) ≤ (q : Int))
  all_goals
    go_enter Tryd.func29, Tryd.ntmps29
    go_wp2_with fail
    all_goals
      go_ret
      refine ⟨congrArg (fun b => Ending.returned (.bool b)) (?_ : _ = _), rfl⟩
      rw [Bool.eq_iff_iff]; simp at h1; simp <;> omega
theorem letter_any (c : UInt8) (w : World) : Calls Tryd.prog 34 #[.int .u8 (c.toNat : Int)] w fun e w' => e = .returned (.bool (letM c)) ∧ w = w' := by
  unfold letM
  generalize c.toNat = q
  cases h1 : decide ((65 : Int) ≤ (q : Int)) <;> cases h2 : decide ((q : Int) ≤ 90) <;> cases h3 : decide ((97 : Int) ≤ (q : Int))
  all_goals
    go_enter Tryd.func34, Tryd.ntmps34
    go_wp2_with fail
    all_goals
      go_ret
      refine ⟨congrArg (fun b => Ending.returned (.bool b)) (?_ : _ = _), rfl⟩
      rw [Bool.eq_iff_iff]; simp at h1 h2 h3; simp <;> omega
/-- An error at a place. -/
def fltV (w : World) (v : Value) (p : Nat) (code : Int) : Prop := ∃ b, v = .iface 34 (.pointer (some ⟨b, 0, none⟩)) ∧ Bk w b 38 #[.int .i64 (p : Int), .iface 51 (.int .i64 code)]
theorem fault_any (p : Nat) (code : Int) (w : World) : Calls Tryd.prog 11 #[.int .i64 (p : Int), .int .i64 code] w fun e w' => ∃ b, e = .returned (.iface 34 (.pointer (some ⟨b, 0, none⟩))) ∧ fltV w' (.iface 34 (.pointer (some ⟨b, 0, none⟩))) p code ∧ Fr [] w w' := by
  go_enter Tryd.func11, Tryd.ntmps11
  go_wp2_with fail
  go_ret
  exact ⟨_, rfl, ⟨_, rfl, Bk.new w _ _⟩, (Fr.refl [] w).alloc _⟩
end Go.Proofs.YtjfgopihfgljmaaDoor
