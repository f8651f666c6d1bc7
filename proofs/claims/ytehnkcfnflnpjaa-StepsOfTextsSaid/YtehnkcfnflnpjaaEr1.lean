/-
  The reader of expressions in memory; its small functions. No conditions but sizes.
-/
import Derived.Test.YtehnkcfnflnpjaaGe
import Derived.Test.YtehnkcfnflnpjaaRw
import Derived.Test.YtehnkcfnflnpjaaDrawn
import Derived.LoopTactic
import Derived.Deep.QuietTactic
import Derived.BigQuiet
namespace Go.Proofs.Ytehnkcfnflnpjaa
open Go.RowKit
set_option linter.unusedVariables false
set_option linter.unusedSimpArgs false

structure Rdr (w : World) (g : Nat) (A : Option Addr) (c : Nat) (bs : List UInt8) (i d : Nat) : Prop where
  blk : Bk w g 50 #[.slice A bs.length c, .int .i64 (i : Int), .int .i64 (d : Int)]
  byt : Bytes w A bs
  lt_ : bs ≠ [] → ∀ a, A = some a → a.block < g
  cap : bs.length ≤ c
  nil : A = none → c = 0
  capm : c ≤ maxLen
  len : bs.length ≤ 1000
  at_ : i ≤ bs.length
  deep : d ≤ 64
  glob : GlobOk w
  far : 0 < g
namespace Rdr
variable {w w' : World} {g : Nat} {A : Option Addr} {c : Nat} {bs : List UInt8} {i d : Nat}
theorem byt_fr {l : List Nat} (h : Rdr w g A c bs i d) (hf : Fr l w w') (hl : ∀ b ∈ l, g ≤ b) : Bytes w' A bs := by
  by_cases e : bs = []
  · subst e; exact .inl rfl
  · exact h.byt.fr hf (fun a ha _ hm => by have := hl _ hm; have := h.lt_ e a ha; omega)
theorem glob_fr {l : List Nat} (h : Rdr w g A c bs i d) (hf : Fr l w w') (hl : ∀ b ∈ l, g ≤ b) : GlobOk w' := by
  obtain ⟨m, hm⟩ := h.glob
  exact ⟨m, (hf.cell (World.block_lt_of_cell? w _ hm) (fun hm' => by have := hl _ hm'; have h0 := h.far; have h1 : (0 : Nat) = (⟨0, 0, none⟩ : Addr).block := rfl; omega)).trans hm⟩
theorem fr_far {l : List Nat} (h : Rdr w g A c bs i d) (hf : Fr l w w') (hl : ∀ b ∈ l, g < b) : Rdr w' g A c bs i d :=
  { h with blk := h.blk.fr hf (fun hm => by have := hl _ hm; omega), byt := h.byt_fr hf (fun b hb => Nat.le_of_lt (hl b hb)), glob := h.glob_fr hf (fun b hb => Nat.le_of_lt (hl b hb)) }
theorem fr_nil (h : Rdr w g A c bs i d) (hf : Fr [] w w') : Rdr w' g A c bs i d := h.fr_far hf (by simp)
theorem drewN (h : Rdr w g A c bs i d) (n : Nat) : Rdr (w.drewN n) g A c bs i d := h.fr_nil ((Fr.refl [] w).drewN n)
theorem move (h : Rdr w g A c bs i d) {j : Nat} (hj : j ≤ bs.length) : Rdr (w.setCell ⟨g, 1, none⟩ (.int .i64 (j : Int))) g A c bs j d :=
  { h with blk := h.blk.put 1 _, byt := h.byt_fr (l := [g]) ((Fr.refl [g] w).setCell (.inl (by simp)) _) (by simp), at_ := hj, glob := h.glob_fr (l := [g]) ((Fr.refl [g] w).setCell (.inl (by simp)) _) (by simp) }
theorem open_ (h : Rdr w g A c bs i d) {e : Nat} (he : e ≤ 64) : Rdr (w.setCell ⟨g, 2, none⟩ (.int .i64 (e : Int))) g A c bs i e :=
  { h with blk := h.blk.put 2 _, byt := h.byt_fr (l := [g]) ((Fr.refl [g] w).setCell (.inl (by simp)) _) (by simp), deep := he, glob := h.glob_fr (l := [g]) ((Fr.refl [g] w).setCell (.inl (by simp)) _) (by simp) }
theorem cells (h : Rdr w g A c bs i d) : w.cell? ⟨g, 0, none⟩ = some (.slice A bs.length c) ∧ w.cell? ⟨g, 1, none⟩ = some (.int .i64 (i : Int)) ∧ w.cell? ⟨g, 2, none⟩ = some (.int .i64 (d : Int)) ∧ w.frozen? ⟨g, 1, none⟩ = false ∧ w.frozen? ⟨g, 2, none⟩ = false :=
  ⟨h.blk.cell_ rfl, h.blk.cell_ rfl, h.blk.cell_ rfl, h.blk.frozen 1, h.blk.frozen 2⟩
end Rdr

theorem body_gen1 {P : Program} {f : Func} {post : Ending → World → Prop} {ex : Exit} {a : Act} {w : World} (h : ∀ W, W = w → bodyPost P f post ex a W) : bodyPost P f post ex a w := h w rfl
theorem efault_any (p c : Int) (w : World) : Calls Try.prog 12 #[.int .i64 p, .int .i64 c] w (FaultPost w p c) := by
  go_enter Try.func12, Try.ntmps12
  go_wp2_with fail
  go_ret
  exact ⟨_, rfl, ⟨_, rfl, Bk.new _ _ _⟩, (Fr.refl _ _).alloc _⟩

def stB (bs : List UInt8) (i c : Nat) : Bool := decide (bn bs i = c)
theorem stB_yes {bs : List UInt8} {i c : Nat} (h : bn bs i = c) : stB bs i c = true := by unfold stB; simp [h]
theorem stB_no {bs : List UInt8} {i c : Nat} (h : bn bs i ≠ c) : stB bs i c = false := by unfold stB; simp [h]
theorem bn_past {bs : List UInt8} {i : Nat} (h : bs.length ≤ i) : bn bs i = 0 := by
  unfold bn; simp [List.getD_eq_getElem?_getD, List.getElem?_eq_none h]
set_option maxHeartbeats 1000000 in
theorem stands_any {w : World} {g : Nat} {A : Option Addr} {c : Nat} {bs : List UInt8} {i d : Nat} (h : Rdr w g A c bs i d) (x : Nat) (hx : 0 < x) :
    Calls Try.prog 21 #[.pointer (some ⟨g, 0, none⟩), .int .u8 (x : Int)] w fun e w' => e = .returned (.bool (stB bs i x)) ∧ ∃ n, w' = w.drewN n := by
  obtain ⟨c0, c1, -, -, -⟩ := h.cells
  have hlen := h.len
  by_cases hlt : i < bs.length
  · obtain ⟨b, off, rfl, hb, hc⟩ := byte_at h.byt (i := i) hlt
    have e0 := hc i hlt
    obtain ⟨q, hq⟩ : ∃ q, q = bn bs i := ⟨_, rfl⟩
    have hr : stB bs i x = ((q : Int) == (x : Int)) := by
      rw [hq, Bool.eq_iff_iff]; unfold stB; simp; omega
    rw [hr]
    rw [← hq] at e0
    have h1 : decide (i < bs.length) = true := by simpa using hlt
    obtain ⟨n, hn⟩ : ∃ n, n = bs.length := ⟨_, rfl⟩
    rw [← hn] at c0 hlt h1 hlen
    have h2 : decide ((i : Int) < (n : Int)) = true := by simpa using hlt
    have h3 : (i : Int) < (n : Int) := by omega
    clear hc h hr hq hn
    go_enter Try.func21, Try.ntmps21
    go_wp2_with fail
    go_quiet (fail)
    go_wp2_with fail
    go_ret
    exact ⟨rfl, _, rfl⟩
  · have hr : stB bs i x = false := stB_no (by rw [bn_past (by omega)]; omega)
    rw [hr]
    have h1 : decide (i < bs.length) = false := by simpa using hlt
    obtain ⟨n, hn⟩ : ∃ n, n = bs.length := ⟨_, rfl⟩
    rw [← hn] at c0 hlt h1 hlen
    have h2 : decide ((i : Int) < (n : Int)) = false := by simp; omega
    clear h hr hn
    go_enter Try.func21, Try.ntmps21
    go_wp2_with fail
    go_quiet (fail)
    go_wp2_with fail
    go_ret
    exact ⟨rfl, _, rfl⟩
theorem eset_any (s : S4) (w : World) : Calls Try.prog 40 #[s.val] w fun e w' => e = .returned (.agg #[.int .i64 1, .int .u64 s.a, .int .u64 s.b, .int .u64 s.c, .int .u64 s.d, .int .i64 0, .int .i64 0, .slice none 0 0]) ∧ Fr [] w w' := by
  obtain ⟨a, b, c, d⟩ := s
  unfold S4.val
  go_enter Try.func40, Try.ntmps40
  go_wp2_with fail
  refine body_gen1 fun W hW => ?_
  refine bodyPost_ret (v := .agg #[.int .i64 1, .int .u64 a, .int .u64 b, .int .u64 c, .int .u64 d, .int .i64 0, .int .i64 0, .slice none 0 0]) (by simp [results, Try.results40, go_sem, hW]) rfl ⟨rfl, ?_⟩
  rw [hW]
  (repeat (first | (refine Fr.setCell ?_ (.inr (by simp)) _) | (refine Fr.alloc ?_ _)))
  exact Fr.refl _ _
end Go.Proofs.Ytehnkcfnflnpjaa
