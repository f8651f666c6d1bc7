/-
  A record in memory: its block and its list of strings; New, Get, Count, Join; words.Split. No conditions on the program.
-/
import Derived.Test.YtokamlobppejhaaGreatDoorRows
import Derived.Test.YtokamlobppejhaaGreatDoorOwn
import Derived.Test.YtokamlobppejhaaGreatDoorFdM
import Derived.LoopTactic
namespace Go.Proofs.YtokamlobppejhaaGreatDoor
open Go.RowKit
set_option linter.unusedVariables false
set_option linter.unusedSimpArgs false

def strVals (l : List (List UInt8)) : List Value := l.map fun b => .string ⟨b.toArray⟩
theorem strVals_length (l : List (List UInt8)) : (strVals l).length = l.length := by simp [strVals]
theorem strVals_append (a b : List (List UInt8)) : strVals (a ++ b) = strVals a ++ strVals b := by simp [strVals]
theorem strVals_get (l : List (List UInt8)) {j : Nat} (h : j < l.length) : (strVals l)[j]? = some (.string ⟨(l.getD j []).toArray⟩) := by simp [strVals, h]
theorem strVals_one (l : List (List UInt8)) : ∀ u ∈ strVals l, u.oneCell' = true := by
  intro u hu
  obtain ⟨b, _, rfl⟩ := List.mem_map.1 hu
  rfl
theorem Own.ne_bk {w : World} {e : TypeId} {v : Value} {xs : List Value} {g : Nat} {t : TypeId} {cs : Array Value} (h : Own w e v xs) (hb : Bk w g t cs) (hne : e ≠ t) : v.ownBlock ≠ some g := by
  obtain ⟨A, cap, rfl, -, -, ⟨rfl, -⟩ | ⟨g', off, cur, rfl, hg, -⟩⟩ := h
  · simp [Value.ownBlock]
  · intro hk
    simp [Value.ownBlock] at hk
    subst hk
    exact Bk.ne_ (g := g') (cs := cur) hg hb hne rfl
/-- A slice of strings in memory. -/
def OwnL (w : World) (v : Value) (l : List (List UInt8)) : Prop := Own w 9 v (strVals l)
theorem OwnL.val {w : World} {v : Value} {l : List (List UInt8)} (h : OwnL w v l) : ∃ A cap, v = .slice A l.length cap ∧ l.length ≤ cap ∧ cap ≤ maxLen ∧ At w A (strVals l) ∧ (A = none → cap = 0) := by
  obtain ⟨A, cap, rfl, h1, h2, h3, h4, -⟩ := Own.at_ h
  rw [strVals_length] at h2
  exact ⟨A, cap, by rw [strVals_length], h2, h3, h1, h4⟩
theorem OwnL.cell {w : World} {A : Option Addr} {n c : Nat} {l : List (List UInt8)} (h : OwnL w (.slice A n c) l) {j : Nat} (hj : j < l.length) : ∃ b off, A = some ⟨b, off, none⟩ ∧ w.cell? ⟨b, off + j, none⟩ = some (.string ⟨(l.getD j []).toArray⟩) := by
  obtain ⟨A', cap, hv, h1, h2, h3⟩ := h
  injection hv with e1 e2 e3
  subst e1
  rcases h3 with ⟨rfl, h3⟩ | ⟨g, off, cur, rfl, hg, h4, h5⟩
  · rw [strVals_length] at h1; omega
  · refine ⟨g, off, rfl, ?_⟩
    have hb : Bk w g 9 cur := hg
    rw [hb.cell]
    have := strVals_get l hj
    rw [← h5, strVals_length, List.getElem?_take, if_pos hj, List.getElem?_drop] at this
    simpa using this
/-- A record, as numbers and bytes. -/
structure Rc where
  kind : Int
  c : UInt8
  jn : List UInt8
  text : List UInt8
  l : List (List UInt8)
def rcCells (x : Rc) (v : Value) : Array Value := #[.int .i64 x.kind, .int .u8 (x.c.toNat : Int), .pointer none, .string ⟨x.jn.toArray⟩, .string ⟨x.text.toArray⟩, v]
def RcR (w : World) (r : Nat) (x : Rc) (v : Value) : Prop := Bk w r 40 (rcCells x v) ∧ OwnL w v x.l
def RcM (w : World) (r : Nat) (x : Rc) : Prop := ∃ v, RcR w r x v
theorem RcM.lt {w : World} {r : Nat} {x : Rc} (h : RcM w r x) : r < w.heap.size := by obtain ⟨v, h, -⟩ := h; exact h.lt
theorem RcM.fr_nil {w w' : World} {r : Nat} {x : Rc} (h : RcM w r x) (hf : Fr [] w w') : RcM w' r x := by
  obtain ⟨v, h1, h2⟩ := h
  exact ⟨v, h1.fr hf (by simp), Own.fr h2 hf (by simp)⟩
theorem RcM.fr_one {w w' : World} {r q : Nat} {x y : Rc} (h : RcM w r x) (hq : RcM w q y) (hne : r ≠ q) (hf : Fr [q] w w') : RcM w' r x := by
  obtain ⟨v, h1, h2⟩ := h
  obtain ⟨u, g1, -⟩ := hq
  exact ⟨v, h1.fr hf (by simpa using hne), Own.fr h2 hf (fun k hk => by have := Own.ne_bk h2 g1 (by decide); simp; rintro rfl; exact this hk)⟩
theorem rc_cells {w : World} {r : Nat} {x : Rc} {v : Value} (h : Bk w r 40 (rcCells x v)) :
    w.cell? ⟨r, 0, none⟩ = some (.int .i64 x.kind) ∧ w.cell? ⟨r, 1, none⟩ = some (.int .u8 (x.c.toNat : Int)) ∧ w.cell? ⟨r, 2, none⟩ = some (.pointer none) ∧ w.cell? ⟨r, 3, none⟩ = some (.string ⟨x.jn.toArray⟩) ∧ w.cell? ⟨r, 4, none⟩ = some (.string ⟨x.text.toArray⟩) ∧ w.cell? ⟨r, 5, none⟩ = some v :=
  ⟨h.cell_ rfl, h.cell_ rfl, h.cell_ rfl, h.cell_ rfl, h.cell_ rfl, h.cell_ rfl⟩
def newRc : Rc := ⟨0, 0, [32], [], []⟩
theorem fnew_any (w : World) : Calls Tryz.prog 5 #[] w fun e w' => e = .returned (.pointer (some ⟨w.heap.size, 0, none⟩)) ∧ RcM w' w.heap.size newRc ∧ Fr [] w w' ∧ w'.heap.size = w.heap.size + 1 := by
  go_enter Tryz.func5, Tryz.ntmps5
  go_wp2_with fail
  go_ret
  exact ⟨rfl, ⟨_, Bk.new w _ _, Own.nil_ _ _⟩, (Fr.refl _ _).alloc _, by simp⟩
theorem count_any {w : World} {r : Nat} {x : Rc} (h : RcM w r x) : Calls Tryz.prog 8 #[.pointer (some ⟨r, 0, none⟩)] w fun e w' => e = .returned (.int .i64 x.l.length) ∧ w = w' := by
  obtain ⟨v, h1, h2⟩ := h
  obtain ⟨A, cap, rfl, -⟩ := OwnL.val h2
  obtain ⟨-, -, -, -, -, d5⟩ := rc_cells h1
  clear h1 h2
  go_enter Tryz.func8, Tryz.ntmps8
  go_wp2_with fail
  go_ret
  exact ⟨rfl, rfl⟩
theorem get_any {w : World} {r : Nat} {x : Rc} (h : RcM w r x) (i : Int) : Calls Tryz.prog 12 #[.pointer (some ⟨r, 0, none⟩), .int .i64 i] w fun e w' => e = .returned (.string ⟨(getM x.text x.l i).toArray⟩) ∧ w = w' := by
  obtain ⟨v, h1, h2⟩ := h
  obtain ⟨A, cap, rfl, hcap, hmx, -⟩ := OwnL.val h2
  obtain ⟨-, -, -, -, d4, d5⟩ := rc_cells h1
  unfold maxLen at hmx
  by_cases h0 : i = 0
  · subst h0
    clear h1 h2
    go_enter Tryz.func12, Tryz.ntmps12
    go_wp2_with fail
    go_ret
    exact ⟨rfl, rfl⟩
  have t0 : (i == 0) = false := by simpa using h0
  by_cases hn : i < 0
  · have t1 : decide (i < 0) = true := by simpa using hn
    have e : getM x.text x.l i = [] := by unfold getM; rw [if_neg h0, if_pos hn]
    rw [e]
    clear h1 h2
    go_enter Tryz.func12, Tryz.ntmps12
    go_wp2_with fail
    go_ret
    exact ⟨rfl, rfl⟩
  have t1 : decide (i < 0) = false := by simpa using hn
  obtain ⟨j, rfl⟩ : ∃ j : Nat, i = (j : Int) + 1 := ⟨(i - 1).toNat, by omega⟩
  have e : getM x.text x.l ((j : Int) + 1) = x.l.getD j [] := by
    have := getM_nat x.text x.l (j + 1) (by omega)
    simpa using this
  rw [e]
  by_cases hj : j < x.l.length
  · have t2 : decide ((x.l.length : Int) < (j : Int) + 1) = false := by simp; omega
    obtain ⟨b, off, rfl, hc⟩ := OwnL.cell h2 hj
    have hwr : IntKind.i64.wrap ((j : Int) + 1 - 1) = (j : Int) := by rw [show (j : Int) + 1 - 1 = (j : Int) by omega, IntKind.wrap_i64]; omega
    clear h1 h2 e
    go_enter Tryz.func12, Tryz.ntmps12
    go_wp2_with fail
    go_ret
    exact ⟨rfl, rfl⟩
  · have t2 : decide ((x.l.length : Int) < (j : Int) + 1) = true := by simp; omega
    have e2 : x.l.getD j [] = [] := by rw [List.getD_eq_getElem?_getD, List.getElem?_eq_none (by omega)]; rfl
    rw [e2]
    clear h1 h2 e e2
    go_enter Tryz.func12, Tryz.ntmps12
    go_wp2_with fail
    go_ret
    exact ⟨rfl, rfl⟩
theorem RcR.fr_put {w w' : World} {r : Nat} {x y : Rc} {v u : Value} (h : RcR w r x v) (hf : Fr [r] w w') (hb : Bk w' r 40 (rcCells y u)) (ho : OwnL w u y.l) : RcR w' r y u :=
  ⟨hb, Own.fr ho hf (fun k hk => by have := Own.ne_bk ho h.1 (by decide); simp; rintro rfl; exact this hk)⟩
set_option maxRecDepth 100000 in
theorem sepr_one {w : World} {r : Nat} {x : Rc} (h : RcM w r x) (c : UInt8) (h1 : c ≠ 32) (h2 : c ≠ 92) : Calls Tryz.prog 6 #[.pointer (some ⟨r, 0, none⟩), .string ⟨#[c]⟩] w fun e w' => e = .returned .nilIface ∧ RcM w' r { x with kind := 1, c := c } ∧ Fr [r] w w' := by
  obtain ⟨v, h⟩ := h
  obtain ⟨d0, d1, d2, -, -, -⟩ := rc_cells h.1
  have f0 := h.1.frozen 0; have f1 := h.1.frozen 1; have f2 := h.1.frozen 2
  have t1 : ([c] == [(32 : UInt8)]) = false := by simpa using h1
  have t2 : ([c] == ([] : List UInt8)) = false := by simp
  have h3 : c.toNat ≠ 92 := fun e => h2 (UInt8.toNat_inj.1 e)
  have t3 : ((c.toNat : Int) == 92) = false := beq_eq_false_iff_ne.2 (by omega)
  have i0 : ∀ W, (Instr.index 9 (.string ⟨#[c]⟩) (.int .i64 0)).run Tryz.prog W = .ok (.int .u8 (c.toNat : Int)) W := fun W => by kernel_rfl
  have H := Lib.hid h; clear h h1 h2 h3
  go_enter Tryz.func6, Tryz.ntmps6
  go_wp2_with fail
  go_ret
  refine ⟨rfl, ⟨v, H.out.fr_put (y := { x with kind := 1, c := c }) (((Fr.refl [r] w).setCell (.inl (by simp)) _).setCell (.inl (by simp)) _ |>.setCell (.inl (by simp)) _) (((H.out.1.put 0 (.int .i64 1)).put 1 (.int .u8 (c.toNat : Int))).put 2 (.pointer none)) H.out.2⟩, ((Fr.refl [r] w).setCell (.inl (by simp)) _).setCell (.inl (by simp)) _ |>.setCell (.inl (by simp)) _⟩
end Go.Proofs.YtokamlobppejhaaGreatDoor
