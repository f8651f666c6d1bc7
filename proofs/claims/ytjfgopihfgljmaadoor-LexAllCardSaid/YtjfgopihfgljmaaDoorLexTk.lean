/-
  A list of tokens in memory, cell by cell; an argument of bytes. No conditions.
-/
import Derived.Test.YtjfgopihfgljmaaDoorLexAw
import Derived.Test.YtjfgopihfgljmaaDoorRead
namespace Go.Proofs.YtjfgopihfgljmaaDoor
open Go.RowKit Go.ChangeShapes Go.WideShapes Go.ChangeAt Go.Deep
set_option linter.unusedVariables false
set_option linter.unusedSimpArgs false

/-- Token k of the list at block b. -/
def TkAt (w : World) (b k : Nat) (t : Tk) : Prop :=
  w.cell? ⟨b, k * 6, none⟩ = some (.int .i64 (t.k : Int)) ∧ w.cell? ⟨b, k * 6 + 1, none⟩ = some (.int .i64 (t.p : Int)) ∧ w.cell? ⟨b, k * 6 + 2, none⟩ = some (.string ⟨t.s.toArray⟩) ∧
    w.cell? ⟨b, k * 6 + 3, none⟩ = some (.bool false) ∧ w.cell? ⟨b, k * 6 + 4, none⟩ = some (.int .u64 ((t.v / 18446744073709551616 : Nat) : Int)) ∧
    w.cell? ⟨b, k * 6 + 5, none⟩ = some (.int .u64 ((t.v % 18446744073709551616 : Nat) : Int))
theorem Toks.cells_ {w : World} {L : Value} {ts : List Tk} (h : Toks w L ts) (hne : ts ≠ []) :
    ∃ b cap, L = .slice (some ⟨b, 0, none⟩) ts.length cap ∧ ts.length ≤ cap ∧ cap ≤ maxLen ∧ b < w.heap.size ∧ ∀ w', Fr [] w w' → ∀ k t, ts[k]? = some t → TkAt w' b k t := by
  have hlt := h.lt
  obtain ⟨b, cap, rfl, h1, h2, hc⟩ := h.at_ hne
  have hb := hlt b rfl
  refine ⟨b, cap, rfl, h1, h2, hb, fun w' hf k t hk => ?_⟩
  have g : ∀ j v, j < 6 → (Tk.cells t)[j]? = some v → w'.cell? ⟨b, k * 6 + j, none⟩ = some v := fun j v hj hv =>
    (hf.cell (p := ⟨b, k * 6 + j, none⟩) hb (by simp)).trans (hc _ _ ((flat_at ts t j hj k hk).trans hv))
  exact ⟨g 0 _ (by omega) rfl, g 1 _ (by omega) rfl, g 2 _ (by omega) rfl, g 3 _ (by omega) rfl, g 4 _ (by omega) rfl, g 5 _ (by omega) rfl⟩
theorem u8c : Tryd.prog.cellsOf 5 = 1 := by kernel_rfl
set_option maxRecDepth 100000 in
theorem arg_bytes {H : Type} {enc : TypeId × Value → H} {w : World} {base base' : Nat} {spare : Nat → Bool} {held : Bool} {r : Reach} {v : Value} {d : DataW H} {p : List MemPlace}
    (hv : Value.okWide Tryd.prog w r base' 22 v) (h : DataW.Trod enc Tryd.prog w base spare held 22 v d p) :
    ∃ (A : Option Addr) (c : Nat) (bs : List UInt8), v = .slice A bs.length c ∧ bs.length ≤ c ∧ c ≤ maxLen ∧ (A = none → c = 0) ∧ Bytes w A bs := by
  obtain ⟨A, n, c, rfl, h1, h2, h3, hi⟩ := arg_slice Tryd.underlying22 (by rw [u8c]; omega) hv h
  obtain ⟨A', c', bs, hbs, g1, g2, g3, g4⟩ := (Rd.of_trod h).bytes_ Tryd.underlying22 Tryd.underlying5 u8c
  have : (Value.slice A n c).cells.toList = [Value.slice A n c] := rfl
  rw [this] at hbs
  injection hbs with hbs
  injection hbs with e1 e2 e3
  subst e1 e2 e3
  exact ⟨A, c, bs, rfl, g1, g2, g3, g4⟩
end Go.Proofs.YtjfgopihfgljmaaDoor
