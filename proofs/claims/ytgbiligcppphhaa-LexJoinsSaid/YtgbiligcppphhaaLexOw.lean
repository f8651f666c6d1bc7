/-
  Slices of bytes that a law builds, and lex.All on them. No conditions.
-/
import Derived.Test.YtgbiligcppphhaaLexTk
namespace Go.Proofs.Ytgbiligcppphhaa
open Go.RowKit Go.ChangeShapes Go.WideShapes Go.ChangeAt Go.Deep
set_option linter.unusedVariables false
set_option linter.unusedSimpArgs false

theorem own_empty (w : World) (e : TypeId) : Own (w.alloc (.cells #[] e)) e (.slice (some ⟨w.heap.size, 0, none⟩) 0 0) [] :=
  ⟨_, 0, rfl, by simp, by decide, .inr ⟨w.heap.size, 0, #[], rfl, Bk.new w e #[], by simp, by simp⟩⟩
theorem one_newb (w : World) (a : Value) : At (w.alloc (.cells #[a] 5)) (some ⟨w.heap.size, 0, none⟩) [a] :=
  At.of_bk (n := 1) (Bk.new w _ _) (by simp)
theorem two_newb (w : World) (a b : Value) : At (w.alloc (.cells #[a, b] 5)) (some ⟨w.heap.size, 0, none⟩) [a, b] :=
  At.of_bk (n := 2) (Bk.new w _ _) (by simp)
theorem Own.bytes_ {w : World} {A : Option Addr} {n c : Nat} {bs : List UInt8} (h : Own w 5 (.slice A n c) (byteVals bs)) : Bytes w A bs := by
  obtain ⟨A', c', hv, hat, -⟩ := h.at_
  injection hv with e1 e2 e3
  subst e1
  exact hat
theorem all_own {w : World} {A : Option Addr} {n c : Nat} {bs : List UInt8} (h : Own w 5 (.slice A n c) (byteVals bs)) (hl : bs.length = n) :
    Calls Try.prog 8 #[.slice A n c] w (AllPost w bs) := by
  subst hl
  obtain ⟨A', c', hv, hat, h1, h2, h3, -⟩ := h.at_
  injection hv with e1 e2 e3
  subst e1 e3
  exact all_any (src := bs) hat (by rw [byteVals_length] at h1; exact h1) h3
theorem TkAt.zero {w : World} {b k : Nat} {s : List UInt8} (h : TkAt w b 0 ⟨k, 0, s, 0⟩) :
    w.cell? ⟨b, 0, none⟩ = some (.int .i64 (k : Int)) ∧ w.cell? ⟨b, 1, none⟩ = some (.int .i64 0) ∧ w.cell? ⟨b, 2, none⟩ = some (.string ⟨s.toArray⟩) ∧
      w.cell? ⟨b, 3, none⟩ = some (.bool false) ∧ w.cell? ⟨b, 4, none⟩ = some (.int .u64 0) ∧ w.cell? ⟨b, 5, none⟩ = some (.int .u64 0) := by unfold TkAt at h; simpa using h
/-- What a call answers where the tokens are known. -/
def AllOk (w : World) (ts : List Tk) (e : Ending) (w' : World) : Prop :=
  ∃ b cap, e = .returned (.tuple #[.slice (some ⟨b, 0, none⟩) ts.length cap, .nilIface]) ∧ ts.length ≤ cap ∧ cap ≤ maxLen ∧ Fr [] w w' ∧ ∀ w2, Fr [] w' w2 → ∀ k t, ts[k]? = some t → TkAt w2 b k t
theorem AllPost.ok_ {w w' : World} {e : Ending} {bs : List UInt8} {ts : List Tk} (h : AllPost w bs e w') (hl : lexAllM bs = .ok ts) (hne : ts ≠ []) : AllOk w ts e w' := by
  unfold AllPost at h
  rw [hl] at h
  obtain ⟨L, rfl, ht, -, hf⟩ := h
  obtain ⟨b, cap, rfl, h1, h2, -, hc⟩ := ht.cells_ hne
  exact ⟨b, cap, rfl, h1, h2, hf, hc⟩
theorem all_own_ok {w : World} {A : Option Addr} {n c : Nat} {bs : List UInt8} {ts : List Tk} (h : Own w 5 (.slice A n c) (byteVals bs)) (hl : bs.length = n) (ht : lexAllM bs = .ok ts) (hne : ts ≠ []) :
    Calls Try.prog 8 #[.slice A n c] w (AllOk w ts) := (all_own h hl).mono fun _ _ hp => hp.ok_ ht hne
end Go.Proofs.Ytgbiligcppphhaa
