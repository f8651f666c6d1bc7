/-
  The layer while a part is laid: what holds, step by step. Lists with places that are filled in later. No conditions.
-/
import Derived.Test.YtkihikphebkepaaLy4
namespace Go.Proofs.Ytkihikphebkepaa
open Go.RowKit Go.ChangeMaps
set_option linter.unusedVariables false
set_option linter.unusedSimpArgs false

/-- Since w0, with the layer's blocks l0, the steps have become L; the map and the parts stay. -/
def StL (w0 : World) (gy mv : Nat) (l0 : List Nat) (es : List (Ky × Ex)) (L : List Sp) (w : World) : Prop := LayOut w0 gy mv l0 L w ∧ MInv w mv es ∧ KeepT w0 w
theorem StL.start {w : World} {gy mv : Nat} {l : List Nat} {es : List (Ky × Ex)} {L : List Sp} (h : LaySt w gy mv l L) (hm : MInv w mv es) : StL w gy mv l es L w :=
  ⟨LayOut.refl h (Fr.refl [] w), hm, KeepT.refl w⟩
theorem StL.nil_ {w0 w w1 : World} {gy mv : Nat} {l0 : List Nat} {es : List (Ky × Ex)} {L : List Sp} (h : StL w0 gy mv l0 es L w) (hf : Fr [] w w1) : StL w0 gy mv l0 es L w1 :=
  ⟨h.1.trans fun l1 h1 => LayOut.refl h1 hf, h.2.1.nil_ hf, h.2.2.trans (KeepT.of_nil hf)⟩
theorem StL.step {w0 w w1 : World} {gy mv : Nat} {l0 l : List Nat} {es : List (Ky × Ex)} {L L' : List Sp} (h : StL w0 gy mv l0 es L w) (hl : LaySt w gy mv l L) (hs : Fr l0 w0 w) (hb : ∀ b ∈ l, b ∈ l0 ∨ w0.heap.size ≤ b) (k : LayOut w gy mv l L' w1) : StL w0 gy mv l0 es L' w1 := by
  obtain ⟨h1, h2, h3⟩ := h
  obtain ⟨l', k1, k2, k3⟩ := k
  have hk : KeepT w w1 := KeepT.of_fr k2 hl.kind
  have hmv := h2.1
  obtain ⟨arr, clock, hmb, -, -⟩ := hmv
  refine ⟨⟨l', k1, hs.trans' k2 hb, fun b hb' => ?_⟩, h2.keep (k2.block mv h2.1.lt (fun hm => hl.nomap hmb mv hm rfl)) hk, h3.trans hk⟩
  rcases k3 b hb' with hb' | hb'
  · exact hb b hb'
  · exact .inr (Nat.le_trans hs.size hb')
/-- An own row of numbers, laid since w0, may grow. -/
theorem StL.grown {w0 w w1 : World} {gy mv : Nat} {l0 : List Nat} {es : List (Ky × Ex)} {L : List Sp} {row : Option Nat} (h : StL w0 gy mv l0 es L w) (hg : w.grownBy w1 row) (hr : ∀ g, row = some g → w0.heap.size ≤ g ∧ ∃ cur, Bk w g 3 cur) : StL w0 gy mv l0 es L w1 := by
  obtain ⟨⟨l, h1, hf, hb⟩, h2, h3⟩ := h
  have hfr : Fr row.toList w w1 := (Fr.refl row.toList w).grown hg (fun g e => .inl (by rw [e]; simp))
  have hk : KeepT w w1 := KeepT.of_fr hfr (fun b hb' cs hc => by
    have e : row = some b := by simpa using hb'
    obtain ⟨cur, hcur⟩ := (hr b e).2
    exact hc.ne_ hcur (by decide) rfl)
  refine ⟨⟨l, h1.fr hfr (fun b hb' hm => ?_), hf.grown hg (fun g e => .inr (hr g e).1), hb⟩, h2.keep (hfr.block mv h2.1.lt (fun hm => ?_)) hk, h3.trans hk⟩
  · have e : row = some b := by simpa using hm
    obtain ⟨cur, hcur⟩ := (hr b e).2
    exact h1.none_ hcur (by decide) (by decide) hb'
  · have e : row = some mv := by simpa using hm
    obtain ⟨cur, hcur⟩ := (hr mv e).2
    exact h2.1.ne hcur rfl
/-- One cell of a step is set. -/
theorem StL.set_ {w0 w : World} {gy mv : Nat} {l0 : List Nat} {es : List (Ky × Ex)} {L : List Sp} (h : StL w0 gy mv l0 es L w) {i : Nat} {s : Sp} (hs : L[i]? = some s) {j : Nat} (hj : j = 5 ∨ j = 6) (v : Int) :
    ∃ B cap, gy ≠ B ∧ w.cell? ⟨gy, 1, none⟩ = some (.slice (some ⟨B, 0, none⟩) L.length cap) ∧ w.frozen? ⟨B, i * 7 + j, none⟩ = false ∧ (∃ u, w.cell? ⟨B, i * 7 + j, none⟩ = some u) ∧ StL w0 gy mv l0 es (L.set i (s.put j v)) (w.setCell ⟨B, i * 7 + j, none⟩ (.int .i64 v)) ∧
      (∀ g t cs, Bk w g t cs → t ≠ 48 → g ≠ B) := by
  obtain ⟨l, h1, hf, hb⟩ := id h.1
  obtain ⟨B, cap, hlB, hgB, hc, hz, hu, hs'⟩ := lay_set h1 hs hj v
  have hBt : ∃ cur, Bk w B 48 cur := by
    obtain ⟨A, cap', hl', hbk, hr⟩ := h1
    rw [hlB] at hl'
    injection hl' with _ hl'
    exact own_bk hr B (by
      cases ho : (Value.slice A L.length cap').ownBlock with
      | none => rw [ho] at hl'; cases hl'
      | some x => rw [ho] at hl'; simp at hl'; rw [hl'])
  obtain ⟨cur, hcur⟩ := hBt
  refine ⟨B, cap, hgB, hc, hz, hu, h.step h1 hf hb ⟨l, hs', (Fr.refl l w).setCell (.inl (by rw [hlB]; simp)) _, fun b hb' => .inl hb'⟩, fun g t cs hg ht e => ?_⟩
  subst e
  exact hg.ne_ hcur ht rfl
/-! Lists. -/
theorem timesP_snoc (f : Nat → List Sp) (n : Nat) : ∀ k a, timesP f n (k + 1) a = timesP f n k a ++ f (a + k * n)
  | 0, a => by simp [timesP]
  | k + 1, a => by
    rw [timesP, timesP_snoc f n k (a + n), timesP, List.append_assoc, Nat.succ_mul]
    rw [show a + n + k * n = a + (k * n + n) by omega]
theorem maybeP_snoc (f : Nat → List Sp) (n all : Nat) : ∀ k a, maybeP f n all (k + 1) a = maybeP f n all k a ++ Sp.fork (a + k * (n + 1) + 1) all :: f (a + k * (n + 1) + 1)
  | 0, a => by simp [maybeP]
  | k + 1, a => by
    rw [maybeP, maybeP_snoc f n all k (a + 1 + n), maybeP, Nat.succ_mul]
    rw [show a + 1 + n + k * (n + 1) + 1 = a + (k * (n + 1) + (n + 1)) + 1 by omega]
    simp
theorem layL_one (t : PT) (a : Nat) : layL [t] a = layP t a := by simp [layL]
theorem sizL_one (t : PT) : sizL [t] = sizP t := by simp [sizL]
theorem set_mid {α : Type} (L Q : List α) (x y : α) : (L ++ x :: Q).set L.length y = L ++ y :: Q := by
  rw [List.set_append_right _ _ (Nat.le_refl _), Nat.sub_self]; rfl
theorem get_mid {α : Type} (L Q : List α) (x : α) : (L ++ x :: Q)[L.length]? = some x := by simp
end Go.Proofs.Ytkihikphebkepaa
