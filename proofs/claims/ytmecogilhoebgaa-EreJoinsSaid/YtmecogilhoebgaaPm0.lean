/-
  Parts in memory. No conditions.
-/
import Derived.Test.YtmecogilhoebgaaBase
import Derived.Test.YtmecogilhoebgaaPt
namespace Go.Proofs.Ytmecogilhoebgaa
open Go.RowKit
set_option linter.unusedVariables false
set_option linter.unusedSimpArgs false

/-- A part as a value. -/
def PT.val (t : PT) : Value := .agg #[.int .i64 t.k, .int .u64 t.s0, .int .u64 t.s1, .int .u64 t.s2, .int .u64 t.s3, .int .i64 t.mn, .int .i64 t.mx, .slice t.A t.l.length t.c]
/-- From place o of block b on the cells cs lie, none frozen. -/
def CellsAt (w : World) (b o : Nat) (cs : List Value) : Prop := ∃ arr, Bk w b 29 arr ∧ ∀ j u, cs[j]? = some u → arr[o + j]? = some u
mutual
/-- What a part leads to lies in memory. -/
def PMem (w : World) : PT → Prop | .mk _ _ _ _ _ _ _ A _ l => LMem w A l 0
def LMem (w : World) (A : Option Addr) : List PT → Nat → Prop
  | [], _ => True
  | t :: r, i => (∃ b off, A = some ⟨b, off, none⟩ ∧ CellsAt w b (off + i * 8) t.cells) ∧ PMem w t ∧ LMem w A r (i + 1)
end
theorem PMem_eq (w : World) (t : PT) : PMem w t = LMem w t.A t.l 0 := by cases t; rw [PMem]; rfl
/-- Blocks of parts stay. -/
def KeepT (w w' : World) : Prop := ∀ b cs, Bk w b 29 cs → Bk w' b 29 cs
theorem KeepT.refl (w : World) : KeepT w w := fun _ _ h => h
theorem KeepT.trans {a b c : World} (h : KeepT a b) (k : KeepT b c) : KeepT a c := fun _ _ x => k _ _ (h _ _ x)
theorem KeepT.of_fr {l : List Nat} {w w' : World} (h : Fr l w w') (hl : ∀ b ∈ l, ∀ cs, ¬ Bk w b 29 cs) : KeepT w w' := fun b cs hb => hb.fr h (fun hm => hl b hm cs hb)
theorem KeepT.of_nil {w w' : World} (h : Fr [] w w') : KeepT w w' := KeepT.of_fr h (by simp)
theorem CellsAt.keep {w w' : World} {b o : Nat} {cs : List Value} (h : CellsAt w b o cs) (k : KeepT w w') : CellsAt w' b o cs := by
  obtain ⟨arr, h1, h2⟩ := h
  exact ⟨arr, k _ _ h1, h2⟩
theorem CellsAt.cell {w : World} {b o : Nat} {cs : List Value} (h : CellsAt w b o cs) {j : Nat} {u : Value} (hu : cs[j]? = some u) : w.cell? ⟨b, o + j, none⟩ = some u := by
  obtain ⟨arr, h1, h2⟩ := h
  rw [h1.cell]; exact h2 j u hu
theorem CellsAt.bk {w : World} {b o : Nat} {cs : List Value} (h : CellsAt w b o cs) : ∃ arr, Bk w b 29 arr := by
  obtain ⟨arr, h1, h2⟩ := h
  exact ⟨arr, h1⟩
theorem CellsAt.lt {w : World} {b o : Nat} {cs : List Value} (h : CellsAt w b o cs) : b < w.heap.size := by
  obtain ⟨arr, h1, h2⟩ := h
  exact h1.lt
mutual
theorem PMem.keep {w w' : World} (k : KeepT w w') : ∀ t, PMem w t → PMem w' t
  | .mk _ _ _ _ _ _ _ A _ l, h => by rw [PMem] at h ⊢; exact LMem.keep k A l 0 h
theorem LMem.keep {w w' : World} (k : KeepT w w') (A : Option Addr) : ∀ (l : List PT) (i : Nat), LMem w A l i → LMem w' A l i
  | [], i, h => by rw [LMem]; trivial
  | t :: r, i, h => by
    rw [LMem] at h ⊢
    obtain ⟨⟨b, off, hA, hc⟩, h2, h3⟩ := h
    exact ⟨⟨b, off, hA, hc.keep k⟩, PMem.keep k t h2, LMem.keep k A r (i + 1) h3⟩
end
theorem LMem.get {w : World} {A : Option Addr} : ∀ {l : List PT} {i k : Nat} {t : PT}, LMem w A l i → l[k]? = some t → (∃ b off, A = some ⟨b, off, none⟩ ∧ CellsAt w b (off + (i + k) * 8) t.cells) ∧ PMem w t
  | [], i, k, t, h, ht => by simp at ht
  | u :: r, i, 0, t, h, ht => by
    rw [LMem] at h
    simp at ht
    subst ht
    exact ⟨h.1, h.2.1⟩
  | u :: r, i, k + 1, t, h, ht => by
    rw [LMem] at h
    have := LMem.get h.2.2 (show r[k]? = some t by simpa using ht)
    rw [show i + (k + 1) = i + 1 + k by omega]
    exact this
theorem cells_len (t : PT) : t.cells.length = 8 := rfl
theorem CellsAt.inj {w : World} {b o : Nat} {c c' : List Value} (h : CellsAt w b o c) (h' : CellsAt w b o c') (hl : c.length = c'.length) : c = c' := by
  obtain ⟨arr, h1, h2⟩ := h
  obtain ⟨arr', h1', h2'⟩ := h'
  have e : arr = arr' := by
    unfold Bk at h1 h1'
    rw [h1] at h1'
    injection h1' with h1'
    injection h1' with h1'
  subst e
  apply List.ext_getElem? 
  intro j
  rcases Nat.lt_or_ge j c.length with hj | hj
  · have a := h2 j _ (List.getElem?_eq_getElem hj)
    have b := h2' j _ (List.getElem?_eq_getElem (by omega))
    rw [a] at b
    rw [List.getElem?_eq_getElem hj, List.getElem?_eq_getElem (by omega)]
    exact b
  · rw [List.getElem?_eq_none hj, List.getElem?_eq_none (by omega)]
mutual
theorem PMem.inj {w : World} : ∀ (t t' : PT), t.cells = t'.cells → PMem w t → PMem w t' → t = t'
  | .mk k s0 s1 s2 s3 mn mx A c l, t', hc, h, h' => by
    rw [PMem_eq] at h'
    obtain ⟨k', s0', s1', s2', s3', mn', mx', A', c', l'⟩ := t'
    simp [PT.cells, PT.k, PT.s0, PT.s1, PT.s2, PT.s3, PT.mn, PT.mx, PT.A, PT.c, PT.l] at hc
    obtain ⟨rfl, rfl, rfl, rfl, rfl, rfl, rfl, rfl, hl, rfl⟩ := hc
    rw [PMem] at h
    rw [LMem.inj A l l' 0 hl h h']
theorem LMem.inj {w : World} (A : Option Addr) : ∀ (l l' : List PT) (i : Nat), l.length = l'.length → LMem w A l i → LMem w A l' i → l = l'
  | [], l', i, hl, h, h' => by
    have : l' = [] := List.eq_nil_of_length_eq_zero (by simpa using hl.symm)
    rw [this]
  | t :: r, [], i, hl, h, h' => by simp at hl
  | t :: r, t' :: r', i, hl, h, h' => by
    rw [LMem] at h h'
    obtain ⟨⟨b, off, hA, hc⟩, h2, h3⟩ := h
    obtain ⟨⟨b', off', hA', hc'⟩, h2', h3'⟩ := h'
    rw [hA] at hA'
    simp at hA'
    obtain ⟨rfl, rfl⟩ := hA'
    have e := PMem.inj t t' (hc.inj hc' rfl) h2 h2'
    have e2 := LMem.inj A r r' (i + 1) (by simpa using hl) h3 h3'
    rw [e, e2]
end
end Go.Proofs.Ytmecogilhoebgaa
