/-
  Parts in memory; the map of measured lists. No conditions.
-/
import Derived.Test.YtkihikphebkepaaMk
namespace Go.Proofs.Ytkihikphebkepaa
open Go.RowKit Go.ChangeMaps
set_option linter.unusedVariables false
set_option linter.unusedSimpArgs false

/-- From place o of block b on the cells cs lie, none frozen. -/
def CellsAt (w : World) (b o : Nat) (cs : List Value) : Prop := ∃ arr, Bk w b 30 arr ∧ ∀ j u, cs[j]? = some u → arr[o + j]? = some u
mutual
/-- What a part leads to lies in memory. -/
def PMem (w : World) : PT → Prop | .mk _ _ _ _ _ _ _ A _ l => LMem w A l 0
def LMem (w : World) (A : Option Addr) : List PT → Nat → Prop
  | [], _ => True
  | t :: r, i => (∃ b off, A = some ⟨b, off, none⟩ ∧ CellsAt w b (off + i * 8) t.cells) ∧ PMem w t ∧ LMem w A r (i + 1)
end
theorem PMem_eq (w : World) (t : PT) : PMem w t = LMem w t.A t.l 0 := by cases t; rw [PMem]; rfl
/-- Blocks of parts stay. -/
def KeepT (w w' : World) : Prop := ∀ b cs, Bk w b 30 cs → Bk w' b 30 cs
theorem KeepT.refl (w : World) : KeepT w w := fun _ _ h => h
theorem KeepT.trans {a b c : World} (h : KeepT a b) (k : KeepT b c) : KeepT a c := fun _ _ x => k _ _ (h _ _ x)
theorem KeepT.of_fr {l : List Nat} {w w' : World} (h : Fr l w w') (hl : ∀ b ∈ l, ∀ cs, ¬ Bk w b 30 cs) : KeepT w w' := fun b cs hb => hb.fr h (fun hm => hl b hm cs hb)
theorem KeepT.of_nil {w w' : World} (h : Fr [] w w') : KeepT w w' := KeepT.of_fr h (by simp)
theorem CellsAt.keep {w w' : World} {b o : Nat} {cs : List Value} (h : CellsAt w b o cs) (k : KeepT w w') : CellsAt w' b o cs := by
  obtain ⟨arr, h1, h2⟩ := h
  exact ⟨arr, k _ _ h1, h2⟩
theorem CellsAt.cell {w : World} {b o : Nat} {cs : List Value} (h : CellsAt w b o cs) {j : Nat} {u : Value} (hu : cs[j]? = some u) : w.cell? ⟨b, o + j, none⟩ = some u := by
  obtain ⟨arr, h1, h2⟩ := h
  rw [h1.cell]; exact h2 j u hu
theorem CellsAt.bk {w : World} {b o : Nat} {cs : List Value} (h : CellsAt w b o cs) : ∃ arr, Bk w b 30 arr := by
  obtain ⟨arr, h1, h2⟩ := h
  exact ⟨arr, h1⟩
theorem CellsAt.lt {w : World} {b o : Nat} {cs : List Value} (h : CellsAt w b o cs) : b < w.heap.size := by
  obtain ⟨arr, h1, h2⟩ := h
  exact h1.lt
mutual
theorem PMem.keep {w w' : World} (k : KeepT w w') : ∀ t, PMem w t → PMem w' t
  | .mk _ _ _ _ _ _ _ A _ l, h => by rw [PMem] at h ⊢; exact LMem.keep k A l 0 h
theorem LMem.keep {w w' : World} (k : KeepT w w') (A : Option Addr) : ∀ (l : List PT) (i : Nat), LMem w A l i → LMem w' A l i
  | [], i, h => by rw [LMem]; trivial
  | t :: r, i, h => by
    rw [LMem] at h ⊢
    obtain ⟨⟨b, off, hA, hc⟩, h2, h3⟩ := h
    exact ⟨⟨b, off, hA, hc.keep k⟩, PMem.keep k t h2, LMem.keep k A r (i + 1) h3⟩
end
theorem LMem.get {w : World} {A : Option Addr} : ∀ {l : List PT} {i k : Nat} {t : PT}, LMem w A l i → l[k]? = some t → (∃ b off, A = some ⟨b, off, none⟩ ∧ CellsAt w b (off + (i + k) * 8) t.cells) ∧ PMem w t
  | [], i, k, t, h, ht => by simp at ht
  | u :: r, i, 0, t, h, ht => by
    rw [LMem] at h
    simp at ht
    subst ht
    exact ⟨h.1, h.2.1⟩
  | u :: r, i, k + 1, t, h, ht => by
    rw [LMem] at h
    have := LMem.get h.2.2 (show r[k]? = some t by simpa using ht)
    rw [show i + (k + 1) = i + 1 + k by omega]
    exact this
theorem cells_len (t : PT) : t.cells.length = 8 := rfl
theorem CellsAt.inj {w : World} {b o : Nat} {c c' : List Value} (h : CellsAt w b o c) (h' : CellsAt w b o c') (hl : c.length = c'.length) : c = c' := by
  obtain ⟨arr, h1, h2⟩ := h
  obtain ⟨arr', h1', h2'⟩ := h'
  have e : arr = arr' := by
    unfold Bk at h1 h1'
    rw [h1] at h1'
    injection h1' with h1'
    injection h1' with h1'
  subst e
  apply List.ext_getElem? 
  intro j
  rcases Nat.lt_or_ge j c.length with hj | hj
  · have a := h2 j _ (List.getElem?_eq_getElem hj)
    have b := h2' j _ (List.getElem?_eq_getElem (by omega))
    rw [a] at b
    rw [List.getElem?_eq_getElem hj, List.getElem?_eq_getElem (by omega)]
    exact b
  · rw [List.getElem?_eq_none hj, List.getElem?_eq_none (by omega)]
mutual
theorem PMem.inj {w : World} : ∀ (t t' : PT), t.cells = t'.cells → PMem w t → PMem w t' → t = t'
  | .mk k s0 s1 s2 s3 mn mx A c l, t', hc, h, h' => by
    rw [PMem_eq] at h'
    obtain ⟨k', s0', s1', s2', s3', mn', mx', A', c', l'⟩ := t'
    simp [PT.cells, PT.k, PT.s0, PT.s1, PT.s2, PT.s3, PT.mn, PT.mx, PT.A, PT.c, PT.l] at hc
    obtain ⟨rfl, rfl, rfl, rfl, rfl, rfl, rfl, rfl, hl, rfl⟩ := hc
    rw [PMem] at h
    rw [LMem.inj A l l' 0 hl h h']
theorem LMem.inj {w : World} (A : Option Addr) : ∀ (l l' : List PT) (i : Nat), l.length = l'.length → LMem w A l i → LMem w A l' i → l = l'
  | [], l', i, hl, h, h' => by
    have : l' = [] := List.eq_nil_of_length_eq_zero (by simpa using hl.symm)
    rw [this]
  | t :: r, [], i, hl, h, h' => by simp at hl
  | t :: r, t' :: r', i, hl, h, h' => by
    rw [LMem] at h h'
    obtain ⟨⟨b, off, hA, hc⟩, h2, h3⟩ := h
    obtain ⟨⟨b', off', hA', hc'⟩, h2', h3'⟩ := h'
    rw [hA] at hA'
    simp at hA'
    obtain ⟨rfl, rfl⟩ := hA'
    have e := PMem.inj t t' (hc.inj hc' rfl) h2 h2'
    have e2 := LMem.inj A r r' (i + 1) (by simpa using hl) h3 h3'
    rw [e, e2]
end
/-! What is in the map. -/
def exL (l : List PT) : Ex := (min 4001 (sizL l), depL l)
def Ext (es es' : List (Ky × Ex)) : Prop := ∀ k v, getM es k = some v → getM es' k = some v
theorem Ext.refl (es : List (Ky × Ex)) : Ext es es := fun _ _ h => h
theorem Ext.trans {a b c : List (Ky × Ex)} (h : Ext a b) (k : Ext b c) : Ext a c := fun _ _ x => k _ _ (h _ _ x)
theorem Ext.snoc (es : List (Ky × Ex)) (k : Ky) (x : Ex) : Ext es (es ++ [(k, x)]) := fun q v h => by rw [getM_append, h]; rfl
/-- The list at A has its entry. -/
def InM (es : List (Ky × Ex)) (A : Option Addr) (l : List PT) : Prop := l = [] ∨ ∃ b off, A = some ⟨b, off, none⟩ ∧ getM es (b, off, l.length) = some (exL l)
mutual
def CovP (es : List (Ky × Ex)) : PT → Prop | .mk k _ _ _ _ _ _ A _ l => inner k = true → InM es A l ∧ CovL es l
def CovL (es : List (Ky × Ex)) : List PT → Prop | [] => True | t :: r => CovP es t ∧ CovL es r
end
theorem CovP_eq (es : List (Ky × Ex)) (t : PT) : CovP es t = (inner t.k = true → InM es t.A t.l ∧ CovL es t.l) := by cases t; rw [CovP]; rfl
theorem InM.mono {es es' : List (Ky × Ex)} (h : Ext es es') {A : Option Addr} {l : List PT} (k : InM es A l) : InM es' A l :=
  k.imp id (fun ⟨b, off, hA, hg⟩ => ⟨b, off, hA, h _ _ hg⟩)
mutual
theorem CovP.mono {es es' : List (Ky × Ex)} (h : Ext es es') : ∀ t, CovP es t → CovP es' t
  | .mk k _ _ _ _ _ _ A _ l, c => by
    rw [CovP] at c ⊢
    exact fun hi => ⟨(c hi).1.mono h, CovL.mono h l (c hi).2⟩
theorem CovL.mono {es es' : List (Ky × Ex)} (h : Ext es es') : ∀ l, CovL es l → CovL es' l
  | [], c => by rw [CovL]; trivial
  | t :: r, c => by
    rw [CovL] at c ⊢
    exact ⟨CovP.mono h t c.1, CovL.mono h r c.2⟩
end
theorem CovL.get {es : List (Ky × Ex)} : ∀ {l : List PT}, CovL es l → ∀ t ∈ l, CovP es t
  | u :: r, c, t, ht => by
    rw [CovL] at c
    rcases List.mem_cons.1 ht with rfl | ht
    · exact c.1
    · exact CovL.get c.2 t ht
theorem CovL.append {es : List (Ky × Ex)} : ∀ {l : List PT} {t : PT}, CovL es l → CovP es t → CovL es (l ++ [t])
  | [], t, c, h => by simp only [List.nil_append]; rw [CovL]; exact ⟨h, by rw [CovL]; trivial⟩
  | u :: r, t, c, h => by
    rw [CovL] at c
    rw [List.cons_append, CovL]
    exact ⟨c.1, CovL.append c.2 h⟩
/-- The map tells the truth of measured lists. -/
def MInv (w : World) (mv : Nat) (es : List (Ky × Ex)) : Prop :=
  MapB w mv es ∧ ∀ p ∈ es, ∃ l, LMem w (some ⟨p.1.1, p.1.2.1, none⟩) l 0 ∧ l.length = p.1.2.2 ∧ 0 < l.length ∧ rightL l = true ∧ p.2 = exL l ∧ CovL es l
theorem MInv.made (w : World) : MInv (w.alloc (.map #[] 0)) w.heap.size [] := ⟨MapB.made w, by simp⟩
theorem MInv.keep {w w' : World} {mv : Nat} {es : List (Ky × Ex)} (h : MInv w mv es) (hm : w'.heap[mv]? = w.heap[mv]?) (hk : KeepT w w') : MInv w' mv es :=
  ⟨h.1.keep hm hk, fun p hp => by
    obtain ⟨l, h1, h2⟩ := h.2 p hp
    exact ⟨l, h1.keep hk, h2⟩⟩
theorem MInv.nil_ {w w' : World} {mv : Nat} {es : List (Ky × Ex)} (h : MInv w mv es) (hf : Fr [] w w') : MInv w' mv es :=
  h.keep (hf.block mv h.1.lt (by simp)) (KeepT.of_nil hf)
theorem MInv.keepT {w w' : World} {mv : Nat} {es : List (Ky × Ex)} (h : MInv w mv es) (hf : Fr [mv] w w') : KeepT w w' :=
  KeepT.of_fr hf (fun b hb cs hc => by simp at hb; exact h.1.ne hc hb)
theorem MInv.fr_ {l : List Nat} {w w' : World} {mv : Nat} {es : List (Ky × Ex)} (h : MInv w mv es) (hf : Fr l w w') (hl : ∀ b ∈ l, b ≠ mv ∧ ∀ cs, ¬ Bk w b 30 cs) : MInv w' mv es :=
  h.keep (hf.block mv h.1.lt (fun hm => (hl mv hm).1 rfl)) (KeepT.of_fr hf (fun b hb => (hl b hb).2))
theorem Bk.other_ {w : World} {b : Nat} {t : TypeId} {cs : Array Value} (h : Bk w b t cs) (ht : t ≠ 30) : ∀ cs', ¬ Bk w b 30 cs' := fun cs' h' => h.ne_ h' ht rfl
theorem getM_mem {es : List (Ky × Ex)} {k : Ky} {x : Ex} (h : getM es k = some x) : (k, x) ∈ es := by
  unfold getM at h
  cases hf : es.find? (fun p => p.1 == k) with
  | none => rw [hf] at h; cases h
  | some p =>
    rw [hf] at h
    have h1 := List.mem_of_find?_eq_some hf
    have h2 := List.find?_some hf
    simp at h h2
    obtain ⟨a, b⟩ := p
    simp at h h2
    subst h h2
    exact h1
theorem MInv.look {w : World} {mv : Nat} {es : List (Ky × Ex)} (h : MInv w mv es) {b off : Nat} {l : List PT} (hl : LMem w (some ⟨b, off, none⟩) l 0) {x : Ex} (hx : getM es (b, off, l.length) = some x) :
    rightL l = true ∧ x = exL l ∧ CovL es l := by
  obtain ⟨l', h1, h2, h3, h4, h5, h6⟩ := h.2 _ (getM_mem hx)
  have e := LMem.inj _ l' l 0 h2 h1 hl
  subst e
  exact ⟨h4, h5, h6⟩
theorem MInv.store {w : World} {mv : Nat} {es : List (Ky × Ex)} (h : MInv w mv es) {b off : Nat} {l : List PT} (hl : LMem w (some ⟨b, off, none⟩) l 0) (h0 : 0 < l.length) (hr : rightL l = true) (hc : CovL es l) :
    ∃ w' es', (Instr.mapUpdate 50 (.map (some mv)) (kyV (b, off, l.length)) (exV (exL l))).run Try.prog w = .ok () w' ∧ Ext es es' ∧ MInv w' mv es' ∧ InM es' (some ⟨b, off, none⟩) l ∧ Fr [mv] w w' := by
  obtain ⟨t, ht⟩ : ∃ t, l[0]? = some t := ⟨_, List.getElem?_eq_getElem h0⟩
  obtain ⟨⟨b', off', hA, hca⟩, -⟩ := hl.get ht
  simp at hA
  obtain ⟨rfl, rfl⟩ := hA
  obtain ⟨ck, hck⟩ := hca.bk
  cases hn : getM es (b, off, l.length) with
  | some x =>
    obtain ⟨-, rfl, -⟩ := h.look hl hn
    obtain ⟨w', h1, h2, h3⟩ := h.1.again (b, off, l.length) hck (exL l) hn
    exact ⟨w', es, h1, Ext.refl es, ⟨h2, fun p hp => (h.2 p hp).imp fun l' g => ⟨g.1.keep (h.keepT h3), g.2⟩⟩, .inr ⟨b, off, rfl, hn⟩, h3⟩
  | none =>
    obtain ⟨w', h1, h2, h3⟩ := h.1.store (b, off, l.length) hck (exL l) hn
    have hk := h.keepT h3
    refine ⟨w', _, h1, Ext.snoc _ _ _, ⟨h2, fun p hp => ?_⟩, .inr ⟨b, off, rfl, by rw [getM_append, hn]; simp⟩, h3⟩
    rcases List.mem_append.1 hp with hp | hp
    · obtain ⟨l', g1, g2, g3, g4, g5, g6⟩ := h.2 p hp
      exact ⟨l', g1.keep hk, g2, g3, g4, g5, CovL.mono (Ext.snoc _ _ _) _ g6⟩
    · simp at hp; subst hp
      exact ⟨l, hl.keep hk, rfl, h0, hr, rfl, CovL.mono (Ext.snoc _ _ _) _ hc⟩
end Go.Proofs.Ytkihikphebkepaa
