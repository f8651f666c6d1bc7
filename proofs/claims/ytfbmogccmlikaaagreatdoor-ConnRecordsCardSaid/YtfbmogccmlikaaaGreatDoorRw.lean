/-
 Rows of elements of several cells that a call owns: append, one cell set, what stays. For any program; no conditions.
-/
import Derived.Test.YtfbmogccmlikaaaGreatDoorBase
import Derived.Maps.AppendAt
import Derived.Laws.AppendOwn
namespace Go.Proofs.YtfbmogccmlikaaaGreatDoor
open Go.RowKit
set_option linter.unusedVariables false
set_option linter.unusedSimpArgs false
theorem bk_ne_map {w : World} {g b : Nat} {t : TypeId} {cs : Array Value} (h : Bk w g t cs) {es : Array MapEntry} {c : Nat} (hb : w.heap[b]? = some (.map es c)) : g ≠ b := by
 rintro rfl
 unfold Bk at h
 rw [h] at hb; cases hb
theorem own_ne {w : World} {base g n cap sz : Nat} {A : Option Addr} {e t : TypeId} {xs : List Value} {cs : Array Value} (h : w.ownsRow base e sz (.slice A n cap) n xs) (hb : Bk w g t cs) (ht : t ≠ e) : (Value.slice A n cap).ownBlock ≠ some g := by
 obtain ⟨h1, ⟨h2, h3⟩ | ⟨b', cap', cur, h2, h0, hb', h6⟩⟩ := h
 ·rw [h2]; simp [Value.ownBlock]
 ·rw [h2]; intro e'; injection e' with e'; exact hb.ne_ (g' := b') (t' := e) (cs' := cur) hb' ht e'.symm
theorem own_fr {w w' : World} {base n cap sz : Nat} {A : Option Addr} {e : TypeId} {xs : List Value} {l : List Nat} (h : w.ownsRow base e sz (.slice A n cap) n xs) (hf : Fr l w w') (hn : ∀ b, (Value.slice A n cap).ownBlock = some b → b ∉ l) : w'.ownsRow base e sz (.slice A n cap) n xs := by
 obtain ⟨h1, h2 | ⟨b', cap', cur, h2, h0, hb', h6⟩⟩ := h
 ·exact ⟨h1, .inl h2⟩
 ·have hbk : Bk w b' e cur := hb'
  exact ⟨h1, .inr ⟨b', cap', cur, h2, h0, (hf.block b' hbk.lt (hn b' (by rw [h2]; rfl))).trans hb', h6⟩⟩
theorem own_form {w : World} {base n sz : Nat} {v : Value} {e : TypeId} {xs : List Value} (h : w.ownsRow base e sz v n xs) (hn : 0 < n) : ∃ A c, v = .slice A n c := by
 obtain ⟨h1, ⟨h2, h3⟩ | ⟨b', cap', cur, h2, -⟩⟩ := h
 ·omega
 ·exact ⟨_, _, h2⟩
theorem own_bk {w : World} {base n cap sz : Nat} {A : Option Addr} {e : TypeId} {xs : List Value} (h : w.ownsRow base e sz (.slice A n cap) n xs) : ∀ b, (Value.slice A n cap).ownBlock = some b → ∃ cur, Bk w b e cur := by
 obtain ⟨h1, ⟨h2, h3⟩ | ⟨b', cap', cur, h2, h0, hb', h6⟩⟩ := h
 ·rw [h2]; intro b hb; simp [Value.ownBlock] at hb
 ·rw [h2]; intro b hb; simp [Value.ownBlock] at hb; subst hb; exact ⟨cur, hb'⟩
theorem own_cells {w : World} {base n cap sz : Nat} {A : Option Addr} {e : TypeId} {xs : List Value} (h : w.ownsRow base e sz (.slice A n cap) n xs) (hx : xs ≠ []) :
    ∃ b, A = some ⟨b, 0, none⟩ ∧ b < w.heap.size ∧ (∀ i, w.frozen? ⟨b, i, none⟩ = false) ∧ ∀ i u, xs[i]? = some u → w.cell? ⟨b, i, none⟩ = some u := by
 obtain ⟨h1, ⟨h2, h3⟩ | ⟨b, cap', cur, h2, -, hb, h3, h4, h5, h6⟩⟩ := h
 ·subst h3
  exfalso; apply hx; exact List.eq_nil_of_length_eq_zero (by simpa using h1)
 ·injection h2 with h2 _ _
  have hbk : Bk w b e cur := hb
  refine ⟨b, h2, hbk.lt, fun i => hbk.frozen i, fun i u hu => ?_⟩
  rw [hbk.cell, ← Array.getElem?_toList]
  rw [← h6, List.getElem?_take] at hu
  split at hu
  ·exact hu
  ·cases hu
theorem own_set {w : World} {base n cap sz : Nat} {b : Nat} {e : TypeId} {xs : List Value} (h : w.ownsRow base e sz (.slice (some ⟨b, 0, none⟩) n cap) n xs) (i : Nat) (u : Value) :
    (w.setCell ⟨b, i, none⟩ u).ownsRow base e sz (.slice (some ⟨b, 0, none⟩) n cap) n (xs.set i u) := by
 obtain ⟨h1, ⟨h2, h3⟩ | ⟨b', cap', cur, h2, h0, hb, h3, h4, h5, h6⟩⟩ := h
 ·cases h2
 ·injection h2 with h2 _ h2'
  injection h2 with h2; injection h2 with h2
  subst h2 h2'
  have hbk : Bk w b e cur := hb
  refine ⟨by rw [List.length_set]; exact h1, .inr ⟨b, cap, _, rfl, h0, hbk.put i u, h3, h4, by simpa using h5, ?_⟩⟩
  rw [Array.toList_setIfInBounds, List.take_set, h6]
section
variable {P : Program}
theorem wp_append_R {o : Oper} {a : Act} {w : World} {K : Act → World → Prop} {Q : Exit → Act → World → Prop} (s x : Operand) (t : TypeId)
    (ho : o.op = .call { callee := .builtin .append, args := #[s, x], argTypes := #[t, t] })
    (base : Nat) (e : TypeId) (i : TypeInfo) (z : Value) (size bytes : Nat) (ht : P.underlying t = some (.slice e)) (hi : P.info? e = some i) (hz : i.zero = some z)
    (hsize : i.size = size) (hby : i.bytes = bytes) (hzs : z.cells.size = size) (hsz : 0 < size)
    (v : Value) (n : Nat) (xs : List Value) (hs : a.eval s = v) (hown : w.ownsRow base e size v n xs)
    (ad : Addr) (m c : Nat) (news : List Value) (hx : a.eval x = .slice (some ad) m c) (hl : news.length = m * size) (hnews : ∀ j u, news[j]? = some u → w.cell? (ad.add j) = some u) (h1 : ∀ u ∈ news, u.oneCell' = true)
    (h63 : n + m ≤ maxLen) (hbytes : (n + m) * bytes ≤ 140737488355328) (hbase : base ≤ w.heap.size)
    (hK : ∀ v' w', w'.ownsRow base e size v' (n + m) (xs ++ news) → w.grownBy w' v.ownBlock → (v'.ownBlock = v.ownBlock ∨ v'.ownBlock = some w.heap.size) → K (a.put o.dst v') w') :
    o.wp P a w K Q := by
 obtain ⟨v', w', hr, h2, h3, -, h5⟩ := run_append_own_at (P := P) w base t o.type e i z size bytes ht hi hz hsize hby hzs hsz v n xs hown ad m c news hl hnews h1 h63 hbytes hbase
 unfold Oper.wp execOp
 simp only [ho, resolve, invoke, builtin, Sem.run_bind, Sem.run_pure, Result.andThen_ok, List.map_toArray, List.map_cons, List.map_nil, hs, hx, hr]
 exact hK _ _ h2 h3 h5
theorem wpList_append_R {ops : Array Oper} {rest : List Oper} {o : Oper} {a : Act} {w : World} {Q : Exit → Act → World → Prop} (hgd : Region.wanted o (yielded ops a.tmps) = true) (s x : Operand) (t : TypeId)
    (ho : o.op = .call { callee := .builtin .append, args := #[s, x], argTypes := #[t, t] })
    (base : Nat) (e : TypeId) (i : TypeInfo) (z : Value) (size bytes : Nat) (ht : P.underlying t = some (.slice e)) (hi : P.info? e = some i) (hz : i.zero = some z)
    (hsize : i.size = size) (hby : i.bytes = bytes) (hzs : z.cells.size = size) (hsz : 0 < size)
    (v : Value) (n : Nat) (xs : List Value) (hs : a.eval s = v) (hown : w.ownsRow base e size v n xs)
    (ad : Addr) (m c : Nat) (news : List Value) (hx : a.eval x = .slice (some ad) m c) (hl : news.length = m * size) (hnews : ∀ j u, news[j]? = some u → w.cell? (ad.add j) = some u) (h1 : ∀ u ∈ news, u.oneCell' = true)
    (h63 : n + m ≤ maxLen) (hbytes : (n + m) * bytes ≤ 140737488355328) (hbase : base ≤ w.heap.size)
    (hK : ∀ v' w', w'.ownsRow base e size v' (n + m) (xs ++ news) → w.grownBy w' v.ownBlock → (v'.ownBlock = v.ownBlock ∨ v'.ownBlock = some w.heap.size) → wpList P ops Q rest (a.put o.dst v') w') :
    wpList P ops Q (o :: rest) a w :=
 wpList_wanted hgd fun K hKK => wp_append_R s x t ho base e i z size bytes ht hi hz hsize hby hzs hsz v n xs hs hown ad m c news hx hl hnews h1 h63 hbytes hbase fun v' w' a1 a2 a3 => hKK _ _ (hK v' w' a1 a2 a3)
end
/-! Flat lists of equal parts. -/
section
variable {α : Type} {f : α → List Value} {sz : Nat}
theorem flat_len (hf : ∀ x, (f x).length = sz) : ∀ es : List α, (es.flatMap f).length = es.length * sz
 | [] => by simp
 | a :: r => by rw [List.flatMap_cons, List.length_append, flat_len hf r, hf, List.length_cons, Nat.succ_mul]; omega
theorem flat_at (hf : ∀ x, (f x).length = sz) (e : α) (j : Nat) (hj : j < sz) : ∀ (es : List α) (k : Nat), es[k]? = some e → (es.flatMap f)[k * sz + j]? = (f e)[j]?
 | [], k, h => by simp at h
 | a :: r, 0, h => by
  injection h with h; subst h
  rw [List.flatMap_cons, List.getElem?_append_left (by rw [hf]; omega)]; simp
 | a :: r, k + 1, h => by
  rw [List.flatMap_cons, List.getElem?_append_right (by rw [hf, Nat.succ_mul]; omega), hf, show (k + 1) * sz + j - sz = k * sz + j by rw [Nat.succ_mul]; omega]
  exact flat_at hf e j hj r k (by simpa using h)
theorem flat_set (hf : ∀ x, (f x).length = sz) (e e' : α) (j : Nat) (hj : j < sz) (u : Value) (he : f e' = (f e).set j u) : ∀ (es : List α) (k : Nat), es[k]? = some e → (es.flatMap f).set (k * sz + j) u = (es.set k e').flatMap f
 | [], k, h => by simp at h
 | a :: r, 0, h => by
  injection h with h; subst h
  rw [List.set_cons_zero, List.flatMap_cons, List.flatMap_cons, he, List.set_append_left _ _ (by rw [hf]; omega)]; simp
 | a :: r, k + 1, h => by
  rw [List.set_cons_succ, List.flatMap_cons, List.flatMap_cons, List.set_append_right _ _ (by rw [hf, Nat.succ_mul]; omega), hf, show (k + 1) * sz + j - sz = k * sz + j by rw [Nat.succ_mul]; omega]
  rw [flat_set hf e e' j hj u he r k (by simpa using h)]
end
end Go.Proofs.YtfbmogccmlikaaaGreatDoor
