/-
 A slice of one-cell elements whose whole capacity is its own: from whatever place of its block on. Append, cut, read. For any program; no conditions.
-/
import Derived.Test.YtfbmogccmlikaaaGreatDoorBase
namespace Go.Proofs.YtfbmogccmlikaaaGreatDoor
open Go.RowKit
set_option linter.unusedVariables false
set_option linter.unusedSimpArgs false
def Own (w : World) (e : TypeId) (v : Value) (xs : List Value) : Prop :=
 ∃ A cap, v = .slice A xs.length cap ∧ xs.length ≤ cap ∧ cap ≤ maxLen ∧
  ((A = none ∧ cap = 0) ∨ ∃ g off cur, A = some ⟨g, off, none⟩ ∧ w.heap[g]? = some (.cells cur e (0, 0)) ∧ off + cap ≤ cur.size ∧ (cur.toList.drop off).take xs.length = xs)
namespace Own
variable {w w' : World} {e : TypeId} {v : Value} {xs : List Value}
theorem nil_ (w : World) (e : TypeId) : Own w e (.slice none 0 0) [] := ⟨none, 0, rfl, by simp, by simp, .inl ⟨rfl, rfl⟩⟩
theorem lt (h : Own w e v xs) : ∀ k, v.ownBlock = some k → k < w.heap.size := by
 obtain ⟨A, cap, rfl, -, -, ⟨rfl, -⟩ | ⟨g, off, cur, rfl, hg, -⟩⟩ := h
 ·intro k hk; simp [Value.ownBlock] at hk
 ·intro k hk
  simp [Value.ownBlock] at hk
  subst hk
  rcases Nat.lt_or_ge g w.heap.size with hl | hge
  ·exact hl
  ·rw [Array.getElem?_eq_none hge] at hg; cases hg
theorem kept (h : Own w e v xs) (hk : ∀ k, v.ownBlock = some k → w'.heap[k]? = w.heap[k]?) : Own w' e v xs := by
 obtain ⟨A, cap, rfl, h1, h2, ⟨rfl, h3⟩ | ⟨g, off, cur, rfl, hg, h4⟩⟩ := h
 ·exact ⟨none, cap, rfl, h1, h2, .inl ⟨rfl, h3⟩⟩
 ·exact ⟨_, cap, rfl, h1, h2, .inr ⟨g, off, cur, rfl, (hk g (by simp [Value.ownBlock])).trans hg, h4⟩⟩
theorem fr {l : List Nat} (h : Own w e v xs) (hf : Fr l w w') (hn : ∀ k, v.ownBlock = some k → k ∉ l) : Own w' e v xs :=
 h.kept fun k hk => hf.block k (h.lt k hk) (hn k hk)
theorem grown {row : Option Nat} (h : Own w e v xs) (hg : w.grownBy w' row) (hn : ∀ k, v.ownBlock = some k → some k ≠ row) : Own w' e v xs :=
 h.kept fun k hk => hg.block k (h.lt k hk) (hn k hk)
theorem at_ (h : Own w e v xs) : ∃ A cap, v = .slice A xs.length cap ∧ At w A xs ∧ xs.length ≤ cap ∧ cap ≤ maxLen ∧ (A = none → cap = 0) ∧ v.ownBlock = A.map (·.block) := by
 obtain ⟨A, cap, rfl, h1, h2, ⟨rfl, h3⟩ | ⟨g, off, cur, rfl, hg, h4, h5⟩⟩ := h
 ·refine ⟨none, cap, rfl, .inl (List.eq_nil_of_length_eq_zero (by omega)), h1, h2, fun _ => h3, rfl⟩
 ·have hb : Bk w g e cur := hg
  refine ⟨_, cap, rfl, .inr ⟨_, rfl, hb.lt, fun j u hu => ?_⟩, h1, h2, (by intro h; cases h), rfl⟩
  have hadd : (⟨g, off, none⟩ : Addr).add j = ⟨g, off + j, none⟩ := by unfold Addr.add; split <;> simp_all
  rw [hadd, hb.cell]
  rw [← h5, List.getElem?_take] at hu
  split at hu
  ·rw [List.getElem?_drop] at hu
   simpa using hu
  ·cases hu
theorem drop {A : Option Addr} {n cap k : Nat} (h : Own w e (.slice A n cap) xs) (hk : k ≤ n) : Own w e (.slice (if cap = k then A else A.map (·.add k)) (n - k) (cap - k)) (xs.drop k) ∧
    (Value.slice (if cap = k then A else A.map (·.add k)) (n - k) (cap - k)).ownBlock = (Value.slice A n cap).ownBlock := by
 obtain ⟨A', cap', hv, h1, h2, h3⟩ := h
 injection hv with e1 e2 e3
 subst e1 e2 e3
 rcases h3 with ⟨rfl, h3⟩ | ⟨g, off, cur, rfl, hg, h4, h5⟩
 ·refine ⟨⟨none, cap - k, by simp, by simp; omega, by omega, .inl ⟨rfl, by omega⟩⟩, by simp [Value.ownBlock]⟩
 ·by_cases hc : cap = k
  ·rw [if_pos hc]
   refine ⟨⟨_, cap - k, by simp, by simp; omega, by omega, .inr ⟨g, off, cur, rfl, hg, by omega, ?_⟩⟩, rfl⟩
   have : xs.drop k = [] := List.drop_eq_nil_of_le (by omega)
   rw [this]; simp
  ·rw [if_neg hc]
   have hadd : (⟨g, off, none⟩ : Addr).add k = ⟨g, off + k, none⟩ := by unfold Addr.add; split <;> simp_all
   have hmap : (some (⟨g, off, none⟩ : Addr)).map (·.add k) = some ⟨g, off + k, none⟩ := by simp [hadd]
   rw [hmap]
   refine ⟨⟨_, cap - k, by simp, by simp; omega, by omega, .inr ⟨g, off + k, cur, rfl, hg, by omega, ?_⟩⟩, rfl⟩
   rw [List.length_drop, ← List.drop_drop]
   conv => rhs; rw [← h5]
   rw [List.drop_take]
end Own
section
variable {P : Program}
theorem Own.append {w : World} {v : Value} {xs : List Value} (t ty e : TypeId) (i : TypeInfo) (z : Value) (ht : P.underlying t = some (.slice e)) (hi : P.info? e = some i) (hz : i.zero = some z) (hs : i.size = 1) (hzs : z.cells.size = 1)
    (h : Own w e v xs) (B : Option Addr) (m c : Nat) (news : List Value) (hx : At w B news) (hm : news.length = m) (h1 : ∀ u ∈ news, u.oneCell' = true) (h63 : xs.length + m ≤ maxLen) (hbytes : (xs.length + m) * i.bytes ≤ 140737488355328) :
    ∃ v' w', (Builtin.append_ #[t, t] ty #[v, .slice B m c]).run P w = .ok v' w' ∧ Own w' e v' (xs ++ news) ∧ w.grownBy w' v.ownBlock ∧ (v'.ownBlock = v.ownBlock ∨ v'.ownBlock = some w.heap.size) := by
 have h63' : xs.length + m ≤ 9223372036854775807 := by simpa [maxLen] using h63
 have hown := h
 obtain ⟨A, cap, rfl, h2, h3, hA⟩ := h
 by_cases hm0 : m = 0
 ·subst hm0
  obtain rfl : news = [] := List.eq_nil_of_length_eq_zero hm
  refine ⟨_, w, run_append_none (P := P) t ty e i ht hi A B xs.length cap c h2 (fun _ _ => .inr trivial), by simpa using hown, ⟨rfl, rfl, rfl, Nat.le_refl _, fun _ _ _ => rfl⟩, .inl rfl⟩
 ·obtain ⟨b, rfl⟩ : ∃ b, B = some b := by
   rcases hx with h | ⟨b, h, _⟩
   ·rw [h] at hm; simp at hm; omega
   ·exact ⟨b, h⟩
  have grown : ∀ (old : Nat), old < xs.length + m →
      Own (w.drew.alloc (.cells (xs.toArray ++ news.toArray ++ Builtin.zeroCells z.cells (grownCap w (xs.length + m) old e - (xs.length + m))) e)) e (.slice (some ⟨w.heap.size, 0, none⟩) (xs.length + m) (grownCap w (xs.length + m) old e)) (xs ++ news) := by
   intro old ho
   have hge := grownCap_ge w (xs.length + m) old e
   have hle := grownCap_le_maxLen w (xs.length + m) old e h63
   have hl : (xs ++ news).length = xs.length + m := by rw [List.length_append, hm]
   refine ⟨_, _, by rw [hl], by rw [hl]; exact hge, hle, .inr ⟨w.heap.size, 0, _, rfl, heap_alloc_new w.drew _, ?_, ?_⟩⟩
   ·simp only [Array.size_append, List.size_toArray, size_zeroCells, hzs, hm]
    omega
   ·rw [hl]
    simp only [Array.toList_append, List.append_assoc, List.drop_zero]
    rw [← List.append_assoc, ← hl]
    exact List.take_left
  rcases hA with ⟨rfl, hc0⟩ | ⟨g, off, cur, rfl, hg, h4, h5⟩
  ·have hx0 : xs = [] := List.eq_nil_of_length_eq_zero (by omega)
   subst hx0
   subst hc0
   have hr := run_append_nil (P := P) w t ty e i z ht hi hz b m c news (by rw [hs]; omega) hx.cells (by omega) (by simp at h63'; omega) (by simp only [List.length_nil, Nat.zero_add] at hbytes; omega)
   have hgr := grown 0 (by simp; omega)
   simp only [List.length_nil, Nat.zero_add, List.nil_append] at hgr ⊢
   refine ⟨_, _, hr, ?_, ⟨rfl, rfl, rfl, by simp, fun k hk _ => Below.heap_alloc w.drew _ k hk⟩, .inr rfl⟩
   simpa using hgr
  ·by_cases hroom : xs.length + m ≤ cap
   ·have hf := run_firstCells_some (P := P) w i.size m b m c news (by rw [hs]; omega) hx.cells
    have hst := run_storeCells_at P g (off + xs.length) e news 0 cur w hg (by omega) h1
    have hrun : (Builtin.append_ #[t, t] ty #[.slice (some ⟨g, off, none⟩) xs.length cap, .slice (some b) m c]).run P w =
        .ok (.slice (some ⟨g, off, none⟩) (xs.length + m) cap) (w.setRow g (cur.toList.take (off + xs.length) ++ news ++ cur.toList.drop (off + xs.length + news.length)).toArray) := by
     simp only [Nat.add_zero] at hst
     rw [hs] at hf
     simp [Builtin.append_, run_underlying ht, sizeOf, typeInfo, hi, Builtin.lenOf, hroom, hf, hs, Addr.add_lit, hst]
    refine ⟨_, _, hrun, ?_, ⟨rfl, rfl, rfl, by simp, fun k _ hk => setRow_other w g k _ (fun e => hk (by simp [Value.ownBlock, e]))⟩, .inl rfl⟩
    have hl : (xs ++ news).length = xs.length + m := by rw [List.length_append, hm]
    have hcl : cur.toList.length = cur.size := Array.length_toList
    refine ⟨_, cap, by rw [hl], by rw [hl]; exact hroom, h3, .inr ⟨g, off, _, rfl, setRow_heap w g cur _ e _ hg, ?_, ?_⟩⟩
    ·simp only [List.size_toArray, List.length_append, List.length_take, List.length_drop, Array.length_toList]
     omega
    ·have hsz : (cur.toList.take (off + xs.length)).length = off + xs.length := by rw [List.length_take]; omega
     rw [List.append_assoc, List.drop_append_of_le_length (by omega), List.drop_take, show off + xs.length - off = xs.length by omega, h5, ← List.append_assoc]
     exact List.take_left
   ·have holds : ∀ j u, xs[j]? = some u → w.cell? ((⟨g, off, none⟩ : Addr).add j) = some u := by
     obtain ⟨A', cap', hv, hat, -⟩ := hown.at_
     injection hv with e1 e2 e3
     subst e1
     exact hat.cells
    have hr := run_append_grow (P := P) w t ty e i z ht hi hz ⟨g, off, none⟩ xs.length cap xs (by rw [hs]; omega) holds b m c news (by rw [hs]; omega) hx.cells (by omega) (by omega) (growslice_fits (by omega) hbytes)
    exact ⟨_, _, hr, grown cap (by omega), ⟨rfl, rfl, rfl, by simp, fun k hk _ => Below.heap_alloc w.drew _ k hk⟩, .inr rfl⟩
theorem wpList_append_Own {ops : Array Oper} {rest : List Oper} {o : Oper} {a : Act} {w : World} {Q : Exit → Act → World → Prop} (hgd : Region.wanted o (yielded ops a.tmps) = true) (s x : Operand) (t : TypeId)
    (ho : o.op = .call { callee := .builtin .append, args := #[s, x], argTypes := #[t, t] })
    (e : TypeId) (i : TypeInfo) (z : Value) (ht : P.underlying t = some (.slice e)) (hi : P.info? e = some i) (hz : i.zero = some z) (hs : i.size = 1) (hzs : z.cells.size = 1)
    (v : Value) (xs : List Value) (hsv : a.eval s = v) (h : Own w e v xs) (B : Option Addr) (m c : Nat) (hxv : a.eval x = .slice B m c) (news : List Value) (hx : At w B news) (hm : news.length = m) (h1 : ∀ u ∈ news, u.oneCell' = true) (h63 : xs.length + m ≤ maxLen) (hbytes : (xs.length + m) * i.bytes ≤ 140737488355328)
    (hK : ∀ v' w', Own w' e v' (xs ++ news) → w.grownBy w' v.ownBlock → (v'.ownBlock = v.ownBlock ∨ v'.ownBlock = some w.heap.size) → wpList P ops Q rest (a.put o.dst v') w') :
    wpList P ops Q (o :: rest) a w := by
 refine wpList_wanted hgd fun K hKK => ?_
 obtain ⟨v', w', hr, h2, h3, h4⟩ := Own.append (P := P) t o.type e i z ht hi hz hs hzs h B m c news hx hm h1 h63 hbytes
 unfold Oper.wp execOp
 simp only [ho, resolve, invoke, builtin, Sem.run_bind, Sem.run_pure, Result.andThen_ok, List.map_toArray, List.map_cons, List.map_nil, hsv, hxv, hr]
 exact hKK _ _ (hK v' w' h2 h3 h4)
theorem wpList_append_OwnS {ops : Array Oper} {rest : List Oper} {o : Oper} {a : Act} {w : World} {Q : Exit → Act → World → Prop} (hgd : Region.wanted o (yielded ops a.tmps) = true) (s x : Operand) (t : TypeId)
    (ho : o.op = .call { callee := .builtin .append, args := #[s, x], argTypes := #[t, t] })
    (e : TypeId) (i : TypeInfo) (z : Value) (ht : P.underlying t = some (.slice e)) (hi : P.info? e = some i) (hz : i.zero = some z) (hs : i.size = 1) (hzs : z.cells.size = 1)
    (v : Value) (xs : List Value) (n : Nat) (hn : xs.length = n) (hsv : a.eval s = v) (h : Own w e v xs) (B : Option Addr) (m c : Nat) (hxv : a.eval x = .slice B m c) (news : List Value) (hx : At w B news) (hm : news.length = m) (h1 : ∀ u ∈ news, u.oneCell' = true) (h63 : n + m ≤ maxLen) (hbytes : (n + m) * i.bytes ≤ 140737488355328)
    (hK : ∀ A' c' w', Own w' e (.slice A' (n + m) c') (xs ++ news) → w.grownBy w' v.ownBlock → ((Value.slice A' (n + m) c').ownBlock = v.ownBlock ∨ (Value.slice A' (n + m) c').ownBlock = some w.heap.size) → wpList P ops Q rest (a.put o.dst (.slice A' (n + m) c')) w') :
    wpList P ops Q (o :: rest) a w := by
 subst hn
 refine wpList_append_Own hgd s x t ho e i z ht hi hz hs hzs v xs hsv h B m c hxv news hx hm h1 h63 hbytes fun v' w' h2 h3 h4 => ?_
 have h5 := h2
 obtain ⟨A', c', rfl, -⟩ := h5
 have hl : (xs ++ news).length = xs.length + m := by rw [List.length_append, hm]
 rw [hl] at h2 h4 ⊢
 exact hK A' c' w' h2 h3 h4
theorem wp_append_OwnS {o : Oper} {a : Act} {w : World} {K : Act → World → Prop} {Q : Exit → Act → World → Prop} (s x : Operand) (t : TypeId)
    (ho : o.op = .call { callee := .builtin .append, args := #[s, x], argTypes := #[t, t] })
    (e : TypeId) (i : TypeInfo) (z : Value) (ht : P.underlying t = some (.slice e)) (hi : P.info? e = some i) (hz : i.zero = some z) (hs : i.size = 1) (hzs : z.cells.size = 1)
    (v : Value) (xs : List Value) (n : Nat) (hn : xs.length = n) (hsv : a.eval s = v) (h : Own w e v xs) (B : Option Addr) (m c : Nat) (hxv : a.eval x = .slice B m c) (news : List Value) (hx : At w B news) (hm : news.length = m) (h1 : ∀ u ∈ news, u.oneCell' = true) (h63 : n + m ≤ maxLen) (hbytes : (n + m) * i.bytes ≤ 140737488355328)
    (hK : ∀ A' c' w', Own w' e (.slice A' (n + m) c') (xs ++ news) → w.grownBy w' v.ownBlock → ((Value.slice A' (n + m) c').ownBlock = v.ownBlock ∨ (Value.slice A' (n + m) c').ownBlock = some w.heap.size) → K (a.put o.dst (.slice A' (n + m) c')) w') :
    o.wp P a w K Q := by
 subst hn
 obtain ⟨v', w', hr, h2, h3, h4⟩ := Own.append (P := P) t o.type e i z ht hi hz hs hzs h B m c news hx hm h1 h63 hbytes
 have h5 := h2
 obtain ⟨A', c', rfl, -⟩ := h5
 have hl : (xs ++ news).length = xs.length + m := by rw [List.length_append, hm]
 rw [hl] at h2 h4 hr
 unfold Oper.wp execOp
 simp only [ho, resolve, invoke, builtin, Sem.run_bind, Sem.run_pure, Result.andThen_ok, List.map_toArray, List.map_cons, List.map_nil, hsv, hxv, hr]
 exact hK _ _ _ h2 h3 h4
end
end Go.Proofs.YtfbmogccmlikaaaGreatDoor
