/-
  For AssocPlays: an array beside the document's list; a region that draws, in a round of a range over a function. No conditions.
-/
import Derived.Test.YtfabmbemdaelcaaPr3
import Derived.Test.YtfabmbemdaelcaaAg
namespace Go.Proofs.Ytfabmbemdaelcaa.C
open Go.RowKit Go.Shelf Go.ChangeShapes Go.WideShapes Go.Maps
set_option linter.unusedVariables false
set_option linter.unusedSimpArgs false

section
variable {P : Program}
theorem op_inRound {o : Oper} {a : Act} {w : World} {K : Act → World → Prop} {Q : Exit → Act → World → Prop} (l m : Nat) (hd : ∀ c, o.op ≠ .defer c) (h : o.wp P a w K Q) : o.wpIn (Fence.wide.inRound l) m P a w K Q := by
  unfold Oper.wp at h
  refine ⟨fun _ _ => trivial, ?_⟩
  rw [Oper.semAt_eq _ _ _ hd]
  generalize (execOp a.eval o).run P w = r at h ⊢
  cases r with
  | ok x w' =>
    cases x with
    | value v => exact h
    | skip => exact h
    | defer d => exact h
    | enter f args =>
      refine ⟨fun h => (by cases h), CallsIn.inRound l (callsIn_wide.2 (Calls.mono h fun e w'' he => ?_))⟩
      cases e <;> exact he
    | row row args =>
      refine ⟨fun h => (by cases h), fun c cs _ => ?_⟩
      obtain ⟨v, w'', r, s⟩ := h c cs
      exact ⟨v, w'', r, stepsIn_wide.2 s⟩
    | _ => exact h.elim
  | halt x w' => cases x <;> exact h
def noDefer (l : List Oper) : Bool := l.all fun o => match o.op with
  | .defer _ => false
  | _ => true
theorem noDefer_spec {l : List Oper} (h : noDefer l = true) {i : Nat} {o : Oper} (ho : l.toArray[i]? = some o) : ∀ c, o.op ≠ .defer c := by
  intro c hc
  unfold noDefer at h
  rw [List.all_eq_true] at h
  have hm : o ∈ l := by
    rw [List.getElem?_toArray] at ho
    exact List.mem_of_getElem? ho
  have := h o hm
  rw [hc] at this
  cases this
theorem wpAny_inRound {md : Region.Mode} {l : List Oper} {Q : Exit → Act → World → Prop} (rl m : Nat) (hd : noDefer l = true) (hq : ∀ a w, ¬ Q .outgrown a w) : ∀ (n : Nat) (listed : Array Bool) (a : Act) (w : World),
    wpAny P md l.toArray Q n listed a w → wpAnyIn (Fence.wide.inRound rl) m P md l.toArray Q n listed a w
  | 0, _, _, _, h => h
  | n + 1, listed, a, w, h => by
    refine ⟨h.1, fun i hi => ?_⟩
    have h2 := h.2 i hi
    unfold wpOp at h2
    unfold wpOpIn
    cases ho : l.toArray[i]? with
    | none => rw [ho] at h2; exact wpAny_inRound rl m hd hq n _ a w h2
    | some o =>
      rw [ho] at h2
      dsimp only at h2 ⊢
      split at h2
      · rename_i hw
        rw [if_pos hw]
        rcases h2 with h2 | ⟨-, a', w', h2⟩
        · exact Oper.wpIn_mono (fun a w h => wpAny_inRound rl m hd hq n _ a w h) (op_inRound rl m (noDefer_spec hd ho) h2)
        · exact absurd h2 (hq a' w')
      · rename_i hw
        rw [if_neg hw]
        exact ⟨fun _ _ => trivial, wpAny_inRound rl m hd hq n _ _ w h2⟩
/-- A region that draws, in a round. -/
theorem wpIn_region_M_ {G : World → World → Prop} {S : World → Prop} {id rl m : Nat} {a : Act} {w : World} {Q : Exit → Act → World → Prop} {l : List Oper} (su : Setup P l Q G S) (hm : P.follows .mixedOrders = true) (hd : noDefer l = true) (hq : ∀ a w, ¬ Q .outgrown a w)
    (h : Setup P l Q G S → wpAnyM P .any l.toArray Q G S l.length (Array.replicate l.length false) a w.drew) : (Code.region id l.toArray true).wpIn (Fence.wide.inRound rl) m P Q a w := by
  refine wpIn_region_any hm (wpAny_inRound rl m hd hq _ _ _ _ (wpAnyM.any (G := G) (S := S) su.r _ _ _ _ ?_))
  have e : l.toArray.size = l.length := by simp
  rw [e]
  exact h su
end
/-- An array and a list beside each other. -/
structure PlS (w0 w : World) (ga b8 : Nat) (es : List (Ent CV)) (x : LP) (v8 : Value) (l : List Nat) : Prop where
  arr : Arr w ga l es
  own : ∀ b ∈ l, b = ga ∨ w0.heap.size ≤ b
  fr : Fr [ga, b8] w0 w
  bx8 : Bk w b8 53 #[v8]
  pr : PR w v8 x
  blk : ∀ b, v8.ownBlock = some b → b ∉ l ∧ w0.heap.size ≤ b
  lt : b8 < w0.heap.size
  ne : ga ≠ b8
theorem PlS.b8l {w0 w : World} {ga b8 : Nat} {es : List (Ent CV)} {x : LP} {v8 : Value} {l : List Nat} (h : PlS w0 w ga b8 es x v8 l) : b8 ∉ l := fun hm => by
  rcases h.own b8 hm with e | e
  · exact h.ne e.symm
  · have := h.lt; omega
theorem PlS.grow {w0 w w' : World} {ga b8 : Nat} {es : List (Ent CV)} {x : LP} {v8 : Value} {l : List Nat} (h : PlS w0 w ga b8 es x v8 l) (hf : Fr [] w w') : PlS w0 w' ga b8 es x v8 l :=
  ⟨h.arr.fr_nil hf, h.own, h.fr.trans hf.nil_, h.bx8.fr hf (by simp), h.pr.fr_nil hf, h.blk, h.lt, h.ne⟩
theorem PlS.stepA {w0 w w' : World} {ga b8 : Nat} {es es' : List (Ent CV)} {x : LP} {v8 : Value} {l : List Nat} (h : PlS w0 w ga b8 es x v8 l) (h2 : ∃ l', Arr w' ga l' es' ∧ Fr l w w' ∧ ∀ b ∈ l', b ∈ l ∨ w.heap.size ≤ b) : ∃ l', PlS w0 w' ga b8 es' x v8 l' := by
  obtain ⟨l', a1, a2, a3⟩ := h2
  refine ⟨l', a1, fun b hb => ?_, h.fr.trans' a2 (fun b hb => ?_), h.bx8.fr a2 h.b8l, h.pr.fr a2 (fun b hb => (h.blk b hb).1), fun b hb => ⟨fun hm => ?_, (h.blk b hb).2⟩, h.lt, h.ne⟩
  · rcases a3 b hb with e | e
    · exact h.own b e
    · exact .inr (Nat.le_trans h.fr.size e)
  · rcases h.own b hb with e | e
    · exact .inl (by simp [e])
    · exact .inr e
  · rcases a3 b hm with e | e
    · exact (h.blk b hb).1 e
    · have := h.pr.lt b hb; omega
theorem PlS.stepX {w0 w w' : World} {ga b8 : Nat} {es : List (Ent CV)} {x x' : LP} {v8 v' : Value} {l : List Nat} (h : PlS w0 w ga b8 es x v8 l) (hp : PR w' v' x') (hf : Fr [] w w') (hv : ∀ b, v'.ownBlock = some b → w.heap.size ≤ b) : PlS w0 (w'.setCell ⟨b8, 0, none⟩ v') ga b8 es x' v' l := by
  have h2 := h.grow hf
  have hs : Fr [b8] w' (w'.setCell ⟨b8, 0, none⟩ v') := (Fr.refl [b8] w').setCell (.inl (by simp)) _
  have h8 := h.bx8.lt
  refine ⟨h2.arr.fr hs (fun b hb hm => by simp at hm; subst hm; exact h.b8l hb), h.own, h2.fr.trans' hs (fun b hb => .inl (by simp at hb; simp [hb])), h2.bx8.put 0 _, hp.fr hs (fun b hb hm => by simp at hm; subst hm; have := hv _ hb; omega), fun b hb => ⟨fun hm => ?_, Nat.le_trans h.fr.size (hv b hb)⟩, h.lt, h.ne⟩
  have h3 := h.arr.lt b hm
  have h4 := hv b hb
  omega
end Go.Proofs.Ytfabmbemdaelcaa.C
