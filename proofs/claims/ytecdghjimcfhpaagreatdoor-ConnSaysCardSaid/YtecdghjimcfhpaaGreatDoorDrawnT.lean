/-
  As DrawnF, but that the operations that F lists need wait for the others only at second hand. A law for any program; no conditions.
-/
import Derived.Test.YtecdghjimcfhpaaGreatDoorDrawnF
namespace Go.Proofs.YtecdghjimcfhpaaGreatDoor
open Go.RowKit
set_option linter.unusedVariables false
set_option linter.unusedSimpArgs false

section
variable {P : Program} {ops : Array Oper} {Q : Exit → Act → World → Prop} {md : Region.Mode} {G : World → World → Prop} {S : World → Prop} {F : Nat → Bool}

/-- From j one comes to i along what is waited for, in at most so many steps. -/
def reachB (md : Region.Mode) (ops : Array Oper) (i : Nat) : Nat → Nat → Bool
  | 0, _ => false
  | n + 1, j => match ops[j]? with
    | some oj => oj.after.any fun e => Region.binds md e && (e.on == i || reachB md ops i n e.on)
    | none => false
def waitsT (md : Region.Mode) (ops : Array Oper) (F : Nat → Bool) (i : Nat) : Bool := (List.range ops.size).all fun j => !F j || j == i || reachB md ops i 12 j
/-- What is listed waits for nothing that is not. -/
def Closed (md : Region.Mode) (ops : Array Oper) (listed : Array Bool) : Prop := ∀ k ok, ops[k]? = some ok → listed.getD k false = true → ∀ e ∈ ok.after, Region.binds md e = true → listed.getD e.on false = true
def closedB (md : Region.Mode) (ops : Array Oper) (listed : Array Bool) : Bool := (List.range ops.size).all fun k => !(listed.getD k false) || match ops[k]? with
  | some o => o.after.all fun e => !Region.binds md e || listed.getD e.on false
  | none => true
theorem closedB_spec {listed : Array Bool} (h : closedB md ops listed = true) : Closed md ops listed := by
  intro k ok hk hl e he hb
  unfold closedB at h
  rw [List.all_eq_true] at h
  have h1 := h k (by simpa using (Array.getElem?_eq_some_iff.1 hk).1)
  rw [hl, hk] at h1
  simp only [Bool.not_true, Bool.false_or] at h1
  obtain ⟨m, hm, rfl⟩ := Array.getElem_of_mem he
  have h2 := Array.all_eq_true.1 h1 m hm
  rw [hb] at h2
  simpa using h2
theorem waitsT_spec {i j : Nat} {oj : Oper} (h : waitsT md ops F i = true) (hj : ops[j]? = some oj) (hF : F j = true) (hne : j ≠ i) : reachB md ops i 12 j = true := by
  unfold waitsT at h
  rw [List.all_eq_true] at h
  have h1 := h j (by simpa using (Array.getElem?_eq_some_iff.1 hj).1)
  rw [hF, show (j == i) = false from beq_eq_false_iff_ne.2 hne] at h1
  simpa using h1
theorem reach_listed {listed : Array Bool} {i : Nat} (hc : Closed md ops listed) : ∀ (n j : Nat) (oj : Oper), ops[j]? = some oj → (∀ e ∈ oj.after, Region.binds md e = true → listed.getD e.on false = true) → reachB md ops i n j = true → listed.getD i false = true
  | 0, _, _, _, _, h => by cases h
  | n + 1, j, oj, hj, hall, h => by
    unfold reachB at h
    rw [hj] at h
    obtain ⟨m, hm, h2⟩ := Array.any_eq_true.1 h
    rw [Bool.and_eq_true, Bool.or_eq_true] at h2
    have hl := hall oj.after[m] (Array.getElem_mem hm) h2.1
    rcases h2.2 with e | hr
    · rw [← eq_of_beq e]; exact hl
    · cases hk : ops[oj.after[m].on]? with
      | none =>
        cases n with
        | zero => cases hr
        | succ n => unfold reachB at hr; rw [hk] at hr; cases hr
      | some ok => exact reach_listed hc n _ ok hk (hc _ ok hk hl) hr
theorem getD_set_mono {listed : Array Bool} {j m : Nat} (h : listed.getD m false = true) : (listed.setIfInBounds j true).getD m false = true := by
  by_cases e : j = m
  · subst e
    have hlt : j < listed.size := by
      rcases Nat.lt_or_ge j listed.size with h' | h'
      · exact h'
      · simp [Array.getElem?_eq_none h'] at h
    simp [hlt]
  · simp [Array.getElem?_setIfInBounds, e] at h ⊢
    exact h
theorem Closed.set {listed : Array Bool} {j : Nat} {oj : Oper} (hc : Closed md ops listed) (hj : ops[j]? = some oj) (hall : ∀ e ∈ oj.after, Region.binds md e = true → listed.getD e.on false = true) : Closed md ops (listed.setIfInBounds j true) := by
  intro k ok hk hl e he hb
  by_cases hjk : j = k
  · subst hjk
    rw [hj] at hk; injection hk with hk; subst hk
    exact getD_set_mono (hall e he hb)
  · refine getD_set_mono (hc k ok hk ?_ e he hb)
    simp [Array.getElem?_setIfInBounds, hjk] at hl ⊢
    exact hl
theorem wpAnyT_first {i : Nat} {oi : Oper} {v : Value} (hr : ∀ w, G w w) (ht : ∀ a b c, G a b → G b c → G a c) (hSG : ∀ w w', S w → G w w' → S w')
    (hi : ops[i]? = some oi) (hs : Region.noSelect ops = true) (hQ : ∀ c a w, Q (.panic c) (a.put oi.dst v) w → Q (.panic c) a w) (hW : waitsT md ops F i = true) :
    ∀ (n : Nat) (listed : Array Bool) (a : Act) (w : World),
      (∀ j oj, ops[j]? = some oj → j ≠ i → listed.getD j true = false → (∀ e ∈ oj.after, Region.binds md e = true → e.on ≠ i) → oi.apart ops oj = true) →
      i ∈ Region.ready md ops listed → Closed md ops listed → Nice P ops G S oi v a → S w →
      wpAnyF P md ops Q G S F n (listed.setIfInBounds i true) (a.put oi.dst v) w → wpAnyF P md ops Q G S F (n + 1) listed a w := by
  have now : ∀ (n : Nat) (listed : Array Bool) (a : Act) (w w' : World), Nice P ops G S oi v a → S w → G w w' →
      wpAnyF P md ops Q G S F n (listed.setIfInBounds i true) (a.put oi.dst v) w →
      wpOp P ops Q i (fun a' w'' => (F i = true ∨ S w'') ∧ wpAnyF P md ops Q G S F n (listed.setIfInBounds i true) a' w'') a w' := by
    intro n listed a w w' hy hS hg H
    have hS' := hSG _ _ hS hg
    unfold wpOp
    rw [hi]
    dsimp only
    rcases hy with ⟨hw, hv⟩ | ⟨hw, rfl⟩
    · rw [if_pos hw]
      exact .inl (wp_of_quietAt (hr w') (hv w' hS') fun w2 h2 => ⟨.inr (hSG _ _ hS' h2), H.grow ht (ht _ _ _ hg h2)⟩)
    · rw [if_neg (by rw [hw]; exact Bool.false_ne_true)]
      exact ⟨.inr hS', H.grow ht hg⟩
  intro n
  induction n with
  | zero =>
    intro listed a w hfree hrd hcl hy hS H w' hg
    refine ⟨fun h => (by rw [h] at hrd; cases hrd), fun j hj => ?_⟩
    by_cases hji : j = i
    · subst hji; exact now 0 listed a w w' hy hS hg H
    · have := ready_mono hj hji
      rw [H.1] at this
      cases this
  | succ n ih =>
    intro listed a w hfree hrd hcl hy hS H w' hg
    refine ⟨fun h => (by rw [h] at hrd; cases hrd), fun j hj => ?_⟩
    by_cases hji : j = i
    · subst hji; exact now (n + 1) listed a w w' hy hS hg H
    · obtain ⟨hjun, oj, hoj, hall⟩ := mem_ready.1 hj
      have hnot : ∀ e ∈ oj.after, Region.binds md e = true → e.on ≠ i := by
        intro e he hb heq
        have h1 := hall e he hb
        have h0 := (mem_ready.1 hrd).1
        rw [heq] at h1
        have hlt : i < listed.size := by
          rcases Nat.lt_or_ge i listed.size with h' | h'
          · exact h'
          · simp [Array.getElem?_eq_none h'] at h1
        simp [hlt] at h0 h1
        rw [h0] at h1
        cases h1
      obtain ⟨a1, a2, a3⟩ := Oper.apart_spec (hfree j oj hoj hji hjun hnot)
      have hsj := fun cs b => Region.noSelect_spec hs j oj cs b hoj
      have hsi := fun cs b => Region.noSelect_spec hs i oi cs b hi
      have h2 := wpOp_putN (N := Nice P ops G S oi v) hoj a1 a2 hsj hQ
        (fun a u hn => hn.put (execOp_put oi hsi a oj.dst u a3) (wanted_put oi a oj.dst u a3)) (fun a d hn => hn.put rfl rfl) hy ((H w' hg).2 j (ready_mono hj hji))
      have hnF : ¬ F j = true := fun hF => by
        have h1 := reach_listed hcl 12 j oj hoj hall (waitsT_spec hW hoj hF hji)
        have h0 := (mem_ready.1 hrd).1
        have hlt : i < listed.size := by
          rcases Nat.lt_or_ge i listed.size with h' | h'
          · exact h'
          · simp [Array.getElem?_eq_none h'] at h1
        simp [hlt] at h0 h1
        rw [h0] at h1
        cases h1
      refine wpOp_mono (fun a' w2 h3 => ⟨h3.2.1, ih (listed.setIfInBounds j true) a' w2 ?_ (ready_mono hrd (Ne.symm hji)) (hcl.set hoj hall) h3.1 (h3.2.1.resolve_left hnF) ?_⟩) h2
      · intro k ok hk hki hun hno
        refine hfree k ok hk hki ?_ hno
        by_cases hjk : j = k
        · subst hjk; exact hjun
        · rw [getD_set_ne true hjk] at hun; exact hun
      · rw [Array.setIfInBounds_comm _ _ hji]
        exact h3.2.2


section
variable {l r : List Oper} {o : Oper} {i n : Nat} {listed : Array Bool} {a : Act} {w : World} {v : Value}
theorem T_take (su : Setup P l Q G S) (ho : l.drop i = o :: r) (hB : ((Region.ready md l.toArray listed).contains i && Region.free md l.toArray listed i && (waitsT md l.toArray F i && closedB md l.toArray listed)) = true) (hS : S w) (hy : Nice P l.toArray G S o v a)
    (h : wpAnyF P md l.toArray Q G S F n (listed.setIfInBounds i true) (a.put o.dst v) w) : wpAnyF P md l.toArray Q G S F (n + 1) listed a w := by
  have hi : l.toArray[i]? = some o := by
    have : (l.drop i)[0]? = some o := by rw [ho]; rfl
    rw [List.getElem?_drop] at this
    simpa using this
  rw [Bool.and_eq_true, Bool.and_eq_true, Bool.and_eq_true] at hB
  exact wpAnyT_first su.r su.t su.sg hi su.s (fun c a w h => su.q c a _ _ w h) hB.2.1 n listed a w (Region.free_spec hi hB.1.2) (by simpa using hB.1.1) (closedB_spec hB.2.2) hy hS h
theorem T_val (su : Setup P l Q G S) (ho : l.drop i = o :: r) (hB : ((Region.ready md l.toArray listed).contains i && Region.free md l.toArray listed i && (waitsT md l.toArray F i && closedB md l.toArray listed)) = true) (hS : S w) (hw : Region.wanted o (yielded l.toArray a.tmps) = true)
    (hr : ∀ w, S w → (execOp a.eval o).run P w = .ok (.value v) w)
    (h : wpAnyF P md l.toArray Q G S F n (listed.setIfInBounds i true) (a.put o.dst v) w) : wpAnyF P md l.toArray Q G S F (n + 1) listed a w :=
  T_take su ho hB hS (.inl ⟨hw, fun w hS => by unfold Oper.quietAt; rw [hr w hS]; exact ⟨rfl, rfl⟩⟩) h
theorem T_move (x : Operand) (su : Setup P l Q G S) (ho : l.drop i = o :: r) (hx : o.op = .move x) (hB : ((Region.ready md l.toArray listed).contains i && Region.free md l.toArray listed i && (waitsT md l.toArray F i && closedB md l.toArray listed)) = true) (hS : S w) (hw : Region.wanted o (yielded l.toArray a.tmps) = true)
    (h : wpAnyF P md l.toArray Q G S F n (listed.setIfInBounds i true) (a.put o.dst (a.eval x)) w) : wpAnyF P md l.toArray Q G S F (n + 1) listed a w :=
  T_val su ho hB hS hw (fun w _ => by rw [BigFrame.run_move x hx]) h
theorem T_skip (su : Setup P l Q G S) (ho : l.drop i = o :: r) (hB : ((Region.ready md l.toArray listed).contains i && Region.free md l.toArray listed i && (waitsT md l.toArray F i && closedB md l.toArray listed)) = true) (hS : S w) (hw : Region.wanted o (yielded l.toArray a.tmps) = false)
    (h : wpAnyF P md l.toArray Q G S F n (listed.setIfInBounds i true) (a.put o.dst undef) w) : wpAnyF P md l.toArray Q G S F (n + 1) listed a w :=
  T_take su ho hB hS (.inr ⟨hw, rfl⟩) h
theorem T_call {f : FuncId} {args : Array Value} (su : Setup P l Q G S) (ho : l.drop i = o :: r) (hB : ((Region.ready md l.toArray listed).contains i && Region.free md l.toArray listed i && (waitsT md l.toArray F i && closedB md l.toArray listed)) = true) (hS : S w) (hw : Region.wanted o (yielded l.toArray a.tmps) = true)
    (hc : ∀ w, S w → Calls P f args w fun e w' => e = .returned v ∧ G w w') (hr : ∀ w, (execOp a.eval o).run P w = .ok (.enter f args) w)
    (h : wpAnyF P md l.toArray Q G S F n (listed.setIfInBounds i true) (a.put o.dst v) w) : wpAnyF P md l.toArray Q G S F (n + 1) listed a w :=
  T_take su ho hB hS (.inl ⟨hw, fun w hS => by unfold Oper.quietAt; rw [hr w]; exact ⟨rfl, hc w hS⟩⟩) h
end
/-- A call as one operation, in a region that draws. -/
theorem wp_call_ {o : Oper} {a : Act} {w : World} {K : Act → World → Prop} {f : FuncId} {args : Array Value} {R : Value → World → Prop} (hr : (execOp a.eval o).run P w = .ok (.enter f args) w) (hc : Calls P f args w fun e w' => ∃ v, e = .returned v ∧ R v w') (hK : ∀ v w', R v w' → K (a.put o.dst v) w') : o.wp P a w K Q := by
  unfold Oper.wp
  rw [hr, Oper.upon_enter]
  exact hc.mono fun e w' ⟨v, he, h⟩ => by subst he; exact hK v w' h
end
end Go.Proofs.YtecdghjimcfhpaaGreatDoor
