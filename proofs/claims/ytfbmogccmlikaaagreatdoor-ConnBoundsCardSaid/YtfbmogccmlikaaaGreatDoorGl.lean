/-
 Drawn, DrawnF, DrawnK, DrawnT: several small texts in one. No conditions.
-/
import Derived.Deep.Quiet
import Derived.RegionTactic
import Derived.WalkKit
import Derived.KernelRfl
import Derived.Deep.RegionHeld3
import Derived.BigQuiet
namespace Go.Proofs.YtfbmogccmlikaaaGreatDoor
open Go.RowKit
set_option linter.unusedVariables false
set_option linter.unusedSimpArgs false
theorem PU : (∀ (l : List Value) (i : Nat) (v : Value), l.toArray.setIfInBounds i v = (l.set i v).toArray) ∧ (∀ (x v : Value) (l : List Value), List.set (x :: l) 0 v = v :: l) ∧ (∀ (x v : Value) (l : List Value) (i : Nat), List.set (x :: l) (i + 1) v = x :: List.set l i v) :=
 ⟨fun _ _ _ => by simp, fun _ _ _ => rfl, fun _ _ _ _ => rfl⟩
theorem PE : ((∀ (l : List Value) (i : Nat) (v : Value), l.toArray.setIfInBounds i v = (l.set i v).toArray) ∧ (∀ (x v : Value) (l : List Value), List.set (x :: l) 0 v = v :: l) ∧ (∀ (x v : Value) (l : List Value) (i : Nat), List.set (x :: l) (i + 1) v = x :: List.set l i v)) ∧
    (∀ (A : Array Value) (i : Nat) (d : Value), A.getD i d = A[i]?.getD d) ∧ (∀ (l : List Value) (i : Nat), l.toArray[i]? = l[i]?) ∧ (∀ (x : Value) (l : List Value), (x :: l)[0]? = some x) ∧ (∀ (x : Value) (l : List Value) (i : Nat), (x :: l)[i + 1]? = l[i]?) ∧ (∀ x d : Value, (some x).getD d = x) :=
 ⟨PU, fun _ _ _ => by simp, fun _ _ => by simp, fun _ _ => rfl, fun _ _ _ => rfl, fun _ _ => rfl⟩
section
variable {P : Program} {ops : Array Oper} {Q : Exit → Act → World → Prop} {md : Region.Mode} {G : World → World → Prop} {S : World → Prop}
def Nice (P : Program) (ops : Array Oper) (G : World → World → Prop) (S : World → Prop) (o : Oper) (v : Value) (a : Act) : Prop :=
 (Region.wanted o (yielded ops a.tmps) = true ∧ ∀ w, S w → o.quietAt P a (G w) w v) ∨ (Region.wanted o (yielded ops a.tmps) = false ∧ v = undef)
theorem Nice.put {o : Oper} {v : Value} {a a' : Act} (h : Nice P ops G S o v a) (he : execOp a'.eval o = execOp a.eval o) (hw : Region.wanted o (yielded ops a'.tmps) = Region.wanted o (yielded ops a.tmps)) : Nice P ops G S o v a' := by
 unfold Nice Oper.quietAt at *
 rw [he, hw]
 exact h
theorem wp_of_quietAt {o : Oper} {a : Act} {v : Value} {C : World → Prop} {w : World} {K : Act → World → Prop} (hw : C w) (h : o.quietAt P a C w v) (hK : ∀ w', C w' → K (a.put o.dst v) w') : o.wp P a w K Q := by
 unfold Oper.quietAt at h
 unfold Oper.wp
 cases hr : (execOp a.eval o).run P w with
 | ok n w' =>
  rw [hr] at h
  cases n with
  | value u => obtain ⟨rfl, rfl⟩ := h; exact hK _ hw
  | skip => obtain ⟨rfl, rfl⟩ := h; exact hK _ hw
  | enter f args =>
   obtain ⟨rfl, hc⟩ := h
   exact hc.mono fun e w2 ⟨he, h2⟩ => by subst he; exact hK _ h2
  | _ => exact h.elim
 | halt x w' => rw [hr] at h; exact h.elim
def wpAnyM (P : Program) (md : Region.Mode) (ops : Array Oper) (Q : Exit → Act → World → Prop) (G : World → World → Prop) (S : World → Prop) : Nat → Array Bool → Act → World → Prop
 | 0, listed, a, w => Region.ready md ops listed = [] ∧ ∀ w', G w w' → Q .normal a w'
 | n + 1, listed, a, w => ∀ w', G w w' → (Region.ready md ops listed = [] → Q .normal a w') ∧
     ∀ i ∈ Region.ready md ops listed, wpOp P ops Q i (fun a' w'' => S w'' ∧ wpAnyM P md ops Q G S n (listed.setIfInBounds i true) a' w'') a w'
theorem wpAnyM.any (hr : ∀ w, G w w) : ∀ (n : Nat) (listed : Array Bool) (a : Act) (w : World), wpAnyM P md ops Q G S n listed a w → wpAny P md ops Q n listed a w
 | 0, _, _, w, h => ⟨h.1, h.2 w (hr w)⟩
 | n + 1, _, _, w, h => ⟨(h w (hr w)).1, fun i hi => wpOp_mono (fun a' w' h' => wpAnyM.any hr n _ a' w' h'.2) ((h w (hr w)).2 i hi)⟩
theorem wpAnyM.grow (ht : ∀ a b c, G a b → G b c → G a c) {n : Nat} {listed : Array Bool} {a : Act} {w w' : World} (hg : G w w') (h : wpAnyM P md ops Q G S n listed a w) : wpAnyM P md ops Q G S n listed a w' := by
 cases n with
 | zero => exact ⟨h.1, fun w2 h2 => h.2 w2 (ht _ _ _ hg h2)⟩
 | succ n => exact fun w2 h2 => h w2 (ht _ _ _ hg h2)
theorem wpOp_putN {j : Nat} {oi oj : Oper} {v : Value} {N : Act → Prop} (hj : ops[j]? = some oj) (h1 : ∀ d, oi.dst = some d → d ∉ oj.looksAt ops) (h2 : ∀ d, oi.dst = some d → oj.dst ≠ some d)
    (hsj : ∀ cs b, oj.op ≠ .select cs b) (hQ : ∀ c a w, Q (.panic c) (a.put oi.dst v) w → Q (.panic c) a w)
    (keep : ∀ a u, N a → N (a.put oj.dst u)) (keepD : ∀ a d, N a → N { a with defers := d :: a.defers }) {K : Act → World → Prop} {a : Act} {w : World} (hy : N a)
    (h : wpOp P ops Q j K (a.put oi.dst v) w) : wpOp P ops Q j (fun a' w' => N a' ∧ K (a'.put oi.dst v) w') a w := by
 have ex := execOp_put (ops := ops) oj hsj a oi.dst v h1
 have wa := wanted_put (ops := ops) oj a oi.dst v h1
 unfold wpOp at h ⊢
 rw [hj] at h ⊢
 dsimp only at h ⊢
 rw [wa] at h
 cases hw : Region.wanted oj (yielded ops a.tmps) with
 | false =>
  rw [hw] at h
  simp only [Bool.false_eq_true, if_false] at h ⊢
  exact ⟨keep a _ hy, by rw [← Act.put_comm a v undef h2]; exact h⟩
 | true =>
  rw [hw] at h
  simp only [if_true] at h ⊢
  rcases h with h | ⟨hk, hl⟩
  ·left
   unfold Oper.wp at h ⊢
   rw [ex] at h
   cases hr : (execOp a.eval oj).run P w with
   | ok n w' =>
    rw [hr] at h
    cases n with
    | value u => exact ⟨keep a u hy, by rw [← Act.put_comm a v u h2]; exact h⟩
    | skip => exact ⟨keep a _ hy, by rw [← Act.put_comm a v undef h2]; exact h⟩
    | defer d =>
     refine ⟨keep _ _ (keepD a d hy), ?_⟩
     rw [← Act.put_comm _ v undef h2, ← Act.put_defers]
     exact h
    | enter f args =>
     refine Calls.mono h fun e w2 he => ?_
     cases e with
     | returned u => exact ⟨keep a u hy, by rw [← Act.put_comm a v u h2]; exact he⟩
     | panicked c => exact hQ _ _ _ he
     | outgrown => exact he
    | row row args => exact Rows.mono h fun u w2 he => ⟨keep a u hy, by rw [← Act.put_comm a v u h2]; exact he⟩
    | _ => exact h
   | halt x w' =>
    rw [hr] at h
    cases x with
    | panic u => exact hQ _ _ _ h
    | _ => exact h
  ·right
   unfold Oper.asks at hk ⊢
   rw [ex] at hk
   exact ⟨hk, hl⟩
theorem wpAnyM_first {i : Nat} {oi : Oper} {v : Value} (hr : ∀ w, G w w) (ht : ∀ a b c, G a b → G b c → G a c) (hSG : ∀ w w', S w → G w w' → S w')
    (hi : ops[i]? = some oi) (hs : Region.noSelect ops = true) (hQ : ∀ c a w, Q (.panic c) (a.put oi.dst v) w → Q (.panic c) a w) :
    ∀ (n : Nat) (listed : Array Bool) (a : Act) (w : World),
     (∀ j oj, ops[j]? = some oj → j ≠ i → listed.getD j true = false → (∀ e ∈ oj.after, Region.binds md e = true → e.on ≠ i) → oi.apart ops oj = true) →
     i ∈ Region.ready md ops listed → Nice P ops G S oi v a → S w →
     wpAnyM P md ops Q G S n (listed.setIfInBounds i true) (a.put oi.dst v) w → wpAnyM P md ops Q G S (n + 1) listed a w := by
 have now : ∀ (n : Nat) (listed : Array Bool) (a : Act) (w w' : World), Nice P ops G S oi v a → S w → G w w' →
     wpAnyM P md ops Q G S n (listed.setIfInBounds i true) (a.put oi.dst v) w →
     wpOp P ops Q i (fun a' w'' => S w'' ∧ wpAnyM P md ops Q G S n (listed.setIfInBounds i true) a' w'') a w' := by
  intro n listed a w w' hy hS hg H
  have hS' := hSG _ _ hS hg
  unfold wpOp
  rw [hi]
  dsimp only
  rcases hy with ⟨hw, hv⟩ | ⟨hw, rfl⟩
  ·rw [if_pos hw]
   exact .inl (wp_of_quietAt (hr w') (hv w' hS') fun w2 h2 => ⟨hSG _ _ hS' h2, H.grow ht (ht _ _ _ hg h2)⟩)
  ·rw [if_neg (by rw [hw]; exact Bool.false_ne_true)]
   exact ⟨hS', H.grow ht hg⟩
 intro n
 induction n with
 | zero =>
  intro listed a w hfree hrd hy hS H w' hg
  refine ⟨fun h => (by rw [h] at hrd; cases hrd), fun j hj => ?_⟩
  by_cases hji : j = i
  ·subst hji; exact now 0 listed a w w' hy hS hg H
  ·have := ready_mono hj hji
   rw [H.1] at this
   cases this
 | succ n ih =>
  intro listed a w hfree hrd hy hS H w' hg
  refine ⟨fun h => (by rw [h] at hrd; cases hrd), fun j hj => ?_⟩
  by_cases hji : j = i
  ·subst hji; exact now (n + 1) listed a w w' hy hS hg H
  ·obtain ⟨hjun, oj, hoj, hall⟩ := mem_ready.1 hj
   have hnot : ∀ e ∈ oj.after, Region.binds md e = true → e.on ≠ i := by
    intro e he hb heq
    have h1 := hall e he hb
    have h0 := (mem_ready.1 hrd).1
    rw [heq] at h1
    have hlt : i < listed.size := by
     rcases Nat.lt_or_ge i listed.size with h' | h'
     ·exact h'
     ·simp [Array.getElem?_eq_none h'] at h1
    simp [hlt] at h0 h1
    rw [h0] at h1
    cases h1
   obtain ⟨a1, a2, a3⟩ := Oper.apart_spec (hfree j oj hoj hji hjun hnot)
   have hsj := fun cs b => Region.noSelect_spec hs j oj cs b hoj
   have hsi := fun cs b => Region.noSelect_spec hs i oi cs b hi
   have h2 := wpOp_putN (N := Nice P ops G S oi v) hoj a1 a2 hsj hQ
    (fun a u hn => hn.put (execOp_put oi hsi a oj.dst u a3) (wanted_put oi a oj.dst u a3)) (fun a d hn => hn.put rfl rfl) hy ((H w' hg).2 j (ready_mono hj hji))
   refine wpOp_mono (fun a' w2 h3 => ⟨h3.2.1, ih (listed.setIfInBounds j true) a' w2 ?_ (ready_mono hrd (Ne.symm hji)) h3.1 h3.2.1 ?_⟩) h2
   ·intro k ok hk hki hun hno
    refine hfree k ok hk hki ?_ hno
    by_cases hjk : j = k
    ·subst hjk; exact hjun
    ·rw [getD_set_ne true hjk] at hun; exact hun
   ·rw [Array.setIfInBounds_comm _ _ hji]
    exact h3.2.2
def wpNice (P : Program) (ops : Array Oper) (G : World → World → Prop) (S : World → Prop) (T : Act → Prop) : List Oper → Act → Prop
 | [], a => T a
 | o :: rest, a => if Region.wanted o (yielded ops a.tmps) = true then ∃ v, (∀ w, S w → o.quietAt P a (G w) w v) ∧ wpNice P ops G S T rest (a.put o.dst v) else wpNice P ops G S T rest (a.put o.dst undef)
def lexPre (md : Region.Mode) (ops : Array Oper) : Nat → Nat → Array Bool → Bool
 | 0, _, _ => true
 | n + 1, k, listed => (Region.ready md ops listed).contains k && Region.free md ops listed k && lexPre md ops n (k + 1) (listed.setIfInBounds k true)
def lexEnd : Nat → Nat → Array Bool → Array Bool
 | 0, _, listed => listed
 | n + 1, k, listed => lexEnd n (k + 1) (listed.setIfInBounds k true)
theorem wpAnyM_done {n : Nat} {listed : Array Bool} {a : Act} {w : World} (hr : Region.ready md ops listed = []) (h : ∀ w', G w w' → Q .normal a w') : wpAnyM P md ops Q G S n listed a w := by
 cases n with
 | zero => exact ⟨hr, h⟩
 | succ n => exact fun w' hg => ⟨fun _ => h w' hg, by rw [hr]; simp⟩
def allM (P : Program) (md : Region.Mode) (ops : Array Oper) (Q : Exit → Act → World → Prop) (G : World → World → Prop) (S : World → Prop) (n : Nat) (listed : Array Bool) (a : Act) (w : World) (rs : List Nat) : Prop :=
 ∀ i ∈ rs, wpOp P ops Q i (fun a' w'' => S w'' ∧ wpAnyM P md ops Q G S n (listed.setIfInBounds i true) a' w'') a w
theorem allM.nil {n : Nat} {listed : Array Bool} {a : Act} {w : World} : allM P md ops Q G S n listed a w [] := fun _ h => by cases h
theorem allM.cons {n : Nat} {listed : Array Bool} {a : Act} {w : World} {i : Nat} {rs : List Nat} {o : Oper} (ho : ops[i]? = some o) (hw : Region.wanted o (yielded ops a.tmps) = true)
    (h : ∀ K' : Act → World → Prop, Shut (∀ a w, S w → wpAnyM P md ops Q G S n (listed.setIfInBounds i true) a w → K' a w) → Oper.wp P o a w K' Q)
    (hs : allM P md ops Q G S n listed a w rs) : allM P md ops Q G S n listed a w (i :: rs) := fun j hj => by
 rcases List.mem_cons.1 hj with rfl | hj
 ·exact wpOp_step ho (fun K' hK => by rw [if_pos hw]; exact h K' (fun a w hS hW => hK a w ⟨hS, hW⟩))
 ·exact hs j hj
theorem allM.head {l r : List Oper} {n : Nat} {listed : Array Bool} {a : Act} {w : World} {i : Nat} {rs : List Nat} {o : Oper} (ho : l.drop i = o :: r) (hw : Region.wanted o (yielded l.toArray a.tmps) = true)
    (h : ∀ K' : Act → World → Prop, Shut (∀ a w, S w → wpAnyM P md l.toArray Q G S n (listed.setIfInBounds i true) a w → K' a w) → Oper.wp P o a w K' Q)
    (hs : allM P md l.toArray Q G S n listed a w rs) : allM P md l.toArray Q G S n listed a w (i :: rs) :=
 allM.cons (by
  have : (l.drop i)[0]? = some o := by rw [ho]; rfl
  rw [List.getElem?_drop] at this
  simpa using this) hw h hs
theorem wpAnyM_all {n : Nat} {listed : Array Bool} {a : Act} {w : World} {rs : List Nat} (hr : Region.ready md ops listed = rs) (hne : rs ≠ [])
    (h : ∀ w', G w w' → allM P md ops Q G S n listed a w' rs) : wpAnyM P md ops Q G S (n + 1) listed a w := fun w' hg =>
 ⟨fun h0 => absurd (hr ▸ h0) hne, hr ▸ h w' hg⟩
section
variable {T : Act → Prop} {o : Oper} {rest : List Oper} {a : Act} {v : Value}
end
structure Setup (P : Program) (l : List Oper) (Q : Exit → Act → World → Prop) (G : World → World → Prop) (S : World → Prop) : Prop where
 r : ∀ w, G w w
 t : ∀ a b c, G a b → G b c → G a c
 sg : ∀ w w', S w → G w w' → S w'
 s : Region.noSelect l.toArray = true
 q : ∀ c a d v w, Q (.panic c) (Act.put a d v) w → Q (.panic c) a w
theorem wp_region_M {id : Nat} {a : Act} {w : World} {l : List Oper} (su : Setup P l Q G S) (hm : P.follows .mixedOrders = true)
    (h : wpAnyM P .any l.toArray Q G S l.length (Array.replicate l.length false) a w.drew) : (Code.region id l.toArray true).wp P Q a w := by
 refine wp_region_any hm (wpAnyM.any (G := G) (S := S) su.r _ _ _ _ ?_)
 have e : l.toArray.size = l.length := by simp
 rw [e]
 exact h
theorem wp_region_M_ {id : Nat} {a : Act} {w : World} {l : List Oper} (su : Setup P l Q G S) (hm : P.follows .mixedOrders = true)
    (h : Setup P l Q G S → wpAnyM P .any l.toArray Q G S l.length (Array.replicate l.length false) a w.drew) : (Code.region id l.toArray true).wp P Q a w := wp_region_M su hm (h su)
section
variable {l r : List Oper} {o : Oper} {i n : Nat} {listed : Array Bool} {a : Act} {w : World} {v : Value}
theorem M_take (su : Setup P l Q G S) (ho : l.drop i = o :: r) (hB : ((Region.ready md l.toArray listed).contains i && Region.free md l.toArray listed i) = true) (hS : S w) (hy : Nice P l.toArray G S o v a)
    (h : wpAnyM P md l.toArray Q G S n (listed.setIfInBounds i true) (a.put o.dst v) w) : wpAnyM P md l.toArray Q G S (n + 1) listed a w := by
 have hi : l.toArray[i]? = some o := by
  have : (l.drop i)[0]? = some o := by rw [ho]; rfl
  rw [List.getElem?_drop] at this
  simpa using this
 rw [Bool.and_eq_true] at hB
 exact wpAnyM_first su.r su.t su.sg hi su.s (fun c a w h => su.q c a _ _ w h) n listed a w (Region.free_spec hi hB.2) (by simpa using hB.1) hy hS h
theorem M_val (su : Setup P l Q G S) (ho : l.drop i = o :: r) (hB : ((Region.ready md l.toArray listed).contains i && Region.free md l.toArray listed i) = true) (hS : S w) (hw : Region.wanted o (yielded l.toArray a.tmps) = true)
    (hr : ∀ w, S w → (execOp a.eval o).run P w = .ok (.value v) w)
    (h : wpAnyM P md l.toArray Q G S n (listed.setIfInBounds i true) (a.put o.dst v) w) : wpAnyM P md l.toArray Q G S (n + 1) listed a w :=
 M_take su ho hB hS (.inl ⟨hw, fun w hS => by unfold Oper.quietAt; rw [hr w hS]; exact ⟨rfl, rfl⟩⟩) h
theorem M_move (x : Operand) (su : Setup P l Q G S) (ho : l.drop i = o :: r) (hx : o.op = .move x) (hB : ((Region.ready md l.toArray listed).contains i && Region.free md l.toArray listed i) = true) (hS : S w) (hw : Region.wanted o (yielded l.toArray a.tmps) = true)
    (h : wpAnyM P md l.toArray Q G S n (listed.setIfInBounds i true) (a.put o.dst (a.eval x)) w) : wpAnyM P md l.toArray Q G S (n + 1) listed a w :=
 M_val su ho hB hS hw (fun w _ => by rw [BigFrame.run_move x hx]) h
theorem M_skip (su : Setup P l Q G S) (ho : l.drop i = o :: r) (hB : ((Region.ready md l.toArray listed).contains i && Region.free md l.toArray listed i) = true) (hS : S w) (hw : Region.wanted o (yielded l.toArray a.tmps) = false)
    (h : wpAnyM P md l.toArray Q G S n (listed.setIfInBounds i true) (a.put o.dst undef) w) : wpAnyM P md l.toArray Q G S (n + 1) listed a w :=
 M_take su ho hB hS (.inr ⟨hw, rfl⟩) h
theorem M_call {f : FuncId} {args : Array Value} (su : Setup P l Q G S) (ho : l.drop i = o :: r) (hB : ((Region.ready md l.toArray listed).contains i && Region.free md l.toArray listed i) = true) (hS : S w) (hw : Region.wanted o (yielded l.toArray a.tmps) = true)
    (hc : ∀ w, S w → Calls P f args w fun e w' => e = .returned v ∧ G w w') (hr : ∀ w, (execOp a.eval o).run P w = .ok (.enter f args) w)
    (h : wpAnyM P md l.toArray Q G S n (listed.setIfInBounds i true) (a.put o.dst v) w) : wpAnyM P md l.toArray Q G S (n + 1) listed a w :=
 M_take su ho hB hS (.inl ⟨hw, fun w hS => by unfold Oper.quietAt; rw [hr w]; exact ⟨rfl, hc w hS⟩⟩) h
end
end
end Go.Proofs.YtfbmogccmlikaaaGreatDoor
namespace Go.Proofs.YtfbmogccmlikaaaGreatDoor
open Go.RowKit
set_option linter.unusedVariables false
set_option linter.unusedSimpArgs false
section
variable {P : Program} {ops : Array Oper} {Q : Exit → Act → World → Prop} {md : Region.Mode} {G : World → World → Prop} {S : World → Prop} {F : Nat → Bool}
def wpAnyF (P : Program) (md : Region.Mode) (ops : Array Oper) (Q : Exit → Act → World → Prop) (G : World → World → Prop) (S : World → Prop) (F : Nat → Bool) : Nat → Array Bool → Act → World → Prop
 | 0, listed, a, w => Region.ready md ops listed = [] ∧ ∀ w', G w w' → Q .normal a w'
 | n + 1, listed, a, w => ∀ w', G w w' → (Region.ready md ops listed = [] → Q .normal a w') ∧
     ∀ i ∈ Region.ready md ops listed, wpOp P ops Q i (fun a' w'' => (F i = true ∨ S w'') ∧ wpAnyF P md ops Q G S F n (listed.setIfInBounds i true) a' w'') a w'
theorem wpAnyF.any (hr : ∀ w, G w w) : ∀ (n : Nat) (listed : Array Bool) (a : Act) (w : World), wpAnyF P md ops Q G S F n listed a w → wpAny P md ops Q n listed a w
 | 0, _, _, w, h => ⟨h.1, h.2 w (hr w)⟩
 | n + 1, _, _, w, h => ⟨(h w (hr w)).1, fun i hi => wpOp_mono (fun a' w' h' => wpAnyF.any hr n _ a' w' h'.2) ((h w (hr w)).2 i hi)⟩
theorem wpAnyF.grow (ht : ∀ a b c, G a b → G b c → G a c) {n : Nat} {listed : Array Bool} {a : Act} {w w' : World} (hg : G w w') (h : wpAnyF P md ops Q G S F n listed a w) : wpAnyF P md ops Q G S F n listed a w' := by
 cases n with
 | zero => exact ⟨h.1, fun w2 h2 => h.2 w2 (ht _ _ _ hg h2)⟩
 | succ n => exact fun w2 h2 => h w2 (ht _ _ _ hg h2)
def waits (md : Region.Mode) (ops : Array Oper) (F : Nat → Bool) (i : Nat) : Bool := (List.range ops.size).all fun j => !F j || j == i || match ops[j]? with
 | some oj => oj.after.any fun e => Region.binds md e && e.on == i
 | none => true
theorem waits_spec {i j : Nat} {oj : Oper} (h : waits md ops F i = true) (hj : ops[j]? = some oj) (hF : F j = true) (hne : j ≠ i) : ∃ e ∈ oj.after, Region.binds md e = true ∧ e.on = i := by
 unfold waits at h
 rw [List.all_eq_true] at h
 have h1 := h j (by simpa using (Array.getElem?_eq_some_iff.1 hj).1)
 simp only [hF, hj, Bool.not_true, Bool.false_or, Bool.or_eq_true, beq_iff_eq, hne, false_or] at h1
 obtain ⟨k, hk, h2⟩ := Array.any_eq_true.1 h1
 exact ⟨oj.after[k], Array.getElem_mem hk, by simpa using h2⟩
theorem wpAnyF_first {i : Nat} {oi : Oper} {v : Value} (hr : ∀ w, G w w) (ht : ∀ a b c, G a b → G b c → G a c) (hSG : ∀ w w', S w → G w w' → S w')
    (hi : ops[i]? = some oi) (hs : Region.noSelect ops = true) (hQ : ∀ c a w, Q (.panic c) (a.put oi.dst v) w → Q (.panic c) a w) (hW : waits md ops F i = true) :
    ∀ (n : Nat) (listed : Array Bool) (a : Act) (w : World),
     (∀ j oj, ops[j]? = some oj → j ≠ i → listed.getD j true = false → (∀ e ∈ oj.after, Region.binds md e = true → e.on ≠ i) → oi.apart ops oj = true) →
     i ∈ Region.ready md ops listed → Nice P ops G S oi v a → S w →
     wpAnyF P md ops Q G S F n (listed.setIfInBounds i true) (a.put oi.dst v) w → wpAnyF P md ops Q G S F (n + 1) listed a w := by
 have now : ∀ (n : Nat) (listed : Array Bool) (a : Act) (w w' : World), Nice P ops G S oi v a → S w → G w w' →
     wpAnyF P md ops Q G S F n (listed.setIfInBounds i true) (a.put oi.dst v) w →
     wpOp P ops Q i (fun a' w'' => (F i = true ∨ S w'') ∧ wpAnyF P md ops Q G S F n (listed.setIfInBounds i true) a' w'') a w' := by
  intro n listed a w w' hy hS hg H
  have hS' := hSG _ _ hS hg
  unfold wpOp
  rw [hi]
  dsimp only
  rcases hy with ⟨hw, hv⟩ | ⟨hw, rfl⟩
  ·rw [if_pos hw]
   exact .inl (wp_of_quietAt (hr w') (hv w' hS') fun w2 h2 => ⟨.inr (hSG _ _ hS' h2), H.grow ht (ht _ _ _ hg h2)⟩)
  ·rw [if_neg (by rw [hw]; exact Bool.false_ne_true)]
   exact ⟨.inr hS', H.grow ht hg⟩
 intro n
 induction n with
 | zero =>
  intro listed a w hfree hrd hy hS H w' hg
  refine ⟨fun h => (by rw [h] at hrd; cases hrd), fun j hj => ?_⟩
  by_cases hji : j = i
  ·subst hji; exact now 0 listed a w w' hy hS hg H
  ·have := ready_mono hj hji
   rw [H.1] at this
   cases this
 | succ n ih =>
  intro listed a w hfree hrd hy hS H w' hg
  refine ⟨fun h => (by rw [h] at hrd; cases hrd), fun j hj => ?_⟩
  by_cases hji : j = i
  ·subst hji; exact now (n + 1) listed a w w' hy hS hg H
  ·obtain ⟨hjun, oj, hoj, hall⟩ := mem_ready.1 hj
   have hnot : ∀ e ∈ oj.after, Region.binds md e = true → e.on ≠ i := by
    intro e he hb heq
    have h1 := hall e he hb
    have h0 := (mem_ready.1 hrd).1
    rw [heq] at h1
    have hlt : i < listed.size := by
     rcases Nat.lt_or_ge i listed.size with h' | h'
     ·exact h'
     ·simp [Array.getElem?_eq_none h'] at h1
    simp [hlt] at h0 h1
    rw [h0] at h1
    cases h1
   obtain ⟨a1, a2, a3⟩ := Oper.apart_spec (hfree j oj hoj hji hjun hnot)
   have hsj := fun cs b => Region.noSelect_spec hs j oj cs b hoj
   have hsi := fun cs b => Region.noSelect_spec hs i oi cs b hi
   have h2 := wpOp_putN (N := Nice P ops G S oi v) hoj a1 a2 hsj hQ
    (fun a u hn => hn.put (execOp_put oi hsi a oj.dst u a3) (wanted_put oi a oj.dst u a3)) (fun a d hn => hn.put rfl rfl) hy ((H w' hg).2 j (ready_mono hj hji))
   have hnF : ¬ F j = true := fun hF => by
    obtain ⟨e, he, hb, heq⟩ := waits_spec hW hoj hF hji
    exact hnot e he hb heq
   refine wpOp_mono (fun a' w2 h3 => ⟨h3.2.1, ih (listed.setIfInBounds j true) a' w2 ?_ (ready_mono hrd (Ne.symm hji)) h3.1 (h3.2.1.resolve_left hnF) ?_⟩) h2
   ·intro k ok hk hki hun hno
    refine hfree k ok hk hki ?_ hno
    by_cases hjk : j = k
    ·subst hjk; exact hjun
    ·rw [getD_set_ne true hjk] at hun; exact hun
   ·rw [Array.setIfInBounds_comm _ _ hji]
    exact h3.2.2
theorem wpAnyF_done {n : Nat} {listed : Array Bool} {a : Act} {w : World} (hr : Region.ready md ops listed = []) (h : ∀ w', G w w' → Q .normal a w') : wpAnyF P md ops Q G S F n listed a w := by
 cases n with
 | zero => exact ⟨hr, h⟩
 | succ n => exact fun w' hg => ⟨fun _ => h w' hg, by rw [hr]; simp⟩
def allF (P : Program) (md : Region.Mode) (ops : Array Oper) (Q : Exit → Act → World → Prop) (G : World → World → Prop) (S : World → Prop) (F : Nat → Bool) (n : Nat) (listed : Array Bool) (a : Act) (w : World) (rs : List Nat) : Prop :=
 ∀ i ∈ rs, wpOp P ops Q i (fun a' w'' => (F i = true ∨ S w'') ∧ wpAnyF P md ops Q G S F n (listed.setIfInBounds i true) a' w'') a w
theorem allF.nil {n : Nat} {listed : Array Bool} {a : Act} {w : World} : allF P md ops Q G S F n listed a w [] := fun _ h => by cases h
theorem allF.cons {n : Nat} {listed : Array Bool} {a : Act} {w : World} {i : Nat} {rs : List Nat} {o : Oper} (ho : ops[i]? = some o) (hw : Region.wanted o (yielded ops a.tmps) = true)
    (h : ∀ K' : Act → World → Prop, Shut (∀ a w, (F i = true ∨ S w) → wpAnyF P md ops Q G S F n (listed.setIfInBounds i true) a w → K' a w) → Oper.wp P o a w K' Q)
    (hs : allF P md ops Q G S F n listed a w rs) : allF P md ops Q G S F n listed a w (i :: rs) := fun j hj => by
 rcases List.mem_cons.1 hj with rfl | hj
 ·exact wpOp_step ho (fun K' hK => by rw [if_pos hw]; exact h K' (fun a w hS hW => hK a w ⟨hS, hW⟩))
 ·exact hs j hj
theorem allF.head {l r : List Oper} {n : Nat} {listed : Array Bool} {a : Act} {w : World} {i : Nat} {rs : List Nat} {o : Oper} (ho : l.drop i = o :: r) (hw : Region.wanted o (yielded l.toArray a.tmps) = true)
    (h : ∀ K' : Act → World → Prop, Shut (∀ a w, (F i = true ∨ S w) → wpAnyF P md l.toArray Q G S F n (listed.setIfInBounds i true) a w → K' a w) → Oper.wp P o a w K' Q)
    (hs : allF P md l.toArray Q G S F n listed a w rs) : allF P md l.toArray Q G S F n listed a w (i :: rs) :=
 allF.cons (by
  have : (l.drop i)[0]? = some o := by rw [ho]; rfl
  rw [List.getElem?_drop] at this
  simpa using this) hw h hs
theorem wpAnyF_all {n : Nat} {listed : Array Bool} {a : Act} {w : World} {rs : List Nat} (hr : Region.ready md ops listed = rs) (hne : rs ≠ [])
    (h : ∀ w', G w w' → allF P md ops Q G S F n listed a w' rs) : wpAnyF P md ops Q G S F (n + 1) listed a w := fun w' hg =>
 ⟨fun h0 => absurd (hr ▸ h0) hne, hr ▸ h w' hg⟩
theorem wp_region_F {id : Nat} {a : Act} {w : World} {l : List Oper} (su : Setup P l Q G S) (hm : P.follows .mixedOrders = true)
    (h : wpAnyF P .any l.toArray Q G S F l.length (Array.replicate l.length false) a w.drew) : (Code.region id l.toArray true).wp P Q a w := by
 refine wp_region_any hm (wpAnyF.any (G := G) (S := S) (F := F) su.r _ _ _ _ ?_)
 have e : l.toArray.size = l.length := by simp
 rw [e]
 exact h
theorem wp_region_F_ {id : Nat} {a : Act} {w : World} {l : List Oper} (su : Setup P l Q G S) (hm : P.follows .mixedOrders = true)
    (h : Setup P l Q G S → wpAnyF P .any l.toArray Q G S F l.length (Array.replicate l.length false) a w.drew) : (Code.region id l.toArray true).wp P Q a w := wp_region_F su hm (h su)
section
variable {l r : List Oper} {o : Oper} {i n : Nat} {listed : Array Bool} {a : Act} {w : World} {v : Value}
theorem F_take (su : Setup P l Q G S) (ho : l.drop i = o :: r) (hB : ((Region.ready md l.toArray listed).contains i && Region.free md l.toArray listed i && waits md l.toArray F i) = true) (hS : S w) (hy : Nice P l.toArray G S o v a)
    (h : wpAnyF P md l.toArray Q G S F n (listed.setIfInBounds i true) (a.put o.dst v) w) : wpAnyF P md l.toArray Q G S F (n + 1) listed a w := by
 have hi : l.toArray[i]? = some o := by
  have : (l.drop i)[0]? = some o := by rw [ho]; rfl
  rw [List.getElem?_drop] at this
  simpa using this
 rw [Bool.and_eq_true, Bool.and_eq_true] at hB
 exact wpAnyF_first su.r su.t su.sg hi su.s (fun c a w h => su.q c a _ _ w h) hB.2 n listed a w (Region.free_spec hi hB.1.2) (by simpa using hB.1.1) hy hS h
theorem F_val (su : Setup P l Q G S) (ho : l.drop i = o :: r) (hB : ((Region.ready md l.toArray listed).contains i && Region.free md l.toArray listed i && waits md l.toArray F i) = true) (hS : S w) (hw : Region.wanted o (yielded l.toArray a.tmps) = true)
    (hr : ∀ w, S w → (execOp a.eval o).run P w = .ok (.value v) w)
    (h : wpAnyF P md l.toArray Q G S F n (listed.setIfInBounds i true) (a.put o.dst v) w) : wpAnyF P md l.toArray Q G S F (n + 1) listed a w :=
 F_take su ho hB hS (.inl ⟨hw, fun w hS => by unfold Oper.quietAt; rw [hr w hS]; exact ⟨rfl, rfl⟩⟩) h
theorem F_move (x : Operand) (su : Setup P l Q G S) (ho : l.drop i = o :: r) (hx : o.op = .move x) (hB : ((Region.ready md l.toArray listed).contains i && Region.free md l.toArray listed i && waits md l.toArray F i) = true) (hS : S w) (hw : Region.wanted o (yielded l.toArray a.tmps) = true)
    (h : wpAnyF P md l.toArray Q G S F n (listed.setIfInBounds i true) (a.put o.dst (a.eval x)) w) : wpAnyF P md l.toArray Q G S F (n + 1) listed a w :=
 F_val su ho hB hS hw (fun w _ => by rw [BigFrame.run_move x hx]) h
theorem F_call {f : FuncId} {args : Array Value} (su : Setup P l Q G S) (ho : l.drop i = o :: r) (hB : ((Region.ready md l.toArray listed).contains i && Region.free md l.toArray listed i && waits md l.toArray F i) = true) (hS : S w) (hw : Region.wanted o (yielded l.toArray a.tmps) = true)
    (hc : ∀ w, S w → Calls P f args w fun e w' => e = .returned v ∧ G w w') (hr : ∀ w, (execOp a.eval o).run P w = .ok (.enter f args) w)
    (h : wpAnyF P md l.toArray Q G S F n (listed.setIfInBounds i true) (a.put o.dst v) w) : wpAnyF P md l.toArray Q G S F (n + 1) listed a w :=
 F_take su ho hB hS (.inl ⟨hw, fun w hS => by unfold Oper.quietAt; rw [hr w]; exact ⟨rfl, hc w hS⟩⟩) h
end
end
end Go.Proofs.YtfbmogccmlikaaaGreatDoor
namespace Go.Proofs.YtfbmogccmlikaaaGreatDoor
open Go.RowKit
set_option linter.unusedVariables false
set_option linter.unusedSimpArgs false
section
variable {P : Program} {ops : Array Oper} {Q : Exit → Act → World → Prop} {md : Region.Mode} {G : World → World → Prop} {S : World → Prop} {K : Nat}
def wpAnyK (P : Program) (md : Region.Mode) (ops : Array Oper) (Q : Exit → Act → World → Prop) (G : World → World → Prop) (S : World → Prop) (K : Nat) : Nat → Array Bool → Act → World → Prop
 | 0, listed, a, w => Region.ready md ops listed = [] ∧ ∀ w', G w w' → Q .normal a w'
 | n + 1, listed, a, w => ∀ w', G w w' → (Region.ready md ops listed = [] → Q .normal a w') ∧
     ∀ i ∈ Region.ready md ops listed, wpOp P ops Q i (fun a' w'' => ((listed.setIfInBounds i true).getD K true = false → S w'') ∧ wpAnyK P md ops Q G S K n (listed.setIfInBounds i true) a' w'') a w'
theorem wpAnyK.any (hr : ∀ w, G w w) : ∀ (n : Nat) (listed : Array Bool) (a : Act) (w : World), wpAnyK P md ops Q G S K n listed a w → wpAny P md ops Q n listed a w
 | 0, _, _, w, h => ⟨h.1, h.2 w (hr w)⟩
 | n + 1, _, _, w, h => ⟨(h w (hr w)).1, fun i hi => wpOp_mono (fun a' w' h' => wpAnyK.any hr n _ a' w' h'.2) ((h w (hr w)).2 i hi)⟩
theorem wpAnyK.grow (ht : ∀ a b c, G a b → G b c → G a c) {n : Nat} {listed : Array Bool} {a : Act} {w w' : World} (hg : G w w') (h : wpAnyK P md ops Q G S K n listed a w) : wpAnyK P md ops Q G S K n listed a w' := by
 cases n with
 | zero => exact ⟨h.1, fun w2 h2 => h.2 w2 (ht _ _ _ hg h2)⟩
 | succ n => exact fun w2 h2 => h w2 (ht _ _ _ hg h2)
def waitsK (md : Region.Mode) (ops : Array Oper) (K i : Nat) : Bool := match ops[K]? with
 | some oj => oj.after.any fun e => Region.binds md e && e.on == i
 | none => false
theorem wpAnyK_load {i : Nat} {oi : Oper} {v : Value} (hr : ∀ w, G w w) (ht : ∀ a b c, G a b → G b c → G a c) (hSG : ∀ w w', S w → G w w' → S w') (hiK : i ≠ K)
    (hi : ops[i]? = some oi) (hs : Region.noSelect ops = true) (hQ : ∀ c a w, Q (.panic c) (a.put oi.dst v) w → Q (.panic c) a w) (hW : waitsK md ops K i = true) :
    ∀ (n : Nat) (listed : Array Bool) (a : Act) (w : World),
     (∀ j oj, ops[j]? = some oj → j ≠ i → listed.getD j true = false → (∀ e ∈ oj.after, Region.binds md e = true → e.on ≠ i) → oi.apart ops oj = true) →
     i ∈ Region.ready md ops listed → Nice P ops G S oi v a → listed.getD K true = false → S w →
     wpAnyK P md ops Q G S K n (listed.setIfInBounds i true) (a.put oi.dst v) w → wpAnyK P md ops Q G S K (n + 1) listed a w := by
 have now : ∀ (n : Nat) (listed : Array Bool) (a : Act) (w w' : World), Nice P ops G S oi v a → listed.getD K true = false → S w → G w w' →
     wpAnyK P md ops Q G S K n (listed.setIfInBounds i true) (a.put oi.dst v) w →
     wpOp P ops Q i (fun a' w'' => ((listed.setIfInBounds i true).getD K true = false → S w'') ∧ wpAnyK P md ops Q G S K n (listed.setIfInBounds i true) a' w'') a w' := by
  intro n listed a w w' hy hK hS hg H
  have hS' : listed.getD K true = false → S w' := fun hl => hSG _ _ hS hg
  unfold wpOp
  rw [hi]
  dsimp only
  rcases hy with ⟨hw, hv⟩ | ⟨hw, rfl⟩
  ·rw [if_pos hw]
   exact .inl (wp_of_quietAt (hr w') (hv w' (hS' hK)) fun w2 h2 => ⟨fun hl => hSG _ _ (hS' (by rwa [getD_set_ne true hiK] at hl)) h2, H.grow ht (ht _ _ _ hg h2)⟩)
  ·rw [if_neg (by rw [hw]; exact Bool.false_ne_true)]
   exact ⟨fun hl => hS' (by rwa [getD_set_ne true hiK] at hl), H.grow ht hg⟩
 intro n
 induction n with
 | zero =>
  intro listed a w hfree hrd hy hK hS H w' hg
  refine ⟨fun h => (by rw [h] at hrd; cases hrd), fun j hj => ?_⟩
  by_cases hji : j = i
  ·subst hji; exact now 0 listed a w w' hy hK hS hg H
  ·have := ready_mono hj hji
   rw [H.1] at this
   cases this
 | succ n ih =>
  intro listed a w hfree hrd hy hK hS H w' hg
  refine ⟨fun h => (by rw [h] at hrd; cases hrd), fun j hj => ?_⟩
  by_cases hji : j = i
  ·subst hji; exact now (n + 1) listed a w w' hy hK hS hg H
  ·obtain ⟨hjun, oj, hoj, hall⟩ := mem_ready.1 hj
   have hnot : ∀ e ∈ oj.after, Region.binds md e = true → e.on ≠ i := by
    intro e he hb heq
    have h1 := hall e he hb
    have h0 := (mem_ready.1 hrd).1
    rw [heq] at h1
    have hlt : i < listed.size := by
     rcases Nat.lt_or_ge i listed.size with h' | h'
     ·exact h'
     ·simp [Array.getElem?_eq_none h'] at h1
    simp [hlt] at h0 h1
    rw [h0] at h1
    cases h1
   obtain ⟨a1, a2, a3⟩ := Oper.apart_spec (hfree j oj hoj hji hjun hnot)
   have hsj := fun cs b => Region.noSelect_spec hs j oj cs b hoj
   have hsi := fun cs b => Region.noSelect_spec hs i oi cs b hi
   have h2 := wpOp_putN (N := Nice P ops G S oi v) hoj a1 a2 hsj hQ
    (fun a u hn => hn.put (execOp_put oi hsi a oj.dst u a3) (wanted_put oi a oj.dst u a3)) (fun a d hn => hn.put rfl rfl) hy ((H w' hg).2 j (ready_mono hj hji))
   have hjK : j ≠ K := by
    intro e
    subst e
    unfold waitsK at hW
    rw [hoj] at hW
    obtain ⟨k, hk, h2⟩ := Array.any_eq_true.1 hW
    simp at h2
    exact hnot oj.after[k] (Array.getElem_mem hk) h2.1 h2.2
   have hstep : ((listed.setIfInBounds i true).setIfInBounds j true).getD K true = (listed.setIfInBounds j true).getD K true := by
    rw [Array.setIfInBounds_comm _ _ (Ne.symm hji), getD_set_ne true hiK]
   refine wpOp_mono (fun a' w2 h3 => ?_) h2
   have hSj : (listed.setIfInBounds j true).getD K true = false → S w2 := fun hl => h3.2.1 (by rw [hstep]; exact hl)
   refine ⟨hSj, ih (listed.setIfInBounds j true) a' w2 ?_ (ready_mono hrd (Ne.symm hji)) h3.1 (by rw [getD_set_ne true hjK]; exact hK) (hSj (by rw [getD_set_ne true hjK]; exact hK)) ?_⟩
   ·intro k ok hk hki hun hno
    refine hfree k ok hk hki ?_ hno
    by_cases hjk : j = k
    ·subst hjk; exact hjun
    ·rw [getD_set_ne true hjk] at hun; exact hun
   ·rw [Array.setIfInBounds_comm _ _ hji]
    exact h3.2.2
theorem wpAnyK_pure {i : Nat} {oi : Oper} {v : Value} (hr : ∀ w, G w w) (ht : ∀ a b c, G a b → G b c → G a c) (hSG : ∀ w w', S w → G w w' → S w') (hiK : i ≠ K)
    (hi : ops[i]? = some oi) (hs : Region.noSelect ops = true) (hQ : ∀ c a w, Q (.panic c) (a.put oi.dst v) w → Q (.panic c) a w) :
    ∀ (n : Nat) (listed : Array Bool) (a : Act) (w : World),
     (∀ j oj, ops[j]? = some oj → j ≠ i → listed.getD j true = false → (∀ e ∈ oj.after, Region.binds md e = true → e.on ≠ i) → oi.apart ops oj = true) →
     i ∈ Region.ready md ops listed → Nice P ops G (fun _ => True) oi v a → (listed.getD K true = false → S w) →
     wpAnyK P md ops Q G S K n (listed.setIfInBounds i true) (a.put oi.dst v) w → wpAnyK P md ops Q G S K (n + 1) listed a w := by
 have now : ∀ (n : Nat) (listed : Array Bool) (a : Act) (w w' : World), Nice P ops G (fun _ => True) oi v a → (listed.getD K true = false → S w) → G w w' →
     wpAnyK P md ops Q G S K n (listed.setIfInBounds i true) (a.put oi.dst v) w →
     wpOp P ops Q i (fun a' w'' => ((listed.setIfInBounds i true).getD K true = false → S w'') ∧ wpAnyK P md ops Q G S K n (listed.setIfInBounds i true) a' w'') a w' := by
  intro n listed a w w' hy hS hg H
  have hS' : listed.getD K true = false → S w' := fun hl => hSG _ _ (hS hl) hg
  unfold wpOp
  rw [hi]
  dsimp only
  rcases hy with ⟨hw, hv⟩ | ⟨hw, rfl⟩
  ·rw [if_pos hw]
   exact .inl (wp_of_quietAt (hr w') (hv w' trivial) fun w2 h2 => ⟨fun hl => hSG _ _ (hS' (by rwa [getD_set_ne true hiK] at hl)) h2, H.grow ht (ht _ _ _ hg h2)⟩)
  ·rw [if_neg (by rw [hw]; exact Bool.false_ne_true)]
   exact ⟨fun hl => hS' (by rwa [getD_set_ne true hiK] at hl), H.grow ht hg⟩
 intro n
 induction n with
 | zero =>
  intro listed a w hfree hrd hy hS H w' hg
  refine ⟨fun h => (by rw [h] at hrd; cases hrd), fun j hj => ?_⟩
  by_cases hji : j = i
  ·subst hji; exact now 0 listed a w w' hy hS hg H
  ·have := ready_mono hj hji
   rw [H.1] at this
   cases this
 | succ n ih =>
  intro listed a w hfree hrd hy hS H w' hg
  refine ⟨fun h => (by rw [h] at hrd; cases hrd), fun j hj => ?_⟩
  by_cases hji : j = i
  ·subst hji; exact now (n + 1) listed a w w' hy hS hg H
  ·obtain ⟨hjun, oj, hoj, hall⟩ := mem_ready.1 hj
   have hnot : ∀ e ∈ oj.after, Region.binds md e = true → e.on ≠ i := by
    intro e he hb heq
    have h1 := hall e he hb
    have h0 := (mem_ready.1 hrd).1
    rw [heq] at h1
    have hlt : i < listed.size := by
     rcases Nat.lt_or_ge i listed.size with h' | h'
     ·exact h'
     ·simp [Array.getElem?_eq_none h'] at h1
    simp [hlt] at h0 h1
    rw [h0] at h1
    cases h1
   obtain ⟨a1, a2, a3⟩ := Oper.apart_spec (hfree j oj hoj hji hjun hnot)
   have hsj := fun cs b => Region.noSelect_spec hs j oj cs b hoj
   have hsi := fun cs b => Region.noSelect_spec hs i oi cs b hi
   have h2 := wpOp_putN (N := Nice P ops G (fun _ => True) oi v) hoj a1 a2 hsj hQ
    (fun a u hn => hn.put (execOp_put oi hsi a oj.dst u a3) (wanted_put oi a oj.dst u a3)) (fun a d hn => hn.put rfl rfl) hy ((H w' hg).2 j (ready_mono hj hji))
   have hstep : ((listed.setIfInBounds i true).setIfInBounds j true).getD K true = (listed.setIfInBounds j true).getD K true := by
    rw [Array.setIfInBounds_comm _ _ (Ne.symm hji), getD_set_ne true hiK]
   refine wpOp_mono (fun a' w2 h3 => ?_) h2
   have hSj : (listed.setIfInBounds j true).getD K true = false → S w2 := fun hl => h3.2.1 (by rw [hstep]; exact hl)
   refine ⟨hSj, ih (listed.setIfInBounds j true) a' w2 ?_ (ready_mono hrd (Ne.symm hji)) h3.1 hSj ?_⟩
   ·intro k ok hk hki hun hno
    refine hfree k ok hk hki ?_ hno
    by_cases hjk : j = k
    ·subst hjk; exact hjun
    ·rw [getD_set_ne true hjk] at hun; exact hun
   ·rw [Array.setIfInBounds_comm _ _ hji]
    exact h3.2.2
theorem wpAnyK_done {n : Nat} {listed : Array Bool} {a : Act} {w : World} (hr : Region.ready md ops listed = []) (h : ∀ w', G w w' → Q .normal a w') : wpAnyK P md ops Q G S K n listed a w := by
 cases n with
 | zero => exact ⟨hr, h⟩
 | succ n => exact fun w' hg => ⟨fun _ => h w' hg, by rw [hr]; simp⟩
theorem wpAnyK_one {l r : List Oper} {n i : Nat} {listed : Array Bool} {a : Act} {w : World} {o : Oper} (hr : Region.ready md l.toArray listed = [i]) (ho : l.drop i = o :: r) (hw : Region.wanted o (yielded l.toArray a.tmps) = true)
    (h : ∀ w', G w w' → ∀ K' : Act → World → Prop, Shut (∀ a w, ((listed.setIfInBounds i true).getD K true = false → S w) → wpAnyK P md l.toArray Q G S K n (listed.setIfInBounds i true) a w → K' a w) → Oper.wp P o a w' K' Q) :
    wpAnyK P md l.toArray Q G S K (n + 1) listed a w := by
 intro w' hg
 refine ⟨fun h0 => (by rw [hr] at h0; cases h0), fun j hj => ?_⟩
 rw [hr] at hj
 simp at hj
 subst hj
 have hoi : l.toArray[j]? = some o := by
  have : (l.drop j)[0]? = some o := by rw [ho]; rfl
  rw [List.getElem?_drop] at this
  simpa using this
 exact wpOp_step hoi (fun K' hK => by rw [if_pos hw]; exact h w' hg K' (fun a w hS hW => hK a w ⟨hS, hW⟩))
theorem wp_region_K_ {id : Nat} {a : Act} {w : World} {l : List Oper} (K : Nat) (su : Setup P l Q G S) (hm : P.follows .mixedOrders = true)
    (h : Setup P l Q G S → wpAnyK P .any l.toArray Q G S K l.length (Array.replicate l.length false) a w.drew) : (Code.region id l.toArray true).wp P Q a w := by
 refine wp_region_any hm (wpAnyK.any (G := G) (S := S) (K := K) su.r _ _ _ _ ?_)
 have e : l.toArray.size = l.length := by simp
 rw [e]
 exact h su
section
variable {l r : List Oper} {o : Oper} {i n : Nat} {listed : Array Bool} {a : Act} {w : World} {v : Value}
theorem lst {l r : List Oper} {o : Oper} {i : Nat} (ho : l.drop i = o :: r) : l.toArray[i]? = some o := by
 have : (l.drop i)[0]? = some o := by rw [ho]; rfl
 rw [List.getElem?_drop] at this
 simpa using this
theorem K_load (su : Setup P l Q G S) (ho : l.drop i = o :: r) (hB : ((Region.ready md l.toArray listed).contains i && Region.free md l.toArray listed i && waitsK md l.toArray K i && !(i == K) && !(listed.getD K true)) = true) (hS : S w) (hw : Region.wanted o (yielded l.toArray a.tmps) = true)
    (hr : ∀ w, S w → (execOp a.eval o).run P w = .ok (.value v) w)
    (h : wpAnyK P md l.toArray Q G S K n (listed.setIfInBounds i true) (a.put o.dst v) w) : wpAnyK P md l.toArray Q G S K (n + 1) listed a w := by
 simp only [Bool.and_eq_true, Bool.not_eq_true', beq_eq_false_iff_ne] at hB
 obtain ⟨⟨⟨⟨h1, h2⟩, h3⟩, h4⟩, h5⟩ := hB
 exact wpAnyK_load su.r su.t su.sg h4 (lst ho) su.s (fun c a w h => su.q c a _ _ w h) h3 n listed a w (Region.free_spec (lst ho) h2) (by simpa using h1) (.inl ⟨hw, fun w hS => by unfold Oper.quietAt; rw [hr w hS]; exact ⟨rfl, rfl⟩⟩) h5 hS h
theorem K_val (su : Setup P l Q G S) (ho : l.drop i = o :: r) (hB : ((Region.ready md l.toArray listed).contains i && Region.free md l.toArray listed i && !(i == K)) = true) (hS : listed.getD K true = false → S w) (hw : Region.wanted o (yielded l.toArray a.tmps) = true)
    (hr : ∀ w, (execOp a.eval o).run P w = .ok (.value v) w)
    (h : wpAnyK P md l.toArray Q G S K n (listed.setIfInBounds i true) (a.put o.dst v) w) : wpAnyK P md l.toArray Q G S K (n + 1) listed a w := by
 simp only [Bool.and_eq_true, Bool.not_eq_true', beq_eq_false_iff_ne] at hB
 obtain ⟨⟨h1, h2⟩, h4⟩ := hB
 exact wpAnyK_pure su.r su.t su.sg h4 (lst ho) su.s (fun c a w h => su.q c a _ _ w h) n listed a w (Region.free_spec (lst ho) h2) (by simpa using h1) (.inl ⟨hw, fun w _ => by unfold Oper.quietAt; rw [hr w]; exact ⟨rfl, rfl⟩⟩) hS h
theorem K_move (x : Operand) (su : Setup P l Q G S) (ho : l.drop i = o :: r) (hx : o.op = .move x) (hB : ((Region.ready md l.toArray listed).contains i && Region.free md l.toArray listed i && !(i == K)) = true) (hS : listed.getD K true = false → S w) (hw : Region.wanted o (yielded l.toArray a.tmps) = true)
    (h : wpAnyK P md l.toArray Q G S K n (listed.setIfInBounds i true) (a.put o.dst (a.eval x)) w) : wpAnyK P md l.toArray Q G S K (n + 1) listed a w :=
 K_val su ho hB hS hw (fun w => by rw [BigFrame.run_move x hx]) h
end
end
end Go.Proofs.YtfbmogccmlikaaaGreatDoor
namespace Go.Proofs.YtfbmogccmlikaaaGreatDoor
open Go.RowKit
set_option linter.unusedVariables false
set_option linter.unusedSimpArgs false
section
variable {P : Program} {ops : Array Oper} {Q : Exit → Act → World → Prop} {md : Region.Mode} {G : World → World → Prop} {S : World → Prop} {F : Nat → Bool}
def reachB (md : Region.Mode) (ops : Array Oper) (i : Nat) : Nat → Nat → Bool
 | 0, _ => false
 | n + 1, j => match ops[j]? with
  | some oj => oj.after.any fun e => Region.binds md e && (e.on == i || reachB md ops i n e.on)
  | none => false
def waitsT (md : Region.Mode) (ops : Array Oper) (F : Nat → Bool) (i : Nat) : Bool := (List.range ops.size).all fun j => !F j || j == i || reachB md ops i 12 j
def Closed (md : Region.Mode) (ops : Array Oper) (listed : Array Bool) : Prop := ∀ k ok, ops[k]? = some ok → listed.getD k false = true → ∀ e ∈ ok.after, Region.binds md e = true → listed.getD e.on false = true
def closedB (md : Region.Mode) (ops : Array Oper) (listed : Array Bool) : Bool := (List.range ops.size).all fun k => !(listed.getD k false) || match ops[k]? with
 | some o => o.after.all fun e => !Region.binds md e || listed.getD e.on false
 | none => true
theorem closedB_spec {listed : Array Bool} (h : closedB md ops listed = true) : Closed md ops listed := by
 intro k ok hk hl e he hb
 unfold closedB at h
 rw [List.all_eq_true] at h
 have h1 := h k (by simpa using (Array.getElem?_eq_some_iff.1 hk).1)
 rw [hl, hk] at h1
 simp only [Bool.not_true, Bool.false_or] at h1
 obtain ⟨m, hm, rfl⟩ := Array.getElem_of_mem he
 have h2 := Array.all_eq_true.1 h1 m hm
 rw [hb] at h2
 simpa using h2
theorem waitsT_spec {i j : Nat} {oj : Oper} (h : waitsT md ops F i = true) (hj : ops[j]? = some oj) (hF : F j = true) (hne : j ≠ i) : reachB md ops i 12 j = true := by
 unfold waitsT at h
 rw [List.all_eq_true] at h
 have h1 := h j (by simpa using (Array.getElem?_eq_some_iff.1 hj).1)
 rw [hF, show (j == i) = false from beq_eq_false_iff_ne.2 hne] at h1
 simpa using h1
theorem reach_listed {listed : Array Bool} {i : Nat} (hc : Closed md ops listed) : ∀ (n j : Nat) (oj : Oper), ops[j]? = some oj → (∀ e ∈ oj.after, Region.binds md e = true → listed.getD e.on false = true) → reachB md ops i n j = true → listed.getD i false = true
 | 0, _, _, _, _, h => by cases h
 | n + 1, j, oj, hj, hall, h => by
  unfold reachB at h
  rw [hj] at h
  obtain ⟨m, hm, h2⟩ := Array.any_eq_true.1 h
  rw [Bool.and_eq_true, Bool.or_eq_true] at h2
  have hl := hall oj.after[m] (Array.getElem_mem hm) h2.1
  rcases h2.2 with e | hr
  ·rw [← eq_of_beq e]; exact hl
  ·cases hk : ops[oj.after[m].on]? with
   | none =>
    cases n with
    | zero => cases hr
    | succ n => unfold reachB at hr; rw [hk] at hr; cases hr
   | some ok => exact reach_listed hc n _ ok hk (hc _ ok hk hl) hr
theorem getD_set_mono {listed : Array Bool} {j m : Nat} (h : listed.getD m false = true) : (listed.setIfInBounds j true).getD m false = true := by
 by_cases e : j = m
 ·subst e
  have hlt : j < listed.size := by
   rcases Nat.lt_or_ge j listed.size with h' | h'
   ·exact h'
   ·simp [Array.getElem?_eq_none h'] at h
  simp [hlt]
 ·simp [Array.getElem?_setIfInBounds, e] at h ⊢
  exact h
theorem Closed.set {listed : Array Bool} {j : Nat} {oj : Oper} (hc : Closed md ops listed) (hj : ops[j]? = some oj) (hall : ∀ e ∈ oj.after, Region.binds md e = true → listed.getD e.on false = true) : Closed md ops (listed.setIfInBounds j true) := by
 intro k ok hk hl e he hb
 by_cases hjk : j = k
 ·subst hjk
  rw [hj] at hk; injection hk with hk; subst hk
  exact getD_set_mono (hall e he hb)
 ·refine getD_set_mono (hc k ok hk ?_ e he hb)
  simp [Array.getElem?_setIfInBounds, hjk] at hl ⊢
  exact hl
theorem wpAnyT_first {i : Nat} {oi : Oper} {v : Value} (hr : ∀ w, G w w) (ht : ∀ a b c, G a b → G b c → G a c) (hSG : ∀ w w', S w → G w w' → S w')
    (hi : ops[i]? = some oi) (hs : Region.noSelect ops = true) (hQ : ∀ c a w, Q (.panic c) (a.put oi.dst v) w → Q (.panic c) a w) (hW : waitsT md ops F i = true) :
    ∀ (n : Nat) (listed : Array Bool) (a : Act) (w : World),
     (∀ j oj, ops[j]? = some oj → j ≠ i → listed.getD j true = false → (∀ e ∈ oj.after, Region.binds md e = true → e.on ≠ i) → oi.apart ops oj = true) →
     i ∈ Region.ready md ops listed → Closed md ops listed → Nice P ops G S oi v a → S w →
     wpAnyF P md ops Q G S F n (listed.setIfInBounds i true) (a.put oi.dst v) w → wpAnyF P md ops Q G S F (n + 1) listed a w := by
 have now : ∀ (n : Nat) (listed : Array Bool) (a : Act) (w w' : World), Nice P ops G S oi v a → S w → G w w' →
     wpAnyF P md ops Q G S F n (listed.setIfInBounds i true) (a.put oi.dst v) w →
     wpOp P ops Q i (fun a' w'' => (F i = true ∨ S w'') ∧ wpAnyF P md ops Q G S F n (listed.setIfInBounds i true) a' w'') a w' := by
  intro n listed a w w' hy hS hg H
  have hS' := hSG _ _ hS hg
  unfold wpOp
  rw [hi]
  dsimp only
  rcases hy with ⟨hw, hv⟩ | ⟨hw, rfl⟩
  ·rw [if_pos hw]
   exact .inl (wp_of_quietAt (hr w') (hv w' hS') fun w2 h2 => ⟨.inr (hSG _ _ hS' h2), H.grow ht (ht _ _ _ hg h2)⟩)
  ·rw [if_neg (by rw [hw]; exact Bool.false_ne_true)]
   exact ⟨.inr hS', H.grow ht hg⟩
 intro n
 induction n with
 | zero =>
  intro listed a w hfree hrd hcl hy hS H w' hg
  refine ⟨fun h => (by rw [h] at hrd; cases hrd), fun j hj => ?_⟩
  by_cases hji : j = i
  ·subst hji; exact now 0 listed a w w' hy hS hg H
  ·have := ready_mono hj hji
   rw [H.1] at this
   cases this
 | succ n ih =>
  intro listed a w hfree hrd hcl hy hS H w' hg
  refine ⟨fun h => (by rw [h] at hrd; cases hrd), fun j hj => ?_⟩
  by_cases hji : j = i
  ·subst hji; exact now (n + 1) listed a w w' hy hS hg H
  ·obtain ⟨hjun, oj, hoj, hall⟩ := mem_ready.1 hj
   have hnot : ∀ e ∈ oj.after, Region.binds md e = true → e.on ≠ i := by
    intro e he hb heq
    have h1 := hall e he hb
    have h0 := (mem_ready.1 hrd).1
    rw [heq] at h1
    have hlt : i < listed.size := by
     rcases Nat.lt_or_ge i listed.size with h' | h'
     ·exact h'
     ·simp [Array.getElem?_eq_none h'] at h1
    simp [hlt] at h0 h1
    rw [h0] at h1
    cases h1
   obtain ⟨a1, a2, a3⟩ := Oper.apart_spec (hfree j oj hoj hji hjun hnot)
   have hsj := fun cs b => Region.noSelect_spec hs j oj cs b hoj
   have hsi := fun cs b => Region.noSelect_spec hs i oi cs b hi
   have h2 := wpOp_putN (N := Nice P ops G S oi v) hoj a1 a2 hsj hQ
    (fun a u hn => hn.put (execOp_put oi hsi a oj.dst u a3) (wanted_put oi a oj.dst u a3)) (fun a d hn => hn.put rfl rfl) hy ((H w' hg).2 j (ready_mono hj hji))
   have hnF : ¬ F j = true := fun hF => by
    have h1 := reach_listed hcl 12 j oj hoj hall (waitsT_spec hW hoj hF hji)
    have h0 := (mem_ready.1 hrd).1
    have hlt : i < listed.size := by
     rcases Nat.lt_or_ge i listed.size with h' | h'
     ·exact h'
     ·simp [Array.getElem?_eq_none h'] at h1
    simp [hlt] at h0 h1
    rw [h0] at h1
    cases h1
   refine wpOp_mono (fun a' w2 h3 => ⟨h3.2.1, ih (listed.setIfInBounds j true) a' w2 ?_ (ready_mono hrd (Ne.symm hji)) (hcl.set hoj hall) h3.1 (h3.2.1.resolve_left hnF) ?_⟩) h2
   ·intro k ok hk hki hun hno
    refine hfree k ok hk hki ?_ hno
    by_cases hjk : j = k
    ·subst hjk; exact hjun
    ·rw [getD_set_ne true hjk] at hun; exact hun
   ·rw [Array.setIfInBounds_comm _ _ hji]
    exact h3.2.2
section
variable {l r : List Oper} {o : Oper} {i n : Nat} {listed : Array Bool} {a : Act} {w : World} {v : Value}
theorem T_take (su : Setup P l Q G S) (ho : l.drop i = o :: r) (hB : ((Region.ready md l.toArray listed).contains i && Region.free md l.toArray listed i && (waitsT md l.toArray F i && closedB md l.toArray listed)) = true) (hS : S w) (hy : Nice P l.toArray G S o v a)
    (h : wpAnyF P md l.toArray Q G S F n (listed.setIfInBounds i true) (a.put o.dst v) w) : wpAnyF P md l.toArray Q G S F (n + 1) listed a w := by
 have hi : l.toArray[i]? = some o := by
  have : (l.drop i)[0]? = some o := by rw [ho]; rfl
  rw [List.getElem?_drop] at this
  simpa using this
 rw [Bool.and_eq_true, Bool.and_eq_true, Bool.and_eq_true] at hB
 exact wpAnyT_first su.r su.t su.sg hi su.s (fun c a w h => su.q c a _ _ w h) hB.2.1 n listed a w (Region.free_spec hi hB.1.2) (by simpa using hB.1.1) (closedB_spec hB.2.2) hy hS h
theorem T_val (su : Setup P l Q G S) (ho : l.drop i = o :: r) (hB : ((Region.ready md l.toArray listed).contains i && Region.free md l.toArray listed i && (waitsT md l.toArray F i && closedB md l.toArray listed)) = true) (hS : S w) (hw : Region.wanted o (yielded l.toArray a.tmps) = true)
    (hr : ∀ w, S w → (execOp a.eval o).run P w = .ok (.value v) w)
    (h : wpAnyF P md l.toArray Q G S F n (listed.setIfInBounds i true) (a.put o.dst v) w) : wpAnyF P md l.toArray Q G S F (n + 1) listed a w :=
 T_take su ho hB hS (.inl ⟨hw, fun w hS => by unfold Oper.quietAt; rw [hr w hS]; exact ⟨rfl, rfl⟩⟩) h
theorem T_move (x : Operand) (su : Setup P l Q G S) (ho : l.drop i = o :: r) (hx : o.op = .move x) (hB : ((Region.ready md l.toArray listed).contains i && Region.free md l.toArray listed i && (waitsT md l.toArray F i && closedB md l.toArray listed)) = true) (hS : S w) (hw : Region.wanted o (yielded l.toArray a.tmps) = true)
    (h : wpAnyF P md l.toArray Q G S F n (listed.setIfInBounds i true) (a.put o.dst (a.eval x)) w) : wpAnyF P md l.toArray Q G S F (n + 1) listed a w :=
 T_val su ho hB hS hw (fun w _ => by rw [BigFrame.run_move x hx]) h
theorem T_call {f : FuncId} {args : Array Value} (su : Setup P l Q G S) (ho : l.drop i = o :: r) (hB : ((Region.ready md l.toArray listed).contains i && Region.free md l.toArray listed i && (waitsT md l.toArray F i && closedB md l.toArray listed)) = true) (hS : S w) (hw : Region.wanted o (yielded l.toArray a.tmps) = true)
    (hc : ∀ w, S w → Calls P f args w fun e w' => e = .returned v ∧ G w w') (hr : ∀ w, (execOp a.eval o).run P w = .ok (.enter f args) w)
    (h : wpAnyF P md l.toArray Q G S F n (listed.setIfInBounds i true) (a.put o.dst v) w) : wpAnyF P md l.toArray Q G S F (n + 1) listed a w :=
 T_take su ho hB hS (.inl ⟨hw, fun w hS => by unfold Oper.quietAt; rw [hr w]; exact ⟨rfl, hc w hS⟩⟩) h
end
theorem wp_call_ {o : Oper} {a : Act} {w : World} {K : Act → World → Prop} {f : FuncId} {args : Array Value} {R : Value → World → Prop} (hr : (execOp a.eval o).run P w = .ok (.enter f args) w) (hc : Calls P f args w fun e w' => ∃ v, e = .returned v ∧ R v w') (hK : ∀ v w', R v w' → K (a.put o.dst v) w') : o.wp P a w K Q := by
 unfold Oper.wp
 rw [hr, Oper.upon_enter]
 exact hc.mono fun e w' ⟨v, he, h⟩ => by subst he; exact hK v w' h
end
end Go.Proofs.YtfbmogccmlikaaaGreatDoor
