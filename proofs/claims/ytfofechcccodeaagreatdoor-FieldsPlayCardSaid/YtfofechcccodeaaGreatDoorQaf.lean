/-
  Small texts in one (DrawnF). No conditions.
-/
import Derived.Test.YtfofechcccodeaaGreatDoorQad
import Derived.RegionTactic
import Derived.WalkKit
import Derived.KernelRfl
import Derived.Deep.RegionHeld3
import Derived.BigQuiet
namespace Go.Proofs.YtfofechcccodeaaGreatDoor
open Go.RowKit
set_option linter.unusedVariables false
set_option linter.unusedSimpArgs false
section
variable {P:Program} {ops:Array Oper} {Q:Exit->Act->World->Prop} {md:Region.Mode} {G:World->World->Prop} {S:World->Prop} {F:Nat->Bool}
def wpAnyF (P:Program) (md:Region.Mode) (ops:Array Oper) (Q:Exit->Act->World->Prop) (G:World->World->Prop) (S:World->Prop) (F:Nat->Bool):Nat->Array Bool->Act->World->Prop
 | 0,listed,a,w=>Region.ready md ops listed=[]/\∀ w',G w w'->Q .normal a w'
 | n+1,listed,a,w=>∀ w',G w w'->(Region.ready md ops listed=[]->Q .normal a w') /\
     ∀ i ∈ Region.ready md ops listed,wpOp P ops Q i (fun a' w''=>(F i=true ∨ S w'')/\wpAnyF P md ops Q G S F n (listed.setIfInBounds i true) a' w'') a w'
theorem wpAnyF.any (hr:∀ w,G w w):∀ (n:Nat) (listed:Array Bool) (a:Act) (w:World),wpAnyF P md ops Q G S F n listed a w->wpAny P md ops Q n listed a w
 | 0,_,_,w,h=>⟨h.1,h.2 w (hr w)⟩
 | n+1,_,_,w,h=>⟨(h w (hr w)).1,fun i hi=>wpOp_mono (fun a' w' h'=>wpAnyF.any hr n _ a' w' h'.2) ((h w (hr w)).2 i hi)⟩
theorem wpAnyF.grow (ht:∀ a b c,G a b->G b c->G a c) {n:Nat} {listed:Array Bool} {a:Act} {w w':World} (hg:G w w') (h:wpAnyF P md ops Q G S F n listed a w):wpAnyF P md ops Q G S F n listed a w':=by
 cases n with
 | zero=>exact ⟨h.1,fun w2 h2=>h.2 w2 (ht _ _ _ hg h2)⟩
 | succ n=>exact fun w2 h2=>h w2 (ht _ _ _ hg h2)
def waits (md:Region.Mode) (ops:Array Oper) (F:Nat->Bool) (i:Nat):Bool:=(List.range ops.size).all fun j => !F j || j == i || match ops[j]? with
 | some oj=>oj.after.any fun e=>Region.binds md e && e.on == i
 | none=>true
theorem waits_spec {i j:Nat} {oj:Oper} (h:waits md ops F i=true) (hj:ops[j]?=some oj) (hF:F j=true) (hne:j ≠ i):∃ e ∈ oj.after,Region.binds md e=true/\e.on=i:=by
 unfold waits at h;rw [List.all_eq_true] at h;have h1:=h j (by simpa using (Array.getElem?_eq_some_iff.1 hj).1);simp only [hF,hj,Bool.not_true,Bool.false_or,Bool.or_eq_true,beq_iff_eq,hne,false_or] at h1;obtain ⟨k,hk,h2⟩:=Array.any_eq_true.1 h1;exact ⟨oj.after[k],Array.getElem_mem hk,by simpa using h2⟩
theorem wpAnyF_first {i:Nat} {oi:Oper} {v:Value} (hr:∀ w,G w w) (ht:∀ a b c,G a b->G b c->G a c) (hSG:∀ w w',S w->G w w'->S w')
    (hi:ops[i]?=some oi) (hs:Region.noSelect ops=true) (hQ:∀ c a w,Q (.panic c) (a.put oi.dst v) w->Q (.panic c) a w) (hW:waits md ops F i=true) :
    ∀ (n:Nat) (listed:Array Bool) (a:Act) (w:World),
     (∀ j oj,ops[j]?=some oj->j ≠ i->listed.getD j true=false->(∀ e ∈ oj.after,Region.binds md e=true->e.on ≠ i)->oi.apart ops oj=true) ->
     i ∈ Region.ready md ops listed->Nice P ops G S oi v a->S w ->
     wpAnyF P md ops Q G S F n (listed.setIfInBounds i true) (a.put oi.dst v) w->wpAnyF P md ops Q G S F (n+1) listed a w:=by
 have now:∀ (n:Nat) (listed:Array Bool) (a:Act) (w w':World),Nice P ops G S oi v a->S w->G w w' ->
     wpAnyF P md ops Q G S F n (listed.setIfInBounds i true) (a.put oi.dst v) w ->
     wpOp P ops Q i (fun a' w''=>(F i=true ∨ S w'')/\wpAnyF P md ops Q G S F n (listed.setIfInBounds i true) a' w'') a w':=by
  intro n listed a w w' hy hS hg H;have hS':=hSG _ _ hS hg;unfold wpOp;rw [hi];dsimp only;rcases hy with ⟨hw,hv⟩ | ⟨hw,rfl⟩
  ·rw [if_pos hw];exact .inl (wp_of_quietAt (hr w') (hv w' hS') fun w2 h2=>⟨.inr (hSG _ _ hS' h2),H.grow ht (ht _ _ _ hg h2)⟩)
  rw [if_neg (by rw [hw];exact Bool.false_ne_true)];exact ⟨.inr hS',H.grow ht hg⟩
 intro n
 induction n with
 | zero=>
  intro listed a w hfree hrd hy hS H w' hg;refine ⟨fun h=>(by rw [h] at hrd;cases hrd),fun j hj=>?_⟩;by_cases hji:j=i
  ·subst hji;exact now 0 listed a w w' hy hS hg H
  have:=ready_mono hj hji;rw [H.1] at this
  cases this
 | succ n ih=>
  intro listed a w hfree hrd hy hS H w' hg;refine ⟨fun h=>(by rw [h] at hrd;cases hrd),fun j hj=>?_⟩;by_cases hji:j=i
  ·subst hji;exact now (n+1) listed a w w' hy hS hg H
  obtain ⟨hjun,oj,hoj,hall⟩:=mem_ready.1 hj
  have hnot:∀ e ∈ oj.after,Region.binds md e=true->e.on ≠ i:=by
   intro e he hb heq;have h1:=hall e he hb;have h0:=(mem_ready.1 hrd).1;rw [heq] at h1
   have hlt:i < listed.size:=by
    rcases Nat.lt_or_ge i listed.size with h' | h'
    ·exact h'
    simp [Array.getElem?_eq_none h'] at h1
   simp [hlt] at h0 h1;rw [h0] at h1
   cases h1
  obtain ⟨a1,a2,a3⟩:=Oper.apart_spec (hfree j oj hoj hji hjun hnot);have hsj:=fun cs b=>Region.noSelect_spec hs j oj cs b hoj;have hsi:=fun cs b=>Region.noSelect_spec hs i oi cs b hi
  have h2:=wpOp_putN (N:=Nice P ops G S oi v) hoj a1 a2 hsj hQ
   (fun a u hn=>hn.put (execOp_put oi hsi a oj.dst u a3) (wanted_put oi a oj.dst u a3)) (fun a d hn=>hn.put rfl rfl) hy ((H w' hg).2 j (ready_mono hj hji))
  have hnF:¬ F j=true:=fun hF=>by
   obtain ⟨e,he,hb,heq⟩:=waits_spec hW hoj hF hji;exact hnot e he hb heq
  refine wpOp_mono (fun a' w2 h3=>⟨h3.2.1,ih (listed.setIfInBounds j true) a' w2 ?_ (ready_mono hrd (Ne.symm hji)) h3.1 (h3.2.1.resolve_left hnF) ?_⟩) h2
  ·intro k ok hk hki hun hno;refine hfree k ok hk hki ?_ hno;by_cases hjk:j=k
   ·subst hjk;exact hjun
   rw [getD_set_ne true hjk] at hun;exact hun
  rw [Array.setIfInBounds_comm _ _ hji];exact h3.2.2
theorem wpAnyF_done {n:Nat} {listed:Array Bool} {a:Act} {w:World} (hr:Region.ready md ops listed=[]) (h:∀ w',G w w'->Q .normal a w'):wpAnyF P md ops Q G S F n listed a w:=by
 cases n with
 | zero=>exact ⟨hr,h⟩
 | succ n=>exact fun w' hg=>⟨fun _=>h w' hg,by rw [hr];simp⟩
def allF (P:Program) (md:Region.Mode) (ops:Array Oper) (Q:Exit->Act->World->Prop) (G:World->World->Prop) (S:World->Prop) (F:Nat->Bool) (n:Nat) (listed:Array Bool) (a:Act) (w:World) (rs:List Nat):Prop:=
 ∀ i ∈ rs,wpOp P ops Q i (fun a' w''=>(F i=true ∨ S w'')/\wpAnyF P md ops Q G S F n (listed.setIfInBounds i true) a' w'') a w
theorem allF.nil {n:Nat} {listed:Array Bool} {a:Act} {w:World}:allF P md ops Q G S F n listed a w []:=fun _ h=>by cases h
theorem allF.cons {n:Nat} {listed:Array Bool} {a:Act} {w:World} {i:Nat} {rs:List Nat} {o:Oper} (ho:ops[i]?=some o) (hw:Region.wanted o (yielded ops a.tmps)=true)
    (h:∀ K':Act->World->Prop,Shut (∀ a w,(F i=true ∨ S w)->wpAnyF P md ops Q G S F n (listed.setIfInBounds i true) a w->K' a w)->Oper.wp P o a w K' Q)
    (hs:allF P md ops Q G S F n listed a w rs):allF P md ops Q G S F n listed a w (i :: rs):=fun j hj=>by
 rcases List.mem_cons.1 hj with rfl | hj
 ·exact wpOp_step ho (fun K' hK=>by rw [if_pos hw];exact h K' (fun a w hS hW=>hK a w ⟨hS,hW⟩))
 exact hs j hj
theorem allF.head {l r:List Oper} {n:Nat} {listed:Array Bool} {a:Act} {w:World} {i:Nat} {rs:List Nat} {o:Oper} (ho:l.drop i=o :: r) (hw:Region.wanted o (yielded l.toArray a.tmps)=true)
    (h:∀ K':Act->World->Prop,Shut (∀ a w,(F i=true ∨ S w)->wpAnyF P md l.toArray Q G S F n (listed.setIfInBounds i true) a w->K' a w)->Oper.wp P o a w K' Q)
    (hs:allF P md l.toArray Q G S F n listed a w rs):allF P md l.toArray Q G S F n listed a w (i :: rs):=
 allF.cons (by
  have:(l.drop i)[0]?=some o:=by rw [ho];rfl
  rw [List.getElem?_drop] at this
  simpa using this) hw h hs
theorem wpAnyF_all {n:Nat} {listed:Array Bool} {a:Act} {w:World} {rs:List Nat} (hr:Region.ready md ops listed=rs) (hne:rs ≠ [])
    (h:∀ w',G w w'->allF P md ops Q G S F n listed a w' rs):wpAnyF P md ops Q G S F (n+1) listed a w:=fun w' hg=>
 ⟨fun h0=>absurd (hr ▸ h0) hne,hr ▸ h w' hg⟩
theorem wp_region_F {id:Nat} {a:Act} {w:World} {l:List Oper} (su:Setup P l Q G S) (hm:P.follows .mixedOrders=true)
    (h:wpAnyF P .any l.toArray Q G S F l.length (Array.replicate l.length false) a w.drew):(Code.region id l.toArray true).wp P Q a w:=by
 refine wp_region_any hm (wpAnyF.any (G:=G) (S:=S) (F:=F) su.r _ _ _ _ ?_);have e:l.toArray.size=l.length:=by simp
 rw [e];exact h
theorem wp_region_F_ {id:Nat} {a:Act} {w:World} {l:List Oper} (su:Setup P l Q G S) (hm:P.follows .mixedOrders=true)
    (h:Setup P l Q G S->wpAnyF P .any l.toArray Q G S F l.length (Array.replicate l.length false) a w.drew):(Code.region id l.toArray true).wp P Q a w:=wp_region_F su hm (h su)
section
variable {l r:List Oper} {o:Oper} {i n:Nat} {listed:Array Bool} {a:Act} {w:World} {v:Value}
theorem F_take (su:Setup P l Q G S) (ho:l.drop i=o :: r) (hB:((Region.ready md l.toArray listed).contains i && Region.free md l.toArray listed i && waits md l.toArray F i)=true) (hS:S w) (hy:Nice P l.toArray G S o v a)
    (h:wpAnyF P md l.toArray Q G S F n (listed.setIfInBounds i true) (a.put o.dst v) w):wpAnyF P md l.toArray Q G S F (n+1) listed a w:=by
 have hi:l.toArray[i]?=some o:=by
  have:(l.drop i)[0]?=some o:=by rw [ho];rfl
  rw [List.getElem?_drop] at this
  simpa using this
 rw [Bool.and_eq_true,Bool.and_eq_true] at hB;exact wpAnyF_first su.r su.t su.sg hi su.s (fun c a w h=>su.q c a _ _ w h) hB.2 n listed a w (Region.free_spec hi hB.1.2) (by simpa using hB.1.1) hy hS h
theorem F_val (su:Setup P l Q G S) (ho:l.drop i=o :: r) (hB:((Region.ready md l.toArray listed).contains i && Region.free md l.toArray listed i && waits md l.toArray F i)=true) (hS:S w) (hw:Region.wanted o (yielded l.toArray a.tmps)=true)
    (hr:∀ w,S w->(execOp a.eval o).run P w = .ok (.value v) w)
    (h:wpAnyF P md l.toArray Q G S F n (listed.setIfInBounds i true) (a.put o.dst v) w):wpAnyF P md l.toArray Q G S F (n+1) listed a w:=
 F_take su ho hB hS (.inl ⟨hw,fun w hS=>by unfold Oper.quietAt;rw [hr w hS];exact ⟨rfl,rfl⟩⟩) h
theorem F_move (x:Operand) (su:Setup P l Q G S) (ho:l.drop i=o :: r) (hx:o.op = .move x) (hB:((Region.ready md l.toArray listed).contains i && Region.free md l.toArray listed i && waits md l.toArray F i)=true) (hS:S w) (hw:Region.wanted o (yielded l.toArray a.tmps)=true)
    (h:wpAnyF P md l.toArray Q G S F n (listed.setIfInBounds i true) (a.put o.dst (a.eval x)) w):wpAnyF P md l.toArray Q G S F (n+1) listed a w:=
 F_val su ho hB hS hw (fun w _=>by rw [BigFrame.run_move x hx]) h
theorem F_v (i:Nat) (v:Value) (su:Setup P l Q G S) (hS:S w) (hr:∀ w,S w → (execOp a.eval o).run P w = .ok (.value v) w) (h:wpAnyF P md l.toArray Q G S F n (listed.setIfInBounds i true) (a.put o.dst v) w) (ho:l.drop i=o :: r:=by rfl) (hB:((Region.ready md l.toArray listed).contains i && Region.free md l.toArray listed i && waits md l.toArray F i)=true:=by kernel_rfl) (hw:Region.wanted o (yielded l.toArray a.tmps)=true:=by rfl):wpAnyF P md l.toArray Q G S F (n+1) listed a w:=F_val su ho hB hS hw hr h
theorem F_m (i:Nat) {x:Operand} (su:Setup P l Q G S) (hS:S w) (h:wpAnyF P md l.toArray Q G S F n (listed.setIfInBounds i true) (a.put o.dst (a.eval x)) w) (ho:l.drop i=o :: r:=by rfl) (hx:o.op = .move x:=by rfl) (hB:((Region.ready md l.toArray listed).contains i && Region.free md l.toArray listed i && waits md l.toArray F i)=true:=by kernel_rfl) (hw:Region.wanted o (yielded l.toArray a.tmps)=true:=by rfl):wpAnyF P md l.toArray Q G S F (n+1) listed a w:=F_move x su ho hx hB hS hw h
theorem F_call {f:FuncId} {args:Array Value} (su:Setup P l Q G S) (ho:l.drop i=o :: r) (hB:((Region.ready md l.toArray listed).contains i && Region.free md l.toArray listed i && waits md l.toArray F i)=true) (hS:S w) (hw:Region.wanted o (yielded l.toArray a.tmps)=true)
    (hc:∀ w,S w->Calls P f args w fun e w'=>e = .returned v/\G w w') (hr:∀ w,(execOp a.eval o).run P w = .ok (.enter f args) w)
    (h:wpAnyF P md l.toArray Q G S F n (listed.setIfInBounds i true) (a.put o.dst v) w):wpAnyF P md l.toArray Q G S F (n+1) listed a w:=
 F_take su ho hB hS (.inl ⟨hw,fun w hS=>by unfold Oper.quietAt;rw [hr w];exact ⟨rfl,hc w hS⟩⟩) h
end
end
end Go.Proofs.YtfofechcccodeaaGreatDoor
