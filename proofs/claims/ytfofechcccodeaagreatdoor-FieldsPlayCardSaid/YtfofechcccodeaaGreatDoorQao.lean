/-
  Small texts in one (DrawnK). No conditions.
-/
import Derived.Test.YtfofechcccodeaaGreatDoorQad
import Derived.RegionTactic
import Derived.WalkKit
import Derived.KernelRfl
import Derived.Deep.RegionHeld3
import Derived.BigQuiet
namespace Go.Proofs.YtfofechcccodeaaGreatDoor
open Go.RowKit
set_option linter.unusedVariables false
set_option linter.unusedSimpArgs false
section
variable {P:Program} {ops:Array Oper} {Q:Exit->Act->World->Prop} {md:Region.Mode} {G:World->World->Prop} {S:World->Prop} {K:Nat}
def wpAnyK (P:Program) (md:Region.Mode) (ops:Array Oper) (Q:Exit->Act->World->Prop) (G:World->World->Prop) (S:World->Prop) (K:Nat):Nat->Array Bool->Act->World->Prop
 | 0,listed,a,w=>Region.ready md ops listed=[]/\∀ w',G w w'->Q .normal a w'
 | n+1,listed,a,w=>∀ w',G w w'->(Region.ready md ops listed=[]->Q .normal a w') /\
     ∀ i ∈ Region.ready md ops listed,wpOp P ops Q i (fun a' w''=>((listed.setIfInBounds i true).getD K true=false->S w'')/\wpAnyK P md ops Q G S K n (listed.setIfInBounds i true) a' w'') a w'
theorem wpAnyK.any (hr:∀ w,G w w):∀ (n:Nat) (listed:Array Bool) (a:Act) (w:World),wpAnyK P md ops Q G S K n listed a w->wpAny P md ops Q n listed a w
 | 0,_,_,w,h=>⟨h.1,h.2 w (hr w)⟩
 | n+1,_,_,w,h=>⟨(h w (hr w)).1,fun i hi=>wpOp_mono (fun a' w' h'=>wpAnyK.any hr n _ a' w' h'.2) ((h w (hr w)).2 i hi)⟩
theorem wpAnyK.grow (ht:∀ a b c,G a b->G b c->G a c) {n:Nat} {listed:Array Bool} {a:Act} {w w':World} (hg:G w w') (h:wpAnyK P md ops Q G S K n listed a w):wpAnyK P md ops Q G S K n listed a w':=by
 cases n with
 | zero=>exact ⟨h.1,fun w2 h2=>h.2 w2 (ht _ _ _ hg h2)⟩
 | succ n=>exact fun w2 h2=>h w2 (ht _ _ _ hg h2)
def waitsK (md:Region.Mode) (ops:Array Oper) (K i:Nat):Bool:=match ops[K]? with
 | some oj=>oj.after.any fun e=>Region.binds md e && e.on == i
 | none=>false
theorem wpAnyK_load {i:Nat} {oi:Oper} {v:Value} (hr:∀ w,G w w) (ht:∀ a b c,G a b->G b c->G a c) (hSG:∀ w w',S w->G w w'->S w') (hiK:i ≠ K)
    (hi:ops[i]?=some oi) (hs:Region.noSelect ops=true) (hQ:∀ c a w,Q (.panic c) (a.put oi.dst v) w->Q (.panic c) a w) (hW:waitsK md ops K i=true) :
    ∀ (n:Nat) (listed:Array Bool) (a:Act) (w:World),
     (∀ j oj,ops[j]?=some oj->j ≠ i->listed.getD j true=false->(∀ e ∈ oj.after,Region.binds md e=true->e.on ≠ i)->oi.apart ops oj=true) ->
     i ∈ Region.ready md ops listed->Nice P ops G S oi v a->listed.getD K true=false->S w ->
     wpAnyK P md ops Q G S K n (listed.setIfInBounds i true) (a.put oi.dst v) w->wpAnyK P md ops Q G S K (n+1) listed a w:=by
 have now:∀ (n:Nat) (listed:Array Bool) (a:Act) (w w':World),Nice P ops G S oi v a->listed.getD K true=false->S w->G w w' ->
     wpAnyK P md ops Q G S K n (listed.setIfInBounds i true) (a.put oi.dst v) w ->
     wpOp P ops Q i (fun a' w''=>((listed.setIfInBounds i true).getD K true=false->S w'')/\wpAnyK P md ops Q G S K n (listed.setIfInBounds i true) a' w'') a w':=by
  intro n listed a w w' hy hK hS hg H;have hS':listed.getD K true=false->S w':=fun hl=>hSG _ _ hS hg;unfold wpOp;rw [hi];dsimp only;rcases hy with ⟨hw,hv⟩ | ⟨hw,rfl⟩
  ·rw [if_pos hw];exact .inl (wp_of_quietAt (hr w') (hv w' (hS' hK)) fun w2 h2=>⟨fun hl=>hSG _ _ (hS' (by rwa [getD_set_ne true hiK] at hl)) h2,H.grow ht (ht _ _ _ hg h2)⟩)
  rw [if_neg (by rw [hw];exact Bool.false_ne_true)];exact ⟨fun hl=>hS' (by rwa [getD_set_ne true hiK] at hl),H.grow ht hg⟩
 intro n
 induction n with
 | zero=>
  intro listed a w hfree hrd hy hK hS H w' hg;refine ⟨fun h=>(by rw [h] at hrd;cases hrd),fun j hj=>?_⟩;by_cases hji:j=i
  ·subst hji;exact now 0 listed a w w' hy hK hS hg H
  have:=ready_mono hj hji;rw [H.1] at this
  cases this
 | succ n ih=>
  intro listed a w hfree hrd hy hK hS H w' hg;refine ⟨fun h=>(by rw [h] at hrd;cases hrd),fun j hj=>?_⟩;by_cases hji:j=i
  ·subst hji;exact now (n+1) listed a w w' hy hK hS hg H
  obtain ⟨hjun,oj,hoj,hall⟩:=mem_ready.1 hj
  have hnot:∀ e ∈ oj.after,Region.binds md e=true->e.on ≠ i:=by
   intro e he hb heq;have h1:=hall e he hb;have h0:=(mem_ready.1 hrd).1;rw [heq] at h1
   have hlt:i < listed.size:=by
    rcases Nat.lt_or_ge i listed.size with h' | h'
    ·exact h'
    simp [Array.getElem?_eq_none h'] at h1
   simp [hlt] at h0 h1;rw [h0] at h1
   cases h1
  obtain ⟨a1,a2,a3⟩:=Oper.apart_spec (hfree j oj hoj hji hjun hnot);have hsj:=fun cs b=>Region.noSelect_spec hs j oj cs b hoj;have hsi:=fun cs b=>Region.noSelect_spec hs i oi cs b hi
  have h2:=wpOp_putN (N:=Nice P ops G S oi v) hoj a1 a2 hsj hQ
   (fun a u hn=>hn.put (execOp_put oi hsi a oj.dst u a3) (wanted_put oi a oj.dst u a3)) (fun a d hn=>hn.put rfl rfl) hy ((H w' hg).2 j (ready_mono hj hji))
  have hjK:j ≠ K:=by
   intro e;subst e;unfold waitsK at hW;rw [hoj] at hW;obtain ⟨k,hk,h2⟩:=Array.any_eq_true.1 hW;simp at h2;exact hnot oj.after[k] (Array.getElem_mem hk) h2.1 h2.2
  have hstep:((listed.setIfInBounds i true).setIfInBounds j true).getD K true=(listed.setIfInBounds j true).getD K true:=by
   rw [Array.setIfInBounds_comm _ _ (Ne.symm hji),getD_set_ne true hiK]
  refine wpOp_mono (fun a' w2 h3=>?_) h2;have hSj:(listed.setIfInBounds j true).getD K true=false->S w2:=fun hl=>h3.2.1 (by rw [hstep];exact hl);refine ⟨hSj,ih (listed.setIfInBounds j true) a' w2 ?_ (ready_mono hrd (Ne.symm hji)) h3.1 (by rw [getD_set_ne true hjK];exact hK) (hSj (by rw [getD_set_ne true hjK];exact hK)) ?_⟩
  ·intro k ok hk hki hun hno;refine hfree k ok hk hki ?_ hno;by_cases hjk:j=k
   ·subst hjk;exact hjun
   rw [getD_set_ne true hjk] at hun;exact hun
  rw [Array.setIfInBounds_comm _ _ hji];exact h3.2.2
theorem wpAnyK_pure {i:Nat} {oi:Oper} {v:Value} (hr:∀ w,G w w) (ht:∀ a b c,G a b->G b c->G a c) (hSG:∀ w w',S w->G w w'->S w') (hiK:i ≠ K)
    (hi:ops[i]?=some oi) (hs:Region.noSelect ops=true) (hQ:∀ c a w,Q (.panic c) (a.put oi.dst v) w->Q (.panic c) a w) :
    ∀ (n:Nat) (listed:Array Bool) (a:Act) (w:World),
     (∀ j oj,ops[j]?=some oj->j ≠ i->listed.getD j true=false->(∀ e ∈ oj.after,Region.binds md e=true->e.on ≠ i)->oi.apart ops oj=true) ->
     i ∈ Region.ready md ops listed->Nice P ops G (fun _=>True) oi v a->(listed.getD K true=false->S w) ->
     wpAnyK P md ops Q G S K n (listed.setIfInBounds i true) (a.put oi.dst v) w->wpAnyK P md ops Q G S K (n+1) listed a w:=by
 have now:∀ (n:Nat) (listed:Array Bool) (a:Act) (w w':World),Nice P ops G (fun _=>True) oi v a->(listed.getD K true=false->S w)->G w w' ->
     wpAnyK P md ops Q G S K n (listed.setIfInBounds i true) (a.put oi.dst v) w ->
     wpOp P ops Q i (fun a' w''=>((listed.setIfInBounds i true).getD K true=false->S w'')/\wpAnyK P md ops Q G S K n (listed.setIfInBounds i true) a' w'') a w':=by
  intro n listed a w w' hy hS hg H;have hS':listed.getD K true=false->S w':=fun hl=>hSG _ _ (hS hl) hg;unfold wpOp;rw [hi];dsimp only;rcases hy with ⟨hw,hv⟩ | ⟨hw,rfl⟩
  ·rw [if_pos hw];exact .inl (wp_of_quietAt (hr w') (hv w' trivial) fun w2 h2=>⟨fun hl=>hSG _ _ (hS' (by rwa [getD_set_ne true hiK] at hl)) h2,H.grow ht (ht _ _ _ hg h2)⟩)
  rw [if_neg (by rw [hw];exact Bool.false_ne_true)];exact ⟨fun hl=>hS' (by rwa [getD_set_ne true hiK] at hl),H.grow ht hg⟩
 intro n
 induction n with
 | zero=>
  intro listed a w hfree hrd hy hS H w' hg;refine ⟨fun h=>(by rw [h] at hrd;cases hrd),fun j hj=>?_⟩;by_cases hji:j=i
  ·subst hji;exact now 0 listed a w w' hy hS hg H
  have:=ready_mono hj hji;rw [H.1] at this
  cases this
 | succ n ih=>
  intro listed a w hfree hrd hy hS H w' hg;refine ⟨fun h=>(by rw [h] at hrd;cases hrd),fun j hj=>?_⟩;by_cases hji:j=i
  ·subst hji;exact now (n+1) listed a w w' hy hS hg H
  obtain ⟨hjun,oj,hoj,hall⟩:=mem_ready.1 hj
  have hnot:∀ e ∈ oj.after,Region.binds md e=true->e.on ≠ i:=by
   intro e he hb heq;have h1:=hall e he hb;have h0:=(mem_ready.1 hrd).1;rw [heq] at h1
   have hlt:i < listed.size:=by
    rcases Nat.lt_or_ge i listed.size with h' | h'
    ·exact h'
    simp [Array.getElem?_eq_none h'] at h1
   simp [hlt] at h0 h1;rw [h0] at h1
   cases h1
  obtain ⟨a1,a2,a3⟩:=Oper.apart_spec (hfree j oj hoj hji hjun hnot);have hsj:=fun cs b=>Region.noSelect_spec hs j oj cs b hoj;have hsi:=fun cs b=>Region.noSelect_spec hs i oi cs b hi
  have h2:=wpOp_putN (N:=Nice P ops G (fun _=>True) oi v) hoj a1 a2 hsj hQ
   (fun a u hn=>hn.put (execOp_put oi hsi a oj.dst u a3) (wanted_put oi a oj.dst u a3)) (fun a d hn=>hn.put rfl rfl) hy ((H w' hg).2 j (ready_mono hj hji))
  have hstep:((listed.setIfInBounds i true).setIfInBounds j true).getD K true=(listed.setIfInBounds j true).getD K true:=by
   rw [Array.setIfInBounds_comm _ _ (Ne.symm hji),getD_set_ne true hiK]
  refine wpOp_mono (fun a' w2 h3=>?_) h2;have hSj:(listed.setIfInBounds j true).getD K true=false->S w2:=fun hl=>h3.2.1 (by rw [hstep];exact hl);refine ⟨hSj,ih (listed.setIfInBounds j true) a' w2 ?_ (ready_mono hrd (Ne.symm hji)) h3.1 hSj ?_⟩
  ·intro k ok hk hki hun hno;refine hfree k ok hk hki ?_ hno;by_cases hjk:j=k
   ·subst hjk;exact hjun
   rw [getD_set_ne true hjk] at hun;exact hun
  rw [Array.setIfInBounds_comm _ _ hji];exact h3.2.2
theorem wpAnyK_done {n:Nat} {listed:Array Bool} {a:Act} {w:World} (hr:Region.ready md ops listed=[]) (h:∀ w',G w w'->Q .normal a w'):wpAnyK P md ops Q G S K n listed a w:=by
 cases n with
 | zero=>exact ⟨hr,h⟩
 | succ n=>exact fun w' hg=>⟨fun _=>h w' hg,by rw [hr];simp⟩
theorem wpAnyK_one {l r:List Oper} {n i:Nat} {listed:Array Bool} {a:Act} {w:World} {o:Oper} (hr:Region.ready md l.toArray listed=[i]) (ho:l.drop i=o :: r) (hw:Region.wanted o (yielded l.toArray a.tmps)=true)
    (h:∀ w',G w w'->∀ K':Act->World->Prop,Shut (∀ a w,((listed.setIfInBounds i true).getD K true=false->S w)->wpAnyK P md l.toArray Q G S K n (listed.setIfInBounds i true) a w->K' a w)->Oper.wp P o a w' K' Q) :
    wpAnyK P md l.toArray Q G S K (n+1) listed a w:=by
 intro w' hg;refine ⟨fun h0=>(by rw [hr] at h0;cases h0),fun j hj=>?_⟩;rw [hr] at hj;simp at hj;subst hj
 have hoi:l.toArray[j]?=some o:=by
  have:(l.drop j)[0]?=some o:=by rw [ho];rfl
  rw [List.getElem?_drop] at this
  simpa using this
 exact wpOp_step hoi (fun K' hK=>by rw [if_pos hw];exact h w' hg K' (fun a w hS hW=>hK a w ⟨hS,hW⟩))
theorem wp_region_K_ {id:Nat} {a:Act} {w:World} {l:List Oper} (K:Nat) (su:Setup P l Q G S) (hm:P.follows .mixedOrders=true)
    (h:Setup P l Q G S->wpAnyK P .any l.toArray Q G S K l.length (Array.replicate l.length false) a w.drew):(Code.region id l.toArray true).wp P Q a w:=by
 refine wp_region_any hm (wpAnyK.any (G:=G) (S:=S) (K:=K) su.r _ _ _ _ ?_);have e:l.toArray.size=l.length:=by simp
 rw [e];exact h su
section
variable {l r:List Oper} {o:Oper} {i n:Nat} {listed:Array Bool} {a:Act} {w:World} {v:Value}
theorem lst {l r:List Oper} {o:Oper} {i:Nat} (ho:l.drop i=o :: r):l.toArray[i]?=some o:=by
 have:(l.drop i)[0]?=some o:=by rw [ho];rfl
 rw [List.getElem?_drop] at this
 simpa using this
theorem K_load (su:Setup P l Q G S) (ho:l.drop i=o :: r) (hB:((Region.ready md l.toArray listed).contains i && Region.free md l.toArray listed i && waitsK md l.toArray K i && !(i == K) && !(listed.getD K true))=true) (hS:S w) (hw:Region.wanted o (yielded l.toArray a.tmps)=true)
    (hr:∀ w,S w->(execOp a.eval o).run P w = .ok (.value v) w)
    (h:wpAnyK P md l.toArray Q G S K n (listed.setIfInBounds i true) (a.put o.dst v) w):wpAnyK P md l.toArray Q G S K (n+1) listed a w:=by
 simp only [Bool.and_eq_true,Bool.not_eq_true',beq_eq_false_iff_ne] at hB;obtain ⟨⟨⟨⟨h1,h2⟩,h3⟩,h4⟩,h5⟩:=hB;exact wpAnyK_load su.r su.t su.sg h4 (lst ho) su.s (fun c a w h=>su.q c a _ _ w h) h3 n listed a w (Region.free_spec (lst ho) h2) (by simpa using h1) (.inl ⟨hw,fun w hS=>by unfold Oper.quietAt;rw [hr w hS];exact ⟨rfl,rfl⟩⟩) h5 hS h
theorem K_val (su:Setup P l Q G S) (ho:l.drop i=o :: r) (hB:((Region.ready md l.toArray listed).contains i && Region.free md l.toArray listed i && !(i == K))=true) (hS:listed.getD K true=false->S w) (hw:Region.wanted o (yielded l.toArray a.tmps)=true)
    (hr:∀ w,(execOp a.eval o).run P w = .ok (.value v) w)
    (h:wpAnyK P md l.toArray Q G S K n (listed.setIfInBounds i true) (a.put o.dst v) w):wpAnyK P md l.toArray Q G S K (n+1) listed a w:=by
 simp only [Bool.and_eq_true,Bool.not_eq_true',beq_eq_false_iff_ne] at hB;obtain ⟨⟨h1,h2⟩,h4⟩:=hB;exact wpAnyK_pure su.r su.t su.sg h4 (lst ho) su.s (fun c a w h=>su.q c a _ _ w h) n listed a w (Region.free_spec (lst ho) h2) (by simpa using h1) (.inl ⟨hw,fun w _=>by unfold Oper.quietAt;rw [hr w];exact ⟨rfl,rfl⟩⟩) hS h
theorem K_move (x:Operand) (su:Setup P l Q G S) (ho:l.drop i=o :: r) (hx:o.op = .move x) (hB:((Region.ready md l.toArray listed).contains i && Region.free md l.toArray listed i && !(i == K))=true) (hS:listed.getD K true=false->S w) (hw:Region.wanted o (yielded l.toArray a.tmps)=true)
    (h:wpAnyK P md l.toArray Q G S K n (listed.setIfInBounds i true) (a.put o.dst (a.eval x)) w):wpAnyK P md l.toArray Q G S K (n+1) listed a w:=
 K_val su ho hB hS hw (fun w=>by rw [BigFrame.run_move x hx]) h
end
end
end Go.Proofs.YtfofechcccodeaaGreatDoor
