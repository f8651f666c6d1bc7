/-
  Small texts in one (MbL, MbN, Has). No conditions.
-/
import Derived.Test.YtfofechcccodeaaGreatDoorQac
import Derived.Test.YtfofechcccodeaaGreatDoorQab
namespace Go.Proofs.YtfofechcccodeaaGreatDoor
set_option linter.unusedVariables false
set_option linter.unusedSimpArgs false
inductive Wk (L:List Sp) (tx:List UInt8) (opn:Bool) (k a:Nat):Nat->Nat->Prop
 | refl:Wk L tx opn k a k a
 | eps {i j b:Nat}:Wk L tx opn k a i b->j ∈ metT (spAt L i) tx.length opn b->Wk L tx opn k a j b
 | byte {i b:Nat}:Wk L tx opn k a i b->(spAt L i).k=0->b < tx.length->(spAt L i).set4.mem (tx.getD b 0).toNat=true->Wk L tx opn k a (spAt L i).x.toNat (b+1)
def Mt (L:List Sp) (tx:List UInt8) (opn:Bool) (a e:Nat):Prop:=∃ k,Wk L tx opn 0 a k e/\(spAt L k).k=4
def note (L:List Sp) (n:Nat) (opn:Bool) (a k:Nat):Prop:=
 (spAt L k).k=0 ∨ ((spAt L k).k=2/\opn=true/\a=n) ∨ ((spAt L k).k=3/\n <= a/\opn=true)
def Sr.at_ (s:Sr) (k:Nat):Bool:=s.vis.getD k false
section
variable {L:List Sp} {tx:List UInt8} {opn:Bool}
theorem Wk.le {k a j b:Nat} (h:Wk L tx opn k a j b):a <= b:=by
 induction h with
 | refl=>exact Nat.le_refl _
 | eps _ _ ih=>exact ih
 | byte _ _ _ _ ih=>omega
theorem Wk.len {k a j b:Nat} (h:Wk L tx opn k a j b) (ha:a <= tx.length):b <= tx.length:=by
 induction h with
 | refl=>exact ha
 | eps _ _ ih=>exact ih
 | byte _ _ h _ _=>omega
theorem Wk.ok {k a j b:Nat} (h:Wk L tx opn k a j b) (hok:ProgOk L) (hk:k < L.length):j < L.length:=by
 induction h with
 | refl=>exact hk
 | eps _ h ih=>exact metT_ok hok ih _ _ _ _ h
 | byte _ h _ _ ih=>
  obtain ⟨-, ⟨x0,x1⟩,-⟩:=hok.at_ ih;omega
theorem Wk.trans {k a i b j c:Nat} (h:Wk L tx opn k a i b) (h2:Wk L tx opn i b j c):Wk L tx opn k a j c:=by
 induction h2 with
 | refl=>exact h
 | eps _ h ih=>exact .eps ih h
 | byte _ h1 h2 h3 ih=>exact .byte ih h1 h2 h3
theorem Wk.here {k a j:Nat} {V:Nat->Prop} (h:Wk L tx opn k a j a) (hk:V k) (hV:∀ i,V i->∀ j ∈ metT (spAt L i) tx.length opn a,V j):V j:=by
 have key:∀ j b,Wk L tx opn k a j b->b=a->V j:=by
  intro j b h
  induction h with
  | refl=>intro _;exact hk
  | eps h1 h2 ih=>intro e;subst e;exact hV _ (ih rfl) _ h2
  | byte h1 _ _ _ ih=>intro e;have:=h1.le;omega
 exact key j a h rfl
theorem Wk.last {k a j b:Nat} (h:Wk L tx opn k a j b) (hab:a < b) :
    ∃ i,Wk L tx opn k a i (b - 1)/\(spAt L i).k=0/\b - 1 < tx.length/\(spAt L i).set4.mem (tx.getD (b - 1) 0).toNat=true/\Wk L tx opn (spAt L i).x.toNat b j b:=by
 induction h with
 | refl=>omega
 | eps h1 h ih=>
  obtain ⟨i,h2,h3,h4,h5,h6⟩:=ih hab;exact ⟨i,h2,h3,h4,h5,.eps h6 h⟩
 | byte h1 h2 h3 h4 ih=>exact ⟨_,h1,h2,h3,h4,.refl⟩
theorem Wk.mid {k a j b c:Nat} (h:Wk L tx opn k a j b) (hc:a <= c) (hcb:c < b):∃ i,Wk L tx opn k a i c/\(spAt L i).k=0:=by
 induction h with
 | refl=>omega
 | eps h1 h ih=>exact ih hcb
 | @byte i b h1 h2 h3 h4 ih=>
  by_cases e:c=b
  ·subst e;exact ⟨_,h1,h2⟩
  exact ih (by omega)
/-! The loop of stand. -/
structure StI (L:List Sp) (n:Nat) (opn:Bool) (st a:Nat) (P:Nat->Prop) (k0:Nat) (s0:Sr) (todo:List Nat) (s:Sr):Prop where
 len:s.vis.length=L.length
 td:∀ k ∈ todo,k < L.length/\P k
 up:∀ k,s0.at_ k=true->s.at_ k=true
 cl:∀ k,s.at_ k=true->∀ j ∈ metT (spAt L k) n opn a,s.at_ j=true ∨ j ∈ todo
 rt:s.at_ k0=true ∨ k0 ∈ todo
 nx:∃ new,s.next=s0.next ++ new/\∀ t ∈ new,t.2=st/\t.1 < L.length/\P t.1/\note L n opn a t.1
 nt:∀ k,s.at_ k=true->s0.at_ k=true ∨ (note L n opn a k->(k,st) ∈ s.next)
 n4:∀ k,s.at_ k=true->s0.at_ k=true ∨ ((spAt L k).k=4->∃ q,s.fd=some q/\(q.1 < st ∨ q=(st,a)))
 fd:s.fd=s0.fd ∨ (s.fd=some (st,a)/\(∃ k,P k/\(spAt L k).k=4)/\∀ q,s0.fd=some q->st <= q.1)
theorem at_see {s:Sr} {k j:Nat} (hk:k < s.vis.length):(s.see k).at_ j=true ↔ s.at_ j=true ∨ j=k:=by
 unfold Sr.at_ Sr.see;simp only [List.getD_eq_getElem?_getD,List.getElem?_set];by_cases e:k=j
 ·subst e;simp [hk]
 simp only [e,if_false];constructor
 ·intro h;exact .inl h
 rintro (h | h)
 ·exact h
 exact absurd h.symm e
theorem metS_at (x:Sp) (n:Nat) (opn:Bool) (st a k:Nat) (s:Sr) (j:Nat):(metS x n opn st a k s).at_ j=s.at_ j:=by unfold Sr.at_;rw [metS_vis]
theorem hit_next (s:Sr) (st a:Nat):(s.hit st a).next=s.next:=by unfold Sr.hit; (repeat' split) <;> rfl
theorem hit_fd (s:Sr) (st a:Nat):((s.hit st a).fd=s.fd/\∃ q,s.fd=some q/\q.1 < st) ∨ ((s.hit st a).fd=some (st,a)/\∀ q,s.fd=some q->st <= q.1):=by
 unfold Sr.hit
 cases h:s.fd with
 | none=>right;exact ⟨rfl,fun q hq=>by cases hq⟩
 | some q=>
  simp only;by_cases hq:st <= q.1
  ·rw [if_pos hq];right;exact ⟨rfl,fun q' hq'=>by cases hq';exact hq⟩
  rw [if_neg hq];left;exact ⟨h,q,rfl,by omega⟩
theorem metS_next (L:List Sp) (n:Nat) (opn:Bool) (st a k:Nat) (s:Sr) (ha:a <= n) :
    (note L n opn a k/\(metS (spAt L k) n opn st a k s).next=s.next ++ [(k,st)]) ∨ (¬ note L n opn a k/\(metS (spAt L k) n opn st a k s).next=s.next):=by
 unfold note metS;by_cases h1:(spAt L k).k=1
 ·simp [h1]
 by_cases h2:(spAt L k).k=2
 ·by_cases h:opn=true/\a=n
  ·simp [h2,h.1,h.2,Sr.put]
  simp [h2,h]
 by_cases h3:(spAt L k).k=3
 ·by_cases h:a < n
  ·have h':¬ n <= a:=by omega
   simp [h3,h,h']
  have h':n <= a:=by omega
  cases opn <;> simp [h3,h,h',Sr.put]
 by_cases h0:(spAt L k).k=0
 ·simp [h0,Sr.put]
 by_cases h4:(spAt L k).k=4
 ·simp [h4,hit_next]
 simp [h0,h1,h2,h3,h4]
theorem metS_fd (L:List Sp) (n:Nat) (opn:Bool) (st a k:Nat) (s:Sr) :
    ((spAt L k).k ≠ 4/\(metS (spAt L k) n opn st a k s).fd=s.fd) ∨ ((spAt L k).k=4/\(metS (spAt L k) n opn st a k s).fd=(s.hit st a).fd):=by
 unfold metS;by_cases h4:(spAt L k).k=4
 ·right;simp [h4]
 left
 refine ⟨h4,?_⟩
 (repeat' split) <;> first | rfl | (exact absurd ‹_› h4)
theorem stand_step {n st a:Nat} {P:Nat->Prop} {k0 k:Nat} {s0 s:Sr} {r:List Nat} (hok:ProgOk L) (hP:∀ k,P k->∀ j ∈ metT (spAt L k) n opn a,P j) (ha:a <= n)
    (h:StI L n opn st a P k0 s0 (k :: r) s) (hv:s.at_ k=false):StI L n opn st a P k0 s0 (metT (spAt L k) n opn a ++ r) (metS (spAt L k) n opn st a k (s.see k)):=by
 obtain ⟨hkl,hkP⟩:=h.td k (by simp);have hvl:k < s.vis.length:=by rw [h.len];exact hkl
 have hs0:s0.at_ k=true->False:=fun e=>by have:=h.up k e;rw [hv] at this;cases this
 have e1:∀ j,(metS (spAt L k) n opn st a k (s.see k)).at_ j=true ↔ s.at_ j=true ∨ j=k:=fun j=>by rw [metS_at,at_see hvl]
 have hfdS:(s.see k).fd=s.fd:=rfl;have hnxS:(s.see k).next=s.next:=rfl;have hnx:=metS_next L n opn st a k (s.see k) ha;have hfd:=metS_fd L n opn st a k (s.see k);rw [hnxS] at hnx;rw [hfdS] at hfd
 have hq:(metS (spAt L k) n opn st a k (s.see k)).fd=s.fd ∨ ((metS (spAt L k) n opn st a k (s.see k)).fd=some (st,a)/\(spAt L k).k=4/\∀ q,s.fd=some q->st <= q.1):=by
  rcases hfd with ⟨-, e⟩ | ⟨e4,e⟩
  ·exact .inl e
  rcases hit_fd (s.see k) st a with ⟨e2,-⟩ | ⟨e2,e3⟩
  ·exact .inl (by rw [e,e2];rfl)
  exact .inr ⟨by rw [e,e2],e4,e3⟩
 have hmem:∀ t ∈ s.next,t ∈ (metS (spAt L k) n opn st a k (s.see k)).next:=by
  intro t ht;rcases hnx with ⟨-, e⟩ | ⟨-, e⟩ <;> rw [e]
  ·exact List.mem_append_left _ ht
  exact ht
 refine ⟨?_,?_,?_,?_,?_,?_,?_,?_,?_⟩
 ·rw [metS_vis];show (s.vis.set k true).length=_;rw [List.length_set];exact h.len
 ·intro j hj;rcases List.mem_append.1 hj with hj | hj
  ·exact ⟨metT_ok hok hkl n opn a j hj,hP k hkP j hj⟩
  exact h.td j (by simp [hj])
 ·intro j hj;exact (e1 j).2 (.inl (h.up j hj))
 ·intro j hj i hi;rcases (e1 j).1 hj with hj | rfl
  ·rcases h.cl j hj i hi with h1 | h1
   ·exact .inl ((e1 i).2 (.inl h1))
   rcases List.mem_cons.1 h1 with rfl | h1
   ·exact .inl ((e1 i).2 (.inr rfl))
   exact .inr (List.mem_append_right _ h1)
  exact .inr (List.mem_append_left _ hi)
 ·rcases h.rt with h1 | h1
  ·exact .inl ((e1 _).2 (.inl h1))
  rcases List.mem_cons.1 h1 with h1 | h1
  ·exact .inl ((e1 _).2 (.inr h1))
  exact .inr (List.mem_append_right _ h1)
 ·obtain ⟨new,e,hn⟩:=h.nx;rcases hnx with ⟨e2,e3⟩ | ⟨e2,e3⟩
  ·refine ⟨new ++ [(k,st)],by rw [e3,e,List.append_assoc],fun t ht=>?_⟩;rcases List.mem_append.1 ht with ht | ht
   ·exact hn t ht
   simp at ht;subst ht;exact ⟨rfl,hkl,hkP,e2⟩
  exact ⟨new,by rw [e3,e],hn⟩
 ·intro j hj;rcases (e1 j).1 hj with hj | rfl
  ·rcases h.nt j hj with h1 | h1
   ·exact .inl h1
   exact .inr fun hn=>hmem _ (h1 hn)
  refine .inr fun hn=>?_;rcases hnx with ⟨-, e3⟩ | ⟨e2,-⟩
  ·rw [e3];simp
  exact absurd hn e2
 ·intro j hj;rcases (e1 j).1 hj with hj | rfl
  ·rcases h.n4 j hj with h1 | h1
   ·exact .inl h1
   refine .inr fun e4=>?_;obtain ⟨q,hq1,hq2⟩:=h1 e4;rcases hq with e | ⟨e,-, e3⟩
   ·exact ⟨q,by rw [e];exact hq1,hq2⟩
   exact ⟨_,e,.inr rfl⟩
  refine .inr fun e4=>?_;rcases hfd with ⟨e,-⟩ | ⟨-, e⟩
  ·exact absurd e4 e
  rcases hit_fd (s.see j) st a with ⟨e2,q,hq1,hq2⟩ | ⟨e2,-⟩
  ·exact ⟨q,by rw [e,e2];exact hq1,.inl hq2⟩
  exact ⟨_,by rw [e,e2],.inr rfl⟩
 rcases hq with e | ⟨e,e4,e3⟩
 ·rw [e];exact h.fd
 refine .inr ⟨e,⟨k,hkP,e4⟩,fun q hq0=>?_⟩;rcases h.fd with e5 | ⟨e5,-, e6⟩
 ·exact e3 q (by rw [e5];exact hq0)
 exact e6 q hq0
theorem stand_loop {n st a:Nat} {P:Nat->Prop} {k0:Nat} {s0:Sr} (hok:ProgOk L) (hP:∀ k,P k->∀ j ∈ metT (spAt L k) n opn a,P j) (ha:a <= n):∀ (f:Nat) (td:List Nat) (s:Sr),
    td.length+2 * unseen s.vis < f->StI L n opn st a P k0 s0 td s->StI L n opn st a P k0 s0 [] (standF L n opn st a f td s)
 | 0,td,s,hf,h=>by omega
 | f+1,[],s,hf,h=>by rw [standF];exact h
 | f+1,k :: r,s,hf,h=>by
  obtain ⟨hkl,hkP⟩:=h.td k (by simp);rw [standF];by_cases hv:s.vis.getD k false=true
  ·rw [if_pos hv];refine stand_loop hok hP ha f r s (by simp at hf;omega) { h with td:=fun j hj=>h.td j (by simp [hj]),cl:=fun j hj i hi=>?_,rt:=?_ }
   ·rcases h.cl j hj i hi with h1 | h1
    ·exact .inl h1
    rcases List.mem_cons.1 h1 with rfl | h1
    ·exact .inl hv
    exact .inr h1
   rcases h.rt with h1 | h1
   ·exact .inl h1
   rcases List.mem_cons.1 h1 with h1 | h1
   ·exact .inl (by rw [h1];exact hv)
   exact .inr h1
  rw [if_neg hv];have hv':s.vis.getD k false=false:=by simpa using hv
  refine stand_loop hok hP ha f _ _ ?_ (stand_step hok hP ha h hv');have h1:=unseen_set (v:=s.vis) (k:=k) (by rw [h.len];exact hkl) hv';have h2:=metT_len (spAt L k) n opn a;have h3:(metS (spAt L k) n opn st a k (s.see k)).vis=s.vis.set k true:=by rw [metS_vis];rfl
  rw [h3,List.length_append];simp at hf;omega
theorem unseen_le (v:List Bool):unseen v <= v.length:=List.length_filter_le _ _
theorem standS_I {n st a:Nat} {P:Nat->Prop} {k0:Nat} {s:Sr} (hok:ProgOk L) (hP:∀ k,P k->∀ j ∈ metT (spAt L k) n opn a,P j) (ha:a <= n) (hk:k0 < L.length) (hk0:P k0)
    (hl:s.vis.length=L.length) (hcl:∀ k,s.at_ k=true->∀ j ∈ metT (spAt L k) n opn a,s.at_ j=true):StI L n opn st a P k0 s [] (standS L n opn k0 st a s):=by
 refine stand_loop hok hP ha _ _ _ (by have:=unseen_le s.vis;simp;omega) ?_;exact ⟨hl,fun k h=>by simp at h;subst h;exact ⟨hk,hk0⟩,fun _ h=>h,fun k h j hj => .inl (hcl k h j hj),.inr (by simp),⟨[],by simp,by simp⟩,fun k h => .inl h,fun k h => .inl h,.inl rfl⟩
/-! The search at a place. -/
structure SeI (L:List Sp) (tx:List UInt8) (opn:Bool) (al:Nat->Prop) (b m:Nat) (s:Sr):Prop where
 len:s.vis.length=L.length
 cl:∀ k,s.at_ k=true->∀ j ∈ metT (spAt L k) tx.length opn b,s.at_ j=true
 nx:∀ t ∈ s.next,al t.2/\t.2 <= m/\t.1 < L.length/\note L tx.length opn b t.1/\Wk L tx opn 0 t.2 t.1 b
 so:s.next.Pairwise fun t u=>t.2 <= u.2
 nt:∀ k,s.at_ k=true->note L tx.length opn b k->∃ t,(k,t) ∈ s.next
 n4:∀ k,s.at_ k=true->(spAt L k).k=4->∃ q,s.fd=some q/\(q.1 < m ∨ q.1=m/\b <= q.2)
 fd:∀ q,s.fd=some q->al q.1/\q.2 <= b/\Mt L tx opn q.1 q.2
def Bet (x y:Option (Nat × Nat)):Prop:=∀ q,x=some q->∃ q',y=some q'/\(q'.1 < q.1 ∨ q'.1=q.1/\q.2 <= q'.2)
theorem Bet.refl (x:Option (Nat × Nat)):Bet x x:=fun q h=>⟨q,h,.inr ⟨rfl,Nat.le_refl _⟩⟩
theorem Bet.trans {x y z:Option (Nat × Nat)} (h:Bet x y) (k:Bet y z):Bet x z:=by
 intro q hq;obtain ⟨q',h1,h2⟩:=h q hq;obtain ⟨q'',h3,h4⟩:=k q' h1;exact ⟨q'',h3,by omega⟩
structure Xtd (s s':Sr):Prop where
 up:∀ k,s.at_ k=true->s'.at_ k=true
 nx:∀ t ∈ s.next,t ∈ s'.next
 fd:Bet s.fd s'.fd
theorem Xtd.refl (s:Sr):Xtd s s:=⟨fun _ h=>h,fun _ h=>h,.refl _⟩
theorem Xtd.trans {s t u:Sr} (h:Xtd s t) (k:Xtd t u):Xtd s u:=⟨fun i hi=>k.up i (h.up i hi),fun i hi=>k.nx i (h.nx i hi),h.fd.trans k.fd⟩
def Good (L:List Sp) (n:Nat) (opn:Bool) (b t:Nat) (s:Sr) (k:Nat):Prop:=
 (note L n opn b k->∃ t',t' <= t/\(k,t') ∈ s.next)/\((spAt L k).k=4->∃ q,s.fd=some q/\(q.1 < t ∨ q.1=t/\b <= q.2))
theorem Good.ext {n b t t':Nat} {s s':Sr} {k:Nat} (h:Good L n opn b t s k) (hx:Xtd s s') (ht:t <= t'):Good L n opn b t' s' k:=by
 refine ⟨fun hn=>?_,fun h4=>?_⟩
 ·obtain ⟨u,h1,h2⟩:=h.1 hn;exact ⟨u,by omega,hx.nx _ h2⟩
 obtain ⟨q,h1,h2⟩:=h.2 h4;obtain ⟨q',h3,h4⟩:=hx.fd q h1;exact ⟨q',h3,by omega⟩
def Has (L:List Sp) (n:Nat) (opn:Bool) (b t:Nat) (s:Sr) (k0:Nat):Prop:=
 ∃ V:Nat->Prop,V k0/\(∀ k,V k->∀ j ∈ metT (spAt L k) n opn b,V j)/\∀ k,V k->Good L n opn b t s k
theorem Has.ext {n b t t':Nat} {s s':Sr} {k:Nat} (h:Has L n opn b t s k) (hx:Xtd s s') (ht:t <= t'):Has L n opn b t' s' k:=by
 obtain ⟨V,h1,h2,h3⟩:=h;exact ⟨V,h1,h2,fun k hk=>(h3 k hk).ext hx ht⟩
theorem SeI.mono {al:Nat->Prop} {b m m':Nat} {s:Sr} (h:SeI L tx opn al b m s) (hm:m <= m'):SeI L tx opn al b m' s:=
 { h with
   nx:=fun t ht=>by obtain ⟨a1,a2,a3,a4,a5⟩:=h.nx t ht;exact ⟨a1,by omega,a3,a4,a5⟩
   n4:=fun k hk h4=>by obtain ⟨q,a1,a2⟩:=h.n4 k hk h4;exact ⟨q,a1,by omega⟩ }
theorem SeI.imp {al al':Nat->Prop} {b m:Nat} {s:Sr} (h:SeI L tx opn al b m s) (hal:∀ t,al t->al' t):SeI L tx opn al' b m s:=
 { h with
   nx:=fun t ht=>by obtain ⟨a1,a2⟩:=h.nx t ht;exact ⟨hal _ a1,a2⟩
   fd:=fun q hq=>by obtain ⟨a1,a2⟩:=h.fd q hq;exact ⟨hal _ a1,a2⟩ }
theorem SeI.stand {al:Nat->Prop} {b m st k0:Nat} {s:Sr} (h:SeI L tx opn al b m s) (hok:ProgOk L) (hb:b <= tx.length) (hm:m <= st) (hst:al st) (hk:k0 < L.length) (hw:Wk L tx opn 0 st k0 b) :
    SeI L tx opn al b st (standS L tx.length opn k0 st b s)/\Xtd s (standS L tx.length opn k0 st b s)/\Has L tx.length opn b st (standS L tx.length opn k0 st b s) k0:=by
 have hI:=standS_I (L:=L) (n:=tx.length) (st:=st) (a:=b) (P:=fun k=>Wk L tx opn 0 st k b) (opn:=opn) hok (fun k hk j hj => .eps hk hj) hb hk hw h.len h.cl
 generalize standS L tx.length opn k0 st b s=s' at hI
 have hmm:=h.mono hm
 have hcl:∀ k,s'.at_ k=true->∀ j ∈ metT (spAt L k) tx.length opn b,s'.at_ j=true:=fun k hk j hj=>by
  rcases hI.cl k hk j hj with e | e
  ·exact e
  cases e
 have hfd:Bet s.fd s'.fd:=by
  intro q hq;rcases hI.fd with e | ⟨e,-, e3⟩
  ·exact ⟨q,by rw [e];exact hq,.inr ⟨rfl,Nat.le_refl _⟩⟩
  have h1:=e3 q hq;obtain ⟨-, h3,-⟩:=h.fd q hq;exact ⟨_,e,by simp only;omega⟩
 have hext:Xtd s s':=by
  refine ⟨hI.up,fun t ht=>?_,hfd⟩;obtain ⟨new,e,-⟩:=hI.nx;rw [e];exact List.mem_append_left _ ht
 have hS:SeI L tx opn al b st s':=by
  refine ⟨hI.len,hcl,?_,?_,?_,?_,?_⟩
  ·intro t ht;obtain ⟨new,e,hn⟩:=hI.nx;rw [e] at ht;rcases List.mem_append.1 ht with ht | ht
   ·exact hmm.nx t ht
   obtain ⟨a1,a2,a3,a4⟩:=hn t ht;rw [a1];exact ⟨hst,Nat.le_refl _,a2,a4,a3⟩
  ·obtain ⟨new,e,hn⟩:=hI.nx;rw [e,List.pairwise_append];refine ⟨h.so,?_,fun t ht u hu=>?_⟩
   ·apply List.pairwise_of_forall_mem_list
    intro t ht u hu;rw [(hn t ht).1,(hn u hu).1];exact Nat.le_refl _
   rw [(hn u hu).1];exact (hmm.nx t ht).2.1
  ·intro k hk hn;rcases hI.nt k hk with e | e
   ·obtain ⟨t,ht⟩:=h.nt k e hn;exact ⟨t,hext.nx _ ht⟩
   exact ⟨st,e hn⟩
  ·intro k hk h4;rcases hI.n4 k hk with e | e
   ·obtain ⟨q,a1,a2⟩:=hmm.n4 k e h4;obtain ⟨q',a3,a4⟩:=hfd q a1;exact ⟨q',a3,by omega⟩
   obtain ⟨q,a1,a2⟩:=e h4;refine ⟨q,a1,?_⟩;rcases a2 with a2 | a2
   ·exact .inl a2
   subst a2;exact .inr ⟨rfl,Nat.le_refl _⟩
  intro q hq;rcases hI.fd with e | ⟨e,⟨k,e2,e3⟩,-⟩
  ·exact hmm.fd q (by rw [<-e];exact hq)
  rw [e] at hq;cases hq;exact ⟨hst,Nat.le_refl _,k,e2,e3⟩
 refine ⟨hS,hext,fun k=>s'.at_ k=true,?_,hcl,fun k hk=>⟨fun hn=>?_,fun h4=>hS.n4 k hk h4⟩⟩
 ·rcases hI.rt with e | e
  ·exact e
  cases e
 obtain ⟨t,ht⟩:=hS.nt k hk hn;exact ⟨t,(hS.nx _ ht).2.1,ht⟩
theorem feedS_brk {n c a1:Nat} {t:Nat × Nat} {r:List (Nat × Nat)} {s:Sr} {q:Nat × Nat} (hf:s.fd=some q) (hq:q.1 < t.2):feedS L n opn c a1 (t :: r) s=s:=by
 rw [feedS,hf];simp [hq]
theorem feedS_go {n c a1:Nat} {t:Nat × Nat} {r:List (Nat × Nat)} {s:Sr} (h:¬ ∃ q,s.fd=some q/\q.1 < t.2):feedS L n opn c a1 (t :: r) s=feedS L n opn c a1 r (if (spAt L t.1).set4.mem c=true then standS L n opn (spAt L t.1).x.toNat t.2 a1 s else s):=by
 rw [feedS]
 cases hf:s.fd with
 | none=>simp
 | some q=>
  have:¬ q.1 < t.2:=fun e=>h ⟨q,hf,e⟩;simp [this]
theorem SeI.feed {al:Nat->Prop} {a c:Nat} (hok:ProgOk L) (ha:a < tx.length) (hc:c=(tx.getD a 0).toNat):∀ (r:List (Nat × Nat)) (m M:Nat) (s:Sr),SeI L tx opn al (a+1) m s ->
    (∀ t ∈ r,al t.2/\m <= t.2/\t.2 <= M/\t.1 < L.length/\(spAt L t.1).k=0/\Wk L tx opn 0 t.2 t.1 a)->r.Pairwise (fun t u=>t.2 <= u.2)->m <= M ->
    SeI L tx opn al (a+1) M (feedS L tx.length opn c (a+1) r s)/\Xtd s (feedS L tx.length opn c (a+1) r s) /\
    ∀ t ∈ r,(spAt L t.1).set4.mem c=true->(∃ q,(feedS L tx.length opn c (a+1) r s).fd=some q/\q.1 < t.2) ∨ Has L tx.length opn (a+1) t.2 (feedS L tx.length opn c (a+1) r s) (spAt L t.1).x.toNat
 | [],m,M,s,h,hr,hp,hm=>by rw [feedS];exact ⟨h.mono hm,.refl _,fun t ht=>by cases ht⟩
 | t :: r,m,M,s,h,hr,hp,hm=>by
  obtain ⟨t1,t2,t3,t4,t5,t6⟩:=hr t (by simp);by_cases hq:∃ q,s.fd=some q/\q.1 < t.2
  ·obtain ⟨q,hf,hq⟩:=hq;have e':=feedS_brk (L:=L) (n:=tx.length) (opn:=opn) (c:=c) (a1:=a+1) (r:=r) hf hq;rw [e'];refine ⟨h.mono hm,.refl _,fun u hu _ => .inl ⟨q,hf,?_⟩⟩;rcases List.mem_cons.1 hu with rfl | hu
   ·exact hq
   have:=(List.pairwise_cons.1 hp).1 u hu;omega
  rw [feedS_go (L:=L) (n:=tx.length) (opn:=opn) (c:=c) (a1:=a+1) (r:=r) hq];by_cases hm2:(spAt L t.1).set4.mem c=true
  ·rw [if_pos hm2];obtain ⟨-, ⟨x0,x1⟩,-⟩:=hok.at_ t4;obtain ⟨g1,g2,g3⟩:=h.stand (st:=t.2) (k0:=(spAt L t.1).x.toNat) hok (by omega) t2 t1 (by omega) (.byte t6 t5 ha (by rw [<-hc];exact hm2));obtain ⟨f1,f2,f3⟩:=SeI.feed hok ha hc r t.2 M _ g1 (fun u hu=>by obtain ⟨u1,u2,u3⟩:=hr u (by simp [hu]);exact ⟨u1,(List.pairwise_cons.1 hp).1 u hu,u3⟩) (List.pairwise_cons.1 hp).2 t3;refine ⟨f1,g2.trans f2,fun u hu hum=>?_⟩;rcases List.mem_cons.1 hu with rfl | hu
   ·exact .inr (g3.ext f2 (Nat.le_refl _))
   exact f3 u hu hum
  rw [if_neg hm2];obtain ⟨f1,f2,f3⟩:=SeI.feed hok ha hc r m M s h (fun u hu=>hr u (by simp [hu])) (List.pairwise_cons.1 hp).2 hm;refine ⟨f1,f2,fun u hu hum=>?_⟩;rcases List.mem_cons.1 hu with rfl | hu
  ·exact absurd hum hm2
  exact f3 u hu hum
structure RunI (L:List Sp) (tx:List UInt8) (opn:Bool) (al:Nat->Prop) (z:Nat) (r:List (Nat × Nat) × Option (Nat × Nat)):Prop where
 fd:∀ q,r.2=some q->al q.1/\q.1 <= q.2/\q.2 <= z/\Mt L tx opn q.1 q.2
 all:∀ t e,al t->t <= tx.length->Mt L tx opn t e->∃ q,r.2=some q/\(q.1 < t ∨ q.1=t/\e <= q.2)
 nx:∀ t ∈ r.1,al t.2/\note L tx.length opn z t.1/\Wk L tx opn 0 t.2 t.1 z
 nt:∀ t k,al t->t <= z->Wk L tx opn 0 t k z->note L tx.length opn z k->(∃ q,r.2=some q/\q.1 < t) ∨ ∃ t',t' <= t/\(k,t') ∈ r.1
 stop:z=tx.length ∨ (z < tx.length/\r.1=[])
def allowed (there:Bool) (from_ t:Nat):Prop:=t=from_ ∨ (there=false/\from_ <= t)
theorem bare_I {al:Nat->Prop} {a:Nat} {fd:Option (Nat × Nat)} (h:∀ q,fd=some q->al q.1/\q.2 <= a/\Mt L tx opn q.1 q.2):SeI L tx opn al a 0 (bareS L fd):=by
 have hv:∀ k,(bareS L fd).at_ k=true->False:=fun k hk=>by
  unfold Sr.at_ bareS at hk;simp only [List.getD_eq_getElem?_getD,List.getElem?_replicate] at hk;split at hk <;> simp at hk
 exact ⟨by simp [bareS],fun k hk=>(hv k hk).elim,fun t ht=>(by cases ht),List.Pairwise.nil,fun k hk=>(hv k hk).elim,fun k hk=>(hv k hk).elim,h⟩
theorem runF_ok {there:Bool} {from_:Nat} (hok:ProgOk L) (h0:0 < L.length):∀ (f a:Nat) (s:Sr),tx.length < a+f->a <= tx.length->from_ <= a ->
    SeI L tx opn (fun t=>allowed there from_ t/\t < a) a a s ->
    (∀ t,allowed there from_ t->t < a->∀ k,Wk L tx opn 0 t k a->(∃ q,s.fd=some q/\q.1 < t) ∨ Good L tx.length opn a t s k) ->
    (∀ t e,allowed there from_ t->e < a->Mt L tx opn t e->∃ q,s.fd=some q/\(q.1 < t ∨ q.1=t/\e <= q.2)) ->
    ∃ z,z <= tx.length/\RunI L tx opn (allowed there from_) z (runF L tx opn there from_ f a s)
 | 0,a,s,hf,ha,hfr,h,hD,hO=>by omega
 | f+1,a,s,hf,ha,hfr,h,hD,hO=>by
  rw [runF];obtain ⟨s1,hs1⟩:∃ s1,s1=if a=from_ ∨ (there=false/\s.fd=none) then standS L tx.length opn 0 a a s else s:=⟨_,rfl⟩
  have hA:SeI L tx opn (fun t=>allowed there from_ t/\t <= a) a a s1/\Xtd s s1/\(allowed there from_ a->(∃ q,s1.fd=some q/\q.1 < a) ∨ Has L tx.length opn a a s1 0):=by
   have hw:=h.imp (al':=fun t=>allowed there from_ t/\t <= a) (fun t ht=>⟨ht.1,by omega⟩);by_cases hc:a=from_ ∨ (there=false/\s.fd=none)
   ·rw [if_pos hc] at hs1;obtain ⟨g1,g2,g3⟩:=hw.stand (st:=a) (k0:=0) hok ha (Nat.le_refl _) (by rcases hc with hc | hc;exact ⟨.inl hc,Nat.le_refl _⟩;exact ⟨.inr ⟨hc.1,hfr⟩,Nat.le_refl _⟩) h0 .refl;rw [hs1];exact ⟨g1,g2,fun _ => .inr g3⟩
   rw [if_neg hc] at hs1;rw [hs1];refine ⟨hw,.refl _,fun hal => .inl ?_⟩;have hne:a ≠ from_:=fun e=>hc (.inl e);rcases hal with e | ⟨e,-⟩
   ·exact absurd e hne
   cases hfd:s.fd with
   | none=>exact absurd ⟨e,hfd⟩ (fun hh=>hc (.inr hh))
   | some q=>exact ⟨q,rfl,(h.fd q hfd).1.2⟩
  rw [<-hs1];obtain ⟨hS,hE,hH⟩:=hA
  have hD1:∀ t,allowed there from_ t->t <= a->∀ k,Wk L tx opn 0 t k a->(∃ q,s1.fd=some q/\q.1 < t) ∨ Good L tx.length opn a t s1 k:=by
   intro t hal hta k hw;by_cases e:t=a
   ·subst e;rcases hH hal with h1 | ⟨V,h1,h2,h3⟩
    ·exact .inl h1
    exact .inr (h3 k (hw.here h1 h2))
   rcases hD t hal (by omega) k hw with ⟨q,h1,h2⟩ | h1
   ·obtain ⟨q',h3,h4⟩:=hE.fd q h1;exact .inl ⟨q',h3,by omega⟩
   exact .inr (h1.ext hE (Nat.le_refl _))
  have hO1:∀ t e,allowed there from_ t->e <= a->Mt L tx opn t e->∃ q,s1.fd=some q/\(q.1 < t ∨ q.1=t/\e <= q.2):=by
   intro t e hal hea hmt;by_cases h1:e=a
   ·subst h1;obtain ⟨k,hw,h4⟩:=hmt;rcases hD1 t hal hw.le k hw with ⟨q,h1,h2⟩ | h1
    ·exact ⟨q,h1,.inl h2⟩
    exact h1.2 h4
   obtain ⟨q,h2,h3⟩:=hO t e hal (by omega) hmt;obtain ⟨q',h4,h5⟩:=hE.fd q h2;exact ⟨q',h4,by omega⟩
  have hfd1:∀ q,s1.fd=some q->allowed there from_ q.1/\q.1 <= q.2/\q.2 <= a/\Mt L tx opn q.1 q.2:=by
   intro q hq;obtain ⟨a1,a3,a4⟩:=hS.fd q hq;refine ⟨a1.1,?_,a3,a4⟩;obtain ⟨k,hw,-⟩:=a4;exact hw.le
  have hnx1:∀ t ∈ s1.next,allowed there from_ t.2/\note L tx.length opn a t.1/\Wk L tx opn 0 t.2 t.1 a:=fun t ht=>by
   obtain ⟨a1,a2,a3,a4,a5⟩:=hS.nx t ht;exact ⟨a1.1,a4,a5⟩
  have hnt1:∀ t k,allowed there from_ t->t <= a->Wk L tx opn 0 t k a->note L tx.length opn a k->(∃ q,s1.fd=some q/\q.1 < t) ∨ ∃ t',t' <= t/\(k,t') ∈ s1.next:=by
   intro t k hal hta hw hn;rcases hD1 t hal hta k hw with h1 | h1
   ·exact .inl h1
   exact .inr (h1.1 hn)
  by_cases hst:a=tx.length ∨ (s1.next=[]/\(there=true ∨ s1.fd ≠ none))
  ·rw [if_pos hst];refine ⟨a,ha,hfd1,?_,hnx1,hnt1,?_⟩
   ·intro t e hal htl hmt;by_cases hea:e <= a
    ·exact hO1 t e hal hea hmt
    rcases hst with e1 | ⟨e1,e2⟩
    ·exfalso
     obtain ⟨k,hw,-⟩:=hmt;have:=hw.len htl;omega
    by_cases hta:t <= a
    ·obtain ⟨k,hw,-⟩:=hmt;obtain ⟨i,hi,hi0⟩:=hw.mid hta (by omega);rcases hD1 t hal hta i hi with ⟨q,h1,h2⟩ | h1
     ·exact ⟨q,h1,.inl h2⟩
     obtain ⟨t',-, h2⟩:=h1.1 (.inl hi0);rw [e1] at h2;cases h2
    rcases e2 with e2 | e2
    ·rcases hal with h1 | ⟨h1,-⟩
     ·omega
     rw [e2] at h1;cases h1
    cases hq:s1.fd with
    | none=>exact absurd hq e2
    | some q=>
     have q2:=(hS.fd q hq).1.2;exact ⟨q,rfl,.inl (by omega)⟩
   rcases hst with e1 | ⟨e1,-⟩
   ·exact .inl e1
   by_cases e:a=tx.length
   ·exact .inl e
   exact .inr ⟨by omega,e1⟩
  rw [if_neg hst]
  have hal:a < tx.length:=by
   rcases Nat.lt_or_ge a tx.length with h1 | h1
   ·exact h1
   exact absurd (.inl (by omega)) hst
  have hk0:∀ t ∈ s1.next,(spAt L t.1).k=0:=fun t ht=>by
   rcases (hS.nx t ht).2.2.2.1 with e | ⟨-, -, e⟩ | ⟨-, e,-⟩
   ·exact e
   ·omega
   omega
  obtain ⟨F1,F2,F3⟩:=SeI.feed (L:=L) (opn:=opn) (al:=fun t=>allowed there from_ t/\t <= a) hok hal rfl s1.next 0 a (bareS L s1.fd)
   (bare_I fun q hq=>by obtain ⟨a1,a2,a3⟩:=hS.fd q hq;exact ⟨a1,by omega,a3⟩)
   (fun t ht=>by obtain ⟨a1,a2,a3,a4,a5⟩:=hS.nx t ht;exact ⟨a1,Nat.zero_le _,a1.2,a3,hk0 t ht,a5⟩) hS.so (Nat.zero_le _)
  refine runF_ok hok h0 f (a+1) _ (by omega) hal (by omega) ((F1.mono (by omega)).imp fun t ht=>⟨ht.1,by omega⟩) ?_ ?_
  ·intro t hal1 hta k hw;obtain ⟨i,h1,h2,h3,h4,h5⟩:=hw.last (by omega);rw [Nat.add_sub_cancel] at h1 h3 h4;rcases hnt1 t i hal1 (by omega) h1 (.inl h2) with ⟨q,g1,g2⟩ | ⟨t',g1,g2⟩
   ·obtain ⟨q',g3,g4⟩:=F2.fd q g1;exact .inl ⟨q',g3,by omega⟩
   rcases F3 _ g2 h4 with ⟨q,g3,g4⟩ | ⟨V,g3,g4,g5⟩
   ·exact .inl ⟨q,g3,by simp only at g4;omega⟩
   exact .inr ((g5 k (h5.here g3 g4)).ext (.refl _) g1)
  intro t e hal1 hea hmt;obtain ⟨q,g1,g2⟩:=hO1 t e hal1 (by omega) hmt;obtain ⟨q',g3,g4⟩:=F2.fd q g1;exact ⟨q',g3,by omega⟩
theorem run_ok {there:Bool} {from_:Nat} (hok:ProgOk L) (h0:0 < L.length) (hfr:from_ <= tx.length):∃ z,z <= tx.length/\RunI L tx opn (allowed there from_) z (runS L tx opn there from_):=by
 refine runF_ok hok h0 _ _ _ (by omega) hfr (Nat.le_refl _) ((bare_I fun q hq=>by cases hq).mono (Nat.zero_le _)) ?_ ?_
 ·intro t hal hta;rcases hal with e | ⟨-, e⟩ <;> omega
 intro t e hal hea hmt;obtain ⟨k,hw,-⟩:=hmt;have:=hw.le;rcases hal with e | ⟨-, e⟩ <;> omega
end
structure Fst (L:List Sp) (tx:List UInt8) (from_:Nat) (q:Nat × Nat):Prop where
 fr:from_ <= q.1
 le:q.1 <= q.2
 len:q.2 <= tx.length
 mt:Mt L tx false q.1 q.2
 all:∀ t e,from_ <= t->t <= tx.length->Mt L tx false t e->q.1 < t ∨ q.1=t/\e <= q.2
theorem findS_some {L:List Sp} {tx:List UInt8} {from_:Nat} {q:Nat × Nat} (hok:ProgOk L) (h0:0 < L.length) (hfr:from_ <= tx.length) (h:findS L tx from_=some q):Fst L tx from_ q:=by
 obtain ⟨z,hz,h1⟩:=run_ok (L:=L) (tx:=tx) (opn:=false) (there:=false) (from_:=from_) hok h0 hfr;obtain ⟨a1,a2,a3,a4⟩:=h1.fd q h;refine ⟨by rcases a1 with e | ⟨-, e⟩ <;> omega,a2,by omega,a4,fun t e ht htl hm=>?_⟩
 obtain ⟨q',b1,b2⟩:=h1.all t e (.inr ⟨rfl,ht⟩) htl hm
 have e:q'=q:=by
  have:findS L tx from_=some q':=b1;rw [h] at this;injection this with this;exact this.symm
 rw [<-e];exact b2
theorem findS_none {L:List Sp} {tx:List UInt8} {from_:Nat} (hok:ProgOk L) (h0:0 < L.length) (hfr:from_ <= tx.length) (h:findS L tx from_=none):∀ t e,from_ <= t->t <= tx.length->¬ Mt L tx false t e:=by
 intro t e ht htl hm;obtain ⟨z,hz,h1⟩:=run_ok (L:=L) (tx:=tx) (opn:=false) (there:=false) (from_:=from_) hok h0 hfr;obtain ⟨q',b1,b2⟩:=h1.all t e (.inr ⟨rfl,ht⟩) htl hm;have:findS L tx from_=some q':=b1;rw [h] at this;cases this
def takesS (L:List Sp) (tx:List UInt8):Bool:=match (runS L tx false true 0).2 with | some q=>q.2 == tx.length | none=>false
end Go.Proofs.YtfofechcccodeaaGreatDoor
namespace Go.Proofs.YtfofechcccodeaaGreatDoor
set_option linter.unusedVariables false
set_option linter.unusedSimpArgs false
section
variable {L:List Sp} {opn:Bool}
theorem metS_len1 (x:Sp) (n:Nat) (opn:Bool) (st a k:Nat) (s:Sr):(metS x n opn st a k s).next.length <= s.next.length+1:=by
 unfold metS
 (repeat' split) <;> first | (simp [Sr.put];done) | (unfold Sr.hit; (repeat' split) <;> simp)
theorem standF_nx (hok:ProgOk L) {n st a M:Nat}:∀ (f:Nat) (td:List Nat) (s:Sr),(∀ j ∈ td,j < L.length)->s.vis.length=L.length->s.next.length+unseen s.vis <= M ->
    (standF L n opn st a f td s).next.length+unseen (standF L n opn st a f td s).vis <= M/\(standF L n opn st a f td s).vis.length=L.length
 | 0,td,s,_,hv,h=>by rw [standF];exact ⟨h,hv⟩
 | f+1,[],s,_,hv,h=>by rw [standF];exact ⟨h,hv⟩
 | f+1,k :: r,s,ht,hv,h=>by
  have hk:k < L.length:=ht k (by simp);rw [standF];by_cases hs:s.vis.getD k false=true
  ·rw [if_pos hs];exact standF_nx hok f r s (fun j hj=>ht j (by simp [hj])) hv h
  rw [if_neg hs];have hs':s.vis.getD k false=false:=by simpa using hs
  have e1:(metS (spAt L k) n opn st a k (s.see k)).vis=s.vis.set k true:=by rw [metS_vis];rfl
  have e2:=unseen_set (v:=s.vis) (k:=k) (by rw [hv];exact hk) hs';have e3:=metS_len1 (spAt L k) n opn st a k (s.see k);have e4:(s.see k).next=s.next:=rfl;rw [e4] at e3;refine standF_nx hok f _ _ (fun j hj=>?_) (by rw [e1,List.length_set];exact hv) (by rw [e1];omega);rcases List.mem_append.1 hj with hj | hj
  ·exact metT_ok hok hk _ _ _ j hj
  exact ht j (by simp [hj])
theorem standS_nx (hok:ProgOk L) {n st a k:Nat} {s:Sr} (hk:k < L.length) (hv:s.vis.length=L.length) (h:s.next.length+unseen s.vis <= L.length) :
    (standS L n opn k st a s).next.length+unseen (standS L n opn k st a s).vis <= L.length/\(standS L n opn k st a s).vis.length=L.length:=
 standF_nx hok _ _ _ (fun j hj=>by simp at hj;subst hj;exact hk) hv h
theorem bareS_nx (fd:Option (Nat × Nat)):(bareS L fd).next.length+unseen (bareS L fd).vis <= L.length/\(bareS L fd).vis.length=L.length:=by
 simp [bareS,unseen]
theorem standF_in (hok:ProgOk L) {n st a M:Nat} (hM:st <= M):∀ (f:Nat) (td:List Nat) (s:Sr),(∀ j ∈ td,j < L.length)->(∀ t ∈ s.next,t.1 < L.length/\t.2 <= M)->∀ t ∈ (standF L n opn st a f td s).next,t.1 < L.length/\t.2 <= M
 | 0,td,s,_,h=>by rw [standF];exact h
 | f+1,[],s,_,h=>by rw [standF];exact h
 | f+1,k :: r,s,ht,h=>by
  have hk:k < L.length:=ht k (by simp);rw [standF];split
  ·exact standF_in hok hM f r s (fun j hj=>ht j (by simp [hj])) h
  refine standF_in hok hM f _ _ (fun j hj=>?_) (fun t htm=>?_)
  ·rcases List.mem_append.1 hj with hj | hj
   ·exact metT_ok hok hk _ _ _ j hj
   exact ht j (by simp [hj])
  unfold metS at htm;have e4:(s.see k).next=s.next:=rfl;have e5:((s.see k).put k st).next=s.next ++ [(k,st)]:=rfl;have e6:((s.see k).hit st a).next=s.next:=by rw [hit_next];rfl
  have hput:t ∈ s.next ++ [(k,st)]->t.1 < L.length/\t.2 <= M:=fun hm=>by
   rcases List.mem_append.1 hm with hm | hm
   ·exact h t hm
   simp at hm;subst hm;exact ⟨hk,hM⟩
  (repeat' split at htm) <;> first | exact h t htm | exact hput htm | (rw [e6] at htm;exact h t htm)
theorem standS_in (hok:ProgOk L) {n st a k M:Nat} {s:Sr} (hM:st <= M) (hk:k < L.length) (h:∀ t ∈ s.next,t.1 < L.length/\t.2 <= M):∀ t ∈ (standS L n opn k st a s).next,t.1 < L.length/\t.2 <= M:=
 standF_in hok hM _ _ _ (fun j hj=>by simp at hj;subst hj;exact hk) h
end
end Go.Proofs.YtfofechcccodeaaGreatDoor
namespace Go.Proofs.YtfofechcccodeaaGreatDoor
open Go.RowKit Go.Proofs.Tryz
set_option linter.unusedVariables false
set_option linter.unusedSimpArgs false
theorem has_any (s:S4) (x:Nat) (w:World) (hx:x < 256) (hs:s.ok) :
    Calls prog 97 #[s.val,.int .u8 (x:Int)] w fun e w'=>e = .returned (.bool (s.mem x))/\Fr [] w w':=by
 obtain ⟨a,b,c,d⟩:=s;obtain ⟨ha,hb,hc,hd⟩:=hs;dsimp only at ha hb hc hd;obtain ⟨y,hy⟩:∃ y,x % 64=y:=⟨_,rfl⟩;have hy2:(x:Int) % 64=y:=by omega
 have hyl:y < 64:=by omega
 have hi:x / 64=0 ∨ x / 64=1 ∨ x / 64=2 ∨ x / 64=3:=by omega
 have fin:∀ C:Array Value,Fr [] w (w.alloc (.cells C 86)):=fun C=>(Fr.refl _ _).alloc _;have FIN:=zh fin;clear fin;unfold S4.val;dsimp only;rcases hi with hi | hi | hi | hi
 ·have hq:(x:Int) / 64=0:=by omega
  have hm:S4.mem ⟨a,b,c,d⟩ x=a.testBit y:=by unfold S4.mem S4.word;rw [hy,hi];simp
  rw [hm];have HA:=zh ha;have HY:=zh hy;clear ha hb hc hd hy hi hm;go_enter func97,ntmps97
  go_wp2_with fail
  go_ret
  exact ⟨congrArg (fun v=>Ending.returned (.bool v)) (bit_asked _ _ HA.out),FIN.out _⟩
 ·have hq:(x:Int) / 64=1:=by omega
  have hm:S4.mem ⟨a,b,c,d⟩ x=b.testBit y:=by unfold S4.mem S4.word;rw [hy,hi];simp
  rw [hm];have HA:=zh hb;have HY:=zh hy;clear ha hb hc hd hy hi hm;go_enter func97,ntmps97
  go_wp2_with fail
  go_ret
  exact ⟨congrArg (fun v=>Ending.returned (.bool v)) (bit_asked _ _ HA.out),FIN.out _⟩
 ·have hq:(x:Int) / 64=2:=by omega
  have hm:S4.mem ⟨a,b,c,d⟩ x=c.testBit y:=by unfold S4.mem S4.word;rw [hy,hi];simp
  rw [hm];have HA:=zh hc;have HY:=zh hy;clear ha hb hc hd hy hi hm;go_enter func97,ntmps97
  go_wp2_with fail
  go_ret
  exact ⟨congrArg (fun v=>Ending.returned (.bool v)) (bit_asked _ _ HA.out),FIN.out _⟩
 have hq:(x:Int) / 64=3:=by omega
 have hm:S4.mem ⟨a,b,c,d⟩ x=d.testBit y:=by unfold S4.mem S4.word;rw [hy,hi];simp
 rw [hm];have HA:=zh hd;have HY:=zh hy;clear ha hb hc hd hy hi hm;go_enter func97,ntmps97
 go_wp2_with fail
 go_ret
 exact ⟨congrArg (fun v=>Ending.returned (.bool v)) (bit_asked _ _ HA.out),FIN.out _⟩
end Go.Proofs.YtfofechcccodeaaGreatDoor
