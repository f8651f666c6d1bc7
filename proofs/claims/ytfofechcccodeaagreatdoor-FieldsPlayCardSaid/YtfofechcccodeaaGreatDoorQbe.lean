/-
  Small texts in one (MbP, Ma3). No conditions.
-/
import Derived.Test.YtfofechcccodeaaGreatDoorQan
import Derived.Test.YtfofechcccodeaaGreatDoorQau
import Derived.Test.YtfofechcccodeaaGreatDoorQav
namespace Go.Proofs.YtfofechcccodeaaGreatDoor
set_option linter.unusedVariables false
set_option linter.unusedSimpArgs false
inductive WkN (L:List Sp) (tx:List UInt8) (opn:Bool):Nat->Nat->Nat->Nat->Nat->Prop
 | refl (k a:Nat):WkN L tx opn 0 k a k a
 | eps {n i j k a b:Nat}:i ∈ metT (spAt L k) tx.length opn a->WkN L tx opn n i a j b->WkN L tx opn (n+1) k a j b
 | byte {n j k a b:Nat}:(spAt L k).k=0->a < tx.length->(spAt L k).set4.mem (tx.getD a 0).toNat=true->WkN L tx opn n (spAt L k).x.toNat (a+1) j b->WkN L tx opn (n+1) k a j b
section
variable {L:List Sp} {tx:List UInt8} {opn:Bool}
theorem WkN.wk {n k a j b:Nat} (h:WkN L tx opn n k a j b):Wk L tx opn k a j b:=by
 induction h with
 | refl=>exact .refl
 | eps h _ ih=>exact Wk.trans (.eps .refl h) ih
 | byte h1 h2 h3 _ ih=>exact Wk.trans (.byte .refl h1 h2 h3) ih
theorem WkN.snoc_eps {n k a i b j:Nat} (h:WkN L tx opn n k a i b) (hj:j ∈ metT (spAt L i) tx.length opn b):WkN L tx opn (n+1) k a j b:=by
 induction h with
 | refl=>exact .eps hj (.refl _ _)
 | eps h _ ih=>exact .eps h (ih hj)
 | byte h1 h2 h3 _ ih=>exact .byte h1 h2 h3 (ih hj)
theorem WkN.snoc_byte {n k a i b:Nat} (h:WkN L tx opn n k a i b) (h1:(spAt L i).k=0) (h2:b < tx.length) (h3:(spAt L i).set4.mem (tx.getD b 0).toNat=true):WkN L tx opn (n+1) k a (spAt L i).x.toNat (b+1):=by
 induction h with
 | refl=>exact .byte h1 h2 h3 (.refl _ _)
 | eps h _ ih=>exact .eps h (ih h1 h2 h3)
 | byte g1 g2 g3 _ ih=>exact .byte g1 g2 g3 (ih h1 h2 h3)
theorem Wk.steps {k a j b:Nat} (h:Wk L tx opn k a j b):∃ n,WkN L tx opn n k a j b:=by
 induction h with
 | refl=>exact ⟨0,.refl _ _⟩
 | eps _ h ih=>obtain ⟨n,hn⟩:=ih;exact ⟨_,hn.snoc_eps h⟩
 | byte _ h1 h2 h3 ih=>obtain ⟨n,hn⟩:=ih;exact ⟨_,hn.snoc_byte h1 h2 h3⟩
structure Seg (L:List Sp) (tx:List UInt8) (opn:Bool) (lo hi E:Nat) (R:Nat->Nat->Prop):Prop where
 tq:∀ a c,R a c->Wk L tx opn lo a E c
 out:∀ n a j b,a <= tx.length->WkN L tx opn n lo a j b->(j < lo ∨ hi <= j)->∃ c m,m <= n/\R a c/\WkN L tx opn m E c j b
theorem Seg.iff {lo hi E:Nat} {R R':Nat->Nat->Prop} (h:Seg L tx opn lo hi E R) (hR:∀ a c,R a c ↔ R' a c):Seg L tx opn lo hi E R':=
 ⟨fun a c k=>h.tq a c ((hR a c).2 k),fun n a j b k0 k1 k2=>by obtain ⟨c,m,h1,h2,h3⟩:=h.out n a j b k0 k1 k2;exact ⟨c,m,h1,(hR a c).1 h2,h3⟩⟩
theorem Seg.nil (at_:Nat):Seg L tx opn at_ at_ at_ (fun a c=>a=c):=
 ⟨fun a c h=>by subst h;exact .refl,fun n a j b _ h _=>⟨a,n,Nat.le_refl _,rfl,h⟩⟩
theorem Seg.seq {lo mid hi E:Nat} {R1 R2:Nat->Nat->Prop} (h1:Seg L tx opn lo mid mid R1) (h2:Seg L tx opn mid hi E R2) (hl:lo <= mid) (hh:mid <= hi):Seg L tx opn lo hi E (fun a c=>∃ b,R1 a b/\R2 b c):=by
 refine ⟨fun a c ⟨b,k1,k2⟩=>(h1.tq a b k1).trans (h2.tq b c k2),fun n a j b hal hw hj=>?_⟩;obtain ⟨c,m,e1,e2,e3⟩:=h1.out n a j b hal hw (by omega);obtain ⟨c',m',f1,f2,f3⟩:=h2.out m c j b ((h1.tq a c e2).len hal) e3 (by omega);exact ⟨c',m',by omega,⟨c,e2,f2⟩,f3⟩
theorem Seg.one {lo:Nat} (hk:(spAt L lo).k=0) (hx:(spAt L lo).x.toNat=lo+1):Seg L tx opn lo (lo+1) (lo+1) (fun a c=>a < tx.length/\c=a+1/\(spAt L lo).set4.mem (tx.getD a 0).toNat=true):=by
 refine ⟨fun a c ⟨h1,h2,h3⟩=>?_,fun n a j b hal hw hj=>?_⟩
 ·subst h2;have:=Wk.byte (L:=L) (tx:=tx) (opn:=opn) (.refl (k:=lo) (a:=a)) hk h1 h3
  rwa [hx] at this
 cases hw with
 | refl=>omega
 | eps h _=>simp [metT,hk] at h
 | byte h1 h2 h3 h4=>rw [hx] at h4;exact ⟨_,_,Nat.le_succ _,⟨h2,rfl,h3⟩,h4⟩
theorem Seg.if_ {lo:Nat} {C:Nat->Prop} (hk:(spAt L lo).k ≠ 0) (hx:∀ a,a <= tx.length->(C a->metT (spAt L lo) tx.length opn a=[lo+1])/\(¬ C a->metT (spAt L lo) tx.length opn a=[])) (hC:∀ a,C a->a <= tx.length):Seg L tx opn lo (lo+1) (lo+1) (fun a c=>a=c/\C a):=by
 refine ⟨fun a c ⟨h1,h2⟩=>?_,fun n a j b hal hw hj=>?_⟩
 ·subst h1;exact .eps .refl (by rw [(hx a (hC a h2)).1 h2];simp)
 cases hw with
 | refl=>omega
 | eps h h'=>
  by_cases hc:C a
  ·rw [(hx a hal).1 hc] at h;simp at h;subst h;exact ⟨_,_,Nat.le_succ _,⟨rfl,hc⟩,h'⟩
  rw [(hx a hal).2 hc] at h;cases h
 | byte h1 _ _ _=>exact absurd h1 hk
theorem metT_fork {k:Nat} {x y n a:Nat} (h:spAt L k=Sp.fork x y):metT (spAt L k) n opn a=[x,y]:=by rw [h];simp [metT,Sp.fork]
def iterR (R:Nat->Nat->Prop):Nat->Nat->Nat->Prop
 | 0,a,c=>a=c
 | k+1,a,c=>∃ b,R a b/\iterR R k b c
theorem Seg.fork {lo hi E:Nat} {R:Nat->Nat->Prop} (hf:spAt L lo=Sp.fork (lo+1) E) (h:Seg L tx opn (lo+1) hi E R) (hh:lo+1 <= hi):Seg L tx opn lo hi E (fun a c=>a=c ∨ R a c):=by
 refine ⟨fun a c hac=>?_,fun n a j b hal hw hj=>?_⟩
 ·rcases hac with rfl | hac
  ·exact .eps .refl (by rw [metT_fork hf];simp)
  exact Wk.trans (.eps .refl (by rw [metT_fork hf];simp)) (h.tq a c hac)
 cases hw with
 | refl=>omega
 | eps h1 h2=>
  rw [metT_fork hf] at h1;simp at h1;rcases h1 with rfl | rfl
  ·obtain ⟨c,m,e1,e2,e3⟩:=h.out _ a j b hal h2 (by omega);exact ⟨c,m,by omega,.inr e2,e3⟩
  exact ⟨a,_,Nat.le_succ _,.inl rfl,h2⟩
 | byte h1 _ _ _=>rw [hf] at h1;simp [Sp.fork] at h1
theorem Seg.either {lo mid hi E:Nat} {R S:Nat->Nat->Prop} (hf:spAt L lo=Sp.fork (lo+1) (mid+1)) (h:Seg L tx opn (lo+1) mid mid R) (hj:spAt L mid=Sp.fork E E) (k:Seg L tx opn (mid+1) hi E S) (hm:lo+1 <= mid) (hh:mid+1 <= hi) :
    Seg L tx opn lo hi E (fun a c=>R a c ∨ S a c):=by
 refine ⟨fun a c hac=>?_,fun n a j b hal hw ho=>?_⟩
 ·rcases hac with hac | hac
  ·exact Wk.trans (.eps .refl (by rw [metT_fork hf];simp)) ((h.tq a c hac).trans (.eps .refl (by rw [metT_fork hj];simp)))
  exact Wk.trans (.eps .refl (by rw [metT_fork hf];simp)) (k.tq a c hac)
 cases hw with
 | refl=>omega
 | eps h1 h2=>
  rw [metT_fork hf] at h1;simp at h1;rcases h1 with rfl | rfl
  ·obtain ⟨c,m,e1,e2,e3⟩:=h.out _ a j b hal h2 (by omega)
   cases e3 with
   | refl=>omega
   | eps g1 g2=>
    rw [metT_fork hj] at g1;simp at g1;subst g1;exact ⟨c,_,by omega,.inl e2,g2⟩
   | byte g1 _ _ _=>rw [hj] at g1;simp [Sp.fork] at g1
  obtain ⟨c,m,e1,e2,e3⟩:=k.out _ a j b hal h2 (by omega);exact ⟨c,m,by omega,.inr e2,e3⟩
 | byte h1 _ _ _=>rw [hf] at h1;simp [Sp.fork] at h1
theorem Seg.star {lo mid:Nat} {R:Nat->Nat->Prop} (hf:spAt L lo=Sp.fork (lo+1) (mid+1)) (h:Seg L tx opn (lo+1) mid mid R) (hj:spAt L mid=Sp.fork lo lo) (hm:lo+1 <= mid) :
    Seg L tx opn lo (mid+1) (mid+1) (fun a c=>∃ i,iterR R i a c):=by
 refine ⟨fun a c h'=>?_,?_⟩
 ·obtain ⟨i,hi⟩:=h'
  induction i generalizing a with
  | zero=>have hi':a=c:=hi;subst hi';exact .eps .refl (by rw [metT_fork hf];simp)
  | succ i ih=>
   obtain ⟨b,h1,h2⟩:=hi;exact Wk.trans (.eps .refl (by rw [metT_fork hf];simp)) ((h.tq a b h1).trans (Wk.trans (.eps .refl (by rw [metT_fork hj];simp)) (ih b h2)))
 intro n
 induction n using Nat.strongRecOn with
 | ind n ih=>
  intro a j b hal hw ho
  cases hw with
  | refl=>omega
  | eps h1 h2=>
   rw [metT_fork hf] at h1;simp at h1;rcases h1 with rfl | rfl
   ·obtain ⟨c,m,e1,e2,e3⟩:=h.out _ a j b hal h2 (by omega)
    cases e3 with
    | refl=>omega
    | eps g1 g2=>
     rw [metT_fork hj] at g1;simp at g1;subst g1;obtain ⟨c',m',f1,⟨i,f2⟩,f3⟩:=ih _ (by omega) _ j b ((h.tq a c e2).len hal) g2 ho;exact ⟨c',m',by omega,⟨i+1,c,e2,f2⟩,f3⟩
    | byte g1 _ _ _=>rw [hj] at g1;simp [Sp.fork] at g1
   exact ⟨a,_,Nat.le_succ _,⟨0,rfl⟩,h2⟩
  | byte h1 _ _ _=>rw [hf] at h1;simp [Sp.fork] at h1
end
/-! What a part takes. -/
mutual
def semP (tx:List UInt8):PT->Nat->Nat->Prop
 | .mk k s0 s1 s2 s3 mn mx _ _ l=>
  if k=1 then fun a c=>a < tx.length/\c=a+1/\(S4.mk s0.toNat s1.toNat s2.toNat s3.toNat).mem (tx.getD a 0).toNat=true
  else if k=5 then fun a c=>a=c/\a=0
  else if k=6 then fun a c=>a=c/\a=tx.length
  else if k=2 then semL tx l
  else if k=3 then semO tx l
  else if k=4 then fun a c=>∃ n:Nat,mn.toNat <= n/\(mx < 0 ∨ n <= mx.toNat)/\iterR (semL tx l) n a c
  else fun a c=>a=c
def semL (tx:List UInt8):List PT->Nat->Nat->Prop
 | []=>fun a c=>a=c
 | t :: r=>fun a c=>∃ b,semP tx t a b/\semL tx r b c
def semO (tx:List UInt8):List PT->Nat->Nat->Prop
 | []=>fun _ _=>False
 | t :: r=>fun a c=>semP tx t a c ∨ semO tx r a c
end
def Lies (L:List Sp) (at_:Nat) (M:List Sp):Prop:=∀ i x,M[i]?=some x->spAt L (at_+i)=x
theorem Lies.left {L M N:List Sp} {a:Nat} (h:Lies L a (M ++ N)):Lies L a M:=fun i x hx=>h i x (by rw [List.getElem?_append_left (List.getElem?_eq_some_iff.1 hx).1];exact hx)
theorem Lies.right {L M N:List Sp} {a n:Nat} (h:Lies L a (M ++ N)) (hn:M.length=n):Lies L (a+n) N:=fun i x hx=>by
 have:=h (n+i) x (by rw [List.getElem?_append_right (by omega),hn,Nat.add_sub_cancel_left];exact hx)
 rwa [<-Nat.add_assoc] at this
theorem Lies.head {L N:List Sp} {x:Sp} {a:Nat} (h:Lies L a (x :: N)):spAt L a=x:=h 0 x rfl
theorem Lies.tail {L N:List Sp} {x:Sp} {a:Nat} (h:Lies L a (x :: N)):Lies L (a+1) N:=fun i y hy=>by
 have:=h (i+1) y hy
 rwa [show a+(i+1)=a+1+i by omega] at this
theorem iter_add {R:Nat->Nat->Prop}:∀ (m n a c:Nat),iterR R (m+n) a c ↔ ∃ b,iterR R m a b/\iterR R n b c
 | 0,n,a,c=>by simp [iterR]
 | m+1,n,a,c=>by
  rw [show m+1+n=(m+n)+1 by omega];simp only [iterR];constructor
  ·rintro ⟨b,h1,h2⟩;obtain ⟨d,h3,h4⟩:=(iter_add m n b c).1 h2;exact ⟨d,⟨b,h1,h3⟩,h4⟩
  rintro ⟨d,⟨b,h1,h3⟩,h4⟩;exact ⟨b,h1,(iter_add m n b c).2 ⟨d,h3,h4⟩⟩
section
variable {L:List Sp} {tx:List UInt8}
theorem seg_times {f:Nat->List Sp} {n:Nat} {R:Nat->Nat->Prop} (hf:∀ a,Lies L a (f a)->Seg L tx false a (a+n) (a+n) R) (hl:∀ a,(f a).length=n):∀ (k at_:Nat),Lies L at_ (timesP f n k at_)->Seg L tx false at_ (at_+k * n) (at_+k * n) (iterR R k)
 | 0,at_,h=>by simpa [iterR] using (Seg.nil at_).iff (R':=iterR R 0) (fun a c=>by simp [iterR])
 | k+1,at_,h=>by
  rw [timesP] at h;have e:at_+(k+1) * n=at_+n+k * n:=by rw [Nat.succ_mul];omega
  rw [e];exact ((hf _ h.left).seq (seg_times hf hl k _ (h.right (hl _))) (by omega) (by omega)).iff (fun a c=>by simp [iterR])
theorem seg_maybe {f:Nat->List Sp} {n all:Nat} {R:Nat->Nat->Prop} (hf:∀ a,Lies L a (f a)->Seg L tx false a (a+n) (a+n) R) (hl:∀ a,(f a).length=n):∀ (k at_:Nat),at_+k * (n+1)=all->Lies L at_ (maybeP f n all k at_)->Seg L tx false at_ all all (fun a c=>∃ i,i <= k/\iterR R i a c)
 | 0,at_,ha,h=>by
  have ha':at_=all:=by omega
  subst ha';exact (Seg.nil at_).iff (fun a c=>⟨fun e=>⟨0,Nat.le_refl _,e⟩,fun ⟨i,hi,e⟩=>by rw [Nat.le_zero.1 hi] at e;exact e⟩)
 | k+1,at_,ha,h=>by
  rw [maybeP] at h;have e:at_+1+n+k * (n+1)=all:=by rw [Nat.succ_mul] at ha;omega
  have hall:at_+1+n <= all:=by omega
  refine (Seg.fork h.head ((hf _ h.tail.left).seq (seg_maybe hf hl k _ e (h.tail.right (hl _))) (by omega) hall) (by omega)).iff (fun a c=>?_);constructor
  ·rintro (rfl | ⟨b,h1,i,h2,h3⟩)
   ·exact ⟨0,by omega,rfl⟩
   exact ⟨i+1,by omega,b,h1,h3⟩
  rintro ⟨i,h1,h2⟩
  cases i with
  | zero=>exact .inl h2
  | succ i=>obtain ⟨b,h3,h4⟩:=h2;exact .inr ⟨b,h3,i,by omega,h4⟩
mutual
theorem seg_P:∀ (t:PT) (at_:Nat),rightP t=true->Lies L at_ (layP t at_)->Seg L tx false at_ (at_+sizP t) (at_+sizP t) (semP tx t)
 | .mk k s0 s1 s2 s3 mn mx A c l,at_,hr,h=>by
  have hl:∀ a,rightL l=true->Lies L a (layL l a)->Seg L tx false a (a+sizL l) (a+sizL l) (semL tx l):=fun a hr h=>seg_L l a hr h;have ho:∀ a all,rightL l=true->l ≠ []->a+(sizL l+2 * (l.length - 1))=all->Lies L a (layO l a all)->Seg L tx false a all all (semO tx l):=fun a all hr hn ha h=>seg_O l a all hr hn ha h;have hr':=hr;rw [rightP_eq] at hr;simp only [PT.k,PT.mn,PT.mx,PT.l,Bool.and_eq_true] at hr;obtain ⟨hk,hi⟩:=hr;simp only [layP] at h;simp only [sizP,semP];by_cases h1:k=1
  ·subst h1;simp at h ⊢; have e:=h.head;exact (Seg.one (by rw [e]) (by rw [e];simp only;omega)).iff (fun a c=>by rw [e];rfl)
  by_cases h5:k=5
  ·subst h5;simp at h ⊢; have e:=h.head;refine Seg.if_ (by rw [e];simp) (fun a ha=>?_) (fun a ha=>by omega);rw [e];simp [metT]
  by_cases h6:k=6
  ·subst h6;simp at h ⊢; have e:=h.head;refine Seg.if_ (by rw [e];simp) (fun a ha=>?_) (fun a ha=>by omega);rw [e];simp [metT];omega
  by_cases h2:k=2
  ·subst h2;simp [inner] at hi;simp at h ⊢; exact hl _ hi h
  by_cases h3:k=3
  ·subst h3;simp [inner] at hi;simp [rightK] at hk;simp at h ⊢; exact ho _ _ hi (by intro e;subst e;simp at hk) rfl h
  by_cases h4:k=4
  ·subst h4;simp [inner] at hi;simp [rightK] at hk;simp at h ⊢; have hlen:∀ a,(layL l a).length=sizL l:=fun a=>layL_len l a hi;have ht:=seg_times (L:=L) (tx:=tx) (fun a ha=>hl a hi ha) hlen mn.toNat at_ h.left;have h':=h.right (timesP_len _ _ hlen _ _);by_cases hm:mx < 0
   ·rw [if_pos hm] at h';simp only [hm,if_true,true_or,and_true];have e1:at_+((mn.toNat+1) * sizL l+2)=at_+mn.toNat * sizL l+1+sizL l+1:=by rw [Nat.succ_mul];omega
    have e3:at_+(mn.toNat+1) * sizL l+2=at_+mn.toNat * sizL l+1+sizL l+1:=by rw [Nat.succ_mul];omega
    rw [e1];rw [e3] at h';have hst:=Seg.star (h'.head) (hl _ hi h'.tail.left) ((h'.tail.right (hlen _)).head) (by omega);refine (ht.seq hst (by omega) (by omega)).iff (fun a c=>?_);constructor
    ·rintro ⟨b,h1,i,h2⟩;exact ⟨mn.toNat+i,by omega,trivial,(iter_add _ _ _ _).2 ⟨b,h1,h2⟩⟩
    rintro ⟨n,h1,-, h2⟩;obtain ⟨i,rfl⟩:=Nat.exists_eq_add_of_le (show mn.toNat <= n by omega);obtain ⟨b,h3,h4⟩:=(iter_add _ _ _ _).1 h2;exact ⟨b,h3,i,h4⟩
   rw [if_neg hm] at h';simp only [hm,if_false,false_or];have hmn:mn.toNat <= mx.toNat:=by omega
   have e4:at_+mn.toNat * sizL l+(mx.toNat - mn.toNat) * (sizL l+1)=at_+(mx.toNat * sizL l+(mx.toNat - mn.toNat)):=by
    have:=rep_arith mn.toNat mx.toNat (sizL l) hmn;omega
   have hmb:=seg_maybe (L:=L) (tx:=tx) (fun a ha=>hl a hi ha) hlen (mx.toNat - mn.toNat) _ e4 h';refine (ht.seq hmb (by omega) (by rw [<-e4];omega)).iff (fun a c=>?_);constructor
   ·rintro ⟨b,h1,i,h2,h3⟩;exact ⟨mn.toNat+i,by omega,by omega,(iter_add _ _ _ _).2 ⟨b,h1,h3⟩⟩
   rintro ⟨n,h1,h2,h3⟩;obtain ⟨i,rfl⟩:=Nat.exists_eq_add_of_le (show mn.toNat <= n by omega);obtain ⟨b,h4,h5⟩:=(iter_add _ _ _ _).1 h3;exact ⟨b,h4,i,by omega,h5⟩
  simp [h1,h2,h3,h4,h5,h6];exact Seg.nil at_
theorem seg_L:∀ (l:List PT) (at_:Nat),rightL l=true->Lies L at_ (layL l at_)->Seg L tx false at_ (at_+sizL l) (at_+sizL l) (semL tx l)
 | [],at_,hr,h=>by simp [sizL,semL];exact Seg.nil at_
 | t :: r,at_,hr,h=>by
  simp only [rightL,Bool.and_eq_true] at hr;rw [layL] at h;have h1:=seg_P t at_ hr.1 h.left;have h2:=seg_L r _ hr.2 (h.right (layP_len t _ hr.1));have:=h1.seq h2 (by omega) (by omega);simp only [sizL,semL];rw [<-Nat.add_assoc];exact this
theorem seg_O:∀ (l:List PT) (at_ all:Nat),rightL l=true->l ≠ []->at_+(sizL l+2 * (l.length - 1))=all->Lies L at_ (layO l at_ all)->Seg L tx false at_ all all (semO tx l)
 | [],at_,all,hr,hn,ha,h=>absurd rfl hn
 | t :: r,at_,all,hr,hn,ha,h=>by
  simp only [rightL,Bool.and_eq_true] at hr;rw [layO] at h
  cases r with
  | nil=>
   simp [sizL] at ha h;have h1:=seg_P t at_ hr.1 h;rw [ha] at h1;exact h1.iff (fun a c=>by simp [semO])
  | cons u v=>
   simp only [List.isEmpty_cons,Bool.false_eq_true,if_false] at h;have h1:=seg_P t _ hr.1 h.tail.left;have h3:=h.tail.right (layP_len t _ hr.1);simp only [sizL,List.length_cons] at ha;have e1:at_+1+sizP t+1=at_+2+sizP t:=by omega
   have h2:=seg_O (u :: v) (at_+2+sizP t) all hr.2 (by simp) (by simp only [sizL,List.length_cons];omega) (by have:=h3.tail;rw [e1] at this;exact this);exact (Seg.either (by rw [h.head,e1]) h1 h3.head (by rw [e1];exact h2) (by omega) (by omega)).iff (fun a c=>by simp only [semO])
end
end
/-! Where the steps lead. -/
def okS (s:Sp):Prop:=0 <= s.s0/\0 <= s.s1/\0 <= s.s2/\0 <= s.s3/\s.set4.ok
def okL (E:Nat) (s:Sp):Prop:=(0 <= s.k/\s.k <= 3)/\(0 <= s.x/\s.x <= E)/\(0 <= s.y/\s.y <= E)/\okS s
theorem okL.le {E E':Nat} {s:Sp} (h:okL E s) (hE:E <= E'):okL E' s:=⟨h.1,⟨h.2.1.1,by have:=h.2.1.2;omega⟩,⟨h.2.2.1.1,by have:=h.2.2.1.2;omega⟩,h.2.2.2⟩
mutual
def setsP:PT->Prop | .mk k s0 s1 s2 s3 _ _ _ _ l=>okS ⟨0,s0,s1,s2,s3,0,0⟩/\setsL l
def setsL:List PT->Prop | []=>True | t :: r=>setsP t/\setsL r
end
theorem okS0 (k x y:Int):okS ⟨k,0,0,0,0,x,y⟩:=by simp [okS,Sp.set4,S4.ok]
theorem okL_fork {x y E:Nat} (hx:x <= E) (hy:y <= E):okL E (Sp.fork x y):=⟨by simp [Sp.fork],by simp [Sp.fork];omega,by simp [Sp.fork];omega,okS0 _ _ _⟩
theorem okL_times {f:Nat->List Sp} {n:Nat} (hf:∀ a,∀ s ∈ f a,okL (a+n) s):∀ (k at_:Nat),∀ s ∈ timesP f n k at_,okL (at_+k * n) s
 | 0,at_,s,h=>by simp [timesP] at h
 | k+1,at_,s,h=>by
  rw [timesP] at h;have e:(k+1) * n=k * n+n:=Nat.succ_mul _ _;rcases List.mem_append.1 h with h | h
  ·exact (hf _ s h).le (by omega)
  exact (okL_times hf k _ s h).le (by omega)
theorem okL_maybe {f:Nat->List Sp} {n all:Nat} (hf:∀ a,∀ s ∈ f a,okL (a+n) s):∀ (k at_:Nat),at_+k * (n+1) <= all->∀ s ∈ maybeP f n all k at_,okL all s
 | 0,at_,hall,s,h=>by simp [maybeP] at h
 | k+1,at_,hall,s,h=>by
  rw [maybeP] at h;have e:(k+1) * (n+1)=k * (n+1)+(n+1):=Nat.succ_mul _ _;rcases List.mem_cons.1 h with rfl | h
  ·exact okL_fork (by omega) (Nat.le_refl _)
  rcases List.mem_append.1 h with h | h
  ·exact (hf _ s h).le (by omega)
  exact okL_maybe hf k _ (by omega) s h
mutual
theorem okL_P:∀ (t:PT) (at_:Nat),rightP t=true->setsP t->∀ s ∈ layP t at_,okL (at_+sizP t) s
 | .mk k s0 s1 s2 s3 mn mx A c l,at_,hr,hs,s,h=>by
  have hl:∀ a,rightL l=true->∀ s ∈ layL l a,okL (a+sizL l) s:=fun a hr=>okL_L l a hr (by rw [setsP] at hs;exact hs.2);have ho:∀ a all,rightL l=true->a+(sizL l+2 * (l.length - 1)) <= all->∀ s ∈ layO l a all,okL all s:=fun a all hr ha=>okL_O l a all hr (by rw [setsP] at hs;exact hs.2) ha;rw [rightP_eq] at hr;simp only [PT.k,PT.mn,PT.mx,PT.l,Bool.and_eq_true] at hr;rw [setsP] at hs;obtain ⟨hk,hi⟩:=hr;simp only [layP] at h;simp only [sizP];by_cases h1:k=1
  ·subst h1;simp at h ⊢; subst h;exact ⟨by simp,by simp;omega,by simp;omega,hs.1⟩
  by_cases h5:k=5
  ·subst h5;simp at h ⊢; subst h;exact ⟨by simp,by simp;omega,by simp;omega,okS0 _ _ _⟩
  by_cases h6:k=6
  ·subst h6;simp at h ⊢; subst h;exact ⟨by simp,by simp;omega,by simp;omega,okS0 _ _ _⟩
  by_cases h2:k=2
  ·subst h2;simp [inner] at hi;simp at h ⊢; exact hl _ hi s h
  by_cases h3:k=3
  ·subst h3;simp [inner] at hi;simp at h ⊢; exact ho _ _ hi (Nat.le_refl _) s h
  by_cases h4:k=4
  ·subst h4;simp [inner] at hi;simp [rightK] at hk;simp only [if_true,if_false,reduceCtorEq,Int.reduceEq] at h;simp only [if_true,if_false,reduceCtorEq,Int.reduceEq,or_self];have ht:=okL_times (fun a=>hl a hi) mn.toNat at_;by_cases hm:mx < 0
   ·simp only [hm,if_true] at h ⊢; have e:(mn.toNat+1) * sizL l=mn.toNat * sizL l+sizL l:=Nat.succ_mul _ _;rcases List.mem_append.1 h with h | h
    ·exact (ht s h).le (by omega)
    rcases List.mem_cons.1 h with rfl | h
    ·exact okL_fork (by omega) (by omega)
    rcases List.mem_append.1 h with h | h
    ·exact (hl _ hi s h).le (by omega)
    simp at h;subst h;exact okL_fork (by omega) (by omega)
   simp only [hm,if_false] at h ⊢; have e:=rep_arith mn.toNat mx.toNat (sizL l) (by omega);rcases List.mem_append.1 h with h | h
   ·exact (ht s h).le (by omega)
   exact okL_maybe (fun a=>hl a hi) _ _ (by omega) s h
  simp [h1,h2,h3,h4,h5,h6] at h
theorem okL_L:∀ (l:List PT) (at_:Nat),rightL l=true->setsL l->∀ s ∈ layL l at_,okL (at_+sizL l) s
 | [],at_,hr,hs,s,h=>by simp [layL] at h
 | t :: r,at_,hr,hs,s,h=>by
  simp only [rightL,Bool.and_eq_true] at hr;rw [setsL] at hs;rw [layL] at h;simp only [sizL];rcases List.mem_append.1 h with h | h
  ·exact (okL_P t at_ hr.1 hs.1 s h).le (by omega)
  exact (okL_L r _ hr.2 hs.2 s h).le (by omega)
theorem okL_O:∀ (l:List PT) (at_ all:Nat),rightL l=true->setsL l->at_+(sizL l+2 * (l.length - 1)) <= all->∀ s ∈ layO l at_ all,okL all s
 | [],at_,all,hr,hs,ha,s,h=>by simp [layO] at h
 | t :: r,at_,all,hr,hs,ha,s,h=>by
  simp only [rightL,Bool.and_eq_true] at hr;rw [setsL] at hs;rw [layO] at h;simp only [sizL,List.length_cons] at ha
  cases r with
  | nil=>
   simp at h;exact (okL_P t at_ hr.1 hs.1 s h).le (by omega)
  | cons u v=>
   simp only [List.isEmpty_cons,Bool.false_eq_true,if_false,List.length_cons] at h ha;rcases List.mem_cons.1 h with rfl | h
   ·exact okL_fork (by omega) (by omega)
   rcases List.mem_append.1 h with h | h
   ·exact (okL_P t _ hr.1 hs.1 s h).le (by omega)
   rcases List.mem_cons.1 h with rfl | h
   ·exact okL_fork (by omega) (by omega)
   exact okL_O (u :: v) _ all hr.2 hs.2 (by simp only [List.length_cons];omega) s h
end
def progP (t:PT):List Sp:=layP t 0 ++ [Sp.found]
theorem progP_len {t:PT} (h:rightP t=true):(progP t).length=sizP t+1:=by rw [progP,List.length_append,layP_len _ _ h];rfl
theorem progP_ok {t:PT} (h:rightP t=true) (hs:setsP t):ProgOk (progP t):=by
 intro s hm;rw [progP_len h];rcases List.mem_append.1 hm with hm | hm
 ·obtain ⟨h1,h2,h3,h4⟩:=okL_P t 0 h hs s hm;exact ⟨by omega,by omega,by omega,⟨h4.1,h4.2.1,h4.2.2.1,h4.2.2.2.1⟩,h4.2.2.2.2⟩
 simp at hm;subst hm;refine ⟨by decide,?_,?_,by decide,?_⟩
 ·show (0:Int) <= 0/\(0:Int) < _;omega
 ·show (0:Int) <= 0/\(0:Int) < _;omega
 simp [Sp.found,Sp.set4,S4.ok]
theorem progP_found {t:PT} (h:rightP t=true):spAt (progP t) (sizP t)=Sp.found:=by
 unfold spAt progP;rw [List.getD_eq_getElem?_getD,List.getElem?_append_right (by rw [layP_len _ _ h];omega),layP_len _ _ h];simp
theorem progP_in {t:PT} (h:rightP t=true) (hs:setsP t) {k:Nat} (hk:k < sizP t):(spAt (progP t) k).k ≠ 4:=by
 have hl:=layP_len t 0 h;have e:(progP t)[k]?=(layP t 0)[k]?:=by unfold progP;rw [List.getElem?_append_left (by omega)]
 have hm:spAt (progP t) k ∈ layP t 0:=by
  have e2:=spAt_get (L:=progP t) (k:=k) (by rw [progP_len h];omega);rw [e] at e2;exact List.mem_of_getElem? e2
 have:=(okL_P t 0 h hs _ hm).1;omega
theorem progP_mt {t:PT} {tx:List UInt8} (h:rightP t=true) (hs:setsP t) {a c:Nat} (ha:a <= tx.length):Mt (progP t) tx false a c ↔ semP tx t a c:=by
 have hseg:=seg_P (L:=progP t) (tx:=tx) t 0 h (fun i x hx=>by
  have hi:i < (layP t 0).length:=(List.getElem?_eq_some_iff.1 hx).1;unfold spAt progP
  rw [List.getD_eq_getElem?_getD,Nat.zero_add,List.getElem?_append_left hi,hx];rfl)
 rw [Nat.zero_add] at hseg;constructor
 ·rintro ⟨k,hw,h4⟩;have hkl:k < sizP t+1:=by have:=hw.ok (progP_ok h hs) (by rw [progP_len h];omega);rwa [progP_len h] at this
  have hk:k=sizP t:=by
   rcases Nat.lt_or_ge k (sizP t) with e | e
   ·exact absurd h4 (progP_in h hs e)
   omega
  subst hk;obtain ⟨n,hn⟩:=hw.steps;obtain ⟨b,m,-, h1,h2⟩:=hseg.out n a _ c ha hn (.inr (Nat.le_refl _))
  cases h2 with
  | refl=>exact h1
  | eps g _=>rw [progP_found h] at g;simp [metT,Sp.found] at g
  | byte g _ _ _=>rw [progP_found h] at g;simp [Sp.found] at g
 intro hsem;exact ⟨_,hseg.tq a c hsem,by rw [progP_found h];rfl⟩
end Go.Proofs.YtfofechcccodeaaGreatDoor
namespace Go.Proofs.YtfofechcccodeaaGreatDoor
open Go.RowKit
set_option linter.unusedVariables false
set_option linter.unusedSimpArgs false
mutual
def sokT:RT->Prop | .mk _ s _ _ l=>s.ok/\sokTL l
def sokTL:List RT->Prop | []=>True | t :: r=>sokT t/\sokTL r
end
theorem sokTL_append:∀ (a b:List RT),sokTL a->sokTL b->sokTL (a ++ b)
 | [],b,_,h=>h
 | t :: r,b,h,k=>by rw [sokTL] at h;rw [List.cons_append,sokTL];exact ⟨h.1,sokTL_append r b h.2 k⟩
theorem sokTL_one {t:RT} (h:sokT t):sokTL [t]:=by rw [sokTL,sokTL];exact ⟨h,trivial⟩
theorem sok_leaf {k:Int} {s:S4} (h:s.ok):sokT (.mk k s 0 0 []):=by rw [sokT,sokTL];exact ⟨h,trivial⟩
theorem sok_row {l:List RT} (h:sokTL l):sokT (rowT l):=by
 match l,h with
 | [],h=>exact sok_leaf S4.empty_ok
 | [t],h=>rw [sokTL] at h;exact h.1
 | a :: b :: r,h=>show sokT (.mk 2 S4.empty 0 0 (a :: b :: r));rw [sokT];exact ⟨S4.empty_ok,h⟩
theorem sok_join {l:List RT} (h:sokTL l):sokT (joinT l):=by
 match l,h with
 | [],h=>show sokT (.mk 3 S4.empty 0 0 []);rw [sokT];exact ⟨S4.empty_ok,h⟩
 | [t],h=>rw [sokTL] at h;exact h.1
 | a :: b :: r,h=>show sokT (.mk 3 S4.empty 0 0 (a :: b :: r));rw [sokT];exact ⟨S4.empty_ok,h⟩
theorem signs_sok {bs:List UInt8}:∀ (k:Nat) (t:RT) (i:Nat) (t':RT) (j:Nat),sokT t->signsL bs k t i = .ok (t',j)->sokT t'
 | 0,t,i,t',j,ht,h=>by
  rw [signsL] at h;split at h
  ·injection h with h;injection h with h1 h2;subst h1;exact ht
  split at h <;> cases h
 | k+1,t,i,t',j,ht,h=>by
  rw [signsL] at h;split at h
  ·injection h with h;injection h with h1 h2;subst h1;exact ht
  split at h
  ·cases h
  refine signs_sok k _ _ _ _ ?_ h;unfold tTimes;rw [sokT];exact ⟨S4.empty_ok,sokTL_one ht⟩
theorem plain_sok {bs:List UInt8} {i j:Nat} {t:RT} (hi:i < bs.length) (h:plainS bs i = .ok (t,j)):sokT t:=by
 unfold plainS at h;split at h
 ·cases h
 split at h
 ·cases hb:bracketS bs i with
  | error p=>rw [hb] at h;cases h
  | ok p=>
   obtain ⟨S,n⟩:=p;have hS:=(bracketS_le hi hb).2.2;rw [hb] at h;simp only [setR] at h
   injection h with h;injection h with h1 h2;rw [<-h1];exact sok_leaf hS
 (repeat' split at h) <;> first | (injection h with h;injection h with h1 h2;rw [<-h1];first | exact sok_leaf (S4.range_ok _ _) | exact sok_leaf S4.empty_ok) | cases h
theorem read_sok (bs:List UInt8):∀ f:Nat,
    (∀ d i acc t j,i <= bs.length->sokTL acc->exprF bs f d i acc = .ok (t,j)->sokT t) /\
    (∀ d i acc t j,i <= bs.length->sokTL acc->branchF bs f d i acc = .ok (t,j)->sokT t) /\
    (∀ d i t j,i < bs.length->pieceF bs f d i = .ok (t,j)->sokT t) /\
    (∀ d i t j,i < bs.length->atomF bs f d i = .ok (t,j)->sokT t)
 | 0=>⟨fun _ _ _ _ _ _ _ h=>(by rw [exprF] at h;cases h),fun _ _ _ _ _ _ _ h=>(by rw [branchF] at h;cases h),fun _ _ _ _ _ h=>(by rw [pieceF] at h;cases h),fun _ _ _ _ _ h=>(by rw [atomF] at h;cases h)⟩
 | f+1=>by
  obtain ⟨hE,hB,hP,hA⟩:=read_sok bs f;obtain ⟨-, lB,lP,lA⟩:=readF_le bs f;refine ⟨fun d i acc t j hi hr h=>?_,fun d i acc t j hi hr h=>?_,fun d i t j hi h=>?_,fun d i t j hi h=>?_⟩
  ·rw [exprF] at h
   cases hb:branchF bs f d i [] with
   | error p=>rw [hb] at h;cases h
   | ok p=>
    obtain ⟨t1,j1⟩:=p;rw [hb] at h;simp only at h;have h1:=lB d i [] t1 j1 hi hb;have g1:=hB d i [] t1 j1 hi (by rw [sokTL];trivial) hb;by_cases h124:bn bs j1=124
    ·rw [if_pos h124] at h;have:=bn_pos h124 (by omega);exact hE d (j1+1) _ t j (by omega) (sokTL_append _ _ hr (sokTL_one g1)) h
    rw [if_neg h124] at h
    injection h with h;injection h with h2 h3
    subst h2;exact sok_join (sokTL_append _ _ hr (sokTL_one g1))
  ·rw [branchF] at h;by_cases hg:goesOn bs i
   ·rw [if_pos hg] at h
    cases hb:pieceF bs f d i with
    | error p=>rw [hb] at h;cases h
    | ok p=>
     obtain ⟨t1,j1⟩:=p;rw [hb] at h;have h1:=lP d i t1 j1 hg.1 hb;exact hB d j1 _ t j h1.2 (sokTL_append _ _ hr (sokTL_one (hP d i t1 j1 hg.1 hb))) h
   rw [if_neg hg] at h
   injection h with h;injection h with h2 h3
   subst h2;exact sok_row hr
  ·rw [pieceF] at h
   cases hb:atomF bs f d i with
   | error p=>rw [hb] at h;cases h
   | ok p=>
    obtain ⟨t1,j1⟩:=p;rw [hb] at h;exact signs_sok 8 t1 j1 t j (hA d i t1 j1 hi hb) h
  rw [atomF] at h;split at h
  ·split at h
   ·cases h
   cases hb:exprF bs f (d+1) (i+1) [] with
   | error p=>rw [hb] at h;cases h
   | ok p=>
    obtain ⟨t1,j1⟩:=p;rw [hb] at h;simp only [closeT] at h;split at h
    ·injection h with h;injection h with h2 h3
     subst h2;exact hE (d+1) (i+1) [] t1 j1 (by omega) (by rw [sokTL];trivial) hb
    cases h
  exact plain_sok hi h
theorem parse_sok {bs:List UInt8} {t:RT} (h:parseS bs = .ok t):sokT t:=by
 unfold parseS at h;by_cases h1:1000 < bs.length
 ·rw [if_pos h1] at h;cases h
 rw [if_neg h1] at h
 cases hb:exprF bs (6 * bs.length+5) 0 0 [] with
 | error q=>rw [hb] at h;cases h
 | ok q=>
  obtain ⟨t1,j⟩:=q;rw [hb] at h;simp only at h;have g:=(read_sok bs _).1 0 0 [] t1 j (Nat.zero_le _) (by rw [sokTL];trivial) hb;by_cases h2:j < bs.length
  ·rw [if_pos h2] at h;cases h
  rw [if_neg h2] at h
  injection h with h
  subst h;exact g
mutual
theorem setsP_toP:∀ t:RT,sokT t->setsP (toP t)
 | .mk k s mn mx l,h=>by
  rw [sokT] at h;rw [toP,setsP];obtain ⟨h1,h2⟩:=h;refine ⟨⟨by simp,by simp,by simp,by simp,?_⟩,setsL_toL l h2⟩;obtain ⟨a,b,c,d⟩:=s
  simpa [Sp.set4,S4.ok] using h1
theorem setsL_toL:∀ l:List RT,sokTL l->setsL (toL l)
 | [],h=>by rw [toL,setsL];trivial
 | t :: r,h=>by rw [sokTL] at h;rw [toL,setsL];exact ⟨setsP_toP t h.1,setsL_toL r h.2⟩
end
theorem parse_prog {bs:List UInt8} {t:RT} (h:parseS bs = .ok t):ProgOk (progT t)/\0 < (progT t).length/\(progT t).length=sizP (toP t)+1/\rightP (toP t)=true/\setsP (toP t):=by
 have hr:=(parse_good h).1;have hrp:rightP (toP t)=true:=by rw [RepP.right t _ (toP_rep t)];exact hr
 have hs:=setsP_toP t (parse_sok h);exact ⟨progP_ok hrp hs,by rw [progT_len hr];omega,progT_len hr,hrp,hs⟩
theorem parse_mt {bs:List UInt8} {t:RT} (h:parseS bs = .ok t) (tx:List UInt8) {a c:Nat} (ha:a <= tx.length):Mt (progT t) tx false a c ↔ semP tx (toP t) a c:=by
 obtain ⟨-, -, -, h4,h5⟩:=parse_prog h;exact progP_mt h4 h5 ha
end Go.Proofs.YtfofechcccodeaaGreatDoor
