/-
  Small texts in one (Rw, Drawn). No conditions.
-/
import Derived.Test.YtfofechcccodeaaGreatDoorQaa
import Derived.Maps.AppendAt
import Derived.Laws.AppendOwn
import Derived.Deep.Quiet
import Derived.RegionTactic
import Derived.WalkKit
import Derived.KernelRfl
import Derived.Deep.RegionHeld3
import Derived.BigQuiet
namespace Go.Proofs.YtfofechcccodeaaGreatDoor
open Go.RowKit
set_option linter.unusedVariables false
set_option linter.unusedSimpArgs false
theorem bk_ne_map {w:World} {g b:Nat} {t:TypeId} {cs:Array Value} (h:Bk w g t cs) {es:Array MapEntry} {c:Nat} (hb:w.heap[b]?=some (.map es c)):g ≠ b:=by
 rintro rfl;unfold Bk at h;rw [h] at hb;cases hb
theorem own_ne {w:World} {base g n cap sz:Nat} {A:Option Addr} {e t:TypeId} {xs:List Value} {cs:Array Value} (h:w.ownsRow base e sz (.slice A n cap) n xs) (hb:Bk w g t cs) (ht:t ≠ e):(Value.slice A n cap).ownBlock ≠ some g:=by
 obtain ⟨h1,⟨h2,h3⟩ | ⟨b',cap',cur,h2,h0,hb',h6⟩⟩:=h
 ·rw [h2];simp [Value.ownBlock]
 rw [h2];intro e';injection e' with e';exact hb.ne_ (g':=b') (t':=e) (cs':=cur) hb' ht e'.symm
theorem own_fr {w w':World} {base n cap sz:Nat} {A:Option Addr} {e:TypeId} {xs:List Value} {l:List Nat} (h:w.ownsRow base e sz (.slice A n cap) n xs) (hf:Fr l w w') (hn:∀ b,(Value.slice A n cap).ownBlock=some b->b ∉ l):w'.ownsRow base e sz (.slice A n cap) n xs:=by
 obtain ⟨h1,h2 | ⟨b',cap',cur,h2,h0,hb',h6⟩⟩:=h
 ·exact ⟨h1,.inl h2⟩
 have hbk:Bk w b' e cur:=hb';exact ⟨h1,.inr ⟨b',cap',cur,h2,h0,(hf.block b' hbk.lt (hn b' (by rw [h2];rfl))).trans hb',h6⟩⟩
theorem own_form {w:World} {base n sz:Nat} {v:Value} {e:TypeId} {xs:List Value} (h:w.ownsRow base e sz v n xs) (hn:0 < n):∃ A c,v = .slice A n c:=by
 obtain ⟨h1,⟨h2,h3⟩ | ⟨b',cap',cur,h2,-⟩⟩:=h
 ·omega
 exact ⟨_,_,h2⟩
theorem own_bk {w:World} {base n cap sz:Nat} {A:Option Addr} {e:TypeId} {xs:List Value} (h:w.ownsRow base e sz (.slice A n cap) n xs):∀ b,(Value.slice A n cap).ownBlock=some b->∃ cur,Bk w b e cur:=by
 obtain ⟨h1,⟨h2,h3⟩ | ⟨b',cap',cur,h2,h0,hb',h6⟩⟩:=h
 ·rw [h2];intro b hb;simp [Value.ownBlock] at hb
 rw [h2];intro b hb;simp [Value.ownBlock] at hb;subst hb;exact ⟨cur,hb'⟩
theorem own_cells {w:World} {base n cap sz:Nat} {A:Option Addr} {e:TypeId} {xs:List Value} (h:w.ownsRow base e sz (.slice A n cap) n xs) (hx:xs ≠ []) :
    ∃ b,A=some ⟨b,0,none⟩/\b < w.heap.size/\(∀ i,w.frozen? ⟨b,i,none⟩=false)/\∀ i u,xs[i]?=some u->w.cell? ⟨b,i,none⟩=some u:=by
 obtain ⟨h1,⟨h2,h3⟩ | ⟨b,cap',cur,h2,-, hb,h3,h4,h5,h6⟩⟩:=h
 ·subst h3
  exfalso;apply hx;exact List.eq_nil_of_length_eq_zero (by simpa using h1)
 injection h2 with h2 _ _
 have hbk:Bk w b e cur:=hb;refine ⟨b,h2,hbk.lt,fun i=>hbk.frozen i,fun i u hu=>?_⟩;rw [hbk.cell,<-Array.getElem?_toList];rw [<-h6,List.getElem?_take] at hu;split at hu
 ·exact hu
 cases hu
theorem own_set {w:World} {base n cap sz:Nat} {b:Nat} {e:TypeId} {xs:List Value} (h:w.ownsRow base e sz (.slice (some ⟨b,0,none⟩) n cap) n xs) (i:Nat) (u:Value) :
    (w.setCell ⟨b,i,none⟩ u).ownsRow base e sz (.slice (some ⟨b,0,none⟩) n cap) n (xs.set i u):=by
 obtain ⟨h1,⟨h2,h3⟩ | ⟨b',cap',cur,h2,h0,hb,h3,h4,h5,h6⟩⟩:=h
 ·cases h2
 injection h2 with h2 _ h2'
 injection h2 with h2;injection h2 with h2
 subst h2 h2';have hbk:Bk w b e cur:=hb;refine ⟨by rw [List.length_set];exact h1,.inr ⟨b,cap,_,rfl,h0,hbk.put i u,h3,h4,by simpa using h5,?_⟩⟩;rw [Array.toList_setIfInBounds,List.take_set,h6]
section
variable {P:Program}
theorem wp_append_R {o:Oper} {a:Act} {w:World} {K:Act->World->Prop} {Q:Exit->Act->World->Prop} (s x:Operand) (t:TypeId)
    (ho:o.op = .call { callee := .builtin .append,args:=#[s,x],argTypes:=#[t,t] })
    (base:Nat) (e:TypeId) (i:TypeInfo) (z:Value) (size bytes:Nat) (ht:P.underlying t=some (.slice e)) (hi:P.info? e=some i) (hz:i.zero=some z)
    (hsize:i.size=size) (hby:i.bytes=bytes) (hzs:z.cells.size=size) (hsz:0 < size)
    (v:Value) (n:Nat) (xs:List Value) (hs:a.eval s=v) (hown:w.ownsRow base e size v n xs)
    (ad:Addr) (m c:Nat) (news:List Value) (hx:a.eval x = .slice (some ad) m c) (hl:news.length=m * size) (hnews:∀ j u,news[j]?=some u->w.cell? (ad.add j)=some u) (h1:∀ u ∈ news,u.oneCell'=true)
    (h63:n+m <= maxLen) (hbytes:(n+m) * bytes <= 140737488355328) (hbase:base <= w.heap.size)
    (hK:∀ v' w',w'.ownsRow base e size v' (n+m) (xs ++ news)->w.grownBy w' v.ownBlock->(v'.ownBlock=v.ownBlock ∨ v'.ownBlock=some w.heap.size)->K (a.put o.dst v') w') :
    o.wp P a w K Q:=by
 obtain ⟨v',w',hr,h2,h3,-, h5⟩:=run_append_own_at (P:=P) w base t o.type e i z size bytes ht hi hz hsize hby hzs hsz v n xs hown ad m c news hl hnews h1 h63 hbytes hbase;unfold Oper.wp execOp;simp only [ho,resolve,invoke,builtin,Sem.run_bind,Sem.run_pure,Result.andThen_ok,List.map_toArray,List.map_cons,List.map_nil,hs,hx,hr];exact hK _ _ h2 h3 h5
theorem wpList_append_R {ops:Array Oper} {rest:List Oper} {o:Oper} {a:Act} {w:World} {Q:Exit->Act->World->Prop} (hgd:Region.wanted o (yielded ops a.tmps)=true) (s x:Operand) (t:TypeId)
    (ho:o.op = .call { callee := .builtin .append,args:=#[s,x],argTypes:=#[t,t] })
    (base:Nat) (e:TypeId) (i:TypeInfo) (z:Value) (size bytes:Nat) (ht:P.underlying t=some (.slice e)) (hi:P.info? e=some i) (hz:i.zero=some z)
    (hsize:i.size=size) (hby:i.bytes=bytes) (hzs:z.cells.size=size) (hsz:0 < size)
    (v:Value) (n:Nat) (xs:List Value) (hs:a.eval s=v) (hown:w.ownsRow base e size v n xs)
    (ad:Addr) (m c:Nat) (news:List Value) (hx:a.eval x = .slice (some ad) m c) (hl:news.length=m * size) (hnews:∀ j u,news[j]?=some u->w.cell? (ad.add j)=some u) (h1:∀ u ∈ news,u.oneCell'=true)
    (h63:n+m <= maxLen) (hbytes:(n+m) * bytes <= 140737488355328) (hbase:base <= w.heap.size)
    (hK:∀ v' w',w'.ownsRow base e size v' (n+m) (xs ++ news)->w.grownBy w' v.ownBlock->(v'.ownBlock=v.ownBlock ∨ v'.ownBlock=some w.heap.size)->wpList P ops Q rest (a.put o.dst v') w') :
    wpList P ops Q (o :: rest) a w:=
 wpList_wanted hgd fun K hKK=>wp_append_R s x t ho base e i z size bytes ht hi hz hsize hby hzs hsz v n xs hs hown ad m c news hx hl hnews h1 h63 hbytes hbase fun v' w' a1 a2 a3=>hKK _ _ (hK v' w' a1 a2 a3)
end
/-! Flat lists of equal parts. -/
section
variable {α : Type} {f : α -> List Value} {sz:Nat}
theorem flat_len (hf:∀ x,(f x).length=sz):∀ es:List α, (es.flatMap f).length=es.length * sz
 | []=>by simp
 | a :: r=>by rw [List.flatMap_cons,List.length_append,flat_len hf r,hf,List.length_cons,Nat.succ_mul];omega
theorem flat_at (hf:∀ x,(f x).length=sz) (e : α) (j:Nat) (hj:j < sz):∀ (es:List α) (k:Nat),es[k]?=some e->(es.flatMap f)[k * sz+j]?=(f e)[j]?
 | [],k,h=>by simp at h
 | a :: r,0,h=>by
  injection h with h;subst h
  rw [List.flatMap_cons,List.getElem?_append_left (by rw [hf];omega)];simp
 | a :: r,k+1,h=>by
  rw [List.flatMap_cons,List.getElem?_append_right (by rw [hf,Nat.succ_mul];omega),hf,show (k+1) * sz+j - sz=k * sz+j by rw [Nat.succ_mul];omega];exact flat_at hf e j hj r k (by simpa using h)
theorem flat_set (hf:∀ x,(f x).length=sz) (e e' : α) (j:Nat) (hj:j < sz) (u:Value) (he:f e'=(f e).set j u):∀ (es:List α) (k:Nat),es[k]?=some e->(es.flatMap f).set (k * sz+j) u=(es.set k e').flatMap f
 | [],k,h=>by simp at h
 | a :: r,0,h=>by
  injection h with h;subst h
  rw [List.set_cons_zero,List.flatMap_cons,List.flatMap_cons,he,List.set_append_left _ _ (by rw [hf];omega)];simp
 | a :: r,k+1,h=>by
  rw [List.set_cons_succ,List.flatMap_cons,List.flatMap_cons,List.set_append_right _ _ (by rw [hf,Nat.succ_mul];omega),hf,show (k+1) * sz+j - sz=k * sz+j by rw [Nat.succ_mul];omega];rw [flat_set hf e e' j hj u he r k (by simpa using h)]
end
end Go.Proofs.YtfofechcccodeaaGreatDoor
namespace Go.Proofs.YtfofechcccodeaaGreatDoor
open Go.RowKit
set_option linter.unusedVariables false
set_option linter.unusedSimpArgs false
theorem PU0:(∀ (l:List Value) (i:Nat) (v:Value),l.toArray.setIfInBounds i v=(l.set i v).toArray)/\(∀ (x v:Value) (l:List Value),List.set (x :: l) 0 v=v :: l)/\(∀ (x v:Value) (l:List Value) (i:Nat),List.set (x :: l) (i+1) v=x :: List.set l i v):=
 ⟨fun _ _ _=>by simp,fun _ _ _=>rfl,fun _ _ _ _=>rfl⟩
theorem PE0:((∀ (l:List Value) (i:Nat) (v:Value),l.toArray.setIfInBounds i v=(l.set i v).toArray)/\(∀ (x v:Value) (l:List Value),List.set (x :: l) 0 v=v :: l)/\(∀ (x v:Value) (l:List Value) (i:Nat),List.set (x :: l) (i+1) v=x :: List.set l i v)) /\
    (∀ (A:Array Value) (i:Nat) (d:Value),A.getD i d=A[i]?.getD d)/\(∀ (l:List Value) (i:Nat),l.toArray[i]?=l[i]?)/\(∀ (x:Value) (l:List Value),(x :: l)[0]?=some x)/\(∀ (x:Value) (l:List Value) (i:Nat),(x :: l)[i+1]?=l[i]?)/\(∀ x d:Value,(some x).getD d=x):=
 ⟨PU0,fun _ _ _=>by simp,fun _ _=>by simp,fun _ _=>rfl,fun _ _ _=>rfl,fun _ _=>rfl⟩
theorem PU:(∀ (T:Array Value) d (i:Nat) (v:Value),Act.put ⟨T,d⟩ (some i) v=⟨T.setIfInBounds i v,d⟩) ∧ (∀ (l:List Value) (i:Nat) (v:Value),l.toArray.setIfInBounds i v=(l.set i v).toArray)/\(∀ (x v:Value) (l:List Value),List.set (x :: l) 0 v=v :: l)/\(∀ (x v:Value) (l:List Value) (i:Nat),List.set (x :: l) (i+1) v=x :: List.set l i v):=⟨fun _ _ _ _=>rfl,PU0⟩
theorem PE:(∀ (T:Array Value) d (i:Nat) (v:Value),Act.put ⟨T,d⟩ (some i) v=⟨T.setIfInBounds i v,d⟩) ∧ (∀ (T:Array Value) d (i:Nat),Act.eval ⟨T,d⟩ (.tmp i)=T.getD i undef) ∧ (∀ (A:Act) (v:Value),A.eval (.const v)=v) ∧ ((∀ (l:List Value) (i:Nat) (v:Value),l.toArray.setIfInBounds i v=(l.set i v).toArray)/\(∀ (x v:Value) (l:List Value),List.set (x :: l) 0 v=v :: l)/\(∀ (x v:Value) (l:List Value) (i:Nat),List.set (x :: l) (i+1) v=x :: List.set l i v)) /\
    (∀ (A:Array Value) (i:Nat) (d:Value),A.getD i d=A[i]?.getD d)/\(∀ (l:List Value) (i:Nat),l.toArray[i]?=l[i]?)/\(∀ (x:Value) (l:List Value),(x :: l)[0]?=some x)/\(∀ (x:Value) (l:List Value) (i:Nat),(x :: l)[i+1]?=l[i]?)/\(∀ x d:Value,(some x).getD d=x):=⟨fun _ _ _ _=>rfl,fun _ _ _=>rfl,fun _ _=>rfl,PE0⟩
section
variable {P:Program} {ops:Array Oper} {Q:Exit->Act->World->Prop} {md:Region.Mode} {G:World->World->Prop} {S:World->Prop}
def Nice (P:Program) (ops:Array Oper) (G:World->World->Prop) (S:World->Prop) (o:Oper) (v:Value) (a:Act):Prop:=
 (Region.wanted o (yielded ops a.tmps)=true/\∀ w,S w->o.quietAt P a (G w) w v) ∨ (Region.wanted o (yielded ops a.tmps)=false/\v=undef)
theorem Nice.put {o:Oper} {v:Value} {a a':Act} (h:Nice P ops G S o v a) (he:execOp a'.eval o=execOp a.eval o) (hw:Region.wanted o (yielded ops a'.tmps)=Region.wanted o (yielded ops a.tmps)):Nice P ops G S o v a':=by
 unfold Nice Oper.quietAt at *; rw [he,hw];exact h
theorem wp_of_quietAt {o:Oper} {a:Act} {v:Value} {C:World->Prop} {w:World} {K:Act->World->Prop} (hw:C w) (h:o.quietAt P a C w v) (hK:∀ w',C w'->K (a.put o.dst v) w'):o.wp P a w K Q:=by
 unfold Oper.quietAt at h;unfold Oper.wp
 cases hr:(execOp a.eval o).run P w with
 | ok n w'=>
  rw [hr] at h
  cases n with
  | value u=>obtain ⟨rfl,rfl⟩:=h;exact hK _ hw
  | skip=>obtain ⟨rfl,rfl⟩:=h;exact hK _ hw
  | enter f args=>
   obtain ⟨rfl,hc⟩:=h;exact hc.mono fun e w2 ⟨he,h2⟩=>by subst he;exact hK _ h2
  | _=>exact h.elim
 | halt x w'=>rw [hr] at h;exact h.elim
def wpAnyM (P:Program) (md:Region.Mode) (ops:Array Oper) (Q:Exit->Act->World->Prop) (G:World->World->Prop) (S:World->Prop):Nat->Array Bool->Act->World->Prop
 | 0,listed,a,w=>Region.ready md ops listed=[]/\∀ w',G w w'->Q .normal a w'
 | n+1,listed,a,w=>∀ w',G w w'->(Region.ready md ops listed=[]->Q .normal a w') /\
     ∀ i ∈ Region.ready md ops listed,wpOp P ops Q i (fun a' w''=>S w''/\wpAnyM P md ops Q G S n (listed.setIfInBounds i true) a' w'') a w'
theorem wpAnyM.any (hr:∀ w,G w w):∀ (n:Nat) (listed:Array Bool) (a:Act) (w:World),wpAnyM P md ops Q G S n listed a w->wpAny P md ops Q n listed a w
 | 0,_,_,w,h=>⟨h.1,h.2 w (hr w)⟩
 | n+1,_,_,w,h=>⟨(h w (hr w)).1,fun i hi=>wpOp_mono (fun a' w' h'=>wpAnyM.any hr n _ a' w' h'.2) ((h w (hr w)).2 i hi)⟩
theorem wpAnyM.grow (ht:∀ a b c,G a b->G b c->G a c) {n:Nat} {listed:Array Bool} {a:Act} {w w':World} (hg:G w w') (h:wpAnyM P md ops Q G S n listed a w):wpAnyM P md ops Q G S n listed a w':=by
 cases n with
 | zero=>exact ⟨h.1,fun w2 h2=>h.2 w2 (ht _ _ _ hg h2)⟩
 | succ n=>exact fun w2 h2=>h w2 (ht _ _ _ hg h2)
theorem wpOp_putN {j:Nat} {oi oj:Oper} {v:Value} {N:Act->Prop} (hj:ops[j]?=some oj) (h1:∀ d,oi.dst=some d->d ∉ oj.looksAt ops) (h2:∀ d,oi.dst=some d->oj.dst ≠ some d)
    (hsj:∀ cs b,oj.op ≠ .select cs b) (hQ:∀ c a w,Q (.panic c) (a.put oi.dst v) w->Q (.panic c) a w)
    (keep:∀ a u,N a->N (a.put oj.dst u)) (keepD:∀ a d,N a->N { a with defers:=d :: a.defers }) {K:Act->World->Prop} {a:Act} {w:World} (hy:N a)
    (h:wpOp P ops Q j K (a.put oi.dst v) w):wpOp P ops Q j (fun a' w'=>N a'/\K (a'.put oi.dst v) w') a w:=by
 have ex:=execOp_put (ops:=ops) oj hsj a oi.dst v h1;have wa:=wanted_put (ops:=ops) oj a oi.dst v h1;unfold wpOp at h ⊢; rw [hj] at h ⊢; dsimp only at h ⊢; rw [wa] at h
 cases hw:Region.wanted oj (yielded ops a.tmps) with
 | false=>
  rw [hw] at h;simp only [Bool.false_eq_true,if_false] at h ⊢; exact ⟨keep a _ hy,by rw [<-Act.put_comm a v undef h2];exact h⟩
 | true=>
  rw [hw] at h;simp only [if_true] at h ⊢; rcases h with h | ⟨hk,hl⟩
  ·left
   unfold Oper.wp at h ⊢; rw [ex] at h
   cases hr:(execOp a.eval oj).run P w with
   | ok n w'=>
    rw [hr] at h
    cases n with
    | value u=>exact ⟨keep a u hy,by rw [<-Act.put_comm a v u h2];exact h⟩
    | skip=>exact ⟨keep a _ hy,by rw [<-Act.put_comm a v undef h2];exact h⟩
    | defer d=>
     refine ⟨keep _ _ (keepD a d hy),?_⟩;rw [<-Act.put_comm _ v undef h2,<-Act.put_defers];exact h
    | enter f args=>
     refine Calls.mono h fun e w2 he=>?_
     cases e with
     | returned u=>exact ⟨keep a u hy,by rw [<-Act.put_comm a v u h2];exact he⟩
     | panicked c=>exact hQ _ _ _ he
     | outgrown=>exact he
    | row row args=>exact Rows.mono h fun u w2 he=>⟨keep a u hy,by rw [<-Act.put_comm a v u h2];exact he⟩
    | _=>exact h
   | halt x w'=>
    rw [hr] at h
    cases x with
    | panic u=>exact hQ _ _ _ h
    | _=>exact h
  right
  unfold Oper.asks at hk ⊢; rw [ex] at hk;exact ⟨hk,hl⟩
theorem wpAnyM_first {i:Nat} {oi:Oper} {v:Value} (hr:∀ w,G w w) (ht:∀ a b c,G a b->G b c->G a c) (hSG:∀ w w',S w->G w w'->S w')
    (hi:ops[i]?=some oi) (hs:Region.noSelect ops=true) (hQ:∀ c a w,Q (.panic c) (a.put oi.dst v) w->Q (.panic c) a w) :
    ∀ (n:Nat) (listed:Array Bool) (a:Act) (w:World),
     (∀ j oj,ops[j]?=some oj->j ≠ i->listed.getD j true=false->(∀ e ∈ oj.after,Region.binds md e=true->e.on ≠ i)->oi.apart ops oj=true) ->
     i ∈ Region.ready md ops listed->Nice P ops G S oi v a->S w ->
     wpAnyM P md ops Q G S n (listed.setIfInBounds i true) (a.put oi.dst v) w->wpAnyM P md ops Q G S (n+1) listed a w:=by
 have now:∀ (n:Nat) (listed:Array Bool) (a:Act) (w w':World),Nice P ops G S oi v a->S w->G w w' ->
     wpAnyM P md ops Q G S n (listed.setIfInBounds i true) (a.put oi.dst v) w ->
     wpOp P ops Q i (fun a' w''=>S w''/\wpAnyM P md ops Q G S n (listed.setIfInBounds i true) a' w'') a w':=by
  intro n listed a w w' hy hS hg H;have hS':=hSG _ _ hS hg;unfold wpOp;rw [hi];dsimp only;rcases hy with ⟨hw,hv⟩ | ⟨hw,rfl⟩
  ·rw [if_pos hw];exact .inl (wp_of_quietAt (hr w') (hv w' hS') fun w2 h2=>⟨hSG _ _ hS' h2,H.grow ht (ht _ _ _ hg h2)⟩)
  rw [if_neg (by rw [hw];exact Bool.false_ne_true)];exact ⟨hS',H.grow ht hg⟩
 intro n
 induction n with
 | zero=>
  intro listed a w hfree hrd hy hS H w' hg;refine ⟨fun h=>(by rw [h] at hrd;cases hrd),fun j hj=>?_⟩;by_cases hji:j=i
  ·subst hji;exact now 0 listed a w w' hy hS hg H
  have:=ready_mono hj hji;rw [H.1] at this
  cases this
 | succ n ih=>
  intro listed a w hfree hrd hy hS H w' hg;refine ⟨fun h=>(by rw [h] at hrd;cases hrd),fun j hj=>?_⟩;by_cases hji:j=i
  ·subst hji;exact now (n+1) listed a w w' hy hS hg H
  obtain ⟨hjun,oj,hoj,hall⟩:=mem_ready.1 hj
  have hnot:∀ e ∈ oj.after,Region.binds md e=true->e.on ≠ i:=by
   intro e he hb heq;have h1:=hall e he hb;have h0:=(mem_ready.1 hrd).1;rw [heq] at h1
   have hlt:i < listed.size:=by
    rcases Nat.lt_or_ge i listed.size with h' | h'
    ·exact h'
    simp [Array.getElem?_eq_none h'] at h1
   simp [hlt] at h0 h1;rw [h0] at h1
   cases h1
  obtain ⟨a1,a2,a3⟩:=Oper.apart_spec (hfree j oj hoj hji hjun hnot);have hsj:=fun cs b=>Region.noSelect_spec hs j oj cs b hoj;have hsi:=fun cs b=>Region.noSelect_spec hs i oi cs b hi
  have h2:=wpOp_putN (N:=Nice P ops G S oi v) hoj a1 a2 hsj hQ
   (fun a u hn=>hn.put (execOp_put oi hsi a oj.dst u a3) (wanted_put oi a oj.dst u a3)) (fun a d hn=>hn.put rfl rfl) hy ((H w' hg).2 j (ready_mono hj hji))
  refine wpOp_mono (fun a' w2 h3=>⟨h3.2.1,ih (listed.setIfInBounds j true) a' w2 ?_ (ready_mono hrd (Ne.symm hji)) h3.1 h3.2.1 ?_⟩) h2
  ·intro k ok hk hki hun hno;refine hfree k ok hk hki ?_ hno;by_cases hjk:j=k
   ·subst hjk;exact hjun
   rw [getD_set_ne true hjk] at hun;exact hun
  rw [Array.setIfInBounds_comm _ _ hji];exact h3.2.2
def wpNice (P:Program) (ops:Array Oper) (G:World->World->Prop) (S:World->Prop) (T:Act->Prop):List Oper->Act->Prop
 | [],a=>T a
 | o :: rest,a=>if Region.wanted o (yielded ops a.tmps)=true then ∃ v,(∀ w,S w->o.quietAt P a (G w) w v)/\wpNice P ops G S T rest (a.put o.dst v) else wpNice P ops G S T rest (a.put o.dst undef)
def lexPre (md:Region.Mode) (ops:Array Oper):Nat->Nat->Array Bool->Bool
 | 0,_,_=>true
 | n+1,k,listed=>(Region.ready md ops listed).contains k && Region.free md ops listed k && lexPre md ops n (k+1) (listed.setIfInBounds k true)
def lexEnd:Nat->Nat->Array Bool->Array Bool
 | 0,_,listed=>listed
 | n+1,k,listed=>lexEnd n (k+1) (listed.setIfInBounds k true)
theorem wpNice_any {T:Act->Prop} (hr:∀ w,G w w) (ht:∀ a b c,G a b->G b c->G a c) (hSG:∀ w w',S w->G w w'->S w') (hs:Region.noSelect ops=true) (hQ:∀ c a d v w,Q (.panic c) (Act.put a d v) w->Q (.panic c) a w)
    {w:World} (hS:S w) (m:Nat):∀ (l:List Oper) (k:Nat) (listed:Array Bool) (a:Act),(∀ j o,l[j]?=some o->ops[k+j]?=some o)->lexPre md ops l.length k listed=true ->
     (∀ a,T a->wpAnyM P md ops Q G S m (lexEnd l.length k listed) a w)->wpNice P ops G S T l a->wpAnyM P md ops Q G S (l.length+m) listed a w
 | [],k,listed,a,_,_,hT,h=>by have:=hT a h;simp only [List.length_nil,lexEnd] at this;simpa using this
 | o :: l,k,listed,a,hl,hB,hT,h=>by
  have h0:ops[k]?=some o:=by simpa using hl 0 o rfl
  simp only [List.length_cons,lexPre,Bool.and_eq_true] at hB;obtain ⟨⟨hrd,hf⟩,hB'⟩:=hB;have e:(o :: l).length+m=(l.length+m)+1:=by simp only [List.length_cons];omega
  rw [e]
  have next:∀ v,wpNice P ops G S T l (a.put o.dst v)->wpAnyM P md ops Q G S (l.length+m) (listed.setIfInBounds k true) (a.put o.dst v) w:=fun v hv=>
   wpNice_any hr ht hSG hs hQ hS m l (k+1) (listed.setIfInBounds k true) (a.put o.dst v) (fun j o' hj=>by have:=hl (j+1) o' (by simpa using hj);simpa [Nat.add_assoc,Nat.add_comm 1 j] using this) hB' (by simpa only [List.length_cons,lexEnd] using hT) hv
  unfold wpNice at h
  cases hw:Region.wanted o (yielded ops a.tmps) with
  | true=>
   rw [if_pos hw] at h;obtain ⟨v,hv,h⟩:=h;exact wpAnyM_first hr ht hSG h0 hs (fun c a w h=>hQ c a _ _ w h) _ _ _ _ (Region.free_spec h0 hf) (by simpa using hrd) (.inl ⟨hw,hv⟩) hS (next v h)
  | false=>
   rw [if_neg (by rw [hw];exact Bool.false_ne_true)] at h;exact wpAnyM_first hr ht hSG h0 hs (fun c a w h=>hQ c a _ _ w h) _ _ _ _ (Region.free_spec h0 hf) (by simpa using hrd) (.inr ⟨hw,rfl⟩) hS (next undef h)
theorem wpAnyM_done {n:Nat} {listed:Array Bool} {a:Act} {w:World} (hr:Region.ready md ops listed=[]) (h:∀ w',G w w'->Q .normal a w'):wpAnyM P md ops Q G S n listed a w:=by
 cases n with
 | zero=>exact ⟨hr,h⟩
 | succ n=>exact fun w' hg=>⟨fun _=>h w' hg,by rw [hr];simp⟩
def allM (P:Program) (md:Region.Mode) (ops:Array Oper) (Q:Exit->Act->World->Prop) (G:World->World->Prop) (S:World->Prop) (n:Nat) (listed:Array Bool) (a:Act) (w:World) (rs:List Nat):Prop:=
 ∀ i ∈ rs,wpOp P ops Q i (fun a' w''=>S w''/\wpAnyM P md ops Q G S n (listed.setIfInBounds i true) a' w'') a w
theorem allM.nil {n:Nat} {listed:Array Bool} {a:Act} {w:World}:allM P md ops Q G S n listed a w []:=fun _ h=>by cases h
theorem allM.cons {n:Nat} {listed:Array Bool} {a:Act} {w:World} {i:Nat} {rs:List Nat} {o:Oper} (ho:ops[i]?=some o) (hw:Region.wanted o (yielded ops a.tmps)=true)
    (h:∀ K':Act->World->Prop,Shut (∀ a w,S w->wpAnyM P md ops Q G S n (listed.setIfInBounds i true) a w->K' a w)->Oper.wp P o a w K' Q)
    (hs:allM P md ops Q G S n listed a w rs):allM P md ops Q G S n listed a w (i :: rs):=fun j hj=>by
 rcases List.mem_cons.1 hj with rfl | hj
 ·exact wpOp_step ho (fun K' hK=>by rw [if_pos hw];exact h K' (fun a w hS hW=>hK a w ⟨hS,hW⟩))
 exact hs j hj
theorem allM.head {l r:List Oper} {n:Nat} {listed:Array Bool} {a:Act} {w:World} {i:Nat} {rs:List Nat} {o:Oper} (ho:l.drop i=o :: r) (hw:Region.wanted o (yielded l.toArray a.tmps)=true)
    (h:∀ K':Act->World->Prop,Shut (∀ a w,S w->wpAnyM P md l.toArray Q G S n (listed.setIfInBounds i true) a w->K' a w)->Oper.wp P o a w K' Q)
    (hs:allM P md l.toArray Q G S n listed a w rs):allM P md l.toArray Q G S n listed a w (i :: rs):=
 allM.cons (by
  have:(l.drop i)[0]?=some o:=by rw [ho];rfl
  rw [List.getElem?_drop] at this
  simpa using this) hw h hs
theorem wpAnyM_all {n:Nat} {listed:Array Bool} {a:Act} {w:World} {rs:List Nat} (hr:Region.ready md ops listed=rs) (hne:rs ≠ [])
    (h:∀ w',G w w'->allM P md ops Q G S n listed a w' rs):wpAnyM P md ops Q G S (n+1) listed a w:=fun w' hg=>
 ⟨fun h0=>absurd (hr ▸ h0) hne,hr ▸ h w' hg⟩
theorem wp_region_nice {id:Nat} {a:Act} {w:World} {l:List Oper} (G:World->World->Prop) (S:World->Prop) (n:Nat) (hm:P.follows .mixedOrders=true)
    (hr:∀ w,G w w) (ht:∀ a b c,G a b->G b c->G a c) (hSG:∀ w w',S w->G w w'->S w')
    (hs:Region.noSelect l.toArray=true) (hB:lexPre .any l.toArray n 0 (Array.replicate l.length false)=true) (hn:n <= l.length)
    (hQ:∀ c a d v w,Q (.panic c) (Act.put a d v) w->Q (.panic c) a w) (hS:S w.drew)
    (h:wpNice P l.toArray G S (fun a=>wpAnyM P .any l.toArray Q G S (l.length - n) (lexEnd n 0 (Array.replicate l.length false)) a w.drew) (l.take n) a):(Code.region id l.toArray true).wp P Q a w:=by
 have e1:(l.take n).length=n:=by simp [hn]
 refine wp_region_any hm (wpAnyM.any (G:=G) (S:=S) hr _ _ _ _ ?_)
 have:=wpNice_any (md := .any) (P:=P) (Q:=Q) (ops:=l.toArray) (T:=fun a=>wpAnyM P .any l.toArray Q G S (l.length - n) (lexEnd n 0 (Array.replicate l.length false)) a w.drew) hr ht hSG hs hQ (w:=w.drew) hS (l.length - n) (l.take n) 0 (Array.replicate l.length false) a
  (fun j o hj=>by
   have:(l.take n)[j]?=some o:=hj;rw [List.getElem?_take] at this;split at this
   ·simpa using this
   cases this) (by rw [e1];exact hB) (fun a h=>by rw [e1];exact h) h
 rw [e1] at this;have e2:l.toArray.size=n+(l.length - n):=by simp;omega
 rw [e2];have e3:n+(l.length - n)=l.length:=by omega
 rw [show Array.replicate (n+(l.length - n)) false=Array.replicate l.length false by rw [e3]];exact this
theorem wp_region_nice_all {id:Nat} {a:Act} {w:World} {l:List Oper} (G:World->World->Prop) (S:World->Prop) (hm:P.follows .mixedOrders=true)
    (hr:∀ w,G w w) (ht:∀ a b c,G a b->G b c->G a c) (hSG:∀ w w',S w->G w w'->S w')
    (hs:Region.noSelect l.toArray=true) (hB:lexPre .any l.toArray l.length 0 (Array.replicate l.length false)=true) (hE:(Region.ready .any l.toArray (lexEnd l.length 0 (Array.replicate l.length false))).isEmpty=true)
    (hQ:∀ c a d v w,Q (.panic c) (Act.put a d v) w->Q (.panic c) a w) (hS:S w.drew)
    (h:wpNice P l.toArray G S (fun a=>∀ w',S w'->G w.drew w'->Q .normal a w') l a):(Code.region id l.toArray true).wp P Q a w:=by
 refine wp_region_nice G S l.length hm hr ht hSG hs hB (Nat.le_refl _) hQ hS ?_;rw [List.take_length];have hE':Region.ready .any l.toArray (lexEnd l.length 0 (Array.replicate l.length false))=[]:=by simpa using hE
 have imp:∀ (l':List Oper) (a:Act),wpNice P l.toArray G S (fun a=>∀ w',S w'->G w.drew w'->Q .normal a w') l' a ->
     wpNice P l.toArray G S (fun a=>wpAnyM P .any l.toArray Q G S (l.length - l.length) (lexEnd l.length 0 (Array.replicate l.length false)) a w.drew) l' a:=by
  intro l'
  induction l' with
  | nil=>exact fun a h=>wpAnyM_done hE' fun w' hg=>h w' (hSG _ _ hS hg) hg
  | cons o l' ih=>
   intro a h;unfold wpNice at h ⊢; split
   ·rename_i hw;rw [if_pos hw] at h;obtain ⟨v,h1,h2⟩:=h;exact ⟨v,h1,ih _ h2⟩
   rename_i hw;rw [if_neg hw] at h;exact ih _ h
 exact imp l a h
section
variable {T:Act->Prop} {o:Oper} {rest:List Oper} {a:Act} {v:Value}
theorem nice_nil (h:T a):wpNice P ops G S T [] a:=h
theorem nice_val (hw:Region.wanted o (yielded ops a.tmps)=true) (hr:∀ w,S w->(execOp a.eval o).run P w = .ok (.value v) w) (h:wpNice P ops G S T rest (a.put o.dst v)):wpNice P ops G S T (o :: rest) a:=by
 unfold wpNice;rw [if_pos hw];exact ⟨v,fun w hS=>by unfold Oper.quietAt;rw [hr w hS];exact ⟨rfl,rfl⟩,h⟩
theorem nice_move (x:Operand) (ho:o.op = .move x) (hw:Region.wanted o (yielded ops a.tmps)=true) (h:wpNice P ops G S T rest (a.put o.dst (a.eval x))):wpNice P ops G S T (o :: rest) a:=
 nice_val hw (fun w _=>by rw [BigFrame.run_move x ho]) h
theorem nice_call {f:FuncId} {args:Array Value} (hw:Region.wanted o (yielded ops a.tmps)=true) (hc:∀ w,S w->Calls P f args w fun e w'=>e = .returned v/\G w w')
    (hr:∀ w,(execOp a.eval o).run P w = .ok (.enter f args) w) (h:wpNice P ops G S T rest (a.put o.dst v)):wpNice P ops G S T (o :: rest) a:=by
 unfold wpNice;rw [if_pos hw];exact ⟨v,fun w hS=>by unfold Oper.quietAt;rw [hr w];exact ⟨rfl,hc w hS⟩,h⟩
end
structure Setup (P:Program) (l:List Oper) (Q:Exit->Act->World->Prop) (G:World->World->Prop) (S:World->Prop):Prop where
 r:∀ w,G w w
 t:∀ a b c,G a b->G b c->G a c
 sg:∀ w w',S w->G w w'->S w'
 s:Region.noSelect l.toArray=true
 q:∀ c a d v w,Q (.panic c) (Act.put a d v) w->Q (.panic c) a w
theorem wp_region_M {id:Nat} {a:Act} {w:World} {l:List Oper} (su:Setup P l Q G S) (hm:P.follows .mixedOrders=true)
    (h:wpAnyM P .any l.toArray Q G S l.length (Array.replicate l.length false) a w.drew):(Code.region id l.toArray true).wp P Q a w:=by
 refine wp_region_any hm (wpAnyM.any (G:=G) (S:=S) su.r _ _ _ _ ?_);have e:l.toArray.size=l.length:=by simp
 rw [e];exact h
theorem wp_region_M_ {id:Nat} {a:Act} {w:World} {l:List Oper} (su:Setup P l Q G S) (hm:P.follows .mixedOrders=true)
    (h:Setup P l Q G S->wpAnyM P .any l.toArray Q G S l.length (Array.replicate l.length false) a w.drew):(Code.region id l.toArray true).wp P Q a w:=wp_region_M su hm (h su)
section
variable {l r:List Oper} {o:Oper} {i n:Nat} {listed:Array Bool} {a:Act} {w:World} {v:Value}
theorem M_take (su:Setup P l Q G S) (ho:l.drop i=o :: r) (hB:((Region.ready md l.toArray listed).contains i && Region.free md l.toArray listed i)=true) (hS:S w) (hy:Nice P l.toArray G S o v a)
    (h:wpAnyM P md l.toArray Q G S n (listed.setIfInBounds i true) (a.put o.dst v) w):wpAnyM P md l.toArray Q G S (n+1) listed a w:=by
 have hi:l.toArray[i]?=some o:=by
  have:(l.drop i)[0]?=some o:=by rw [ho];rfl
  rw [List.getElem?_drop] at this
  simpa using this
 rw [Bool.and_eq_true] at hB;exact wpAnyM_first su.r su.t su.sg hi su.s (fun c a w h=>su.q c a _ _ w h) n listed a w (Region.free_spec hi hB.2) (by simpa using hB.1) hy hS h
theorem M_val (su:Setup P l Q G S) (ho:l.drop i=o :: r) (hB:((Region.ready md l.toArray listed).contains i && Region.free md l.toArray listed i)=true) (hS:S w) (hw:Region.wanted o (yielded l.toArray a.tmps)=true)
    (hr:∀ w,S w->(execOp a.eval o).run P w = .ok (.value v) w)
    (h:wpAnyM P md l.toArray Q G S n (listed.setIfInBounds i true) (a.put o.dst v) w):wpAnyM P md l.toArray Q G S (n+1) listed a w:=
 M_take su ho hB hS (.inl ⟨hw,fun w hS=>by unfold Oper.quietAt;rw [hr w hS];exact ⟨rfl,rfl⟩⟩) h
theorem M_move (x:Operand) (su:Setup P l Q G S) (ho:l.drop i=o :: r) (hx:o.op = .move x) (hB:((Region.ready md l.toArray listed).contains i && Region.free md l.toArray listed i)=true) (hS:S w) (hw:Region.wanted o (yielded l.toArray a.tmps)=true)
    (h:wpAnyM P md l.toArray Q G S n (listed.setIfInBounds i true) (a.put o.dst (a.eval x)) w):wpAnyM P md l.toArray Q G S (n+1) listed a w:=
 M_val su ho hB hS hw (fun w _=>by rw [BigFrame.run_move x hx]) h
theorem M_v (i:Nat) (v:Value) (su:Setup P l Q G S) (hS:S w) (hr:∀ w,S w → (execOp a.eval o).run P w = .ok (.value v) w) (h:wpAnyM P md l.toArray Q G S n (listed.setIfInBounds i true) (a.put o.dst v) w) (ho:l.drop i=o :: r:=by rfl) (hB:((Region.ready md l.toArray listed).contains i && Region.free md l.toArray listed i)=true:=by kernel_rfl) (hw:Region.wanted o (yielded l.toArray a.tmps)=true:=by rfl):wpAnyM P md l.toArray Q G S (n+1) listed a w:=M_val su ho hB hS hw hr h
theorem M_m (i:Nat) {x:Operand} (su:Setup P l Q G S) (hS:S w) (h:wpAnyM P md l.toArray Q G S n (listed.setIfInBounds i true) (a.put o.dst (a.eval x)) w) (ho:l.drop i=o :: r:=by rfl) (hx:o.op = .move x:=by rfl) (hB:((Region.ready md l.toArray listed).contains i && Region.free md l.toArray listed i)=true:=by kernel_rfl) (hw:Region.wanted o (yielded l.toArray a.tmps)=true:=by rfl):wpAnyM P md l.toArray Q G S (n+1) listed a w:=M_move x su ho hx hB hS hw h
theorem M_skip (su:Setup P l Q G S) (ho:l.drop i=o :: r) (hB:((Region.ready md l.toArray listed).contains i && Region.free md l.toArray listed i)=true) (hS:S w) (hw:Region.wanted o (yielded l.toArray a.tmps)=false)
    (h:wpAnyM P md l.toArray Q G S n (listed.setIfInBounds i true) (a.put o.dst undef) w):wpAnyM P md l.toArray Q G S (n+1) listed a w:=
 M_take su ho hB hS (.inr ⟨hw,rfl⟩) h
theorem M_call {f:FuncId} {args:Array Value} (su:Setup P l Q G S) (ho:l.drop i=o :: r) (hB:((Region.ready md l.toArray listed).contains i && Region.free md l.toArray listed i)=true) (hS:S w) (hw:Region.wanted o (yielded l.toArray a.tmps)=true)
    (hc:∀ w,S w->Calls P f args w fun e w'=>e = .returned v/\G w w') (hr:∀ w,(execOp a.eval o).run P w = .ok (.enter f args) w)
    (h:wpAnyM P md l.toArray Q G S n (listed.setIfInBounds i true) (a.put o.dst v) w):wpAnyM P md l.toArray Q G S (n+1) listed a w:=
 M_take su ho hB hS (.inl ⟨hw,fun w hS=>by unfold Oper.quietAt;rw [hr w];exact ⟨rfl,hc w hS⟩⟩) h
end
end
end Go.Proofs.YtfofechcccodeaaGreatDoor
