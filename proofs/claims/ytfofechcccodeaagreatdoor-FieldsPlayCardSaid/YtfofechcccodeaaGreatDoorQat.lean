/-
  Small texts in one (ErM, ErP, ErR). No conditions.
-/
import Derived.Test.YtfofechcccodeaaGreatDoorQas
import Derived.Test.YtfofechcccodeaaGreatDoorQae
import Derived.Test.YtfofechcccodeaaGreatDoorQad
namespace Go.Proofs.YtfofechcccodeaaGreatDoor
set_option linter.unusedVariables false
set_option linter.unusedSimpArgs false
inductive RT where
 | mk (k:Int) (s:S4) (mn mx:Int) (l:List RT)
namespace RT
def k:RT->Int | mk k _ _ _ _=>k
def s:RT->S4 | mk _ s _ _ _=>s
def mn:RT->Int | mk _ _ m _ _=>m
def mx:RT->Int | mk _ _ _ m _=>m
def l:RT->List RT | mk _ _ _ _ l=>l
end RT
abbrev Res:=Except (Nat × Nat) (RT × Nat)
def tSet (s:S4):RT := .mk 1 s 0 0 []
def tNone:RT := .mk 0 S4.empty 0 0 []
def tTimes (a b:Int) (t:RT):RT := .mk 4 S4.empty a b [t]
def badS (g:Int × Int × Nat):Bool:=decide (255 < g.1) || (decide (255 < g.2.1) || (!(g.2.1 == -1) && decide (g.2.1 < g.1)))
def signsL (bs:List UInt8):Nat->RT->Nat->Res
 | 0,t,i=>if (signS bs i).2.2=0 then .ok (t,i) else if badS (signS bs i)=true then .error (i,5) else .error (i,6)
 | k+1,t,i=>if (signS bs i).2.2=0 then .ok (t,i) else if badS (signS bs i)=true then .error (i,5)
     else signsL bs k (tTimes (signS bs i).1 (signS bs i).2.1 t) (i+(signS bs i).2.2)
def joinT (l:List RT):RT:=match l with | [t]=>t | l => .mk 3 S4.empty 0 0 l
def rowT (l:List RT):RT:=match l with | []=>tNone | [t]=>t | l => .mk 2 S4.empty 0 0 l
def setR:Except (Nat × Nat) (S4 × Nat)->Nat->Res
 | .error p,_ => .error p
 | .ok (S,n),i => .ok (tSet S,i+n)
def plainS (bs:List UInt8) (i:Nat):Res:=
 if bn bs i=42 ∨ bn bs i=43 ∨ bn bs i=63 then .error (i,4)
 else if bn bs i=91 then setR (bracketS bs i) i
 else if bn bs i=46 then .ok (tSet (S4.range 0 255),i+1)
 else if bn bs i=94 then .ok (.mk 5 S4.empty 0 0 [],i+1)
 else if bn bs i=36 then .ok (.mk 6 S4.empty 0 0 [],i+1)
 else if bn bs i=92 then (if bs.length <= i+1 then .error (bs.length,7) else .ok (tSet (S4.range (escN (bn bs (i+1))) (escN (bn bs (i+1)))),i+2))
 else .ok (tSet (S4.range (bn bs i) (bn bs i)),i+1)
def closeT (bs:List UInt8):Res->Res
 | .error p => .error p
 | .ok (t,j)=>if bn bs j=41 then .ok (t,j+1) else .error (bs.length,7)
def goesOn (bs:List UInt8) (i:Nat):Prop:=i < bs.length/\bn bs i ≠ 124/\bn bs i ≠ 41
instance (bs:List UInt8) (i:Nat):Decidable (goesOn bs i):=by unfold goesOn;infer_instance
mutual
def exprF (bs:List UInt8):Nat->Nat->Nat->List RT->Res
 | 0,_,_,_ => .error (0,99)
 | f+1,d,i,acc=>match branchF bs f d i [] with
  | .error p => .error p
  | .ok (t,j)=>if bn bs j=124 then exprF bs f d (j+1) (acc ++ [t]) else .ok (joinT (acc ++ [t]),j)
def branchF (bs:List UInt8):Nat->Nat->Nat->List RT->Res
 | 0,_,_,_ => .error (0,99)
 | f+1,d,i,acc=>if goesOn bs i then (match pieceF bs f d i with
  | .error p => .error p
  | .ok (t,j)=>branchF bs f d j (acc ++ [t])) else .ok (rowT acc,i)
def pieceF (bs:List UInt8):Nat->Nat->Nat->Res
 | 0,_,_ => .error (0,99)
 | f+1,d,i=>match atomF bs f d i with
  | .error p => .error p
  | .ok (t,j)=>signsL bs 8 t j
def atomF (bs:List UInt8):Nat->Nat->Nat->Res
 | 0,_,_ => .error (0,99)
 | f+1,d,i=>if bn bs i=40 then (if d=64 then .error (i,6) else closeT bs (exprF bs f (d+1) (i+1) [])) else plainS bs i
end
def parseS (bs:List UInt8):Except (Nat × Nat) RT:=
 if 1000 < bs.length then .error (0,5)
 else match exprF bs (6 * bs.length+5) 0 0 [] with
  | .error p => .error p
  | .ok (t,j)=>if j < bs.length then .error (j,4) else .ok t
/-! Where reading ends. -/
theorem signsL_le (bs:List UInt8):∀ (k:Nat) (t:RT) (i:Nat) (t':RT) (j:Nat),i <= bs.length->signsL bs k t i = .ok (t',j)->i <= j/\j <= bs.length
 | 0,t,i,t',j,hi,h=>by
  unfold signsL at h;split at h
  ·injection h with h;injection h with h1 h2;omega
  split at h <;> cases h
 | k+1,t,i,t',j,hi,h=>by
  unfold signsL at h;split at h
  ·injection h with h;injection h with h1 h2;omega
  split at h
  ·cases h
  have h0:=signS_le bs i hi;have:=signsL_le bs k _ _ t' j h0 h;omega
theorem bracketS_le {bs:List UInt8} {i n:Nat} {S:S4} (hi:i < bs.length) (h:bracketS bs i = .ok (S,n)):0 < n/\i+n <= bs.length/\S.ok:=by
 have hL:∀ (first k nx:Nat) (S0 S:S4) (m:Nat),S0.ok->bs.length+1 <= nx+k->(nx <= bs.length)->brkL bs first k nx S0 = .ok (S,m)->nx <= m/\m < bs.length/\S.ok:=by
  intro first k
  induction k with
  | zero=>intro nx S0 S m _ h1 h2 _;omega
  | succ k ih=>
   intro nx S0 S m hok h1 h2 h;unfold brkL at h;split at h
   ·cases hm:memberS bs nx with
    | error p=>rw [hm] at h;cases h
    | ok p=>
     obtain ⟨R,n⟩:=p;rw [hm] at h;obtain ⟨hr,h3,h4⟩:=memberS_ok hm;have:=ih n (S0.or R) S m (S4.or_ok hok hr) (by omega) h4 h;exact ⟨by omega,this.2⟩
   rename_i hg
   injection h with h;injection h with h5 h6
   subst h5 h6;exact ⟨Nat.le_refl _,by omega,hok⟩
 have hE:∀ (neg:Bool) (r:Except (Nat × Nat) (S4 × Nat)) (S:S4) (n:Nat),brkE neg i r = .ok (S,n)->∃ S' m,r = .ok (S',m)/\n=m+1 - i/\(S'.ok->S.ok):=by
  intro neg r S n h
  cases r with
  | error p=>cases h
  | ok p=>
   obtain ⟨S',m⟩:=p;simp only [brkE] at h
   injection h with h;injection h with h1 h2
   refine ⟨S',m,rfl,h2.symm,fun hok=>?_⟩;subst h1
   cases neg
   ·exact hok
   exact S4.not_ok _
 unfold bracketS at h;split at h
 ·obtain ⟨S',m,h1,h2,h3⟩:=hE _ _ _ _ h;have:=hL _ _ _ _ _ _ S4.empty_ok (by omega) (by omega) h1;exact ⟨by omega,by omega,h3 this.2.2⟩
 obtain ⟨S',m,h1,h2,h3⟩:=hE _ _ _ _ h;have:=hL _ _ _ _ _ _ S4.empty_ok (by omega) (by omega) h1;exact ⟨by omega,by omega,h3 this.2.2⟩
theorem plainS_le {bs:List UInt8} {i j:Nat} {t:RT} (hi:i < bs.length) (h:plainS bs i = .ok (t,j)):i < j/\j <= bs.length:=by
 unfold plainS at h;split at h
 ·cases h
 split at h
 ·cases hb:bracketS bs i with
  | error p=>rw [hb] at h;cases h
  | ok p=>
   obtain ⟨S,n⟩:=p;rw [hb] at h;have:=bracketS_le hi hb;simp only [setR] at h
   injection h with h;injection h with h1 h2
   omega
 (repeat' split at h) <;> first | (injection h with h;injection h with h1 h2;omega) | cases h
theorem readF_le (bs:List UInt8):∀ f:Nat,
    (∀ d i acc t j,i <= bs.length->exprF bs f d i acc = .ok (t,j)->i <= j/\j <= bs.length) /\
    (∀ d i acc t j,i <= bs.length->branchF bs f d i acc = .ok (t,j)->i <= j/\j <= bs.length) /\
    (∀ d i t j,i < bs.length->pieceF bs f d i = .ok (t,j)->i < j/\j <= bs.length) /\
    (∀ d i t j,i < bs.length->atomF bs f d i = .ok (t,j)->i < j/\j <= bs.length)
 | 0=>⟨fun _ _ _ _ _ _ h=>(by simp [exprF,branchF,pieceF,atomF] at h),fun _ _ _ _ _ _ h=>(by simp [exprF,branchF,pieceF,atomF] at h),fun _ _ _ _ _ h=>(by simp [exprF,branchF,pieceF,atomF] at h),fun _ _ _ _ _ h=>(by simp [exprF,branchF,pieceF,atomF] at h)⟩
 | f+1=>by
  obtain ⟨hE,hB,hP,hA⟩:=readF_le bs f;refine ⟨fun d i acc t j hi h=>?_,fun d i acc t j hi h=>?_,fun d i t j hi h=>?_,fun d i t j hi h=>?_⟩
  ·unfold exprF at h
   cases hb:branchF bs f d i [] with
   | error p=>rw [hb] at h;cases h
   | ok p=>
    obtain ⟨t1,j1⟩:=p;rw [hb] at h;have h1:=hB d i [] t1 j1 hi hb;simp only at h;split at h
    ·rename_i h2
     have h3:=bn_pos h2 (by omega);have:=hE d (j1+1) _ t j (by omega) h;omega
    injection h with h;injection h with h3 h4;omega
  ·unfold branchF at h;split at h
   ·rename_i hg
    cases hb:pieceF bs f d i with
    | error p=>rw [hb] at h;cases h
    | ok p=>
     obtain ⟨t1,j1⟩:=p;rw [hb] at h;have h1:=hP d i t1 j1 hg.1 hb;have:=hB d j1 _ t j h1.2 h;omega
   injection h with h;injection h with h3 h4;omega
  ·unfold pieceF at h
   cases hb:atomF bs f d i with
   | error p=>rw [hb] at h;cases h
   | ok p=>
    obtain ⟨t1,j1⟩:=p;rw [hb] at h;have h1:=hA d i t1 j1 hi hb;have:=signsL_le bs 8 t1 j1 t j h1.2 h;omega
  unfold atomF at h;split at h
  ·split at h
   ·cases h
   cases hb:exprF bs f (d+1) (i+1) [] with
   | error p=>rw [hb] at h;cases h
   | ok p=>
    obtain ⟨t1,j1⟩:=p;rw [hb] at h;have h1:=hE _ _ _ t1 j1 (by omega) hb;simp only [closeT] at h;split at h
    ·rename_i h2
     have:=bn_pos h2 (by omega)
     injection h with h;injection h with h3 h4;omega
    cases h
  exact plainS_le hi h
end Go.Proofs.YtfofechcccodeaaGreatDoor
namespace Go.Proofs.YtfofechcccodeaaGreatDoor
open Go.RowKit
set_option linter.unusedVariables false
set_option linter.unusedSimpArgs false
mutual
def RepP:RT->PT->Prop
 | .mk k s mn mx l,p=>p.k=k/\p.s0=(s.a:Int)/\p.s1=(s.b:Int)/\p.s2=(s.c:Int)/\p.s3=(s.d:Int)/\p.mn=mn/\p.mx=mx/\RepL l p.l
def RepL:List RT->List PT->Prop
 | [],ps=>ps=[]
 | t :: r,ps=>match ps with | []=>False | p :: ps=>RepP t p/\RepL r ps
end
theorem RepP_eq (t:RT) (p:PT):RepP t p=(p.k=t.k/\p.s0=(t.s.a:Int)/\p.s1=(t.s.b:Int)/\p.s2=(t.s.c:Int)/\p.s3=(t.s.d:Int)/\p.mn=t.mn/\p.mx=t.mx/\RepL t.l p.l):=by cases t;rw [RepP];rfl
theorem RepL_nil (ps:List PT):RepL [] ps=(ps=[]):=by rw [RepL]
theorem RepL_cons (t:RT) (r:List RT) (p:PT) (ps:List PT):RepL (t :: r) (p :: ps)=(RepP t p/\RepL r ps):=by rw [RepL]
theorem code_gen1 {P:Program} {c:Code} {Q:Exit->Act->World->Prop} {a:Act} {w:World} (h:∀ W,W=w->c.wp P Q a W):c.wp P Q a w:=h w rfl
theorem RepL.len:∀ {ts:List RT} {ps:List PT},RepL ts ps->ts.length=ps.length
 | [],ps,h=>by rw [RepL_nil] at h;rw [h];rfl
 | t :: r,[],h=>by rw [RepL] at h;exact h.elim
 | t :: r,p :: ps,h=>by rw [RepL_cons] at h;simp [RepL.len h.2]
theorem RepL.snoc:∀ {ts:List RT} {ps:List PT} {t:RT} {p:PT},RepL ts ps->RepP t p->RepL (ts ++ [t]) (ps ++ [p])
 | [],ps,t,p,h,k=>by rw [RepL_nil] at h;subst h;simp only [List.nil_append];rw [RepL_cons];exact ⟨k,by rw [RepL_nil]⟩
 | u :: r,[],t,p,h,k=>by rw [RepL] at h;exact h.elim
 | u :: r,q :: ps,t,p,h,k=>by
  rw [RepL_cons] at h;rw [List.cons_append,List.cons_append,RepL_cons];exact ⟨h.1,RepL.snoc h.2 k⟩
theorem RepL.get:∀ {ts:List RT} {ps:List PT},RepL ts ps->∀ {i:Nat} {t:RT} {p:PT},ts[i]?=some t->ps[i]?=some p->RepP t p
 | [],ps,h,i,t,p,ht,hp=>by simp at ht
 | u :: r,[],h,i,t,p,ht,hp=>by simp at hp
 | u :: r,q :: ps,h,0,t,p,ht,hp=>by
  rw [RepL_cons] at h;simp at ht hp;subst ht hp;exact h.1
 | u :: r,q :: ps,h,i+1,t,p,ht,hp=>by
  rw [RepL_cons] at h;exact RepL.get h.2 (i:=i) (by simpa using ht) (by simpa using hp)
mutual
def blkP:PT->List Nat | .mk _ _ _ _ _ _ _ A _ l=>(A.map (·.block)).toList ++ blkL l
def blkL:List PT->List Nat | []=>[] | t :: r=>blkP t ++ blkL r
end
theorem blkL_append:∀ (a b:List PT),blkL (a ++ b)=blkL a ++ blkL b
 | [],b=>by rw [blkL];rfl
 | t :: r,b=>by rw [List.cons_append,blkL,blkL_append r b,blkL,List.append_assoc]
theorem blkL_mem {l:List PT} {t:PT} (h:t ∈ l):∀ b ∈ blkP t,b ∈ blkL l:=by
 induction l with
 | nil=>cases h
 | cons a r ih=>
  intro b hb;rw [blkL];rcases List.mem_cons.1 h with rfl | h
  ·exact List.mem_append_left _ hb
  exact List.mem_append_right _ (ih h b hb)
theorem CellsAt.fr {l:List Nat} {w w':World} {b o:Nat} {cs:List Value} (h:CellsAt w b o cs) (hf:Fr l w w') (hb:b ∉ l):CellsAt w' b o cs:=by
 obtain ⟨arr,h1,h2⟩:=h;exact ⟨arr,h1.fr hf hb,h2⟩
mutual
theorem PMem.fr_ {l:List Nat} {w w':World} (hf:Fr l w w'):∀ t,(∀ b ∈ blkP t,b ∉ l)->PMem w t->PMem w' t
 | .mk k _ _ _ _ _ _ A _ ts,hn,h=>by
  rw [blkP] at hn;rw [PMem] at h ⊢; refine LMem.fr_ hf A ts 0 (fun hne a ha=>hn a.block (by rw [ha];simp)) (fun b hb=>hn b (List.mem_append_right _ hb)) h
theorem LMem.fr_ {l:List Nat} {w w':World} (hf:Fr l w w') (A:Option Addr):∀ (ts:List PT) (i:Nat),(ts ≠ []->∀ a,A=some a->a.block ∉ l)->(∀ b ∈ blkL ts,b ∉ l)->LMem w A ts i->LMem w' A ts i
 | [],i,_,_,h=>by rw [LMem];trivial
 | t :: r,i,hA,hn,h=>by
  rw [LMem] at h ⊢; rw [blkL] at hn;obtain ⟨⟨b,off,hAe,hc⟩,h2,h3⟩:=h;exact ⟨⟨b,off,hAe,hc.fr hf (hA (by simp) _ hAe)⟩,PMem.fr_ hf t (fun b hb=>hn b (List.mem_append_left _ hb)) h2,LMem.fr_ hf A r (i+1) (fun _=>hA (by simp)) (fun b hb=>hn b (List.mem_append_right _ hb)) h3⟩
end
structure NewP (lo:Nat) (w:World) (t:RT) (p:PT):Prop where
 rep:RepP t p
 mem:PMem w p
 new:∀ b ∈ blkP p,lo <= b/\b < w.heap.size
theorem NewP.fr {lo:Nat} {l:List Nat} {w w':World} {t:RT} {p:PT} (h:NewP lo w t p) (hf:Fr l w w') (hl:∀ b ∈ l,b < lo ∨ b ∉ blkP p):NewP lo w' t p:=
 ⟨h.rep,h.mem.fr_ hf _ (fun b hb hm=>by
  rcases hl b hm with h1 | h1
  ·have:=(h.new b hb).1;omega
  exact h1 hb),fun b hb=>⟨(h.new b hb).1,Nat.lt_of_lt_of_le (h.new b hb).2 hf.size⟩⟩
theorem NewP.fr_nil {lo:Nat} {w w':World} {t:RT} {p:PT} (h:NewP lo w t p) (hf:Fr [] w w'):NewP lo w' t p:=h.fr hf (by simp)
theorem NewP.lower {lo lo':Nat} {w:World} {t:RT} {p:PT} (h:NewP lo w t p) (hl:lo' <= lo):NewP lo' w t p:=
 ⟨h.rep,h.mem,fun b hb=>⟨Nat.le_trans hl (h.new b hb).1,(h.new b hb).2⟩⟩
structure NewL (lo:Nat) (w:World) (v:Value) (ts:List RT) (ps:List PT):Prop where
 rep:RepL ts ps
 mem:∀ p ∈ ps,PMem w p
 new:∀ b ∈ blkL ps,lo <= b/\b < w.heap.size
 off:∀ b ∈ blkL ps,v.ownBlock ≠ some b
 own:w.ownsRow lo 89 8 v ps.length (ps.flatMap PT.cells)
theorem NewL.nil (lo:Nat) (w:World):NewL lo w (.slice none 0 0) [] []:=
 ⟨by rw [RepL_nil],by simp,by simp [blkL],by simp [blkL],⟨by simp,.inl ⟨rfl,rfl⟩⟩⟩
theorem NewL.form {lo:Nat} {w:World} {v:Value} {ts:List RT} {ps:List PT} (h:NewL lo w v ts ps):∃ A c,v = .slice A ps.length c:=by
 obtain ⟨h1,⟨h2,h3⟩ | ⟨b',cap',cur,h2,-⟩⟩:=h.own
 ·exact ⟨none,0,by rw [h2,h3]⟩
 exact ⟨_,_,h2⟩
theorem NewL.blk {lo:Nat} {w:World} {v:Value} {ts:List RT} {ps:List PT} (h:NewL lo w v ts ps):∀ b,v.ownBlock=some b->lo <= b/\b < w.heap.size:=by
 obtain ⟨h1,⟨h2,h3⟩ | ⟨b',cap',cur,h2,h0,hb,-⟩⟩:=h.own
 ·intro b hb;rw [h2] at hb;simp [Value.ownBlock] at hb
 intro b hb';rw [h2] at hb';simp [Value.ownBlock] at hb';subst hb';exact ⟨h0,Bk.lt (t:=89) (cs:=cur) hb⟩
theorem own_frv {w w':World} {base n sz:Nat} {v:Value} {e:TypeId} {xs:List Value} {l:List Nat} (h:w.ownsRow base e sz v n xs) (hf:Fr l w w') (hn:∀ b,v.ownBlock=some b->b ∉ l):w'.ownsRow base e sz v n xs:=by
 obtain ⟨h1,h2 | ⟨b',cap',cur,h2,h0,hb',h6⟩⟩:=h
 ·exact ⟨h1,.inl h2⟩
 have hbk:Bk w b' e cur:=hb';exact ⟨h1,.inr ⟨b',cap',cur,h2,h0,(hf.block b' hbk.lt (hn b' (by rw [h2];rfl))).trans hb',h6⟩⟩
theorem NewL.fr {lo:Nat} {l:List Nat} {w w':World} {v:Value} {ts:List RT} {ps:List PT} (h:NewL lo w v ts ps) (hf:Fr l w w') (hl:∀ b ∈ l,b < lo):NewL lo w' v ts ps:=
 ⟨h.rep,fun p hp=>(h.mem p hp).fr_ hf _ (fun b hb hm=>by
  have:=(h.new b (blkL_mem hp b hb)).1;have:=hl b hm;omega),fun b hb=>⟨(h.new b hb).1,Nat.lt_of_lt_of_le (h.new b hb).2 hf.size⟩,h.off,
  own_frv h.own hf (fun b hb hm=>by have:=(h.blk b hb).1;have:=hl b hm;omega)⟩
theorem NewL.fr_nil {lo:Nat} {w w':World} {v:Value} {ts:List RT} {ps:List PT} (h:NewL lo w v ts ps) (hf:Fr [] w w'):NewL lo w' v ts ps:=h.fr hf (by simp)
theorem NewL.snoc {lo:Nat} {w wa w':World} {v v':Value} {ts:List RT} {ps:List PT} {t:RT} {p:PT} (h:NewL lo w v ts ps) (k:NewP lo w t p) (hk:∀ b ∈ blkP p,v.ownBlock ≠ some b) (hf:Fr [] w wa)
    (hown:w'.ownsRow lo 89 8 v' (ps.length+1) (ps.flatMap PT.cells ++ p.cells)) (hgr:wa.grownBy w' v.ownBlock) (hat:v'.ownBlock=v.ownBlock ∨ v'.ownBlock=some wa.heap.size) :
    NewL lo w' v' (ts ++ [t]) (ps ++ [p])/\Fr v.ownBlock.toList w w':=by
 have hfr:Fr v.ownBlock.toList w w':=hf.nil_.grown hgr (fun g hg => .inl (by rw [hg];simp));have hsz:=hf.size
 have hoff:∀ b ∈ blkL (ps ++ [p]),v.ownBlock ≠ some b/\lo <= b/\b < w.heap.size:=fun b hb=>by
  rw [blkL_append,blkL,blkL,List.append_nil] at hb;rcases List.mem_append.1 hb with hb | hb
  ·exact ⟨h.off b hb,h.new b hb⟩
  exact ⟨hk b hb,k.new b hb⟩
 refine ⟨⟨h.rep.snoc k.rep,fun q hq=>?_,fun b hb=>⟨(hoff b hb).2.1,Nat.lt_of_lt_of_le (hoff b hb).2.2 hfr.size⟩,fun b hb e=>?_,?_⟩,hfr⟩
 ·have hq':PMem w q:=by
   rcases List.mem_append.1 hq with hq | hq
   ·exact h.mem q hq
   simp at hq;subst hq;exact k.mem
  exact hq'.fr_ hfr _ (fun b hb hm=>by
   have:=(hoff b (blkL_mem hq b hb)).1
   simp at hm;exact this hm)
 ·have h3:=hoff b hb;rcases hat with h4 | h4
  ·rw [h4] at e;exact h3.1 e
  rw [h4] at e;injection e with e;omega
 have e1:(ps ++ [p]).length=ps.length+1:=by simp
 have e2:(ps ++ [p]).flatMap PT.cells=ps.flatMap PT.cells ++ p.cells:=by simp
 rw [e1,e2];exact hown
theorem NewL.part {lo:Nat} {w:World} {A:Option Addr} {n c:Nat} {ts:List RT} {ps:List PT} (h:NewL lo w (.slice A n c) ts ps) (k:Int) (mn mx:Int):NewP lo w (.mk k S4.empty mn mx ts) (.mk k 0 0 0 0 mn mx A c ps)/\n=ps.length:=by
 have hb:=h.blk;obtain ⟨h1,h2⟩:=h.own;refine ⟨⟨?_,?_,?_⟩,?_⟩
 ·rw [RepP_eq];exact ⟨rfl,by simp [RT.s,S4.empty,PT.s0],by simp [RT.s,S4.empty,PT.s1],by simp [RT.s,S4.empty,PT.s2],by simp [RT.s,S4.empty,PT.s3],rfl,rfl,h.rep⟩
 ·rw [PMem];rcases h2 with ⟨h2,h3⟩ | ⟨b',cap',cur,h2,h0,hb',h4,h5,h6,h7⟩
  ·have:ps=[]:=List.eq_nil_of_length_eq_zero h3;subst this;rw [LMem];trivial
  injection h2 with h2 h2n h2c
  subst h2
  have hcur:∀ (i:Nat) (q:PT),ps[i]?=some q->CellsAt w b' (0+i * 8) q.cells:=fun i q hq=>⟨cur,hb',fun j u hu=>by
   have hj:j < 8:=by
    rcases Nat.lt_or_ge j 8 with h8 | h8
    ·exact h8
    rw [List.getElem?_eq_none (by rw [cells_len];exact h8)] at hu;cases hu
   have h8:=flat_at (f:=PT.cells) (sz:=8) cells_len q j hj ps i hq;rw [hu] at h8;rw [Nat.zero_add,<-Array.getElem?_toList];rw [<-h7,List.getElem?_take] at h8;split at h8
   ·exact h8
   cases h8⟩
  have hall:∀ (r pre:List PT),ps=pre ++ r->LMem w (some ⟨b',0,none⟩) r pre.length:=by
   intro r
   induction r with
   | nil=>intro pre _;rw [LMem];trivial
   | cons q r ih=>
    intro pre hp;rw [LMem];have hq:ps[pre.length]?=some q:=by rw [hp];simp
    refine ⟨⟨b',0,rfl,hcur _ q hq⟩,h.mem q (by rw [hp];simp),?_⟩;have:=ih (pre ++ [q]) (by rw [hp];simp)
    simpa using this
  exact hall ps [] rfl
 ·intro b hb1;rw [blkP] at hb1;rcases List.mem_append.1 hb1 with hb1 | hb1
  ·cases A with
   | none=>simp at hb1
   | some a=>
    simp at hb1;subst hb1;exact hb _ rfl
  exact h.new b hb1
 rcases h2 with ⟨h2,h3⟩ | ⟨b',cap',cur,h2,-⟩
 ·injection h2 with _ h2 _;omega
 injection h2
end Go.Proofs.YtfofechcccodeaaGreatDoor
namespace Go.Proofs.YtfofechcccodeaaGreatDoor
open Go.RowKit
set_option linter.unusedVariables false
set_option linter.unusedSimpArgs false
mutual
def rightT:RT->Bool | .mk k _ mn mx l=>rightK k mn mx l.length && (if inner k then rightTL l else true)
def rightTL:List RT->Bool | []=>true | t :: r=>rightT t && rightTL r
end
mutual
def cntT:RT->Nat | .mk _ _ _ _ l=>cntTL l+1
def cntTL:List RT->Nat | []=>0 | t :: r=>cntT t+cntTL r
end
mutual
theorem RepP.right:∀ (t:RT) (p:PT),RepP t p->rightP p=rightT t
 | .mk k s mn mx l,p,h=>by
  rw [RepP] at h;obtain ⟨h1,-, -, -, -, h6,h7,h8⟩:=h;rw [rightP_eq,rightT,h1,h6,h7,h8.len,RepL.right l p.l h8]
theorem RepL.right:∀ (ts:List RT) (ps:List PT),RepL ts ps->rightL ps=rightTL ts
 | [],ps,h=>by rw [RepL_nil] at h;subst h;rw [rightL,rightTL]
 | t :: r,[],h=>by rw [RepL] at h;exact h.elim
 | t :: r,p :: ps,h=>by rw [RepL_cons] at h;rw [rightL,rightTL,RepP.right t p h.1,RepL.right r ps h.2]
end
mutual
theorem RepP.cnt:∀ (t:RT) (p:PT),RepP t p->cntP p=cntT t
 | .mk k s mn mx l,p,h=>by
  rw [RepP] at h;rw [cntP_eq,cntT,RepL.cnt l p.l h.2.2.2.2.2.2.2]
theorem RepL.cnt:∀ (ts:List RT) (ps:List PT),RepL ts ps->cntL ps=cntTL ts
 | [],ps,h=>by rw [RepL_nil] at h;subst h;rw [cntL,cntTL]
 | t :: r,[],h=>by rw [RepL] at h;exact h.elim
 | t :: r,p :: ps,h=>by rw [RepL_cons] at h;rw [cntL,cntTL,RepP.cnt t p h.1,RepL.cnt r ps h.2]
end
theorem rightTL_append:∀ (a b:List RT),rightTL (a ++ b)=(rightTL a && rightTL b)
 | [],b=>by rw [rightTL];rfl
 | t :: r,b=>by rw [List.cons_append,rightTL,rightTL_append r b,rightTL,Bool.and_assoc]
theorem cntTL_append:∀ (a b:List RT),cntTL (a ++ b)=cntTL a+cntTL b
 | [],b=>by rw [cntTL];simp
 | t :: r,b=>by rw [List.cons_append,cntTL,cntTL_append r b,cntTL];omega
theorem rightTL_one (t:RT):rightTL [t]=rightT t:=by rw [rightTL,rightTL,Bool.and_true]
theorem cntTL_one (t:RT):cntTL [t]=cntT t:=by rw [cntTL,cntTL];omega
theorem right_leaf (k:Int) (s:S4) (h:k=0 ∨ k=1 ∨ k=5 ∨ k=6):rightT (.mk k s 0 0 [])=true:=by
 rcases h with rfl | rfl | rfl | rfl <;> (rw [rightT];simp [rightK,inner])
theorem right_row {l:List RT} (h:rightTL l=true):rightT (rowT l)=true:=by
 match l,h with
 | [],h=>exact right_leaf 0 _ (.inl rfl)
 | [t],h=>rw [rightTL_one] at h;exact h
 | a :: b :: r,h=>show rightT (.mk 2 S4.empty 0 0 (a :: b :: r))=true;rw [rightT,h];simp [rightK,inner]
theorem right_join {l:List RT} (h:rightTL l=true) (hl:l ≠ []):rightT (joinT l)=true:=by
 match l,h,hl with
 | [t],h,_=>rw [rightTL_one] at h;exact h
 | a :: b :: r,h,_=>show rightT (.mk 3 S4.empty 0 0 (a :: b :: r))=true;rw [rightT,h];simp [rightK,inner]
theorem intervalT_range (l:List UInt8) (v n:Nat):0 <= (intervalT l v n).1 /\ -1 <= (intervalT l v n).2.1:=by
 unfold intervalT
 (repeat' split) <;> simp <;> omega
theorem signS_range (bs:List UInt8) (i:Nat):0 <= (signS bs i).1 /\ -1 <= (signS bs i).2.1:=by
 unfold signS;split
 ·simp
 split
 ·simp
 split
 ·simp
 split
 ·exact intervalT_range _ _ _
 simp
theorem right_times {bs:List UInt8} {i:Nat} {t:RT} (ht:rightT t=true) (hb:badS (signS bs i) ≠ true):rightT (tTimes (signS bs i).1 (signS bs i).2.1 t)=true:=by
 obtain ⟨h1,h2⟩:=signS_range bs i
 generalize signS bs i=g at *
 obtain ⟨a,b,n⟩:=g;unfold badS at hb;simp at hb h1 h2;obtain ⟨b1,b2,b3⟩:=hb;unfold tTimes;rw [rightT,rightTL_one,ht];simp [rightK,inner];refine ⟨h1,by omega,by omega,by omega,?_⟩;by_cases hb1:b = -1
 ·left;omega
 right
 have:=b3 hb1;omega
theorem signs_good {bs:List UInt8}:∀ (k:Nat) (t:RT) (i:Nat) (t':RT) (j:Nat),rightT t=true->signsL bs k t i = .ok (t',j)->rightT t'=true/\cntT t'+2 * i <= cntT t+2 * j
 | 0,t,i,t',j,ht,h=>by
  rw [signsL] at h;split at h
  ·injection h with h;injection h with h1 h2;subst h1 h2;exact ⟨ht,Nat.le_refl _⟩
  split at h <;> cases h
 | k+1,t,i,t',j,ht,h=>by
  rw [signsL] at h;split at h
  ·injection h with h;injection h with h1 h2;subst h1 h2;exact ⟨ht,Nat.le_refl _⟩
  rename_i h0
  split at h
  ·cases h
  rename_i hb
  have ih:=signs_good k _ _ _ _ (right_times ht hb) h;refine ⟨ih.1,?_⟩;have h3:=ih.2;unfold tTimes at h3;rw [cntT,cntTL_one] at h3;omega
theorem plain_good {bs:List UInt8} {i j:Nat} {t:RT} (hi:i < bs.length) (h:plainS bs i = .ok (t,j)):rightT t=true/\cntT t=1:=by
 have leaf:∀ (k:Int) (s:S4),(k=0 ∨ k=1 ∨ k=5 ∨ k=6)->rightT (.mk k s 0 0 [])=true/\cntT (.mk k s 0 0 [])=1:=fun k s hk=>⟨right_leaf k s hk,by rw [cntT,cntTL]⟩;unfold plainS at h;split at h
 ·cases h
 split at h
 ·cases hb:bracketS bs i with
  | error p=>rw [hb] at h;cases h
  | ok p=>
   obtain ⟨S,n⟩:=p;rw [hb] at h;simp only [setR] at h
   injection h with h;injection h with h1 h2;rw [<-h1];exact leaf _ _ (by omega)
 (repeat' split at h) <;> first | (injection h with h;injection h with h1 h2;rw [<-h1];exact leaf _ _ (by omega)) | cases h
theorem read_good (bs:List UInt8):∀ f:Nat,
    (∀ d i acc t j,i <= bs.length->rightTL acc=true->exprF bs f d i acc = .ok (t,j)->rightT t=true/\∀ i0,i0 <= i->cntTL acc+acc.length+2 * i0 <= 2 * i->cntT t+2 * i0 <= 2 * j+1) /\
    (∀ d i acc t j,i <= bs.length->rightTL acc=true->branchF bs f d i acc = .ok (t,j)->rightT t=true/\∀ i0,i0 <= i->cntTL acc+acc.length+2 * i0 <= 2 * i->cntT t+2 * i0 <= 2 * j+1) /\
    (∀ d i t j,i < bs.length->pieceF bs f d i = .ok (t,j)->rightT t=true/\cntT t+1+2 * i <= 2 * j) /\
    (∀ d i t j,i < bs.length->atomF bs f d i = .ok (t,j)->rightT t=true/\cntT t+1+2 * i <= 2 * j)
 | 0=>⟨fun _ _ _ _ _ _ _ h=>(by rw [exprF] at h;cases h),fun _ _ _ _ _ _ _ h=>(by rw [branchF] at h;cases h),fun _ _ _ _ _ h=>(by rw [pieceF] at h;cases h),fun _ _ _ _ _ h=>(by rw [atomF] at h;cases h)⟩
 | f+1=>by
  obtain ⟨hE,hB,hP,hA⟩:=read_good bs f;obtain ⟨-, lB,lP,lA⟩:=readF_le bs f;refine ⟨fun d i acc t j hi hr h=>?_,fun d i acc t j hi hr h=>?_,fun d i t j hi h=>?_,fun d i t j hi h=>?_⟩
  ·rw [exprF] at h
   cases hb:branchF bs f d i [] with
   | error p=>rw [hb] at h;cases h
   | ok p=>
    obtain ⟨t1,j1⟩:=p;rw [hb] at h;simp only at h;have h1:=lB d i [] t1 j1 hi hb;obtain ⟨g1,g2⟩:=hB d i [] t1 j1 hi (by rw [rightTL]) hb;have g3:=g2 i (Nat.le_refl _) (by rw [cntTL];simp);have hr':rightTL (acc ++ [t1])=true:=by rw [rightTL_append,hr,rightTL_one,g1];rfl
    by_cases h124:bn bs j1=124
    ·rw [if_pos h124] at h;have:=bn_pos h124 (by omega);obtain ⟨k1,k2⟩:=hE d (j1+1) _ t j (by omega) hr' h;refine ⟨k1,fun i0 hi0 hc=>k2 i0 (by omega) ?_⟩;rw [cntTL_append,cntTL_one,List.length_append];simp;omega
    rw [if_neg h124] at h
    injection h with h;injection h with h2 h3
    subst h2 h3;refine ⟨right_join hr' (by simp),fun i0 hi0 hc=>?_⟩
    match acc,hc with
    | [],hc=>
     show cntT t1+2 * i0 <= _;rw [cntTL] at hc;simp at hc;omega
    | a :: r,hc=>
     have hj:joinT (a :: r ++ [t1]) = .mk 3 S4.empty 0 0 (a :: r ++ [t1]):=by
      match r with
      | []=>rfl
      | b :: r=>rfl
     rw [hj,cntT,cntTL_append,cntTL_one];simp at hc ⊢; omega
  ·rw [branchF] at h;by_cases hg:goesOn bs i
   ·rw [if_pos hg] at h
    cases hb:pieceF bs f d i with
    | error p=>rw [hb] at h;cases h
    | ok p=>
     obtain ⟨t1,j1⟩:=p;rw [hb] at h;have h1:=lP d i t1 j1 hg.1 hb;obtain ⟨g1,g2⟩:=hP d i t1 j1 hg.1 hb;have hr':rightTL (acc ++ [t1])=true:=by rw [rightTL_append,hr,rightTL_one,g1];rfl
     obtain ⟨k1,k2⟩:=hB d j1 _ t j h1.2 hr' h;refine ⟨k1,fun i0 hi0 hc=>k2 i0 (by omega) ?_⟩;rw [cntTL_append,cntTL_one,List.length_append];simp;omega
   rw [if_neg hg] at h
   injection h with h;injection h with h2 h3
   subst h2 h3;refine ⟨right_row hr,fun i0 hi0 hc=>?_⟩
   match acc,hc with
   | [],hc=>show cntT tNone+2 * i0 <= _;unfold tNone;rw [cntT,cntTL];omega
   | [a],hc=>show cntT a+2 * i0 <= _;rw [cntTL_one] at hc;simp at hc;omega
   | a :: b :: r,hc=>
    show cntT (.mk 2 S4.empty 0 0 (a :: b :: r))+2 * i0 <= _;rw [cntT];simp at hc;omega
  ·rw [pieceF] at h
   cases hb:atomF bs f d i with
   | error p=>rw [hb] at h;cases h
   | ok p=>
    obtain ⟨t1,j1⟩:=p;rw [hb] at h;obtain ⟨g1,g2⟩:=hA d i t1 j1 hi hb;obtain ⟨k1,k2⟩:=signs_good 8 t1 j1 t j g1 h;exact ⟨k1,by omega⟩
  rw [atomF] at h;split at h
  ·split at h
   ·cases h
   cases hb:exprF bs f (d+1) (i+1) [] with
   | error p=>rw [hb] at h;cases h
   | ok p=>
    obtain ⟨t1,j1⟩:=p;rw [hb] at h;simp only [closeT] at h;split at h
    ·injection h with h;injection h with h2 h3
     subst h2 h3;obtain ⟨g1,g2⟩:=hE (d+1) (i+1) [] t1 j1 (by omega) (by rw [rightTL]) hb;have g3:=g2 (i+1) (Nat.le_refl _) (by rw [cntTL];simp);exact ⟨g1,by omega⟩
    cases h
  obtain ⟨g1,g2⟩:=plain_good hi h;have:=plainS_le hi h;exact ⟨g1,by omega⟩
theorem parse_good {bs:List UInt8} {t:RT} (h:parseS bs = .ok t):rightT t=true/\cntT t <= 2 * bs.length+1:=by
 unfold parseS at h;by_cases h1:1000 < bs.length
 ·rw [if_pos h1] at h;cases h
 rw [if_neg h1] at h
 cases hb:exprF bs (6 * bs.length+5) 0 0 [] with
 | error q=>rw [hb] at h;cases h
 | ok q=>
  obtain ⟨t1,j⟩:=q;rw [hb] at h;simp only at h;have hle:=(readF_le bs _).1 0 0 [] t1 j (Nat.zero_le _) hb;obtain ⟨g1,g2⟩:=(read_good bs _).1 0 0 [] t1 j (Nat.zero_le _) (by rw [rightTL]) hb;have g3:=g2 0 (Nat.le_refl _) (by rw [cntTL];simp);by_cases h2:j < bs.length
  ·rw [if_pos h2] at h;cases h
  rw [if_neg h2] at h
  injection h with h
  subst h;exact ⟨g1,by omega⟩
end Go.Proofs.YtfofechcccodeaaGreatDoor
