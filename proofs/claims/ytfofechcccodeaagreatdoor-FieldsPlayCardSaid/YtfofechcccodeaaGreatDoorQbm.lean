/-
  Small texts in one (RfP, RfB, RfQ). No conditions.
-/
import Derived.Test.YtfofechcccodeaaGreatDoorQbg
import Derived.Test.YtfofechcccodeaaGreatDoorQat
import Derived.Test.YtfofechcccodeaaGreatDoorQbh
import Derived.Test.YtfofechcccodeaaGreatDoorQax
import Derived.Test.YtfofechcccodeaaGreatDoorQbi
namespace Go.Proofs.YtfofechcccodeaaGreatDoor
open Go.RowKit
set_option linter.unusedVariables false
set_option linter.unusedSimpArgs false
def PT.rset (p:PT):S4:=⟨p.s0.toNat,p.s1.toNat,p.s2.toNat,p.s3.toNat⟩
def PT.rcells (p:PT):List Value:=partC p.k p.rset p.mn p.mx (.slice p.A p.l.length p.c)
theorem rcells_len (p:PT):p.rcells.length=260:=partC_len _ _ _ _ _
theorem rcells_one (p:PT):∀ v ∈ p.rcells,v.oneCell'=true:=partC_one _ _ _ _ (by rfl)
theorem RepP.rset {t:RT} {p:PT} (h:RepP t p):p.rset=t.s:=by
 rw [RepP_eq] at h;obtain ⟨-, h0,h1,h2,h3,-⟩:=h;unfold PT.rset;rw [h0,h1,h2,h3];simp
theorem RepP.rcells {t:RT} {p:PT} (h:RepP t p):p.rcells=partC t.k t.s t.mn t.mx (.slice p.A p.l.length p.c):=by
 unfold PT.rcells;rw [h.rset];rw [RepP_eq] at h;obtain ⟨h0,-, -, -, -, h1,h2,-⟩:=h;rw [h0,h1,h2]
def RCellsAt (w:World) (b o:Nat) (cs:List Value):Prop:=∃ arr,Bk w b 69 arr/\∀ j u,cs[j]?=some u->arr[o+j]?=some u
mutual
def RPMem (w:World):PT->Prop | .mk _ _ _ _ _ _ _ A _ l=>RLMem w A l 0
def RLMem (w:World) (A:Option Addr):List PT->Nat->Prop
 | [],_=>True
 | t :: r,i=>(∃ b off,A=some ⟨b,off,none⟩/\RCellsAt w b (off+i * 260) t.rcells)/\RPMem w t/\RLMem w A r (i+1)
end
theorem RPMem_eq (w:World) (t:PT):RPMem w t=RLMem w t.A t.l 0:=by cases t;rw [RPMem];rfl
theorem RCellsAt.cell {w:World} {b o:Nat} {cs:List Value} (h:RCellsAt w b o cs) {j:Nat} {u:Value} (hu:cs[j]?=some u):w.cell? ⟨b,o+j,none⟩=some u:=by
 obtain ⟨arr,h1,h2⟩:=h;rw [h1.cell];exact h2 j u hu
theorem RLMem.get {w:World} {A:Option Addr}:∀ {l:List PT} {i k:Nat} {t:PT},RLMem w A l i->l[k]?=some t->(∃ b off,A=some ⟨b,off,none⟩/\RCellsAt w b (off+(i+k) * 260) t.rcells)/\RPMem w t
 | [],i,k,t,h,ht=>by simp at ht
 | u :: r,i,0,t,h,ht=>by
  rw [RLMem] at h;simp at ht;subst ht;exact ⟨h.1,h.2.1⟩
 | u :: r,i,k+1,t,h,ht=>by
  rw [RLMem] at h;have:=RLMem.get h.2.2 (show r[k]?=some t by simpa using ht);rw [show i+(k+1)=i+1+k by omega];exact this
theorem RCellsAt.fr {l:List Nat} {w w':World} {b o:Nat} {cs:List Value} (h:RCellsAt w b o cs) (hf:Fr l w w') (hb:b ∉ l):RCellsAt w' b o cs:=by
 obtain ⟨arr,h1,h2⟩:=h;exact ⟨arr,h1.fr hf hb,h2⟩
mutual
theorem RPMem.fr_ {l:List Nat} {w w':World} (hf:Fr l w w'):∀ t,(∀ b ∈ blkP t,b ∉ l)->RPMem w t->RPMem w' t
 | .mk k _ _ _ _ _ _ A _ ts,hn,h=>by
  rw [blkP] at hn;rw [RPMem] at h ⊢; refine RLMem.fr_ hf A ts 0 (fun hne a ha=>hn a.block (by rw [ha];simp)) (fun b hb=>hn b (List.mem_append_right _ hb)) h
theorem RLMem.fr_ {l:List Nat} {w w':World} (hf:Fr l w w') (A:Option Addr):∀ (ts:List PT) (i:Nat),(ts ≠ []->∀ a,A=some a->a.block ∉ l)->(∀ b ∈ blkL ts,b ∉ l)->RLMem w A ts i->RLMem w' A ts i
 | [],i,_,_,h=>by rw [RLMem];trivial
 | t :: r,i,hA,hn,h=>by
  rw [RLMem] at h ⊢; rw [blkL] at hn;obtain ⟨⟨b,off,hAe,hc⟩,h2,h3⟩:=h;exact ⟨⟨b,off,hAe,hc.fr hf (hA (by simp) _ hAe)⟩,RPMem.fr_ hf t (fun b hb=>hn b (List.mem_append_left _ hb)) h2,RLMem.fr_ hf A r (i+1) (fun _=>hA (by simp)) (fun b hb=>hn b (List.mem_append_right _ hb)) h3⟩
end
structure NewR (lo:Nat) (w:World) (t:RT) (p:PT):Prop where
 rep:RepP t p
 mem:RPMem w p
 new:∀ b ∈ blkP p,lo <= b/\b < w.heap.size
theorem NewR.fr {lo:Nat} {l:List Nat} {w w':World} {t:RT} {p:PT} (h:NewR lo w t p) (hf:Fr l w w') (hl:∀ b ∈ l,b < lo ∨ b ∉ blkP p):NewR lo w' t p:=
 ⟨h.rep,h.mem.fr_ hf _ (fun b hb hm=>by
  rcases hl b hm with h1 | h1
  ·have:=(h.new b hb).1;omega
  exact h1 hb),fun b hb=>⟨(h.new b hb).1,Nat.lt_of_lt_of_le (h.new b hb).2 hf.size⟩⟩
theorem NewR.fr_nil {lo:Nat} {w w':World} {t:RT} {p:PT} (h:NewR lo w t p) (hf:Fr [] w w'):NewR lo w' t p:=h.fr hf (by simp)
theorem NewR.lower {lo lo':Nat} {w:World} {t:RT} {p:PT} (h:NewR lo w t p) (hl:lo' <= lo):NewR lo' w t p:=
 ⟨h.rep,h.mem,fun b hb=>⟨Nat.le_trans hl (h.new b hb).1,(h.new b hb).2⟩⟩
structure NewQ (lo:Nat) (w:World) (v:Value) (ts:List RT) (ps:List PT):Prop where
 rep:RepL ts ps
 mem:∀ p ∈ ps,RPMem w p
 new:∀ b ∈ blkL ps,lo <= b/\b < w.heap.size
 off:∀ b ∈ blkL ps,v.ownBlock ≠ some b
 own:w.ownsRow lo 69 260 v ps.length (ps.flatMap PT.rcells)
theorem NewQ.nil (lo:Nat) (w:World):NewQ lo w (.slice none 0 0) [] []:=
 ⟨by rw [RepL_nil],by simp,by simp [blkL],by simp [blkL],⟨by simp,.inl ⟨rfl,rfl⟩⟩⟩
theorem NewQ.form {lo:Nat} {w:World} {v:Value} {ts:List RT} {ps:List PT} (h:NewQ lo w v ts ps):∃ A c,v = .slice A ps.length c:=by
 obtain ⟨h1,⟨h2,h3⟩ | ⟨b',cap',cur,h2,-⟩⟩:=h.own
 ·exact ⟨none,0,by rw [h2,h3]⟩
 exact ⟨_,_,h2⟩
theorem NewQ.blk {lo:Nat} {w:World} {v:Value} {ts:List RT} {ps:List PT} (h:NewQ lo w v ts ps):∀ b,v.ownBlock=some b->lo <= b/\b < w.heap.size:=by
 obtain ⟨h1,⟨h2,h3⟩ | ⟨b',cap',cur,h2,h0,hb,-⟩⟩:=h.own
 ·intro b hb;rw [h2] at hb;simp [Value.ownBlock] at hb
 intro b hb';rw [h2] at hb';simp [Value.ownBlock] at hb';subst hb';exact ⟨h0,Bk.lt (t:=69) (cs:=cur) hb⟩
theorem NewQ.fr {lo:Nat} {l:List Nat} {w w':World} {v:Value} {ts:List RT} {ps:List PT} (h:NewQ lo w v ts ps) (hf:Fr l w w') (hl:∀ b ∈ l,b < lo):NewQ lo w' v ts ps:=
 ⟨h.rep,fun p hp=>(h.mem p hp).fr_ hf _ (fun b hb hm=>by
  have:=(h.new b (blkL_mem hp b hb)).1;have:=hl b hm;omega),fun b hb=>⟨(h.new b hb).1,Nat.lt_of_lt_of_le (h.new b hb).2 hf.size⟩,h.off,
  own_frv h.own hf (fun b hb hm=>by have:=(h.blk b hb).1;have:=hl b hm;omega)⟩
theorem NewQ.fr_nil {lo:Nat} {w w':World} {v:Value} {ts:List RT} {ps:List PT} (h:NewQ lo w v ts ps) (hf:Fr [] w w'):NewQ lo w' v ts ps:=h.fr hf (by simp)
theorem NewQ.snoc {lo:Nat} {w wa w':World} {v v':Value} {ts:List RT} {ps:List PT} {t:RT} {p:PT} (h:NewQ lo w v ts ps) (k:NewR lo w t p) (hk:∀ b ∈ blkP p,v.ownBlock ≠ some b) (hf:Fr [] w wa)
    (hown:w'.ownsRow lo 69 260 v' (ps.length+1) (ps.flatMap PT.rcells ++ p.rcells)) (hgr:wa.grownBy w' v.ownBlock) (hat:v'.ownBlock=v.ownBlock ∨ v'.ownBlock=some wa.heap.size) :
    NewQ lo w' v' (ts ++ [t]) (ps ++ [p])/\Fr v.ownBlock.toList w w':=by
 have hfr:Fr v.ownBlock.toList w w':=hf.nil_.grown hgr (fun g hg => .inl (by rw [hg];simp));have hsz:=hf.size
 have hoff:∀ b ∈ blkL (ps ++ [p]),v.ownBlock ≠ some b/\lo <= b/\b < w.heap.size:=fun b hb=>by
  rw [blkL_append,blkL,blkL,List.append_nil] at hb;rcases List.mem_append.1 hb with hb | hb
  ·exact ⟨h.off b hb,h.new b hb⟩
  exact ⟨hk b hb,k.new b hb⟩
 refine ⟨⟨h.rep.snoc k.rep,fun q hq=>?_,fun b hb=>⟨(hoff b hb).2.1,Nat.lt_of_lt_of_le (hoff b hb).2.2 hfr.size⟩,fun b hb e=>?_,?_⟩,hfr⟩
 ·have hq':RPMem w q:=by
   rcases List.mem_append.1 hq with hq | hq
   ·exact h.mem q hq
   simp at hq;subst hq;exact k.mem
  exact hq'.fr_ hfr _ (fun b hb hm=>by
   have:=(hoff b (blkL_mem hq b hb)).1
   simp at hm;exact this hm)
 ·have h3:=hoff b hb;rcases hat with h4 | h4
  ·rw [h4] at e;exact h3.1 e
  rw [h4] at e;injection e with e;omega
 have e1:(ps ++ [p]).length=ps.length+1:=by simp
 have e2:(ps ++ [p]).flatMap PT.rcells=ps.flatMap PT.rcells ++ p.rcells:=by simp
 rw [e1,e2];exact hown
theorem NewQ.part {lo:Nat} {w:World} {A:Option Addr} {n c:Nat} {ts:List RT} {ps:List PT} (h:NewQ lo w (.slice A n c) ts ps) (k:Int) (mn mx:Int):NewR lo w (.mk k S4.empty mn mx ts) (.mk k 0 0 0 0 mn mx A c ps)/\n=ps.length:=by
 have hb:=h.blk;obtain ⟨h1,h2⟩:=h.own;refine ⟨⟨?_,?_,?_⟩,?_⟩
 ·rw [RepP_eq];exact ⟨rfl,by simp [RT.s,S4.empty,PT.s0],by simp [RT.s,S4.empty,PT.s1],by simp [RT.s,S4.empty,PT.s2],by simp [RT.s,S4.empty,PT.s3],rfl,rfl,h.rep⟩
 ·rw [RPMem];rcases h2 with ⟨h2,h3⟩ | ⟨b',cap',cur,h2,h0,hb',h4,h5,h6,h7⟩
  ·have:ps=[]:=List.eq_nil_of_length_eq_zero h3;subst this;rw [RLMem];trivial
  injection h2 with h2 h2n h2c
  subst h2
  have hcur:∀ (i:Nat) (q:PT),ps[i]?=some q->RCellsAt w b' (0+i * 260) q.rcells:=fun i q hq=>⟨cur,hb',fun j u hu=>by
   have hj:j < 260:=by
    rcases Nat.lt_or_ge j 260 with h8 | h8
    ·exact h8
    rw [List.getElem?_eq_none (by rw [rcells_len];exact h8)] at hu;cases hu
   have h8:=flat_at (f:=PT.rcells) (sz:=260) rcells_len q j hj ps i hq;rw [hu] at h8;rw [Nat.zero_add,<-Array.getElem?_toList];rw [<-h7,List.getElem?_take] at h8;split at h8
   ·exact h8
   cases h8⟩
  have hall:∀ (r pre:List PT),ps=pre ++ r->RLMem w (some ⟨b',0,none⟩) r pre.length:=by
   intro r
   induction r with
   | nil=>intro pre _;rw [RLMem];trivial
   | cons q r ih=>
    intro pre hp;rw [RLMem];have hq:ps[pre.length]?=some q:=by rw [hp];simp
    refine ⟨⟨b',0,rfl,hcur _ q hq⟩,h.mem q (by rw [hp];simp),?_⟩;have:=ih (pre ++ [q]) (by rw [hp];simp)
    simpa using this
  exact hall ps [] rfl
 ·intro b hb1;rw [blkP] at hb1;rcases List.mem_append.1 hb1 with hb1 | hb1
  ·cases A with
   | none=>simp at hb1
   | some a=>
    simp at hb1;subst hb1;exact hb _ rfl
  exact h.new b hb1
 rcases h2 with ⟨h2,h3⟩ | ⟨b',cap',cur,h2,-⟩
 ·injection h2 with _ h2 _;omega
 injection h2
end Go.Proofs.YtfofechcccodeaaGreatDoor
namespace Go.Proofs.YtfofechcccodeaaGreatDoor
open Go.RowKit
set_option linter.unusedVariables false
set_option linter.unusedSimpArgs false
theorem isS_occ (bs t:List UInt8) (i:Nat) (ht:t ≠ []):isS bs i t=Lib.occAt bs t i:=by
 unfold isS;by_cases h:i+t.length <= bs.length
 ·rw [Lib.occAt_iff_take bs t i h];simp [h]
 have h1:decide (i+t.length <= bs.length)=false:=by simpa using h
 rw [h1,Bool.false_and]
 cases h2:Lib.occAt bs t i with
 | false=>rfl
 | true=>
  rcases Lib.occAt_room h2 with h3 | h3
  ·omega
  exact absurd h3 ht
theorem occAt_drop (bs t:List UInt8) (k j:Nat):Lib.occAt (bs.drop k) t j=Lib.occAt bs t (k+j):=by unfold Lib.occAt;rw [List.drop_drop]
theorem mem_open_none {bs:List UInt8} {n:Nat} (ho:opensS bs n=true) (h:∀ j,n+2 <= j->isS bs j [58,93]=false):memberS bs n = .error (bs.length,7):=by
 have e:Lib.index (bs.drop (n+2)) [58,93] = -1:=Lib.index_none fun j _=>by rw [occAt_drop,<-isS_occ _ _ _ (by simp)];exact h _ (by omega)
 unfold memberS;rw [if_pos ho,e,if_pos (by decide)]
theorem mem_open_at {bs:List UInt8} {n e:Nat} (ho:opensS bs n=true) (he:n+2 <= e) (hl:e < bs.length) (h1:isS bs e [58,93]=true) (h2:∀ j,n+2 <= j->j < e->isS bs j [58,93]=false) :
    memberS bs n=match classS ((bs.drop (n+2)).take (e - (n+2))) with
     | none => .error (n,8)
     | some R => .ok (R,e+2):=by
 have e1:Lib.index (bs.drop (n+2)) [58,93]=((e - (n+2):Nat):Int):=Lib.index_first (by simp;omega) (by rw [occAt_drop,<-isS_occ _ _ _ (by simp),show n+2+(e - (n+2))=e by omega];exact h1)
  (fun j hj=>by rw [occAt_drop,<-isS_occ _ _ _ (by simp)];exact h2 _ (by omega) (by omega))
 unfold memberS;rw [if_pos ho,e1,if_neg (by omega),Int.toNat_natCast];split
 ·rename_i h3;rw [h3]
 rename_i R h3;rw [h3];simp only [];congr 2;omega
theorem brk_go {bs:List UInt8} {first n k:Nat} {S:S4} (h:n=first ∨ bs.length <= n ∨ bn bs n ≠ 93) (hk:0 < k) :
    brkL bs first k n S=match memberS bs n with
     | .error p => .error p
     | .ok (m,j)=>brkL bs first (k - 1) j (S.or m):=by
 obtain ⟨k,rfl⟩:∃ k',k=k'+1:=⟨k - 1,by omega⟩;rw [brkL,if_pos h];rfl
theorem brk_stop {bs:List UInt8} {first n k:Nat} {S:S4} (h:¬ (n=first ∨ bs.length <= n ∨ bn bs n ≠ 93)):brkL bs first k n S = .ok (S,n):=by
 cases k with
 | zero=>rw [brkL]
 | succ k=>rw [brkL,if_neg h]
theorem brk_dash {bs:List UInt8} {first n k f nx:Nat} {S:S4} (h:n=first ∨ bs.length <= n ∨ bn bs n ≠ 93) (ho:opensS bs n=false) (hs:singleS bs n=some (f,nx)) (hk:bs.length < n+k) (h1:nx+1=bs.length) (h2:bn bs nx=45) :
    brkL bs first k n S = .error (bs.length,7):=by
 have hlt:=singleS_lt hs;rw [brk_go h (by omega)]
 have m1:memberS bs n = .ok (S4.range f f,nx):=by
  unfold memberS;rw [ho,hs];simp only [Bool.false_eq_true,if_false];rw [if_pos (.inl (by omega))]
 rw [m1];simp only [];rw [brk_go (.inr (.inr (by omega))) (by omega)]
 have m2:memberS bs nx = .ok (S4.range 45 45,nx+1):=by
  have ho2:opensS bs nx=false:=by unfold opensS;simp;omega
  have hs2:singleS bs nx=some (45,nx+1):=by
   unfold singleS;rw [if_neg (by omega),if_pos (by omega),h2]
  unfold memberS;rw [ho2,hs2];simp only [Bool.false_eq_true,if_false];rw [if_pos (.inl (by omega))]
 rw [m2];simp only [];rw [brk_go (.inr (.inl (by omega))) (by omega),h1,member_past (Nat.le_refl _)]
def bitsF (f:Nat->Bool):List Value:=(List.range 256).map fun c => .bool (f c)
theorem bitsF_mem (s:S4):bitsF s.mem=bitsV s:=rfl
theorem bitsF_len (f:Nat->Bool):(bitsF f).length=256:=by simp [bitsF]
theorem bitsF_get (f:Nat->Bool) {c:Nat} (h:c < 256):(bitsF f)[c]?=some (.bool (f c)):=by simp [bitsF,h]
theorem bitsF_ext {f g:Nat->Bool} (h:∀ c,c < 256->f c=g c):bitsF f=bitsF g:=by
 unfold bitsF;exact List.map_congr_left fun c hc=>by rw [h c (by simpa using hc)]
theorem bitsF_set (f:Nat->Bool) {c:Nat} (h:c < 256) (b:Bool):(bitsF f).set c (.bool b)=bitsF fun x=>if x=c then b else f x:=by
 apply List.ext_getElem?
 intro j;rw [List.getElem?_set];by_cases hj:j < 256
 ·by_cases hc:c=j
  ·subst hc;rw [if_pos rfl,if_pos (by rw [bitsF_len];exact h),bitsF_get _ h,if_pos rfl]
  rw [if_neg hc,bitsF_get f hj,bitsF_get _ hj,if_neg (fun h=>hc h.symm)]
 rw [if_neg (by omega),List.getElem?_eq_none (by rw [bitsF_len];omega),List.getElem?_eq_none (by rw [bitsF_len];omega)]
theorem bitsF_put (f:Nat->Bool) {c:Nat} (h:c < 256) (b:Bool):(bitsF f).toArray.setIfInBounds c (.bool b)=(bitsF fun x=>if x=c then b else f x).toArray:=by
 rw [<-bitsF_set f h b];simp
theorem ret_row_ {P:Program} {fn:Func} {p:Tmp} {T:TypeId} (h:fn.results=#[.cell p T]) {R:Ending->World->Prop} {a:Act} {w:World} (g:Nat) (C:List Value) (d:TypeDesc) (hp:a.tmps.getD p undef = .pointer (some ⟨g,0,none⟩))
    {t:TypeId} (hb:Bk w g t C.toArray) (hu:P.underlying T=some d) (hd:d.isRow=true) (hi:(P.info? T).map (·.size)=some C.length) (hdf:a.defers=[]) (hR:R (.returned (.agg C.toArray)) w):bodyPost P fn R .ret a w:=
 bodyPost_ret (v := .agg C.toArray) (results_cell_row h _ _ g t C.toArray (0,0) d hp hb hu (by cases d <;> simp_all [TypeDesc.isRow]) (by simpa using hi)) hdf hR
end Go.Proofs.YtfofechcccodeaaGreatDoor
namespace Go.Proofs.YtfofechcccodeaaGreatDoor
open Go.RowKit
set_option linter.unusedVariables false
set_option linter.unusedSimpArgs false
theorem read_end (bs:List UInt8):∀ f:Nat,
    (∀ d i acc t j,exprF bs f d i acc = .ok (t,j)->bs.length <= j ∨ bn bs j=41)/\(∀ d i acc t j,branchF bs f d i acc = .ok (t,j)->¬ goesOn bs j)
 | 0=>⟨fun _ _ _ _ _ h=>(by simp [exprF] at h),fun _ _ _ _ _ h=>(by simp [branchF] at h)⟩
 | f+1=>by
  obtain ⟨hE,hB⟩:=read_end bs f;refine ⟨fun d i acc t j h=>?_,fun d i acc t j h=>?_⟩
  ·unfold exprF at h
   cases hb:branchF bs f d i [] with
   | error p=>rw [hb] at h;cases h
   | ok p=>
    obtain ⟨t1,j1⟩:=p;rw [hb] at h;have h1:=hB d i [] t1 j1 hb;simp only at h;split at h
    ·exact hE _ _ _ _ _ h
    rename_i h2
    injection h with h;injection h with h3 h4
    subst h4;unfold goesOn at h1;omega
  unfold branchF at h;split at h
  ·cases hb:pieceF bs f d i with
   | error p=>rw [hb] at h;cases h
   | ok p=>
    obtain ⟨t1,j1⟩:=p;rw [hb] at h;exact hB _ _ _ _ _ h
  rename_i hg
  injection h with h;injection h with h3 h4
  subst h4;exact hg
theorem zeroPC_one:∀ v ∈ zeroPC,v.oneCell'=true:=partC_one _ _ _ _ (by rfl)
theorem Bk.cellL {w:World} {g:Nat} {t:TypeId} {l:List Value} (h:Bk w g t l.toArray) {i:Nat} {v:Value} (hi:l[i]?=some v):w.cell? ⟨g,i,none⟩=some v:=h.cell_ (by simpa using hi)
def RPost (w:World) (R:Res) (e:Ending) (w':World):Prop:=match R with
 | .ok (t,j)=>∃ p,e = .returned (.agg (gotC p.rcells (j:Int) 0 0).toArray)/\NewR w.heap.size w' t p/\Fr [] w w'
 | .error (i,c)=>e = .returned (.agg (gotC zeroPC 0 (c:Int) (i:Int)).toArray)/\Fr [] w w'
theorem RPost.ok_ {w w':World} {R:Res} {e:Ending} {t:RT} {j:Nat} {p:PT} (hR:R = .ok (t,j)) (he:e = .returned (.agg (gotC p.rcells (j:Int) 0 0).toArray)) (hn:NewR w.heap.size w' t p) (hf:Fr [] w w'):RPost w R e w':=by
 subst hR;exact ⟨p,he,hn,hf⟩
theorem RPost.err {w w':World} {R:Res} {e:Ending} {i c:Nat} (hR:R = .error (i,c)) (he:e = .returned (.agg (gotC zeroPC 0 (c:Int) (i:Int)).toArray)) (hf:Fr [] w w'):RPost w R e w':=by
 subst hR;exact ⟨he,hf⟩
def rleafP (k:Int) (s:S4):PT := .mk k (s.a:Int) (s.b:Int) (s.c:Int) (s.d:Int) 0 0 none 0 []
theorem rleafP_cells (k:Int) (s:S4):(rleafP k s).rcells=partC k s 0 0 (.slice none 0 0):=by
 unfold PT.rcells rleafP PT.rset;simp [PT.k,PT.s0,PT.s1,PT.s2,PT.s3,PT.mn,PT.mx,PT.A,PT.c,PT.l]
theorem rleafP_new (lo:Nat) (w:World) (k:Int) (s:S4):NewR lo w (.mk k s 0 0 []) (rleafP k s):=
 ⟨by rw [RepP_eq];exact ⟨rfl,rfl,rfl,rfl,rfl,rfl,rfl,by show RepL [] [];rw [RepL_nil]⟩,by unfold rleafP;rw [RPMem,RLMem];trivial,by unfold rleafP;simp [blkP,blkL]⟩
end Go.Proofs.YtfofechcccodeaaGreatDoor
