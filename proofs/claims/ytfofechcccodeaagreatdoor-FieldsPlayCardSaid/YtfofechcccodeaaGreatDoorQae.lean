/-
  Small texts in one (Pt, Mk, Pm0, Pm, Ms). No conditions.
-/
import Derived.Test.YtfofechcccodeaaGreatDoorQac
import Derived.Test.YtfofechcccodeaaGreatDoorRows
import Derived.LaidEql
import Derived.Maps.OwnSet
import Derived.Test.YtfofechcccodeaaGreatDoorQaa
import Derived.Deep.QuietTactic
import Derived.BigQuiet
import Derived.IntWalk
import Derived.Outline
namespace Go.Proofs.YtfofechcccodeaaGreatDoor
set_option linter.unusedVariables false
set_option linter.unusedSimpArgs false
inductive PT where
 | mk (k s0 s1 s2 s3 mn mx:Int) (A:Option Addr) (c:Nat) (l:List PT)
namespace PT
def k:PT->Int | mk k _ _ _ _ _ _ _ _ _=>k
def s0:PT->Int | mk _ s _ _ _ _ _ _ _ _=>s
def s1:PT->Int | mk _ _ s _ _ _ _ _ _ _=>s
def s2:PT->Int | mk _ _ _ s _ _ _ _ _ _=>s
def s3:PT->Int | mk _ _ _ _ s _ _ _ _ _=>s
def mn:PT->Int | mk _ _ _ _ _ s _ _ _ _=>s
def mx:PT->Int | mk _ _ _ _ _ _ s _ _ _=>s
def A:PT->Option Addr | mk _ _ _ _ _ _ _ a _ _=>a
def c:PT->Nat | mk _ _ _ _ _ _ _ _ a _=>a
def l:PT->List PT | mk _ _ _ _ _ _ _ _ _ a=>a
def cells (t:PT):List Value:=[.int .i64 t.k,.int .u64 t.s0,.int .u64 t.s1,.int .u64 t.s2,.int .u64 t.s3,.int .i64 t.mn,.int .i64 t.mx,.slice t.A t.l.length t.c]
end PT
/-! How many parts. -/
mutual
def cntP:PT->Nat | .mk _ _ _ _ _ _ _ _ _ l=>cntL l+1
def cntL:List PT->Nat | []=>0 | t :: r=>cntP t+cntL r
end
/-! Are they right? -/
def rightK (k mn mx:Int) (n:Nat):Bool:=
 if k < 0 ∨ k > 6 then false
 else if k=3 then decide (0 < n)
 else if k=4 then decide (n=1/\0 <= mn/\mn <= 255 /\ -1 <= mx/\mx <= 255/\(0 <= mx->mn <= mx))
 else true
def inner (k:Int):Bool:=k == 2 || k == 3 || k == 4
mutual
def rightP:PT->Bool | .mk k _ _ _ _ mn mx _ _ l=>rightK k mn mx l.length && (if inner k then rightL l else true)
def rightL:List PT->Bool | []=>true | t :: r=>rightP t && rightL r
end
/-! How many steps. -/
mutual
def sizP:PT->Nat
 | .mk k _ _ _ _ mn mx _ _ l=>
  if k=1 ∨ k=5 ∨ k=6 then 1
  else if k=2 then sizL l
  else if k=3 then sizL l+2 * (l.length - 1)
  else if k=4 then (if mx < 0 then (mn.toNat+1) * sizL l+2 else mx.toNat * sizL l+(mx.toNat - mn.toNat))
  else 0
def sizL:List PT->Nat | []=>0 | t :: r=>sizP t+sizL r
end
/-! How deep, as the program counts. -/
mutual
def depP:PT->Nat | .mk k _ _ _ _ _ _ _ _ l=>if inner k then depL l+1 else 1
def depL:List PT->Nat | []=>0 | t :: r=>max (depP t) (depL r)
end
/-! The steps. -/
def Sp.fork (x y:Nat):Sp:=⟨1,0,0,0,0,x,y⟩
def timesP (f:Nat->List Sp) (n:Nat):Nat->Nat->List Sp
 | 0,at_=>[]
 | k+1,at_=>f at_ ++ timesP f n k (at_+n)
def maybeP (f:Nat->List Sp) (n:Nat) (all:Nat):Nat->Nat->List Sp
 | 0,at_=>[]
 | k+1,at_=>Sp.fork (at_+1) all :: (f (at_+1) ++ maybeP f n all k (at_+1+n))
mutual
def layP:PT->Nat->List Sp
 | .mk k s0 s1 s2 s3 mn mx _ _ l,at_=>
  if k=1 then [⟨0,s0,s1,s2,s3,(at_:Int)+1,0⟩]
  else if k=5 then [⟨2,0,0,0,0,(at_:Int)+1,0⟩]
  else if k=6 then [⟨3,0,0,0,0,(at_:Int)+1,0⟩]
  else if k=2 then layL l at_
  else if k=3 then layO l at_ (at_+(sizL l+2 * (l.length - 1)))
  else if k=4 then
   timesP (layL l) (sizL l) mn.toNat at_ ++
   (if mx < 0 then
    Sp.fork (at_+mn.toNat * sizL l+1) (at_+(mn.toNat+1) * sizL l+2) :: (layL l (at_+mn.toNat * sizL l+1) ++ [Sp.fork (at_+mn.toNat * sizL l) (at_+mn.toNat * sizL l)])
   else maybeP (layL l) (sizL l) (at_+(mx.toNat * sizL l+(mx.toNat - mn.toNat))) (mx.toNat - mn.toNat) (at_+mn.toNat * sizL l))
  else []
def layL:List PT->Nat->List Sp
 | [],_=>[]
 | t :: r,at_=>layP t at_ ++ layL r (at_+sizP t)
def layO:List PT->Nat->Nat->List Sp
 | [],_,_=>[]
 | t :: r,at_,all=>if r.isEmpty then layP t at_ else Sp.fork (at_+1) (at_+2+sizP t) :: (layP t (at_+1) ++ Sp.fork all all :: layO r (at_+2+sizP t) all)
end
theorem cntP_eq (t:PT):cntP t=cntL t.l+1:=by cases t;rw [cntP];rfl
theorem rightP_eq (t:PT):rightP t=(rightK t.k t.mn t.mx t.l.length && (if inner t.k then rightL t.l else true)):=by cases t;rw [rightP];rfl
theorem depP_eq (t:PT):depP t=if inner t.k then depL t.l+1 else 1:=by cases t;rw [depP];rfl
theorem sizP_eq (t:PT):sizP t=if t.k=1 ∨ t.k=5 ∨ t.k=6 then 1
    else if t.k=2 then sizL t.l
    else if t.k=3 then sizL t.l+2 * (t.l.length - 1)
    else if t.k=4 then (if t.mx < 0 then (t.mn.toNat+1) * sizL t.l+2 else t.mx.toNat * sizL t.l+(t.mx.toNat - t.mn.toNat))
    else 0:=by cases t;rw [sizP];rfl
theorem cntL_len:∀ l:List PT,l.length <= cntL l
 | []=>by simp
 | t :: r=>by have:=cntL_len r;have h:=cntP_eq t;simp [cntL];omega
theorem cntL_mem {l:List PT} {t:PT} (h:t ∈ l):cntP t <= cntL l:=by
 induction l with
 | nil=>cases h
 | cons a r ih=>
  rcases List.mem_cons.1 h with rfl | h
  ·simp [cntL]
  have:=ih h;simp [cntL];omega
theorem inner_iff {k:Int}:inner k=true ↔ k=2 ∨ k=3 ∨ k=4:=by simp [inner];omega
mutual
theorem depP_le:∀ t:PT,depP t <= cntP t
 | .mk k _ _ _ _ _ _ _ _ l=>by
  have:=depL_le l;simp only [depP,cntP];split <;> omega
theorem depL_le:∀ l:List PT,depL l <= cntL l
 | []=>by simp [depL]
 | t :: r=>by
  have h1:=depP_le t;have h2:=depL_le r;simp only [depL,cntL];omega
end
theorem timesP_len (f:Nat->List Sp) (n:Nat) (hf:∀ a,(f a).length=n):∀ k a,(timesP f n k a).length=k * n
 | 0,a=>by simp [timesP]
 | k+1,a=>by rw [timesP,List.length_append,timesP_len f n hf k,hf,Nat.succ_mul];omega
theorem maybeP_len (f:Nat->List Sp) (n all:Nat) (hf:∀ a,(f a).length=n):∀ k a,(maybeP f n all k a).length=k * (n+1)
 | 0,a=>by simp [maybeP]
 | k+1,a=>by rw [maybeP,List.length_cons,List.length_append,maybeP_len f n all hf k,hf,Nat.succ_mul];omega
theorem rep_arith (a b s:Nat) (h:a <= b):a * s+(b - a) * (s+1)=b * s+(b - a):=by
 obtain ⟨d,rfl⟩:=Nat.exists_eq_add_of_le h;have:a+d - a=d:=by omega
 rw [this,Nat.add_mul,Nat.mul_add];omega
mutual
theorem layP_len:∀ (t:PT) (a:Nat),rightP t=true->(layP t a).length=sizP t
 | .mk k s0 s1 s2 s3 mn mx A c l,a,hr=>by
  have hl:=layL_len l;have ho:=layO_len l;rw [rightP_eq] at hr;simp only [PT.k,PT.mn,PT.mx,PT.l,Bool.and_eq_true] at hr;obtain ⟨hk,hi⟩:=hr;simp only [layP,sizP];by_cases h1:k=1
  ·subst h1;simp
  by_cases h5:k=5
  ·subst h5;simp
  by_cases h6:k=6
  ·subst h6;simp
  by_cases h2:k=2
  ·subst h2;simp [inner] at hi;simp [hl a hi]
  by_cases h3:k=3
  ·subst h3;simp [inner] at hi;simp [rightK] at hk;simp [ho a _ hi hk]
  by_cases h4:k=4
  ·subst h4;simp [inner] at hi;simp [rightK] at hk;have hl':=fun a=>hl a hi;simp only [List.length_append];simp;rw [timesP_len _ _ hl'];by_cases hm:mx < 0
   ·simp [hm,hl',Nat.add_mul];omega
   simp only [if_neg hm];rw [maybeP_len _ _ _ hl'];have:mn.toNat <= mx.toNat:=by omega
   rw [rep_arith _ _ _ this]
  simp [h1,h2,h3,h4,h5,h6]
theorem layL_len:∀ (l:List PT) (a:Nat),rightL l=true->(layL l a).length=sizL l
 | [],a,_=>by simp [layL,sizL]
 | t :: r,a,h=>by
  simp only [rightL,Bool.and_eq_true] at h;simp only [layL,sizL,List.length_append,layP_len t a h.1,layL_len r _ h.2]
theorem layO_len:∀ (l:List PT) (a all:Nat),rightL l=true->0 < l.length->(layO l a all).length=sizL l+2 * (l.length - 1)
 | [],a,all,_,h=>by simp at h
 | t :: r,a,all,h,_=>by
  simp only [rightL,Bool.and_eq_true] at h;have h1:=layP_len t a h.1;have h1':=layP_len t (a+1) h.1
  cases r with
  | nil=>simp [layO,sizL,h1]
  | cons u v=>
   have h2:=layO_len (u :: v) (a+2+sizP t) all h.2 (by simp);rw [layO];simp only [List.isEmpty_cons,if_false,Bool.false_eq_true,List.length_cons,List.length_append,h1',h2];simp only [sizL,List.length_cons];omega
end
end Go.Proofs.YtfofechcccodeaaGreatDoor
namespace Go.Proofs.YtfofechcccodeaaGreatDoor
open Go.RowKit Go.ChangeMaps Go.Proofs.Tryz
set_option linter.unusedVariables false
set_option linter.unusedSimpArgs false
abbrev Ky:=Nat × Nat × Nat
abbrev Ex:=Nat × Nat
def kyV (k:Ky):Value := .agg #[.pointer (some ⟨k.1,k.2.1,none⟩),.int .i64 k.2.2]
def exV (x:Ex):Value := .agg #[.int .i64 x.1,.int .i64 x.2]
def getM (es:List (Ky × Ex)) (k:Ky):Option Ex:=(es.find? (fun p=>p.1 == k)).map (·.2)
def MapB (w:World) (mv:Nat) (es:List (Ky × Ex)):Prop:=
 ∃ arr clock,w.heap[mv]?=some (.map arr clock)/\arr.toList.map (fun e=>(e.key,e.val))=es.map (fun p=>(kyV p.1,exV p.2))/\∀ p ∈ es,∃ cs,Bk w p.1.1 89 cs
theorem ky_stood:prog.stoodInHeld 188=false:=by kernel_rfl
theorem part_info:(prog.info? 89).map (fun i=>i.size == 0)=some false:=by kernel_rfl
theorem run_equalIn_ptr (w:World) (d:Nat) (a b:Addr) {ca cb:Array Value} {ta tb:TypeId} (ha:w.heap[a.block]?=some (.cells ca ta (0,0))) (hb:w.heap[b.block]?=some (.cells cb tb (0,0))) :
    (Op.equalIn (d+1) 136 (.pointer (some a)) (.pointer (some b))).run prog w = .ok (a == b) w:=by
 obtain ⟨i,hi,hz⟩:∃ i,prog.info? 89=some i/\(i.size == 0)=false:=by
  have h:=part_info
  cases e:prog.info? 89 with
  | none=>rw [e] at h;cases h
  | some i=>rw [e] at h;exact ⟨i,rfl,by simpa using h⟩
 have hz':i.size ≠ 0:=by simpa using hz
 by_cases e:a=b
 ·subst e;simp [Op.equalIn,run_underlying underlying136,typeInfo,hi,sizeOf,hz',run_sameAddr_same]
 have e':(a == b)=false:=beq_eq_false_iff_ne.2 e;simp [Op.equalIn,run_underlying underlying136,typeInfo,hi,sizeOf,hz',run_sameAddr_other w e ha hb,e']
theorem run_equalIn_int (w:World) (d:Nat) (a b:Int):(Op.equalIn (d+1) 3 (.int .i64 a) (.int .i64 b)).run prog w = .ok (a == b) w:=by
 simp [Op.equalIn,run_underlying underlying3]
theorem ky_part0 (w:World) (k:Ky):(part 136 #[.pointer (some ⟨k.1,k.2.1,none⟩),.int .i64 k.2.2] 0).run prog w = .ok (.pointer (some ⟨k.1,k.2.1,none⟩)) w:=by kernel_rfl
theorem ky_part1 (w:World) (k:Ky):(part 3 #[.pointer (some ⟨k.1,k.2.1,none⟩),.int .i64 k.2.2] 1).run prog w = .ok (.int .i64 k.2.2) w:=by kernel_rfl
theorem run_equal_ky (w:World) (k k':Ky) {ca cb:Array Value} (ha:Bk w k.1 89 ca) (hb:Bk w k'.1 89 cb) :
    (Op.equal 188 (kyV k) (kyV k')).run prog w = .ok (k == k') w:=by
 have h1:=run_equalIn_ptr w 9998 ⟨k.1,k.2.1,none⟩ ⟨k'.1,k'.2.1,none⟩ ha hb;have h2:=run_equalIn_int w 9998 k.2.2 k'.2.2
 have e:(k == k')=((⟨k.1,k.2.1,none⟩:Addr) == ⟨k'.1,k'.2.1,none⟩ && (k.2.2:Int) == (k'.2.2:Int)):=by
  obtain ⟨a,b,c⟩:=k;obtain ⟨a',b',c'⟩:=k';rw [Bool.eq_iff_iff];simp [Prod.ext_iff];constructor
  ·rintro ⟨rfl,rfl,rfl⟩;simp
  rintro ⟨⟨rfl,rfl⟩,h⟩;exact ⟨rfl,rfl,by omega⟩
 rw [e];have hu:=run_underlying (w:=w) underlying188;show (Op.equalIn (9999+1) _ _ _).run prog w=_;unfold Op.equalIn kyV;simp [hu,ky_stood,ky_part0,ky_part1,h1,h2];by_cases a1:k.1=k'.1 <;> by_cases a2:k.2.1=k'.2.1 <;> by_cases a3:(k.2.2:Int)=(k'.2.2:Int) <;> simp [a1,a2,a3]
theorem run_checkKey_ky (w:World) (em:Bool) (k:Ky):(Instr.checkKey em 10000 188 (kyV k)).run prog w = .ok () w:=by
 have hu:=run_underlying (w:=w) underlying188;have hu1:=run_underlying (w:=w) underlying136;have hu2:=run_underlying (w:=w) underlying3;show (Instr.checkKey em (9998+1+1) _ _).run prog w=_;unfold Instr.checkKey kyV;simp [hu,ky_part0,ky_part1];unfold Instr.checkKey;simp [hu1,hu2]
theorem run_findAsking_ky (w:World) (k:Ky) {ck:Array Value} (hk:Bk w k.1 89 ck):∀ (L:List MapEntry) (es:List (Ky × Ex)) (i:Nat),
    L.map (fun e=>(e.key,e.val))=es.map (fun p=>(kyV p.1,exV p.2))->(∀ p ∈ es,∃ cs,Bk w p.1.1 89 cs) ->
    (getM es k=none->(Instr.findAsking 188 (kyV k) L i).run prog w = .ok none w) /\
    (∀ x,getM es k=some x->∃ j,es[j]?=some (k,x)/\(Instr.findAsking 188 (kyV k) L i).run prog w = .ok (some (i+j,exV x)) w)
 | [],es,i,h,hb=>by
  have:es=[]:=by simpa using h.symm
  subst this;exact ⟨fun _=>by simp [Instr.findAsking],fun x hx=>by simp [getM] at hx⟩
 | e :: L,[],i,h,hb=>by simp at h
 | e :: L,p :: es,i,h,hb=>by
  simp only [List.map_cons,List.cons.injEq,Prod.mk.injEq] at h;obtain ⟨⟨hke,hve⟩,hr⟩:=h;obtain ⟨cs,hcs⟩:=hb p (by simp);have heq:=run_equal_ky w k p.1 hk hcs;have ih:=run_findAsking_ky w k hk L es (i+1) hr (fun q hq=>hb q (by simp [hq]))
  have hg:getM (p :: es) k=if p.1=k then some p.2 else getM es k:=by
   unfold getM;rw [List.find?_cons];by_cases e1:p.1=k
   ·simp [e1]
   have:(p.1 == k)=false:=beq_eq_false_iff_ne.2 e1;simp [this,e1]
  rw [hg];unfold Instr.findAsking;by_cases e1:p.1=k
  ·rw [if_pos e1];have e2:(k == p.1)=true:=by simp [e1]
   refine ⟨(fun h=>by cases h),fun x hx=>?_⟩
   cases hx
   exact ⟨0,by simp [<-e1],by simp [hke,hve,heq,e2]⟩
  rw [if_neg e1];have e2:(k == p.1)=false:=beq_eq_false_iff_ne.2 (fun h=>e1 h.symm);refine ⟨fun h=>?_,fun x hx=>?_⟩
  ·simp [hke,heq,e2,ih.1 h]
  obtain ⟨j,hj0,hj⟩:=ih.2 x hx;exact ⟨j+1,by simpa using hj0,by simp [hke,heq,e2,hj];omega⟩
theorem run_findKey_ky (w:World) (k:Ky) {ck:Array Value} (hk:Bk w k.1 89 ck) (L:List MapEntry) (es:List (Ky × Ex))
    (h:L.map (fun e=>(e.key,e.val))=es.map (fun p=>(kyV p.1,exV p.2))) (hb:∀ p ∈ es,∃ cs,Bk w p.1.1 89 cs) :
    (getM es k=none->(Instr.findKey 188 (kyV k) L).run prog w = .ok none w) /\
    (∀ x,getM es k=some x->∃ j,es[j]?=some (k,x)/\(Instr.findKey 188 (kyV k) L).run prog w = .ok (some (j,exV x)) w):=by
 have hu:=run_underlying (w:=w) underlying188;have h1:=run_findAsking_ky w k hk L es 0 h hb
 cases L with
 | nil=>
  have:es=[]:=by simpa using h.symm
  subst this;exact ⟨fun _=>by simp [Instr.findKey,hu,Instr.findNow],fun x hx=>by simp [getM] at hx⟩
 | cons e L=>
  have hn:∀ d,Instr.findNow (.struct d) (kyV k) (e :: L) 0=none:=fun d=>by simp [Instr.findNow,Instr.sameNow]
  unfold Instr.findKey;refine ⟨fun hg=>?_,fun x hx=>?_⟩
  ·simp [hu,hn,h1.1 hg]
  obtain ⟨j,hj0,hj⟩:=h1.2 x hx;exact ⟨j,hj0,by simp [hu,hn,hj]⟩
theorem MapB.look {w:World} {mv:Nat} {es:List (Ky × Ex)} (h:MapB w mv es) (k:Ky) {ck:Array Value} (hk:Bk w k.1 89 ck) (ok:Bool) :
    (Instr.lookup 133 (.map (some mv)) (kyV k) ok).run prog w =
     .ok (if ok then .tuple #[exV ((getM es k).getD (0,0)),.bool (getM es k).isSome] else exV ((getM es k).getD (0,0))) w:=by
 obtain ⟨arr,clock,hb,he,hbk⟩:=h;have hu:=run_underlying (w:=w) underlying133;obtain ⟨f1,f2⟩:=run_findKey_ky w k hk arr.toList es he hbk;unfold Instr.lookup
 cases hg:getM es k with
 | none=>cases ok <;> simp [hu,MapKept.run_getObj_map hb,run_checkKey_ky,f1 hg,Tryz.zeroValue172,exV]
 | some x=>
  obtain ⟨j,-, hj⟩:=f2 x hg
  cases ok <;> simp [hu,MapKept.run_getObj_map hb,run_checkKey_ky,hj]
theorem getM_append (es:List (Ky × Ex)) (k:Ky) (x:Ex) (q:Ky):getM (es ++ [(k,x)]) q=(getM es q).or (if k=q then some x else none):=by
 unfold getM;rw [List.find?_append]
 cases h:es.find? (fun p=>p.1 == q) with
 | some p=>simp
 | none=>
  by_cases e:k=q
  ·simp [e]
  have:(k == q)=false:=beq_eq_false_iff_ne.2 e;simp [List.find?_cons,this,e]
theorem MapB.store {w:World} {mv:Nat} {es:List (Ky × Ex)} (h:MapB w mv es) (k:Ky) {ck:Array Value} (hk:Bk w k.1 89 ck) (x:Ex) (hn:getM es k=none) :
    ∃ w',(Instr.mapUpdate 133 (.map (some mv)) (kyV k) (exV x)).run prog w = .ok () w'/\MapB w' mv (es ++ [(k,x)])/\Fr [mv] w w':=by
 obtain ⟨arr,clock,hb,he,hbk⟩:=h;have hu:=run_underlying (w:=w) underlying133;obtain ⟨f1,-⟩:=run_findKey_ky w k hk arr.toList es he hbk
 have hfr:Fr [mv] w (setBlock w mv (.map (arr.push { key:=kyV k,val:=exV x,born:=clock }) (clock+1))):=
  ⟨rfl,rfl,rfl,by simp [setBlock],fun i _ hi=>heap_setBlock_other hb _ (by simpa using hi)⟩
 have hmv:∀ {g cs},Bk w g 89 cs->g ∉ [mv]:=fun {g cs} hg hm=>by
  simp at hm;subst hm;unfold Bk at hg;rw [hb] at hg;cases hg
 refine ⟨_,?_,⟨_,_,heap_setBlock_same hb _,?_,?_⟩,hfr⟩
 ·unfold Instr.mapUpdate;simp [hu,MapKept.run_getObj_map hb,run_checkKey_ky,f1 hn,MapKept.run_setObj_map _ hb,setBlock]
 ·simp [he]
 intro p hp;rcases List.mem_append.1 hp with hp | hp
 ·obtain ⟨cs,hcs⟩:=hbk p hp;exact ⟨cs,hcs.fr hfr (hmv hcs)⟩
 simp at hp;subst hp;exact ⟨ck,hk.fr hfr (hmv hk)⟩
theorem ky_same (k:Ky):Instr.sameBits 10000 (kyV k) (kyV k)=true:=by
 unfold kyV;show Instr.sameBits (9998+1+1) _ _=true;simp [Instr.sameBits]
theorem MapB.again {w:World} {mv:Nat} {es:List (Ky × Ex)} (h:MapB w mv es) (k:Ky) {ck:Array Value} (hk:Bk w k.1 89 ck) (x:Ex) (hn:getM es k=some x) :
    ∃ w',(Instr.mapUpdate 133 (.map (some mv)) (kyV k) (exV x)).run prog w = .ok () w'/\MapB w' mv es/\Fr [mv] w w':=by
 obtain ⟨arr,clock,hb,he,hbk⟩:=h;have hu:=run_underlying (w:=w) underlying133;obtain ⟨-, f2⟩:=run_findKey_ky w k hk arr.toList es he hbk;obtain ⟨j,hj0,hj⟩:=f2 x hn
 have hold:arr.toList[j]?.map (fun e=>(e.key,e.val))=some (kyV k,exV x):=by
  have h1:=congrArg (fun l=>l[j]?) he;simp only [List.getElem?_map] at h1;rw [h1,hj0];rfl
 have hfr:Fr [mv] w (setBlock w mv (.map (arr.modify j fun e=>{ e with key:=kyV k,val:=exV x }) clock)):=
  ⟨rfl,rfl,rfl,by simp [setBlock],fun i _ hi=>heap_setBlock_other hb _ (by simpa using hi)⟩
 have hmv:∀ {g cs},Bk w g 89 cs->g ∉ [mv]:=fun {g cs} hg hm=>by
  simp at hm;subst hm;unfold Bk at hg;rw [hb] at hg;cases hg
 have hkey:((arr[j]?).map (·.key)).getD (kyV k)=kyV k:=by
  cases hq:arr[j]? with
  | none=>rfl
  | some e=>
   have:arr.toList[j]?=some e:=by simpa using hq
   rw [this] at hold;simp at hold;simp [hold.1]
 refine ⟨_,?_,⟨_,_,heap_setBlock_same hb _,?_,fun p hp=>?_⟩,hfr⟩
 ·unfold Instr.mapUpdate;simp [hu,MapKept.run_getObj_map hb,run_checkKey_ky,hj,hkey,Instr.keyThatStays,ky_same,MapKept.run_setObj_map _ hb,setBlock]
 ·rw [<-he]
  apply List.ext_getElem?
  intro i;simp only [List.getElem?_map,Array.getElem?_toList,Array.getElem?_modify];by_cases e:j=i
  ·subst e;rw [if_pos rfl];have h2:arr.toList[j]?=arr[j]?:=by simp
   rw [h2] at hold
   cases hq:arr[j]? with
   | none=>rfl
   | some v=>rw [hq] at hold;simp at hold;simp [hold.1,hold.2]
  rw [if_neg e]
 obtain ⟨cs,hcs⟩:=hbk p hp;exact ⟨cs,hcs.fr hfr (hmv hcs)⟩
theorem MapB.made (w:World):MapB (w.alloc (.map #[] 0)) w.heap.size []:=⟨#[],0,heap_alloc_new w _,rfl,by simp⟩
theorem MapB.keep {w w':World} {mv:Nat} {es:List (Ky × Ex)} (h:MapB w mv es) (hm:w'.heap[mv]?=w.heap[mv]?) (hk:∀ b cs,Bk w b 89 cs->Bk w' b 89 cs):MapB w' mv es:=by
 obtain ⟨arr,clock,hb,he,hbk⟩:=h;exact ⟨arr,clock,hm.trans hb,he,fun p hp=>(hbk p hp).imp fun cs h=>hk _ _ h⟩
theorem MapB.lt {w:World} {mv:Nat} {es:List (Ky × Ex)} (h:MapB w mv es):mv < w.heap.size:=by
 obtain ⟨arr,clock,hb,-⟩:=h;exact (Array.getElem?_eq_some_iff.1 hb).1
theorem MapB.ne {w:World} {mv:Nat} {es:List (Ky × Ex)} (h:MapB w mv es) {g:Nat} {t:TypeId} {cs:Array Value} (hg:Bk w g t cs):g ≠ mv:=by
 obtain ⟨arr,clock,hb,-⟩:=h;rintro rfl;unfold Bk at hg;rw [hb] at hg;cases hg
end Go.Proofs.YtfofechcccodeaaGreatDoor
namespace Go.Proofs.YtfofechcccodeaaGreatDoor
open Go.RowKit
set_option linter.unusedVariables false
set_option linter.unusedSimpArgs false
def PT.val (t:PT):Value := .agg #[.int .i64 t.k,.int .u64 t.s0,.int .u64 t.s1,.int .u64 t.s2,.int .u64 t.s3,.int .i64 t.mn,.int .i64 t.mx,.slice t.A t.l.length t.c]
def CellsAt (w:World) (b o:Nat) (cs:List Value):Prop:=∃ arr,Bk w b 89 arr/\∀ j u,cs[j]?=some u->arr[o+j]?=some u
mutual
def PMem (w:World):PT->Prop | .mk _ _ _ _ _ _ _ A _ l=>LMem w A l 0
def LMem (w:World) (A:Option Addr):List PT->Nat->Prop
 | [],_=>True
 | t :: r,i=>(∃ b off,A=some ⟨b,off,none⟩/\CellsAt w b (off+i * 8) t.cells)/\PMem w t/\LMem w A r (i+1)
end
theorem PMem_eq (w:World) (t:PT):PMem w t=LMem w t.A t.l 0:=by cases t;rw [PMem];rfl
def KeepT (w w':World):Prop:=∀ b cs,Bk w b 89 cs->Bk w' b 89 cs
theorem KeepT.refl (w:World):KeepT w w:=fun _ _ h=>h
theorem KeepT.trans {a b c:World} (h:KeepT a b) (k:KeepT b c):KeepT a c:=fun _ _ x=>k _ _ (h _ _ x)
theorem KeepT.of_fr {l:List Nat} {w w':World} (h:Fr l w w') (hl:∀ b ∈ l,∀ cs,¬ Bk w b 89 cs):KeepT w w':=fun b cs hb=>hb.fr h (fun hm=>hl b hm cs hb)
theorem KeepT.of_nil {w w':World} (h:Fr [] w w'):KeepT w w':=KeepT.of_fr h (by simp)
theorem CellsAt.keep {w w':World} {b o:Nat} {cs:List Value} (h:CellsAt w b o cs) (k:KeepT w w'):CellsAt w' b o cs:=by
 obtain ⟨arr,h1,h2⟩:=h;exact ⟨arr,k _ _ h1,h2⟩
theorem CellsAt.cell {w:World} {b o:Nat} {cs:List Value} (h:CellsAt w b o cs) {j:Nat} {u:Value} (hu:cs[j]?=some u):w.cell? ⟨b,o+j,none⟩=some u:=by
 obtain ⟨arr,h1,h2⟩:=h;rw [h1.cell];exact h2 j u hu
theorem CellsAt.bk {w:World} {b o:Nat} {cs:List Value} (h:CellsAt w b o cs):∃ arr,Bk w b 89 arr:=by
 obtain ⟨arr,h1,h2⟩:=h;exact ⟨arr,h1⟩
theorem CellsAt.lt {w:World} {b o:Nat} {cs:List Value} (h:CellsAt w b o cs):b < w.heap.size:=by
 obtain ⟨arr,h1,h2⟩:=h;exact h1.lt
mutual
theorem PMem.keep {w w':World} (k:KeepT w w'):∀ t,PMem w t->PMem w' t
 | .mk _ _ _ _ _ _ _ A _ l,h=>by rw [PMem] at h ⊢; exact LMem.keep k A l 0 h
theorem LMem.keep {w w':World} (k:KeepT w w') (A:Option Addr):∀ (l:List PT) (i:Nat),LMem w A l i->LMem w' A l i
 | [],i,h=>by rw [LMem];trivial
 | t :: r,i,h=>by
  rw [LMem] at h ⊢; obtain ⟨⟨b,off,hA,hc⟩,h2,h3⟩:=h;exact ⟨⟨b,off,hA,hc.keep k⟩,PMem.keep k t h2,LMem.keep k A r (i+1) h3⟩
end
theorem LMem.get {w:World} {A:Option Addr}:∀ {l:List PT} {i k:Nat} {t:PT},LMem w A l i->l[k]?=some t->(∃ b off,A=some ⟨b,off,none⟩/\CellsAt w b (off+(i+k) * 8) t.cells)/\PMem w t
 | [],i,k,t,h,ht=>by simp at ht
 | u :: r,i,0,t,h,ht=>by
  rw [LMem] at h;simp at ht;subst ht;exact ⟨h.1,h.2.1⟩
 | u :: r,i,k+1,t,h,ht=>by
  rw [LMem] at h;have:=LMem.get h.2.2 (show r[k]?=some t by simpa using ht);rw [show i+(k+1)=i+1+k by omega];exact this
theorem cells_len (t:PT):t.cells.length=8:=rfl
theorem CellsAt.inj {w:World} {b o:Nat} {c c':List Value} (h:CellsAt w b o c) (h':CellsAt w b o c') (hl:c.length=c'.length):c=c':=by
 obtain ⟨arr,h1,h2⟩:=h;obtain ⟨arr',h1',h2'⟩:=h'
 have e:arr=arr':=by
  unfold Bk at h1 h1';rw [h1] at h1'
  injection h1' with h1'
  injection h1' with h1'
 subst e
 apply List.ext_getElem? 
 intro j;rcases Nat.lt_or_ge j c.length with hj | hj
 ·have a:=h2 j _ (List.getElem?_eq_getElem hj);have b:=h2' j _ (List.getElem?_eq_getElem (by omega));rw [a] at b;rw [List.getElem?_eq_getElem hj,List.getElem?_eq_getElem (by omega)];exact b
 rw [List.getElem?_eq_none hj,List.getElem?_eq_none (by omega)]
mutual
theorem PMem.inj {w:World}:∀ (t t':PT),t.cells=t'.cells->PMem w t->PMem w t'->t=t'
 | .mk k s0 s1 s2 s3 mn mx A c l,t',hc,h,h'=>by
  rw [PMem_eq] at h';obtain ⟨k',s0',s1',s2',s3',mn',mx',A',c',l'⟩:=t';simp [PT.cells,PT.k,PT.s0,PT.s1,PT.s2,PT.s3,PT.mn,PT.mx,PT.A,PT.c,PT.l] at hc;obtain ⟨rfl,rfl,rfl,rfl,rfl,rfl,rfl,rfl,hl,rfl⟩:=hc;rw [PMem] at h;rw [LMem.inj A l l' 0 hl h h']
theorem LMem.inj {w:World} (A:Option Addr):∀ (l l':List PT) (i:Nat),l.length=l'.length->LMem w A l i->LMem w A l' i->l=l'
 | [],l',i,hl,h,h'=>by
  have:l'=[]:=List.eq_nil_of_length_eq_zero (by simpa using hl.symm);rw [this]
 | t :: r,[],i,hl,h,h'=>by simp at hl
 | t :: r,t' :: r',i,hl,h,h'=>by
  rw [LMem] at h h';obtain ⟨⟨b,off,hA,hc⟩,h2,h3⟩:=h;obtain ⟨⟨b',off',hA',hc'⟩,h2',h3'⟩:=h';rw [hA] at hA';simp at hA';obtain ⟨rfl,rfl⟩:=hA';have e:=PMem.inj t t' (hc.inj hc' rfl) h2 h2';have e2:=LMem.inj A r r' (i+1) (by simpa using hl) h3 h3';rw [e,e2]
end
end Go.Proofs.YtfofechcccodeaaGreatDoor
namespace Go.Proofs.YtfofechcccodeaaGreatDoor
open Go.RowKit Go.ChangeMaps Go.Proofs.Tryz
set_option linter.unusedVariables false
set_option linter.unusedSimpArgs false
/-! What is in the map. -/
def exL (l:List PT):Ex:=(min 4001 (sizL l),depL l)
def Ext (es es':List (Ky × Ex)):Prop:=∀ k v,getM es k=some v->getM es' k=some v
theorem Ext.refl (es:List (Ky × Ex)):Ext es es:=fun _ _ h=>h
theorem Ext.trans {a b c:List (Ky × Ex)} (h:Ext a b) (k:Ext b c):Ext a c:=fun _ _ x=>k _ _ (h _ _ x)
theorem Ext.snoc (es:List (Ky × Ex)) (k:Ky) (x:Ex):Ext es (es ++ [(k,x)]):=fun q v h=>by rw [getM_append,h];rfl
def InM (es:List (Ky × Ex)) (A:Option Addr) (l:List PT):Prop:=l=[] ∨ ∃ b off,A=some ⟨b,off,none⟩/\getM es (b,off,l.length)=some (exL l)
mutual
def CovP (es:List (Ky × Ex)):PT->Prop | .mk k _ _ _ _ _ _ A _ l=>inner k=true->InM es A l/\CovL es l
def CovL (es:List (Ky × Ex)):List PT->Prop | []=>True | t :: r=>CovP es t/\CovL es r
end
theorem CovP_eq (es:List (Ky × Ex)) (t:PT):CovP es t=(inner t.k=true->InM es t.A t.l/\CovL es t.l):=by cases t;rw [CovP];rfl
theorem InM.mono {es es':List (Ky × Ex)} (h:Ext es es') {A:Option Addr} {l:List PT} (k:InM es A l):InM es' A l:=
 k.imp id (fun ⟨b,off,hA,hg⟩=>⟨b,off,hA,h _ _ hg⟩)
mutual
theorem CovP.mono {es es':List (Ky × Ex)} (h:Ext es es'):∀ t,CovP es t->CovP es' t
 | .mk k _ _ _ _ _ _ A _ l,c=>by
  rw [CovP] at c ⊢; exact fun hi=>⟨(c hi).1.mono h,CovL.mono h l (c hi).2⟩
theorem CovL.mono {es es':List (Ky × Ex)} (h:Ext es es'):∀ l,CovL es l->CovL es' l
 | [],c=>by rw [CovL];trivial
 | t :: r,c=>by
  rw [CovL] at c ⊢; exact ⟨CovP.mono h t c.1,CovL.mono h r c.2⟩
end
theorem CovL.get {es:List (Ky × Ex)}:∀ {l:List PT},CovL es l->∀ t ∈ l,CovP es t
 | u :: r,c,t,ht=>by
  rw [CovL] at c;rcases List.mem_cons.1 ht with rfl | ht
  ·exact c.1
  exact CovL.get c.2 t ht
theorem CovL.append {es:List (Ky × Ex)}:∀ {l:List PT} {t:PT},CovL es l->CovP es t->CovL es (l ++ [t])
 | [],t,c,h=>by simp only [List.nil_append];rw [CovL];exact ⟨h,by rw [CovL];trivial⟩
 | u :: r,t,c,h=>by
  rw [CovL] at c;rw [List.cons_append,CovL];exact ⟨c.1,CovL.append c.2 h⟩
def MInv (w:World) (mv:Nat) (es:List (Ky × Ex)):Prop:=
 MapB w mv es/\∀ p ∈ es,∃ l,LMem w (some ⟨p.1.1,p.1.2.1,none⟩) l 0/\l.length=p.1.2.2/\0 < l.length/\rightL l=true/\p.2=exL l/\CovL es l
theorem MInv.made (w:World):MInv (w.alloc (.map #[] 0)) w.heap.size []:=⟨MapB.made w,by simp⟩
theorem MInv.keep {w w':World} {mv:Nat} {es:List (Ky × Ex)} (h:MInv w mv es) (hm:w'.heap[mv]?=w.heap[mv]?) (hk:KeepT w w'):MInv w' mv es:=
 ⟨h.1.keep hm hk,fun p hp=>by
  obtain ⟨l,h1,h2⟩:=h.2 p hp
  exact ⟨l,h1.keep hk,h2⟩⟩
theorem MInv.nil_ {w w':World} {mv:Nat} {es:List (Ky × Ex)} (h:MInv w mv es) (hf:Fr [] w w'):MInv w' mv es:=
 h.keep (hf.block mv h.1.lt (by simp)) (KeepT.of_nil hf)
theorem MInv.keepT {w w':World} {mv:Nat} {es:List (Ky × Ex)} (h:MInv w mv es) (hf:Fr [mv] w w'):KeepT w w':=
 KeepT.of_fr hf (fun b hb cs hc=>by simp at hb;exact h.1.ne hc hb)
theorem MInv.fr_ {l:List Nat} {w w':World} {mv:Nat} {es:List (Ky × Ex)} (h:MInv w mv es) (hf:Fr l w w') (hl:∀ b ∈ l,b ≠ mv/\∀ cs,¬ Bk w b 89 cs):MInv w' mv es:=
 h.keep (hf.block mv h.1.lt (fun hm=>(hl mv hm).1 rfl)) (KeepT.of_fr hf (fun b hb=>(hl b hb).2))
theorem Bk.other_ {w:World} {b:Nat} {t:TypeId} {cs:Array Value} (h:Bk w b t cs) (ht:t ≠ 89):∀ cs',¬ Bk w b 89 cs':=fun cs' h'=>h.ne_ h' ht rfl
theorem getM_mem {es:List (Ky × Ex)} {k:Ky} {x:Ex} (h:getM es k=some x):(k,x) ∈ es:=by
 unfold getM at h
 cases hf:es.find? (fun p=>p.1 == k) with
 | none=>rw [hf] at h;cases h
 | some p=>
  rw [hf] at h;have h1:=List.mem_of_find?_eq_some hf;have h2:=List.find?_some hf;simp at h h2;obtain ⟨a,b⟩:=p;simp at h h2;subst h h2;exact h1
theorem MInv.look {w:World} {mv:Nat} {es:List (Ky × Ex)} (h:MInv w mv es) {b off:Nat} {l:List PT} (hl:LMem w (some ⟨b,off,none⟩) l 0) {x:Ex} (hx:getM es (b,off,l.length)=some x) :
    rightL l=true/\x=exL l/\CovL es l:=by
 obtain ⟨l',h1,h2,h3,h4,h5,h6⟩:=h.2 _ (getM_mem hx);have e:=LMem.inj _ l' l 0 h2 h1 hl;subst e;exact ⟨h4,h5,h6⟩
theorem MInv.store {w:World} {mv:Nat} {es:List (Ky × Ex)} (h:MInv w mv es) {b off:Nat} {l:List PT} (hl:LMem w (some ⟨b,off,none⟩) l 0) (h0:0 < l.length) (hr:rightL l=true) (hc:CovL es l) :
    ∃ w' es',(Instr.mapUpdate 133 (.map (some mv)) (kyV (b,off,l.length)) (exV (exL l))).run prog w = .ok () w'/\Ext es es'/\MInv w' mv es'/\InM es' (some ⟨b,off,none⟩) l/\Fr [mv] w w':=by
 obtain ⟨t,ht⟩:∃ t,l[0]?=some t:=⟨_,List.getElem?_eq_getElem h0⟩;obtain ⟨⟨b',off',hA,hca⟩,-⟩:=hl.get ht;simp at hA;obtain ⟨rfl,rfl⟩:=hA;obtain ⟨ck,hck⟩:=hca.bk
 cases hn:getM es (b,off,l.length) with
 | some x=>
  obtain ⟨-, rfl,-⟩:=h.look hl hn;obtain ⟨w',h1,h2,h3⟩:=h.1.again (b,off,l.length) hck (exL l) hn;exact ⟨w',es,h1,Ext.refl es,⟨h2,fun p hp=>(h.2 p hp).imp fun l' g=>⟨g.1.keep (h.keepT h3),g.2⟩⟩,.inr ⟨b,off,rfl,hn⟩,h3⟩
 | none=>
  obtain ⟨w',h1,h2,h3⟩:=h.1.store (b,off,l.length) hck (exL l) hn;have hk:=h.keepT h3;refine ⟨w',_,h1,Ext.snoc _ _ _,⟨h2,fun p hp=>?_⟩,.inr ⟨b,off,rfl,by rw [getM_append,hn];simp⟩,h3⟩;rcases List.mem_append.1 hp with hp | hp
  ·obtain ⟨l',g1,g2,g3,g4,g5,g6⟩:=h.2 p hp;exact ⟨l',g1.keep hk,g2,g3,g4,g5,CovL.mono (Ext.snoc _ _ _) _ g6⟩
  simp at hp;subst hp;exact ⟨l,hl.keep hk,rfl,h0,hr,rfl,CovL.mono (Ext.snoc _ _ _) _ hc⟩
end Go.Proofs.YtfofechcccodeaaGreatDoor
namespace Go.Proofs.YtfofechcccodeaaGreatDoor
open Go.RowKit Go.ChangeMaps Go.Proofs.Tryz
set_option linter.unusedVariables false
set_option linter.unusedSimpArgs false
set_option maxHeartbeats 2000000
theorem ret_int {k:IntKind} {a b:Int} (h:a=b):Ending.returned (.int k a) = .returned (.int k b):=by rw [h]
theorem few_any (n:Int) (w:World):Calls prog 103 #[.int .i64 n] w fun e w'=>e = .returned (.int .i64 (min n 4001))/\w=w':=by
 go_enter func103,ntmps103
 go_wp2_with (refine wpList_min rfl (.tmp 3) _ _ rfl .i64 n 4001 (min n 4001) (by first | rfl | simp [Act.eval]) (by first | rfl | simp [Act.eval]) rfl ?_)
 go_ret
 exact ⟨rfl,rfl⟩
def bndB (mn mx:Int):Bool:=decide (0 <= mn) && decide (mn <= 255) && (mx == -1 || (decide (mn <= mx) && decide (mx <= 255)))
theorem bounds_any (mn mx:Int) (w:World):Calls prog 85 #[.int .i64 mn,.int .i64 mx] w fun e w'=>e = .returned (.bool (bndB mn mx))/\w=w':=by
 obtain ⟨r,hr⟩:∃ r,r=bndB mn mx:=⟨_,rfl⟩;rw [<-hr];unfold bndB at hr;by_cases h1:0 <= mn
 ·by_cases h2:mn <= 255
  ·by_cases h3:mx = -1
   ·subst h3;have HR:=zh hr;clear hr;go_enter func85,ntmps85
    go_wp2
    go_ret
    exact ⟨by rw [HR.out];congr 2;simp [h1,h2] <;> omega,rfl⟩
   have h3':(mx == -1)=false:=beq_eq_false_iff_ne.2 h3;by_cases h4:mn <= mx
   ·by_cases h5:mx <= 255
    ·have HR:=zh hr;clear hr;go_enter func85,ntmps85
     go_wp2
     go_ret
     exact ⟨by rw [HR.out];congr 2;simp [h1,h2,h3,h4,h5] <;> omega,rfl⟩
    have HR:=zh hr;clear hr;go_enter func85,ntmps85
    go_wp2
    go_ret
    exact ⟨by rw [HR.out];congr 2;simp [h1,h2,h3,h4,h5] <;> omega,rfl⟩
   have HR:=zh hr;clear hr;go_enter func85,ntmps85
   go_wp2
   go_ret
   exact ⟨by rw [HR.out];congr 2;simp [h1,h2,h3,h4] <;> omega,rfl⟩
  have HR:=zh hr;clear hr;go_enter func85,ntmps85
  go_wp2
  go_ret
  exact ⟨by rw [HR.out];congr 2;simp [h1,h2] <;> omega,rfl⟩
 have HR:=zh hr;clear hr;go_enter func85,ntmps85
 go_wp2
 go_ret
 exact ⟨by rw [HR.out];congr 2;simp [h1] <;> omega,rfl⟩
theorem bndB_right {mn mx:Int}:rightK 4 mn mx 1=bndB mn mx:=by
 unfold rightK bndB;rw [Bool.eq_iff_iff];simp;omega
def sizN (t:PT) (n:Nat):Nat:=
 if t.k=3 then min 4001 (n+2 * (t.l.length - 1))
 else if t.k=4 then (if t.mx < 0 then min 4001 ((t.mn.toNat+1) * n+2) else min 4001 (t.mx.toNat * n+(t.mx.toNat - t.mn.toNat)))
 else n
theorem min_mul (a s:Nat) (h:0 < a):min 4001 (a * min 4001 s)=min 4001 (a * s):=by
 rcases Nat.lt_or_ge 4001 s with h1 | h1
 ·rw [Nat.min_eq_left (by omega:4001 <= s)];have e1:4001 <= a * 4001:=Nat.le_mul_of_pos_left _ h;have e2:4001 <= a * s:=Nat.le_trans (by omega:4001 <= s) (Nat.le_mul_of_pos_left _ h);omega
 rw [Nat.min_eq_right h1]
theorem min_mul_add (a s c:Nat) (h:0 < a):min 4001 (a * min 4001 s+c)=min 4001 (a * s+c):=by
 have:=min_mul a s h;omega
theorem sizN_sizP {t:PT} (hi:inner t.k=true) (hr:rightK t.k t.mn t.mx t.l.length=true):sizN t (min 4001 (sizL t.l))=min 4001 (sizP t):=by
 rw [sizP_eq];unfold sizN;rcases inner_iff.1 hi with h | h | h
 ·simp [h]
 ·simp [h];omega
 simp only [h];simp;split
 ·rw [min_mul_add _ _ _ (by omega)]
 by_cases hz:t.mx.toNat=0
 ·rw [hz];simp
 rw [min_mul_add _ _ _ (by omega)]
theorem mul_bound (a n:Nat) (ha:a <= 256) (hn:n <= 4001):a * n <= 1024256:=by
 calc a * n <= 256 * 4001:=Nat.mul_le_mul ha hn
  _=1024256:=rfl
theorem size_any {w:World} {b o:Nat} {t:PT} (hc:CellsAt w b o t.cells) (hi:inner t.k=true) (hr:rightK t.k t.mn t.mx t.l.length=true) (hl:t.l.length <= 1200) {n:Nat} (hn:n <= 4001) :
    Calls prog 87 #[.pointer (some ⟨b,o,none⟩),.int .i64 n] w fun e w'=>e = .returned (.int .i64 (sizN t n))/\∃ q,w'=w.drewN q:=by
 obtain ⟨r,hrr⟩:∃ r,r=sizN t n:=⟨_,rfl⟩;rw [<-hrr];have c0:=hc.cell (j:=0) rfl;have c5:=hc.cell (j:=5) rfl;have c6:=hc.cell (j:=6) rfl;have c7:=hc.cell (j:=7) rfl;simp only [Nat.add_zero] at c0;unfold sizN at hrr;obtain ⟨k,s0,s1,s2,s3,mn,mx,A,c,l⟩:=t;simp only [PT.k,PT.mn,PT.mx,PT.A,PT.c,PT.l] at *; have HC:=zh hc;clear hc;rcases inner_iff.1 hi with rfl | rfl | rfl
 ·clear hi hr;simp at hrr;subst hrr;go_enter func87,ntmps87
  go_wp2
  go_ret
  exact ⟨rfl,0,rfl⟩
 ·have hm0:0 < l.length:=by simpa [rightK] using hr
  clear hi hr;simp at hrr;have HR:=zh hrr;clear hrr;go_enter func87,ntmps87
  go_wp2_with fail
  go_at_call 103
  refine (few_any _ _).mono ?_;rintro e w' ⟨rfl,rfl⟩;obtain ⟨q,hq⟩:∃ q:Int,q=min (2 * ((l.length:Int) - 1)) 4001:=⟨_,rfl⟩;have hq1:0 <= q:=by omega
  have hq2:q <= 4001:=by omega
  rw [<-hq];have HQ:=zh hq;clear hq;go_wp2_with fail
  go_at_call 103
  refine (few_any _ _).mono ?_;rintro e w' ⟨rfl,rfl⟩;obtain ⟨q2,hq2⟩:∃ q2:Int,q2=min ((n:Int)+q) 4001:=⟨_,rfl⟩;rw [<-hq2];have HQ2:=zh hq2;clear hq2;go_wp2_with fail
  go_ret
  exact ⟨ret_int (by rw [HQ2.out,HQ.out,HR.out];omega),0,rfl⟩
 have hm1:l.length=1/\0 <= mn/\mn <= 255 /\ -1 <= mx/\mx <= 255/\(0 <= mx->mn <= mx):=by
  have h:=hr;simp [rightK] at h;omega
 obtain ⟨hl1,h1,h2,h3,h4,h5⟩:=hm1;have HL1:=zh hl1;clear hi hr hl1 hl;simp at hrr;obtain ⟨a,rfl⟩:∃ a:Nat,mn=(a:Int):=⟨mn.toNat,by omega⟩;by_cases hx:mx = -1
 ·subst hx;simp at hrr;have hp:=mul_bound (a+1) n (by omega) hn;obtain ⟨p,hpp⟩:∃ p,p=(a+1) * n:=⟨_,rfl⟩;have e1:((a:Int)+1) * (n:Int)=(p:Int):=by rw [hpp];push_cast;rfl
  have e2:IntKind.i64.wrap (((a:Int)+1) * (n:Int))=(p:Int):=by rw [e1];exact IntWalk.i64_in _ (by omega)
  rw [<-hpp] at hrr hp;have HR:=zh hrr;have HPP:=zh hpp;clear hrr hpp;go_enter func87,ntmps87
  go_wp2_with fail
  go_at_call 103
  refine (few_any _ _).mono ?_;rintro e w' ⟨rfl,rfl⟩;obtain ⟨q2,hq2⟩:∃ q2:Int,q2=min ((p:Int)+2) 4001:=⟨_,rfl⟩;rw [<-hq2];have HQ2:=zh hq2;clear hq2;go_wp2_with fail
  go_ret
  exact ⟨ret_int (by rw [HQ2.out,HR.out];omega),0,rfl⟩
 obtain ⟨d,rfl⟩:∃ d:Nat,mx=(d:Int):=⟨mx.toNat,by omega⟩;have h6:a <= d:=by omega
 have hx':¬ ((d:Int) < 0):=by omega
 simp [hx'] at hrr;have hp:=mul_bound d n (by omega) hn;obtain ⟨p,hpp⟩:∃ p,p=d * n:=⟨_,rfl⟩;have e1:(d:Int) * (n:Int)=(p:Int):=by rw [hpp];push_cast;rfl
 rw [<-hpp] at hrr hp;have e2:IntKind.i64.wrap (p:Int)=(p:Int):=IntWalk.i64_in _ (by omega);have e3:IntKind.i64.wrap ((p:Int)+(d:Int))=(p:Int)+(d:Int):=IntWalk.i64_in _ (by omega);have e4:IntKind.i64.wrap ((p:Int)+(d:Int) - (a:Int))=(p:Int)+(d:Int) - (a:Int):=IntWalk.i64_in _ (by omega);have hx2:((d:Int) == -1)=false:=beq_eq_false_iff_ne.2 (by omega);have HR:=zh hrr;have HPP:=zh hpp;have HX:=zh hx;have H6:=zh h6;have H5:=zh h5;clear hrr hpp hx h6 h5 hx';go_enter func87,ntmps87
 go_wp2_with fail
 go_quiet ((go_at_call 103;exact Calls.quiet_of_same ((few_any _ _).mono fun _ _ h=>⟨h.1,h.2.symm⟩)))
 go_wp2_with fail
 go_ret
 exact ⟨ret_int (by rw [HR.out];have:=H6.out;omega),_,rfl⟩
end Go.Proofs.YtfofechcccodeaaGreatDoor
