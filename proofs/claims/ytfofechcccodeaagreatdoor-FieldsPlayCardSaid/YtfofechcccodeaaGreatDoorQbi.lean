/-
  Small texts in one (Rf3). No conditions.
-/
import Derived.Test.YtfofechcccodeaaGreatDoorQbh
import Derived.Test.YtfofechcccodeaaGreatDoorQat
import Derived.LoopTactic
import Derived.Deep.Cut
namespace Go.Proofs.YtfofechcccodeaaGreatDoor
open Go.RowKit Go.Proofs.Tryz
set_option linter.unusedVariables false
set_option linter.unusedSimpArgs false
set_option maxRecDepth 100000
set_option maxHeartbeats 8000000
theorem ret_row {P:Program} {fn:Func} {p:Tmp} {T:TypeId} (h:fn.results=#[.cell p T]) {R:Ending->World->Prop} {a:Act} {w:World} (g:Nat) (C:List Value) (d:TypeDesc) (hp:a.tmps.getD p undef = .pointer (some ⟨g,0,none⟩))
    {t:TypeId} (hb:Bk w g t C.toArray) (hu:P.underlying T=some d) (hd:d.isRow=true) (hi:(P.info? T).map (·.size)=some C.length) (hdf:a.defers=[]) (hR:R (.returned (.agg C.toArray)) w):bodyPost P fn R .ret a w:=
 bodyPost_ret (v := .agg C.toArray) (results_cell_row h _ _ g t C.toArray (0,0) d hp hb hu (by cases d <;> simp_all [TypeDesc.isRow]) (by simpa using hi)) hdf hR
def rnumS (l:List UInt8):Nat × Nat:=(numV ((l.takeWhile isDig).take 3),((l.takeWhile isDig).take 3).length)
theorem isDig_iff (c:UInt8):isDig c=true ↔ 48 <= c.toNat/\c.toNat <= 57:=by unfold isDig;simp
theorem takeWhile_get {p:UInt8->Bool}:∀ (l:List UInt8) (n:Nat),n < (l.takeWhile p).length->∃ c,l[n]?=some c/\p c=true/\(l.takeWhile p)[n]?=some c
 | [],n,h=>by simp at h
 | a :: r,n,h=>by
  by_cases ha:p a=true
  ·rw [List.takeWhile_cons_of_pos ha] at h ⊢; rcases n with _ | n
   ·exact ⟨a,rfl,ha,rfl⟩
   exact takeWhile_get r n (by simpa using h)
  rw [List.takeWhile_cons_of_neg ha] at h;simp at h
theorem takeWhile_end {p:UInt8->Bool}:∀ (l:List UInt8),(l.takeWhile p).length=l.length ∨ ∃ c,l[(l.takeWhile p).length]?=some c/\p c=false
 | [] => .inl rfl
 | a :: r=>by
  by_cases ha:p a=true
  ·rw [List.takeWhile_cons_of_pos ha];rcases takeWhile_end (p:=p) r with h | ⟨c,h1,h2⟩
   ·left;simp [h]
   right;exact ⟨c,by simpa using h1,h2⟩
  rw [List.takeWhile_cons_of_neg ha]
  right;exact ⟨a,rfl,by simpa using ha⟩
theorem rnumV_snoc (l:List UInt8) (c:UInt8):numV (l ++ [c])=numV l * 10+(c.toNat - 48):=by unfold numV;rw [List.foldl_append];rfl
theorem numV_lt:∀ (l:List UInt8),(∀ c ∈ l,isDig c=true)->l.length <= 3->numV l <= 999:=by
 intro x hall h3;have hd:∀ c:UInt8,isDig c=true->c.toNat - 48 <= 9:=fun c hc=>by unfold isDig at hc;simp at hc;omega
 match x with
 | []=>simp [numV]
 | [a]=>have:=hd a (hall a (by simp));simp [numV];omega
 | [a,b]=>have:=hd a (hall a (by simp));have:=hd b (hall b (by simp));simp [numV];omega
 | [a,b,c]=>have:=hd a (hall a (by simp));have:=hd b (hall b (by simp));have:=hd c (hall c (by simp));simp [numV];omega
 | _ :: _ :: _ :: _ :: _=>simp at h3
theorem digs_all (l:List UInt8) (n:Nat):∀ c ∈ (l.takeWhile isDig).take n,isDig c=true:=fun c hc=>by
 have:=List.all_takeWhile (p:=isDig) (l:=l);rw [List.all_eq_true] at this;exact this c (List.mem_of_mem_take hc)
theorem rnum_le (l:List UInt8):(rnumS l).2 <= 3/\(rnumS l).1 <= 999/\(rnumS l).2 <= l.length:=by
 refine ⟨by unfold rnumS;simp;omega,numV_lt _ (digs_all l 3) (by simp;omega),?_⟩;have h:=(List.takeWhile_sublist (l:=l) isDig).length_le;unfold rnumS;simp;omega
theorem rnumber_any (bs:List UInt8) (i:Nat) (hl:bs.length <= 1000000000) (hi:i <= 1000000000) (w:World):Calls prog 107 #[.string ⟨bs.toArray⟩,.int .i64 (i:Int)] w fun e w'=>e = .returned (.tuple #[.int .i64 ((rnumS (bs.drop i)).1:Int),.int .i64 ((rnumS (bs.drop i)).2:Int)])/\w=w':=by
 obtain ⟨S,hS⟩:∃ S,S=(⟨bs.toArray⟩:ByteArray):=⟨_,rfl⟩;obtain ⟨L,hL⟩:∃ L,L=bs.length:=⟨_,rfl⟩;have hs1:S.size=L:=by rw [hS,hL];simp [ByteArray.size]
 have hix:∀ j,j < L->∀ W,(Instr.index 9 (.string S) (.int .i64 (j:Int))).run prog W = .ok (.int .u8 (bn bs j:Int)) W:=fun j hj W=>by rw [hS];exact str_at bs j (by omega) W
 obtain ⟨D,hD⟩:∃ D,D=(bs.drop i).takeWhile isDig:=⟨_,rfl⟩;have HR:Hid (rnumS (bs.drop i)=(numV (D.take 3),(D.take 3).length)):=zh (by unfold rnumS;rw [hD])
 have HIN:Hid (∀ n,n < D.length->i+n < L/\48 <= bn bs (i+n)/\bn bs (i+n) <= 57/\∃ c,D[n]?=some c/\c.toNat=bn bs (i+n)):=zh (fun n hn=>by
  rw [hD] at hn ⊢; obtain ⟨c,h1,h2,h3⟩:=takeWhile_get (bs.drop i) n hn;rw [List.getElem?_drop] at h1;obtain ⟨h4,h5⟩:=List.getElem?_eq_some_iff.1 h1;have hb:bn bs (i+n)=c.toNat:=by rw [bn_eq_get h4,h5]
  have h6:=(isDig_iff c).1 h2
  exact ⟨by omega,by omega,by omega,c,h3,hb.symm⟩)
 have HEND:Hid (L <= i+D.length ∨ (i+D.length < L/\(bn bs (i+D.length) < 48 ∨ 57 < bn bs (i+D.length)))):=zh (by
  rw [hD];rcases takeWhile_end (p:=isDig) (bs.drop i) with h | ⟨c,h1,h2⟩
  ·left;rw [h];simp;omega
  right
  rw [List.getElem?_drop] at h1;obtain ⟨h4,h5⟩:=List.getElem?_eq_some_iff.1 h1;have hb:bn bs (i+((bs.drop i).takeWhile isDig).length)=c.toNat:=by rw [bn_eq_get h4,h5]
  have h6:¬ (48 <= c.toNat/\c.toNat <= 57):=fun h=>by rw [(isDig_iff c).2 h] at h2;cases h2
  exact ⟨by omega,by omega⟩)
 have HDL:Hid (∀ n,n <= 3->numV (D.take n) <= 999):=zh (fun n hn=>by rw [hD];exact numV_lt _ (digs_all _ n) (by simp;omega));rw [<-hS];rw [<-hL] at hl;have HIX:=zh hix;clear hS hL hD hix;go_enter func107,ntmps107
 go_wp2_with fail
 go_loopw [6,7] (fun v6 v7 wr=>∃ n:Nat,v6 = .int .i64 (numV (D.take n):Int)/\v7 = .int .i64 (n:Int)/\n <= 3/\n <= D.length/\w=wr) (fun _ v7 _=>4 - (intOf v7).toNat)
 case atStart=>exact ⟨0,by simp [numV],rfl,by omega,by omega,rfl⟩
 case round=>
  obtain ⟨n,rfl,rfl,hn3,hnD,rfl⟩:=hrel;obtain ⟨v,hv⟩:∃ v,v=numV (D.take n):=⟨_,rfl⟩;have hv9:v <= 999:=by rw [hv];exact HDL.out n hn3
  rw [<-hv];have HV:=zh hv;clear hv;by_cases h3:n=3
  ·subst h3;have HRR:Hid (rnumS (bs.drop i)=(v,3)):=zh (by rw [HR.out,HV.out];simp;omega);go_wp2_with fail
   go_ret2
   exact ⟨by rw [HRR.out];rfl,rfl⟩
  have h3I:(n:Int) < 3:=by omega
  by_cases hlt:n < D.length
  ·obtain ⟨g1,g2,g3,c,g4,g5⟩:=HIN.out n hlt;obtain ⟨x,hx⟩:∃ x,x=bn bs (i+n):=⟨_,rfl⟩;have ix:=HIX.out (i+n) g1;rw [<-hx] at ix g2 g3 g5;have e1:((i+n:Nat):Int)=(i:Int)+(n:Int):=by omega
   rw [e1] at ix;have hnx:numV (D.take (n+1))=v * 10+(x - 48):=by rw [List.take_add_one,g4,HV.out];simp only [Option.toList_some];rw [rnumV_snoc,g5]
   have HNX:=zh hnx;have hgI:(i:Int)+(n:Int) < (L:Int):=by omega
   have g2I:(48:Int) <= (x:Int):=by omega
   have g3I:(x:Int) <= 57:=by omega
   clear hnx e1 g4 g5 hx g1;go_wp2_with fail
   go_roundw
   case rel=>exact ⟨n+1,by rw [HNX.out];congr 1;omega,by go_num,by omega,by omega,by first | rfl | trivial⟩
   case measure=>simp [intOf] <;> omega
  obtain rfl:n=D.length:=by omega
  have HRR:Hid (rnumS (bs.drop i)=(v,D.length)):=zh (by rw [HR.out,HV.out,List.take_of_length_le (by omega),List.take_of_length_le (by omega)]);obtain ⟨q,hq⟩:∃ q,q=D.length:=⟨_,rfl⟩;have HE2:Hid (L <= i+q ∨ (i+q < L/\(bn bs (i+q) < 48 ∨ 57 < bn bs (i+q)))):=zh (by rw [hq];exact HEND.out);rw [<-hq] at h3I h3 HRR ⊢; clear hq HR;rcases HE2.out with h4 | ⟨h4,h5⟩
  ·have h4I:¬ ((i:Int)+(q:Int) < (L:Int)):=by omega
   go_wp2_with fail
   go_ret2
   exact ⟨by rw [HRR.out];rfl,rfl⟩
  have h4I:(i:Int)+(q:Int) < (L:Int):=by omega
  have ix:=HIX.out (i+q) h4;obtain ⟨x,hx⟩:∃ x,x=bn bs (i+q):=⟨_,rfl⟩;rw [<-hx] at ix h5;have e1:((i+q:Nat):Int)=(i:Int)+(q:Int):=by omega
  rw [e1] at ix;clear hx e1;by_cases h6:x < 48
  ·have h6I:¬ ((48:Int) <= (x:Int)):=by omega
   go_wp2_with fail
   go_ret2
   exact ⟨by rw [HRR.out];rfl,rfl⟩
  have h6I:(48:Int) <= (x:Int):=by omega
  have h7I:¬ ((x:Int) <= 57):=by omega
  go_wp2_with fail
  go_ret2
  exact ⟨by rw [HRR.out];rfl,rfl⟩
/-! The sign at a place. -/
theorem ret_rowA {P:Program} {fn:Func} {p:Tmp} {T:TypeId} (h:fn.results=#[.cell p T]) {R:Ending->World->Prop} {a:Act} {w:World} (g:Nat) (C:Array Value) (d:TypeDesc) (hp:a.tmps.getD p undef = .pointer (some ⟨g,0,none⟩))
    {t:TypeId} (hb:Bk w g t C) (hu:P.underlying T=some d) (hd:d.isRow=true) (hi:(P.info? T).map (·.size)=some C.toList.length) (hdf:a.defers=[]) (hR:R (.returned (.agg C)) w):bodyPost P fn R .ret a w:=
 ret_row (C:=C.toList) h g d hp (by simpa using hb) hu hd hi hdf (by simpa using hR)
def sgC (mn mx n:Int) (bad:Bool):List Value:=[.int .i64 mn,.int .i64 mx,.int .i64 n,.bool bad]
theorem sg_zero:(prog.info? 191).map (fun i=>(i.zero,i.size))=some (some (.agg (sgC 0 0 0 false).toArray),4):=by kernel_rfl
theorem sg_size:(prog.info? 191).map (·.size)=some 4:=(zero_of_ sg_zero).2
def signC (g:Int × Int × Nat):List Value:=sgC g.1 g.2.1 g.2.2 (badS g)
def rintS (bs:List UInt8) (i:Nat):Int × Int × Nat:=
 let q:=rnumS (bs.drop (i+1))
 let k:=i+1+q.2
 if q.2=0 ∨ bs.length <= k then (0,0,0)
 else if bn bs k=44 then
  let r:=rnumS (bs.drop (k+1))
  if bs.length <= k+1+r.2 ∨ bn bs (k+1+r.2) ≠ 125 then (0,0,0) else ((q.1:Int),(if r.2=0 then -1 else (r.1:Int)),k+1+r.2+1 - i)
 else if bn bs k=125 then ((q.1:Int),(q.1:Int),k+1 - i) else (0,0,0)
theorem numS_cases (l:List UInt8):(numS l=rnumS l/\(rnumS l).2=(l.takeWhile isDig).length) ∨ (numS l=(0,0)/\(rnumS l).2=3/\48 <= bn l 3/\bn l 3 <= 57):=by
 unfold numS rnumS;by_cases h:3 < (l.takeWhile isDig).length
 ·right
  rw [if_pos h];obtain ⟨c,h1,h2,-⟩:=takeWhile_get l 3 h;obtain ⟨h4,h5⟩:=List.getElem?_eq_some_iff.1 h1;have:=(isDig_iff c).1 h2;rw [bn_eq_get h4,h5];exact ⟨rfl,by simp;omega,this.1,this.2⟩
 left
 rw [if_neg h,List.take_of_length_le (by omega)];exact ⟨rfl,rfl⟩
theorem rintS_eq (bs:List UInt8) (i:Nat) (hi:i < bs.length):rintS bs i=intervalS (bs.drop i):=by
 unfold rintS intervalS;have hd:∀ k j,bn (bs.drop k) j=bn bs (k+j):=fun k j=>bn_drop bs k j;have e1:(bs.drop i).drop 1=bs.drop (i+1):=by rw [List.drop_drop]
 rw [e1];rcases numS_cases (bs.drop (i+1)) with ⟨h1,-⟩ | ⟨h1,h2,h3,h4⟩
 ·rw [h1]
  generalize rnumS (bs.drop (i+1))=q
  simp only [];unfold intervalT;by_cases hq:q.2=0
  ·rw [if_pos (.inl hq),if_pos hq]
  rw [if_neg hq];have e2:bn (bs.drop i) (q.2+1)=bn bs (i+1+q.2):=by rw [hd];congr 1;omega
  rw [e2];by_cases hk:bs.length <= i+1+q.2
  ·rw [if_pos (.inr hk),bn_ge hk];simp
  rw [if_neg (by omega)];by_cases h44:bn bs (i+1+q.2)=44
  ·rw [if_pos h44,if_pos h44];have e3:(bs.drop i).drop (q.2+2)=bs.drop (i+1+q.2+1):=by rw [List.drop_drop];congr 1;omega
   rw [e3];rcases numS_cases (bs.drop (i+1+q.2+1)) with ⟨g1,-⟩ | ⟨g1,g2,g3,g4⟩
   ·rw [g1]
    generalize rnumS (bs.drop (i+1+q.2+1))=r
    have e4:bn (bs.drop i) (q.2+2+r.2)=bn bs (i+1+q.2+1+r.2):=by rw [hd];congr 1;omega
    rw [e4];by_cases h125:bn bs (i+1+q.2+1+r.2)=125
    ·have:=bn_pos h125 (by omega);rw [if_neg (by omega),if_pos h125]
     congr 2;omega
    rw [if_pos (.inr h125),if_neg h125]
   rw [g1,g2];have e4:bn (bs.drop i) (q.2+2+0)=bn bs (i+1+q.2+1):=by rw [hd];congr 1;omega
   simp only [];rw [e4];have hm:=bn_drop bs (i+1+q.2+1) 3;rw [hm] at g3 g4
   have h0:48 <= bn bs (i+1+q.2+1)/\bn bs (i+1+q.2+1) <= 57:=by
    have hlt:0 < ((bs.drop (i+1+q.2+1)).takeWhile isDig).length:=by
     have:=g2;unfold rnumS at this;simp at this;omega
    obtain ⟨c,k1,k2,-⟩:=takeWhile_get _ 0 hlt;rw [List.getElem?_drop] at k1;obtain ⟨k4,k5⟩:=List.getElem?_eq_some_iff.1 k1;have:=(isDig_iff c).1 k2;have hb:bn bs (i+1+q.2+1)=c.toNat:=by rw [bn_eq_get k4];exact congrArg UInt8.toNat k5
    omega
   rw [if_pos (.inr (by omega)),if_neg (by omega)]
  rw [if_neg h44,if_neg h44];by_cases h125:bn bs (i+1+q.2)=125
  ·rw [if_pos h125,if_pos h125]
   congr 2;omega
  rw [if_neg h125,if_neg h125]
 rw [h1];unfold intervalT;simp only [];rw [h2,if_pos trivial];have hm:=bn_drop bs (i+1) 3;rw [hm] at h3 h4;by_cases hk:bs.length <= i+1+3
 ·rw [if_pos (.inr hk)]
 rw [if_neg (by omega),if_neg (by omega),if_neg (by omega)]
theorem sign_any_ (bs:List UInt8) (i:Nat) (hl:bs.length <= 1000000) (hi:i <= bs.length) (w:World):Calls prog 91 #[.string ⟨bs.toArray⟩,.int .i64 (i:Int)] w fun e w'=>e = .returned (.agg (signC (signS bs i)).toArray)/\Fr [] w w':=by
 obtain ⟨S,hS⟩:∃ S,S=(⟨bs.toArray⟩:ByteArray):=⟨_,rfl⟩;obtain ⟨L,hL⟩:∃ L,L=bs.length:=⟨_,rfl⟩;have hs1:S.size=L:=by rw [hS,hL];simp [ByteArray.size]
 have hix:∀ j,j < L->∀ W,(Instr.index 9 (.string S) (.int .i64 (j:Int))).run prog W = .ok (.int .u8 (bn bs j:Int)) W:=fun j hj W=>by rw [hS];exact str_at bs j (by omega) W
 have HIX:=zh hix;have HNUM:Hid (∀ j:Nat,j <= 1000000000->∀ W,Calls prog 107 #[.string S,.int .i64 (j:Int)] W fun e w'=>e = .returned (.tuple #[.int .i64 ((rnumS (bs.drop j)).1:Int),.int .i64 ((rnumS (bs.drop j)).2:Int)])/\W=w'):=zh (fun j hj W=>by rw [hS];exact rnumber_any bs j (by omega) hj W)
 have HSG:Hid (signS bs i=if L <= i then (0,0,0) else if bn bs i=42 then (0,-1,1) else if bn bs i=43 then (1,-1,1) else if bn bs i=63 then (0,1,1) else if bn bs i=123 then rintS bs i else (0,0,0)):=zh (by
  unfold signS;by_cases h:L <= i
  ·rw [if_pos h,bn_ge (by omega)];simp
  rw [if_neg h,rintS_eq bs i (by omega)])
 obtain ⟨g,hg⟩:∃ g,g=w.heap.size:=⟨_,rfl⟩;have HG:=zh hg;have HL:=zh hL;rw [<-hS];rw [<-hL] at hl hi;clear hS hix hL;go_enter func91,ntmps91
 go_upto_region 1 with (refine wpList_alloc_bk rfl 191 rfl (sgC 0 0 0 false) 4 sg_zero ?_;intro w1 hz hf1;have HZ:=zh hz;have HF:=zh hf1;clear hz hf1)
 rw [<-hg];have HZ:Hid (Bk w1 g 191 (sgC 0 0 0 false).toArray):=zh (by rw [hg];exact HZ.out);clear hg;by_cases h1:L <= i
 ·have HE:Hid (signS bs i=(0,0,0)):=zh (by rw [HSG.out,if_pos h1]);go_wp2_with (refine wpList_store_bkA rfl 191 _ _ rfl g _ rfl rfl _ _ HZ.out sg_size (by first | rfl | simp) (by simp [Value.oneCell']) ?_;intro w9 hb9 hf9;have HB9:=zh hb9;have HF9:=zh hf9;clear hb9 hf9)
  refine ret_rowA (p:=4) (T:=191) rfl g _ _ rfl HB9.out underlying191 rfl sg_size rfl ?_;refine ⟨?_,HF.out.trans' HF9.out (by simp;have:=HG.out;omega)⟩;first | (rw [HE.out];rfl) | (rw [HE.out];unfold signC sgC badS;simp;done) | (rw [HE.out];unfold signC sgC badS;simp;omega) | (rw [HE.out];unfold signC sgC badS;have:=HEK.out;simp;omega)
 have i1:=HIX.out i (by omega);have HSG2:Hid (signS bs i=if bn bs i=42 then (0,-1,1) else if bn bs i=43 then (1,-1,1) else if bn bs i=63 then (0,1,1) else if bn bs i=123 then rintS bs i else (0,0,0)):=zh (by rw [HSG.out,if_neg h1]);clear HSG;obtain ⟨x,hx⟩:∃ x,x=bn bs i:=⟨_,rfl⟩;have hxl:x < 256:=by rw [hx];exact bn_lt _ _
 rw [<-hx] at i1 HSG2;clear hx;by_cases h42:x=42
 ·subst h42;have HE:Hid (signS bs i=(0,-1,1)):=zh (by rw [HSG2.out];rfl);go_wp2_with (refine wpList_store_bkA rfl 191 _ _ rfl g _ rfl rfl _ _ HZ.out sg_size (by first | rfl | simp) (by simp [Value.oneCell']) ?_;intro w9 hb9 hf9;have HB9:=zh hb9;have HF9:=zh hf9;clear hb9 hf9)
  refine ret_rowA (p:=4) (T:=191) rfl g _ _ rfl HB9.out underlying191 rfl sg_size rfl ?_;refine ⟨?_,HF.out.trans' HF9.out (by simp;have:=HG.out;omega)⟩;first | (rw [HE.out];rfl) | (rw [HE.out];unfold signC sgC badS;simp;done) | (rw [HE.out];unfold signC sgC badS;simp;omega) | (rw [HE.out];unfold signC sgC badS;have:=HEK.out;simp;omega)
 by_cases h43:x=43
 ·subst h43;have HE:Hid (signS bs i=(1,-1,1)):=zh (by rw [HSG2.out];rfl);go_wp2_with (refine wpList_store_bkA rfl 191 _ _ rfl g _ rfl rfl _ _ HZ.out sg_size (by first | rfl | simp) (by simp [Value.oneCell']) ?_;intro w9 hb9 hf9;have HB9:=zh hb9;have HF9:=zh hf9;clear hb9 hf9)
  refine ret_rowA (p:=4) (T:=191) rfl g _ _ rfl HB9.out underlying191 rfl sg_size rfl ?_;refine ⟨?_,HF.out.trans' HF9.out (by simp;have:=HG.out;omega)⟩;first | (rw [HE.out];rfl) | (rw [HE.out];unfold signC sgC badS;simp;done) | (rw [HE.out];unfold signC sgC badS;simp;omega) | (rw [HE.out];unfold signC sgC badS;have:=HEK.out;simp;omega)
 by_cases h63:x=63
 ·subst h63;have HE:Hid (signS bs i=(0,1,1)):=zh (by rw [HSG2.out];rfl);go_wp2_with (refine wpList_store_bkA rfl 191 _ _ rfl g _ rfl rfl _ _ HZ.out sg_size (by first | rfl | simp) (by simp [Value.oneCell']) ?_;intro w9 hb9 hf9;have HB9:=zh hb9;have HF9:=zh hf9;clear hb9 hf9)
  refine ret_rowA (p:=4) (T:=191) rfl g _ _ rfl HB9.out underlying191 rfl sg_size rfl ?_;refine ⟨?_,HF.out.trans' HF9.out (by simp;have:=HG.out;omega)⟩;first | (rw [HE.out];rfl) | (rw [HE.out];unfold signC sgC badS;simp;done) | (rw [HE.out];unfold signC sgC badS;simp;omega) | (rw [HE.out];unfold signC sgC badS;have:=HEK.out;simp;omega)
 have t42:((x:Int) == 42)=false:=by simp;omega
 have t43:((x:Int) == 43)=false:=by simp;omega
 have t63:((x:Int) == 63)=false:=by simp;omega
 have HSG3:Hid (signS bs i=if x=123 then rintS bs i else (0,0,0)):=zh (by rw [HSG2.out,if_neg h42,if_neg h43,if_neg h63]);clear HSG2 h42 h43 h63;by_cases h123:x=123
 case neg=>
  have t123:((x:Int) != 123)=true:=by simp;omega
  have HE:Hid (signS bs i=(0,0,0)):=zh (by rw [HSG3.out,if_neg h123]);go_wp2_with (refine wpList_store_bkA rfl 191 _ _ rfl g _ rfl rfl _ _ HZ.out sg_size (by first | rfl | simp) (by simp [Value.oneCell']) ?_;intro w9 hb9 hf9;have HB9:=zh hb9;have HF9:=zh hf9;clear hb9 hf9)
  refine ret_rowA (p:=4) (T:=191) rfl g _ _ rfl HB9.out underlying191 rfl sg_size rfl ?_;refine ⟨?_,HF.out.trans' HF9.out (by simp;have:=HG.out;omega)⟩;first | (rw [HE.out];rfl) | (rw [HE.out];unfold signC sgC badS;simp;done) | (rw [HE.out];unfold signC sgC badS;simp;omega) | (rw [HE.out];unfold signC sgC badS;have:=HEK.out;simp;omega)
 case pos=>
  subst h123;have HSI:Hid (signS bs i=rintS bs i):=zh (by rw [HSG3.out,if_pos rfl]);clear HSG3;unfold rintS at HSI;simp only [] at HSI;have HN:Hid (∀ W,Calls prog 107 #[.string S,.int .i64 ((i:Int)+1)] W fun e w'=>e = .returned (.tuple #[.int .i64 ((rnumS (bs.drop (i+1))).1:Int),.int .i64 ((rnumS (bs.drop (i+1))).2:Int)])/\W=w'):=zh (fun W=>by have:=HNUM.out (i+1) (by omega) W;simpa using this);obtain ⟨hn3,hv9,-⟩:=rnum_le (bs.drop (i+1));obtain ⟨v,hv⟩:∃ v,v=(rnumS (bs.drop (i+1))).1:=⟨_,rfl⟩;obtain ⟨n,hn⟩:∃ n,n=(rnumS (bs.drop (i+1))).2:=⟨_,rfl⟩;rw [<-hv] at HN hv9 HSI;rw [<-hn] at HN hn3 HSI;clear hv hn;go_upto_region 14 with (go_at_call 107;refine (HN.out _).mono ?_;rintro e w2 ⟨rfl,rfl⟩)
  by_cases hn0:n=0
  ·subst hn0;have HE:Hid (signS bs i=(0,0,0)):=zh (by rw [HSI.out,if_pos (.inl rfl)]);go_wp2_with (refine wpList_store_bkA rfl 191 _ _ rfl g _ rfl rfl _ _ HZ.out sg_size (by first | rfl | simp) (by simp [Value.oneCell']) ?_;intro w9 hb9 hf9;have HB9:=zh hb9;have HF9:=zh hf9;clear hb9 hf9)
   refine ret_rowA (p:=4) (T:=191) rfl g _ _ rfl HB9.out underlying191 rfl sg_size rfl ?_;refine ⟨?_,HF.out.trans' HF9.out (by simp;have:=HG.out;omega)⟩;first | (rw [HE.out];rfl) | (rw [HE.out];unfold signC sgC badS;simp;done) | (rw [HE.out];unfold signC sgC badS;simp;omega) | (rw [HE.out];unfold signC sgC badS;have:=HEK.out;simp;omega)
  have tn0:((n:Int) == 0)=false:=by simp;omega
  by_cases hk:L <= i+1+n
  ·have hkI:(L:Int) <= (i:Int)+1+(n:Int):=by omega
   have HE:Hid (signS bs i=(0,0,0)):=zh (by rw [HSI.out,if_pos (.inr (by rw [<-HL.out];exact hk))]);go_wp2_with (refine wpList_store_bkA rfl 191 _ _ rfl g _ rfl rfl _ _ HZ.out sg_size (by first | rfl | simp) (by simp [Value.oneCell']) ?_;intro w9 hb9 hf9;have HB9:=zh hb9;have HF9:=zh hf9;clear hb9 hf9)
   refine ret_rowA (p:=4) (T:=191) rfl g _ _ rfl HB9.out underlying191 rfl sg_size rfl ?_;refine ⟨?_,HF.out.trans' HF9.out (by simp;have:=HG.out;omega)⟩;first | (rw [HE.out];rfl) | (rw [HE.out];unfold signC sgC badS;simp;done) | (rw [HE.out];unfold signC sgC badS;simp;omega) | (rw [HE.out];unfold signC sgC badS;have:=HEK.out;simp;omega)
  have hkI:¬ ((L:Int) <= (i:Int)+1+(n:Int)):=by omega
  rw [if_neg (by rw [<-HL.out];omega)] at HSI;have i2:=HIX.out (i+1+n) (by omega);obtain ⟨k,hk2⟩:∃ k,k=i+1+n:=⟨_,rfl⟩;have hkL:k < L:=by omega
  have ek:(i:Int)+1+(n:Int)=(k:Int):=by omega
  rw [<-hk2] at i2 HSI;have HKE:=zh hk2;clear hk2 hk hkI;rw [ek];obtain ⟨y,hy⟩:∃ y,y=bn bs k:=⟨_,rfl⟩;have hyl:y < 256:=by rw [hy];exact bn_lt _ _
  rw [<-hy] at i2 HSI;clear hy ek;have hkI:(k:Int) < (L:Int):=by omega
  by_cases h44:y=44
  ·subst h44;rw [if_pos rfl] at HSI;have HN2:Hid (∀ W,Calls prog 107 #[.string S,.int .i64 ((k:Int)+1)] W fun e w'=>e = .returned (.tuple #[.int .i64 ((rnumS (bs.drop (k+1))).1:Int),.int .i64 ((rnumS (bs.drop (k+1))).2:Int)])/\W=w'):=zh (fun W=>by have:=HNUM.out (k+1) (by omega) W;simpa using this);obtain ⟨hm3,hu9,-⟩:=rnum_le (bs.drop (k+1));obtain ⟨u,hu⟩:∃ u,u=(rnumS (bs.drop (k+1))).1:=⟨_,rfl⟩;obtain ⟨m,hm⟩:∃ m,m=(rnumS (bs.drop (k+1))).2:=⟨_,rfl⟩;rw [<-hu] at HN2 hu9 HSI;rw [<-hm] at HN2 hm3 HSI;clear hu hm;go_upto_region 20 with (go_at_call 107;refine (HN2.out _).mono ?_;rintro e w2 ⟨rfl,rfl⟩)
   obtain ⟨k2,hk2⟩:∃ k2,k2=k+1+m:=⟨_,rfl⟩;have ek:(k:Int)+1+(m:Int)=(k2:Int):=by omega
   rw [<-hk2] at HSI;have HKF:=zh hk2;have hk2b:k2 <= 2000000:=by omega
   have hk2c:(k:Int) <= (k2:Int):=by omega
   have hkik:(i:Int) <= (k:Int):=by have:=HKE.out;omega
   clear hk2;obtain ⟨t,ht⟩:∃ t:Int,t=(if m=0 then -1 else (u:Int)):=⟨_,rfl⟩;have htb : -1 <= t/\t <= 999:=by rw [ht];split <;> omega
   rw [<-ht] at HSI;have hmc:(m=0/\t = -1) ∨ (m ≠ 0/\t=(u:Int)):=by by_cases h:m=0 <;> simp_all
   clear ht;have hcc:L <= k2 ∨ (k2 < L/\bn bs k2 ≠ 125) ∨ (k2 < L/\bn bs k2=125):=by omega
   rcases hcc with hc | ⟨hc,h125⟩ | ⟨hc,h125⟩
   ·have hcI:(L:Int) <= (k2:Int):=by omega
    have HE:Hid (signS bs i=(0,0,0)):=zh (by rw [HSI.out,if_pos (.inl (by rw [<-HL.out];exact hc))]);rcases hmc with ⟨rfl,-⟩ | ⟨hm0,-⟩
    ·have ek0:(k:Int)+1=(k2:Int):=by omega
     have hcI2:(L:Int) <= (k:Int)+1:=by omega
     clear ek;go_wp2_with (refine wpList_store_bkA rfl 191 _ _ rfl g _ rfl rfl _ _ HZ.out sg_size (by first | rfl | simp) (by simp [Value.oneCell']) ?_;intro w9 hb9 hf9;have HB9:=zh hb9;have HF9:=zh hf9;clear hb9 hf9)
     refine ret_rowA (p:=4) (T:=191) rfl g _ _ rfl HB9.out underlying191 rfl sg_size rfl ?_;refine ⟨?_,HF.out.trans' HF9.out (by simp;have:=HG.out;omega)⟩;first | (rw [HE.out];rfl) | (rw [HE.out];unfold signC sgC badS;simp;done) | (rw [HE.out];unfold signC sgC badS;simp;omega) | (rw [HE.out];unfold signC sgC badS;have:=HEK.out;simp;omega)
    have tm:((m:Int) == 0)=false:=by simp;omega
    have hcI2:(L:Int) <= (k:Int)+1+(m:Int):=by omega
    clear ek;go_wp2_with (refine wpList_store_bkA rfl 191 _ _ rfl g _ rfl rfl _ _ HZ.out sg_size (by first | rfl | simp) (by simp [Value.oneCell']) ?_;intro w9 hb9 hf9;have HB9:=zh hb9;have HF9:=zh hf9;clear hb9 hf9)
    refine ret_rowA (p:=4) (T:=191) rfl g _ _ rfl HB9.out underlying191 rfl sg_size rfl ?_;refine ⟨?_,HF.out.trans' HF9.out (by simp;have:=HG.out;omega)⟩;first | (rw [HE.out];rfl) | (rw [HE.out];unfold signC sgC badS;simp;done) | (rw [HE.out];unfold signC sgC badS;simp;omega) | (rw [HE.out];unfold signC sgC badS;have:=HEK.out;simp;omega)
   ·have HE:Hid (signS bs i=(0,0,0)):=zh (by rw [HSI.out,if_pos (.inr h125)]);have i3:=HIX.out k2 hc;obtain ⟨z,hz⟩:∃ z,z=bn bs k2:=⟨_,rfl⟩;have hzl:z < 256:=by rw [hz];exact bn_lt _ _
    rw [<-hz] at i3 h125;clear hz;have tz:((z:Int) != 125)=true:=by simp;omega
    rw [<-ek] at i3;rcases hmc with ⟨rfl,-⟩ | ⟨hm0,-⟩
    ·have hcI2:(k:Int)+1 < (L:Int):=by omega
     rw [show (k:Int)+1+((0:Nat):Int)=(k:Int)+1 by omega] at i3;clear ek;go_wp2_with (refine wpList_store_bkA rfl 191 _ _ rfl g _ rfl rfl _ _ HZ.out sg_size (by first | rfl | simp) (by simp [Value.oneCell']) ?_;intro w9 hb9 hf9;have HB9:=zh hb9;have HF9:=zh hf9;clear hb9 hf9)
     refine ret_rowA (p:=4) (T:=191) rfl g _ _ rfl HB9.out underlying191 rfl sg_size rfl ?_;refine ⟨?_,HF.out.trans' HF9.out (by simp;have:=HG.out;omega)⟩;first | (rw [HE.out];rfl) | (rw [HE.out];unfold signC sgC badS;simp;done) | (rw [HE.out];unfold signC sgC badS;simp;omega) | (rw [HE.out];unfold signC sgC badS;have:=HEK.out;simp;omega)
    have tm:((m:Int) == 0)=false:=by simp;omega
    have hcI2:(k:Int)+1+(m:Int) < (L:Int):=by omega
    clear ek;go_wp2_with (refine wpList_store_bkA rfl 191 _ _ rfl g _ rfl rfl _ _ HZ.out sg_size (by first | rfl | simp) (by simp [Value.oneCell']) ?_;intro w9 hb9 hf9;have HB9:=zh hb9;have HF9:=zh hf9;clear hb9 hf9)
    refine ret_rowA (p:=4) (T:=191) rfl g _ _ rfl HB9.out underlying191 rfl sg_size rfl ?_;refine ⟨?_,HF.out.trans' HF9.out (by simp;have:=HG.out;omega)⟩;first | (rw [HE.out];rfl) | (rw [HE.out];unfold signC sgC badS;simp;done) | (rw [HE.out];unfold signC sgC badS;simp;omega) | (rw [HE.out];unfold signC sgC badS;have:=HEK.out;simp;omega)
   have HE:Hid (signS bs i=((v:Int),t,k2+1 - i)):=zh (by rw [HSI.out,if_neg (by rw [<-HL.out];omega)]);have i3:=HIX.out k2 hc;rw [h125,<-ek] at i3;clear h125;have HEK:=zh ek;rcases hmc with ⟨rfl,rfl⟩ | ⟨hm0,rfl⟩
   ·have hcI2:(k:Int)+1 < (L:Int):=by omega
    rw [show (k:Int)+1+((0:Nat):Int)=(k:Int)+1 by omega] at i3;clear ek;by_cases hb1:255 < v
    ·have c1:(255:Int) < (v:Int):=by omega
     go_wp2_with (refine wpList_store_bkA rfl 191 _ _ rfl g _ rfl rfl _ _ HZ.out sg_size (by first | rfl | simp) (by simp [Value.oneCell']) ?_;intro w9 hb9 hf9;have HB9:=zh hb9;have HF9:=zh hf9;clear hb9 hf9)
     refine ret_rowA (p:=4) (T:=191) rfl g _ _ rfl HB9.out underlying191 rfl sg_size rfl ?_;refine ⟨?_,HF.out.trans' HF9.out (by simp;have:=HG.out;omega)⟩;first | (rw [HE.out];rfl) | (rw [HE.out];unfold signC sgC badS;simp;done) | (rw [HE.out];unfold signC sgC badS;simp;omega) | (rw [HE.out];unfold signC sgC badS;have:=HEK.out;simp;omega)
    have c1:¬ ((255:Int) < (v:Int)):=by omega
    go_wp2_with (refine wpList_store_bkA rfl 191 _ _ rfl g _ rfl rfl _ _ HZ.out sg_size (by first | rfl | simp) (by simp [Value.oneCell']) ?_;intro w9 hb9 hf9;have HB9:=zh hb9;have HF9:=zh hf9;clear hb9 hf9)
    refine ret_rowA (p:=4) (T:=191) rfl g _ _ rfl HB9.out underlying191 rfl sg_size rfl ?_;refine ⟨?_,HF.out.trans' HF9.out (by simp;have:=HG.out;omega)⟩;first | (rw [HE.out];rfl) | (rw [HE.out];unfold signC sgC badS;simp;done) | (rw [HE.out];unfold signC sgC badS;simp;omega) | (rw [HE.out];unfold signC sgC badS;have:=HEK.out;simp;omega)
   have tm:((m:Int) == 0)=false:=by simp;omega
   have hcI2:(k:Int)+1+(m:Int) < (L:Int):=by omega
   clear ek;have hcb:255 < v ∨ (v <= 255/\255 < u) ∨ (v <= 255/\u <= 255/\u < v) ∨ (v <= 255/\u <= 255/\v <= u):=by omega
   rcases hcb with hb1 | ⟨hb1,hb2⟩ | ⟨hb1,hb2,hb3⟩ | ⟨hb1,hb2,hb3⟩
   ·have c1:(255:Int) < (v:Int):=by omega
    go_wp2_with (refine wpList_store_bkA rfl 191 _ _ rfl g _ rfl rfl _ _ HZ.out sg_size (by first | rfl | simp) (by simp [Value.oneCell']) ?_;intro w9 hb9 hf9;have HB9:=zh hb9;have HF9:=zh hf9;clear hb9 hf9)
    refine ret_rowA (p:=4) (T:=191) rfl g _ _ rfl HB9.out underlying191 rfl sg_size rfl ?_;refine ⟨?_,HF.out.trans' HF9.out (by simp;have:=HG.out;omega)⟩;first | (rw [HE.out];rfl) | (rw [HE.out];unfold signC sgC badS;simp;done) | (rw [HE.out];unfold signC sgC badS;simp;omega) | (rw [HE.out];unfold signC sgC badS;have:=HEK.out;simp;omega)
   ·have c1:¬ ((255:Int) < (v:Int)):=by omega
    have c2:(255:Int) < (u:Int):=by omega
    go_wp2_with (refine wpList_store_bkA rfl 191 _ _ rfl g _ rfl rfl _ _ HZ.out sg_size (by first | rfl | simp) (by simp [Value.oneCell']) ?_;intro w9 hb9 hf9;have HB9:=zh hb9;have HF9:=zh hf9;clear hb9 hf9)
    refine ret_rowA (p:=4) (T:=191) rfl g _ _ rfl HB9.out underlying191 rfl sg_size rfl ?_;refine ⟨?_,HF.out.trans' HF9.out (by simp;have:=HG.out;omega)⟩;first | (rw [HE.out];rfl) | (rw [HE.out];unfold signC sgC badS;simp;done) | (rw [HE.out];unfold signC sgC badS;simp;omega) | (rw [HE.out];unfold signC sgC badS;have:=HEK.out;simp;omega)
   ·have c1:¬ ((255:Int) < (v:Int)):=by omega
    have c2:¬ ((255:Int) < (u:Int)):=by omega
    have c3:(u:Int) < (v:Int):=by omega
    go_wp2_with (refine wpList_store_bkA rfl 191 _ _ rfl g _ rfl rfl _ _ HZ.out sg_size (by first | rfl | simp) (by simp [Value.oneCell']) ?_;intro w9 hb9 hf9;have HB9:=zh hb9;have HF9:=zh hf9;clear hb9 hf9)
    refine ret_rowA (p:=4) (T:=191) rfl g _ _ rfl HB9.out underlying191 rfl sg_size rfl ?_;refine ⟨?_,HF.out.trans' HF9.out (by simp;have:=HG.out;omega)⟩;first | (rw [HE.out];rfl) | (rw [HE.out];unfold signC sgC badS;simp;done) | (rw [HE.out];unfold signC sgC badS;simp;omega) | (rw [HE.out];unfold signC sgC badS;have:=HEK.out;simp;omega)
   have c1:¬ ((255:Int) < (v:Int)):=by omega
   have c2:¬ ((255:Int) < (u:Int)):=by omega
   have c3:¬ ((u:Int) < (v:Int)):=by omega
   go_wp2_with (refine wpList_store_bkA rfl 191 _ _ rfl g _ rfl rfl _ _ HZ.out sg_size (by first | rfl | simp) (by simp [Value.oneCell']) ?_;intro w9 hb9 hf9;have HB9:=zh hb9;have HF9:=zh hf9;clear hb9 hf9)
   refine ret_rowA (p:=4) (T:=191) rfl g _ _ rfl HB9.out underlying191 rfl sg_size rfl ?_;refine ⟨?_,HF.out.trans' HF9.out (by simp;have:=HG.out;omega)⟩;first | (rw [HE.out];rfl) | (rw [HE.out];unfold signC sgC badS;simp;done) | (rw [HE.out];unfold signC sgC badS;simp;omega) | (rw [HE.out];unfold signC sgC badS;have:=HEK.out;simp;omega)
  have t44:((y:Int) == 44)=false:=by simp;omega
  rw [if_neg h44] at HSI;by_cases h125:y=125
  ·subst h125;rw [if_pos rfl] at HSI;have HE:Hid (signS bs i=((v:Int),(v:Int),k+1 - i)):=zh HSI.out;have hkik:(i:Int) <= (k:Int):=by have:=HKE.out;omega
   by_cases hb1:255 < v
   ·have c1:(255:Int) < (v:Int):=by omega
    go_wp2_with (refine wpList_store_bkA rfl 191 _ _ rfl g _ rfl rfl _ _ HZ.out sg_size (by first | rfl | simp) (by simp [Value.oneCell']) ?_;intro w9 hb9 hf9;have HB9:=zh hb9;have HF9:=zh hf9;clear hb9 hf9)
    refine ret_rowA (p:=4) (T:=191) rfl g _ _ rfl HB9.out underlying191 rfl sg_size rfl ?_;refine ⟨?_,HF.out.trans' HF9.out (by simp;have:=HG.out;omega)⟩;first | (rw [HE.out];rfl) | (rw [HE.out];unfold signC sgC badS;simp;done) | (rw [HE.out];unfold signC sgC badS;simp;omega) | (rw [HE.out];unfold signC sgC badS;have:=HEK.out;simp;omega)
   have c1:¬ ((255:Int) < (v:Int)):=by omega
   go_wp2_with (refine wpList_store_bkA rfl 191 _ _ rfl g _ rfl rfl _ _ HZ.out sg_size (by first | rfl | simp) (by simp [Value.oneCell']) ?_;intro w9 hb9 hf9;have HB9:=zh hb9;have HF9:=zh hf9;clear hb9 hf9)
   refine ret_rowA (p:=4) (T:=191) rfl g _ _ rfl HB9.out underlying191 rfl sg_size rfl ?_;refine ⟨?_,HF.out.trans' HF9.out (by simp;have:=HG.out;omega)⟩;first | (rw [HE.out];rfl) | (rw [HE.out];unfold signC sgC badS;simp;done) | (rw [HE.out];unfold signC sgC badS;simp;omega) | (rw [HE.out];unfold signC sgC badS;have:=HEK.out;simp;omega)
  have t125:((y:Int) != 125)=true:=by simp;omega
  have HE:Hid (signS bs i=(0,0,0)):=zh (by rw [HSI.out,if_neg h125]);go_wp2_with (refine wpList_store_bkA rfl 191 _ _ rfl g _ rfl rfl _ _ HZ.out sg_size (by first | rfl | simp) (by simp [Value.oneCell']) ?_;intro w9 hb9 hf9;have HB9:=zh hb9;have HF9:=zh hf9;clear hb9 hf9)
  refine ret_rowA (p:=4) (T:=191) rfl g _ _ rfl HB9.out underlying191 rfl sg_size rfl ?_;refine ⟨?_,HF.out.trans' HF9.out (by simp;have:=HG.out;omega)⟩;first | (rw [HE.out];rfl) | (rw [HE.out];unfold signC sgC badS;simp;done) | (rw [HE.out];unfold signC sgC badS;simp;omega) | (rw [HE.out];unfold signC sgC badS;have:=HEK.out;simp;omega)
end Go.Proofs.YtfofechcccodeaaGreatDoor
