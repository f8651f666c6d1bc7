/-
  Small texts in one (Rv2). No conditions.
-/
import Derived.Test.YtfofechcccodeaaGreatDoorQbs
namespace Go.Proofs.YtfofechcccodeaaGreatDoor
open Go.RowKit Go.ChangeMaps Go.Proofs.Tryz
set_option linter.unusedVariables false
set_option linter.unusedSimpArgs false
set_option maxRecDepth 100000
set_option maxHeartbeats 16000000
def EndsPost (n:Nat) (w:World) (P:Nat->Prop) (e:Ending) (w':World):Prop:=
 ∃ (A:Option Addr) (c:Nat) (fs:List Bool),e = .returned (.slice A (n+1) c)/\HasV n fs P/\w'.ownsRow w.heap.size 4 1 (.slice A (n+1) c) (n+1) (bits fs)/\Fr [] w w'
def EndsOk (tx:List UInt8) (p:PT):Prop:=∀ (w:World) (a:Nat),a <= tx.length->RPMem w p ->
 Calls prog 81 #[.agg p.rcells.toArray,.string ⟨tx.toArray⟩,.int .i64 (a:Int)] w (EndsPost tx.length w (semP tx p a))
theorem EndsPost.iff {n:Nat} {w:World} {P Q:Nat->Prop} {e:Ending} {w':World} (h:EndsPost n w P e w') (hq:∀ c,c <= n->(P c ↔ Q c)):EndsPost n w Q e w':=by
 obtain ⟨A,c,fs,h1,h2,h3,h4⟩:=h;exact ⟨A,c,fs,h1,h2.iff hq,h3,h4⟩
theorem mk_bools (n:Nat) (hn:n <= 100000) (W:World):(Instr.makeSlice 181 (.int .i64 ((n:Int)+1)) (.int .i64 ((n:Int)+1))).run prog W = .ok (.slice (some ⟨W.heap.size,0,none⟩) (n+1) (n+1)) (W.alloc (.cells (bits (List.replicate (n+1) false)).toArray 4)):=by
 obtain ⟨i,hi,hz,hs,hb⟩:=boolParts;have h:=run_make (P:=prog) (w:=W) 181 4 i _ underlying181 hi hz .i64 .i64 ((n:Int)+1) ((n:Int)+1) (by omega) (by omega) (by rw [hb];omega) (by omega);rw [hs] at h;have e1:Int.toNat ((n:Int)+1)=n+1:=by omega
 have e2:madeCells (Value.bool false).cells ((n+1) * 1)=(bits (List.replicate (n+1) false)).toArray:=by
  have:=toList_madeCells_one (.bool false) (n+1);rw [Nat.mul_one]
  apply Array.ext'
  rw [show (Value.bool false).cells=#[Value.bool false] from rfl,this];simp [bits]
 rw [e1,e2] at h;exact h
theorem own_bits {w:World} {g lo n:Nat} {fs:List Bool} (h:Bk w g 4 (bits fs).toArray) (hlo:lo <= g) (hn:fs.length=n) (hl:n <= 1000):w.ownsRow lo 4 1 (.slice (some ⟨g,0,none⟩) n n) n (bits fs):=by
 subst hn;exact ⟨by simp [bits],.inr ⟨g,fs.length,_,rfl,hlo,h,Nat.le_refl _,by unfold maxLen;omega,by simp [bits],by simp [bits];exact List.take_of_length_le (by simp)⟩⟩
theorem Bk.bit_put {w:World} {g:Nat} {fs:List Bool} (h:Bk w g 4 (bits fs).toArray) (i:Nat) (b:Bool):Bk (w.setCell ⟨g,i,none⟩ (.bool b)) g 4 (bits (fs.set i b)).toArray:=by
 have h2:=h.put i (.bool b)
 have e:(bits fs).toArray.setIfInBounds i (.bool b)=(bits (fs.set i b)).toArray:=by
  simp [bits,List.map_set]
 rw [e] at h2;exact h2
def AllRel (w:World) (g L:Nat) (C:List Value) (Q:Nat->Prop) (R:Nat->Nat->Prop) (v7 v8:Value) (wr:World):Prop:=∃ (i:Nat) (A:Option Addr) (c:Nat) (fs:List Bool),v8 = .int .i64 (i:Int)/\v7 = .slice A (L+1) c/\i <= L+1 /\
 HasV L fs (fun x=>∃ b,b < i/\Q b/\R b x)/\wr.ownsRow w.heap.size 4 1 (.slice A (L+1) c) (L+1) (bits fs)/\Bk wr g 69 C.toArray/\Fr [] w wr
theorem all_of {tx:List UInt8} {p:PT} (hx:tx.length <= 500) (hp:EndsOk tx p) (w:World) {A:Option Addr} {ca:Nat} {gs:List Bool} {Q:Nat->Prop} (hq:HasV tx.length gs Q) (ha:At w A (bits gs)) (hm:RPMem w p) :
    Calls prog 98 #[.agg p.rcells.toArray,.string ⟨tx.toArray⟩,.slice A (tx.length+1) ca] w (EndsPost tx.length w (fun x=>∃ b,b < tx.length+1/\Q b/\semP tx p b x)):=by
 obtain ⟨S,hS⟩:∃ S,S=(⟨tx.toArray⟩:ByteArray):=⟨_,rfl⟩;obtain ⟨L,hL⟩:∃ L,L=tx.length:=⟨_,rfl⟩;have hs1:S.size=L:=by rw [hS,hL];simp [ByteArray.size]
 obtain ⟨R,hR⟩:∃ R,R=semP tx p:=⟨_,rfl⟩;unfold EndsOk at hp;rw [<-hR,<-hL] at hp;rw [<-hS] at hp ⊢; rw [<-hL] at hx hq ⊢; rw [<-hR];have hmk:=mk_bools L (by omega);have HP:=zh hp;have HQ:=zh hq;have HA:=zh ha;have HM:=zh hm;clear hp hq ha hm hS hL hR;go_enter func98,ntmps98
 go_wp2_with (refine wpList_box_bk rfl 69 _ rfl p.rcells rfl ?_;intro w1 hz hf1;have HZ:=zh hz;have HF:=zh hf1;clear hz hf1)
 clear hmk;obtain ⟨g,hg⟩:∃ g,g=w.heap.size:=⟨_,rfl⟩;rw [<-hg];obtain ⟨w2,hw2⟩:∃ w2,w2=w1.alloc (.cells (bits (List.replicate (L+1) false)).toArray 4):=⟨_,rfl⟩;have h12:Fr [] w1 w2:=by rw [hw2];exact (Fr.refl [] w1).alloc _
 have hg1:Bk w2 g 69 p.rcells.toArray:=by rw [hg];exact HZ.out.fr h12 (by simp)
 have hb1:Bk w2 w1.heap.size 4 (bits (List.replicate (L+1) false)).toArray:=by rw [hw2];exact Bk.new w1 _ _
 have hsz:=HF.out.size;have hown1:=own_bits hb1 hsz (n:=L+1) (by simp) (by omega);rw [<-hw2];have HG1:=zh hg1;have HO1:=zh hown1;have HF2:=zh (HF.out.trans h12);have HGE:=zh hg;clear hg hg1 hb1 hown1 hw2 h12 hsz HZ
 go_loopw [7,8] (fun v7 v8 wr=>AllRel w g L p.rcells Q R v7 v8 wr) (fun _ v8 _=>L+2 - (intOf v8).toNat)
 case atStart=>exact ⟨0,_,_,_,rfl,rfl,Nat.zero_le _,(HasV.none_ L).iff (fun c _=>⟨fun h=>h.elim,fun ⟨b,h,_⟩=>absurd h (by omega)⟩),HO1.out,HG1.out,HF2.out⟩
 case round=>
  obtain ⟨i,A0,c0,fs,rfl,rfl,hi,hfs,hown,hbk,hfr⟩:=hrel;have HFS:=zh hfs;have HOWN:=zh hown;have HBK:=zh hbk;have HFR:=zh hfr;clear hfs hown hbk hfr HO1 HG1;rcases Nat.lt_or_ge i (L+1) with hin | hin
  ·have hinI:(i:Int) <= (L:Int):=by omega
   have hinJ:(i:Int) < (L:Int)+1:=by omega
   obtain ⟨ad,rfl,e0⟩:=(HA.out.fr_nil HFR.out).bit (i:=i) (by have:=HQ.out.1;omega);have hqi:=HQ.out.2 i (by omega);obtain ⟨x,hx'⟩:∃ x,x=gs.getD i false:=⟨_,rfl⟩;rw [<-hx'] at e0 hqi;have HQI:=zh hqi;clear hqi hx'
   cases x with
   | false=>
    go_wp2_with fail
    go_roundw
    case rel=>
     refine ⟨i+1,A0,c0,fs,by go_num,rfl,by omega,HFS.out.iff (fun c _=>⟨fun ⟨b,h1,h2⟩=>⟨b,by omega,h2⟩,fun ⟨b,h1,h2,h3⟩=>⟨b,?_,h2,h3⟩⟩),HOWN.out,HBK.out,HFR.out⟩;rcases Nat.lt_or_ge b i with h | h
     ·exact h
     obtain rfl:b=i:=by omega
     have:=HQI.out.2 h2
     cases this
    case measure=>simp [intOf] <;> omega
   | true=>
    have hqq:Q i:=by have:=HQI.out;simpa using this
    have hE:=HP.out wr i (by omega) (HM.out.fr_nil HFR.out);have HE:=zh hE;clear hE;go_upto_region 6 with fail
    go_upto_region 4 with (first
     | (refine wpList_load_bk rfl 69 _ rfl g 0 rfl p.rcells _ _ _ HBK.out (by intro j u hj;rw [Nat.zero_add,List.getElem?_toArray];exact hj) underlying69 rfl (by rw [rcells_len];exact rp_size) ?_)
     | (go_at_call 81;refine HE.out.mono ?_;rintro e w3 ⟨A3,c3,f3,rfl,h31,h32,h33⟩;have HV3:=zh h31;have HO3:=zh h32;have HF3:=zh h33;clear h31 h32 h33)
     | (go_at_call 99;refine (rboth_any (by have:=HFS.out.1;omega) (by have:=HV3.out.1;omega) (by omega) (At.of_own (own_keep HOWN.out (KeepB.of_nil HF3.out))) (At.of_own HO3.out)).mono ?_;rintro e w4 ⟨A4,c4,rfl,h41,h42⟩;have HO4:=zh h41;have HF4:=zh h42;clear h41 h42))
    have hF4:Fr [] wr w4:=HF3.out.trans HF4.out;have hV4:=HFS.out.or_ HV3.out;have hO4:w4.ownsRow w.heap.size 4 1 (.slice A4 (L+1) c4) (L+1) (bits (List.zipWith (· || ·) fs f3)):=own_rebase HO4.out (fun g hg=>by have:=(own_base HO4.out g hg).1;have:=HFR.out.size;have:=HF3.out.size;omega);have HV4:=zh hV4;have HO5:=zh hO4;have HF5:=zh (HFR.out.trans hF4);have HB5:=zh (HBK.out.fr hF4 (by simp));clear hF4 hV4 hO4;go_wp2_with fail
    go_roundw
    case rel=>
     refine ⟨i+1,A4,c4,_,by go_num,rfl,by omega,HV4.out.iff (fun c _=>⟨?_,fun ⟨b,h1,h2,h3⟩=>?_⟩),HO5.out,HB5.out,HF5.out⟩
     ·rintro (⟨b,h1,h2⟩ | h)
      ·exact ⟨b,by omega,h2⟩
      exact ⟨i,by omega,hqq,h⟩
     rcases Nat.lt_or_ge b i with h | h
     ·exact .inl ⟨b,h,h2,h3⟩
     obtain rfl:b=i:=by omega
     exact .inr h3
    case measure=>simp [intOf] <;> omega
  have hinI:¬ ((i:Int) <= (L:Int)):=by omega
  obtain rfl:i=L+1:=by omega
  go_wp2_with fail
  go_ret
  exact ⟨A0,c0,fs,rfl,HFS.out,HOWN.out,HFR.out⟩
def RRep1 (w:World) (g L:Nat) (C:List Value) (R:Nat->Nat->Prop) (a mn:Nat) (v7 v8:Value) (wr:World):Prop:=∃ (i:Nat) (A:Option Addr) (c:Nat) (fs:List Bool),v8 = .int .i64 (i:Int)/\v7 = .slice A (L+1) c/\i <= mn /\
 HasV L fs (iterR R i a)/\wr.ownsRow w.heap.size 4 1 (.slice A (L+1) c) (L+1) (bits fs)/\Bk wr g 69 C.toArray/\Fr [] w wr
def RRep2 (w:World) (g L:Nat) (C:List Value) (R:Nat->Nat->Prop) (a mn:Nat) (mx:Int) (v7 v10:Value) (wr:World):Prop:=∃ (j:Nat) (A:Option Addr) (c:Nat) (fs:List Bool),v10 = .int .i64 ((mn+j:Nat):Int)/\v7 = .slice A (L+1) c/\(mx < 0 ∨ mn+j <= mx.toNat) /\
 j+lackV fs <= L+1/\HasV L fs (accR R mn a j)/\wr.ownsRow w.heap.size 4 1 (.slice A (L+1) c) (L+1) (bits fs)/\Bk wr g 69 C.toArray/\Fr [] w wr
theorem lack_le (fs:List Bool):lackV fs <= fs.length:=List.length_filter_le _ _
theorem rep_of {tx:List UInt8} {p t:PT} (hx:tx.length <= 500) (hp:EndsOk tx t) (hl:p.l=[t]) (hmn:0 <= p.mn/\p.mn <= 255) (hmx : -1 <= p.mx/\p.mx <= 255/\(0 <= p.mx->p.mn <= p.mx)) (w:World) (a:Nat) (ha:a <= tx.length) (hm:RPMem w p) :
    Calls prog 100 #[.agg p.rcells.toArray,.string ⟨tx.toArray⟩,.int .i64 (a:Int)] w (EndsPost tx.length w fun c=>∃ m:Nat,p.mn.toNat <= m/\(p.mx < 0 ∨ m <= p.mx.toNat)/\iterR (semP tx t) m a c):=by
 have hle:=semP_le tx t;have hall:=fun (w:World) (A:Option Addr) (ca:Nat) (gs:List Bool) (Q:Nat->Prop) hq ha hm=>all_of hx hp w (A:=A) (ca:=ca) (gs:=gs) (Q:=Q) hq ha hm;obtain ⟨S,hS⟩:∃ S,S=(⟨tx.toArray⟩:ByteArray):=⟨_,rfl⟩;obtain ⟨L,hL⟩:∃ L,L=tx.length:=⟨_,rfl⟩;have hs1:S.size=L:=by rw [hS,hL];simp [ByteArray.size]
 obtain ⟨R,hR⟩:∃ R,R=semP tx t:=⟨_,rfl⟩;obtain ⟨mn,hmn0⟩:∃ mn:Nat,p.mn=(mn:Int):=⟨p.mn.toNat,by omega⟩;obtain ⟨X,hX⟩:∃ X,X=p.mx:=⟨_,rfl⟩;have hmn1:p.mn.toNat=mn:=by omega
 rw [<-hS,<-hL,<-hR] at hall;rw [<-hL,<-hR] at hle;rw [<-hS,<-hL,<-hR,hmn1,<-hX];rw [<-hL] at hx ha;rw [<-hX] at hmx;have hmk:=mk_bools L (by omega);obtain ⟨⟨b,off,hA,hcs⟩,hmq⟩:=hm.child (i:=0) (q:=t) (by rw [hl];rfl);have HALL:=zh hall;have HM:=zh hm;have HLE:=zh hle;have HMQ:=zh hmq;have HCS0:=zh hcs;have hlen:p.l.length=1:=by rw [hl];rfl
 have hPC:p.rcells=partC p.k p.rset (mn:Int) X (.slice p.A 1 p.c):=by unfold PT.rcells;rw [hlen,hmn0,hX]
 rw [hA] at hPC;obtain ⟨C,hC⟩:∃ C,C=p.rcells:=⟨_,rfl⟩;obtain ⟨pk,hpk⟩:∃ x,x=p.k:=⟨_,rfl⟩;obtain ⟨ps,hps⟩:∃ x,x=p.rset:=⟨_,rfl⟩;obtain ⟨pc,hpc⟩:∃ x,x=p.c:=⟨_,rfl⟩;rw [<-hC,<-hpk,<-hps,<-hpc] at hPC;rw [<-hC];have hCl:C.length=260:=by rw [hC];exact rcells_len p
 have HPC:=zh hPC;have hmnb:mn <= 255:=by omega
 have hmxb : -1 <= X/\X <= 255/\(0 <= X->(mn:Int) <= X):=⟨hmx.1,hmx.2.1,fun h=>by have:=hmx.2.2 h;omega⟩;obtain ⟨PP,hPP⟩:∃ PP:Nat->Prop,PP=fun c=>∃ m:Nat,mn <= m/\(X < 0 ∨ m <= X.toNat)/\iterR R m a c:=⟨_,rfl⟩;rw [<-hPP];have HPP:=zh hPP;clear hall hm hle hmq hcs hS hL hR hp hmn hmx hlen hA hPC hmn0 hmn1 hX hl hC hpk hps hpc hPP;go_enter func100,ntmps100
 go_upto_region 2 with (refine wpList_box_bk rfl 69 _ rfl C rfl ?_;intro w1 hz hf1;have HZ:=zh hz;have HF:=zh hf1;clear hz hf1)
 clear hmk;obtain ⟨g,hg⟩:∃ g,g=w.heap.size:=⟨_,rfl⟩;rw [<-hg];obtain ⟨w2,hw2⟩:∃ w2,w2=w1.alloc (.cells (bits (List.replicate (L+1) false)).toArray 4):=⟨_,rfl⟩;have h12:Fr [] w1 w2:=by rw [hw2];exact (Fr.refl [] w1).alloc _
 have hg1:Bk w2 g 69 C.toArray:=by rw [hg];exact HZ.out.fr h12 (by simp)
 obtain ⟨g2,hg2⟩:∃ g2,g2=w1.heap.size:=⟨_,rfl⟩;have hb1:Bk w2 g2 4 (bits (List.replicate (L+1) false)).toArray:=by rw [hw2,hg2];exact Bk.new w1 _ _
 have hgg:w.heap.size < g2:=by rw [hg2];exact HZ.out.lt
 rw [<-hw2,<-hg2];have HF2:=zh (HF.out.trans h12);have HG1:=zh hg1;have HB1:=zh hb1;have hlt2:=hb1.lt;have hfz2:=hb1.frozen a;have haI:(a:Int) < (L:Int)+1:=by omega
 have ce:w2.cell? ⟨g2,a,none⟩=some (.bool false):=hb1.cell_ (by rw [List.getElem?_toArray,bits_get (by simp;omega)];rw [List.getD_eq_getElem?_getD,List.getElem?_replicate];split <;> rfl)
 have HGE:=zh hg;have HG2:=zh hg2;clear hg hg2 hg1 hb1 hw2 h12 HZ;go_wp2_with fail
 obtain ⟨w3,hw3⟩:∃ w3,w3=w2.setCell ⟨g2,a,none⟩ (.bool true):=⟨_,rfl⟩;have hb3:Bk w3 g2 4 (bits ((List.replicate (L+1) false).set a true)).toArray:=by rw [hw3];exact HB1.out.bit_put a true
 have hf23:Fr [g2] w2 w3:=by rw [hw3];exact (Fr.refl [g2] w2).setCell (.inl (by simp)) _
 have hf3:Fr [] w w3:=HF2.out.trans' hf23 (by simp;omega);have hg3:Bk w3 g 69 C.toArray:=HG1.out.fr hf23 (by have:=HGE.out;simp;omega);have ho3:=own_bits (n:=L+1) hb3 (Nat.le_of_lt hgg) (by simp) (by omega)
 have hv3:HasV L ((List.replicate (L+1) false).set a true) (iterR R 0 a):=((HasV.none_ L).set_ ha true).iff (fun c _=>by
  rw [iterR];by_cases e:c=a
  ·simp [e]
  simp [e];omega)
 rw [<-hw3];have HG3:=zh hg3;have HO3:=zh ho3;have HV3:=zh hv3;have HF3:=zh hf3;clear hb3 hf23 hf3 hg3 ho3 hv3 hw3 hlt2 hfz2 haI ce HF2 HG1 HB1
 go_loopw [7,8,9] (fun v7 v8 v9 wr=>RRep1 w g L C R a mn v7 v8 wr) (fun _ v8 _ _=>mn+1 - (intOf v8).toNat)
 case' atStart=>exact ⟨0,_,_,_,rfl,rfl,Nat.zero_le _,HV3.out,HO3.out,HG3.out,HF3.out⟩
 case' round=>
  obtain ⟨i,A0,c0,fs,rfl,rfl,hi,hfs,hown,hbk,hfr⟩:=hrel;have c257:=hbk.cellL (i:=257) (by rw [HPC.out];exact partC_mn _ _ _ _ _);have c259:=hbk.cellL (i:=259) (by rw [HPC.out];exact partC_l _ _ _ _ _);have HFS:=zh hfs;have HOWN:=zh hown;have HBK:=zh hbk;have HFR:=zh hfr;have HCS:=zh (HCS0.out.fr hfr (by simp));clear hfs hown hbk hfr HO3 HG3;by_cases hin:i < mn
  case' pos=>
   have hinI:(i:Int) < (mn:Int):=by omega
   go_upto_region 7 with (first
    | (refine wpList_load_mid rfl 69 _ rfl b (off+0 * 260) rfl t.rcells _ (fun j v hv=>HCS.out.cell hv) underlying69 rfl (by rw [rcells_len];exact rp_size) ?_)
    | (go_at_call 98;refine (HALL.out wr A0 c0 fs (iterR R i a) HFS.out (At.of_own HOWN.out) (HMQ.out.fr_nil HFR.out)).mono ?_;rintro e w4 ⟨A4,c4,f4,rfl,h41,h42,h43⟩;have HV4:=zh h41;have HO4:=zh h42;have HF4:=zh h43;clear h41 h42 h43))
   have hV5:HasV L f4 (iterR R (i+1) a):=HV4.out.iff (fun c _=>by
    rw [iter_right]
    exact ⟨fun ⟨b,_,h⟩=>⟨b,h⟩,fun ⟨b,h⟩=>⟨b,by have:=(iter_le HLE.out i a b h.1 ha).2;omega,h⟩⟩)
   have hsm:=rsame_any (n:=L+1) (ca:=c0) (cb:=c4) HFS.out.1.symm hV5.1.symm (by omega) (At.of_own (own_keep HOWN.out (KeepB.of_nil HF4.out))) (At.of_own HO4.out);have HV5:=zh hV5;clear hV5 HV4 c257 c259;by_cases hsame:fs=f4
   case' pos=>
    rw [decide_eq_true hsame] at hsm;have HSM:=zh hsm
    have hstop:HasV L fs (iterR R mn a):=HFS.out.iff (fun c hc=>by
     have h:=iter_stop HLE.out ha (fun c hc=>(HFS.out.same_iff HV5.out).1 hsame c hc) (mn - i) c hc;rw [show i+(mn - i)=mn by omega] at h
     exact h)
    go_upto_region 9 with (go_at_call 113;refine HSM.out.mono ?_;rintro e w5 ⟨rfl,hf⟩;have HF5:=zh hf;clear hf)
    have h15:=HF4.out.trans HF5.out;have HW:Hid (∃ wz,wz=w5/\wz.ownsRow w.heap.size 4 1 (.slice A0 (L+1) c0) (L+1) (bits fs)/\Bk wz g 69 C.toArray/\Fr [] w wz/\HasV L fs (iterR R mn a)):=zh ⟨w5,rfl,own_keep HOWN.out (KeepB.of_nil h15),HBK.out.fr h15 (by simp),HFR.out.trans h15,hstop⟩;clear hsm hstop h15 HSM hsame HV5 HO4 HF4 HF5 HFS HOWN HBK HFR HCS
   case' neg=>
    rw [decide_eq_false hsame] at hsm;have HSM:=zh hsm;have hO5:w4.ownsRow w.heap.size 4 1 (.slice A4 (L+1) c4) (L+1) (bits f4):=own_rebase HO4.out (fun g hg=>by have:=(own_base HO4.out g hg).1;have:=HFR.out.size;omega);have HO5:=zh hO5;clear hsm hO5 hsame;go_wp2_with (go_at_call 113;refine HSM.out.mono ?_;rintro e w5 ⟨rfl,hf⟩;have HF5:=zh hf;clear hf)
    go_roundw
    case' rel=>exact ⟨i+1,A4,c4,f4,by go_num,rfl,by omega,HV5.out,own_keep HO5.out (KeepB.of_nil HF5.out),HBK.out.fr (HF4.out.trans HF5.out) (by simp),HFR.out.trans (HF4.out.trans HF5.out)⟩
    case' measure=>simp [intOf] <;> omega
  case' neg=>
   have hinI:¬ ((i:Int) < (mn:Int)):=by omega
   obtain rfl:mn=i:=by omega
   go_upto_region 9 with fail
   have HW:Hid (∃ wz,wz=wr/\wz.ownsRow w.heap.size 4 1 (.slice A0 (L+1) c0) (L+1) (bits fs)/\Bk wz g 69 C.toArray/\Fr [] w wz/\HasV L fs (iterR R mn a)):=zh ⟨wr,rfl,HOWN.out,HBK.out,HFR.out,HFS.out⟩;clear HFS HOWN HBK HFR HCS c257 c259 hinI hin hi
 all_goals
  obtain ⟨wz,hwz,ho,hb,hf,hv⟩:=HW.out;rw [<-hwz];clear hwz HW;have c257:=hb.cellL (i:=257) (by rw [HPC.out];exact partC_mn _ _ _ _ _);have HO6:=zh ho;have HB6:=zh hb;have HF6:=zh hf;have HV6:=zh hv;clear ho hb hf hv;go_upto_region 10 with fail
  go_loopw [7,10,11] (fun v7 v10 v11 wr=>RRep2 w g L C R a mn X v7 v10 wr) (fun _ v10 _ _=>mn+L+3 - (intOf v10).toNat)
  case atStart=>
   refine ⟨0,A0,c0,fs,rfl,rfl,?_,?_,HV6.out.iff (fun c _=>(acc_zero _ _ _).symm),HO6.out,HB6.out,HF6.out⟩
   ·by_cases h:X < 0
    ·exact .inl h
    have:=hmxb.2.2 (by omega);exact .inr (by omega)
   have:=lack_le fs;have:=HV6.out.1;omega
  case round=>
   obtain ⟨j,A7,c7,f7,rfl,rfl,hj,hjl,hfs,hown,hbk,hfr⟩:=hrel;have c257:=hbk.cellL (i:=257) (by rw [HPC.out];exact partC_mn _ _ _ _ _);have c258:=hbk.cellL (i:=258) (by rw [HPC.out];exact partC_mx _ _ _ _ _);have c259:=hbk.cellL (i:=259) (by rw [HPC.out];exact partC_l _ _ _ _ _);have HFS:=zh hfs;have HOWN:=zh hown;have HBK:=zh hbk;have HFR:=zh hfr;have HCS:=zh (HCS0.out.fr hfr (by simp));have HJ:=zh hj;have HJL:=zh hjl;have hjb:j <= L+1:=by omega
   clear hfs hown hbk hfr hj hjl HO6 HB6 HF6 HV6;obtain ⟨k,hk⟩:∃ k,k=mn+j:=⟨_,rfl⟩;rw [<-hk];have hkb:k <= 1000:=by omega
   have hkm:k <= mn+L+1:=by omega
   have HK:=zh hk;clear hk;by_cases hgo:X < 0 ∨ (k:Int) < X
   ·have hE2:∃ b:Bool,b=decide (X < 0):=⟨_,rfl⟩;have HGO:=zh hgo;obtain ⟨B,hB⟩:∃ B,B=decide (X < 0):=⟨_,rfl⟩
    cases B
    case' false=>
     have hXI:¬ X < 0:=of_decide_eq_false hB.symm;have hkI:(k:Int) < X:=by rcases hgo with h | h <;> omega
     clear hB hgo;go_upto_region 12 with fail
     clear hkI
    case' true=>
     have hXI:X < 0:=of_decide_eq_true hB.symm;clear hB hgo;go_upto_region 12 with fail
    all_goals
     go_upto_region 13 with (first
      | (refine wpList_load_mid rfl 69 _ rfl b (off+0 * 260) rfl t.rcells _ (fun j v hv=>HCS.out.cell hv) underlying69 rfl (by rw [rcells_len];exact rp_size) ?_)
      | (go_at_call 98;refine (HALL.out wr A7 c7 f7 (accR R mn a j) HFS.out (At.of_own HOWN.out) (HMQ.out.fr_nil HFR.out)).mono ?_;rintro e w4 ⟨A4,c4,f4,rfl,h41,h42,h43⟩;have HV4:=zh h41;have HO4:=zh h42;have HF4:=zh h43;clear h41 h42 h43)
      | (go_at_call 99;refine (rboth_any (by have:=HFS.out.1;omega) (by have:=HV4.out.1;omega) (by omega) (At.of_own (own_keep HOWN.out (KeepB.of_nil HF4.out))) (At.of_own HO4.out)).mono ?_;rintro e w5 ⟨A5,c5,rfl,h51,h52⟩;have HO5:=zh h51;have HF5:=zh h52;clear h51 h52))
     have hV5:HasV L (List.zipWith (· || ·) f7 f4) (accR R mn a (j+1)):=(HFS.out.or_ HV4.out).iff (fun c _=>by
      rw [acc_succ];constructor
      ·rintro (h | ⟨b,_,h⟩)
       ·exact .inl h
       exact .inr ⟨b,h⟩
      rintro (h | ⟨b,h⟩)
      ·exact .inl h
      refine .inr ⟨b,?_,h⟩;obtain ⟨i,-, hi⟩:=h.1;have:=(iter_le HLE.out _ a b hi ha).2
      omega)
     have hlk:=lack_or f7 f4 (by have:=HFS.out.1;have:=HV4.out.1;omega);obtain ⟨f8,hf8⟩:∃ f8,f8=List.zipWith (· || ·) f7 f4:=⟨_,rfl⟩;rw [<-hf8] at hV5 hlk;have hO5:w5.ownsRow w.heap.size 4 1 (.slice A5 (L+1) c5) (L+1) (bits f8):=by rw [hf8];exact own_rebase HO5.out (fun g hg=>by have:=(own_base HO5.out g hg).1;have:=HFR.out.size;have:=HF4.out.size;omega)
     have h45:=HF4.out.trans HF5.out;have hsm:=rsame_any (n:=L+1) (ca:=c7) (cb:=c5) HFS.out.1.symm hV5.1.symm (by omega) (At.of_own (own_keep HOWN.out (KeepB.of_nil h45))) (At.of_own hO5);have HV5:=zh hV5;have HO8:=zh hO5;have HF45:=zh h45;have HLK:=zh hlk;clear hV5 HV4 hO5 h45 hlk hf8 HO4 HO5 HF4 HF5 c257 c258 c259;by_cases hsame:f7=f8
     ·rw [decide_eq_true hsame] at hsm;have HSM:=zh hsm;have hfin:=(HFS.out).iff (fun c hc=>rep_all (mx:=X) HLE.out ha (.inl (fun c hc=>(HFS.out.same_iff HV5.out).1 hsame c hc)) HJ.out c hc);rw [<-HPP.out] at hfin;have HFIN:=zh hfin;clear hsm hfin hsame;go_wp2_with (go_at_call 113;refine HSM.out.mono ?_;rintro e w6 ⟨rfl,hf⟩;have HF6:=zh (HF45.out.trans hf);clear hf)
      go_ret
      exact ⟨A7,c7,f7,rfl,HFIN.out,own_keep HOWN.out (KeepB.of_nil HF6.out),HFR.out.trans HF6.out⟩
     rw [decide_eq_false hsame] at hsm;have HSM:=zh hsm
     have hlk2:lackV f8 < lackV f7:=by
      obtain ⟨h1,h2⟩:=HLK.out;rcases Nat.lt_or_ge (lackV f8) (lackV f7) with h | h
      ·exact h
      exact absurd (h2 (by omega)).symm hsame
     clear hsm hsame;go_wp2_with (go_at_call 113;refine HSM.out.mono ?_;rintro e w6 ⟨rfl,hf⟩;have HF6:=zh (HF45.out.trans hf);have HF6':=zh hf;clear hf)
     go_roundw
     case rel=>
      refine ⟨j+1,A5,c5,f8,?_,rfl,?_,by have:=HJL.out;omega,HV5.out,own_keep HO8.out (KeepB.of_nil HF6'.out),HBK.out.fr HF6.out (by simp),HFR.out.trans HF6.out⟩
      ·have:=HK.out;rw [show mn+(j+1)=k+1 by omega];go_num
      have:=HK.out;rcases HGO.out with h | h
      ·exact .inl h
      exact .inr (by omega)
     case measure=>simp [intOf] <;> omega
   have hXI:¬ X < 0:=fun h=>hgo (.inl h);have hkI:¬ (k:Int) < X:=fun h=>hgo (.inr h);have hfin:=(HFS.out).iff (fun c hc=>rep_all (mx:=X) HLE.out ha (.inr ⟨by omega,by have:=HK.out;have:=HJ.out;omega⟩) HJ.out c hc);rw [<-HPP.out] at hfin;have HFIN:=zh hfin;clear hfin hgo;go_wp2_with fail
   go_ret
   exact ⟨A7,c7,f7,rfl,HFIN.out,HOWN.out,HFR.out⟩
end Go.Proofs.YtfofechcccodeaaGreatDoor
