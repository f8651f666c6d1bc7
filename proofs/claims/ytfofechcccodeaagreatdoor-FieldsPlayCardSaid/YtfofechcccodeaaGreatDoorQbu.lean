/-
  Small texts in one (Rv3, Rv4). No conditions.
-/
import Derived.Test.YtfofechcccodeaaGreatDoorQbt
import Derived.Test.YtfofechcccodeaaGreatDoorQba
import Derived.Test.YtfofechcccodeaaGreatDoorQbe
namespace Go.Proofs.YtfofechcccodeaaGreatDoor
open Go.RowKit Go.ChangeMaps Go.Proofs.Tryz
set_option linter.unusedVariables false
set_option linter.unusedSimpArgs false
set_option maxRecDepth 100000
set_option maxHeartbeats 32000000
theorem post_hot {w w2:World} {g2 L a:Nat} {b:Bool} {P:Nat->Prop} (hb:Bk w2 g2 4 (bits (List.replicate (L+1) false)).toArray) (hlo:w.heap.size <= g2) (hf:Fr [] w w2) (hL:L <= 500) (ha:a <= L) (hP:∀ c,c <= L->((if c=a then b=true else False) ↔ P c)) :
    EndsPost L w P (.returned (.slice (some ⟨g2,0,none⟩) (L+1) (L+1))) (w2.setCell ⟨g2,a,none⟩ (.bool b)):=
 ⟨_,_,_,rfl,((HasV.none_ L).set_ ha b).iff hP,own_bits (n:=L+1) (hb.bit_put a b) hlo (by simp) (by omega),hf.setCell (.inr hlo) _⟩
theorem post_none {w w2:World} {g2 L:Nat} {P:Nat->Prop} (hb:Bk w2 g2 4 (bits (List.replicate (L+1) false)).toArray) (hlo:w.heap.size <= g2) (hf:Fr [] w w2) (hL:L <= 500) (hP:∀ c,c <= L->¬ P c) :
    EndsPost L w P (.returned (.slice (some ⟨g2,0,none⟩) (L+1) (L+1))) w2:=
 ⟨_,_,_,rfl,(HasV.none_ L).iff (fun c hc=>⟨fun h=>h.elim,fun h=>hP c hc h⟩),own_bits (n:=L+1) hb hlo (by simp) (by omega),hf⟩
def LpRel (w:World) (g L m:Nat) (C:List Value) (Q:Nat->Nat->Prop) (v7 v8:Value) (wr:World):Prop:=∃ (i:Nat) (A:Option Addr) (c:Nat) (fs:List Bool),v8 = .int .i64 (i:Int)/\v7 = .slice A (L+1) c/\i <= m /\
 HasV L fs (Q i)/\wr.ownsRow w.heap.size 4 1 (.slice A (L+1) c) (L+1) (bits fs)/\Bk wr g 69 C.toArray/\Fr [] w wr
theorem ends_any {tx:List UInt8} (hx:tx.length <= 500):∀ (n:Nat) (p:PT),cntP p < n->cntP p <= 5000->rightP p=true->EndsOk tx p:=by
 intro n
 induction n with
 | zero=>intro p h;omega
 | succ n ih=>
  intro p hp h5 hr w a ha hm;have hsem:=semP_eq tx p a
  have hall:∀ q,q ∈ p.l->(inner p.k=true)->EndsOk tx q:=fun q hq hi=>ih q (by have:=child_size hq;omega) (by have:=child_size hq;omega) (by
   rw [rightP_eq,Bool.and_eq_true,if_pos hi] at hr
   exact rightL_get hq hr.2)
  have hK:rightK p.k p.mn p.mx p.l.length=true:=by rw [rightP_eq,Bool.and_eq_true] at hr;exact hr.1
  have HALLQ:=zh hall;obtain ⟨S,hS⟩:∃ S,S=(⟨tx.toArray⟩:ByteArray):=⟨_,rfl⟩;obtain ⟨L,hL⟩:∃ L,L=tx.length:=⟨_,rfl⟩;have hs1:S.size=L:=by rw [hS,hL];simp [ByteArray.size]
  have hidx:=str_at tx a;rw [<-hS,<-hL] at hidx;rw [<-hS,<-hL];rw [<-hL] at hx ha;obtain ⟨P,hP⟩:∃ P,P=semP tx p a:=⟨_,rfl⟩;rw [<-hP] at hsem ⊢; have hmk:=mk_bools L (by omega);obtain ⟨C,hC⟩:∃ C,C=p.rcells:=⟨_,rfl⟩;have hPC:p.rcells=partC p.k p.rset p.mn p.mx (.slice p.A p.l.length p.c):=rfl;obtain ⟨PK,hPK⟩:∃ x,x=p.k:=⟨_,rfl⟩;obtain ⟨ST,hST⟩:∃ x,x=p.rset:=⟨_,rfl⟩;obtain ⟨PA,hPA⟩:∃ x,x=p.A:=⟨_,rfl⟩;obtain ⟨m,hm0⟩:∃ x,x=p.l.length:=⟨_,rfl⟩;obtain ⟨pc,hpc⟩:∃ x,x=p.c:=⟨_,rfl⟩;rw [<-hC,<-hPK,<-hST,<-hPA,<-hm0,<-hpc] at hPC;rw [<-hC];rw [<-hPK,<-hm0] at hK
  have hk7:PK=0 ∨ PK=1 ∨ PK=2 ∨ PK=3 ∨ PK=4 ∨ PK=5 ∨ PK=6:=by
   unfold rightK at hK;split at hK
   ·cases hK
   omega
  have hm5:m <= 5000:=by rw [hm0];have:=len_cnt p;omega
  rw [<-hPK,<-hL] at hsem;have HM:=zh hm;have HSEM:=zh hsem;have HPC:=zh hPC;have HKK:=zh hK;have HPK:=zh hPK;have HST:=zh hST;have HPA:=zh hPA;have HM0:=zh hm0;have HS:=zh hS;have HL:=zh hL;have HC:=zh hC;have HP:=zh hP;have HIDX:=zh hidx;have hCl:C.length=260:=by rw [hC];exact rcells_len p
  clear ih hp h5 hr hsem hall hK hm hidx hS hL hP hC hPC hPK hST hPA hm0 hpc;go_enter func81,ntmps81
  go_upto_region 2 with (refine wpList_box_bk rfl 69 _ rfl C rfl ?_;intro w1 hz hf1;have HZ:=zh hz;have HF:=zh hf1;clear hz hf1)
  clear hmk;obtain ⟨g,hg⟩:∃ g,g=w.heap.size:=⟨_,rfl⟩;rw [<-hg];obtain ⟨w2,hw2⟩:∃ w2,w2=w1.alloc (.cells (bits (List.replicate (L+1) false)).toArray 4):=⟨_,rfl⟩;have h12:Fr [] w1 w2:=by rw [hw2];exact (Fr.refl [] w1).alloc _
  have hg1:Bk w2 g 69 C.toArray:=by rw [hg];exact HZ.out.fr h12 (by simp)
  obtain ⟨g2,hg2⟩:∃ g2,g2=w1.heap.size:=⟨_,rfl⟩;have hb1:Bk w2 g2 4 (bits (List.replicate (L+1) false)).toArray:=by rw [hw2,hg2];exact Bk.new w1 _ _
  have hgg:w.heap.size < g2:=by rw [hg2];exact HZ.out.lt
  rw [<-hw2,<-hg2];have HF2:=zh (HF.out.trans h12);have HG1:=zh hg1;have HB1:=zh hb1;have HGE:=zh hg;have HG2:=zh hg2;have hgle:=Nat.le_of_lt hgg;clear hg hg2 hg1 hb1 hw2 h12 HZ HF;have c0:=HG1.out.cellL (i:=0) (by rw [HPC.out];exact partC_k _ _ _ _ _);have c259:=HG1.out.cellL (i:=259) (by rw [HPC.out];exact partC_l _ _ _ _ _);have hltb:=HB1.out.lt;have hfzb:=fun i=>HB1.out.frozen i;have hcb:∀ i:Nat,i <= L->w2.cell? ⟨g2,i,none⟩=some (.bool false):=fun i hi=>HB1.out.cell_ (by rw [List.getElem?_toArray,bits_get (by simp;omega)];rw [List.getD_eq_getElem?_getD,List.getElem?_replicate];split <;> rfl)
  rcases hk7 with hk | hk | hk | hk | hk | hk | hk
  ·have q0:(PK == 0)=true:=by rw [hk];rfl
   have q1:(PK == 1)=false:=by rw [hk];rfl
   have q2:(PK == 2)=false:=by rw [hk];rfl
   have q3:(PK == 3)=false:=by rw [hk];rfl
   have q4:(PK == 4)=false:=by rw [hk];rfl
   have q5:(PK == 5)=false:=by rw [hk];rfl
   have q6:(PK == 6)=false:=by rw [hk];rfl
   have haI:(a:Int) < (L:Int)+1:=by omega
   have hca:=hcb a ha;have hfa:=hfzb a;have hpost:=fun (hP:∀ c,c <= L->((if c=a then (true:Bool)=true else False) ↔ P c))=>post_hot (b:=true) HB1.out hgle HF2.out hx ha hP
   have hsem:∀ c,c <= L->((if c=a then (true:Bool)=true else False) ↔ P c):=fun c _=>by
    rw [HSEM.out,hk];by_cases e:c=a
    ·simp [e]
    simp [e];exact fun h=>e h.symm
   have HPO:=zh (hpost hsem);clear hpost hsem hk hcb hfzb;go_wp2_with fail
   go_ret
   exact HPO.out
  ·have q0:(PK == 0)=false:=by rw [hk];rfl
   have q1:(PK == 1)=true:=by rw [hk];rfl
   have q2:(PK == 2)=false:=by rw [hk];rfl
   have q3:(PK == 3)=false:=by rw [hk];rfl
   have q4:(PK == 4)=false:=by rw [hk];rfl
   have q5:(PK == 5)=false:=by rw [hk];rfl
   have q6:(PK == 6)=false:=by rw [hk];rfl
   rcases Nat.lt_or_ge a L with hal | hal
   ·have haI:(a:Int) < (L:Int):=by omega
    have haJ:(a:Int)+1 < (L:Int)+1:=by omega
    obtain ⟨x,hxx⟩:∃ x,x=bn tx a:=⟨_,rfl⟩;have hx256:x < 256:=by rw [hxx];exact UInt8.toNat_lt _
    have hxI:(x:Int) < 256:=by omega
    have hix:=HIDX.out hal;rw [<-hxx] at hix;obtain ⟨mb,hmb⟩:∃ mb,mb=ST.mem x:=⟨_,rfl⟩;have cs:=HG1.out.cellL (i:=1+x) (by rw [HPC.out];exact partC_set _ _ _ _ _ hx256);rw [<-hmb] at cs
    have hsm:∀ c,c <= L->((if c=a+1 then mb=true else False) ↔ P c):=fun c _=>by
     rw [HSEM.out,hk,hmb,HST.out,hxx];by_cases e:c=a+1
     ·simp [e,hal,bn,PT.rset]
     simp [e]
    have HPO:Hid (EndsPost L w P (.returned (.slice (some ⟨g2,0,none⟩) (L+1) (L+1))) (w2.setCell ⟨g2,a+1,none⟩ (.bool mb))):=zh (post_hot HB1.out hgle HF2.out hx (by omega) hsm)
    have HPN:Hid (mb=true ∨ EndsPost L w P (.returned (.slice (some ⟨g2,0,none⟩) (L+1) (L+1))) w2):=zh (by
     by_cases h:mb=true
     ·exact .inl h
     exact .inr (post_none HB1.out hgle HF2.out hx (fun c hc hp=>by have:=(hsm c hc).2 hp;split at this <;> first | exact h this | exact this)))
    have hca:=hcb (a+1) hal;have hfa:=hfzb (a+1);clear hk hcb hfzb hxx hmb hsm
    cases mb with
    | false=>
     go_wp2_with fail
     go_ret
     rcases HPN.out with h | h
     ·cases h
     exact h
    | true=>
     go_wp2_with fail
     go_ret
     exact HPO.out
   have haI:¬ ((a:Int) < (L:Int)):=by omega
   have HPN:=zh (post_none (P:=P) HB1.out hgle HF2.out hx (fun c hc hp=>by
    rw [HSEM.out,hk] at hp;simp at hp
    omega))
   clear hk hcb hfzb;go_wp2_with fail
   go_ret
   exact HPN.out
  ·have q0:(PK == 0)=false:=by rw [hk];rfl
   have q1:(PK == 1)=false:=by rw [hk];rfl
   have q2:(PK == 2)=true:=by rw [hk];rfl
   have q3:(PK == 3)=false:=by rw [hk];rfl
   have q4:(PK == 4)=false:=by rw [hk];rfl
   have q5:(PK == 5)=false:=by rw [hk];rfl
   have q6:(PK == 6)=false:=by rw [hk];rfl
   have haI:(a:Int) < (L:Int)+1:=by omega
   have hca:=hcb a ha;have hfa:=hfzb a;have HIN:Hid (∀ q,q ∈ p.l->EndsOk tx q):=zh (fun q hq=>HALLQ.out q hq (by rw [<-HPK.out,hk];rfl));have HEND:Hid (∀ c,c <= L->(semL tx p.l a c ↔ P c)):=zh (fun c _=>by rw [HSEM.out,hk];simp)
   have hot:=post_hot (b:=true) (P:=fun c=>semL tx (p.l.take 0) a c) HB1.out hgle HF2.out hx ha (fun c _=>by
    rw [List.take_zero,semL_nil];by_cases e:c=a
    ·simp [e]
    simp [e];exact fun h=>e h.symm)
   have hfr1:Fr [g2] w2 (w2.setCell ⟨g2,a,none⟩ (.bool true)):=(Fr.refl [g2] w2).setCell (.inl (by simp)) _;have hgb:=HG1.out.fr hfr1 (by have:=HGE.out;simp;omega);have HHOT:=zh hot;have HGB:=zh hgb;clear hk hcb hfzb HSEM HALLQ hot hgb hfr1;go_upto_region 11 with fail
   clear q0 q1 q2 c0 c259 hca hfa haI hltb
   go_loopw [7,8] (fun v7 v8 wr=>LpRel w g L m C (fun i=>semL tx (p.l.take i) a) v7 v8 wr) (fun _ v8 _=>m+1 - (intOf v8).toNat)
   case atStart=>
    obtain ⟨A0,c0,fs,h1,h2,h3,h4⟩:=HHOT.out
    injection h1 with h1
    injection h1 with h1 _ h1'
    subst h1 h1';exact ⟨0,_,_,fs,rfl,rfl,Nat.zero_le _,h2,h3,HGB.out,h4⟩
   case round=>
    obtain ⟨i,A0,cc,fs,rfl,rfl,hi,hfs,hown,hbk,hfr⟩:=hrel;have c0:=hbk.cellL (i:=0) (by rw [HPC.out];exact partC_k _ _ _ _ _);have c259:=hbk.cellL (i:=259) (by rw [HPC.out];exact partC_l _ _ _ _ _);have HFS:=zh hfs;have HOWN:=zh hown;have HBK:=zh hbk;have HFR:=zh hfr;clear hfs hown hbk hfr;rcases Nat.lt_or_ge i m with hin | hin
    ·have hinI:(i:Int) < (m:Int):=by omega
     obtain ⟨q,hq⟩:∃ q,p.l[i]?=some q:=⟨_,List.getElem?_eq_getElem (by have:=HM0.out;omega)⟩;obtain ⟨⟨b,off,hA,hcs⟩,hmq⟩:=(HM.out.fr_nil HFR.out).child hq;rw [<-HPA.out] at hA;rw [hA] at c259
     have hst:∀ c,c <= L->((∃ b,b < L+1/\semL tx (p.l.take i) a b/\semP tx q b c) ↔ semL tx (p.l.take (i+1)) a c):=fun c _=>by
      rw [semL_take tx p.l i q a c hq];constructor
      ·rintro ⟨b,_,h⟩;exact ⟨b,h⟩
      rintro ⟨b,h⟩;exact ⟨b,by have:=(semL_le tx _ a b h.1 (by rw [<-HL.out];exact ha)).2;have:=HL.out;omega,h⟩
     have hE:=all_of (by rw [<-HL.out];exact hx) (HIN.out q (List.mem_of_getElem? hq)) wr (A:=A0) (ca:=cc) (by rw [<-HL.out];exact HFS.out) (At.of_own HOWN.out) hmq;rw [<-HL.out,<-HS.out] at hE;have HCS:=zh hcs;have HE:=zh hE;have HSTP:=zh hst;clear hA hcs hmq hq hst hE
     go_upto_region 12 with (first
      | (refine wpList_load_mid rfl 69 _ rfl b (off+i * 260) rfl q.rcells _ (fun j v hv=>HCS.out.cell hv) underlying69 rfl (by rw [rcells_len];exact rp_size) ?_)
      | (go_at_call 98;refine HE.out.mono ?_;rintro e w3 ⟨A3,c3,f3,rfl,h31,h32,h33⟩;have HV3:=zh h31;have HO3:=zh h32;have HF3:=zh h33;clear h31 h32 h33))
     have hO5:=own_rebase (base':=w.heap.size) HO3.out (fun g hg=>by have:=(own_base HO3.out g hg).1;have:=HFR.out.size;omega);have HO5:=zh hO5;clear hO5;go_wp2_with fail
     go_roundw
     case rel=>exact ⟨i+1,A3,c3,f3,by go_num,rfl,by omega,HV3.out.iff HSTP.out,HO5.out,HBK.out.fr HF3.out (by simp),HFR.out.trans HF3.out⟩
     case measure=>simp [intOf] <;> omega
    have hinI:¬ ((i:Int) < (m:Int)):=by omega
    have hfin:HasV L fs P:=HFS.out.iff (fun c hc=>by
     dsimp only;rw [List.take_of_length_le (by have:=HM0.out;omega)]
     exact HEND.out c hc)
    have HFIN:=zh hfin;clear hfin;go_wp2_with fail
    go_ret
    exact ⟨A0,cc,fs,rfl,HFIN.out,HOWN.out,HFR.out⟩
  ·have q0:(PK == 0)=false:=by rw [hk];rfl
   have q1:(PK == 1)=false:=by rw [hk];rfl
   have q2:(PK == 2)=false:=by rw [hk];rfl
   have q3:(PK == 3)=true:=by rw [hk];rfl
   have q4:(PK == 4)=false:=by rw [hk];rfl
   have q5:(PK == 5)=false:=by rw [hk];rfl
   have q6:(PK == 6)=false:=by rw [hk];rfl
   have HIN:Hid (∀ q,q ∈ p.l->EndsOk tx q):=zh (fun q hq=>HALLQ.out q hq (by rw [<-HPK.out,hk];rfl));have HEND:Hid (∀ c,c <= L->(semO tx p.l a c ↔ P c)):=zh (fun c _=>by rw [HSEM.out,hk];simp);have hot:=post_none (P:=fun c=>semO tx (p.l.take 0) a c) HB1.out hgle HF2.out hx (fun c _=>by rw [List.take_zero,semO_nil];exact id);have HHOT:=zh hot;clear hk hcb hfzb HSEM HALLQ hot;go_upto_region 16 with fail
   clear q0 q1 q2 q3 c0 c259 hltb
   go_loopw [7,9] (fun v7 v8 wr=>LpRel w g L m C (fun i=>semO tx (p.l.take i) a) v7 v8 wr) (fun _ v8 _=>m+1 - (intOf v8).toNat)
   case atStart=>
    obtain ⟨A0,c0,fs,h1,h2,h3,h4⟩:=HHOT.out
    injection h1 with h1
    injection h1 with h1 _ h1'
    subst h1 h1';exact ⟨0,_,_,fs,rfl,rfl,Nat.zero_le _,h2,h3,HG1.out,h4⟩
   case round=>
    obtain ⟨i,A0,cc,fs,rfl,rfl,hi,hfs,hown,hbk,hfr⟩:=hrel;have c0:=hbk.cellL (i:=0) (by rw [HPC.out];exact partC_k _ _ _ _ _);have c259:=hbk.cellL (i:=259) (by rw [HPC.out];exact partC_l _ _ _ _ _);have HFS:=zh hfs;have HOWN:=zh hown;have HBK:=zh hbk;have HFR:=zh hfr;clear hfs hown hbk hfr;rcases Nat.lt_or_ge i m with hin | hin
    ·have hinI:(i:Int) < (m:Int):=by omega
     obtain ⟨q,hq⟩:∃ q,p.l[i]?=some q:=⟨_,List.getElem?_eq_getElem (by have:=HM0.out;omega)⟩;obtain ⟨⟨b,off,hA,hcs⟩,hmq⟩:=(HM.out.fr_nil HFR.out).child hq;rw [<-HPA.out] at hA;rw [hA] at c259;have hE:=HIN.out q (List.mem_of_getElem? hq) wr a (by rw [<-HL.out];exact ha) hmq;rw [<-HL.out,<-HS.out] at hE;have hst:∀ c,c <= L->(semO tx (p.l.take i) a c ∨ semP tx q a c ↔ semO tx (p.l.take (i+1)) a c):=fun c _=>(semO_take tx p.l i q a c hq).symm;have HCS:=zh hcs;have HE:=zh hE;have HSTP:=zh hst;clear hA hcs hmq hq hst hE
     go_upto_region 17 with (first
      | (refine wpList_load_mid rfl 69 _ rfl b (off+i * 260) rfl q.rcells _ (fun j v hv=>HCS.out.cell hv) underlying69 rfl (by rw [rcells_len];exact rp_size) ?_)
      | (go_at_call 81;refine HE.out.mono ?_;rintro e w3 ⟨A3,c3,f3,rfl,h31,h32,h33⟩;have HV3:=zh h31;have HO3:=zh h32;have HF3:=zh h33;clear h31 h32 h33)
      | (go_at_call 99;refine (rboth_any (by have:=HFS.out.1;omega) (by have:=HV3.out.1;omega) (by omega) (At.of_own (own_keep HOWN.out (KeepB.of_nil HF3.out))) (At.of_own HO3.out)).mono ?_;rintro e w4 ⟨A4,c4,rfl,h41,h42⟩;have HO4:=zh h41;have HF4:=zh (HF3.out.trans h42);clear h41 h42))
     have hO5:=own_rebase (base':=w.heap.size) HO4.out (fun g hg=>by have:=(own_base HO4.out g hg).1;have:=HFR.out.size;have:=HF3.out.size;omega);have HO5:=zh hO5;have HV5:=zh (HFS.out.or_ HV3.out);clear hO5;go_wp2_with fail
     go_roundw
     case rel=>exact ⟨i+1,A4,c4,_,by go_num,rfl,by omega,HV5.out.iff HSTP.out,HO5.out,HBK.out.fr HF4.out (by simp),HFR.out.trans HF4.out⟩
     case measure=>simp [intOf] <;> omega
    have hinI:¬ ((i:Int) < (m:Int)):=by omega
    have hfin:HasV L fs P:=HFS.out.iff (fun c hc=>by
     dsimp only;rw [List.take_of_length_le (by have:=HM0.out;omega)]
     exact HEND.out c hc)
    have HFIN:=zh hfin;clear hfin;go_wp2_with fail
    go_ret
    exact ⟨A0,cc,fs,rfl,HFIN.out,HOWN.out,HFR.out⟩
  ·have q0:(PK == 0)=false:=by rw [hk];rfl
   have q1:(PK == 1)=false:=by rw [hk];rfl
   have q2:(PK == 2)=false:=by rw [hk];rfl
   have q3:(PK == 3)=false:=by rw [hk];rfl
   have q4:(PK == 4)=true:=by rw [hk];rfl
   have q5:(PK == 5)=false:=by rw [hk];rfl
   have q6:(PK == 6)=false:=by rw [hk];rfl
   have hkk:=HKK.out;rw [hk] at hkk;simp [rightK] at hkk
   obtain ⟨t,htl⟩:∃ t,p.l=[t]:=by
    have h1:p.l.length=1:=by rw [<-HM0.out];exact hkk.1
    match hh:p.l,h1 with
    | [t],_=>exact ⟨t,rfl⟩
   have hE:=rep_of (by rw [<-HL.out];exact hx) (HALLQ.out t (by rw [htl];simp) (by rw [<-HPK.out,hk];rfl)) htl ⟨by omega,by omega⟩ ⟨by omega,by omega,by omega⟩ w2 a (by rw [<-HL.out];exact ha) (HM.out.fr_nil HF2.out);rw [<-HL.out,<-HS.out,<-HC.out] at hE
   have hP4:∀ c,c <= L->((∃ m:Nat,p.mn.toNat <= m/\(p.mx < 0 ∨ m <= p.mx.toNat)/\iterR (semP tx t) m a c) ↔ P c):=fun c _=>by
    rw [HSEM.out,hk,htl];have:semL tx [t]=semP tx t:=by funext x y;exact propext (semL_one tx t x y)
    rw [this];simp
   have hE2:=hE.mono (fun e w' h=>EndsPost.iff h hP4);have HE:=zh hE2;clear hk hkk htl hE hP4 hE2 hcb hfzb HSEM HALLQ
   go_wp2_with (first
    | (refine wpList_load_bk rfl 69 _ rfl g 0 rfl C _ _ _ HG1.out (by intro j u hj;rw [Nat.zero_add,List.getElem?_toArray];exact hj) underlying69 rfl (by rw [hCl];exact rp_size) ?_)
    | (go_at_call 100;refine HE.out.mono ?_;rintro e w3 ⟨A3,c3,f3,rfl,h31,h32,h33⟩;have HV3:=zh h31;have HO3:=zh h32;have HF3:=zh h33;clear h31 h32 h33))
   go_ret
   exact ⟨A3,c3,f3,rfl,HV3.out,own_rebase HO3.out (fun g hg=>by have:=(own_base HO3.out g hg).1;have:=HF2.out.size;omega),HF2.out.trans HF3.out⟩
  ·have q0:(PK == 0)=false:=by rw [hk];rfl
   have q1:(PK == 1)=false:=by rw [hk];rfl
   have q2:(PK == 2)=false:=by rw [hk];rfl
   have q3:(PK == 3)=false:=by rw [hk];rfl
   have q4:(PK == 4)=false:=by rw [hk];rfl
   have q5:(PK == 5)=true:=by rw [hk];rfl
   have q6:(PK == 6)=false:=by rw [hk];rfl
   have haI:(a:Int) < (L:Int)+1:=by omega
   have hca:=hcb a ha;have hfa:=hfzb a;obtain ⟨bb,hbb⟩:∃ bb,bb=decide (a=0):=⟨_,rfl⟩
   have HPO:=zh (post_hot (b:=bb) (P:=P) HB1.out hgle HF2.out hx ha (fun c _=>by
    rw [HSEM.out,hk,hbb];by_cases e:c=a
    ·subst e;simp
    simp [e];intro h1;exact absurd h1.symm e))
   by_cases hc:a=0
   ·have hcI:((a:Int) == 0)=true:=by simp;omega
    obtain rfl:bb=true:=by rw [hbb];exact decide_eq_true hc
    clear hk hcb hfzb hbb hc;go_wp2_with fail
    go_ret
    exact HPO.out
   have hcI:((a:Int) == 0)=false:=by simp;omega
   obtain rfl:bb=false:=by rw [hbb];exact decide_eq_false hc
   clear hk hcb hfzb hbb hc;go_wp2_with fail
   go_ret
   exact HPO.out
  have q0:(PK == 0)=false:=by rw [hk];rfl
  have q1:(PK == 1)=false:=by rw [hk];rfl
  have q2:(PK == 2)=false:=by rw [hk];rfl
  have q3:(PK == 3)=false:=by rw [hk];rfl
  have q4:(PK == 4)=false:=by rw [hk];rfl
  have q5:(PK == 5)=false:=by rw [hk];rfl
  have q6:(PK == 6)=true:=by rw [hk];rfl
  have haI:(a:Int) < (L:Int)+1:=by omega
  have hca:=hcb a ha;have hfa:=hfzb a;obtain ⟨bb,hbb⟩:∃ bb,bb=decide (a=L):=⟨_,rfl⟩
  have HPO:=zh (post_hot (b:=bb) (P:=P) HB1.out hgle HF2.out hx ha (fun c _=>by
   rw [HSEM.out,hk,hbb];by_cases e:c=a
   ·subst e;simp
   simp [e];intro h1;exact absurd h1.symm e))
  by_cases hc:a=L
  ·have hcI:((a:Int) == (L:Int))=true:=by simp;omega
   obtain rfl:bb=true:=by rw [hbb];exact decide_eq_true hc
   clear hk hcb hfzb hbb hc;go_wp2_with fail
   go_ret
   exact HPO.out
  have hcI:((a:Int) == (L:Int))=false:=by simp;omega
  obtain rfl:bb=false:=by rw [hbb];exact decide_eq_false hc
  clear hk hcb hfzb hbb hc;go_wp2_with fail
  go_ret
  exact HPO.out
end Go.Proofs.YtfofechcccodeaaGreatDoor
namespace Go.Proofs.YtfofechcccodeaaGreatDoor
open Go.RowKit Go.ChangeMaps Go.Proofs.Tryz
set_option linter.unusedVariables false
set_option linter.unusedSimpArgs false
set_option maxRecDepth 100000
set_option maxHeartbeats 8000000
mutual
theorem RepP.sem (tx:List UInt8):∀ (t:RT) (p:PT),RepP t p->semP tx p=semP tx (toP t)
 | .mk k s mn mx l,.mk k' s0 s1 s2 s3 mn' mx' A c ps,h=>by
  rw [RepP] at h;obtain ⟨h1,h2,h3,h4,h5,h6,h7,h8⟩:=h;have h1':k'=k:=h1;have h2':s0=(s.a:Int):=h2;have h3':s1=(s.b:Int):=h3;have h4':s2=(s.c:Int):=h4;have h5':s3=(s.d:Int):=h5;have h6':mn'=mn:=h6;have h7':mx'=mx:=h7;have h8':RepL l ps:=h8;subst h1' h2' h3' h4' h5' h6' h7';rw [toP,semP,semP,RepL.semL_ tx l ps h8',RepL.semO_ tx l ps h8']
theorem RepL.semL_ (tx:List UInt8):∀ (ts:List RT) (ps:List PT),RepL ts ps->semL tx ps=semL tx (toL ts)
 | [],ps,h=>by rw [RepL_nil] at h;subst h;rw [toL]
 | t :: r,[],h=>by rw [RepL] at h;exact h.elim
 | t :: r,p :: ps,h=>by rw [RepL_cons] at h;rw [toL,semL,semL,RepP.sem tx t p h.1,RepL.semL_ tx r ps h.2]
theorem RepL.semO_ (tx:List UInt8):∀ (ts:List RT) (ps:List PT),RepL ts ps->semO tx ps=semO tx (toL ts)
 | [],ps,h=>by rw [RepL_nil] at h;subst h;rw [toL]
 | t :: r,[],h=>by rw [RepL] at h;exact h.elim
 | t :: r,p :: ps,h=>by rw [RepL_cons] at h;rw [toL,semO,semO,RepP.sem tx t p h.1,RepL.semO_ tx r ps h.2]
end
def FndP (R:Nat->Nat->Prop) (n from_:Nat):Option (Nat × Nat)->Prop
 | some q=>from_ <= q.1/\q.1 <= q.2/\q.2 <= n/\R q.1 q.2/\∀ t e,from_ <= t->t <= n->R t e->q.1 < t ∨ q.1=t/\e <= q.2
 | none=>∀ t e,from_ <= t->t <= n->¬ R t e
theorem fndP_of {bs tx:List UInt8} {t:RT} {p:PT} {from_:Nat} (hp:parseS bs = .ok t) (hr:RepP t p) (hL:ProgOk (progT t)/\0 < (progT t).length) (hfr:from_ <= tx.length):FndP (semP tx p) tx.length from_ (findS (progT t) tx from_):=by
 have hm:∀ a c,a <= tx.length->(Mt (progT t) tx false a c ↔ semP tx p a c):=fun a c ha=>by rw [hr.sem tx];exact parse_mt hp tx ha
 cases h:findS (progT t) tx from_ with
 | none=>exact fun a e h1 h2 h3=>findS_none hL.1 hL.2 hfr h a e h1 h2 ((hm a e h2).2 h3)
 | some q=>
  have F:=findS_some hL.1 hL.2 hfr h;exact ⟨F.fr,F.le,F.len,(hm _ _ (Nat.le_trans F.le F.len)).1 F.mt,fun a e h1 h2 h3=>F.all a e h1 h2 ((hm a e h2).2 h3)⟩
def foundC (r:Option (Nat × Nat)):List Value:=match r with | some q=>[.int .i64 (q.1:Int),.int .i64 (q.2:Int),.bool true] | none=>[.int .i64 0,.int .i64 0,.bool false]
theorem fnd_size:(prog.info? 119).map (·.size)=some 3:=by kernel_rfl
def FiOut (w:World) (g r6:Nat) (C:List Value) (v7:Value) (from_ L:Nat) (R:Nat->Nat->Prop) (wr:World):Prop:=∃ a:Nat,v7 = .int .i64 (a:Int)/\from_ <= a/\a <= L+1/\(∀ t e,from_ <= t->t < a->¬ R t e) /\
 Bk wr g 69 C.toArray/\Bk wr r6 119 #[.int .i64 0,.int .i64 0,.bool false]/\Fr [] w wr
theorem rfind_any {tx:List UInt8} {p:PT} {w:World} {from_:Nat} {r:Option (Nat × Nat)} (hx:tx.length <= 500) (hE:EndsOk tx p) (hm:RPMem w p) (hfr:from_ <= tx.length) (hr:FndP (semP tx p) tx.length from_ r) :
    Calls prog 66 #[.agg p.rcells.toArray,.string ⟨tx.toArray⟩,.int .i64 (from_:Int)] w fun e w'=>e = .returned (.agg (foundC r).toArray)/\Fr [] w w':=by
 have HE0:Hid (∀ W,Fr [] w W->∀ a:Nat,a <= tx.length->Calls prog 81 #[.agg p.rcells.toArray,.string ⟨tx.toArray⟩,.int .i64 (a:Int)] W (EndsPost tx.length W (semP tx p a))):=zh (fun W hW a ha=>hE W a ha (hm.fr_nil hW));have hle:=semP_le tx p;obtain ⟨S,hS⟩:∃ S,S=(⟨tx.toArray⟩:ByteArray):=⟨_,rfl⟩;obtain ⟨L,hL⟩:∃ L,L=tx.length:=⟨_,rfl⟩;obtain ⟨R,hR⟩:∃ R,R=semP tx p:=⟨_,rfl⟩;have hs1:S.size=L:=by rw [hS,hL];simp [ByteArray.size]
 rw [<-hS,<-hL,<-hR] at HE0;rw [<-hS];rw [<-hL,<-hR] at hr hle;rw [<-hL] at hx hfr;obtain ⟨g,hg⟩:∃ g,g=w.heap.size:=⟨_,rfl⟩;have HRR:=zh hr;have HGE:=zh hg;have HLE:=zh hle;clear hE hm hr hS hL hg hle hR;have f0:¬ ((from_:Int) < 0):=by omega
 have f1:¬ ((L:Int) < (from_:Int)):=by omega
 go_enter func66,ntmps66
 go_upto_region 3 with (refine wpList_box_bk rfl 69 _ rfl p.rcells rfl ?_;intro w1 hz hf1;have HZ:=zh hz;have HF:=zh hf1;clear hz hf1)
 rw [<-HGE.out];obtain ⟨w2,hw2⟩:∃ w2,w2=w1.alloc (.cells #[.int .i64 0,.int .i64 0,.bool false] 119):=⟨_,rfl⟩;have h12:Fr [] w1 w2:=by rw [hw2];exact (Fr.refl [] w1).alloc _
 obtain ⟨r6,hr6⟩:∃ r6,r6=w1.heap.size:=⟨_,rfl⟩;have hb6:Bk w2 r6 119 #[.int .i64 0,.int .i64 0,.bool false]:=by rw [hw2,hr6];exact Bk.new w1 _ _
 have hz:Bk w2 g 69 p.rcells.toArray:=by rw [HGE.out];exact HZ.out.fr h12 (by simp)
 have hr6w:w.heap.size < r6:=by rw [hr6];exact HZ.out.lt
 rw [<-hw2,<-hr6];have HB6:=zh hb6;have HZ2:=zh hz;have HF2:=zh (HF.out.trans h12);clear hw2 h12 hr6 hb6 hz HZ HF f0 f1;go_wp2_with fail
 go_loopw [7,8,9] (fun v7 v8 v9 wr=>FiOut w g r6 p.rcells v7 from_ L R wr) (fun v7 _ _ _=>L+2 - (intOf v7).toNat)
 case atStart=>exact ⟨from_,rfl,Nat.le_refl _,by omega,fun t e h1 h2=>absurd h1 (by omega),HZ2.out,HB6.out,HF2.out⟩
 case round=>
  obtain ⟨a,rfl,hfa,haL,hno,hbg,hb6,hf⟩:=hrel;have HNO:=zh hno;have HBG:=zh hbg;have HBR:=zh hb6;have HFR:=zh hf;clear hno hbg hb6 hf HB6 HZ2;rcases Nat.lt_or_ge a (L+1) with hal | hal
  ·have halI:(a:Int) <= (L:Int):=by omega
   have HE:=zh (HE0.out wr HFR.out a (by omega))
   go_upto_region 7 with (first
    | (refine wpList_load_bk rfl 69 _ rfl g 0 rfl p.rcells _ _ _ HBG.out (by intro j u hj;rw [Nat.zero_add,List.getElem?_toArray];exact hj) underlying69 rfl (by rw [rcells_len];exact rp_size) ?_)
    | (go_at_call 81;refine HE.out.mono ?_;rintro e w3 ⟨A3,c3,f3,rfl,h31,h32,h33⟩;have HV3:=zh h31;have HO3:=zh h32;have HF3:=zh h33;clear h31 h32 h33))
   have HBG3:=zh (HBG.out.fr HF3.out (by simp));have HBR3:=zh (HBR.out.fr HF3.out (by simp));have HFW3:=zh (HFR.out.trans HF3.out);go_upto_region 8 with fail
   go_loopw [9] (fun v9 wq=>∃ k:Nat,v9 = .int .i64 ((k:Int) - 1)/\a <= k/\k <= L+1/\(∀ c,k <= c->c <= L->¬ R a c)/\wq=w3) (fun v9 _=>((intOf v9)+1).toNat)
   case atStart=>exact ⟨L+1,by go_num,by omega,Nat.le_refl _,fun c h1 h2=>by omega,rfl⟩
   case round=>
    obtain ⟨k,rfl,hak,hkL,hnk,rfl⟩:=hrel;have HNK:=zh hnk;clear hnk;rcases Nat.lt_or_ge a k with hlt | hge
    ·obtain ⟨e,rfl⟩:∃ e,k=e+1:=⟨k - 1,by omega⟩;have hke:(((e+1:Nat):Int) - 1)=(e:Int):=by omega
     rw [hke];have haeI:(a:Int) <= (e:Int):=by omega
     have heI:(e:Int) < (L:Int)+1:=by omega
     obtain ⟨ad,rfl,hcell⟩:=(At.of_own HO3.out).bit (i:=e) (by have:=HV3.out.1;omega);have hiff:=HV3.out.2 e (by omega);obtain ⟨x,hxe⟩:∃ x,x=f3.getD e false:=⟨_,rfl⟩;rw [<-hxe] at hcell hiff;have HIFF:=zh hiff;clear hxe hiff hke
     cases x with
     | true=>
      have hae:R a e:=by have:=HIFF.out;simpa using this
      have hre:r=some (a,e):=by
       have h:=HRR.out
       cases r with
       | none=>exact absurd hae (h a e hfa (by omega))
       | some q=>
        obtain ⟨h1,h2,h3,h4,h5⟩:=h;have h6:=h5 a e hfa (by omega) hae;have h7:¬ q.1 < a:=fun hlt2=>HNO.out q.1 q.2 h1 hlt2 h4;have h8:q.1=a:=by omega
        have h9:¬ e+1 <= q.2:=fun h10=>HNK.out q.2 h10 h3 (by rw [<-h8];exact h4);rw [show q=(a,e) from Prod.ext h8 (by omega)]
      subst hre;have rlt:=HBR3.out.lt;have rf0:=HBR3.out.frozen 0;have rf1:=HBR3.out.frozen 1;have rf2:=HBR3.out.frozen 2;have rc0:=HBR3.out.cell_ (i:=0) rfl;have rc1:=HBR3.out.cell_ (i:=1) rfl;have rc2:=HBR3.out.cell_ (i:=2) rfl;go_wp2_with fail
      have hbb:Bk (((wr.setCell ⟨r6,0,none⟩ (.int .i64 (a:Int))).setCell ⟨r6,1,none⟩ (.int .i64 (e:Int))).setCell ⟨r6,2,none⟩ (.bool true)) r6 119 (foundC (some (a,e))).toArray:=((HBR3.out.put 0 (.int .i64 (a:Int))).put 1 (.int .i64 (e:Int))).put 2 (.bool true);refine ret_row (p:=6) (T:=119) rfl r6 (foundC (some (a,e))) _ rfl hbb underlying119 rfl fnd_size rfl ?_;exact ⟨rfl,((HFW3.out.setCell (.inr (Nat.le_of_lt hr6w)) _).setCell (.inr (Nat.le_of_lt hr6w)) _).setCell (.inr (Nat.le_of_lt hr6w)) _⟩
     | false=>
      have hae:¬ R a e:=by have:=HIFF.out;simpa using this
      go_wp2_with fail
      go_roundw
      case rel=>
       refine ⟨e,by go_num,by omega,by omega,fun c h1 h2=>?_,by first | rfl | trivial⟩;rcases Nat.lt_or_ge e c with h | h
       ·exact HNK.out c h h2
       obtain rfl:c=e:=by omega
       exact hae
      case measure=>simp [intOf] <;> omega
    obtain rfl:k=a:=by omega
    have hexI:¬ ((k:Int) <= (k:Int) - 1):=by omega
    go_wp2_with fail
    go_roundw
    case rel=>
     refine ⟨k+1,by go_num,by omega,by omega,fun t e h1 h2 h3=>?_,HBG3.out,HBR3.out,HFW3.out⟩;rcases Nat.lt_or_ge t k with h | h
     ·exact HNO.out t e h1 h h3
     obtain rfl:t=k:=by omega
     have h4:=HLE.out t e h3 (by omega);exact HNK.out e h4.1 h4.2 h3
    case measure=>simp [intOf] <;> omega
  have halI:¬ ((a:Int) <= (L:Int)):=by omega
  have hre:r=none:=by
   have h:=HRR.out
   cases r with
   | none=>rfl
   | some q=>
    obtain ⟨h1,h2,h3,h4,h5⟩:=h;exact absurd h4 (HNO.out q.1 q.2 h1 (by omega))
  subst hre;have rlt:=HBR.out.lt;have rf0:=HBR.out.frozen 0;have rf1:=HBR.out.frozen 1;have rf2:=HBR.out.frozen 2;have rc0:=HBR.out.cell_ (i:=0) rfl;have rc1:=HBR.out.cell_ (i:=1) rfl;have rc2:=HBR.out.cell_ (i:=2) rfl;go_wp2_with fail
  have hbb:Bk (((wr.setCell ⟨r6,0,none⟩ (.int .i64 0)).setCell ⟨r6,1,none⟩ (.int .i64 0)).setCell ⟨r6,2,none⟩ (.bool false)) r6 119 (foundC none).toArray:=((HBR.out.put 0 (.int .i64 0)).put 1 (.int .i64 0)).put 2 (.bool false);refine ret_row (p:=6) (T:=119) rfl r6 (foundC none) _ rfl hbb underlying119 rfl fnd_size rfl ?_;exact ⟨rfl,((HFR.out.setCell (.inr (Nat.le_of_lt hr6w)) _).setCell (.inr (Nat.le_of_lt hr6w)) _).setCell (.inr (Nat.le_of_lt hr6w)) _⟩
end Go.Proofs.YtfofechcccodeaaGreatDoor
