/-
  Small texts in one (Ml). No conditions.
-/
import Derived.Test.YtfofechcccodeaaGreatDoorQag
namespace Go.Proofs.YtfofechcccodeaaGreatDoor
open Go.RowKit Go.ChangeMaps Go.Proofs.Tryz
set_option linter.unusedVariables false
set_option linter.unusedSimpArgs false
set_option maxRecDepth 100000
set_option maxHeartbeats 8000000
theorem wpList_run {P:Program} {w w':World} {ops:Array Oper} {rest:List Oper} {o:Oper} {a:Act} {Q:Exit->Act->World->Prop} (hgd:Region.wanted o (yielded ops a.tmps)=true)
    (hr:(execOp a.eval o).run P w = .ok .skip w') (hK:wpList P ops Q rest (a.put o.dst undef) w'):wpList P ops Q (o :: rest) a w:=by
 refine wpList_wanted hgd fun K hKK=>?_;unfold Oper.wp;rw [hr];exact hKK _ _ hK
theorem sizL_take {l:List PT} {i:Nat} {t:PT} (h:l[i]?=some t):sizL (l.take (i+1))=sizL (l.take i)+sizP t:=by
 rw [List.take_add_one,h]
 have:∀ (a:List PT) (t:PT),sizL (a ++ [t])=sizL a+sizP t:=by
  intro a t
  induction a with
  | nil=>simp [sizL]
  | cons x r ih=>simp [sizL,ih];omega
 exact this _ _
theorem depL_take {l:List PT} {i:Nat} {t:PT} (h:l[i]?=some t):depL (l.take (i+1))=max (depL (l.take i)) (depP t):=by
 rw [List.take_add_one,h]
 have:∀ (a:List PT) (t:PT),depL (a ++ [t])=max (depL a) (depP t):=by
  intro a t
  induction a with
  | nil=>simp [depL]
  | cons x r ih=>simp [depL,ih,Nat.max_assoc]
 exact this _ _
theorem rightL_take {l:List PT} {i:Nat} {t:PT} (h:l[i]?=some t):rightL (l.take (i+1))=(rightL (l.take i) && rightP t):=by
 rw [List.take_add_one,h]
 have:∀ (a:List PT) (t:PT),rightL (a ++ [t])=(rightL a && rightP t):=by
  intro a t
  induction a with
  | nil=>simp [rightL]
  | cons x r ih=>simp [rightL,ih,Bool.and_assoc]
 exact this _ _
theorem rightL_bad {l:List PT} {t:PT} (h:t ∈ l) (hr:rightP t=false):rightL l=false:=by
 induction l with
 | nil=>cases h
 | cons x r ih=>
  rw [rightL];rcases List.mem_cons.1 h with rfl | h
  ·rw [hr];rfl
  rw [ih h,Bool.and_false]
def MlRel (w:World) (mv:Nat) (es:List (Ky × Ex)) (l:List PT) (br bk ba:Nat) (kb ko:Nat) (v:Value) (wr:World):Prop:=
 ∃ (i:Nat) (es':List (Ky × Ex)) (s d:Nat),v = .int .i64 (i:Int)/\i <= l.length/\rightL (l.take i)=true/\s=min 4001 (sizL (l.take i))/\d=depL (l.take i)/\Bk wr ba 172 #[.int .i64 s,.int .i64 d] /\
  Bk wr br 172 #[.int .i64 0,.int .i64 0]/\Bk wr bk 188 #[.pointer (some ⟨kb,ko,none⟩),.int .i64 l.length]/\Fr [mv] w wr/\Ext es es'/\MInv wr mv es'/\CovL es' (l.take i)
theorem list_of_parts (l:List PT) (hpt:∀ t ∈ l,PartOk t):ListOk l:=by
 intro w mv es A c d D hD hlm hm hd hcnt;obtain rfl:=hD;have hle:=cntL_len l;have hdp:=depL_le l;by_cases h0:l=[]
 ·subst h0;go_enter func86,ntmps86
  have HM:=zh hm;clear hm;go_wp2_with fail
  refine bodyPost_ret (v := .tuple #[exV (0,0),.nilIface]) (by simp [results,results86,go_sem,exV]) rfl ?_;exact ⟨.inl ⟨rfl,rfl⟩,(Fr.refl _ _).alloc _,es,Ext.refl es,HM.out.nil_ ((Fr.refl [] w).alloc _),fun _=>⟨.inl rfl,by rw [CovL];trivial⟩⟩
 have hl0:0 < l.length:=by cases l with
  | nil=>exact absurd rfl h0
  | cons _ _=>simp
 obtain ⟨t0,ht0⟩:∃ t,l[0]?=some t:=⟨_,List.getElem?_eq_getElem hl0⟩;obtain ⟨⟨b,off,rfl,hc0⟩,-⟩:=hlm.get ht0;obtain ⟨ck,hck⟩:=hc0.bk;have hbl:=hc0.lt;have hl1:((l.length:Int) == 0)=false:=beq_eq_false_iff_ne.2 (by omega);have hl2:(l.length == 0)=false:=beq_eq_false_iff_ne.2 (by omega);obtain ⟨n,hn⟩:∃ n,n=l.length:=⟨_,rfl⟩;obtain ⟨rl,hrl⟩:∃ rl,rl=rightL l:=⟨_,rfl⟩;obtain ⟨L,hL⟩:∃ L,L=l:=⟨_,rfl⟩
 have hlook:∀ W:World,Fr [] w W->(Instr.lookup 133 (.map (some mv)) (.agg #[.pointer (some ⟨b,off,none⟩),.int .i64 (n:Int)]) true).run prog W =
     .ok (.tuple #[exV ((getM es (b,off,n)).getD (0,0)),.bool (getM es (b,off,n)).isSome]) W:=fun W hW=>
  (hm.nil_ hW).1.look (b,off,n) (hck.fr hW (by simp)) true
 rw [<-hn] at hl1 hl2 hle hl0;rw [<-hn];have HM:=zh hm;have HPT:=zh hpt;have HLM:=zh hlm;have HN:=zh hn;have HLOOK:=zh hlook;have HRL:=zh hrl;have HL:=zh hL;have HCK:=zh hck;clear hm hpt hlm hn hlook hrl hL hc0 ht0 h0 hck;go_enter func86,ntmps86
 go_upto_region 4 with fail
 obtain ⟨wk,hwk⟩:∃ wk,wk=(w.alloc (.cells #[.int .i64 0,.int .i64 0] 172)).alloc (.cells #[.pointer (some ⟨b,off,none⟩),.int .i64 (n:Int)] 188):=⟨_,rfl⟩;have hbr:Bk wk w.heap.size 172 #[.int .i64 0,.int .i64 0]:=by rw [hwk];exact (Bk.new w _ _).alloc _
 have hbk:Bk wk (w.heap.size+1) 188 #[.pointer (some ⟨b,off,none⟩),.int .i64 (n:Int)]:=by
  rw [hwk];have h:=Bk.new (w.alloc (.cells #[.int .i64 0,.int .i64 0] 172)) 188 #[.pointer (some ⟨b,off,none⟩),.int .i64 (n:Int)]
  rwa [World.size_alloc] at h
 have hfk:Fr [] w wk:=by rw [hwk];exact ((Fr.refl [] w).alloc _).alloc _
 have hszk:wk.heap.size=w.heap.size+2:=by rw [hwk];simp
 rw [<-hwk];obtain ⟨br,hbre⟩:∃ br,br=w.heap.size:=⟨_,rfl⟩;obtain ⟨bk,hbke⟩:∃ bk,bk=w.heap.size+1:=⟨_,rfl⟩;rw [<-hbre] at hbr ⊢; rw [<-hbke] at hbk;have e8:(⟨w.heap.size+1,0,none⟩:Addr)=⟨bk,0,none⟩:=by rw [hbke]
 rw [<-hbre] at e8;rw [e8];have HSZ:=zh hszk;have HBRE:=zh hbre;have HBKE:=zh hbke;have HBR:=zh hbr;have HBK:=zh hbk;have HFK:=zh hfk;have hlk:=HLOOK.out wk hfk;have k0:=hbk.cell_ (i:=0) rfl;have k1:=hbk.cell_ (i:=1) rfl;clear hszk hbre hbke hbr hbk hfk hwk e8
 cases hg:getM es (b,off,n) with
 | some x=>
  have hx:=HM.out.look HLM.out (by rw [<-HN.out];exact hg);rw [hg] at hlk;obtain ⟨h1,h2,h3⟩:=hx;obtain ⟨x1,hx1⟩:∃ x1,x1=min 4001 (sizL l):=⟨_,rfl⟩;obtain ⟨x2,hx2⟩:∃ x2,x2=depL l:=⟨_,rfl⟩;have hex:exV x = .agg #[.int .i64 (x1:Int),.int .i64 (x2:Int)]:=by rw [h2,hx1,hx2];rfl
  simp only [Option.getD_some,Option.isSome_some] at hlk;rw [hex] at hlk;have hd3:(d:Int)+(x2:Int) - 1 <= 1200:=by omega
  have HX:=zh h2;have H1:=zh h1;have H3:=zh h3;have HEX:=zh hex;have HG:=zh hg;have hx2b:x2 <= 1200:=by omega
  clear h1 h2 h3 hx1 hx2 hex hg;go_upto_region 5 with fail
  obtain ⟨w5,hw5⟩:∃ w5,w5=wk.alloc (.cells #[.int .i64 (x1:Int),.int .i64 (x2:Int)] 172):=⟨_,rfl⟩;have hb5:Bk w5 wk.heap.size 172 #[.int .i64 (x1:Int),.int .i64 (x2:Int)]:=by rw [hw5];exact Bk.new wk _ _
  have hr5:Bk w5 br 172 #[.int .i64 0,.int .i64 0]:=by rw [hw5];exact HBR.out.alloc _
  have hf5:Fr [] w w5:=by rw [hw5];exact HFK.out.alloc _
  rw [<-hw5];obtain ⟨bx,hbx⟩:∃ bx,bx=wk.heap.size:=⟨_,rfl⟩;rw [<-hbx] at hb5 ⊢; have q0:=hb5.cell_ (i:=0) rfl;have q1:=hb5.cell_ (i:=1) rfl;have r0:=hr5.cell_ (i:=0) rfl;have r1:=hr5.cell_ (i:=1) rfl;have f0:=hr5.frozen 0;have f1:=hr5.frozen 1;have HR5:=zh hr5;have HF5:=zh hf5;clear hw5 hbx hb5 hr5 hf5 k0 k1 hlk;go_wp2_with fail
  refine bodyPost_ret (v := .tuple #[.agg #[.int .i64 (x1:Int),.int .i64 (x2:Int)],.nilIface]) (by simp [results,results86,go_sem,r0,r1]) rfl ?_;have hset:Fr [br] w5 ((w5.setCell ⟨br,0,none⟩ (.int .i64 (x1:Int))).setCell ⟨br,1,none⟩ (.int .i64 (x2:Int))):=((Fr.refl [br] w5).setCell (.inl (by simp)) _).setCell (.inl (by simp)) _;have hm5:=HM.out.nil_ HF5.out;refine ⟨.inl ⟨H1.out,by rw [<-HX.out,HEX.out]⟩,?_,es,Ext.refl es,hm5.fr_ hset (fun b hb=>by simp at hb;subst hb;exact ⟨hm5.1.ne HR5.out,HR5.out.other_ (by decide)⟩),fun _=>?_⟩
  ·exact HF5.out.nil_.trans' hset (by simp;right;have:=HBRE.out;omega)
  exact ⟨.inr ⟨b,off,rfl,by rw [<-HN.out,HG.out,HX.out]⟩,H3.out⟩
 | none=>
  rw [hg] at hlk;simp only [Option.getD_none,Option.isSome_none] at hlk;unfold exV at hlk;have HG:=zh hg;clear hg;go_upto_region 8 with fail
  obtain ⟨w8,hw8⟩:∃ w8,w8=(wk.alloc (.cells #[.int .i64 0,.int .i64 0] 172)).alloc (.cells #[.int .i64 0,.int .i64 0] 172):=⟨_,rfl⟩
  have hba:Bk w8 (wk.heap.size+1) 172 #[.int .i64 0,.int .i64 0]:=by
   rw [hw8];have h:=Bk.new (wk.alloc (.cells #[.int .i64 0,.int .i64 0] 172)) 172 #[.int .i64 0,.int .i64 0]
   rwa [World.size_alloc] at h
  have hr8:Bk w8 br 172 #[.int .i64 0,.int .i64 0]:=by rw [hw8];exact (HBR.out.alloc _).alloc _
  have hk8:Bk w8 bk 188 #[.pointer (some ⟨b,off,none⟩),.int .i64 (n:Int)]:=by rw [hw8];exact (HBK.out.alloc _).alloc _
  have hf8:Fr [] w w8:=by rw [hw8];exact (HFK.out.alloc _).alloc _
  rw [<-hw8];obtain ⟨ba,hbae⟩:∃ ba,ba=wk.heap.size+1:=⟨_,rfl⟩;rw [<-hbae] at hba;have e11:(⟨wk.heap.size+1,0,none⟩:Addr)=⟨ba,0,none⟩:=by rw [hbae]
  rw [e11];have hwba:w.heap.size <= ba:=by have h1:=HSZ.out;have h2:=HBRE.out;omega
  have hwbr:w.heap.size <= br:=by have h2:=HBRE.out;omega
  have hne1:ba ≠ br:=by have h1:=HSZ.out;have h2:=HBRE.out;omega
  have hne2:ba ≠ bk:=by have h1:=HSZ.out;have h2:=HBKE.out;omega
  have HNE1:=zh hne1;have HNE2:=zh hne2;have HREL:Hid (MlRel w mv es l br bk ba b off (.int .i64 0) w8):=zh ⟨0,es,0,0,rfl,by omega,rfl,by simp [sizL],by simp [depL],hba,hr8,by rw [<-HN.out];exact hk8,hf8.nil_,Ext.refl es,HM.out.nil_ hf8,by simp;rw [CovL];trivial⟩;clear hw8 hba hr8 hk8 hf8 hbae e11 hne1 hne2 k0 k1 hlk;go_wp2_with fail
  go_loopw [42] (fun v wr=>MlRel w mv es l br bk ba b off v wr) (fun v _=>n - (intOf v).toNat)
  case atStart=>exact HREL.out
  case round=>
   unfold MlRel at hrel;obtain ⟨i,es',s,dd,rfl,hi,hri,hs,hdd,hba,hbr,hbk,hfr,hext,hmi,hcov⟩:=hrel;have hs4:s <= 4001:=by omega
   have hdd2:dd <= 1200:=by
    have h1:=depL_le (l.take i)
    have h2:cntL (l.take i) <= cntL l:=by
     have:∀ (a c:List PT),cntL (a ++ c)=cntL a+cntL c:=by
      intro a c
      induction a with
      | nil=>simp [cntL]
      | cons x r ih=>simp [cntL,ih];omega
     have h3:=this (l.take i) (l.drop i);rw [List.take_append_drop] at h3;omega
    omega
   have a0:=hba.cell_ (i:=0) rfl;have a1:=hba.cell_ (i:=1) rfl;have HS:=zh hs;have HDD:=zh hdd;have HBA:=zh hba;have HBR1:=zh hbr;have HBK1:=zh hbk;have HFR:=zh hfr;have HEXT:=zh hext;have HMI:=zh hmi;have HCOV:=zh hcov;have HRI:=zh hri;rw [<-HN.out] at hi;clear hs hdd hba hbr hbk hfr hext hmi hcov hri;by_cases hlt:i < n
   ·obtain ⟨t,ht⟩:∃ t,l[i]?=some t:=⟨_,List.getElem?_eq_getElem (by rw [<-HN.out];exact hlt)⟩;have htm:t ∈ l:=List.mem_of_getElem? ht;have hct:=cntL_mem htm;have hkT:KeepT w wr:=HM.out.keepT HFR.out;obtain ⟨⟨b',off',hA,hcell⟩,hpm⟩:=LMem.get (HLM.out.keep hkT) ht;simp at hA;obtain ⟨rfl,rfl⟩:=hA;rw [Nat.zero_add] at hcell;have HT:=zh ht;have HCELL:=zh hcell;have HPM:=zh hpm;clear ht htm hkT hcell hpm;go_wp2_with fail
    go_at_call 71
    refine (HPT.out t (List.mem_of_getElem? HT.out) wr mv es' b (off+i * 8) d _ rfl HCELL.out HPM.out HMI.out hd (by omega)).mono ?_;rintro e w5 ⟨h,hf,es2,he,hm2,hc2⟩;have hnm:mv ≠ ba:=fun e=>(HMI.out.1.ne HBA.out) e.symm;have hnr:mv ≠ br:=fun e=>(HMI.out.1.ne HBR1.out) e.symm;have hnk:mv ≠ bk:=fun e=>(HMI.out.1.ne HBK1.out) e.symm;have hba5:=HBA.out.fr hf (by simpa using hnm.symm);have hbr5:=HBR1.out.fr hf (by simpa using hnr.symm);have hbk5:=HBK1.out.fr hf (by simpa using hnk.symm);have hfr5:=HFR.out.trans hf;have hex5:=HEXT.out.trans he;have hcov5:=CovL.mono he _ HCOV.out;have HF:=zh hf;have HE5:=zh hex5;have HM2:=zh hm2;have HC2:=zh hc2;have HBA5:=zh hba5;have HBR5:=zh hbr5;have HBK5:=zh hbk5;have HFR5:=zh hfr5;have HCOV5:=zh hcov5;clear hf he hm2 hc2 hnm hnr hnk hba5 hbr5 hbk5 hfr5 hex5 hcov5 a0 a1;rcases h with ⟨hrt,rfl⟩ | ⟨hrt,rfl⟩
    ·obtain ⟨p1,hp1⟩:∃ p1,p1=min 4001 (sizP t):=⟨_,rfl⟩;obtain ⟨p2,hp2⟩:∃ p2,p2=depP t:=⟨_,rfl⟩;have hex:exV (exP t) = .agg #[.int .i64 (p1:Int),.int .i64 (p2:Int)]:=by rw [hp1,hp2];rfl
     have hp2':p2 <= 1200:=by have:=depP_le t;omega
     have hp1':p1 <= 4001:=by omega
     rw [hex];have HP1:=zh hp1;have HP2:=zh hp2;have HRT:=zh hrt;clear hp1 hp2 hex hrt;go_upto_region 12 with fail
     obtain ⟨w6,hw6⟩:∃ w6,w6=w5.alloc (.cells #[.int .i64 (p1:Int),.int .i64 (p2:Int)] 172):=⟨_,rfl⟩;have hb6:Bk w6 w5.heap.size 172 #[.int .i64 (p1:Int),.int .i64 (p2:Int)]:=by rw [hw6];exact Bk.new w5 _ _
     have ha6:Bk w6 ba 172 #[.int .i64 s,.int .i64 dd]:=by rw [hw6];exact HBA5.out.alloc _
     have hf6:Fr [] w5 w6:=by rw [hw6];exact (Fr.refl [] w5).alloc _
     rw [<-hw6];obtain ⟨b13,hb13⟩:∃ b13,b13=w5.heap.size:=⟨_,rfl⟩;rw [<-hb13] at hb6 ⊢; have hne:b13 ≠ ba:=by have:=HBA5.out.lt;omega
     have q0:=hb6.cell_ (i:=0) rfl;have q1:=hb6.cell_ (i:=1) rfl;have a0:=ha6.cell_ (i:=0) rfl;have a1:=ha6.cell_ (i:=1) rfl;have g0:=ha6.frozen 0;have g1:=ha6.frozen 1;have HA6:=zh ha6;have HF6:=zh hf6;clear hw6 hb13 hb6 ha6 hf6;go_wp2_with fail
     go_at_call 103
     refine (few_any _ _).mono ?_;rintro e w' ⟨rfl,rfl⟩;obtain ⟨s2,hs2⟩:∃ s2:Nat,s2=min 4001 (s+p1):=⟨_,rfl⟩;have es2':min ((s:Int)+(p1:Int)) 4001=(s2:Int):=by omega
     rw [es2'];obtain ⟨d2,hd2⟩:∃ d2:Nat,d2=max dd p2:=⟨_,rfl⟩;have ed2:max (dd:Int) (p2:Int)=(d2:Int):=by omega
     have HS2:=zh hs2;have HD2:=zh hd2;have HED2:=zh ed2;clear hs2 hd2 es2' ed2;go_wp2_with (refine wpList_max rfl (.tmp 66) (.tmp 68) _ rfl .i64 (dd:Int) (p2:Int) (d2:Int) (by first | rfl | simp [Act.eval]) (by first | rfl | simp [Act.eval]) HED2.out ?_)
     go_roundw
     case rel=>
      have hset:Fr [ba] w6 ((w6.setCell ⟨ba,0,none⟩ (.int .i64 (s2:Int))).setCell ⟨ba,1,none⟩ (.int .i64 (d2:Int))):=((Fr.refl [ba] w6).setCell (.inl (by simp)) _).setCell (.inl (by simp)) _;have hm6:=HM2.out.nil_ HF6.out;refine ⟨i+1,es2,s2,d2,by go_num,by rw [<-HN.out];omega,by rw [rightL_take HT.out,HRI.out,HRT.out];rfl,?_,?_,?_,?_,?_,?_,HE5.out,?_,?_⟩
      ·rw [HS2.out,HS.out,HP1.out,sizL_take HT.out];omega
      ·rw [HD2.out,HDD.out,HP2.out,depL_take HT.out]
      ·have h:=(HA6.out.put 0 (.int .i64 (s2:Int))).put 1 (.int .i64 (d2:Int));exact h
      ·exact ((HBR5.out.fr HF6.out (by simp)).fr hset (by simpa using fun e=>HNE1.out e.symm))
      ·exact ((HBK5.out.fr HF6.out (by simp)).fr hset (by simpa using fun e=>HNE2.out e.symm))
      ·exact (HFR5.out.trans HF6.out.nil_).trans' hset (by simp;right;exact hwba)
      ·exact hm6.fr_ hset (fun b hb=>by simp at hb;subst hb;exact ⟨hm6.1.ne HA6.out,HA6.out.other_ (by decide)⟩)
      rw [List.take_add_one,HT.out];exact CovL.append HCOV5.out (HC2.out HRT.out)
     case measure=>simp [intOf] <;> omega
    unfold exV;have HRT:=zh hrt;clear hrt;go_upto_region 12 with fail
    obtain ⟨w6,hw6⟩:∃ w6,w6=w5.alloc (.cells #[.int .i64 0,.int .i64 0] 172):=⟨_,rfl⟩;have hr6:Bk w6 br 172 #[.int .i64 0,.int .i64 0]:=by rw [hw6];exact HBR5.out.alloc _
    have hf6:Fr [] w5 w6:=by rw [hw6];exact (Fr.refl [] w5).alloc _
    rw [<-hw6];have r0:=hr6.cell_ (i:=0) rfl;have r1:=hr6.cell_ (i:=1) rfl;have g0:=hr6.frozen 0;have g1:=hr6.frozen 1;have HR6:=zh hr6;have HF6:=zh hf6;clear hw6 hr6 hf6;go_wp2_with fail
    refine bodyPost_ret (v := .tuple #[exV (0,0),.iface 55 (.int .i64 4)]) (by simp [results,results86,go_sem,exV,r0,r1]) rfl ?_;have hset:Fr [br] w6 ((w6.setCell ⟨br,0,none⟩ (.int .i64 0)).setCell ⟨br,1,none⟩ (.int .i64 0)):=((Fr.refl [br] w6).setCell (.inl (by simp)) _).setCell (.inl (by simp)) _;have hm6:=HM2.out.nil_ HF6.out;refine ⟨.inr ⟨rightL_bad (List.mem_of_getElem? HT.out) HRT.out,rfl⟩,?_,es2,HE5.out,hm6.fr_ hset (fun b hb=>by simp at hb;subst hb;exact ⟨hm6.1.ne HR6.out,HR6.out.other_ (by decide)⟩),fun h=>by rw [rightL_bad (List.mem_of_getElem? HT.out) HRT.out] at h;cases h⟩;exact (HFR5.out.trans HF6.out.nil_).trans' hset (by simp;right;exact hwbr)
   obtain rfl:i=n:=by omega
   have htk:l.take i=l:=by rw [HN.out];exact List.take_length
   have hst:=MInv.store HMI.out (HLM.out.keep (HM.out.keepT HFR.out)) (by rw [<-HN.out];exact hl0) (by rw [<-htk];exact HRI.out) (by rw [<-htk];exact HCOV.out);obtain ⟨w9,es9,hrun,hex9,hm9,hin9,hf9⟩:=hst;have hexl:exV (exL l) = .agg #[.int .i64 (s:Int),.int .i64 (dd:Int)]:=by rw [HS.out,HDD.out,htk];rfl
   rw [hexl,<-HN.out] at hrun;unfold kyV at hrun;have k0:=HBK1.out.cell_ (i:=0) rfl;have k1:wr.cell? ⟨bk,1,none⟩=some (.int .i64 (i:Int)):=by rw [HN.out];exact HBK1.out.cell_ (i:=1) rfl
   have hnm:mv ≠ ba:=fun e=>(HMI.out.1.ne HBA.out) e.symm;have hnr:mv ≠ br:=fun e=>(HMI.out.1.ne HBR1.out) e.symm;have hba9:=HBA.out.fr hf9 (by simpa using hnm.symm);have hbr9:=HBR1.out.fr hf9 (by simpa using hnr.symm);have q0:=hba9.cell_ (i:=0) rfl;have q1:=hba9.cell_ (i:=1) rfl;have r0:=hbr9.cell_ (i:=0) rfl;have r1:=hbr9.cell_ (i:=1) rfl;have g0:=hbr9.frozen 0;have g1:=hbr9.frozen 1;have hcl:CovL es9 l:=by have h:=CovL.mono hex9 _ HCOV.out;rwa [htk] at h
   have hrl:rightL l=true:=by rw [<-htk];exact HRI.out
   have HRUN:=zh hrun;have HEX9:=zh hex9;have HM9:=zh hm9;have HIN9:=zh hin9;have HF9:=zh hf9;have HR9:=zh hbr9;have HEXL:=zh hexl;have HCL:=zh hcl;have HRL2:=zh hrl;clear hrun hex9 hm9 hin9 hf9 hba9 hbr9 hexl htk hnm hnr hcl hrl;go_upto_region 17 with fail
   go_wp2_with (at_mapUpdate;refine wpList_run rfl (w':=w9) ?hrun ?_;case hrun=>(have h:=HRUN.out;first | exact h | (simp [execOp,Act.eval,h];done) | (simp [execOp,Act.eval];rw [h];rfl)))
   refine bodyPost_ret (v := .tuple #[.agg #[.int .i64 (s:Int),.int .i64 (dd:Int)],.nilIface]) (by simp [results,results86,go_sem,r0,r1]) rfl ?_;have hset:Fr [br] w9 ((w9.setCell ⟨br,0,none⟩ (.int .i64 (s:Int))).setCell ⟨br,1,none⟩ (.int .i64 (dd:Int))):=((Fr.refl [br] w9).setCell (.inl (by simp)) _).setCell (.inl (by simp)) _;refine ⟨.inl ⟨HRL2.out,by rw [HEXL.out]⟩,?_,es9,HEXT.out.trans HEX9.out,HM9.out.fr_ hset (fun b hb=>by simp at hb;subst hb;exact ⟨HM9.out.1.ne HR9.out,HR9.out.other_ (by decide)⟩),fun _=>⟨HIN9.out,HCL.out⟩⟩;exact (HFR.out.trans HF9.out).trans' hset (by simp;right;exact hwbr)
mutual
theorem part_ok:∀ t:PT,PartOk t
 | .mk k s0 s1 s2 s3 mn mx A c l=>part_of_list (.mk k s0 s1 s2 s3 mn mx A c l) (list_of_parts l (parts_ok l))
theorem parts_ok:∀ l:List PT,∀ t ∈ l,PartOk t
 | []=>by intro t h;cases h
 | u :: r=>by
  have hu:=part_ok u;have hr:=parts_ok r;intro t h;rcases List.mem_cons.1 h with rfl | h
  ·exact hu
  exact hr t h
end
def MeasPost (w:World) (t:PT) (e:Ending) (w':World):Prop:=
 Fr [] w w'/\(rightP t=false/\e = .returned (.tuple #[.int .i64 0,.map none,.iface 55 (.int .i64 4)]) ∨
  rightP t=true/\4000 <= sizP t/\e = .returned (.tuple #[.int .i64 4001,.map none,.iface 55 (.int .i64 5)]) ∨
  rightP t=true/\sizP t < 4000/\∃ mv es,e = .returned (.tuple #[.int .i64 ((sizP t:Int)+1),.map (some mv),.nilIface])/\MInv w' mv es/\CovP es t/\w.heap.size <= mv)
theorem measure_any {w:World} {b o:Nat} {t:PT} (hc:CellsAt w b o t.cells) (hp:PMem w t) (hn:cntP t <= 1199) :
    Calls prog 57 #[.pointer (some ⟨b,o,none⟩)] w (MeasPost w t):=by
 have hmm:=@run_makeMap prog;have HC:=zh hc;have HP:=zh hp;clear hc hp;go_enter func57,ntmps57
 go_wp2_with fail
 go_at_call 71
 have hkk:KeepT w (w.alloc (.map #[] 0)):=KeepT.of_nil ((Fr.refl [] w).alloc _);refine (part_ok t _ _ [] b o 1 1 rfl (HC.out.keep hkk) (HP.out.keep hkk) (MInv.made w) (by omega) (by omega)).mono ?_;rintro e w1 ⟨h,hf,es1,he,hm1,hc1⟩;have hfr:Fr [] w w1:=((Fr.refl [] w).alloc _).trans' hf (by simp);have HF:=zh hfr;have HM1:=zh hm1;have HC1:=zh hc1;clear hf he hm1 hc1 hfr hmm hkk;obtain ⟨mv,hmv⟩:∃ mv,mv=w.heap.size:=⟨_,rfl⟩;rw [<-hmv] at HM1;have e9:Value.map (some w.heap.size) = .map (some mv):=by rw [hmv]
 rw [e9];have hmv2:w.heap.size <= mv:=by omega
 clear e9 hmv;rcases h with ⟨hr,rfl⟩ | ⟨hr,rfl⟩
 ·obtain ⟨x1,hx1⟩:∃ x1,x1=min 4001 (sizP t):=⟨_,rfl⟩;obtain ⟨x2,hx2⟩:∃ x2,x2=depP t:=⟨_,rfl⟩;have hex:exV (exP t) = .agg #[.int .i64 (x1:Int),.int .i64 (x2:Int)]:=by rw [hx1,hx2];rfl
  rw [hex];have HX1:=zh hx1;have HR:=zh hr;have h4:x1 <= 4001:=by omega
  clear hx1 hx2 hex hr;by_cases hbig:4000 <= x1
  ·go_wp2_with fail
   go_ret3
   exact ⟨HF.out.alloc _,.inr (.inl ⟨HR.out,by have:=HX1.out;omega,rfl⟩)⟩
  go_wp2_with fail
  go_ret3
  have hx:x1=sizP t:=by have:=HX1.out;omega
  exact ⟨HF.out.alloc _,.inr (.inr ⟨HR.out,by omega,mv,es1,by rw [<-hx];rfl,HM1.out.nil_ ((Fr.refl [] w1).alloc _),HC1.out HR.out,hmv2⟩)⟩
 have HR:=zh hr;clear hr;unfold exV;go_wp2_with fail
 go_ret3
 exact ⟨HF.out.alloc _,.inl ⟨HR.out,rfl⟩⟩
end Go.Proofs.YtfofechcccodeaaGreatDoor
