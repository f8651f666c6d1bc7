/-
  Small texts in one (Ly7, Ly8). No conditions.
-/
import Derived.Test.YtfofechcccodeaaGreatDoorQak
import Derived.OwnWalk
namespace Go.Proofs.YtfofechcccodeaaGreatDoor
open Go.RowKit Go.ChangeMaps Go.Proofs.Tryz
set_option linter.unusedVariables false
set_option linter.unusedSimpArgs false
set_option maxRecDepth 100000
set_option maxHeartbeats 8000000
def ChoiceOk (ts:List PT):Prop:=∀ (w:World) (gy mv:Nat) (l:List Nat) (es:List (Ky × Ex)) (L:List Sp) (A:Option Addr) (c:Nat),LaySt w gy mv l L->MInv w mv es->CovL es ts->LMem w A ts 0->rightL ts=true->0 < ts.length->cntL ts <= 1198->L.length+(sizL ts+2 * (ts.length - 1)) <= 5000 ->
 Calls prog 74 #[.pointer (some ⟨gy,0,none⟩),.slice A ts.length c] w (LayPost w gy mv l (L ++ layO ts L.length (L.length+(sizL ts+2 * (ts.length - 1)))) (.tuple #[]))
theorem layL_append:∀ (a r:List PT) (q:Nat),layL (a ++ r) q=layL a q ++ layL r (q+sizL a)
 | [],r,q=>by simp [layL,sizL]
 | t :: a,r,q=>by rw [List.cons_append,layL,layL_append a r,layL,sizL];simp [Nat.add_assoc]
theorem sizL_append:∀ (a r:List PT),sizL (a ++ r)=sizL a+sizL r
 | [],r=>by simp [sizL]
 | t :: a,r=>by rw [List.cons_append,sizL,sizL_append a r,sizL];omega
theorem sizL_take_le (l:List PT) (i:Nat):sizL (l.take i) <= sizL l:=by
 have h:=sizL_append (l.take i) (l.drop i);rw [List.take_append_drop] at h;omega
theorem rightL_get {l:List PT} {t:PT} (h:t ∈ l) (hr:rightL l=true):rightP t=true:=by
 cases ht:rightP t with
 | true=>rfl
 | false=>rw [rightL_bad h ht] at hr;cases hr
theorem rightL_takes:∀ (l:List PT) (i:Nat),rightL l=true->rightL (l.take i)=true
 | [],i,h=>by simp [rightL]
 | t :: r,0,h=>by simp [rightL]
 | t :: r,i+1,h=>by
  simp only [rightL,Bool.and_eq_true] at h;simp only [List.take_succ_cons,rightL,Bool.and_eq_true];exact ⟨h.1,rightL_takes r i h.2⟩
def LyRel (w:World) (gy mv:Nat) (l:List Nat) (es:List (Ky × Ex)) (L:List Sp) (ts:List PT) (v:Value) (wr:World):Prop:=
 ∃ i:Nat,v = .int .i64 (i:Int)/\i <= ts.length/\StL w gy mv l es (L ++ layL (ts.take i) L.length) wr
theorem lay_part_of (t:PT) (hok:∀ t1 ∈ t.l,LayOk t1) (hch:t.k=3->ChoiceOk t.l):LayOk t:=by
 intro w gy mv l es L b o hst hm hcov hc hp hr hcnt hL
 have hy:w.cell? ⟨gy,0,none⟩=some (.map (some mv)):=by
  obtain ⟨A,cap,-, hb,-⟩:=hst;exact hb.cell_ (i:=0) rfl
 have hempty:=empty_any hy hm hcov hc hp hr hcnt;have hlen:=layP_len t L.length hr;obtain ⟨R,hR⟩:∃ R,R=L ++ layP t L.length:=⟨_,rfl⟩;rw [<-hR];obtain ⟨E,hE⟩:∃ E,E=(sizP t == 0):=⟨_,rfl⟩;rw [<-hE] at hempty;obtain ⟨T,hT⟩:∃ T,T=t:=⟨_,rfl⟩;have HEM:=zh hempty;have HR:=zh hR;have HE:=zh hE;have HST:=zh hst;have HM:=zh hm;have HCOV:=zh hcov;have HC:=zh hc;have HP:=zh hp;have HRT:=zh hr;have HOK:=zh hok;have HCH:=zh hch;have HLEN:=zh hlen;have HL:=zh hL;have HCNT:=zh hcnt;clear hempty hR hE hst hm hcov hc hp hr hok hch hlen hy hL hcnt hT;go_enter func58,ntmps58
 go_wp2_with fail
 go_at_call 72
 refine HEM.out.mono ?_;rintro e w1 ⟨rfl,q,rfl⟩;have hf0:Fr [] w (w.drewN q):=(Fr.refl [] w).drewN q;have HF0:=zh hf0;clear hf0
 cases E with
 | true=>
  go_wp2_with fail
  go_end0
  have h0:sizP t=0:=by have h:=HE.out;simpa using h.symm
  have h1:layP t L.length=[]:=List.eq_nil_of_length_eq_zero (by rw [HLEN.out,h0]);exact ⟨rfl,by rw [HR.out,h1,List.append_nil];exact LayOut.refl HST.out HF0.out⟩
 | false=>
  obtain ⟨wq,hwq⟩:∃ wq,wq=w.drewN q:=⟨_,rfl⟩;rw [<-hwq];have HFQ:Hid (Fr [] w wq):=zh (by rw [hwq];exact HF0.out);clear hwq;have hcq:=HC.out.keep (KeepT.of_nil HFQ.out);have c0:wq.cell? ⟨b,o,none⟩=some (.int .i64 t.k):=hcq.cell (j:=0) rfl;have c1:=hcq.cell (j:=1) rfl;have c2:=hcq.cell (j:=2) rfl;have c3:=hcq.cell (j:=3) rfl;have c4:=hcq.cell (j:=4) rfl;have c7:=hcq.cell (j:=7) rfl;have HSTQ:=zh (HST.out.fr_nil HFQ.out);have hLl:L.length <= 100000:=by have:=HL.out;omega
  have hst0:StL w gy mv l es L wq:=(StL.start HST.out HM.out).nil_ HFQ.out;have HST0:=zh hst0;obtain ⟨n,hn⟩:∃ n,n=t.l.length:=⟨_,rfl⟩;have e7:t.cells[7]?=some (.slice t.A n t.c):=by rw [hn];rfl
  have c7':wq.cell? ⟨b,o+7,none⟩=some (.slice t.A n t.c):=hcq.cell e7;have c7r:∀ W,KeepT w W->W.cell? ⟨b,o+7,none⟩=some (.slice t.A n t.c):=fun W hW=>(HC.out.keep hW).cell e7;have hrk:=HRT.out;rw [rightP_eq,Bool.and_eq_true] at hrk;obtain ⟨hrk1,hrk2⟩:=hrk;have HRK1:=zh hrk1;have HRK2:=zh hrk2;have HN:=zh hn;have HC7R:=zh c7r;have hnb:n <= 1199:=by have h1:=cntL_len t.l;have h2:=HCNT.out;rw [cntP_eq] at h2;omega
  clear hcq hst0 c7 e7 c7r hrk1 hrk2 hn;obtain ⟨k,hk⟩:∃ k,k=t.k:=⟨_,rfl⟩;rw [<-hk] at c0;have HK:=zh hk;clear hk;by_cases hk1:k=1
  ·subst hk1;go_wp2_with fail
   go_at_call 73
   refine (one_any HSTQ.out hLl _ _ _ _ _).mono ?_;rintro e w2 ⟨rfl,hout⟩
   have h1:layP t L.length=[⟨0,t.s0,t.s1,t.s2,t.s3,(L.length:Int)+1,0⟩]:=by
    have h:=HK.out;obtain ⟨k,s0,s1,s2,s3,mn,mx,A,c,tl⟩:=t;simp only [PT.k] at h;subst h;simp [layP,PT.s0,PT.s1,PT.s2,PT.s3]
   rw [<-h1,<-HR.out] at hout;have HO:=zh (StL.step HST0.out HSTQ.out HFQ.out.nil_ (fun b hb => .inl hb) hout).1;clear hout h1;go_wp2_with fail
   go_end0
   exact ⟨rfl,HO.out⟩
  by_cases hk5:k=5
  ·subst hk5;go_wp2_with fail
   go_at_call 73
   refine (one_any HSTQ.out hLl _ _ _ _ _).mono ?_;rintro e w2 ⟨rfl,hout⟩
   have h1:layP t L.length=[⟨2,0,0,0,0,(L.length:Int)+1,0⟩]:=by
    have h:=HK.out;obtain ⟨k,s0,s1,s2,s3,mn,mx,A,c,tl⟩:=t;simp only [PT.k] at h;subst h;simp [layP]
   rw [<-h1,<-HR.out] at hout;have HO:=zh (StL.step HST0.out HSTQ.out HFQ.out.nil_ (fun b hb => .inl hb) hout).1;clear hout h1;go_wp2_with fail
   go_end0
   exact ⟨rfl,HO.out⟩
  by_cases hk6:k=6
  ·subst hk6;go_wp2_with fail
   go_at_call 73
   refine (one_any HSTQ.out hLl _ _ _ _ _).mono ?_;rintro e w2 ⟨rfl,hout⟩
   have h1:layP t L.length=[⟨3,0,0,0,0,(L.length:Int)+1,0⟩]:=by
    have h:=HK.out;obtain ⟨k,s0,s1,s2,s3,mn,mx,A,c,tl⟩:=t;simp only [PT.k] at h;subst h;simp [layP]
   rw [<-h1,<-HR.out] at hout;have HO:=zh (StL.step HST0.out HSTQ.out HFQ.out.nil_ (fun b hb => .inl hb) hout).1;clear hout h1;go_wp2_with fail
   go_end0
   exact ⟨rfl,HO.out⟩
  by_cases hk2:k=2
  ·subst hk2
   have hR2:R=L ++ layL t.l L.length:=by
    rw [HR.out]
    congr 1
    have h:=HK.out;obtain ⟨k,s0,s1,s2,s3,mn,mx,A,c,tl⟩:=t;simp only [PT.k] at h;subst h;simp [layP,PT.l]
   have hsz2:sizP t=sizL t.l:=by rw [sizP_eq,<-HK.out];rfl
   have hri:rightL t.l=true:=by have h:=HRK2.out;rw [<-HK.out] at h;exact h
   have hcl:CovL es t.l:=by have h:=HCOV.out;rw [CovP_eq,<-HK.out] at h;exact (h rfl).2
   have hpm:LMem w t.A t.l 0:=by have h:=HP.out;rwa [PMem_eq] at h
   have HR2:=zh hR2;have HSZ2:=zh hsz2;have HRI:=zh hri;have HCL:=zh hcl;have HPM:=zh hpm;have HST00:Hid (StL w gy mv l es (L ++ layL (t.l.take 0) L.length) wq):=zh (by have h:=HST0.out;simp [layL];exact h);clear hR2 hsz2 hri hcl hpm c1 c2 c3 c4;go_wp2_with fail
   clear c0 c7'
   go_loopw [37] (fun v wr=>LyRel w gy mv l es L t.l v wr) (fun v _=>n - (intOf v).toNat)
   case atStart=>exact ⟨0,rfl,by omega,HST00.out⟩
   case round=>
    unfold LyRel at hrel;obtain ⟨i,rfl,hi,hst⟩:=hrel;rw [<-HN.out] at hi;have c7:=HC7R.out _ hst.2.2;have HSTR:=zh hst;clear hst;by_cases hlt:i < n
    ·obtain ⟨t1,ht⟩:∃ t1,t.l[i]?=some t1:=⟨_,List.getElem?_eq_getElem (by rw [<-HN.out];exact hlt)⟩;have htm:t1 ∈ t.l:=List.mem_of_getElem? ht;obtain ⟨⟨kb,ko,hA,hc1⟩,hp1⟩:=HPM.out.get ht;rw [Nat.zero_add] at hc1;rw [hA] at c7;have hcn1:cntP t1 <= 1199:=by have h1:=cntL_mem htm;have h2:=HCNT.out;rw [cntP_eq] at h2;omega
     have hll:(L ++ layL (t.l.take i) L.length).length=L.length+sizL (t.l.take i):=by rw [List.length_append,layL_len _ _ (rightL_takes _ _ HRI.out)]
     have hsl:L.length+sizL (t.l.take i)+sizP t1 <= 5000:=by
      have h1:=sizL_take_le t.l (i+1);rw [sizL_take ht] at h1;have h2:=HL.out;rw [HSZ2.out] at h2;omega
     have HT:=zh ht;have HC1:=zh hc1;have HP1:=zh hp1;have HA:=zh hA;have HLL:=zh hll;clear ht hc1 hp1 hA hll;go_wp2_with fail
     go_at_call 58
     refine ((HOK.out t1 htm).st HSTR.out (HCL.out.get t1 htm) HC1.out HP1.out (rightL_get htm HRI.out) hcn1 (by rw [HLL.out];exact hsl)).mono ?_;rintro e w2 ⟨rfl,hst2,-⟩
     have e2:L ++ layL (t.l.take i) L.length ++ layP t1 (L ++ layL (t.l.take i) L.length).length=L ++ layL (t.l.take (i+1)) L.length:=by
      rw [HLL.out,List.take_add_one,HT.out,Option.toList_some,layL_append,layL_one,List.append_assoc]
     rw [e2] at hst2;have HST2:=zh hst2;clear hst2 e2 c7;go_wp2_with fail
     go_roundw
     case rel=>exact ⟨i+1,by go_num,by rw [<-HN.out];omega,HST2.out⟩
     case measure=>simp [intOf] <;> omega
    obtain rfl:n=i:=by omega
    have h6:=HSTR.out.1;have h7:t.l.take n=t.l:=by rw [HN.out];exact List.take_length
    rw [h7,<-HR2.out] at h6;have H6:=zh h6;clear h6 h7;go_wp2_with fail
    go_end0
    exact ⟨rfl,H6.out⟩
  by_cases hk3:k=3
  ·subst hk3
   have hR3:R=L ++ layO t.l L.length (L.length+(sizL t.l+2 * (t.l.length - 1))):=by
    rw [HR.out]
    congr 1
    have h:=HK.out;obtain ⟨k,s0,s1,s2,s3,mn,mx,A,c,tl⟩:=t;simp only [PT.k] at h;subst h;simp [layP,PT.l]
   have hsz3:sizP t=sizL t.l+2 * (t.l.length - 1):=by rw [sizP_eq,<-HK.out];rfl
   have hri:rightL t.l=true:=by have h:=HRK2.out;rw [<-HK.out] at h;exact h
   have hcl:CovL es t.l:=by have h:=HCOV.out;rw [CovP_eq,<-HK.out] at h;exact (h rfl).2
   have hpm:LMem w t.A t.l 0:=by have h:=HP.out;rwa [PMem_eq] at h
   have h0:0 < t.l.length:=by have h:=HRK1.out;rw [<-HK.out] at h;simpa [rightK] using h
   have hchoice:=HCH.out HK.out.symm wq gy mv l es L t.A t.c HSTQ.out HST0.out.2.1 hcl (hpm.keep HST0.out.2.2) hri h0 (by have h2:=HCNT.out;rw [cntP_eq] at h2;omega) (by have h:=HL.out;rw [hsz3] at h;exact h);rw [<-hR3,<-HN.out] at hchoice;have HCHO:=zh hchoice;clear hR3 hsz3 hri hcl hpm h0 hchoice c1 c2 c3 c4;go_wp2_with fail
   go_at_call 74
   refine HCHO.out.mono ?_;rintro e w2 ⟨rfl,hout⟩;have HO:=zh (StL.step HST0.out HSTQ.out HFQ.out.nil_ (fun b hb => .inl hb) hout).1;clear hout;go_wp2_with fail
   go_end0
   exact ⟨rfl,HO.out⟩
  by_cases hk4:k=4
  ·subst hk4
   obtain ⟨t1,ht1⟩:∃ t1,t.l=[t1]:=by
    have h:=HRK1.out;rw [<-HK.out] at h;have h1:t.l.length=1:=by simp [rightK] at h;exact h.1
    match hl:t.l,h1 with
    | [x],_=>exact ⟨x,rfl⟩
   have hrep:=repeat_any (HOK.out t1 (by rw [ht1];simp)) HK.out.symm ht1 HSTQ.out HST0.out.2.1 HCOV.out (HC.out.keep HST0.out.2.2) (HP.out.keep HST0.out.2.2) HRT.out HCNT.out HL.out;rw [<-HR.out] at hrep;have HREP:=zh hrep;have HT1:=zh ht1;clear hrep ht1 c1 c2 c3 c4;go_wp2_with fail
   go_at_call 75
   refine HREP.out.mono ?_;rintro e w2 ⟨rfl,hout⟩;have HO:=zh (StL.step HST0.out HSTQ.out HFQ.out.nil_ (fun b hb => .inl hb) hout).1;clear hout;go_wp2_with fail
   go_end0
   exact ⟨rfl,HO.out⟩
  exfalso
  have h0:sizP t=0:=by rw [sizP_eq,<-HK.out];simp [hk1,hk2,hk3,hk4,hk5,hk6]
  have h1:=HE.out;rw [h0] at h1
  cases h1
end Go.Proofs.YtfofechcccodeaaGreatDoor
namespace Go.Proofs.YtfofechcccodeaaGreatDoor
open Go.RowKit Go.ChangeMaps Go.Proofs.Tryz
set_option linter.unusedVariables false
set_option linter.unusedSimpArgs false
set_option maxRecDepth 100000
set_option maxHeartbeats 4000000
theorem own_rebase {w:World} {base base' n sz:Nat} {v:Value} {e:TypeId} {xs:List Value} (h:w.ownsRow base e sz v n xs) (hb:∀ g,v.ownBlock=some g->base' <= g):w.ownsRow base' e sz v n xs:=by
 obtain ⟨h1,h2 | ⟨g,cap,cur,h2,h0,h3⟩⟩:=h
 ·exact ⟨h1,.inl h2⟩
 exact ⟨h1,.inr ⟨g,cap,cur,h2,hb g (by rw [h2];rfl),h3⟩⟩
def StepsNew (w:World) (L:List Sp) (v:Value) (w':World):Prop:=∃ A cap,v = .slice A L.length cap/\w'.ownsRow w.heap.size 142 7 v L.length (L.flatMap Sp.cells)
def Sp.found:Sp:=⟨4,0,0,0,0,0,0⟩
def CompPost (w:World) (t:PT) (e:Ending) (w':World):Prop:=
 Fr [] w w'/\(rightP t=false/\e = .returned (.tuple #[.slice none 0 0,.iface 55 (.int .i64 4)]) ∨
  rightP t=true/\4000 <= sizP t/\e = .returned (.tuple #[.slice none 0 0,.iface 55 (.int .i64 5)]) ∨
  rightP t=true/\sizP t < 4000/\∃ v,e = .returned (.tuple #[v,.nilIface])/\StepsNew w (layP t 0 ++ [Sp.found]) v w')
theorem compile_any {w:World} {t:PT} (hlay:LayOk t) (hp:PMem w t) (hcnt:cntP t <= 1199) :
    Calls prog 40 #[t.val] w (CompPost w t):=by
 obtain ⟨wb,hwb⟩:∃ wb,wb=w.alloc (.cells #[.int .i64 t.k,.int .u64 t.s0,.int .u64 t.s1,.int .u64 t.s2,.int .u64 t.s3,.int .i64 t.mn,.int .i64 t.mx,.slice t.A t.l.length t.c] 89):=⟨_,rfl⟩;have hbk:Bk wb w.heap.size 89 #[.int .i64 t.k,.int .u64 t.s0,.int .u64 t.s1,.int .u64 t.s2,.int .u64 t.s3,.int .i64 t.mn,.int .i64 t.mx,.slice t.A t.l.length t.c]:=by rw [hwb];exact Bk.new w _ _
 have hfb:Fr [] w wb:=by rw [hwb];exact (Fr.refl [] w).alloc _
 have hcells:CellsAt wb w.heap.size 0 t.cells:=⟨_,hbk,fun j u hu=>by rw [Nat.zero_add];simpa [PT.cells] using hu⟩;have hpb:=hp.keep (KeepT.of_nil hfb);have hmeas:=measure_any hcells hpb hcnt;obtain ⟨b,hbe⟩:∃ b,b=w.heap.size:=⟨_,rfl⟩;have HLAY:=zh hlay;have HPB:=zh hpb;have HFB:=zh hfb;have HCE:=zh hcells;have HME:=zh hmeas;have HWB:=zh hwb;have HBE:=zh hbe;clear hlay hp hwb hbk hfb hcells hpb hmeas hbe;unfold PT.val;obtain ⟨n,hn⟩:∃ n,n=t.l.length:=⟨_,rfl⟩;have HN:=zh hn;rw [<-hn];rw [<-hn] at HWB;clear hn;go_enter func40,ntmps40
 go_wp2_with fail
 go_at_call 57
 rw [<-HWB.out,<-HBE.out];rw [<-HBE.out] at HME;refine HME.out.mono ?_;rintro e w1 ⟨hf,h⟩;have HF:=zh (HFB.out.trans hf);have HFBW:=zh hf;clear hf;rcases h with ⟨hr,rfl⟩ | ⟨hr,hs,rfl⟩ | ⟨hr,hs,mv,es,rfl,hm,hcov,hmv⟩
 ·have HR:=zh hr;clear hr;go_wp2_with fail
  go_ret2
  exact ⟨HF.out,.inl ⟨HR.out,rfl⟩⟩
 ·have HR:=zh hr;clear hr;go_wp2_with fail
  go_ret2
  exact ⟨HF.out,.inr (.inl ⟨HR.out,hs,rfl⟩)⟩
 obtain ⟨z,hz⟩:∃ z,z=sizP t:=⟨_,rfl⟩;rw [<-hz] at hs ⊢; obtain ⟨i0,hi0,hz0,hz1,hz2⟩:=stepParts;have HR:=zh hr;have HM:=zh hm;have HCOV:=zh hcov;have HZ:=zh hz;have hcl:=HCE.out;clear hr hm hcov hz;clear hcl;go_upto_region 5 with (refine wpList_make_own _ rfl _ _ 92 rfl 0 142 i0 _ 7 underlying92 hi0 hz0 hz1 .i64 .i64 _ (z+1) rfl rfl (by first | rfl | simp [Act.eval]) (by rw [hz2];omega) (by unfold maxLen;omega) (Nat.zero_le _) ?_;intro w3 hown3 hgr3;have hf3:Fr [] w1 w3:=(Fr.refl [] w1).grown hgr3 (by simp);have HOWN3:=zh hown3;have HF3:=zh hf3;clear hown3 hgr3 hf3)
 obtain ⟨B,hB⟩:∃ B,B=w1.heap.size:=⟨_,rfl⟩;rw [<-hB] at HOWN3 ⊢; have hBw:w.heap.size <= B:=by rw [hB];exact HF.out.size
 obtain ⟨w4,hw4⟩:∃ w4,w4=w3.alloc (.cells #[.map (some mv),.slice (some ⟨B,0,none⟩) 0 (z+1)] 139):=⟨_,rfl⟩;have hg4:Bk w4 w3.heap.size 139 #[.map (some mv),.slice (some ⟨B,0,none⟩) 0 (z+1)]:=by rw [hw4];exact Bk.new w3 _ _
 have hf4:Fr [] w1 w4:=by rw [hw4];exact HF3.out.alloc _
 have hr4:w4.ownsRow 0 142 7 (.slice (some ⟨B,0,none⟩) 0 (z+1)) 0 []:=by rw [hw4];exact own_fr HOWN3.out ((Fr.refl [] w3).alloc _) (by simp)
 rw [<-hw4];obtain ⟨gy,hgy⟩:∃ gy,gy=w3.heap.size:=⟨_,rfl⟩;have hgw:w.heap.size <= gy:=by rw [hgy];exact Nat.le_trans HF.out.size HF3.out.size
 rw [<-hgy] at hg4 ⊢; have hlay4:LaySt w4 gy mv [gy,B] []:=⟨some ⟨B,0,none⟩,z+1,rfl,hg4,hr4⟩;have hw14:Fr [] w w4:=HF.out.trans hf4;have hb4:Fr [] wb w4:=HFBW.out.trans hf4;have hk4:KeepT wb w4:=KeepT.of_nil hb4;have hcall:=HLAY.out w4 gy mv [gy,B] es [] b 0 hlay4 (HM.out.nil_ hf4) HCOV.out (by rw [HBE.out];exact HCE.out.keep hk4) (HPB.out.keep hk4) HR.out hcnt (by rw [<-HZ.out];simp;omega);have HCALL:=zh hcall;have HLAY4:=zh hlay4;have HW14:=zh hw14;have HHM:=zh (HM.out.nil_ hf4);clear hB hw4 hg4 hf4 hr4 hgy hlay4 hw14 hb4 hk4 hcall;go_wp2_with fail
 go_at_call 58
 refine HCALL.out.mono ?_;rintro e w5 ⟨rfl,hout⟩;rw [List.nil_append] at hout;obtain ⟨l5,⟨A5,cap5,rfl,hg5,hr5⟩,hf5,hl5⟩:=hout;obtain ⟨L5,hL5⟩:∃ L5,L5=layP t ([]:List Sp).length:=⟨_,rfl⟩;rw [<-hL5] at hg5 hr5 hl5;have hln5:L5.length=z:=by rw [hL5,layP_len t _ HR.out,<-HZ.out]
 have hfw5:Fr [] w w5:=HW14.out.trans' hf5 (by simp;omega)
 have hblk:∀ b,(Value.slice A5 L5.length cap5).ownBlock=some b->w.heap.size <= b:=fun b hb=>by
  rcases hl5 b (by simp [hb]) with h | h
  ·simp at h;omega
  exact Nat.le_trans HW14.out.size h
 rw [hln5] at hg5 hr5 hblk;have x1:=hg5.cell_ (i:=1) rfl;have hown5:∀ O,(w5.alloc O).ownsRow 0 142 7 (.slice A5 z cap5) z (L5.flatMap Sp.cells):=fun O=>own_fr hr5 ((Fr.refl [] w5).alloc O) (by simp);have HOWN5:=zh hown5;have HBLK:=zh hblk;have HFW5:=zh hfw5;have HL5:=zh hL5;have HLN5:=zh hln5;clear hg5 hr5 hf5 hl5 hL5 hln5 hfw5 hblk hown5;go_wp2_with (at_builtin;refine wpList_append_R rfl (.tmp 26) (.tmp 28) 92 rfl 0 142 i0 _ 7 56 underlying92 hi0 hz0 hz1 hz2 rfl (by omega) (.slice A5 z cap5) z _ (by first | rfl | simp [Act.eval]) (HOWN5.out _) ⟨w5.heap.size,0,none⟩ 1 1 [.int .i64 4,.int .u64 0,.int .u64 0,.int .u64 0,.int .u64 0,.int .i64 0,.int .i64 0] (by first | rfl | simp [Act.eval]) rfl (seven_new w5 142 _ _ _ _ _ _ _) (by simp [Value.oneCell']) (by unfold maxLen;omega) (by omega) (Nat.zero_le _) ?_;intro v' w6 hown6 hgr6 hat6;have HOWN6:=zh hown6;have HGR6:=zh hgr6;have HAT6:=zh hat6;clear hown6 hgr6 hat6)
 go_ret2
 have hlen:(layP t 0 ++ [Sp.found]).length=z+1:=by rw [List.length_append,layP_len t 0 HR.out,<-HZ.out];rfl
 have hL5':L5=layP t 0:=HL5.out;have hown:=HOWN6.out;have e1:L5.flatMap Sp.cells ++ [.int .i64 4,.int .u64 0,.int .u64 0,.int .u64 0,.int .u64 0,.int .i64 0,.int .i64 0]=(layP t 0 ++ [Sp.found]).flatMap Sp.cells:=by rw [hL5'];simp [Sp.cells,Sp.found]
 rw [e1] at hown;have hsz6:=HFW5.out.size
 have hblk6:∀ g,v'.ownBlock=some g->w.heap.size <= g:=fun g hg=>by
  rcases HAT6.out with h | h
  ·exact HBLK.out g (by rw [<-h];exact hg)
  rw [hg] at h;simp at h;omega
 refine ⟨(HFW5.out.alloc _).grown HGR6.out (fun g hg => .inr (HBLK.out g hg)),.inr (.inr ⟨HR.out,by rw [<-HZ.out];exact hs,v',rfl,?_⟩)⟩;obtain ⟨A',c',hv⟩:=own_form hown (by omega);refine ⟨A',c',by rw [hlen];exact hv,?_⟩;rw [hlen];exact own_rebase hown hblk6
end Go.Proofs.YtfofechcccodeaaGreatDoor
