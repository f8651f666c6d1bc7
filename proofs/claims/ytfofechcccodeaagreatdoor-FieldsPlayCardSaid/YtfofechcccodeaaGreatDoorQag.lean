/-
  Small texts in one (Mt). No conditions.
-/
import Derived.Test.YtfofechcccodeaaGreatDoorQae
import Derived.StillTailTactics
import Derived.Outline
import Derived.Deep.Cut
import Derived.Test.YtfofechcccodeaaGreatDoorQaf
namespace Go.Proofs.YtfofechcccodeaaGreatDoor
open Go.RowKit Go.ChangeMaps Go.Proofs.Tryz
set_option linter.unusedVariables false
set_option linter.unusedSimpArgs false
set_option maxRecDepth 100000
set_option maxHeartbeats 4000000
def exP (t:PT):Ex:=(min 4001 (sizP t),depP t)
def MsPost (w:World) (mv:Nat) (es:List (Ky × Ex)) (ok:Bool) (x:Ex) (C:List (Ky × Ex)->Prop) (e:Ending) (w':World):Prop:=
 (ok=true/\e = .returned (.tuple #[exV x,.nilIface]) ∨ ok=false/\e = .returned (.tuple #[exV (0,0),.iface 55 (.int .i64 4)])) /\
 Fr [mv] w w'/\∃ es',Ext es es'/\MInv w' mv es'/\(ok=true->C es')
def PartOk (t:PT):Prop:=∀ (w:World) (mv:Nat) (es:List (Ky × Ex)) (b o d:Nat) (D:Int),D=(d:Int)->CellsAt w b o t.cells->PMem w t->MInv w mv es->1 <= d->d+cntP t <= 1200 ->
 Calls prog 71 #[.map (some mv),.pointer (some ⟨b,o,none⟩),.int .i64 D] w (MsPost w mv es (rightP t) (exP t) (fun es'=>CovP es' t))
def ListOk (l:List PT):Prop:=∀ (w:World) (mv:Nat) (es:List (Ky × Ex)) (A:Option Addr) (c d:Nat) (D:Int),D=(d:Int)->LMem w A l 0->MInv w mv es->1 <= d->d+cntL l <= 1200 ->
 Calls prog 86 #[.map (some mv),.slice A l.length c,.int .i64 D] w (MsPost w mv es (rightL l) (exL l) (fun es'=>InM es' A l/\CovL es' l))
theorem part_of_list (t:PT) (hl:ListOk t.l):PartOk t:=by
 intro w mv es b o d D hD hc hp hm hd hcnt;obtain rfl:=hD;have hdI:(d:Int) <= 1200:=by omega
 have hdN:d <= 1200:=by omega
 have hdD:decide ((1200:Int) < (d:Int))=false:=decide_eq_false (by omega);have hca:∀ O,CellsAt (w.alloc O) b o t.cells:=fun O=>hc.keep (KeepT.of_nil ((Fr.refl [] w).alloc O));have c0:∀ O,(w.alloc O).cell? ⟨b,o,none⟩=some (.int .i64 t.k):=fun O=>(hca O).cell (j:=0) rfl;have c5:=fun O=>(hca O).cell (j:=5) rfl;have c6':=fun O=>(hca O).cell (j:=6) rfl;have c7:=fun O=>(hca O).cell (j:=7) rfl;clear hca;have hcv:=CovP_eq es t;have hr:=rightP_eq t;have hx:exP t=(min 4001 (sizP t),depP t):=rfl;rw [depP_eq] at hx;have hsz':=sizP_eq t;rw [cntP_eq] at hcnt;rw [PMem_eq] at hp;have hle:=cntL_len t.l;obtain ⟨rt,hrt⟩:∃ rt,rt=rightP t:=⟨_,rfl⟩;obtain ⟨xt,hxt⟩:∃ xt,xt=exP t:=⟨_,rfl⟩;obtain ⟨T,hT⟩:∃ T,T=t:=⟨_,rfl⟩;have HTC:=zh hc;rw [<-hrt,<-hxt,<-hT];rw [<-hrt] at hr;rw [<-hxt] at hx;have HTT:=zh hT;clear hT hrt hxt;obtain ⟨k,s0,s1,s2,s3,mn,mx,A,c,l⟩:=t;simp only [PT.k,PT.mn,PT.mx,PT.A,PT.c,PT.l] at *; have HX:=zh hx;have HM:=zh hm;have HPM:=zh hp;have HC:=zh hc;have HCV:=zh hcv;have HL:=zh hl;have HSZ:=zh hsz';clear hx hm hp hc hcv hl hsz';by_cases hk0:k=0
 ·subst hk0;have hx:xt=(0,1):=by have h1:=HX.out;have h2:=HSZ.out;rw [h2] at h1;simpa [inner] using h1
  have hcv:CovP es T:=by rw [HTT.out,HCV.out];simp [inner]
  have hr2:rt=true:=by rw [hr];simp [rightK,inner]
  clear hr;have HX:=zh hx;have HC0:=zh hcv;have HR:=zh hr2;clear hx hcv hr2;go_enter func71,ntmps71
  go_wp2_with fail
  refine bodyPost_ret (v := .tuple #[exV (0,1),.nilIface]) (by simp [results,results71,go_sem,exV]) rfl ?_;exact ⟨.inl ⟨HR.out,by rw [HX.out]⟩,(Fr.refl _ _).alloc _,es,Ext.refl es,HM.out.nil_ ((Fr.refl [] w).alloc _),fun _=>HC0.out⟩
 by_cases hk1:k=1
 ·subst hk1;have hx:xt=(1,1):=by have h1:=HX.out;have h2:=HSZ.out;rw [h2] at h1;simpa [inner] using h1
  have hcv:CovP es T:=by rw [HTT.out,HCV.out];simp [inner]
  have hr2:rt=true:=by rw [hr];simp [rightK,inner]
  clear hr;have HX:=zh hx;have HC0:=zh hcv;have HR:=zh hr2;clear hx hcv hr2;go_enter func71,ntmps71
  go_wp2_with fail
  refine bodyPost_ret (v := .tuple #[exV (1,1),.nilIface]) (by simp [results,results71,go_sem,exV]) rfl ?_;exact ⟨.inl ⟨HR.out,by rw [HX.out]⟩,(Fr.refl _ _).alloc _,es,Ext.refl es,HM.out.nil_ ((Fr.refl [] w).alloc _),fun _=>HC0.out⟩
 by_cases hk5:k=5
 ·subst hk5;have hx:xt=(1,1):=by have h1:=HX.out;have h2:=HSZ.out;rw [h2] at h1;simpa [inner] using h1
  have hcv:CovP es T:=by rw [HTT.out,HCV.out];simp [inner]
  have hr2:rt=true:=by rw [hr];simp [rightK,inner]
  clear hr;have HX:=zh hx;have HC0:=zh hcv;have HR:=zh hr2;clear hx hcv hr2;go_enter func71,ntmps71
  go_wp2_with fail
  refine bodyPost_ret (v := .tuple #[exV (1,1),.nilIface]) (by simp [results,results71,go_sem,exV]) rfl ?_;exact ⟨.inl ⟨HR.out,by rw [HX.out]⟩,(Fr.refl _ _).alloc _,es,Ext.refl es,HM.out.nil_ ((Fr.refl [] w).alloc _),fun _=>HC0.out⟩
 by_cases hk6:k=6
 ·subst hk6;have hx:xt=(1,1):=by have h1:=HX.out;have h2:=HSZ.out;rw [h2] at h1;simpa [inner] using h1
  have hcv:CovP es T:=by rw [HTT.out,HCV.out];simp [inner]
  have hr2:rt=true:=by rw [hr];simp [rightK,inner]
  clear hr;have HX:=zh hx;have HC0:=zh hcv;have HR:=zh hr2;clear hx hcv hr2;go_enter func71,ntmps71
  go_wp2_with fail
  refine bodyPost_ret (v := .tuple #[exV (1,1),.nilIface]) (by simp [results,results71,go_sem,exV]) rfl ?_;exact ⟨.inl ⟨HR.out,by rw [HX.out]⟩,(Fr.refl _ _).alloc _,es,Ext.refl es,HM.out.nil_ ((Fr.refl [] w).alloc _),fun _=>HC0.out⟩
 by_cases hk2:k=2
 ·subst hk2;have hrk:rightK 2 mn mx l.length=true:=by simp [rightK]
  have hr2:rt=rightL l:=by rw [hr];simp [inner,hrk]
  clear hr;have HR:=zh hr2;clear hr2;have HRK:=zh hrk;clear hrk;go_enter func71,ntmps71
  go_wp2_with fail
  go_at_call 86
  refine (HL.out _ mv es A c (d+1) ((d:Int)+1) (by simp) (HPM.out.keep (KeepT.of_nil ((Fr.refl [] w).alloc _))) (HM.out.nil_ ((Fr.refl [] w).alloc _)) (by omega) (by omega)).mono ?_;rintro e w1 ⟨h,hf,es1,he,hm1,hc1'⟩;have hbk:Bk w1 w.heap.size 172 #[.int .i64 0,.int .i64 0]:=(Bk.new w _ _).fr hf (by simp;have:=HM.out.1.lt;omega);have hsz:=hbk.lt;have hc1:=HTC.out.keep ((KeepT.of_nil ((Fr.refl [] w).alloc _)).trans ((HM.out.nil_ ((Fr.refl [] w).alloc _)).keepT hf));have HF:=zh hf;have HE:=zh he;have HM1:=zh hm1;have HC1:=zh hc1';have HBK:=zh hbk;have HTC1:=zh hc1;clear hf he hm1 hc1 hc1' hbk c0 c5 c6' c7;rcases h with ⟨hrl,rfl⟩ | ⟨hrl,rfl⟩
  ·have HRL:=zh hrl;clear hrl;obtain ⟨x1,hx1⟩:∃ x1,x1=min 4001 (sizL l):=⟨_,rfl⟩;obtain ⟨x2,hx2⟩:∃ x2,x2=depL l:=⟨_,rfl⟩;have hex:exV (exL l) = .agg #[.int .i64 (x1:Int),.int .i64 (x2:Int)]:=by rw [hx1,hx2];rfl
   rw [hex];have hx2':x2 <= 1200:=by have:=depL_le l;omega
   have hx1':x1 <= 4001:=by omega
   have HX1:=zh hx1;have HX2:=zh hx2;clear hx1 hx2 hex;go_upto_region 21 with fail
   obtain ⟨wq,hwq⟩:∃ wq,wq=w1.alloc (.cells #[.int .i64 x1,.int .i64 x2] 172):=⟨_,rfl⟩;have hq1:Bk wq w1.heap.size 172 #[.int .i64 x1,.int .i64 x2]:=by rw [hwq];exact Bk.new w1 _ _
   have hq2:Bk wq w.heap.size 172 #[.int .i64 0,.int .i64 0]:=by rw [hwq];exact HBK.out.alloc _
   have hq3:CellsAt wq b o T.cells:=by rw [hwq,HTT.out];exact HTC1.out.keep (KeepT.of_nil ((Fr.refl [] w1).alloc _))
   have hfq:Fr [] w1 wq:=by rw [hwq];exact (Fr.refl [] w1).alloc _
   rw [<-hwq]
   have hsize:∀ W:World,CellsAt W b o T.cells->Calls prog 87 #[.pointer (some ⟨b,o,none⟩),.int .i64 (x1:Int)] W fun e w'=>e = .returned (.int .i64 (sizN T x1))/\∃ q,w'=W.drewN q:=fun W hW=>
    size_any hW (by rw [HTT.out];rfl) (by rw [HTT.out];exact HRK.out) (by rw [HTT.out];exact (by omega:l.length <= 1200)) hx1'
   obtain ⟨sn,hsn⟩:∃ sn,sn=sizN T x1:=⟨_,rfl⟩;rw [<-hsn] at hsize;have d0:=hq1.cell_ (i:=0) rfl;have d1:=hq1.cell_ (i:=1) rfl;have HWQ:=zh hwq;have HQ2:=zh hq2;have HQ3:=zh hq3;have HFQ:=zh hfq;have HSN:=zh hsn;have HSIZE:=zh hsize;have HQ1:=zh hq1;clear hwq hq2 hq3 hfq hsn hsize hq1;have e1:IntKind.i64.wrap ((x2:Int)+1)=(x2:Int)+1:=IntWalk.i64_in _ (by omega);refine wp_region_F_ (G:=fun a b=>∃ q,b=World.drewN a q) (F:=fun i=>i == 8 || i == 9) (S:=fun W=>∃ q,W=World.drewN wq q) ⟨fun _=>⟨0,rfl⟩,fun a b c ⟨q,h⟩ ⟨p,k⟩=>⟨q+p,by rw [k,h,World.drewN_drewN]⟩,fun a b ⟨q,h⟩ ⟨p,k⟩=>⟨q+p,by rw [k,h,World.drewN_drewN]⟩,by kernel_rfl,fun _ _ d _ _ h=>by cases d <;> exact h⟩ (by kernel_rfl) fun su=>?_
   have SU:=zh su;have HS:Hid (∃ q,wq.drew=World.drewN wq q):=zh ⟨1,rfl⟩;clear su;refine F_m 0 SU.out HS.out ?_;simp only [PE];refine F_v 1 ?_ SU.out HS.out (fun W hS=>?_) ?_;rotate_left
   ·obtain ⟨q,rfl⟩:=hS;go_simp;first | done | rfl | omega | (simp <;> omega)
   simp only [PU];refine F_v 2 (.int .i64 (x1:Int)) SU.out HS.out (fun W hS=>?_) ?_
   ·obtain ⟨q,rfl⟩:=hS;go_simp;first | done | rfl | omega | (simp <;> omega)
   simp only [PU];refine F_call (i:=3) (v := .int .i64 (sn:Int)) SU.out rfl (by kernel_rfl) HS.out rfl (fun W hS=>HSIZE.out W (by obtain ⟨q,rfl⟩:=hS;exact HQ3.out.keep (fun _ _ h=>h))) (fun W=>?_) ?_
   ·go_simp;first | done | rfl
   simp only [PU];refine F_v 4 ?_ SU.out HS.out (fun W hS=>?_) ?_;rotate_left
   ·obtain ⟨q,rfl⟩:=hS;go_simp;first | done | rfl | omega | (simp <;> omega)
   simp only [PU];refine F_v 5 (.int .i64 (x2:Int)) SU.out HS.out (fun W hS=>?_) ?_
   ·obtain ⟨q,rfl⟩:=hS;go_simp;first | done | rfl | omega | (simp <;> omega)
   simp only [PU];refine F_v 6 (.int .i64 ((x2:Int)+1)) SU.out HS.out (fun W hS=>?_) ?_
   ·obtain ⟨q,rfl⟩:=hS;go_simp;first | done | rfl | omega | (simp <;> omega)
   simp only [PU];refine F_v 7 (.agg #[.int .i64 (sn:Int),.int .i64 ((x2:Int)+1)]) SU.out HS.out (fun W hS=>?_) ?_
   ·obtain ⟨q,rfl⟩:=hS;go_simp;first | done | rfl | omega | (simp <;> omega)
   simp only [PU];refine wpAnyF_all (rs:=[8]) (by kernel_rfl) (by simp) (fun w' hG=>?_);obtain ⟨q,rfl⟩:=hG;refine allF.head rfl rfl (fun K8 hK8=>?_) allF.nil;obtain ⟨wz,hwz⟩:∃ wz,wz=(wq.drew).drewN q:=⟨_,rfl⟩;rw [<-hwz];have hz:Bk wz w.heap.size 172 #[.int .i64 0,.int .i64 0]:=by rw [hwz];exact HQ2.out
   have hfz:Fr [] wq wz:=by rw [hwz];exact ((Fr.refl [] wq).drew).drewN _
   have HZ:=zh hz;have HFZ:=zh hfz;have c6:=hz.cell_ (i:=0) rfl;have c6b:=hz.cell_ (i:=1) rfl;have f6:=hz.frozen 0;have f6b:=hz.frozen 1;have hzz:=hz.lt;clear hwz hz hfz;go_simp;refine hK8.out _ _ (.inl rfl) ?_;clear hK8 K8;refine wpAnyF_all (rs:=[9]) (by kernel_rfl) (by simp) (fun w' hG=>?_);obtain ⟨q,rfl⟩:=hG;refine allF.head rfl rfl (fun K9 hK9=>?_) allF.nil;go_simp;refine hK9.out _ _ (.inl rfl) ?_;clear hK9 K9;refine wpAnyF_done (by kernel_rfl) (fun w' hG=>?_);obtain ⟨q2,rfl⟩:=hG;go_wp2_with fail
   refine bodyPost_ret (v := .tuple #[.agg #[.int .i64 (sn:Int),.int .i64 ((x2:Int)+1)],.nilIface]) (by simp [results,results71,go_sem,c6,c6b]) rfl ?_;have hmz:MInv wz mv es1:=(HM1.out.nil_ HFQ.out).nil_ HFZ.out;have hset:Fr [w.heap.size] wz ((wz.setCell ⟨w.heap.size,0,none⟩ (.int .i64 (sn:Int))).setCell ⟨w.heap.size,1,none⟩ (.int .i64 ((x2:Int)+1))):=((Fr.refl [w.heap.size] wz).setCell (.inl (by simp)) _).setCell (.inl (by simp)) _;have hme:=hmz.fr_ hset (fun b hb=>by simp at hb;subst hb;exact ⟨hmz.1.ne HZ.out,HZ.out.other_ (by decide)⟩)
   have hxt:xt=(sn,x2+1):=by
    have h1:=sizN_sizP (t:=T) (by rw [HTT.out];rfl) (by rw [HTT.out];exact HRK.out);have h2:T.l=l:=by rw [HTT.out];rfl
    rw [h2,<-HX1.out,<-HSN.out] at h1;rw [HTT.out] at h1;rw [HX.out,<-HX2.out,<-h1];simp [inner]
   refine ⟨.inl ⟨by rw [HR.out];exact HRL.out,by rw [hxt];simp [exV]⟩,?_,es1,HE.out,?_,fun _=>?_⟩
   ·have g1:Fr [mv] w w1:=((Fr.refl [] w).alloc _).nil_.trans HF.out;exact ((((g1.trans HFQ.out.nil_).trans HFZ.out.nil_).trans' hset (by simp)).drewN _).drewN _
   ·exact hme.fr_ (((Fr.refl [] _).drewN _).drewN _) (by simp)
   show CovP es1 T;rw [CovP_eq,HTT.out];exact fun _=>HC1.out HRL.out
  have HRL:=zh hrl;clear hrl;unfold exV;go_upto_region 20 with fail
  obtain ⟨wq,hwq⟩:∃ wq,wq=w1.alloc (.cells #[.int .i64 0,.int .i64 0] 172):=⟨_,rfl⟩;have hq2:Bk wq w.heap.size 172 #[.int .i64 0,.int .i64 0]:=by rw [hwq];exact HBK.out.alloc _
  have hfq:Fr [] w1 wq:=by rw [hwq];exact (Fr.refl [] w1).alloc _
  rw [<-hwq];have c6:=hq2.cell_ (i:=0) rfl;have c6b:=hq2.cell_ (i:=1) rfl;have f6:=hq2.frozen 0;have f6b:=hq2.frozen 1;have HFQ:=zh hfq;have HQ2:=zh hq2;have hzz:=hq2.lt;clear hwq hq2 hfq;go_wp2_with fail
  refine bodyPost_ret (v := .tuple #[exV (0,0),.iface 55 (.int .i64 4)]) (by simp [results,results71,go_sem,exV,c6,c6b]) rfl ?_;refine ⟨.inr ⟨by rw [HR.out];exact HRL.out,rfl⟩,?_,es1,HE.out,?_,fun h=>by rw [HR.out,HRL.out] at h;cases h⟩
  ·have g1:Fr [mv] w w1:=((Fr.refl [] w).alloc _).nil_.trans HF.out;exact (g1.trans HFQ.out.nil_).trans' (((Fr.refl [w.heap.size] wq).setCell (.inl (by simp)) _).setCell (.inl (by simp)) _) (by simp)
  have hmq:=HM1.out.nil_ HFQ.out;exact hmq.fr_ (((Fr.refl [w.heap.size] wq).setCell (.inl (by simp)) _).setCell (.inl (by simp)) _) (fun b hb=>by simp at hb;subst hb;exact ⟨hmq.1.ne HQ2.out,HQ2.out.other_ (by decide)⟩)
 by_cases hk3:k=3
 ·subst hk3;by_cases hl0:l.length=0
  ·have hr2:rt=false:=by rw [hr];simp [rightK,hl0]
   clear hr;have HR:=zh hr2;clear hr2;go_enter func71,ntmps71
   go_wp2_with fail
   refine bodyPost_ret (v := .tuple #[exV (0,0),.iface 55 (.int .i64 4)]) (by simp [results,results71,go_sem,exV]) rfl ?_;exact ⟨.inr ⟨HR.out,rfl⟩,(Fr.refl _ _).alloc _,es,Ext.refl es,HM.out.nil_ ((Fr.refl [] w).alloc _),fun h=>by rw [HR.out] at h;cases h⟩
  have hl1:0 < l.length:=by omega
  have hrk:rightK 3 mn mx l.length=true:=by simp [rightK,hl1]
  have hl2:((l.length:Int) == 0)=false:=beq_eq_false_iff_ne.2 (by omega);have hr2:rt=rightL l:=by rw [hr];simp [inner,hrk]
  clear hr;have HR:=zh hr2;clear hr2;have HRK:=zh hrk;clear hrk;go_enter func71,ntmps71
  go_wp2_with fail
  go_at_call 86
  refine (HL.out _ mv es A c (d+1) ((d:Int)+1) (by simp) (HPM.out.keep (KeepT.of_nil ((Fr.refl [] w).alloc _))) (HM.out.nil_ ((Fr.refl [] w).alloc _)) (by omega) (by omega)).mono ?_;rintro e w1 ⟨h,hf,es1,he,hm1,hc1'⟩;have hbk:Bk w1 w.heap.size 172 #[.int .i64 0,.int .i64 0]:=(Bk.new w _ _).fr hf (by simp;have:=HM.out.1.lt;omega);have hsz:=hbk.lt;have hc1:=HTC.out.keep ((KeepT.of_nil ((Fr.refl [] w).alloc _)).trans ((HM.out.nil_ ((Fr.refl [] w).alloc _)).keepT hf));have HF:=zh hf;have HE:=zh he;have HM1:=zh hm1;have HC1:=zh hc1';have HBK:=zh hbk;have HTC1:=zh hc1;clear hf he hm1 hc1 hc1' hbk c0 c5 c6' c7;rcases h with ⟨hrl,rfl⟩ | ⟨hrl,rfl⟩
  ·have HRL:=zh hrl;clear hrl;obtain ⟨x1,hx1⟩:∃ x1,x1=min 4001 (sizL l):=⟨_,rfl⟩;obtain ⟨x2,hx2⟩:∃ x2,x2=depL l:=⟨_,rfl⟩;have hex:exV (exL l) = .agg #[.int .i64 (x1:Int),.int .i64 (x2:Int)]:=by rw [hx1,hx2];rfl
   rw [hex];have hx2':x2 <= 1200:=by have:=depL_le l;omega
   have hx1':x1 <= 4001:=by omega
   have HX1:=zh hx1;have HX2:=zh hx2;clear hx1 hx2 hex;go_upto_region 21 with fail
   obtain ⟨wq,hwq⟩:∃ wq,wq=w1.alloc (.cells #[.int .i64 x1,.int .i64 x2] 172):=⟨_,rfl⟩;have hq1:Bk wq w1.heap.size 172 #[.int .i64 x1,.int .i64 x2]:=by rw [hwq];exact Bk.new w1 _ _
   have hq2:Bk wq w.heap.size 172 #[.int .i64 0,.int .i64 0]:=by rw [hwq];exact HBK.out.alloc _
   have hq3:CellsAt wq b o T.cells:=by rw [hwq,HTT.out];exact HTC1.out.keep (KeepT.of_nil ((Fr.refl [] w1).alloc _))
   have hfq:Fr [] w1 wq:=by rw [hwq];exact (Fr.refl [] w1).alloc _
   rw [<-hwq]
   have hsize:∀ W:World,CellsAt W b o T.cells->Calls prog 87 #[.pointer (some ⟨b,o,none⟩),.int .i64 (x1:Int)] W fun e w'=>e = .returned (.int .i64 (sizN T x1))/\∃ q,w'=W.drewN q:=fun W hW=>
    size_any hW (by rw [HTT.out];rfl) (by rw [HTT.out];exact HRK.out) (by rw [HTT.out];exact (by omega:l.length <= 1200)) hx1'
   obtain ⟨sn,hsn⟩:∃ sn,sn=sizN T x1:=⟨_,rfl⟩;rw [<-hsn] at hsize;have d0:=hq1.cell_ (i:=0) rfl;have d1:=hq1.cell_ (i:=1) rfl;have HWQ:=zh hwq;have HQ2:=zh hq2;have HQ3:=zh hq3;have HFQ:=zh hfq;have HSN:=zh hsn;have HSIZE:=zh hsize;have HQ1:=zh hq1;clear hwq hq2 hq3 hfq hsn hsize hq1;have e1:IntKind.i64.wrap ((x2:Int)+1)=(x2:Int)+1:=IntWalk.i64_in _ (by omega);refine wp_region_F_ (G:=fun a b=>∃ q,b=World.drewN a q) (F:=fun i=>i == 8 || i == 9) (S:=fun W=>∃ q,W=World.drewN wq q) ⟨fun _=>⟨0,rfl⟩,fun a b c ⟨q,h⟩ ⟨p,k⟩=>⟨q+p,by rw [k,h,World.drewN_drewN]⟩,fun a b ⟨q,h⟩ ⟨p,k⟩=>⟨q+p,by rw [k,h,World.drewN_drewN]⟩,by kernel_rfl,fun _ _ d _ _ h=>by cases d <;> exact h⟩ (by kernel_rfl) fun su=>?_
   have SU:=zh su;have HS:Hid (∃ q,wq.drew=World.drewN wq q):=zh ⟨1,rfl⟩;clear su;refine F_m 0 SU.out HS.out ?_;simp only [PE];refine F_v 1 ?_ SU.out HS.out (fun W hS=>?_) ?_;rotate_left
   ·obtain ⟨q,rfl⟩:=hS;go_simp;first | done | rfl | omega | (simp <;> omega)
   simp only [PU];refine F_v 2 (.int .i64 (x1:Int)) SU.out HS.out (fun W hS=>?_) ?_
   ·obtain ⟨q,rfl⟩:=hS;go_simp;first | done | rfl | omega | (simp <;> omega)
   simp only [PU];refine F_call (i:=3) (v := .int .i64 (sn:Int)) SU.out rfl (by kernel_rfl) HS.out rfl (fun W hS=>HSIZE.out W (by obtain ⟨q,rfl⟩:=hS;exact HQ3.out.keep (fun _ _ h=>h))) (fun W=>?_) ?_
   ·go_simp;first | done | rfl
   simp only [PU];refine F_v 4 ?_ SU.out HS.out (fun W hS=>?_) ?_;rotate_left
   ·obtain ⟨q,rfl⟩:=hS;go_simp;first | done | rfl | omega | (simp <;> omega)
   simp only [PU];refine F_v 5 (.int .i64 (x2:Int)) SU.out HS.out (fun W hS=>?_) ?_
   ·obtain ⟨q,rfl⟩:=hS;go_simp;first | done | rfl | omega | (simp <;> omega)
   simp only [PU];refine F_v 6 (.int .i64 ((x2:Int)+1)) SU.out HS.out (fun W hS=>?_) ?_
   ·obtain ⟨q,rfl⟩:=hS;go_simp;first | done | rfl | omega | (simp <;> omega)
   simp only [PU];refine F_v 7 (.agg #[.int .i64 (sn:Int),.int .i64 ((x2:Int)+1)]) SU.out HS.out (fun W hS=>?_) ?_
   ·obtain ⟨q,rfl⟩:=hS;go_simp;first | done | rfl | omega | (simp <;> omega)
   simp only [PU];refine wpAnyF_all (rs:=[8]) (by kernel_rfl) (by simp) (fun w' hG=>?_);obtain ⟨q,rfl⟩:=hG;refine allF.head rfl rfl (fun K8 hK8=>?_) allF.nil;obtain ⟨wz,hwz⟩:∃ wz,wz=(wq.drew).drewN q:=⟨_,rfl⟩;rw [<-hwz];have hz:Bk wz w.heap.size 172 #[.int .i64 0,.int .i64 0]:=by rw [hwz];exact HQ2.out
   have hfz:Fr [] wq wz:=by rw [hwz];exact ((Fr.refl [] wq).drew).drewN _
   have HZ:=zh hz;have HFZ:=zh hfz;have c6:=hz.cell_ (i:=0) rfl;have c6b:=hz.cell_ (i:=1) rfl;have f6:=hz.frozen 0;have f6b:=hz.frozen 1;have hzz:=hz.lt;clear hwz hz hfz;go_simp;refine hK8.out _ _ (.inl rfl) ?_;clear hK8 K8;refine wpAnyF_all (rs:=[9]) (by kernel_rfl) (by simp) (fun w' hG=>?_);obtain ⟨q,rfl⟩:=hG;refine allF.head rfl rfl (fun K9 hK9=>?_) allF.nil;go_simp;refine hK9.out _ _ (.inl rfl) ?_;clear hK9 K9;refine wpAnyF_done (by kernel_rfl) (fun w' hG=>?_);obtain ⟨q2,rfl⟩:=hG;go_wp2_with fail
   refine bodyPost_ret (v := .tuple #[.agg #[.int .i64 (sn:Int),.int .i64 ((x2:Int)+1)],.nilIface]) (by simp [results,results71,go_sem,c6,c6b]) rfl ?_;have hmz:MInv wz mv es1:=(HM1.out.nil_ HFQ.out).nil_ HFZ.out;have hset:Fr [w.heap.size] wz ((wz.setCell ⟨w.heap.size,0,none⟩ (.int .i64 (sn:Int))).setCell ⟨w.heap.size,1,none⟩ (.int .i64 ((x2:Int)+1))):=((Fr.refl [w.heap.size] wz).setCell (.inl (by simp)) _).setCell (.inl (by simp)) _;have hme:=hmz.fr_ hset (fun b hb=>by simp at hb;subst hb;exact ⟨hmz.1.ne HZ.out,HZ.out.other_ (by decide)⟩)
   have hxt:xt=(sn,x2+1):=by
    have h1:=sizN_sizP (t:=T) (by rw [HTT.out];rfl) (by rw [HTT.out];exact HRK.out);have h2:T.l=l:=by rw [HTT.out];rfl
    rw [h2,<-HX1.out,<-HSN.out] at h1;rw [HTT.out] at h1;rw [HX.out,<-HX2.out,<-h1];simp [inner]
   refine ⟨.inl ⟨by rw [HR.out];exact HRL.out,by rw [hxt];simp [exV]⟩,?_,es1,HE.out,?_,fun _=>?_⟩
   ·have g1:Fr [mv] w w1:=((Fr.refl [] w).alloc _).nil_.trans HF.out;exact ((((g1.trans HFQ.out.nil_).trans HFZ.out.nil_).trans' hset (by simp)).drewN _).drewN _
   ·exact hme.fr_ (((Fr.refl [] _).drewN _).drewN _) (by simp)
   show CovP es1 T;rw [CovP_eq,HTT.out];exact fun _=>HC1.out HRL.out
  have HRL:=zh hrl;clear hrl;unfold exV;go_upto_region 20 with fail
  obtain ⟨wq,hwq⟩:∃ wq,wq=w1.alloc (.cells #[.int .i64 0,.int .i64 0] 172):=⟨_,rfl⟩;have hq2:Bk wq w.heap.size 172 #[.int .i64 0,.int .i64 0]:=by rw [hwq];exact HBK.out.alloc _
  have hfq:Fr [] w1 wq:=by rw [hwq];exact (Fr.refl [] w1).alloc _
  rw [<-hwq];have c6:=hq2.cell_ (i:=0) rfl;have c6b:=hq2.cell_ (i:=1) rfl;have f6:=hq2.frozen 0;have f6b:=hq2.frozen 1;have HFQ:=zh hfq;have HQ2:=zh hq2;have hzz:=hq2.lt;clear hwq hq2 hfq;go_wp2_with fail
  refine bodyPost_ret (v := .tuple #[exV (0,0),.iface 55 (.int .i64 4)]) (by simp [results,results71,go_sem,exV,c6,c6b]) rfl ?_;refine ⟨.inr ⟨by rw [HR.out];exact HRL.out,rfl⟩,?_,es1,HE.out,?_,fun h=>by rw [HR.out,HRL.out] at h;cases h⟩
  ·have g1:Fr [mv] w w1:=((Fr.refl [] w).alloc _).nil_.trans HF.out;exact (g1.trans HFQ.out.nil_).trans' (((Fr.refl [w.heap.size] wq).setCell (.inl (by simp)) _).setCell (.inl (by simp)) _) (by simp)
  have hmq:=HM1.out.nil_ HFQ.out;exact hmq.fr_ (((Fr.refl [w.heap.size] wq).setCell (.inl (by simp)) _).setCell (.inl (by simp)) _) (fun b hb=>by simp at hb;subst hb;exact ⟨hmq.1.ne HQ2.out,HQ2.out.other_ (by decide)⟩)
 by_cases hk4:k=4
 ·subst hk4;by_cases hl1:l.length=1
  ·have hbr:=bndB_right (mn:=mn) (mx:=mx);have hl1':((l.length:Int) == 1)=true:=by rw [hl1];rfl
   have hl1'':(l.length == 1)=true:=by rw [hl1];rfl
   cases hb:bndB mn mx with
   | false=>
    have hr2:rt=false:=by rw [hr,hl1,hbr,hb];rfl
    have HB:=zh hb;have HL1:=zh hl1;clear hb hbr hl1;clear hr;have HR:=zh hr2;clear hr2;go_enter func71,ntmps71
    go_upto_region 16 with fail
    refine wp_region_M_ (G:=fun a b=>a=b) (S:=fun W=>W=(w.alloc (.cells #[.int .i64 0,.int .i64 0] 172)).drew) ⟨fun _=>rfl,fun a b c h k=>h.trans k,fun a b h k=>k ▸ h,by kernel_rfl,fun _ _ d _ _ h=>by cases d <;> exact h⟩ (by kernel_rfl) fun su=>?_
    have SU:=zh su;have HS:Hid ((w.alloc (.cells #[.int .i64 0,.int .i64 0] 172)).drew=(w.alloc (.cells #[.int .i64 0,.int .i64 0] 172)).drew):=zh rfl;clear su;refine M_m 0 SU.out HS.out ?_;simp only [PE];refine M_v 1 ?_ SU.out HS.out (fun W hS=>?_) ?_;rotate_left
    ·obtain rfl:=hS;go_simp;first | done | rfl | omega | (simp <;> omega)
    simp only [PU];refine M_v 2 ?_ SU.out HS.out (fun W hS=>?_) ?_;rotate_left
    ·obtain rfl:=hS;go_simp;first | done | rfl | omega | (simp <;> omega)
    simp only [PU];refine M_v 3 (.slice A l.length c) SU.out HS.out (fun W hS=>?_) ?_
    ·obtain rfl:=hS;go_simp;first | done | rfl | omega | (simp <;> omega)
    simp only [PU];refine M_v 4 (.int .i64 (l.length:Int)) SU.out HS.out (fun W hS=>?_) ?_
    ·obtain rfl:=hS;go_simp;first | done | rfl | omega | (simp <;> omega)
    simp only [PU];refine M_v 5 (.bool false) SU.out HS.out (fun W hS=>?_) ?_
    ·obtain rfl:=hS;have hLL:=HL1.out;go_simp;first | done | rfl | (simp [hLL];done) | omega
    simp only [PU];refine M_m 6 SU.out HS.out ?_;simp only [PE];refine M_m 7 SU.out HS.out ?_;simp only [PE];refine M_v 8 ?_ SU.out HS.out (fun W hS=>?_) ?_;rotate_left
    ·obtain rfl:=hS;go_simp;first | done | rfl | omega | (simp <;> omega)
    simp only [PU];refine M_v 9 ?_ SU.out HS.out (fun W hS=>?_) ?_;rotate_left
    ·obtain rfl:=hS;go_simp;first | done | rfl | omega | (simp <;> omega)
    simp only [PU];refine M_v 10 (.int .i64 mn) SU.out HS.out (fun W hS=>?_) ?_
    ·obtain rfl:=hS;go_simp;first | done | rfl | omega | (simp <;> omega)
    simp only [PU];refine M_m 11 SU.out HS.out ?_;simp only [PE];refine M_v 12 ?_ SU.out HS.out (fun W hS=>?_) ?_;rotate_left
    ·obtain rfl:=hS;go_simp;first | done | rfl | omega | (simp <;> omega)
    simp only [PU];refine M_v 13 ?_ SU.out HS.out (fun W hS=>?_) ?_;rotate_left
    ·obtain rfl:=hS;go_simp;first | done | rfl | omega | (simp <;> omega)
    simp only [PU];refine M_v 14 (.int .i64 mx) SU.out HS.out (fun W hS=>?_) ?_
    ·obtain rfl:=hS;go_simp;first | done | rfl | omega | (simp <;> omega)
    simp only [PU];refine M_call (i:=15) (v := .bool false) SU.out rfl (by kernel_rfl) HS.out rfl (fun W hS=>(bounds_any mn mx W).mono fun _ _ h=>⟨by rw [HB.out] at h;exact h.1,h.2⟩) (fun W=>?_) ?_
    ·go_simp;first | done | rfl
    simp only [PU];refine M_v 16 (.bool true) SU.out HS.out (fun W hS=>?_) ?_
    ·obtain rfl:=hS;go_simp;first | done | rfl | omega | (simp <;> omega)
    simp only [PU];refine M_v 17 (.bool true) SU.out HS.out (fun W hS=>?_) ?_
    ·obtain rfl:=hS;go_simp;first | done | rfl | omega | (simp <;> omega)
    simp only [PU];refine wpAnyM_done (by kernel_rfl) (fun w' hG=>?_);obtain rfl:=hG;go_wp2_with fail
    refine bodyPost_ret (v := .tuple #[exV (0,0),.iface 55 (.int .i64 4)]) (by simp [results,results71,go_sem,exV]) rfl ?_;exact ⟨.inr ⟨HR.out,rfl⟩,((Fr.refl _ _).alloc _).drew,es,Ext.refl es,HM.out.nil_ (((Fr.refl [] w).alloc _).drew),fun h=>by rw [HR.out] at h;cases h⟩
   | true=>
    have hrk:rightK 4 mn mx l.length=true:=by rw [hl1,hbr,hb]
    have HB:=zh hb;have HL1:=zh hl1;clear hb hbr hl1;have hr2:rt=rightL l:=by rw [hr];simp [inner,hrk]
    clear hr;have HR:=zh hr2;clear hr2;have HRK:=zh hrk;clear hrk;go_enter func71,ntmps71
    go_upto_region 16 with fail
    refine wp_region_M_ (G:=fun a b=>a=b) (S:=fun W=>W=(w.alloc (.cells #[.int .i64 0,.int .i64 0] 172)).drew) ⟨fun _=>rfl,fun a b c h k=>h.trans k,fun a b h k=>k ▸ h,by kernel_rfl,fun _ _ d _ _ h=>by cases d <;> exact h⟩ (by kernel_rfl) fun su=>?_
    have SU:=zh su;have HS:Hid ((w.alloc (.cells #[.int .i64 0,.int .i64 0] 172)).drew=(w.alloc (.cells #[.int .i64 0,.int .i64 0] 172)).drew):=zh rfl;clear su;refine M_m 0 SU.out HS.out ?_;simp only [PE];refine M_v 1 ?_ SU.out HS.out (fun W hS=>?_) ?_;rotate_left
    ·obtain rfl:=hS;go_simp;first | done | rfl | omega | (simp <;> omega)
    simp only [PU];refine M_v 2 ?_ SU.out HS.out (fun W hS=>?_) ?_;rotate_left
    ·obtain rfl:=hS;go_simp;first | done | rfl | omega | (simp <;> omega)
    simp only [PU];refine M_v 3 (.slice A l.length c) SU.out HS.out (fun W hS=>?_) ?_
    ·obtain rfl:=hS;go_simp;first | done | rfl | omega | (simp <;> omega)
    simp only [PU];refine M_v 4 (.int .i64 (l.length:Int)) SU.out HS.out (fun W hS=>?_) ?_
    ·obtain rfl:=hS;go_simp;first | done | rfl | omega | (simp <;> omega)
    simp only [PU];refine M_v 5 (.bool false) SU.out HS.out (fun W hS=>?_) ?_
    ·obtain rfl:=hS;have hLL:=HL1.out;go_simp;first | done | rfl | (simp [hLL];done) | omega
    simp only [PU];refine M_m 6 SU.out HS.out ?_;simp only [PE];refine M_m 7 SU.out HS.out ?_;simp only [PE];refine M_v 8 ?_ SU.out HS.out (fun W hS=>?_) ?_;rotate_left
    ·obtain rfl:=hS;go_simp;first | done | rfl | omega | (simp <;> omega)
    simp only [PU];refine M_v 9 ?_ SU.out HS.out (fun W hS=>?_) ?_;rotate_left
    ·obtain rfl:=hS;go_simp;first | done | rfl | omega | (simp <;> omega)
    simp only [PU];refine M_v 10 (.int .i64 mn) SU.out HS.out (fun W hS=>?_) ?_
    ·obtain rfl:=hS;go_simp;first | done | rfl | omega | (simp <;> omega)
    simp only [PU];refine M_m 11 SU.out HS.out ?_;simp only [PE];refine M_v 12 ?_ SU.out HS.out (fun W hS=>?_) ?_;rotate_left
    ·obtain rfl:=hS;go_simp;first | done | rfl | omega | (simp <;> omega)
    simp only [PU];refine M_v 13 ?_ SU.out HS.out (fun W hS=>?_) ?_;rotate_left
    ·obtain rfl:=hS;go_simp;first | done | rfl | omega | (simp <;> omega)
    simp only [PU];refine M_v 14 (.int .i64 mx) SU.out HS.out (fun W hS=>?_) ?_
    ·obtain rfl:=hS;go_simp;first | done | rfl | omega | (simp <;> omega)
    simp only [PU];refine M_call (i:=15) (v := .bool true) SU.out rfl (by kernel_rfl) HS.out rfl (fun W hS=>(bounds_any mn mx W).mono fun _ _ h=>⟨by rw [HB.out] at h;exact h.1,h.2⟩) (fun W=>?_) ?_
    ·go_simp;first | done | rfl
    simp only [PU];refine M_v 16 (.bool false) SU.out HS.out (fun W hS=>?_) ?_
    ·obtain rfl:=hS;go_simp;first | done | rfl | omega | (simp <;> omega)
    simp only [PU];refine M_v 17 (.bool false) SU.out HS.out (fun W hS=>?_) ?_
    ·obtain rfl:=hS;go_simp;first | done | rfl | omega | (simp <;> omega)
    simp only [PU];refine wpAnyM_done (by kernel_rfl) (fun w' hG=>?_);obtain rfl:=hG;go_wp2_with fail
    go_at_call 86
    refine (HL.out _ mv es A c (d+1) ((d:Int)+1) (by simp) (HPM.out.keep (KeepT.of_nil (((Fr.refl [] w).alloc _).drew))) (HM.out.nil_ (((Fr.refl [] w).alloc _).drew)) (by omega) (by omega)).mono ?_;rintro e w1 ⟨h,hf,es1,he,hm1,hc1'⟩;have hbk:Bk w1 w.heap.size 172 #[.int .i64 0,.int .i64 0]:=((Bk.new w _ _).drew).fr hf (by simp;have:=HM.out.1.lt;omega);have hsz:=hbk.lt;have hc1:=HTC.out.keep ((KeepT.of_nil (((Fr.refl [] w).alloc _).drew)).trans ((HM.out.nil_ (((Fr.refl [] w).alloc _).drew)).keepT hf));have HF:=zh hf;have HE:=zh he;have HM1:=zh hm1;have HC1:=zh hc1';have HBK:=zh hbk;have HTC1:=zh hc1;clear hf he hm1 hc1 hc1' hbk c0 c5 c6' c7;rcases h with ⟨hrl,rfl⟩ | ⟨hrl,rfl⟩
    ·have HRL:=zh hrl;clear hrl;obtain ⟨x1,hx1⟩:∃ x1,x1=min 4001 (sizL l):=⟨_,rfl⟩;obtain ⟨x2,hx2⟩:∃ x2,x2=depL l:=⟨_,rfl⟩;have hex:exV (exL l) = .agg #[.int .i64 (x1:Int),.int .i64 (x2:Int)]:=by rw [hx1,hx2];rfl
     rw [hex];have hx2':x2 <= 1200:=by have:=depL_le l;omega
     have hx1':x1 <= 4001:=by omega
     have HX1:=zh hx1;have HX2:=zh hx2;clear hx1 hx2 hex;go_upto_region 21 with fail
     obtain ⟨wq,hwq⟩:∃ wq,wq=w1.alloc (.cells #[.int .i64 x1,.int .i64 x2] 172):=⟨_,rfl⟩;have hq1:Bk wq w1.heap.size 172 #[.int .i64 x1,.int .i64 x2]:=by rw [hwq];exact Bk.new w1 _ _
     have hq2:Bk wq w.heap.size 172 #[.int .i64 0,.int .i64 0]:=by rw [hwq];exact HBK.out.alloc _
     have hq3:CellsAt wq b o T.cells:=by rw [hwq,HTT.out];exact HTC1.out.keep (KeepT.of_nil ((Fr.refl [] w1).alloc _))
     have hfq:Fr [] w1 wq:=by rw [hwq];exact (Fr.refl [] w1).alloc _
     rw [<-hwq]
     have hsize:∀ W:World,CellsAt W b o T.cells->Calls prog 87 #[.pointer (some ⟨b,o,none⟩),.int .i64 (x1:Int)] W fun e w'=>e = .returned (.int .i64 (sizN T x1))/\∃ q,w'=W.drewN q:=fun W hW=>
      size_any hW (by rw [HTT.out];rfl) (by rw [HTT.out];exact HRK.out) (by rw [HTT.out];exact (by omega:l.length <= 1200)) hx1'
     obtain ⟨sn,hsn⟩:∃ sn,sn=sizN T x1:=⟨_,rfl⟩;rw [<-hsn] at hsize;have d0:=hq1.cell_ (i:=0) rfl;have d1:=hq1.cell_ (i:=1) rfl;have HWQ:=zh hwq;have HQ2:=zh hq2;have HQ3:=zh hq3;have HFQ:=zh hfq;have HSN:=zh hsn;have HSIZE:=zh hsize;have HQ1:=zh hq1;clear hwq hq2 hq3 hfq hsn hsize hq1;have e1:IntKind.i64.wrap ((x2:Int)+1)=(x2:Int)+1:=IntWalk.i64_in _ (by omega);refine wp_region_F_ (G:=fun a b=>∃ q,b=World.drewN a q) (F:=fun i=>i == 8 || i == 9) (S:=fun W=>∃ q,W=World.drewN wq q) ⟨fun _=>⟨0,rfl⟩,fun a b c ⟨q,h⟩ ⟨p,k⟩=>⟨q+p,by rw [k,h,World.drewN_drewN]⟩,fun a b ⟨q,h⟩ ⟨p,k⟩=>⟨q+p,by rw [k,h,World.drewN_drewN]⟩,by kernel_rfl,fun _ _ d _ _ h=>by cases d <;> exact h⟩ (by kernel_rfl) fun su=>?_
     have SU:=zh su;have HS:Hid (∃ q,wq.drew=World.drewN wq q):=zh ⟨1,rfl⟩;clear su;refine F_m 0 SU.out HS.out ?_;simp only [PE];refine F_v 1 ?_ SU.out HS.out (fun W hS=>?_) ?_;rotate_left
     ·obtain ⟨q,rfl⟩:=hS;go_simp;first | done | rfl | omega | (simp <;> omega)
     simp only [PU];refine F_v 2 (.int .i64 (x1:Int)) SU.out HS.out (fun W hS=>?_) ?_
     ·obtain ⟨q,rfl⟩:=hS;go_simp;first | done | rfl | omega | (simp <;> omega)
     simp only [PU];refine F_call (i:=3) (v := .int .i64 (sn:Int)) SU.out rfl (by kernel_rfl) HS.out rfl (fun W hS=>HSIZE.out W (by obtain ⟨q,rfl⟩:=hS;exact HQ3.out.keep (fun _ _ h=>h))) (fun W=>?_) ?_
     ·go_simp;first | done | rfl
     simp only [PU];refine F_v 4 ?_ SU.out HS.out (fun W hS=>?_) ?_;rotate_left
     ·obtain ⟨q,rfl⟩:=hS;go_simp;first | done | rfl | omega | (simp <;> omega)
     simp only [PU];refine F_v 5 (.int .i64 (x2:Int)) SU.out HS.out (fun W hS=>?_) ?_
     ·obtain ⟨q,rfl⟩:=hS;go_simp;first | done | rfl | omega | (simp <;> omega)
     simp only [PU];refine F_v 6 (.int .i64 ((x2:Int)+1)) SU.out HS.out (fun W hS=>?_) ?_
     ·obtain ⟨q,rfl⟩:=hS;go_simp;first | done | rfl | omega | (simp <;> omega)
     simp only [PU];refine F_v 7 (.agg #[.int .i64 (sn:Int),.int .i64 ((x2:Int)+1)]) SU.out HS.out (fun W hS=>?_) ?_
     ·obtain ⟨q,rfl⟩:=hS;go_simp;first | done | rfl | omega | (simp <;> omega)
     simp only [PU];refine wpAnyF_all (rs:=[8]) (by kernel_rfl) (by simp) (fun w' hG=>?_);obtain ⟨q,rfl⟩:=hG;refine allF.head rfl rfl (fun K8 hK8=>?_) allF.nil;obtain ⟨wz,hwz⟩:∃ wz,wz=(wq.drew).drewN q:=⟨_,rfl⟩;rw [<-hwz];have hz:Bk wz w.heap.size 172 #[.int .i64 0,.int .i64 0]:=by rw [hwz];exact HQ2.out
     have hfz:Fr [] wq wz:=by rw [hwz];exact ((Fr.refl [] wq).drew).drewN _
     have HZ:=zh hz;have HFZ:=zh hfz;have c6:=hz.cell_ (i:=0) rfl;have c6b:=hz.cell_ (i:=1) rfl;have f6:=hz.frozen 0;have f6b:=hz.frozen 1;have hzz:=hz.lt;clear hwz hz hfz;go_simp;refine hK8.out _ _ (.inl rfl) ?_;clear hK8 K8;refine wpAnyF_all (rs:=[9]) (by kernel_rfl) (by simp) (fun w' hG=>?_);obtain ⟨q,rfl⟩:=hG;refine allF.head rfl rfl (fun K9 hK9=>?_) allF.nil;go_simp;refine hK9.out _ _ (.inl rfl) ?_;clear hK9 K9;refine wpAnyF_done (by kernel_rfl) (fun w' hG=>?_);obtain ⟨q2,rfl⟩:=hG;go_wp2_with fail
     refine bodyPost_ret (v := .tuple #[.agg #[.int .i64 (sn:Int),.int .i64 ((x2:Int)+1)],.nilIface]) (by simp [results,results71,go_sem,c6,c6b]) rfl ?_;have hmz:MInv wz mv es1:=(HM1.out.nil_ HFQ.out).nil_ HFZ.out;have hset:Fr [w.heap.size] wz ((wz.setCell ⟨w.heap.size,0,none⟩ (.int .i64 (sn:Int))).setCell ⟨w.heap.size,1,none⟩ (.int .i64 ((x2:Int)+1))):=((Fr.refl [w.heap.size] wz).setCell (.inl (by simp)) _).setCell (.inl (by simp)) _;have hme:=hmz.fr_ hset (fun b hb=>by simp at hb;subst hb;exact ⟨hmz.1.ne HZ.out,HZ.out.other_ (by decide)⟩)
     have hxt:xt=(sn,x2+1):=by
      have h1:=sizN_sizP (t:=T) (by rw [HTT.out];rfl) (by rw [HTT.out];exact HRK.out);have h2:T.l=l:=by rw [HTT.out];rfl
      rw [h2,<-HX1.out,<-HSN.out] at h1;rw [HTT.out] at h1;rw [HX.out,<-HX2.out,<-h1];simp [inner]
     refine ⟨.inl ⟨by rw [HR.out];exact HRL.out,by rw [hxt];simp [exV]⟩,?_,es1,HE.out,?_,fun _=>?_⟩
     ·have g1:Fr [mv] w w1:=((Fr.refl [] w).alloc _).drew.nil_.trans HF.out;exact ((((g1.trans HFQ.out.nil_).trans HFZ.out.nil_).trans' hset (by simp)).drewN _).drewN _
     ·exact hme.fr_ (((Fr.refl [] _).drewN _).drewN _) (by simp)
     show CovP es1 T;rw [CovP_eq,HTT.out];exact fun _=>HC1.out HRL.out
    have HRL:=zh hrl;clear hrl;unfold exV;go_upto_region 20 with fail
    obtain ⟨wq,hwq⟩:∃ wq,wq=w1.alloc (.cells #[.int .i64 0,.int .i64 0] 172):=⟨_,rfl⟩;have hq2:Bk wq w.heap.size 172 #[.int .i64 0,.int .i64 0]:=by rw [hwq];exact HBK.out.alloc _
    have hfq:Fr [] w1 wq:=by rw [hwq];exact (Fr.refl [] w1).alloc _
    rw [<-hwq];have c6:=hq2.cell_ (i:=0) rfl;have c6b:=hq2.cell_ (i:=1) rfl;have f6:=hq2.frozen 0;have f6b:=hq2.frozen 1;have HFQ:=zh hfq;have HQ2:=zh hq2;have hzz:=hq2.lt;clear hwq hq2 hfq;go_wp2_with fail
    refine bodyPost_ret (v := .tuple #[exV (0,0),.iface 55 (.int .i64 4)]) (by simp [results,results71,go_sem,exV,c6,c6b]) rfl ?_;refine ⟨.inr ⟨by rw [HR.out];exact HRL.out,rfl⟩,?_,es1,HE.out,?_,fun h=>by rw [HR.out,HRL.out] at h;cases h⟩
    ·have g1:Fr [mv] w w1:=((Fr.refl [] w).alloc _).drew.nil_.trans HF.out;exact (g1.trans HFQ.out.nil_).trans' (((Fr.refl [w.heap.size] wq).setCell (.inl (by simp)) _).setCell (.inl (by simp)) _) (by simp)
    have hmq:=HM1.out.nil_ HFQ.out;exact hmq.fr_ (((Fr.refl [w.heap.size] wq).setCell (.inl (by simp)) _).setCell (.inl (by simp)) _) (fun b hb=>by simp at hb;subst hb;exact ⟨hmq.1.ne HQ2.out,HQ2.out.other_ (by decide)⟩)
  have hr2:rt=false:=by rw [hr];simp [rightK,hl1]
  have hl1':((l.length:Int) == 1)=false:=beq_eq_false_iff_ne.2 (by omega);have hl1'':(l.length == 1)=false:=beq_eq_false_iff_ne.2 hl1;have HL1:=zh hl1;clear hr;have HR:=zh hr2;clear hr2;go_enter func71,ntmps71
  go_upto_region 16 with fail
  refine wp_region_M_ (G:=fun a b=>a=b) (S:=fun W=>W=(w.alloc (.cells #[.int .i64 0,.int .i64 0] 172)).drew) ⟨fun _=>rfl,fun a b c h k=>h.trans k,fun a b h k=>k ▸ h,by kernel_rfl,fun _ _ d _ _ h=>by cases d <;> exact h⟩ (by kernel_rfl) fun su=>?_
  have SU:=zh su;have HS:Hid ((w.alloc (.cells #[.int .i64 0,.int .i64 0] 172)).drew=(w.alloc (.cells #[.int .i64 0,.int .i64 0] 172)).drew):=zh rfl;clear su;refine M_m 0 SU.out HS.out ?_;simp only [PE];refine M_v 1 ?_ SU.out HS.out (fun W hS=>?_) ?_;rotate_left
  ·obtain rfl:=hS;go_simp;first | done | rfl | omega | (simp <;> omega)
  simp only [PU];refine M_v 2 ?_ SU.out HS.out (fun W hS=>?_) ?_;rotate_left
  ·obtain rfl:=hS;go_simp;first | done | rfl | omega | (simp <;> omega)
  simp only [PU];refine M_v 3 (.slice A l.length c) SU.out HS.out (fun W hS=>?_) ?_
  ·obtain rfl:=hS;go_simp;first | done | rfl | omega | (simp <;> omega)
  simp only [PU];refine M_v 4 (.int .i64 (l.length:Int)) SU.out HS.out (fun W hS=>?_) ?_
  ·obtain rfl:=hS;go_simp;first | done | rfl | omega | (simp <;> omega)
  simp only [PU];refine M_v 5 (.bool true) SU.out HS.out (fun W hS=>?_) ?_
  ·obtain rfl:=hS;have hLL:=HL1.out;go_simp;first | done | rfl | (simp [hLL];done) | omega
  simp only [PU];refine M_m 6 SU.out HS.out ?_;simp only [PE];refine M_skip (i:=7) SU.out rfl (by kernel_rfl) HS.out rfl ?_;simp only [PU];refine M_skip (i:=8) SU.out rfl (by kernel_rfl) HS.out rfl ?_;simp only [PU];refine M_skip (i:=9) SU.out rfl (by kernel_rfl) HS.out rfl ?_;simp only [PU];refine M_skip (i:=10) SU.out rfl (by kernel_rfl) HS.out rfl ?_;simp only [PU];refine M_skip (i:=11) SU.out rfl (by kernel_rfl) HS.out rfl ?_;simp only [PU];refine M_skip (i:=12) SU.out rfl (by kernel_rfl) HS.out rfl ?_;simp only [PU];refine M_skip (i:=13) SU.out rfl (by kernel_rfl) HS.out rfl ?_;simp only [PU];refine M_skip (i:=14) SU.out rfl (by kernel_rfl) HS.out rfl ?_;simp only [PU];refine M_skip (i:=15) SU.out rfl (by kernel_rfl) HS.out rfl ?_;simp only [PU];refine M_skip (i:=16) SU.out rfl (by kernel_rfl) HS.out rfl ?_;simp only [PU];refine M_v 17 (.bool true) SU.out HS.out (fun W hS=>?_) ?_
  ·obtain rfl:=hS;go_simp;first | done | rfl | omega | (simp <;> omega)
  simp only [PU];refine wpAnyM_done (by kernel_rfl) (fun w' hG=>?_);obtain rfl:=hG;go_wp2_with fail
  refine bodyPost_ret (v := .tuple #[exV (0,0),.iface 55 (.int .i64 4)]) (by simp [results,results71,go_sem,exV]) rfl ?_;exact ⟨.inr ⟨HR.out,rfl⟩,((Fr.refl _ _).alloc _).drew,es,Ext.refl es,HM.out.nil_ (((Fr.refl [] w).alloc _).drew),fun h=>by rw [HR.out] at h;cases h⟩
 have hr2:rt=false:=by rw [hr];have:rightK k mn mx l.length=false:=(by unfold rightK;rw [if_pos (by omega)]);rw [this];rfl
 have g0:(k == 0)=false:=beq_eq_false_iff_ne.2 hk0;have g1:(k == 1)=false:=beq_eq_false_iff_ne.2 hk1;have g2:(k == 2)=false:=beq_eq_false_iff_ne.2 hk2;have g3:(k == 3)=false:=beq_eq_false_iff_ne.2 hk3;have g4:(k == 4)=false:=beq_eq_false_iff_ne.2 hk4;have g5:(k == 5)=false:=beq_eq_false_iff_ne.2 hk5;have g6:(k == 6)=false:=beq_eq_false_iff_ne.2 hk6;clear hr;have HR:=zh hr2;clear hr2;go_enter func71,ntmps71
 go_wp2_with fail
 refine bodyPost_ret (v := .tuple #[exV (0,0),.iface 55 (.int .i64 4)]) (by simp [results,results71,go_sem,exV]) rfl ?_;exact ⟨.inr ⟨HR.out,rfl⟩,(Fr.refl _ _).alloc _,es,Ext.refl es,HM.out.nil_ ((Fr.refl [] w).alloc _),fun h=>by rw [HR.out] at h;cases h⟩
end Go.Proofs.YtfofechcccodeaaGreatDoor
