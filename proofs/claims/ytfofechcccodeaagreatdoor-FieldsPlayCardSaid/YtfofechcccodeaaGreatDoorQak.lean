/-
  Small texts in one (Ly6). No conditions.
-/
import Derived.Test.YtfofechcccodeaaGreatDoorQaj
namespace Go.Proofs.YtfofechcccodeaaGreatDoor
open Go.RowKit Go.ChangeMaps Go.Proofs.Tryz
set_option linter.unusedVariables false
set_option linter.unusedSimpArgs false
set_option maxRecDepth 100000
set_option maxHeartbeats 8000000
def KeepB (t:TypeId) (w w':World):Prop:=∀ b cs,Bk w b t cs->Bk w' b t cs
theorem LayOut.keepB {w w1:World} {gy mv:Nat} {l:List Nat} {L L':List Sp} (h:LaySt w gy mv l L) (k:LayOut w gy mv l L' w1) {t:TypeId} (h1:t ≠ 139) (h2:t ≠ 142):KeepB t w w1:=by
 obtain ⟨l',-, hf,-⟩:=k;exact fun b cs hb=>hb.fr hf (h.none_ hb h1 h2)
theorem own_base {w:World} {base n sz:Nat} {v:Value} {e:TypeId} {xs:List Value} (h:w.ownsRow base e sz v n xs):∀ g,v.ownBlock=some g->base <= g/\∃ cur,Bk w g e cur:=by
 obtain ⟨h1,⟨h2,h3⟩ | ⟨b',cap',cur,h2,h0,hb',h6⟩⟩:=h
 ·rw [h2];intro g hg;simp [Value.ownBlock] at hg
 rw [h2];intro g hg;simp [Value.ownBlock] at hg;subst hg;exact ⟨h0,cur,hb'⟩
theorem own_keep {w w':World} {base n sz:Nat} {v:Value} {e:TypeId} {xs:List Value} (h:w.ownsRow base e sz v n xs) (k:KeepB e w w'):w'.ownsRow base e sz v n xs:=by
 obtain ⟨h1,h2 | ⟨b',cap',cur,h2,h0,hb',h6⟩⟩:=h
 ·exact ⟨h1,.inl h2⟩
 exact ⟨h1,.inr ⟨b',cap',cur,h2,h0,k b' cur hb',h6⟩⟩
theorem KeepB.of_nil {t:TypeId} {w w':World} (h:Fr [] w w'):KeepB t w w':=fun b cs hb=>hb.fr h (by simp)
theorem intParts:∃ i,prog.info? 3=some i/\i.zero=some (.int .i64 0)/\i.size=1/\i.bytes=8:=info_parts (by kernel_rfl)
theorem one_new_ (w:World) (t:TypeId) (a:Value):∀ j u,[a][j]?=some u->(w.alloc (.cells #[a] t)).cell? ((⟨w.heap.size,0,none⟩:Addr).add j)=some u:=by
 intro j u hu;have hb:=Bk.new w t #[a];have hadd:(⟨w.heap.size,0,none⟩:Addr).add j=⟨w.heap.size,j,none⟩:=by unfold Addr.add;split <;> simp_all
 rw [hadd,hb.cell]
 simpa using hu
def LayOk (t:PT):Prop:=∀ (w:World) (gy mv:Nat) (l:List Nat) (es:List (Ky × Ex)) (L:List Sp) (b o:Nat),LaySt w gy mv l L->MInv w mv es->CovP es t->CellsAt w b o t.cells->PMem w t->rightP t=true->cntP t <= 1199->L.length+sizP t <= 5000 ->
 Calls prog 58 #[.pointer (some ⟨gy,0,none⟩),.pointer (some ⟨b,o,none⟩)] w (LayPost w gy mv l (L ++ layP t L.length) (.tuple #[]))
theorem LayOk.st {t:PT} (h:LayOk t) {w0 w:World} {gy mv:Nat} {l0:List Nat} {es:List (Ky × Ex)} {L:List Sp} {b o:Nat} (st:StL w0 gy mv l0 es L w) (hcov:CovP es t) (hc:CellsAt w0 b o t.cells) (hp:PMem w0 t) (hr:rightP t=true) (hcnt:cntP t <= 1199) (hL:L.length+sizP t <= 5000) :
    Calls prog 58 #[.pointer (some ⟨gy,0,none⟩),.pointer (some ⟨b,o,none⟩)] w fun e w'=>e = .returned (.tuple #[])/\StL w0 gy mv l0 es (L ++ layP t L.length) w'/\KeepB 3 w w':=by
 obtain ⟨l,h1,hf,hb⟩:=id st.1;exact (h w gy mv l es L b o h1 st.2.1 hcov (hc.keep st.2.2) (hp.keep st.2.2) hr hcnt hL).mono fun e w' hp=>⟨hp.1,st.step h1 hf hb hp.2,LayOut.keepB h1 hp.2 (by decide) (by decide)⟩
theorem fork_st {w0 w:World} {gy mv:Nat} {l0:List Nat} {es:List (Ky × Ex)} {L:List Sp} (st:StL w0 gy mv l0 es L w) (hL:L.length <= 100000) :
    Calls prog 88 #[.pointer (some ⟨gy,0,none⟩)] w fun e w'=>e = .returned (.int .i64 (L.length:Int))/\StL w0 gy mv l0 es (L ++ [Sp.fork (L.length+1) 0]) w'/\KeepB 3 w w':=by
 obtain ⟨l,h1,hf,hb⟩:=id st.1;exact (fork_any h1 hL).mono fun e w' hp=>⟨hp.1,st.step h1 hf hb hp.2,LayOut.keepB h1 hp.2 (by decide) (by decide)⟩
theorem jump_st {w0 w:World} {gy mv:Nat} {l0:List Nat} {es:List (Ky × Ex)} {L:List Sp} (st:StL w0 gy mv l0 es L w) (hL:L.length <= 100000) (tq:Nat) :
    Calls prog 89 #[.pointer (some ⟨gy,0,none⟩),.int .i64 (tq:Int)] w fun e w'=>e = .returned (.int .i64 (L.length:Int))/\StL w0 gy mv l0 es (L ++ [Sp.fork tq tq]) w'/\KeepB 3 w w':=by
 obtain ⟨l,h1,hf,hb⟩:=id st.1;exact (jump_any h1 hL tq).mono fun e w' hp=>⟨hp.1,st.step h1 hf hb hp.2,LayOut.keepB h1 hp.2 (by decide) (by decide)⟩
def Rep1 (w:World) (gy mv:Nat) (l:List Nat) (es:List (Ky × Ex)) (L:List Sp) (t1:PT) (n1 a:Nat) (v:Value) (wr:World):Prop:=
 ∃ i:Nat,v = .int .i64 (i:Int)/\i <= a/\StL w gy mv l es (L ++ timesP (layP t1) n1 i L.length) wr
def Rep2 (w:World) (gy mv:Nat) (l:List Nat) (es:List (Ky × Ex)) (L1:List Sp) (t1:PT) (n1 K:Nat) (v6 v:Value) (wr:World):Prop:=
 ∃ i:Nat,v = .int .i64 (i:Int)/\i <= K/\StL w gy mv l es (L1 ++ maybeP (layP t1) n1 0 i L1.length) wr/\wr.ownsRow w.heap.size 3 1 v6 i ((List.range i).map fun j => .int .i64 ((L1.length+j * (n1+1):Nat):Int))
def Rep3 (w:World) (gy mv:Nat) (l:List Nat) (es:List (Ky × Ex)) (L1:List Sp) (t1:PT) (n1 K all:Nat) (v6 v:Value) (wr:World):Prop:=
 ∃ i:Nat,v = .int .i64 (i:Int)/\i <= K/\StL w gy mv l es (L1 ++ (maybeP (layP t1) n1 all i L1.length ++ maybeP (layP t1) n1 0 (K - i) (L1.length+i * (n1+1)))) wr/\wr.ownsRow w.heap.size 3 1 v6 K ((List.range K).map fun j => .int .i64 ((L1.length+j * (n1+1):Nat):Int))
theorem repeat_any {t1:PT} (hok:LayOk t1) {w:World} {gy mv:Nat} {l:List Nat} {es:List (Ky × Ex)} {L:List Sp} {b o:Nat} {t:PT} (hk:t.k=4) (htl:t.l=[t1]) (hst:LaySt w gy mv l L) (hm:MInv w mv es) (hcov:CovP es t)
    (hc:CellsAt w b o t.cells) (hp:PMem w t) (hr:rightP t=true) (hcnt:cntP t <= 1199) (hL:L.length+sizP t <= 5000) :
    Calls prog 75 #[.pointer (some ⟨gy,0,none⟩),.pointer (some ⟨b,o,none⟩)] w (LayPost w gy mv l (L ++ layP t L.length) (.tuple #[])):=by
 have hsz:=sizP_eq t;rw [rightP_eq] at hr;rw [CovP_eq] at hcov;rw [PMem_eq] at hp;rw [cntP_eq] at hcnt;have c5:=hc.cell (j:=5) rfl;have c6':∀ W,KeepT w W->W.cell? ⟨b,o+6,none⟩=some (.int .i64 t.mx):=fun W hW=>(hc.keep hW).cell (j:=6) rfl;have c5':∀ W,KeepT w W->W.cell? ⟨b,o+5,none⟩=some (.int .i64 t.mn):=fun W hW=>(hc.keep hW).cell (j:=5) rfl;have c7:=hc.cell (j:=7) rfl;obtain ⟨R,hR⟩:∃ R,R=L ++ layP t L.length:=⟨_,rfl⟩;rw [<-hR];obtain ⟨k,s0,s1,s2,s3,mn,mx,A,c,tl⟩:=t;simp only [PT.k,PT.mn,PT.mx,PT.A,PT.c,PT.l,Bool.and_eq_true] at *; subst hk htl;obtain ⟨hrk,hri⟩:=hr;obtain ⟨hin1,hcl⟩:=hcov rfl;have hr1:rightP t1=true:=by simpa [inner,rightL] using hri
 have hcov1:CovP es t1:=hcl.get t1 (by simp);have hcnt1:cntP t1 <= 1199:=by simp [cntL] at hcnt;omega
 obtain ⟨⟨kb,ko,rfl,hc1⟩,hp1⟩:=hp.get (k:=0) (t:=t1) rfl;simp only [Nat.zero_add,Nat.zero_mul,Nat.add_zero] at hc1
 have hb:0 <= mn/\mn <= 255 /\ -1 <= mx/\mx <= 255/\(0 <= mx->mn <= mx):=by
  have h:=hrk;simp [rightK] at h;omega
 obtain ⟨hb1,hb2,hb3,hb4,hb5⟩:=hb;obtain ⟨a,rfl⟩:∃ a:Nat,mn=(a:Int):=⟨mn.toNat,by omega⟩;obtain ⟨n1,hn1⟩:∃ n1,n1=sizP t1:=⟨_,rfl⟩;have hlen1:∀ q,(layP t1 q).length=n1:=fun q=>by rw [hn1];exact layP_len t1 q hr1
 have htl1:∀ i,(L ++ timesP (layP t1) n1 i L.length).length=L.length+i * n1:=fun i=>by rw [List.length_append,timesP_len _ _ hlen1]
 have hsz1:a * n1+n1+L.length+2 <= 5000 ∨ 0 <= mx:=by
  by_cases h:mx < 0
  ·left
   rw [hsz] at hL;simp [h,sizL_one,<-hn1,Nat.add_mul] at hL;omega
  right;omega
 have hroom:L.length+a * n1 <= 5000:=by
  rcases hsz1 with h | h
  ·omega
  rw [hsz] at hL;have h':¬ mx < 0:=by omega
  simp [h',sizL_one,<-hn1] at hL;have:a * n1 <= mx.toNat * n1:=Nat.mul_le_mul_right _ (by omega);omega
 have hl1:L.length <= 5000:=by omega
 have HC6:=zh c6';have HC5:=zh c5';have HR:=zh hR;have HOK:=zh hok;have HCOV1:=zh hcov1;have HC1:=zh hc1;have HP1:=zh hp1;have HLEN1:=zh hlen1;have HTL1:=zh htl1;have HN1:=zh hn1;have HSZ:=zh hsz;have HR1:=zh hr1;have HSZ1:=zh hsz1;have HROOM:=zh hroom;have HLL:=zh hL;have HST0:Hid (StL w gy mv l es (L ++ timesP (layP t1) n1 0 L.length) w):=zh (by have h:=StL.start hst hm;simp [timesP];exact h);clear c6' c5' hR hok hcov1 hc1 hp1 hlen1 htl1 hn1 hsz hr1 hsz1 hst hm hc hp hrk hri hin1 hcl hcov hroom hL;go_enter func75,ntmps75
 go_wp2_with fail
 go_loopw [18] (fun v wr=>Rep1 w gy mv l es L t1 n1 a v wr) (fun v _=>a - (intOf v).toNat)
 case atStart=>exact ⟨0,rfl,by omega,HST0.out⟩
 case round=>
  unfold Rep1 at hrel;obtain ⟨i,rfl,hi,hst⟩:=hrel;have HST:=zh hst;clear hst;by_cases hlt:i < a
  ·have hmul:i * n1+n1 <= a * n1:=by
    have h:=Nat.mul_le_mul_right n1 (show i+1 <= a by omega);rw [Nat.succ_mul] at h;exact h
   go_wp2_with fail
   go_at_call 58
   refine (HOK.out.st HST.out HCOV1.out HC1.out HP1.out HR1.out hcnt1 (by rw [HTL1.out,<-HN1.out];have:=HROOM.out;omega)).mono ?_;rintro e w1 ⟨rfl,hst1,-⟩;rw [HTL1.out,List.append_assoc,<-timesP_snoc] at hst1;have HST1:=zh hst1;clear hst1;go_wp2_with fail
   go_roundw
   case rel=>exact ⟨i+1,by go_num,by omega,HST1.out⟩
   case measure=>simp [intOf] <;> omega
  obtain rfl:a=i:=by omega
  obtain ⟨L1,hL1⟩:∃ L1,L1=L ++ timesP (layP t1) n1 a L.length:=⟨_,rfl⟩;have hlL1:L1.length=L.length+a * n1:=by rw [hL1,HTL1.out]
  have hst:=HST.out;rw [<-hL1] at hst;have c6:=HC6.out _ hst.2.2;have c5r:=HC5.out _ hst.2.2;have HST2:=zh hst;have HL1:=zh hL1;have HLL1:=zh hlL1;clear hst hL1 hlL1 c5 c7;by_cases hx:mx = -1
  ·subst hx;go_wp2_with fail
   go_at_call 88
   refine (fork_st HST2.out (by rw [HLL1.out];have:=HROOM.out;omega)).mono ?_;rintro e w1 ⟨rfl,hst1,-⟩;obtain ⟨at_,hat⟩:∃ a,a=L1.length:=⟨_,rfl⟩;rw [<-hat];have HAT:=zh hat;have HST3:=zh hst1;clear hat hst1 c6 c5r;go_wp2_with fail
   go_at_call 58
   have hlen2:(L1 ++ [Sp.fork (L1.length+1) 0]).length=at_+1:=by rw [List.length_append,<-HAT.out];rfl
   refine (HOK.out.st HST3.out HCOV1.out HC1.out HP1.out HR1.out hcnt1 (by rw [hlen2,<-HN1.out,HAT.out,HLL1.out];have:=HSZ1.out.resolve_right (by omega);omega)).mono ?_;rintro e w2 ⟨rfl,hst2,-⟩;rw [hlen2] at hst2;have hlen3:(L1 ++ [Sp.fork (L1.length+1) 0] ++ layP t1 (at_+1)).length=at_+1+n1:=by rw [List.length_append,hlen2,HLEN1.out]
   have HST4:=zh hst2;have HLEN3:=zh hlen3;have HLEN2:=zh hlen2;clear hst2 hlen2 hlen3;go_wp2_with fail
   go_at_call 89
   refine (jump_st HST4.out (by rw [HLEN3.out,HAT.out,HLL1.out];have:=HSZ1.out.resolve_right (by omega);omega) at_).mono ?_;rintro e w3 ⟨rfl,hst3,-⟩;rw [HLEN3.out];have hlen4:at_+2+n1=(L1 ++ [Sp.fork (L1.length+1) 0] ++ layP t1 (at_+1) ++ [Sp.fork at_ at_]).length:=by rw [List.length_append,HLEN3.out];simp;omega
   obtain ⟨N,hN⟩:∃ N,N=at_+2+n1:=⟨_,rfl⟩;rw [<-hN] at hlen4
   have hget:(L1 ++ [Sp.fork (L1.length+1) 0] ++ layP t1 (at_+1) ++ [Sp.fork at_ at_])[at_]?=some (Sp.fork (L1.length+1) 0):=by
    have h:=get_mid L1 (layP t1 (at_+1) ++ [Sp.fork at_ at_]) (Sp.fork (L1.length+1) 0);rw [<-HAT.out] at h;simp [<-HAT.out]
   have HST5:=zh hst3;have HLEN:=zh hlen4;have hNb:N <= 6000:=by rw [hN,HAT.out,HLL1.out];have:=HSZ1.out.resolve_right (by omega);omega
   have hNa:at_ < N:=by omega
   have HGET:=zh hget;have HNN:=zh hN;clear hst3 hlen4 hget hN;go_upto_region 9 with fail
   obtain ⟨B,cap,hgB,hc,hz,⟨u,hu⟩,hst',hBt⟩:=StL.set_ (HST5.out.nil_ ((Fr.refl [] w3).drew)) HGET.out (j:=6) (.inr rfl) (N:Int);rw [<-HLEN.out] at hc;have HST6:=zh hst';have HBT:=zh hBt;have hi1:(at_:Int) < (N:Int):=by omega
   have hi2:at_ < N:=by omega
   have hkb:∀ v,KeepB 3 w3 ((World.drew w3).setCell ⟨B,at_ * 7+6,none⟩ v):=fun v b cs hb=>Bk.far (w:=World.drew w3) hb (HBT.out b 3 cs hb (by decide)) v;clear hst' hBt;refine wp_region_M_ (G:=fun a b=>a=b) (S:=fun W=>W.cell? ⟨gy,1,none⟩=some (.slice (some ⟨B,0,none⟩) N cap)) ⟨fun _=>rfl,fun a b c h k=>h.trans k,fun a b h k=>k ▸ h,by kernel_rfl,fun _ _ d _ _ h=>by cases d <;> exact h⟩ (by kernel_rfl) fun su=>?_
   have SU:=zh su;have HS:=zh hc;clear su
   generalize World.drew w3=wd at *
   have HKB:=zh hkb;clear hkb;refine M_m 0 SU.out HS.out ?_;simp only [PE];refine M_v 1 ?_ SU.out HS.out (fun W hS=>?_) ?_;rotate_left
   ·have hs1:=hS;go_simp;first | done | rfl | omega | (exact IntWalk.i64_in _ (by omega)) | (simp <;> omega)
   simp only [PU];refine M_v 2 ?_ SU.out HS.out (fun W hS=>?_) ?_;rotate_left
   ·have hs1:=hS;go_simp;first | done | rfl | omega | (exact IntWalk.i64_in _ (by omega)) | (simp <;> omega)
   simp only [PU];refine M_v 3 (.slice (some ⟨B,0,none⟩) N cap) SU.out HS.out (fun W hS=>?_) ?_
   ·have hs1:=hS;go_simp;first | done | rfl | omega | (exact IntWalk.i64_in _ (by omega)) | (simp <;> omega)
   simp only [PU];refine M_m 4 SU.out HS.out ?_;simp only [PE];refine M_m 5 SU.out HS.out ?_;simp only [PE];refine M_v 6 ?_ SU.out HS.out (fun W hS=>?_) ?_;rotate_left
   ·have hs1:=hS;go_simp;first | done | rfl | omega | (exact IntWalk.i64_in _ (by omega)) | (simp <;> omega)
   simp only [PU];refine M_v 7 ?_ SU.out HS.out (fun W hS=>?_) ?_;rotate_left
   ·have hs1:=hS;go_simp;first | done | rfl | omega | (exact IntWalk.i64_in _ (by omega)) | (simp <;> omega)
   simp only [PU];refine M_v 8 (.slice (some ⟨B,0,none⟩) N cap) SU.out HS.out (fun W hS=>?_) ?_
   ·have hs1:=hS;go_simp;first | done | rfl | omega | (exact IntWalk.i64_in _ (by omega)) | (simp <;> omega)
   simp only [PU];refine M_v 9 (.int .i64 (N:Int)) SU.out HS.out (fun W hS=>?_) ?_
   ·have hs1:=hS;go_simp;first | done | rfl | omega | (exact IntWalk.i64_in _ (by omega)) | (simp <;> omega)
   simp only [PU];refine M_v 10 (.pointer (some ⟨B,at_ * 7,none⟩)) SU.out HS.out (fun W hS=>?_) ?_
   ·have hs1:=hS;go_simp;first | done | rfl | omega | (exact IntWalk.i64_in _ (by omega)) | (simp <;> omega)
   simp only [PU];refine M_v 11 (.pointer (some ⟨B,at_ * 7+6,none⟩)) SU.out HS.out (fun W hS=>?_) ?_
   ·have hs1:=hS;go_simp;first | done | rfl | omega | (exact IntWalk.i64_in _ (by omega)) | (simp <;> omega)
   simp only [PU];refine wpAnyM_all (rs:=[12]) (by kernel_rfl) (by simp) (fun w' hG=>?_);obtain rfl:=hG;refine allM.head rfl rfl (fun K6 hK6=>?_) allM.nil;go_simp;refine hK6.out _ _ (by go_simp) ?_;clear hK6 K6;refine wpAnyM_done (by kernel_rfl) (fun w' hG=>?_);obtain rfl:=hG;clear SU HS hc hz hu hi1 hi2;go_wp2_with fail
   go_end0
   have hfin:(L1 ++ [Sp.fork (L1.length+1) 0] ++ layP t1 (at_+1) ++ [Sp.fork at_ at_]).set at_ ((Sp.fork (L1.length+1) 0).put 6 N)=R:=by
    have e1:L1 ++ [Sp.fork (L1.length+1) 0] ++ layP t1 (at_+1) ++ [Sp.fork at_ at_]=L1 ++ Sp.fork (L1.length+1) 0 :: (layP t1 (at_+1) ++ [Sp.fork at_ at_]):=by simp
    have hl2:=HLL1.out;have ha2:=HAT.out;have e2:(Sp.fork (L1.length+1) 0).put 6 N=Sp.fork (at_+1) N:=by rw [<-ha2];rfl
    rw [e1,e2]
    conv=>lhs;arg 2;rw [ha2]
    rw [set_mid,HR.out,HL1.out,List.append_assoc]
    congr 1
    rw [layP];have hf:layL [t1]=layP t1:=funext fun a=>layL_one t1 a;simp [hf,sizL_one,<-HN1.out];have ha3:at_=L.length+a * n1:=by omega
    have hN3:N=L.length+(a+1) * n1+2:=by rw [HNN.out,ha3,Nat.add_mul];omega
    rw [ha3,hN3];exact ⟨rfl,rfl,rfl⟩
   have h6:=HST6.out.1;rw [hfin] at h6;exact ⟨rfl,h6⟩
  obtain ⟨d,rfl⟩:∃ d:Nat,mx=(d:Int):=⟨mx.toNat,by omega⟩;have hid:a <= d:=by omega
  obtain ⟨K,hK⟩:∃ K,K=d - a:=⟨_,rfl⟩;have eK1:IntKind.i64.wrap ((d:Int) - (a:Int))=(K:Int):=by rw [IntWalk.i64_in _ (by omega)];omega
  have eK2:(d:Int) - (a:Int)=(K:Int):=by omega
  have eK3:IntKind.i64.wrap (K:Int)=(K:Int):=IntWalk.i64_in _ (by omega);have hxx:((d:Int) == -1)=false:=beq_eq_false_iff_ne.2 (by omega)
  have hroom2:L1.length+K * (n1+1) <= 5000:=by
   have h1:=HLL.out;rw [HSZ.out] at h1;have h':¬ ((d:Int) < 0):=by omega
   simp [h',sizL_one,<-HN1.out] at h1;have h2:=HLL1.out;have h3:=rep_arith a d n1 hid;rw [hK];omega
  have hml:∀ al j,(L1 ++ maybeP (layP t1) n1 al j L1.length).length=L1.length+j * (n1+1):=fun al j=>by rw [List.length_append,maybeP_len _ _ _ HLEN1.out]
  have HML:=zh hml;have HKK:=zh hK;have HX:=zh hx;have HROOM2:=zh hroom2;have HID:=zh hid;have HST7:Hid (StL w gy mv l es (L1 ++ maybeP (layP t1) n1 0 0 L1.length) wr.drew):=zh (by have h:=HST2.out.nil_ ((Fr.refl [] wr).drew);simpa [maybeP] using h);obtain ⟨p0,hp0⟩:∃ p0,p0=L1.length:=⟨_,rfl⟩;have HP0:=zh hp0;clear hml hK hx hroom2 hid hp0;have hk0:0 <= K:=Nat.zero_le _;go_upto_region 11 with fail
  refine wp_region_M_ (G:=fun a b=>a=b) (S:=fun W=>W=World.drew wr) ⟨fun _=>rfl,fun a b c h k=>h.trans k,fun a b h k=>k ▸ h,by kernel_rfl,fun _ _ d _ _ h=>by cases d <;> exact h⟩ (by kernel_rfl) fun su=>?_
  have SU:=zh su;have HS:Hid (World.drew wr=World.drew wr):=zh rfl;clear su;refine M_m 0 SU.out HS.out ?_;simp only [PE];refine M_v 1 ?_ SU.out HS.out (fun W hS=>?_) ?_;rotate_left
  ·obtain rfl:=hS;go_simp;first | done | rfl | omega | (exact IntWalk.i64_in _ (by omega)) | (simp <;> omega)
  simp only [PU];refine M_v 2 ?_ SU.out HS.out (fun W hS=>?_) ?_;rotate_left
  ·obtain rfl:=hS;go_simp;first | done | rfl | omega | (exact IntWalk.i64_in _ (by omega)) | (simp <;> omega)
  simp only [PU];refine M_v 3 (.int .i64 (d:Int)) SU.out HS.out (fun W hS=>?_) ?_
  ·obtain rfl:=hS;go_simp;first | done | rfl | omega | (exact IntWalk.i64_in _ (by omega)) | (simp <;> omega)
  simp only [PU];refine M_m 4 SU.out HS.out ?_;simp only [PE];refine M_v 5 ?_ SU.out HS.out (fun W hS=>?_) ?_;rotate_left
  ·obtain rfl:=hS;go_simp;first | done | rfl | omega | (exact IntWalk.i64_in _ (by omega)) | (simp <;> omega)
  simp only [PU];refine M_v 6 ?_ SU.out HS.out (fun W hS=>?_) ?_;rotate_left
  ·obtain rfl:=hS;go_simp;first | done | rfl | omega | (exact IntWalk.i64_in _ (by omega)) | (simp <;> omega)
  simp only [PU];refine M_v 7 (.int .i64 (a:Int)) SU.out HS.out (fun W hS=>?_) ?_
  ·obtain rfl:=hS;go_simp;first | done | rfl | omega | (exact IntWalk.i64_in _ (by omega)) | (simp <;> omega)
  simp only [PU];refine M_v 8 (.int .i64 (K:Int)) SU.out HS.out (fun W hS=>?_) ?_
  ·obtain rfl:=hS;go_simp;first | done | rfl | omega | (exact IntWalk.i64_in _ (by omega)) | (simp <;> omega)
  simp only [PU];refine M_m 9 SU.out HS.out ?_;simp only [PE];refine wpAnyM_done (by kernel_rfl) (fun w' hG=>?_);obtain rfl:=hG;clear SU HS;clear c6 c5r;go_wp2_with fail
  go_loopw [6,58] (fun v6 v wr=>Rep2 w gy mv l es L1 t1 n1 K v6 v wr) (fun _ v _=>K - (intOf v).toNat)
  case atStart=>exact ⟨0,rfl,by omega,HST7.out,⟨rfl,.inl ⟨rfl,rfl⟩⟩⟩
  case round=>
   unfold Rep2 at hrel;obtain ⟨i,rfl,hi,hst,hown⟩:=hrel;have HST8:=zh hst;have HOWN:=zh hown;clear hst hown;by_cases hlt:i < K
   ·have hmul:i * (n1+1)+(n1+1) <= K * (n1+1):=by
     have h:=Nat.mul_le_mul_right (n1+1) (show i+1 <= K by omega);rw [Nat.succ_mul] at h;exact h
    have hr2:=HROOM2.out;go_wp2_with fail
    go_at_call 88
    refine (fork_st HST8.out (by rw [HML.out];omega)).mono ?_;rintro e w1 ⟨rfl,hst1,hki⟩;rw [HML.out] at hst1 ⊢; rw [<-HP0.out] at hst1 ⊢; obtain ⟨at_,hat⟩:∃ a,a=p0+i * (n1+1):=⟨_,rfl⟩;rw [<-hat] at hst1 ⊢; have HAT:=zh hat;have HST9:=zh hst1;have HOWN2:=zh (own_keep HOWN.out hki);obtain ⟨i0,hi0,hz0,hz1,hz2⟩:=intParts;clear hat hst1 hki;go_upto_region 14 with (at_builtin;refine wpList_append_R rfl (.tmp 60) (.tmp 63) 165 rfl w.heap.size 3 i0 _ 1 8 underlying165 hi0 hz0 hz1 hz2 rfl (by omega) u6 i _ (by first | rfl | simp [Act.eval]) (own_keep HOWN2.out (KeepB.of_nil ((Fr.refl [] w1).alloc _))) ⟨w1.heap.size,0,none⟩ 1 1 [.int .i64 (at_:Int)] (by first | rfl | simp [Act.eval]) rfl (one_new_ w1 3 _) (by simp [Value.oneCell']) (by unfold maxLen;omega) (by omega) ?_ ?_;exact (by have h1:=HST9.out.1;obtain ⟨l9,-, hf9,-⟩:=h1;have h2:=hf9.size;simp;omega);intro v' w4 hown4 hgr hat4;have hst4:=(HST9.out.nil_ ((Fr.refl [] w1).alloc _)).grown hgr (own_base (own_keep HOWN2.out (KeepB.of_nil ((Fr.refl [] w1).alloc _))));have HST4:=zh hst4;have HOWN4:=zh hown4;clear hown4 hgr hat4 hst4)
    have hlen2:(L1 ++ maybeP (layP t1) n1 0 i p0 ++ [Sp.fork (at_+1) 0]).length=at_+1:=by
     rw [List.length_append,HP0.out,HML.out,<-HP0.out,<-HAT.out];rfl
    go_wp2_with fail
    go_at_call 58
    refine (HOK.out.st HST4.out HCOV1.out HC1.out HP1.out HR1.out hcnt1 (by rw [hlen2,<-HN1.out];have:=HAT.out;have:=HP0.out;omega)).mono ?_;rintro e w5 ⟨rfl,hst5,hk5⟩;rw [hlen2,HAT.out] at hst5;have e5:L1 ++ maybeP (layP t1) n1 0 i p0 ++ [Sp.fork (p0+i * (n1+1)+1) 0] ++ layP t1 (p0+i * (n1+1)+1)=L1 ++ maybeP (layP t1) n1 0 (i+1) p0:=by rw [maybeP_snoc];simp
    rw [e5,HP0.out] at hst5;have hown5:=own_keep HOWN4.out hk5
    have e6:(List.range i).map (fun j=>Value.int .i64 ((L1.length+j * (n1+1):Nat):Int)) ++ [.int .i64 (at_:Int)]=(List.range (i+1)).map (fun j=>Value.int .i64 ((L1.length+j * (n1+1):Nat):Int)):=by
     rw [List.range_succ,List.map_append,HAT.out,HP0.out];rfl
    rw [e6] at hown5;have HST5:=zh hst5;have HOWN5:=zh hown5;clear hst5 hk5 e5 hown5 e6 hlen2;go_wp2_with fail
    go_roundw
    case rel=>exact ⟨i+1,by go_num,by omega,HST5.out,HOWN5.out⟩
    case measure=>simp [intOf] <;> omega
   obtain rfl:i=K:=by omega
   obtain ⟨N,hN⟩:∃ N,N=p0+i * (n1+1):=⟨_,rfl⟩;have HST10:Hid (StL w gy mv l es (L1 ++ (maybeP (layP t1) n1 N 0 L1.length ++ maybeP (layP t1) n1 0 (i - 0) (L1.length+0 * (n1+1)))) wr):=zh (by simpa [maybeP] using HST8.out);have HNE:=zh hN;clear hN
   obtain ⟨A6,c6,rfl⟩:∃ A6 c6,u6 = .slice A6 i c6:=by
    obtain ⟨h1,⟨h2,h3⟩ | ⟨b',cap',cur,h2,-⟩⟩:=HOWN.out
    ·exact ⟨none,0,by rw [h2,h3]⟩
    exact ⟨_,_,h2⟩
   go_wp2_with fail
   go_loopw [71] (fun v wr=>Rep3 w gy mv l es L1 t1 n1 i N (.slice A6 i c6) v wr) (fun v _=>i - (intOf v).toNat)
   case atStart=>exact ⟨0,rfl,by omega,HST10.out,HOWN.out⟩
   case round=>
    unfold Rep3 at hrel;obtain ⟨q,rfl,hq,hst,hown⟩:=hrel;have HST11:=zh hst;have HOWN11:=zh hown;clear hst hown;by_cases hlt:q < i
    ·obtain ⟨at_,hat⟩:∃ a,a=L1.length+q * (n1+1):=⟨_,rfl⟩;have hxs:((List.range i).map fun j=>Value.int .i64 ((L1.length+j * (n1+1):Nat):Int))[q]?=some (.int .i64 (at_:Int)):=by rw [List.getElem?_map,List.getElem?_range hlt,hat];rfl
     obtain ⟨bi,rfl,-, -, hcells⟩:=own_cells HOWN11.out (by intro e;rw [e] at hxs;cases hxs);have cq:=hcells q _ hxs;obtain ⟨r,hr⟩:∃ r,i - q=r+1:=⟨i - q - 1,by omega⟩
     have hX:L1 ++ (maybeP (layP t1) n1 N q L1.length ++ maybeP (layP t1) n1 0 (i - q) (L1.length+q * (n1+1)))=(L1 ++ maybeP (layP t1) n1 N q L1.length) ++ Sp.fork (at_+1) 0 :: (layP t1 (at_+1) ++ maybeP (layP t1) n1 0 r (at_+1+n1)):=by
      rw [hr,<-hat,maybeP];simp
     have hst:=HST11.out;rw [hX] at hst;have hla:(L1 ++ maybeP (layP t1) n1 N q L1.length).length=at_:=by rw [HML.out,hat]
     have hget:((L1 ++ maybeP (layP t1) n1 N q L1.length) ++ Sp.fork (at_+1) 0 :: (layP t1 (at_+1) ++ maybeP (layP t1) n1 0 r (at_+1+n1)))[at_]?=some (Sp.fork (at_+1) 0):=by
      have h:=get_mid (L1 ++ maybeP (layP t1) n1 N q L1.length) (layP t1 (at_+1) ++ maybeP (layP t1) n1 0 r (at_+1+n1)) (Sp.fork (at_+1) 0)
      rwa [hla] at h
     have hsetq:((L1 ++ maybeP (layP t1) n1 N q L1.length) ++ Sp.fork (at_+1) 0 :: (layP t1 (at_+1) ++ maybeP (layP t1) n1 0 r (at_+1+n1))).set at_ ((Sp.fork (at_+1) 0).put 6 N)=L1 ++ (maybeP (layP t1) n1 N (q+1) L1.length ++ maybeP (layP t1) n1 0 (i - (q+1)) (L1.length+(q+1) * (n1+1))):=by
      have h:=set_mid (L1 ++ maybeP (layP t1) n1 N q L1.length) (layP t1 (at_+1) ++ maybeP (layP t1) n1 0 r (at_+1+n1)) (Sp.fork (at_+1) 0) ((Sp.fork (at_+1) 0).put 6 N);rw [hla] at h;rw [h,maybeP_snoc,<-hat];have e1:i - (q+1)=r:=by omega
      have e2:L1.length+(q+1) * (n1+1)=at_+1+n1:=by rw [hat,Nat.succ_mul];omega
      have e3:(Sp.fork (at_+1) 0).put 6 N=Sp.fork (at_+1) N:=rfl;rw [e1,e2,e3];simp
     have hlen:N=((L1 ++ maybeP (layP t1) n1 N q L1.length) ++ Sp.fork (at_+1) 0 :: (layP t1 (at_+1) ++ maybeP (layP t1) n1 0 r (at_+1+n1))).length:=by
      rw [List.length_append,hla,List.length_cons,List.length_append,HLEN1.out,maybeP_len _ _ _ HLEN1.out,HNE.out,HP0.out,hat];have h1:=Nat.add_mul q (r+1) (n1+1);rw [show q+(r+1)=i by omega,Nat.succ_mul] at h1;omega
     have hNa:at_ < N:=by rw [hlen,List.length_append,hla];simp
     have hNb:N <= 6000:=by have h1:=HROOM2.out;have h2:=HNE.out;have h3:=HP0.out;omega
     have HSTP:=zh hst;have HLEN:=zh hlen;have HGET:=zh hget;have HSETQ:=zh hsetq;have HAT:=zh hat
     clear hst hlen hget hsetq hat hla hX hr hxs hcells;go_upto_region 19 with fail
     obtain ⟨B,cap,hgB,hc,hz,⟨u,hu⟩,hst',hBt⟩:=StL.set_ (HSTP.out.nil_ ((Fr.refl [] wr).drew)) HGET.out (j:=6) (.inr rfl) (N:Int);rw [<-HLEN.out] at hc;have HSTQ:=zh hst';have HBT:=zh hBt;have hi1:(at_:Int) < (N:Int):=by omega
     have hi2:at_ < N:=by omega
     have hkb:∀ v,KeepB 3 wr ((World.drew wr).setCell ⟨B,at_ * 7+6,none⟩ v):=fun v b cs hb=>Bk.far (w:=World.drew wr) hb (HBT.out b 3 cs hb (by decide)) v;clear hst' hBt;refine wp_region_M_ (G:=fun a b=>a=b) (S:=fun W=>W.cell? ⟨gy,1,none⟩=some (.slice (some ⟨B,0,none⟩) N cap)) ⟨fun _=>rfl,fun a b c h k=>h.trans k,fun a b h k=>k ▸ h,by kernel_rfl,fun _ _ d _ _ h=>by cases d <;> exact h⟩ (by kernel_rfl) fun su=>?_
     have SU:=zh su;have HS:=zh hc;clear su
     generalize World.drew wr=wd at *
     have HKB:=zh hkb;clear hkb;refine M_m 0 SU.out HS.out ?_;simp only [PE];refine M_v 1 ?_ SU.out HS.out (fun W hS=>?_) ?_;rotate_left
     ·have hs1:=hS;go_simp;first | done | rfl | omega | (exact IntWalk.i64_in _ (by omega)) | (simp <;> omega)
     simp only [PU];refine M_v 2 ?_ SU.out HS.out (fun W hS=>?_) ?_;rotate_left
     ·have hs1:=hS;go_simp;first | done | rfl | omega | (exact IntWalk.i64_in _ (by omega)) | (simp <;> omega)
     simp only [PU];refine M_v 3 (.slice (some ⟨B,0,none⟩) N cap) SU.out HS.out (fun W hS=>?_) ?_
     ·have hs1:=hS;go_simp;first | done | rfl | omega | (exact IntWalk.i64_in _ (by omega)) | (simp <;> omega)
     simp only [PU];refine M_m 4 SU.out HS.out ?_;simp only [PE];refine M_m 5 SU.out HS.out ?_;simp only [PE];refine M_v 6 ?_ SU.out HS.out (fun W hS=>?_) ?_;rotate_left
     ·have hs1:=hS;go_simp;first | done | rfl | omega | (exact IntWalk.i64_in _ (by omega)) | (simp <;> omega)
     simp only [PU];refine M_v 7 ?_ SU.out HS.out (fun W hS=>?_) ?_;rotate_left
     ·have hs1:=hS;go_simp;first | done | rfl | omega | (exact IntWalk.i64_in _ (by omega)) | (simp <;> omega)
     simp only [PU];refine M_v 8 (.slice (some ⟨B,0,none⟩) N cap) SU.out HS.out (fun W hS=>?_) ?_
     ·have hs1:=hS;go_simp;first | done | rfl | omega | (exact IntWalk.i64_in _ (by omega)) | (simp <;> omega)
     simp only [PU];refine M_v 9 (.int .i64 (N:Int)) SU.out HS.out (fun W hS=>?_) ?_
     ·have hs1:=hS;go_simp;first | done | rfl | omega | (exact IntWalk.i64_in _ (by omega)) | (simp <;> omega)
     simp only [PU];refine M_v 10 (.pointer (some ⟨B,at_ * 7,none⟩)) SU.out HS.out (fun W hS=>?_) ?_
     ·have hs1:=hS;go_simp;first | done | rfl | omega | (exact IntWalk.i64_in _ (by omega)) | (simp <;> omega)
     simp only [PU];refine M_v 11 (.pointer (some ⟨B,at_ * 7+6,none⟩)) SU.out HS.out (fun W hS=>?_) ?_
     ·have hs1:=hS;go_simp;first | done | rfl | omega | (exact IntWalk.i64_in _ (by omega)) | (simp <;> omega)
     simp only [PU];refine wpAnyM_all (rs:=[12]) (by kernel_rfl) (by simp) (fun w' hG=>?_);obtain rfl:=hG;refine allM.head rfl rfl (fun K6 hK6=>?_) allM.nil;go_simp;refine hK6.out _ _ (by go_simp) ?_;clear hK6 K6;refine wpAnyM_done (by kernel_rfl) (fun w' hG=>?_);obtain rfl:=hG;clear SU HS hc hz hu hi1 hi2;have hst12:=HSTQ.out;rw [HSETQ.out] at hst12;have hown12:=own_keep HOWN11.out (HKB.out (.int .i64 (N:Int)));have HST12:=zh hst12;have HOWN12:=zh hown12;clear hst12 hown12;go_wp2_with fail
     go_roundw
     case rel=>exact ⟨q+1,by go_num,by omega,HST12.out,HOWN12.out⟩
     case measure=>simp [intOf] <;> omega
    obtain rfl:q=i:=by omega
    go_wp2_with fail
    go_end0
    have h6:=HST11.out.1
    have hfin:L1 ++ (maybeP (layP t1) n1 N q L1.length ++ maybeP (layP t1) n1 0 (q - q) (L1.length+q * (n1+1)))=R:=by
     rw [Nat.sub_self,HR.out];rw [layP];have hf:layL [t1]=layP t1:=funext fun a=>layL_one t1 a;have hdn:¬ ((d:Int) < 0):=by omega
     have h1:=HNE.out;have h2:=HP0.out;have h3:=HLL1.out;have h4:=HKK.out;have h5:=rep_arith a d n1 HID.out;have hN3:N=L.length+(d * n1+(d - a)):=by rw [h1,h2,h3,h4];omega
     simp [hf,sizL_one,<-HN1.out,hdn,maybeP];rw [<-h4,<-h3,<-List.append_assoc,<-HL1.out];have h7:L.length+(d * n1+q)=N:=by omega
     rw [h7]
    rw [hfin] at h6;exact ⟨rfl,h6⟩
end Go.Proofs.YtfofechcccodeaaGreatDoor
