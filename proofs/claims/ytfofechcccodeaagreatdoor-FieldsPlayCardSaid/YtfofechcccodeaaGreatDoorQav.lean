/-
  Small texts in one (Ly9, LyA, Ma1). No conditions.
-/
import Derived.Test.YtfofechcccodeaaGreatDoorQau
import Derived.Test.YtfofechcccodeaaGreatDoorQat
namespace Go.Proofs.YtfofechcccodeaaGreatDoor
open Go.RowKit Go.ChangeMaps Go.Proofs.Tryz
set_option linter.unusedVariables false
set_option linter.unusedSimpArgs false
set_option maxRecDepth 100000
set_option maxHeartbeats 16000000
def chO (all:Nat):List PT->Nat->List Sp
 | [],_=>[]
 | t :: r,a=>Sp.fork (a+1) (a+2+sizP t) :: (layP t (a+1) ++ Sp.fork all all :: chO all r (a+2+sizP t))
theorem rightL_append:∀ (a b:List PT),rightL (a ++ b)=(rightL a && rightL b)
 | [],b=>by simp [rightL]
 | t :: r,b=>by rw [List.cons_append,rightL,rightL_append r b,rightL,Bool.and_assoc]
def endsP:List PT->Nat->List Nat
 | [],_=>[]
 | t :: r,a=>(a+1+sizP t) :: endsP r (a+2+sizP t)
theorem chO_snoc (all:Nat):∀ (ts:List PT) (t:PT) (a:Nat),chO all (ts ++ [t]) a=chO all ts a ++ (Sp.fork (a+(sizL ts+2 * ts.length)+1) (a+(sizL ts+2 * ts.length)+2+sizP t) :: (layP t (a+(sizL ts+2 * ts.length)+1) ++ [Sp.fork all all]))
 | [],t,a=>by simp [chO,sizL]
 | u :: r,t,a=>by
  rw [List.cons_append,chO,chO_snoc all r t,chO,sizL];have e:a+2+sizP u+(sizL r+2 * r.length)=a+(sizP u+sizL r+2 * (u :: r).length):=by simp;omega
  rw [e];simp
theorem chO_len (all:Nat):∀ (ts:List PT) (a:Nat),rightL ts=true->(chO all ts a).length=sizL ts+2 * ts.length
 | [],a,_=>by simp [chO,sizL]
 | t :: r,a,h=>by
  simp only [rightL,Bool.and_eq_true] at h;simp [chO,sizL,layP_len t _ h.1,chO_len all r _ h.2];omega
theorem layO_eq:∀ (ts:List PT) (t:PT) (a all:Nat),layO (ts ++ [t]) a all=chO all ts a ++ layP t (a+(sizL ts+2 * ts.length))
 | [],t,a,all=>by simp [layO,chO,sizL]
 | u :: r,t,a,all=>by
  have hne:(r ++ [t]).isEmpty=false:=by cases r <;> rfl
  rw [List.cons_append,layO,hne,layO_eq r t,chO,sizL];have e:a+2+sizP u+(sizL r+2 * r.length)=a+(sizP u+sizL r+2 * (u :: r).length):=by simp;omega
  rw [e];simp
theorem endsP_snoc:∀ (ts:List PT) (t:PT) (a:Nat),endsP (ts ++ [t]) a=endsP ts a ++ [a+(sizL ts+2 * ts.length)+1+sizP t]
 | [],t,a=>by simp [endsP,sizL]
 | u :: r,t,a=>by
  rw [List.cons_append,endsP,endsP_snoc r t,endsP,sizL];have e:a+2+sizP u+(sizL r+2 * r.length)=a+(sizP u+sizL r+2 * (u :: r).length):=by simp;omega
  rw [e];rfl
theorem endsP_get:∀ (ts:List PT) (a q:Nat) (t:PT),ts[q]?=some t->(endsP ts a)[q]?=some (a+(sizL (ts.take q)+2 * q)+1+sizP t)
 | [],a,q,t,h=>by simp at h
 | u :: r,a,0,t,h=>by
  simp at h;subst h;simp [endsP,sizL]
 | u :: r,a,q+1,t,h=>by
  have ih:=endsP_get r (a+2+sizP u) q t (by simpa using h);rw [endsP,List.getElem?_cons_succ,ih,List.take_succ_cons,sizL]
  congr 1;omega
theorem chO_drop (all:Nat) (ts:List PT) (q:Nat) (t:PT) (a:Nat) (h:ts[q]?=some t):chO all (ts.drop q) a=Sp.fork (a+1) (a+2+sizP t) :: (layP t (a+1) ++ Sp.fork all all :: chO all (ts.drop (q+1)) (a+2+sizP t)):=by
 have hlt:q < ts.length:=by
  rcases Nat.lt_or_ge q ts.length with h1 | h1
  ·exact h1
  rw [List.getElem?_eq_none h1] at h;cases h
 rw [List.drop_eq_getElem_cons hlt];have:ts[q]=t:=by rw [List.getElem?_eq_getElem hlt] at h;injection h
 rw [this,chO]
theorem take_next {ts:List PT} {q:Nat} {t:PT} (h:ts[q]?=some t):ts.take (q+1)=ts.take q ++ [t]:=by
 rw [List.take_add_one,h];rfl
theorem take_len {ts:List PT} {q:Nat} (h:q <= ts.length):(ts.take q).length=q:=by rw [List.length_take];omega
def ChA (w:World) (gy mv:Nat) (l:List Nat) (es:List (Ky × Ex)) (L:List Sp) (us:List PT) (v4 v:Value) (wr:World):Prop:=
 ∃ i:Nat,v = .int .i64 (i:Int)/\i <= us.length/\StL w gy mv l es (L ++ chO 0 (us.take i) L.length) wr/\wr.ownsRow w.heap.size 3 1 v4 i ((endsP (us.take i) L.length).map fun x:Nat=>Value.int .i64 (x:Int))
def ChB (w:World) (gy mv:Nat) (l:List Nat) (es:List (Ky × Ex)) (L:List Sp) (us:List PT) (tl:List Sp) (all:Nat) (v4 v:Value) (wr:World):Prop:=
 ∃ q:Nat,v = .int .i64 (q:Int)/\q <= us.length/\StL w gy mv l es (L ++ (chO all (us.take q) L.length ++ (chO 0 (us.drop q) (L.length+(sizL (us.take q)+2 * q)) ++ tl))) wr/\wr.ownsRow w.heap.size 3 1 v4 us.length ((endsP us L.length).map fun x:Nat=>Value.int .i64 (x:Int))
theorem choice_of (us:List PT) (tl:PT) (hok:∀ t ∈ us ++ [tl],LayOk t):ChoiceOk (us ++ [tl]):=by
 intro w gy mv l es L A c hst hm hcov hp hr h0 hcnt hL;obtain ⟨n,hn⟩:∃ n,n=us.length:=⟨_,rfl⟩;have hlen:(us ++ [tl]).length=n+1:=by simp;exact hn.symm
 have hrl:rightL us=true:=by rw [rightL_append] at hr;simp at hr;exact hr.1
 have hsz:sizL (us ++ [tl])=sizL us+sizP tl:=by rw [sizL_append,sizL_one]
 obtain ⟨all,hall⟩:∃ all,all=L.length+(sizL us+2 * n+sizP tl):=⟨_,rfl⟩
 have hgoal:L ++ layO (us ++ [tl]) L.length (L.length+(sizL (us ++ [tl])+2 * ((us ++ [tl]).length - 1)))=L ++ (chO all us L.length ++ layP tl (L.length+(sizL us+2 * n))):=by
  rw [layO_eq,hsz,hlen,<-hn];have e:L.length+(sizL us+sizP tl+2 * (n+1 - 1))=all:=by rw [hall];simp;omega
  rw [e]
 rw [hgoal];rw [hsz,hlen] at hL;rw [hlen];have hcn:n <= 1198:=by have:=cntL_len (us ++ [tl]);rw [hlen] at this;omega
 have HOK:=zh hok;have HST:=zh hst;have HM:=zh hm;have HCOV:=zh hcov;have HP:=zh hp;have HR:=zh hr;have HCNT:=zh hcnt;have HL:=zh hL;have HN:=zh hn;have HLEN0:=zh hlen;have HRL:=zh hrl;have HALL:=zh hall;have HST0:Hid (StL w gy mv l es (L ++ chO 0 (us.take 0) L.length) w):=zh (by have h:=StL.start hst hm;simpa [chO] using h);clear hok hst hm hcov hp hr hcnt hL hn hlen hrl hall hsz hgoal h0;go_enter func74,ntmps74
 go_wp2_with fail
 go_loopw [4,14] (fun v4 v wr=>ChA w gy mv l es L us v4 v wr) (fun _ v _=>n - (intOf v).toNat)
 case atStart=>exact ⟨0,rfl,Nat.zero_le _,HST0.out,⟨rfl,.inl ⟨rfl,rfl⟩⟩⟩
 case round=>
  unfold ChA at hrel;obtain ⟨i,rfl,hi,hst,hown⟩:=hrel;rw [<-HN.out] at hi;have HST1:=zh hst;have HOWN:=zh hown;clear hst hown;by_cases hlt:i < n
  ·obtain ⟨t,ht⟩:∃ t,us[i]?=some t:=⟨_,List.getElem?_eq_getElem (by rw [<-HN.out];exact hlt)⟩;have ht':(us ++ [tl])[i]?=some t:=by rw [List.getElem?_append_left (by rw [<-HN.out];exact hlt)];exact ht
   have htm:t ∈ us ++ [tl]:=List.mem_of_getElem? ht';obtain ⟨⟨b,off,rfl,hc⟩,hpt⟩:=HP.out.get ht';rw [Nat.zero_add] at hc;have hrt:rightP t=true:=rightL_get htm HR.out;have hct:cntP t <= 1199:=by have h1:=cntL_mem htm;have h2:=HCNT.out;omega
   obtain ⟨p0,hp0⟩:∃ p0,p0=L.length+(sizL (us.take i)+2 * i):=⟨_,rfl⟩
   have hlc:(L ++ chO 0 (us.take i) L.length).length=p0:=by
    rw [List.length_append,chO_len 0 _ _ (rightL_takes us i HRL.out),take_len (by rw [<-HN.out];omega),hp0]
   have hroom:p0+sizP t+2 <= 5000:=by
    have h1:=sizL_take_le us (i+1);rw [take_next ht,sizL_append,sizL_one] at h1;have h2:=HL.out;omega
   have HT:=zh ht;have HTM:=zh htm;have HC:=zh hc;have HPT:=zh hpt;have HRT:=zh hrt;have HCT:=zh hct;have HP0:=zh hp0;have HLC:=zh hlc;have hiA:i < n+1:=by omega
   clear ht ht' htm hc hpt hrt hct hp0 hlc;go_wp2_with fail
   go_at_call 88
   refine (fork_st HST1.out (by rw [HLC.out];omega)).mono ?_;rintro e w1 ⟨rfl,hst1,hk1⟩;rw [HLC.out] at hst1 ⊢; have HST2:=zh hst1;have HOWN2:=zh (own_keep HOWN.out hk1);have hlen2:(L ++ chO 0 (us.take i) L.length ++ [Sp.fork (p0+1) 0]).length=p0+1:=by rw [List.length_append,HLC.out];rfl
   have HLEN2:=zh hlen2;clear hst1 hk1 hlen2;go_wp2_with fail
   go_at_call 58
   refine ((HOK.out t HTM.out).st HST2.out (HCOV.out.get t HTM.out) HC.out HPT.out HRT.out HCT.out (by rw [HLEN2.out];omega)).mono ?_;rintro e w2 ⟨rfl,hst2,hk2⟩;rw [HLEN2.out] at hst2;have hlen3:(L ++ chO 0 (us.take i) L.length ++ [Sp.fork (p0+1) 0] ++ layP t (p0+1)).length=p0+1+sizP t:=by rw [List.length_append,HLEN2.out,layP_len t _ HRT.out]
   have HST3:=zh hst2;have HOWN3:=zh (own_keep HOWN2.out hk2);have HLEN3:=zh hlen3;clear hst2 hk2 hlen3;go_wp2_with fail
   go_at_call 89
   refine (jump_st HST3.out (by rw [HLEN3.out];omega) 0).mono ?_;rintro e w3 ⟨rfl,hst3,hk3⟩;rw [HLEN3.out];obtain ⟨at2,hat2⟩:∃ x,x=p0+1+sizP t:=⟨_,rfl⟩;rw [<-hat2];have HST4:=zh hst3;have HOWN4:=zh (own_keep HOWN3.out hk3);have HAT2:=zh hat2;obtain ⟨i0,hi0,hz0,hz1,hz2⟩:=intParts;clear hst3 hk3 hat2;go_upto_region 8 with (at_builtin;refine wpList_append_R rfl (.tmp 24) (.tmp 27) 165 rfl w.heap.size 3 i0 _ 1 8 underlying165 hi0 hz0 hz1 hz2 rfl (by omega) u4 i _ (by first | rfl | simp [Act.eval]) (own_keep HOWN4.out (KeepB.of_nil ((Fr.refl [] w3).alloc _))) ⟨w3.heap.size,0,none⟩ 1 1 [.int .i64 (at2:Int)] (by first | rfl | simp [Act.eval]) rfl (one_new_ w3 3 _) (by simp [Value.oneCell']) (by unfold maxLen;omega) (by omega) ?_ ?_;exact (by have h1:=HST4.out.1;obtain ⟨l9,-, hf9,-⟩:=h1;have h2:=hf9.size;simp;omega);intro v' w4 hown4 hgr hat4;have hst4:=(HST4.out.nil_ ((Fr.refl [] w3).alloc _)).grown hgr (own_base (own_keep HOWN4.out (KeepB.of_nil ((Fr.refl [] w3).alloc _))));have HST5:=zh hst4;have HOWN5:=zh hown4;clear hown4 hgr hat4 hst4)
   obtain ⟨N,hN⟩:∃ N,N=at2+1:=⟨_,rfl⟩;have hNa:p0 < N:=by rw [hN,HAT2.out];omega
   have hNb:N <= 6000:=by rw [hN,HAT2.out];omega
   have hX:L ++ chO 0 (us.take i) L.length ++ [Sp.fork (p0+1) 0] ++ layP t (p0+1) ++ [Sp.fork 0 0]=(L ++ chO 0 (us.take i) L.length) ++ Sp.fork (p0+1) 0 :: (layP t (p0+1) ++ [Sp.fork 0 0]):=by simp
   have hst5:=HST5.out;rw [hX] at hst5
   have hget:((L ++ chO 0 (us.take i) L.length) ++ Sp.fork (p0+1) 0 :: (layP t (p0+1) ++ [Sp.fork 0 0]))[p0]?=some (Sp.fork (p0+1) 0):=by
    have h:=get_mid (L ++ chO 0 (us.take i) L.length) (layP t (p0+1) ++ [Sp.fork 0 0]) (Sp.fork (p0+1) 0)
    rwa [HLC.out] at h
   have hset:((L ++ chO 0 (us.take i) L.length) ++ Sp.fork (p0+1) 0 :: (layP t (p0+1) ++ [Sp.fork 0 0])).set p0 ((Sp.fork (p0+1) 0).put 6 N)=L ++ chO 0 (us.take (i+1)) L.length:=by
    have h:=set_mid (L ++ chO 0 (us.take i) L.length) (layP t (p0+1) ++ [Sp.fork 0 0]) (Sp.fork (p0+1) 0) ((Sp.fork (p0+1) 0).put 6 N);rw [HLC.out] at h;rw [h,take_next HT.out,chO_snoc,take_len (by rw [<-HN.out];omega),<-HP0.out]
    have e3:(Sp.fork (p0+1) 0).put 6 N=Sp.fork (p0+1) (p0+2+sizP t):=by
     have:N=p0+2+sizP t:=by rw [hN,HAT2.out];omega
     rw [this];rfl
    rw [e3];simp
   have hlenN:N=((L ++ chO 0 (us.take i) L.length) ++ Sp.fork (p0+1) 0 :: (layP t (p0+1) ++ [Sp.fork 0 0])).length:=by
    rw [List.length_append,HLC.out,List.length_cons,List.length_append,layP_len t _ HRT.out,hN,HAT2.out];simp;omega
   have HSTP:=zh hst5;have HLEN:=zh hlenN;have HGET:=zh hget;have HSET:=zh hset;have HNN:=zh hN;clear hst5 hlenN hget hset hN hX;obtain ⟨B,cap,hgB,hc,hz,⟨u,hu⟩,hst',hBt⟩:=StL.set_ (HSTP.out.nil_ ((Fr.refl [] w4).drew)) HGET.out (j:=6) (.inr rfl) (N:Int);rw [<-HLEN.out] at hc;have HSTQ:=zh hst';have HBT:=zh hBt;have hi1:(p0:Int) < (N:Int):=by omega
   have hi2:p0 < N:=by omega
   have hkb:∀ v,KeepB 3 w4 ((World.drew w4).setCell ⟨B,p0 * 7+6,none⟩ v):=fun v b cs hb=>Bk.far (w:=World.drew w4) hb (HBT.out b 3 cs hb (by decide)) v;clear hst' hBt;refine wp_region_M_ (G:=fun a b=>a=b) (S:=fun W=>W.cell? ⟨gy,1,none⟩=some (.slice (some ⟨B,0,none⟩) N cap)) ⟨fun _=>rfl,fun a b c h k=>h.trans k,fun a b h k=>k ▸ h,by kernel_rfl,fun _ _ d _ _ h=>by cases d <;> exact h⟩ (by kernel_rfl) fun su=>?_
   have SU:=zh su;have HS:=zh hc;clear su
   generalize World.drew w4=wd at *
   have HKB:=zh hkb;clear hkb;refine M_m 0 SU.out HS.out ?_;simp only [PE];refine M_v 1 ?_ SU.out HS.out (fun W hS=>?_) ?_;rotate_left
   ·have hs1:=hS;go_simp;first | done | rfl | omega | (exact IntWalk.i64_in _ (by omega)) | (simp <;> omega)
   simp only [PU];refine M_v 2 ?_ SU.out HS.out (fun W hS=>?_) ?_;rotate_left
   ·have hs1:=hS;go_simp;first | done | rfl | omega | (exact IntWalk.i64_in _ (by omega)) | (simp <;> omega)
   simp only [PU];refine M_v 3 (.slice (some ⟨B,0,none⟩) N cap) SU.out HS.out (fun W hS=>?_) ?_
   ·have hs1:=hS;go_simp;first | done | rfl | omega | (exact IntWalk.i64_in _ (by omega)) | (simp <;> omega)
   simp only [PU];refine M_m 4 SU.out HS.out ?_;simp only [PE];refine M_m 5 SU.out HS.out ?_;simp only [PE];refine M_v 6 ?_ SU.out HS.out (fun W hS=>?_) ?_;rotate_left
   ·have hs1:=hS;go_simp;first | done | rfl | omega | (exact IntWalk.i64_in _ (by omega)) | (simp <;> omega)
   simp only [PU];refine M_v 7 ?_ SU.out HS.out (fun W hS=>?_) ?_;rotate_left
   ·have hs1:=hS;go_simp;first | done | rfl | omega | (exact IntWalk.i64_in _ (by omega)) | (simp <;> omega)
   simp only [PU];refine M_v 8 (.slice (some ⟨B,0,none⟩) N cap) SU.out HS.out (fun W hS=>?_) ?_
   ·have hs1:=hS;go_simp;first | done | rfl | omega | (exact IntWalk.i64_in _ (by omega)) | (simp <;> omega)
   simp only [PU];refine M_v 9 (.int .i64 (N:Int)) SU.out HS.out (fun W hS=>?_) ?_
   ·have hs1:=hS;go_simp;first | done | rfl | omega | (exact IntWalk.i64_in _ (by omega)) | (simp <;> omega)
   simp only [PU];refine M_v 10 (.pointer (some ⟨B,p0 * 7,none⟩)) SU.out HS.out (fun W hS=>?_) ?_
   ·have hs1:=hS;go_simp;first | done | rfl | omega | (exact IntWalk.i64_in _ (by omega)) | (simp <;> omega)
   simp only [PU];refine M_v 11 (.pointer (some ⟨B,p0 * 7+6,none⟩)) SU.out HS.out (fun W hS=>?_) ?_
   ·have hs1:=hS;go_simp;first | done | rfl | omega | (exact IntWalk.i64_in _ (by omega)) | (simp <;> omega)
   simp only [PU];refine wpAnyM_all (rs:=[12]) (by kernel_rfl) (by simp) (fun w' hG=>?_);obtain rfl:=hG;refine allM.head rfl rfl (fun K6 hK6=>?_) allM.nil;go_simp;refine hK6.out _ _ (by go_simp) ?_;clear hK6 K6;refine wpAnyM_done (by kernel_rfl) (fun w' hG=>?_);obtain rfl:=hG;clear SU HS hc hz hu hi1 hi2;have hst6:=HSTQ.out;rw [HSET.out] at hst6;have hown6:=own_keep HOWN5.out (HKB.out (.int .i64 (N:Int)))
   have e6:((endsP (us.take i) L.length).map fun x:Nat=>Value.int .i64 (x:Int)) ++ [.int .i64 (at2:Int)]=(endsP (us.take (i+1)) L.length).map fun x:Nat=>Value.int .i64 (x:Int):=by
    rw [take_next HT.out,endsP_snoc,List.map_append,take_len (by rw [<-HN.out];omega),<-HP0.out,<-HAT2.out];rfl
   rw [e6] at hown6;have HST6:=zh hst6;have HOWN6:=zh hown6;clear hst6 hown6 e6;go_wp2_with fail
   go_roundw
   case rel=>exact ⟨i+1,by go_num,by rw [<-HN.out];omega,HST6.out,HOWN6.out⟩
   case measure=>simp [intOf] <;> omega
  obtain rfl:i=n:=by omega
  have htk:us.take i=us:=List.take_of_length_le (by rw [<-HN.out];exact Nat.le_refl _);have hst:=HST1.out;have hown:=HOWN.out;rw [htk] at hst hown;have htl:(us ++ [tl])[i]?=some tl:=by rw [HN.out];simp
  have htm:tl ∈ us ++ [tl]:=by simp
  obtain ⟨⟨b,off,rfl,hc⟩,hpt⟩:=HP.out.get htl;rw [Nat.zero_add] at hc;have hrt:rightP tl=true:=rightL_get htm HR.out;have hct:cntP tl <= 1199:=by have h1:=cntL_mem htm;have h2:=HCNT.out;omega
  obtain ⟨p0,hp0⟩:∃ p0,p0=L.length+(sizL us+2 * i):=⟨_,rfl⟩
  have hlc:(L ++ chO 0 us L.length).length=p0:=by
   rw [List.length_append,chO_len 0 _ _ HRL.out,<-HN.out,hp0]
  have hroom:p0+sizP tl <= 5000:=by have h2:=HL.out;omega
  have HST2:=zh hst;have HOWN2:=zh hown;have HTM:=zh htm;have HC:=zh hc;have HPT:=zh hpt;have HRT:=zh hrt;have HCT:=zh hct;have HP0:=zh hp0;have HLC:=zh hlc;have hiA:i < i+1:=by omega
  clear hst hown htk htl htm hc hpt hrt hct hp0 hlc HST1 HOWN hlt
  obtain ⟨A4,c4,rfl⟩:∃ A4 c4,u4 = .slice A4 i c4:=by
   obtain ⟨h1,⟨h2,h3⟩ | ⟨b',cap',cur,h2,-⟩⟩:=HOWN2.out
   ·exact ⟨none,0,by rw [h2,h3]⟩
   exact ⟨_,_,h2⟩
  go_wp2_with fail
  go_at_call 58
  refine ((HOK.out tl HTM.out).st HST2.out (HCOV.out.get tl HTM.out) HC.out HPT.out HRT.out HCT.out (by rw [HLC.out];exact hroom)).mono ?_;rintro e w2 ⟨rfl,hst2,hk2⟩;rw [HLC.out] at hst2;obtain ⟨T,hT⟩:∃ T,T=layP tl p0:=⟨_,rfl⟩;rw [<-hT] at hst2;have hTl:T.length=sizP tl:=by rw [hT,layP_len tl _ HRT.out]
  have hst3:StL w gy mv l es (L ++ (chO all (us.take 0) L.length ++ (chO 0 (us.drop 0) (L.length+(sizL (us.take 0)+2 * 0)) ++ T))) w2:=by
   have h:=hst2;rw [List.append_assoc] at h
   simpa [chO,sizL] using h
  have hall:all=p0+sizP tl:=by rw [HALL.out,HP0.out];omega
  have hown3:=own_keep HOWN2.out hk2;have HST3:=zh hst3;have HOWN3:=zh hown3;have HT:=zh hT;have HTL:=zh hTl;have HALL2:=zh hall;clear hst2 hk2 hT hTl hst3 hown3 hall HST2 HOWN2;have hal:all <= 5000:=by rw [HALL2.out];exact hroom
  go_wp2_with fail
  go_loopw [49] (fun v wr=>ChB w gy mv l es L us T all (.slice A4 i c4) v wr) (fun v _=>i - (intOf v).toNat)
  case atStart=>exact ⟨0,rfl,Nat.zero_le _,HST3.out,by rw [<-HN.out];exact HOWN3.out⟩
  case round=>
   unfold ChB at hrel;obtain ⟨q,rfl,hq,hst,hown⟩:=hrel;rw [<-HN.out] at hq hown;have HST4:=zh hst;have HOWN4:=zh hown;clear hst hown;by_cases hlt:q < i
   ·obtain ⟨t,ht⟩:∃ t,us[q]?=some t:=⟨_,List.getElem?_eq_getElem (by rw [<-HN.out];exact hlt)⟩;obtain ⟨a0,ha0⟩:∃ a0,a0=L.length+(sizL (us.take q)+2 * q):=⟨_,rfl⟩;obtain ⟨at_,hat⟩:∃ x,x=a0+1+sizP t:=⟨_,rfl⟩
    have hxs:((endsP us L.length).map fun x:Nat=>Value.int .i64 (x:Int))[q]?=some (.int .i64 (at_:Int)):=by
     rw [List.getElem?_map,endsP_get us L.length q t ht,<-ha0,<-hat];rfl
    obtain ⟨bi,rfl,-, -, hcells⟩:=own_cells HOWN4.out (by intro e;rw [e] at hxs;cases hxs);have cq:=hcells q _ hxs;have hrt:rightP t=true:=rightL_get (List.mem_of_getElem? ht) HRL.out
    have hX:L ++ (chO all (us.take q) L.length ++ (chO 0 (us.drop q) a0 ++ T))=(L ++ chO all (us.take q) L.length ++ Sp.fork (a0+1) (a0+2+sizP t) :: layP t (a0+1)) ++ Sp.fork 0 0 :: (chO 0 (us.drop (q+1)) (a0+2+sizP t) ++ T):=by
     rw [chO_drop 0 us q t a0 ht];simp
    have hpl:(L ++ chO all (us.take q) L.length ++ Sp.fork (a0+1) (a0+2+sizP t) :: layP t (a0+1)).length=at_:=by
     rw [List.length_append,List.length_append,chO_len all _ _ (rightL_takes us q HRL.out),take_len (by rw [<-HN.out];omega),List.length_cons,layP_len t _ hrt,hat,ha0];omega
    have hst:=HST4.out;rw [<-ha0,hX] at hst
    have hget:((L ++ chO all (us.take q) L.length ++ Sp.fork (a0+1) (a0+2+sizP t) :: layP t (a0+1)) ++ Sp.fork 0 0 :: (chO 0 (us.drop (q+1)) (a0+2+sizP t) ++ T))[at_]?=some (Sp.fork 0 0):=by
     have h:=get_mid (L ++ chO all (us.take q) L.length ++ Sp.fork (a0+1) (a0+2+sizP t) :: layP t (a0+1)) (chO 0 (us.drop (q+1)) (a0+2+sizP t) ++ T) (Sp.fork 0 0)
     rwa [hpl] at h
    obtain ⟨Z,hZ⟩:∃ Z,Z=(L ++ chO all (us.take q) L.length ++ Sp.fork (a0+1) (a0+2+sizP t) :: layP t (a0+1)) ++ Sp.fork 0 0 :: (chO 0 (us.drop (q+1)) (a0+2+sizP t) ++ T):=⟨_,rfl⟩
    have hset:(Z.set at_ ((Sp.fork 0 0).put 5 all)).set at_ (((Sp.fork 0 0).put 5 all).put 6 all)=L ++ (chO all (us.take (q+1)) L.length ++ (chO 0 (us.drop (q+1)) (L.length+(sizL (us.take (q+1))+2 * (q+1))) ++ T)):=by
     rw [List.set_set,hZ];have h:=set_mid (L ++ chO all (us.take q) L.length ++ Sp.fork (a0+1) (a0+2+sizP t) :: layP t (a0+1)) (chO 0 (us.drop (q+1)) (a0+2+sizP t) ++ T) (Sp.fork 0 0) (((Sp.fork 0 0).put 5 all).put 6 all);rw [hpl] at h;rw [h,take_next ht,chO_snoc,take_len (by rw [<-HN.out];omega),<-ha0,sizL_append,sizL_one];have e3:((Sp.fork 0 0).put 5 all).put 6 all=Sp.fork all all:=rfl;have e4:L.length+(sizL (us.take q)+sizP t+2 * (q+1))=a0+2+sizP t:=by rw [ha0];omega
     rw [e3,e4];simp
    have hlenN:all=Z.length:=by
     rw [hZ,<-hX,List.length_append,List.length_append,List.length_append,chO_len all _ _ (rightL_takes us q HRL.out),take_len (by rw [<-HN.out];omega),HTL.out]
     have hrd:rightL (us.drop q)=true:=by
      have h:=rightL_append (us.take q) (us.drop q);rw [List.take_append_drop,HRL.out] at h;have h':=h.symm;rw [Bool.and_eq_true] at h';exact h'.2
     rw [chO_len 0 _ _ hrd,List.length_drop,<-HN.out,HALL2.out,HP0.out];have h:=sizL_append (us.take q) (us.drop q);rw [List.take_append_drop] at h;omega
    rw [<-hZ] at hst hget
    have hNa:at_ < all:=by
     rw [hlenN,hZ,List.length_append,hpl];simp
    have HSTP:=zh hst;have HLEN:=zh hlenN;have HGET:=zh hget;have HSET:=zh hset;clear hst hlenN hget hset hZ hX hpl hxs hcells ha0 hat ht hrt;obtain ⟨N,hN⟩:∃ N,N=all:=⟨_,rfl⟩;have HNN:=zh hN;rw [<-hN] at hNa hal;clear hN;go_upto_region 14 with fail
    obtain ⟨B,cap,hgB,hc,hz,⟨u,hu⟩,hst',hBt⟩:=StL.set_ (HSTP.out.nil_ ((Fr.refl [] wr).drew)) HGET.out (j:=5) (.inl rfl) (N:Int)
    have hget2:(Z.set at_ ((Sp.fork 0 0).put 5 N))[at_]?=some ((Sp.fork 0 0).put 5 N):=by
     rw [List.getElem?_set_self];rw [<-HLEN.out,<-HNN.out];exact hNa
    obtain ⟨B2,cap2,hgB2,hc2,hz2,⟨u2,hu2⟩,hst2,hBt2⟩:=StL.set_ hst' hget2 (j:=6) (.inr rfl) (N:Int)
    have hcx:((World.drew wr).setCell ⟨B,at_ * 7+5,none⟩ (.int .i64 (N:Int))).cell? ⟨gy,1,none⟩=some (.slice (some ⟨B,0,none⟩) Z.length cap):=by
     exact (((Fr.refl [B] (World.drew wr)).setCell (.inl (by simp)) _).cell (p:=⟨gy,1,none⟩) (World.block_lt_of_cell? _ _ hc) (by simpa using hgB)).trans hc
    rw [hcx] at hc2;simp only [Option.some.injEq,Value.slice.injEq,Addr.mk.injEq] at hc2;obtain ⟨⟨hBB,-⟩,-, -⟩:=hc2;subst hBB;rw [<-HLEN.out,<-HNN.out] at hc;have HSTQ:=zh hst2;have HBT:=zh hBt;have hi1:(at_:Int) < (N:Int):=by omega
    have hkb:KeepB 3 wr (((World.drew wr).setCell ⟨B,at_ * 7+5,none⟩ (.int .i64 (N:Int))).setCell ⟨B,at_ * 7+6,none⟩ (.int .i64 (N:Int))):=fun b cs hb=>Bk.far (Bk.far (w:=World.drew wr) hb (HBT.out b 3 cs hb (by decide)) _) (HBT.out b 3 cs hb (by decide)) _;have HKB:=zh hkb;clear hst' hBt hst2 hBt2 hget2 hcx hkb hgB2;refine wp_region_M_ (G:=fun a b=>a=b) (S:=fun W=>W.cell? ⟨gy,1,none⟩=some (.slice (some ⟨B,0,none⟩) N cap)) ⟨fun _=>rfl,fun a b c h k=>h.trans k,fun a b h k=>k ▸ h,by kernel_rfl,fun _ _ d _ _ h=>by cases d <;> exact h⟩ (by kernel_rfl) fun su=>?_
    have SU:=zh su;have HS:=zh hc;clear su
    generalize World.drew wr=wd at *
    refine M_m 0 SU.out HS.out ?_;simp only [PE];refine M_v 1 ?_ SU.out HS.out (fun W hS=>?_) ?_;rotate_left
    ·have hs1:=hS;go_simp;first | done | rfl | omega | (exact IntWalk.i64_in _ (by omega)) | (simp <;> omega)
    simp only [PU];refine M_v 2 ?_ SU.out HS.out (fun W hS=>?_) ?_;rotate_left
    ·have hs1:=hS;go_simp;first | done | rfl | omega | (exact IntWalk.i64_in _ (by omega)) | (simp <;> omega)
    simp only [PU];refine M_v 3 (.slice (some ⟨B,0,none⟩) N cap) SU.out HS.out (fun W hS=>?_) ?_
    ·have hs1:=hS;go_simp;first | done | rfl | omega | (exact IntWalk.i64_in _ (by omega)) | (simp <;> omega)
    simp only [PU];refine M_m 4 SU.out HS.out ?_;simp only [PE];refine M_m 5 SU.out HS.out ?_;simp only [PE];refine M_v 6 ?_ SU.out HS.out (fun W hS=>?_) ?_;rotate_left
    ·have hs1:=hS;go_simp;first | done | rfl | omega | (exact IntWalk.i64_in _ (by omega)) | (simp <;> omega)
    simp only [PU];refine M_v 7 ?_ SU.out HS.out (fun W hS=>?_) ?_;rotate_left
    ·have hs1:=hS;go_simp;first | done | rfl | omega | (exact IntWalk.i64_in _ (by omega)) | (simp <;> omega)
    simp only [PU];refine M_v 8 (.slice (some ⟨B,0,none⟩) N cap) SU.out HS.out (fun W hS=>?_) ?_
    ·have hs1:=hS;go_simp;first | done | rfl | omega | (exact IntWalk.i64_in _ (by omega)) | (simp <;> omega)
    simp only [PU];refine M_m 9 SU.out HS.out ?_;simp only [PE];refine M_m 10 SU.out HS.out ?_;simp only [PE];refine M_v 11 ?_ SU.out HS.out (fun W hS=>?_) ?_;rotate_left
    ·have hs1:=hS;go_simp;first | done | rfl | omega | (exact IntWalk.i64_in _ (by omega)) | (simp <;> omega)
    simp only [PU];refine M_v 12 ?_ SU.out HS.out (fun W hS=>?_) ?_;rotate_left
    ·have hs1:=hS;go_simp;first | done | rfl | omega | (exact IntWalk.i64_in _ (by omega)) | (simp <;> omega)
    simp only [PU];refine M_v 13 (.slice (some ⟨B,0,none⟩) N cap) SU.out HS.out (fun W hS=>?_) ?_
    ·have hs1:=hS;go_simp;first | done | rfl | omega | (exact IntWalk.i64_in _ (by omega)) | (simp <;> omega)
    simp only [PU];refine M_v 14 (.int .i64 (N:Int)) SU.out HS.out (fun W hS=>?_) ?_
    ·have hs1:=hS;go_simp;first | done | rfl | omega | (exact IntWalk.i64_in _ (by omega)) | (simp <;> omega)
    simp only [PU];refine M_m 15 SU.out HS.out ?_;simp only [PE];refine M_v 16 ?_ SU.out HS.out (fun W hS=>?_) ?_;rotate_left
    ·have hs1:=hS;go_simp;first | done | rfl | omega | (exact IntWalk.i64_in _ (by omega)) | (simp <;> omega)
    simp only [PU];refine M_v 17 ?_ SU.out HS.out (fun W hS=>?_) ?_;rotate_left
    ·have hs1:=hS;go_simp;first | done | rfl | omega | (exact IntWalk.i64_in _ (by omega)) | (simp <;> omega)
    simp only [PU];refine M_v 18 (.slice (some ⟨B,0,none⟩) N cap) SU.out HS.out (fun W hS=>?_) ?_
    ·have hs1:=hS;go_simp;first | done | rfl | omega | (exact IntWalk.i64_in _ (by omega)) | (simp <;> omega)
    simp only [PU];refine M_v 19 (.int .i64 (N:Int)) SU.out HS.out (fun W hS=>?_) ?_
    ·have hs1:=hS;go_simp;first | done | rfl | omega | (exact IntWalk.i64_in _ (by omega)) | (simp <;> omega)
    simp only [PU];refine M_v 20 (.pointer (some ⟨B,at_ * 7,none⟩)) SU.out HS.out (fun W hS=>?_) ?_
    ·have hs1:=hS;go_simp;first | done | rfl | omega | (exact IntWalk.i64_in _ (by omega)) | (simp <;> omega)
    simp only [PU];refine M_v 21 (.pointer (some ⟨B,at_ * 7+5,none⟩)) SU.out HS.out (fun W hS=>?_) ?_
    ·have hs1:=hS;go_simp;first | done | rfl | omega | (exact IntWalk.i64_in _ (by omega)) | (simp <;> omega)
    simp only [PU];refine wpAnyM_all (rs:=[22]) (by kernel_rfl) (by simp) (fun w' hG=>?_);obtain rfl:=hG;refine allM.head rfl rfl (fun K6 hK6=>?_) allM.nil;go_simp;refine hK6.out _ _ (by go_simp) ?_;clear hK6 K6;refine wpAnyM_all (rs:=[23]) (by kernel_rfl) (by simp) (fun w' hG=>?_);obtain rfl:=hG;refine allM.head rfl rfl (fun K6 hK6=>?_) allM.nil;go_simp;refine hK6.out _ _ (by go_simp) ?_;clear hK6 K6;refine wpAnyM_all (rs:=[24]) (by kernel_rfl) (by simp) (fun w' hG=>?_);obtain rfl:=hG;refine allM.head rfl rfl (fun K6 hK6=>?_) allM.nil;go_simp;refine hK6.out _ _ (by go_simp) ?_;clear hK6 K6;refine wpAnyM_all (rs:=[25]) (by kernel_rfl) (by simp) (fun w' hG=>?_);obtain rfl:=hG;refine allM.head rfl rfl (fun K6 hK6=>?_) allM.nil;go_simp;refine hK6.out _ _ (by go_simp) ?_;clear hK6 K6;refine wpAnyM_done (by kernel_rfl) (fun w' hG=>?_);obtain rfl:=hG;clear SU HS hc hz hz2 hu hu2 hi1;have hst6:=HSTQ.out;have hown6:=own_keep HOWN4.out HKB.out;have hNe:=HNN.out;subst hNe;rw [HSET.out] at hst6;have HST6:=zh hst6;have HOWN6:=zh hown6;clear hst6 hown6;go_wp2_with fail
    go_roundw
    case rel=>exact ⟨q+1,by go_num,by rw [<-HN.out];omega,HST6.out,by rw [<-HN.out];exact HOWN6.out⟩
    case measure=>simp [intOf] <;> omega
   obtain rfl:q=i:=by omega
   go_wp2_with fail
   have hst:=HST4.out;have hd:us.drop q=[]:=List.drop_eq_nil_of_le (by rw [<-HN.out];exact Nat.le_refl _);have ht2:us.take q=us:=List.take_of_length_le (by rw [<-HN.out];exact Nat.le_refl _);rw [hd,ht2,HT.out,HP0.out] at hst;have hst9:=zh hst;clear hst hd ht2;go_end0
   exact ⟨rfl,hst9.out.1⟩
end Go.Proofs.YtfofechcccodeaaGreatDoor
namespace Go.Proofs.YtfofechcccodeaaGreatDoor
set_option linter.unusedVariables false
set_option linter.unusedSimpArgs false
open Go.RowKit Go.ChangeMaps Go.Proofs.Tryz
theorem choice_all (ts:List PT) (h:∀ t ∈ ts,LayOk t):ChoiceOk ts:=by
 rcases List.eq_nil_or_concat ts with e | ⟨us,tl,e⟩
 ·subst e;intro w gy mv l es L A c _ _ _ _ _ h0;exact absurd h0 (by simp)
 rw [List.concat_eq_append] at e;rw [e] at h ⊢; exact choice_of us tl h
mutual
theorem lay_ok:∀ t:PT,LayOk t
 | .mk k s0 s1 s2 s3 mn mx A c l=>lay_part_of _ (lay_okL l) (fun _=>choice_all _ (lay_okL l))
theorem lay_okL:∀ l:List PT,∀ t ∈ l,LayOk t
 | [],t,h=>by cases h
 | u :: r,t,h=>by
  rcases List.mem_cons.1 h with e | h
  ·rw [e];exact lay_ok u
  exact lay_okL r t h
end
theorem compile_all {w:World} {t:PT} (hp:PMem w t) (hcnt:cntP t <= 1199) :
    Calls prog 40 #[t.val] w (CompPost w t):=compile_any (lay_ok t) hp hcnt
end Go.Proofs.YtfofechcccodeaaGreatDoor
namespace Go.Proofs.YtfofechcccodeaaGreatDoor
open Go.RowKit Go.ChangeMaps
set_option linter.unusedVariables false
set_option linter.unusedSimpArgs false
mutual
def toP:RT->PT | .mk k s mn mx l => .mk k (s.a:Int) (s.b:Int) (s.c:Int) (s.d:Int) mn mx none 0 (toL l)
def toL:List RT->List PT | []=>[] | t :: r=>toP t :: toL r
end
theorem toL_len:∀ l:List RT,(toL l).length=l.length
 | []=>by rw [toL];rfl
 | t :: r=>by rw [toL,List.length_cons,toL_len r,List.length_cons]
mutual
theorem toP_rep:∀ t:RT,RepP t (toP t)
 | .mk k s mn mx l=>by rw [RepP,toP];exact ⟨rfl,rfl,rfl,rfl,rfl,rfl,rfl,toL_rep l⟩
theorem toL_rep:∀ l:List RT,RepL l (toL l)
 | []=>by rw [RepL_nil,toL]
 | t :: r=>by rw [toL,RepL_cons];exact ⟨toP_rep t,toL_rep r⟩
end
mutual
theorem RepP.siz:∀ (t:RT) (p:PT),RepP t p->sizP p=sizP (toP t)
 | .mk k s mn mx l,p,h=>by
  rw [RepP] at h;obtain ⟨h1,-, -, -, -, h6,h7,h8⟩:=h;rw [sizP_eq,h1,h6,h7,toP,sizP,RepL.siz l p.l h8,<-h8.len,toL_len]
theorem RepL.siz:∀ (ts:List RT) (ps:List PT),RepL ts ps->sizL ps=sizL (toL ts)
 | [],ps,h=>by rw [RepL_nil] at h;subst h;rw [toL]
 | t :: r,[],h=>by rw [RepL] at h;exact h.elim
 | t :: r,p :: ps,h=>by rw [RepL_cons] at h;rw [toL,sizL,sizL,RepP.siz t p h.1,RepL.siz r ps h.2]
end
mutual
theorem RepP.lay:∀ (t:RT) (p:PT) (a:Nat),RepP t p->layP p a=layP (toP t) a
 | .mk k s mn mx l,.mk k' s0 s1 s2 s3 mn' mx' A c ps,a,h=>by
  rw [RepP] at h;obtain ⟨h1,h2,h3,h4,h5,h6,h7,h8⟩:=h;have h1':k'=k:=h1;have h2':s0=(s.a:Int):=h2;have h3':s1=(s.b:Int):=h3;have h4':s2=(s.c:Int):=h4;have h5':s3=(s.d:Int):=h5;have h6':mn'=mn:=h6;have h7':mx'=mx:=h7;have h8':RepL l ps:=h8;subst h1' h2' h3' h4' h5' h6' h7';have e1:layL ps=layL (toL l):=funext fun a=>RepL.lay l ps a h8';have e2:∀ a all,layO ps a all=layO (toL l) a all:=fun a all=>RepL.layO_ l ps a all h8';rw [toP,layP,layP,e1,e2,RepL.siz l ps h8',<-h8'.len,toL_len]
theorem RepL.lay:∀ (ts:List RT) (ps:List PT) (a:Nat),RepL ts ps->layL ps a=layL (toL ts) a
 | [],ps,a,h=>by rw [RepL_nil] at h;subst h;rw [toL]
 | t :: r,[],a,h=>by rw [RepL] at h;exact h.elim
 | t :: r,p :: ps,a,h=>by rw [RepL_cons] at h;rw [toL,layL,layL,RepP.lay t p _ h.1,RepL.lay r ps _ h.2,RepP.siz t p h.1]
theorem RepL.layO_:∀ (ts:List RT) (ps:List PT) (a all:Nat),RepL ts ps->layO ps a all=layO (toL ts) a all
 | [],ps,a,all,h=>by rw [RepL_nil] at h;subst h;rw [toL]
 | t :: r,[],a,all,h=>by rw [RepL] at h;exact h.elim
 | t :: r,p :: ps,a,all,h=>by
  rw [RepL_cons] at h
  have e:ps.isEmpty=(toL r).isEmpty:=by
   have h1:=h.2.len;have h2:=toL_len r
   cases ps <;> cases hr:toL r <;> simp_all
  rw [toL,layO,layO,e,RepP.lay t p _ h.1,RepP.lay t p _ h.1,RepL.layO_ r ps _ _ h.2,RepP.siz t p h.1]
end
def progT (t:RT):List Sp:=layP (toP t) 0 ++ [Sp.found]
theorem progT_len {t:RT} (h:rightT t=true):(progT t).length=sizP (toP t)+1:=by
 rw [progT,List.length_append,layP_len _ _ (by rw [RepP.right t _ (toP_rep t)];exact h)];rfl
end Go.Proofs.YtfofechcccodeaaGreatDoor
