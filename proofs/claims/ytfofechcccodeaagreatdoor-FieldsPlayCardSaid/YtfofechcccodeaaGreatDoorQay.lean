/-
  Small texts in one (Er6). No conditions.
-/
import Derived.Test.YtfofechcccodeaaGreatDoorQax
namespace Go.Proofs.YtfofechcccodeaaGreatDoor
open Go.RowKit Go.Proofs.Tryz
set_option linter.unusedVariables false
set_option linter.unusedSimpArgs false
set_option maxRecDepth 100000
set_option maxHeartbeats 8000000
def PieceOk (f:Nat):Prop:=∀ (w:World) (g:Nat) (A:Option Addr) (c:Nat) (bs:List UInt8) (i d:Nat),Rdr w g A c bs i d->i < bs.length->6 * (bs.length - i)+3 <= f ->
 Calls prog 84 #[.pointer (some ⟨g,0,none⟩)] w (ReadPost w g A c bs d (pieceF bs f d i))
def timesT (a b:Int) (B:Nat) (p:PT):PT := .mk 4 0 0 0 0 a b (some ⟨B,0,none⟩) 1 [p]
theorem times_new {lo:Nat} {w w':World} {t:RT} {p:PT} (h:NewP lo w t p) (a b:Int) (hb:Bk w' w.heap.size 89 p.cells.toArray) (hf:Fr [] w w') (hlo:lo <= w.heap.size) :
    NewP lo w' (tTimes a b t) (timesT a b w.heap.size p):=
 ⟨by rw [RepP_eq];refine ⟨rfl,rfl,rfl,rfl,rfl,rfl,rfl,?_⟩;show RepL [t] [p];rw [RepL_cons];exact ⟨h.rep,by rw [RepL_nil]⟩,
  by
   unfold timesT;rw [PMem,LMem];exact ⟨⟨w.heap.size,0,rfl,_,hb,fun j u hu=>by simpa using hu⟩,h.mem.fr_ hf _ (by simp),by rw [LMem];trivial⟩,
  by
   intro b hb';unfold timesT at hb';rw [blkP] at hb';simp [blkL] at hb';have hl:=hb.lt;rcases hb' with rfl | hb'
   ·exact ⟨hlo,hl⟩
   exact ⟨(h.new b hb').1,Nat.lt_of_lt_of_le (h.new b hb').2 hf.size⟩⟩
theorem Bk.put8 {W:World} {b:Nat} {t:TypeId} {v0 v1 v2 v3 v4 v5 v6 v7:Value} (h:Bk W b t #[v0,v1,v2,v3,v4,v5,v6,v7]) (x0 x1 x2 x3 x4 x5 x6 x7:Value) :
    Bk ((((((((W.setCell ⟨b,0,none⟩ x0).setCell ⟨b,1,none⟩ x1).setCell ⟨b,2,none⟩ x2).setCell ⟨b,3,none⟩ x3).setCell ⟨b,4,none⟩ x4).setCell ⟨b,5,none⟩ x5).setCell ⟨b,6,none⟩ x6).setCell ⟨b,7,none⟩ x7) b t #[x0,x1,x2,x3,x4,x5,x6,x7]:=by
 have:=(((((((h.put 0 x0).put 1 x1).put 2 x2).put 3 x3).put 4 x4).put 5 x5).put 6 x6).put 7 x7
 simpa using this
def PieceRel (w:World) (g:Nat) (A:Option Addr) (c:Nat) (bs:List UInt8) (d:Nat) (R:Res) (rb pb:Nat) (v:Value) (wr:World):Prop:=
 ∃ (k i:Nat) (t:RT) (p:PT),v = .int .i64 (k:Int)/\k <= 8/\signsL bs (8 - k) t i=R/\Rdr wr g A c bs i d/\NewP w.heap.size wr t p/\(∀ b ∈ blkP p,b ≠ pb/\b ≠ rb)/\Bk wr rb 89 zeroP /\
  Bk wr pb 89 #[.int .i64 p.k,.int .u64 p.s0,.int .u64 p.s1,.int .u64 p.s2,.int .u64 p.s3,.int .i64 p.mn,.int .i64 p.mx,.slice p.A p.l.length p.c]/\Fr [g] w wr
theorem signsL_stop {bs:List UInt8} {m:Nat} {t:RT} {i:Nat} (h:(signS bs i).2.2=0):signsL bs m t i = .ok (t,i):=by
 cases m <;> rw [signsL,if_pos h]
theorem signsL_bad {bs:List UInt8} {m:Nat} {t:RT} {i:Nat} (h:(signS bs i).2.2 ≠ 0) (hb:badS (signS bs i)=true):signsL bs m t i = .error (i,5):=by
 cases m <;> rw [signsL,if_neg h,if_pos hb]
theorem signsL_many {bs:List UInt8} {t:RT} {i:Nat} (h:(signS bs i).2.2 ≠ 0) (hb:badS (signS bs i) ≠ true):signsL bs 0 t i = .error (i,6):=by
 rw [signsL,if_neg h,if_neg hb]
theorem signsL_more {bs:List UInt8} {m:Nat} {t:RT} {i:Nat} (h:(signS bs i).2.2 ≠ 0) (hb:badS (signS bs i) ≠ true):signsL bs (m+1) t i=signsL bs m (tTimes (signS bs i).1 (signS bs i).2.1 t) (i+(signS bs i).2.2):=by
 rw [signsL,if_neg h,if_neg hb]
theorem piece_of (f:Nat) (hA:AtomOk f):PieceOk (f+1):=by
 intro w g A c bs i d h hi hf;have hlen:=h.len;have hgl:=h.blk.lt;obtain ⟨R,hR⟩:∃ R,R=pieceF bs (f+1) d i:=⟨_,rfl⟩;rw [<-hR];rw [pieceF] at hR;have HRD:=zh h;have HAK:=zh hA;have HR:=zh hR;obtain ⟨rb,hrb⟩:∃ rb,rb=w.heap.size:=⟨_,rfl⟩;have HRB:=zh hrb;clear h hA hR;go_enter func84,ntmps84
 go_wp2_with fail
 go_at_call 101
 refine calls_gen1 fun W hW=>?_;have hfr1:Fr [] w W:=by rw [hW];exact (Fr.refl [] w).alloc _
 have hz1:Bk W rb 89 zeroP:=by rw [hW,hrb];exact Bk.new w _ _
 rw [<-hrb] at hgl ⊢; have hrg:¬ (rb=g):=by omega
 clear hW hrb;have HRW:=zh (HRD.out.fr_nil hfr1);have HZW:=zh hz1;have HFW:=zh hfr1;clear hz1 hfr1;refine (HAK.out W g A c bs i d HRW.out hi (by omega)).mono ?_;intro e w2 hp;rcases hX:atomF bs f d i with ⟨p,code⟩ | ⟨t,j⟩
 ·rw [hX] at hp;have hr:=HR.out;rw [hX] at hr;have HR2:Hid (R = .error (p,code)):=zh hr;obtain ⟨v,rfl,⟨fg,rfl,hfb⟩,hf2⟩:=hp;have HV:=zh (show FaultV w2 _ (p:Int) (code:Int) from ⟨fg,rfl,hfb⟩);have HZ2:=zh (HZW.out.fr hf2 (by simpa using hrg));have HF2:=zh (HFW.out.nil_.trans hf2);clear hfb hf2 hX hr HR;obtain ⟨⟨k0,k1,k2,k3,k4,k5,k6,k7⟩,z0,z1,z2,z3,z4,z5,z6,z7,hrl⟩:=HZ2.out.eightc;unfold zeroP;go_wp2_with fail
  refine body_gen1 fun W' hW=>?_;refine bodyPost_ret (v := .tuple #[.agg zeroP,.iface 74 (.pointer (some ⟨fg,0,none⟩))]) (by simp [results,results84,go_sem,hW,k0,k1,k2,k3,k4,k5,k6,k7,hrl,zeroP,PT.val]) rfl ?_;have hset:Fr [rb] w2 W':=by rw [hW];exact (fr8 w2 rb _ _ _ _ _ _ _ _).alloc _
  exact ReadPost.err HR2.out rfl (HV.out.far8 HZ2.out hset) (HF2.out.trans' hset (by simp;have:=HRB.out;omega))
 rw [hX] at hp;have hr:=HR.out;rw [hX] at hr;obtain ⟨p,rfl,hn,hrd,hf2⟩:=hp;have HRD2:=zh hrd;have HZ2:=zh (HZW.out.fr hf2 (by simpa using hrg));have HF2:=zh (HFW.out.nil_.trans hf2);have HN:=zh (hn.lower HFW.out.size);have hbl:∀ b ∈ blkP p,b ≠ w2.heap.size/\b ≠ rb:=fun b hb=>⟨by have:=(hn.new b hb).2;omega,by have h1:=(hn.new b hb).1;have h2:=HZW.out.lt;omega⟩;have HBL:=zh hbl;have HRR:Hid (signsL bs 8 t j=R):=zh hr.symm;clear hn hrd hf2 hX HR hr hbl;unfold PT.val;obtain ⟨pb,hpb⟩:∃ pb,pb=w2.heap.size:=⟨_,rfl⟩;rw [<-hpb] at HBL;have HPB:=zh hpb;have hrpb:rb < pb:=by rw [hpb];exact HZ2.out.lt
 have hgpb:g < pb:=by rw [hpb];exact HRD2.out.blk.lt
 obtain ⟨pn,hpn⟩:∃ pn,pn=p.l.length:=⟨_,rfl⟩;rw [<-hpn];have HPN:=zh hpn;clear hpn;go_wp2_with fail
 rw [<-HPB.out]
 go_loopw [6] (fun v wr=>PieceRel w g A c bs d R rb pb v wr) (fun v _=>9 - (intOf v).toNat)
 case atStart=>
  have ha:Fr [] w2 (w2.alloc (.cells #[.int .i64 p.k,.int .u64 p.s0,.int .u64 p.s1,.int .u64 p.s2,.int .u64 p.s3,.int .i64 p.mn,.int .i64 p.mx,.slice p.A pn p.c] 89)):=(Fr.refl [] w2).alloc _;exact ⟨0,j,t,p,rfl,by omega,HRR.out,HRD2.out.fr_nil ha,HN.out.fr_nil ha,HBL.out,HZ2.out.fr ha (by simp),by rw [HPB.out,<-HPN.out];exact Bk.new w2 _ _,HF2.out.trans ha.nil_⟩
 case round=>
  clear HRR HRD2 HZ2 HF2 HN HBL HPB HPN hpb HRW HZW HFW;obtain ⟨k,i2,t2,p2,rfl,hk,hsig,hrd,hnew,hbl,hz,hpc,hfr⟩:=hrel;have hpr:¬ (pb=rb):=by omega
  have hpg:¬ (pb=g):=by omega
  have HSG:=zh hsig;have HRD2:=zh hrd;have HN2:=zh hnew;have HBL2:=zh hbl;have HZ2:=zh hz;have HPC2:=zh hpc;have HF2:=zh hfr;clear hsig hrd hnew hbl hz hpc hfr;obtain ⟨a,b,n,hs⟩:∃ a b n,signS bs i2=(a,b,n):=⟨(signS bs i2).1,(signS bs i2).2.1,(signS bs i2).2.2,rfl⟩;have HS:=zh hs;have hle:=signS_le bs i2 HRD2.out.at_;rw [hs] at hle;have hlen2:=HRD2.out.len;have hin:i2+n <= 1000:=by simp only [] at hle;omega
  have HLE:Hid (i2+n <= bs.length):=zh hle;clear hs hle hlen2 hlen hi hf;go_wp2_with fail
  go_at_call 102
  refine (sign_any HRD2.out).mono ?_;rintro e w4 ⟨rfl,hq4⟩;have hf4:=hq4.fr;have HRD4:=zh (HRD2.out.fr_nil hf4);have HN4:=zh (HN2.out.fr_nil hf4);have HZ4:=zh (HZ2.out.fr hf4 (by simp));have HF4:=zh (HF2.out.trans hf4.nil_);have HPC4:=zh (HPC2.out.fr hf4 (by simp));clear hq4 hf4;rw [HS.out];unfold ivV;simp only [];obtain ⟨-, c1,-, f1,-⟩:=HRD4.out.cells;have hgl4:=HRD4.out.blk.lt;obtain ⟨⟨k0,k1,k2,k3,k4,k5,k6,k7⟩,z0,z1,z2,z3,z4,z5,z6,z7,hrl⟩:=HZ4.out.eightc;obtain ⟨⟨l0,l1,l2,l3,l4,l5,l6,l7⟩,y0,y1,y2,y3,y4,y5,y6,y7,hpl⟩:=HPC4.out.eightc;obtain ⟨pn,hpn⟩:∃ pn,pn=p2.l.length:=⟨_,rfl⟩;rw [<-hpn] at l7;have HPN:=zh hpn;clear hpn;by_cases hn0:n=0
  ·have hr:R = .ok (t2,i2):=by rw [<-HSG.out];exact signsL_stop (by rw [HS.out];exact hn0)
   have HR2:=zh hr;subst hn0;clear hr;go_wp2_with fail
   refine body_gen1 fun W' hW=>?_;refine bodyPost_ret (v := .tuple #[p2.val,.nilIface]) (by simp [results,results84,go_sem,hW,k0,k1,k2,k3,k4,k5,k6,k7,hrl,zeroP,PT.val,HPN.out]) rfl ?_;have hset:Fr [rb] w4 W':=by rw [hW];exact fr8 w4 rb _ _ _ _ _ _ _ _
   exact ReadPost.ok_ HR2.out rfl (HN4.out.fr hset (by simp;right;intro hm;exact (HBL2.out _ hm).2 rfl)) (HRD4.out.fr_far hset (by simpa using hgl)) (HF4.out.trans' hset (by simp;have:=HRB.out;omega))
  have hnz:((n:Int) == 0)=false:=by simp;omega
  by_cases h1:255 < a
  ·have t1:decide (255 < a)=true:=by simpa using h1
   have hr:R = .error (i2,5):=by rw [<-HSG.out];exact signsL_bad (by rw [HS.out];exact hn0) (by rw [HS.out];unfold badS;simp [h1])
   have HR2:=zh hr;clear hr;go_wp2_with fail
   go_at_call 55
   refine (efault_any _ _ w4).mono ?_;rintro e w5 ⟨v,rfl,hv,hf5⟩;have HV:=zh hv;have HZ5:=zh (HZ4.out.fr hf5 (by simp));have HF5:=zh (HF4.out.trans hf5.nil_);clear hv hf5 k0 k1 k2 k3 k4 k5 k6 k7 z0 z1 z2 z3 z4 z5 z6 z7 hrl;obtain ⟨⟨k0,k1,k2,k3,k4,k5,k6,k7⟩,z0,z1,z2,z3,z4,z5,z6,z7,hrl⟩:=HZ5.out.eightc;go_wp2_with fail
   refine body_gen1 fun W' hW=>?_;refine bodyPost_ret (v := .tuple #[.agg zeroP,v]) (by simp [results,results84,go_sem,hW,k0,k1,k2,k3,k4,k5,k6,k7,hrl,zeroP,PT.val]) rfl ?_;have hset:Fr [rb] w5 W':=by rw [hW];exact fr8 w5 rb _ _ _ _ _ _ _ _
   exact ReadPost.err HR2.out rfl (HV.out.far8 HZ5.out hset) (HF5.out.trans' hset (by simp;have:=HRB.out;omega))
  have t1:decide (255 < a)=false:=by simp;omega
  by_cases h2:255 < b
  ·have t2':decide (255 < b)=true:=by simpa using h2
   have hr:R = .error (i2,5):=by rw [<-HSG.out];exact signsL_bad (by rw [HS.out];exact hn0) (by rw [HS.out];unfold badS;simp [h2])
   have HR2:=zh hr;clear hr;go_wp2_with fail
   go_at_call 55
   refine (efault_any _ _ w4).mono ?_;rintro e w5 ⟨v,rfl,hv,hf5⟩;have HV:=zh hv;have HZ5:=zh (HZ4.out.fr hf5 (by simp));have HF5:=zh (HF4.out.trans hf5.nil_);clear hv hf5 k0 k1 k2 k3 k4 k5 k6 k7 z0 z1 z2 z3 z4 z5 z6 z7 hrl;obtain ⟨⟨k0,k1,k2,k3,k4,k5,k6,k7⟩,z0,z1,z2,z3,z4,z5,z6,z7,hrl⟩:=HZ5.out.eightc;go_wp2_with fail
   refine body_gen1 fun W' hW=>?_;refine bodyPost_ret (v := .tuple #[.agg zeroP,v]) (by simp [results,results84,go_sem,hW,k0,k1,k2,k3,k4,k5,k6,k7,hrl,zeroP,PT.val]) rfl ?_;have hset:Fr [rb] w5 W':=by rw [hW];exact fr8 w5 rb _ _ _ _ _ _ _ _
   exact ReadPost.err HR2.out rfl (HV.out.far8 HZ5.out hset) (HF5.out.trans' hset (by simp;have:=HRB.out;omega))
  have t2':decide (255 < b)=false:=by simp;omega
  by_cases h3:b = -1
  ·have hnb:badS (signS bs i2) ≠ true:=by rw [HS.out];unfold badS;simp;omega
   subst h3;by_cases h8:k=8
   ·have hr:R = .error (i2,6):=by rw [<-HSG.out,h8];exact signsL_many (by rw [HS.out];exact hn0) hnb
    have HR2:=zh hr;subst h8;clear hr hnb;go_wp2_with fail
    go_at_call 55
    refine (efault_any _ _ w4).mono ?_;rintro e w5 ⟨v,rfl,hv,hf5⟩;have HV:=zh hv;have HZ5:=zh (HZ4.out.fr hf5 (by simp));have HF5:=zh (HF4.out.trans hf5.nil_);clear hv hf5 k0 k1 k2 k3 k4 k5 k6 k7 z0 z1 z2 z3 z4 z5 z6 z7 hrl;obtain ⟨⟨k0,k1,k2,k3,k4,k5,k6,k7⟩,z0,z1,z2,z3,z4,z5,z6,z7,hrl⟩:=HZ5.out.eightc;go_wp2_with fail
    refine body_gen1 fun W' hW=>?_;refine bodyPost_ret (v := .tuple #[.agg zeroP,v]) (by simp [results,results84,go_sem,hW,k0,k1,k2,k3,k4,k5,k6,k7,hrl,zeroP,PT.val]) rfl ?_;have hset:Fr [rb] w5 W':=by rw [hW];exact fr8 w5 rb _ _ _ _ _ _ _ _
    exact ReadPost.err HR2.out rfl (HV.out.far8 HZ5.out hset) (HF5.out.trans' hset (by simp;have:=HRB.out;omega))
   have hr:signsL bs (8 - (k+1)) (tTimes a (-1) t2) (i2+n)=R:=by
    have h:=HSG.out;rw [show 8 - k=(8 - (k+1))+1 by omega,signsL_more (by rw [HS.out];exact hn0) hnb,HS.out] at h;exact h
   have HR2:=zh hr;have t8:((k:Int) == 8)=false:=by simp;omega
   clear hr hnb;go_wp2_with fail
   go_roundw
   case rel=>
    have e:((i2:Int)+(n:Int))=((i2+n:Nat):Int):=by omega
    rw [e];have hrdm:=(HRD4.out.fr_far (fr8 w4 pb (.int .i64 4) (.int .u64 0) (.int .u64 0) (.int .u64 0) (.int .u64 0) (.int .i64 a) (.int .i64 (-1)) (.slice (some ⟨w4.heap.size,0,none⟩) 1 1)) (by simpa using hgpb)).move (j:=i2+n) HLE.out;have hpcm:=(HPC4.out.put8 (.int .i64 4) (.int .u64 0) (.int .u64 0) (.int .u64 0) (.int .u64 0) (.int .i64 a) (.int .i64 (-1)) (.slice (some ⟨w4.heap.size,0,none⟩) 1 1)).far (p:=⟨g,1,none⟩) hpg (.int .i64 ((i2+n:Nat):Int));have hfm:Fr [pb,g] w4 _:=((fr8 w4 pb (.int .i64 4) (.int .u64 0) (.int .u64 0) (.int .u64 0) (.int .u64 0) (.int .i64 a) (.int .i64 (-1)) (.slice (some ⟨w4.heap.size,0,none⟩) 1 1)).mono (l':=[pb,g]) (by simp)).setCell (p:=⟨g,1,none⟩) (.inl (by simp)) (.int .i64 ((i2+n:Nat):Int));have hsz:(World.setCell ((((((((w4.setCell ⟨pb,0,none⟩ (.int .i64 4)).setCell ⟨pb,1,none⟩ (.int .u64 0)).setCell ⟨pb,2,none⟩ (.int .u64 0)).setCell ⟨pb,3,none⟩ (.int .u64 0)).setCell ⟨pb,4,none⟩ (.int .u64 0)).setCell ⟨pb,5,none⟩ (.int .i64 a)).setCell ⟨pb,6,none⟩ (.int .i64 (-1))).setCell ⟨pb,7,none⟩ (.slice (some ⟨w4.heap.size,0,none⟩) 1 1)) ⟨g,1,none⟩ (.int .i64 ((i2+n:Nat):Int))).heap.size=w4.heap.size:=by simp
    generalize hWm:World.setCell _ ⟨g,1,none⟩ _=Wm at hrdm hpcm hfm hsz ⊢
    have hal:Fr [] Wm (Wm.alloc (.cells #[.int .i64 p2.k,.int .u64 p2.s0,.int .u64 p2.s1,.int .u64 p2.s2,.int .u64 p2.s3,.int .i64 p2.mn,.int .i64 p2.mx,.slice p2.A pn p2.c] 89)):=(Fr.refl [] Wm).alloc _
    have hnm:NewP w.heap.size Wm t2 p2:=HN4.out.fr hfm (by
     intro b hb;simp at hb;rcases hb with rfl | rfl
     ·right;intro hm;exact (HBL2.out _ hm).1 rfl
     left;have:=HRB.out;omega)
    have hpb4:pb < w4.heap.size:=HPC4.out.lt;have hrb4:rb < w4.heap.size:=HZ4.out.lt;have hnew:=times_new hnm a (-1) (by have:=Bk.new Wm 89 #[.int .i64 p2.k,.int .u64 p2.s0,.int .u64 p2.s1,.int .u64 p2.s2,.int .u64 p2.s3,.int .i64 p2.mn,.int .i64 p2.mx,.slice p2.A pn p2.c];rw [HPN.out] at this;exact this) (by rw [<-HPN.out];exact hal) (by rw [hsz];have:=HRB.out;omega);rw [hsz,<-HPN.out] at hnew;refine ⟨k+1,i2+n,tTimes a (-1) t2,timesT a (-1) w4.heap.size p2,by go_num,by omega,HR2.out,hrdm.fr_nil hal,hnew,?_,(HZ4.out.fr hfm (by simp;omega)).fr hal (by simp),hpcm.fr hal (by simp),(HF4.out.trans' hfm (by simp;have:=HRB.out;omega)).trans hal.nil_⟩;intro b hb;unfold timesT at hb;rw [blkP] at hb;simp [blkL] at hb;rcases hb with rfl | hb
    ·omega
    exact HBL2.out b hb
   case measure=>simp [intOf];omega
  have t3:(b != -1)=true:=by simp;omega
  by_cases h4:b < a
  ·have t4:decide (b < a)=true:=by simpa using h4
   have hr:R = .error (i2,5):=by rw [<-HSG.out];exact signsL_bad (by rw [HS.out];exact hn0) (by rw [HS.out];unfold badS;simp;omega)
   have HR2:=zh hr;clear hr;go_wp2_with fail
   go_at_call 55
   refine (efault_any _ _ w4).mono ?_;rintro e w5 ⟨v,rfl,hv,hf5⟩;have HV:=zh hv;have HZ5:=zh (HZ4.out.fr hf5 (by simp));have HF5:=zh (HF4.out.trans hf5.nil_);clear hv hf5 k0 k1 k2 k3 k4 k5 k6 k7 z0 z1 z2 z3 z4 z5 z6 z7 hrl;obtain ⟨⟨k0,k1,k2,k3,k4,k5,k6,k7⟩,z0,z1,z2,z3,z4,z5,z6,z7,hrl⟩:=HZ5.out.eightc;go_wp2_with fail
   refine body_gen1 fun W' hW=>?_;refine bodyPost_ret (v := .tuple #[.agg zeroP,v]) (by simp [results,results84,go_sem,hW,k0,k1,k2,k3,k4,k5,k6,k7,hrl,zeroP,PT.val]) rfl ?_;have hset:Fr [rb] w5 W':=by rw [hW];exact fr8 w5 rb _ _ _ _ _ _ _ _
   exact ReadPost.err HR2.out rfl (HV.out.far8 HZ5.out hset) (HF5.out.trans' hset (by simp;have:=HRB.out;omega))
  have t4:decide (b < a)=false:=by simp;omega
  have hnb:badS (signS bs i2) ≠ true:=by rw [HS.out];unfold badS;simp;omega
  by_cases h8:k=8
  ·have hr:R = .error (i2,6):=by rw [<-HSG.out,h8];exact signsL_many (by rw [HS.out];exact hn0) hnb
   have HR2:=zh hr;subst h8;clear hr hnb;go_wp2_with fail
   go_at_call 55
   refine (efault_any _ _ w4).mono ?_;rintro e w5 ⟨v,rfl,hv,hf5⟩;have HV:=zh hv;have HZ5:=zh (HZ4.out.fr hf5 (by simp));have HF5:=zh (HF4.out.trans hf5.nil_);clear hv hf5 k0 k1 k2 k3 k4 k5 k6 k7 z0 z1 z2 z3 z4 z5 z6 z7 hrl;obtain ⟨⟨k0,k1,k2,k3,k4,k5,k6,k7⟩,z0,z1,z2,z3,z4,z5,z6,z7,hrl⟩:=HZ5.out.eightc;go_wp2_with fail
   refine body_gen1 fun W' hW=>?_;refine bodyPost_ret (v := .tuple #[.agg zeroP,v]) (by simp [results,results84,go_sem,hW,k0,k1,k2,k3,k4,k5,k6,k7,hrl,zeroP,PT.val]) rfl ?_;have hset:Fr [rb] w5 W':=by rw [hW];exact fr8 w5 rb _ _ _ _ _ _ _ _
   exact ReadPost.err HR2.out rfl (HV.out.far8 HZ5.out hset) (HF5.out.trans' hset (by simp;have:=HRB.out;omega))
  have hr:signsL bs (8 - (k+1)) (tTimes a b t2) (i2+n)=R:=by
   have h:=HSG.out;rw [show 8 - k=(8 - (k+1))+1 by omega,signsL_more (by rw [HS.out];exact hn0) hnb,HS.out] at h;exact h
  have HR2:=zh hr;have t8:((k:Int) == 8)=false:=by simp;omega
  clear hr hnb;go_wp2_with fail
  go_roundw
  case rel=>
   have e:((i2:Int)+(n:Int))=((i2+n:Nat):Int):=by omega
   rw [e];have hrdm:=(HRD4.out.fr_far (fr8 w4 pb (.int .i64 4) (.int .u64 0) (.int .u64 0) (.int .u64 0) (.int .u64 0) (.int .i64 a) (.int .i64 b) (.slice (some ⟨w4.heap.size,0,none⟩) 1 1)) (by simpa using hgpb)).move (j:=i2+n) HLE.out;have hpcm:=(HPC4.out.put8 (.int .i64 4) (.int .u64 0) (.int .u64 0) (.int .u64 0) (.int .u64 0) (.int .i64 a) (.int .i64 b) (.slice (some ⟨w4.heap.size,0,none⟩) 1 1)).far (p:=⟨g,1,none⟩) hpg (.int .i64 ((i2+n:Nat):Int));have hfm:Fr [pb,g] w4 _:=((fr8 w4 pb (.int .i64 4) (.int .u64 0) (.int .u64 0) (.int .u64 0) (.int .u64 0) (.int .i64 a) (.int .i64 b) (.slice (some ⟨w4.heap.size,0,none⟩) 1 1)).mono (l':=[pb,g]) (by simp)).setCell (p:=⟨g,1,none⟩) (.inl (by simp)) (.int .i64 ((i2+n:Nat):Int));have hsz:(World.setCell ((((((((w4.setCell ⟨pb,0,none⟩ (.int .i64 4)).setCell ⟨pb,1,none⟩ (.int .u64 0)).setCell ⟨pb,2,none⟩ (.int .u64 0)).setCell ⟨pb,3,none⟩ (.int .u64 0)).setCell ⟨pb,4,none⟩ (.int .u64 0)).setCell ⟨pb,5,none⟩ (.int .i64 a)).setCell ⟨pb,6,none⟩ (.int .i64 b)).setCell ⟨pb,7,none⟩ (.slice (some ⟨w4.heap.size,0,none⟩) 1 1)) ⟨g,1,none⟩ (.int .i64 ((i2+n:Nat):Int))).heap.size=w4.heap.size:=by simp
   generalize hWm:World.setCell _ ⟨g,1,none⟩ _=Wm at hrdm hpcm hfm hsz ⊢
   have hal:Fr [] Wm (Wm.alloc (.cells #[.int .i64 p2.k,.int .u64 p2.s0,.int .u64 p2.s1,.int .u64 p2.s2,.int .u64 p2.s3,.int .i64 p2.mn,.int .i64 p2.mx,.slice p2.A pn p2.c] 89)):=(Fr.refl [] Wm).alloc _
   have hnm:NewP w.heap.size Wm t2 p2:=HN4.out.fr hfm (by
    intro b hb;simp at hb;rcases hb with rfl | rfl
    ·right;intro hm;exact (HBL2.out _ hm).1 rfl
    left;have:=HRB.out;omega)
   have hpb4:pb < w4.heap.size:=HPC4.out.lt;have hrb4:rb < w4.heap.size:=HZ4.out.lt;have hnew:=times_new hnm a b (by have:=Bk.new Wm 89 #[.int .i64 p2.k,.int .u64 p2.s0,.int .u64 p2.s1,.int .u64 p2.s2,.int .u64 p2.s3,.int .i64 p2.mn,.int .i64 p2.mx,.slice p2.A pn p2.c];rw [HPN.out] at this;exact this) (by rw [<-HPN.out];exact hal) (by rw [hsz];have:=HRB.out;omega);rw [hsz,<-HPN.out] at hnew;refine ⟨k+1,i2+n,tTimes a b t2,timesT a b w4.heap.size p2,by go_num,by omega,HR2.out,hrdm.fr_nil hal,hnew,?_,(HZ4.out.fr hfm (by simp;omega)).fr hal (by simp),hpcm.fr hal (by simp),(HF4.out.trans' hfm (by simp;have:=HRB.out;omega)).trans hal.nil_⟩;intro b hb;unfold timesT at hb;rw [blkP] at hb;simp [blkL] at hb;rcases hb with rfl | hb
   ·omega
   exact HBL2.out b hb
  case measure=>simp [intOf];omega
end Go.Proofs.YtfofechcccodeaaGreatDoor
