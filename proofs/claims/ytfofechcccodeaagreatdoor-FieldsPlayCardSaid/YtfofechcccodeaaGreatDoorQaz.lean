/-
  Small texts in one (Er7, Er8). No conditions.
-/
import Derived.Test.YtfofechcccodeaaGreatDoorQay
import Derived.OwnWalk
namespace Go.Proofs.YtfofechcccodeaaGreatDoor
open Go.RowKit Go.Proofs.Tryz
set_option linter.unusedVariables false
set_option linter.unusedSimpArgs false
set_option maxRecDepth 100000
set_option maxHeartbeats 16000000
def BranchOk (f:Nat):Prop:=∀ (w:World) (g:Nat) (A:Option Addr) (c:Nat) (bs:List UInt8) (i d:Nat),Rdr w g A c bs i d->6 * (bs.length - i)+4 <= f ->
 Calls prog 69 #[.pointer (some ⟨g,0,none⟩)] w (ReadPost w g A c bs d (branchF bs f d i []))
theorem partParts:∃ i,prog.info? 89=some i/\i.zero=some (.agg zeroP)/\i.size=8/\i.bytes=80:=info_parts (by kernel_rfl)
def rdM (bs:List UInt8) (g:Nat) (wr:World):Nat:=match wr.cell? ⟨g,1,none⟩ with
 | some (.int _ i)=>bs.length+1 - i.toNat
 | _=>0
theorem rdM_at {w:World} {g:Nat} {A:Option Addr} {c:Nat} {bs:List UInt8} {i d:Nat} (h:Rdr w g A c bs i d):rdM bs g w=bs.length+1 - i:=by
 unfold rdM;rw [h.cells.2.1];simp
theorem eight_new (w:World) (t:TypeId) (a b c d e f g h:Value):∀ j u,[a,b,c,d,e,f,g,h][j]?=some u->(w.alloc (.cells #[a,b,c,d,e,f,g,h] t)).cell? ((⟨w.heap.size,0,none⟩:Addr).add j)=some u:=by
 intro j u hu;have hb:=Bk.new w t #[a,b,c,d,e,f,g,h];rw [addr_add,Nat.zero_add,hb.cell]
 simpa using hu
theorem RepL.one_ {t:RT} {p:PT} (h:RepL [t] [p]):RepP t p:=by rw [RepL_cons] at h;exact h.1
theorem NewL.single {lo:Nat} {w:World} {v:Value} {t:RT} {p:PT} (h:NewL lo w v [t] [p]):NewP lo w t p:=
 ⟨h.rep.one_,h.mem p (by simp),fun b hb=>h.new b (by simp [blkL];exact hb)⟩
theorem NewL.none_ {lo:Nat} {w:World} {v:Value} {ts:List RT} (h:NewL lo w v ts []):ts=[]:=List.eq_nil_of_length_eq_zero (by simpa using h.rep.len)
def BranchRel (w:World) (g:Nat) (A:Option Addr) (c:Nat) (bs:List UInt8) (d:Nat) (R:Res) (rb f:Nat) (v:Value) (wr:World):Prop:=
 ∃ (k i:Nat) (ts:List RT) (ps:List PT),k <= f/\6 * (bs.length - i)+4 <= k/\branchF bs k d i ts=R/\Rdr wr g A c bs i d/\NewL (rb+1) wr v ts ps/\ps.length <= i/\Bk wr rb 89 zeroP/\Fr [g] w wr
theorem goesOn_no {bs:List UInt8} {f d i:Nat} {acc:List RT} {R:Res} (h:¬ goesOn bs i) (hf:0 < f) (hR:branchF bs f d i acc=R):R = .ok (rowT acc,i):=by
 obtain ⟨f',rfl⟩:∃ f',f=f'+1:=⟨f - 1,by omega⟩;rw [branchF,if_neg h] at hR;exact hR.symm
def EndsB (w:World) (g:Nat) (A:Option Addr) (c:Nat) (bs:List UInt8) (d:Nat) (R:Res) (rb:Nat) (i:Nat) (ts:List RT) (ps:List PT) (v:Value) (wr:World):Prop:=
 R = .ok (rowT ts,i)/\Rdr wr g A c bs i d/\NewL (rb+1) wr v ts ps/\ps.length <= i/\Bk wr rb 89 zeroP/\Fr [g] w wr
theorem branch_of (f:Nat) (hP:∀ k,k < f->PieceOk k):BranchOk f:=by
 intro w g A c bs i d h hf;have hlen:=h.len;have hgl:=h.blk.lt;obtain ⟨R,hR⟩:∃ R,R=branchF bs f d i []:=⟨_,rfl⟩;rw [<-hR];have HRD:=zh h;have HPK:=zh hP;have HR:=zh hR;obtain ⟨rb,hrb⟩:∃ rb,rb=w.heap.size:=⟨_,rfl⟩;have HRB:=zh hrb;obtain ⟨i0,hi0,hzz,hz1,hz2⟩:=partParts;clear h hP hR;go_enter func69,ntmps69
 go_wp2_with fail
 rw [<-hrb] at hgl ⊢; clear hrb
 go_loopw [4] (fun v wr=>BranchRel w g A c bs d R rb f v wr) (fun _ wr=>rdM bs g wr)
 case atStart=>
  have ha:Fr [] w (w.alloc (.cells zeroP 89)):=(Fr.refl [] w).alloc _;exact ⟨f,i,[],[],Nat.le_refl _,hf,HR.out.symm,HRD.out.fr_nil ha,NewL.nil _ _,by simp,by rw [HRB.out];exact Bk.new w _ _,ha.nil_⟩
 case round=>
  clear HR HRD hf;obtain ⟨k,i2,ts,ps,hk,hfk,hbr,hrd,hnl,hpi,hz,hfr⟩:=hrel;have hrg:¬ (rb=g):=by omega
  have HBR:=zh hbr;have HRD:=zh hrd;have HNL:=zh hnl;have HZ:=zh hz;have HF:=zh hfr;obtain ⟨pn,hpn⟩:∃ pn,pn=ps.length:=⟨_,rfl⟩;have hform:=hnl.form;have hat_:=hrd.at_;rw [<-hpn] at hform hpi;obtain ⟨lA,lc,rfl⟩:=hform;have HPN:=zh hpn;obtain ⟨L,hL⟩:∃ L,L=bs.length:=⟨_,rfl⟩;rw [<-hL] at hfk hat_ hlen;have HL:=zh hL;obtain ⟨c0,c1,-, f1,-⟩:=hrd.cells;rw [<-hL] at c0;have hgl4:=hrd.blk.lt
  have hs:∀ (x:Nat) (V:Bool),0 < x->stB bs i2 x=V->∀ n,Calls prog 70 #[.pointer (some ⟨g,0,none⟩),.int .u8 (x:Int)] (wr.drewN n) fun e w'=>e = .returned (.bool V)/\∃ m,w'=(wr.drewN n).drewN m:=fun x V hx hV n=>by
   have:=stands_any (hrd.drewN n) x hx;rw [hV] at this;exact this
  obtain ⟨V,hV⟩:∃ V:Int->Bool,V=fun x=>stB bs i2 x.toNat:=⟨_,rfl⟩
  have hsv:∀ (x:Int) (n:Nat),0 < x->Calls prog 70 #[.pointer (some ⟨g,0,none⟩),.int .u8 x] (wr.drewN n) fun e w'=>e = .returned (.bool (V x))/\∃ m,w'=(wr.drewN n).drewN m:=fun x n hx=>by
   obtain ⟨y,rfl⟩:∃ y:Nat,x=(y:Int):=⟨x.toNat,by omega⟩;exact hs y _ (by omega) (by rw [hV];simp) n
  have HSV:=zh hsv;have HVD:=zh hV;clear hbr hrd hnl hz hfr hpn hs hL hV hsv
  have hRest:∀ (W:World),Qt wr W->¬ goesOn bs i2->EndsB w g A c bs d R rb i2 ts ps (.slice lA pn lc) W:=fun W hq hgo=>
   ⟨goesOn_no hgo (by omega) HBR.out,HRD.out.fr_nil hq.fr,HNL.out.fr_nil hq.fr,by rw [<-HPN.out];exact hpi,HZ.out.fr hq.fr (by simp),HF.out.trans hq.fr.nil_⟩
  have HREST:=zh hRest;clear hRest;by_cases hgo:goesOn bs i2
  ·have HGO:=zh hgo;have h1:i2 < L:=by have:=HL.out;have:=hgo.1;omega
   have hd1:decide (i2 < L)=true:=by simpa using h1
   have hd2:(i2:Int) < (L:Int):=by omega
   have hv1:V 124=false:=by rw [HVD.out];exact stB_no hgo.2.1
   have hv2:V 41=false:=by rw [HVD.out];exact stB_no hgo.2.2
   clear hgo;go_wp2_with fail
   go_quiet ((go_at_call 70;exact Calls.quiet_of (HSV.out _ _ (by decide))))
   go_wp2_with fail
   go_at_call 84
   refine calls_gen1 fun W hW=>?_;have hfq:Fr [] wr W:=by rw [hW];exact (Fr.refl [] wr).drewN _
   have HRW:=zh (HRD.out.fr_nil hfq);have HNW:=zh (HNL.out.fr_nil hfq);have HZW:=zh (HZ.out.fr hfq (by simp));have HFW:=zh (HF.out.trans hfq.nil_);clear hW hfq c0 c1 f1 hgl4;obtain ⟨k',hk'⟩:∃ k',k=k'+1:=⟨k - 1,by omega⟩;have HKK:=zh hk';refine (HPK.out k' (by omega) W g A c bs i2 d HRW.out (by rw [<-HL.out];exact h1) (by rw [<-HL.out];omega)).mono ?_;intro e w2 hp;have hbr:=HBR.out;rw [hk',branchF,if_pos HGO.out] at hbr;have hle:=(readF_le bs k').2.2.1 d i2;rcases hX:pieceF bs k' d i2 with ⟨p,code⟩ | ⟨t,j⟩
   ·rw [hX] at hp hbr;have HR2:Hid (R = .error (p,code)):=zh hbr.symm;obtain ⟨v,rfl,⟨fg,rfl,hfb⟩,hf2⟩:=hp;have HV:=zh (show FaultV w2 _ (p:Int) (code:Int) from ⟨fg,rfl,hfb⟩);have HZ2:=zh (HZW.out.fr hf2 (by simpa using hrg));have HF2:=zh (HFW.out.trans hf2);clear hfb hf2 hX hbr HBR hle hk';obtain ⟨⟨k0,k1,k2,k3,k4,k5,k6,k7⟩,z0,z1,z2,z3,z4,z5,z6,z7,hrl⟩:=HZ2.out.eightc;unfold zeroP;go_wp2_with fail
    refine body_gen1 fun W' hW=>?_;refine bodyPost_ret (v := .tuple #[.agg zeroP,.iface 74 (.pointer (some ⟨fg,0,none⟩))]) (by simp [results,results69,go_sem,hW,k0,k1,k2,k3,k4,k5,k6,k7,hrl,zeroP,PT.val]) rfl ?_;have hset:Fr [rb] w2 W':=by rw [hW];exact (fr8 w2 rb _ _ _ _ _ _ _ _).alloc _
    exact ReadPost.err HR2.out rfl (HV.out.far8 HZ2.out hset) (HF2.out.trans' hset (by simp;have:=HRB.out;omega))
   have hjj:=hle t j (by rw [<-HL.out];exact h1) hX;rw [hX] at hp hbr;obtain ⟨p,rfl,hn,hrd,hf2⟩:=hp;have HRD2:=zh hrd;have HZ2:=zh (HZW.out.fr hf2 (by simpa using hrg));have HF2:=zh (HFW.out.trans hf2);have HN2:=zh hn;have hgr1:g < rb+1:=by omega
   have HNL2:=zh (HNW.out.fr hf2 (by simpa using hgr1))
   have hblk:∀ b ∈ blkP p,(Value.slice lA pn lc).ownBlock ≠ some b:=fun b hb e=>by
    have h1:=(HNW.out.blk b e).2;have h2:=(hn.new b hb).1;omega
   have HBK:=zh hblk;have HBR2:Hid (branchF bs k' d j (ts ++ [t])=R):=zh hbr;have HJ:=zh hjj;have hlo:rb+1 <= W.heap.size:=HZW.out.lt;have hlo2:W.heap.size <= w2.heap.size:=hf2.size
   have hown:∀ O1 O2,((w2.alloc O1).alloc O2).ownsRow (rb+1) 89 8 (.slice lA pn lc) pn (ps.flatMap PT.cells):=fun O1 O2=>by
    have:=own_frv HNL2.out.own (((Fr.refl [] w2).alloc O1).alloc O2) (by simp);rw [<-HPN.out] at this;exact this
   have HOWN:=zh hown;clear hn hrd hf2 hX hbr HBR hle hk' hblk hjj hown;unfold PT.val;obtain ⟨qn,hqn⟩:∃ qn,qn=p.l.length:=⟨_,rfl⟩;rw [<-hqn];have HQN:=zh hqn;clear hqn;go_wp2_with (at_builtin;refine wpList_append_R rfl (.tmp 36) (.tmp 38) 87 rfl (rb+1) 89 i0 _ 8 80 underlying87 hi0 hzz hz1 hz2 rfl (by omega) (.slice lA pn lc) pn (ps.flatMap PT.cells) (by first | rfl | simp [Act.eval]) (HOWN.out _ _) ⟨w2.heap.size+1,0,none⟩ 1 1 [.int .i64 p.k,.int .u64 p.s0,.int .u64 p.s1,.int .u64 p.s2,.int .u64 p.s3,.int .i64 p.mn,.int .i64 p.mx,.slice p.A qn p.c] (by first | rfl | simp [Act.eval]) rfl (by have:=eight_new (w2.alloc (.cells #[.int .i64 p.k,.int .u64 p.s0,.int .u64 p.s1,.int .u64 p.s2,.int .u64 p.s3,.int .i64 p.mn,.int .i64 p.mx,.slice p.A qn p.c] 89)) 89 (.int .i64 p.k) (.int .u64 p.s0) (.int .u64 p.s1) (.int .u64 p.s2) (.int .u64 p.s3) (.int .i64 p.mn) (.int .i64 p.mx) (.slice p.A qn p.c);simpa using this) (by simp [Value.oneCell']) (by unfold maxLen;omega) (by omega) (by simp;omega) ?_;intro v' w6 hown6 hgr6 hat6;have HOWN6:=zh hown6;have HGR6:=zh hgr6;have HAT6:=zh hat6;clear hown6 hgr6 hat6)
   have hfin:BranchRel w g A c bs d R rb f v' w6/\rdM bs g w6 < rdM bs g wr:=by
    have hb:=HNL2.out.blk;have hown6:=HOWN6.out;rw [HPN.out,HQN.out] at hown6;obtain ⟨h1,h2⟩:=NewL.snoc HNL2.out (HN2.out.lower hlo) HBK.out (((Fr.refl [] w2).alloc _).alloc _) hown6 HGR6.out HAT6.out;have hge:∀ b ∈ (Value.slice lA pn lc).ownBlock.toList,rb+1 <= b:=fun b hb'=>(hb b (by simpa using hb')).1;have hrd6:=HRD2.out.fr_far h2 (fun b hb'=>by have:=hge b hb';omega);have hjj:=HJ.out;refine ⟨⟨k',j,ts ++ [t],ps ++ [p],by have:=HKK.out;omega,by have:=HKK.out;have:=HL.out;omega,HBR2.out,hrd6,h1,by simp;have:=HPN.out;omega,HZ2.out.fr h2 (fun hm=>by have:=hge rb hm;omega),HF2.out.trans' h2 (fun b hb'=>by have:=hge b hb';have:=HRB.out;right;omega)⟩,?_⟩;rw [rdM_at hrd6,rdM_at HRD.out];have:=HL.out;omega
   have HFIN:=zh hfin;clear hfin;go_roundw
   case rel=>exact HFIN.out.1
   case measure=>exact HFIN.out.2
  have hcases:L <= i2 ∨ (i2 < L/\bn bs i2=124) ∨ (i2 < L/\bn bs i2=41):=by
   unfold goesOn at hgo;rw [<-HL.out] at hgo;by_cases h1:i2 < L
   ·by_cases h2:bn bs i2=124
    ·exact .inr (.inl ⟨h1,h2⟩)
    by_cases h3:bn bs i2=41
    ·exact .inr (.inr ⟨h1,h3⟩)
    exact absurd ⟨h1,h2,h3⟩ hgo
   left;omega
  have hcs2:L <= i2 ∨ (i2 < L/\V 124=true) ∨ (i2 < L/\V 124=false/\V 41=true):=by
   rcases hcases with h | ⟨h,h2⟩ | ⟨h,h2⟩
   ·exact .inl h
   ·exact .inr (.inl ⟨h,by rw [HVD.out];exact stB_yes h2⟩)
   exact .inr (.inr ⟨h,by rw [HVD.out];exact stB_no (by show bn bs i2 ≠ 124;omega),by rw [HVD.out];exact stB_yes h2⟩)
  have HCS:=zh hcs2;have HGO:=zh hgo;clear hgo hcases hcs2;obtain ⟨⟨k0,k1,k2,k3,k4,k5,k6,k7⟩,z0,z1,z2,z3,z4,z5,z6,z7,hrl⟩:=HZ.out.eightc;rcases ps with _ | ⟨p,_ | ⟨q,r⟩⟩
  ·obtain rfl:pn=0:=HPN.out;rcases HCS.out with h1 | ⟨h1,h2⟩ | ⟨h1,h2,h3⟩
   ·have hd1:decide (i2 < L)=false:=by simp;omega
    have hd2:decide ((i2:Int) < (L:Int))=false:=by simp;omega
    go_wp2_with fail
    go_quiet ((go_at_call 70;exact Calls.quiet_of (HSV.out _ _ (by decide))))
    go_wp2_with fail
    refine body_gen1 fun W' hW=>?_;refine bodyPost_ret (v := .tuple #[.agg zeroP,.nilIface]) (by simp [results,results69,go_sem,hW,k0,k1,k2,k3,k4,k5,k6,k7,hrl,zeroP]) rfl ?_;have hset:Fr [rb] (wr.drewN nq) W':=by rw [hW];exact fr8 _ rb _ _ _ _ _ _ _ _
    obtain ⟨hr,hrd,hnl,-, hz,hf⟩:=HREST.out (wr.drewN nq) ⟨nq,rfl⟩ HGO.out;have hfe:Fr [g] w W':=hf.trans' hset (by simp;have:=HRB.out;omega);have hre:Rdr W' g A c bs i2 d:=hrd.fr_far hset (by simpa using hgl);have e:=hnl.none_;subst e;rw [<-zero_val];exact ReadPost.ok_ hr rfl (leaf_new _ _ _ _) hre hfe
   ·have hd1:decide (i2 < L)=true:=by simpa using h1
    have hd2:(i2:Int) < (L:Int):=by omega
    go_wp2_with fail
    go_quiet ((go_at_call 70;exact Calls.quiet_of (HSV.out _ _ (by decide))))
    go_wp2_with fail
    refine body_gen1 fun W' hW=>?_;refine bodyPost_ret (v := .tuple #[.agg zeroP,.nilIface]) (by simp [results,results69,go_sem,hW,k0,k1,k2,k3,k4,k5,k6,k7,hrl,zeroP]) rfl ?_;have hset:Fr [rb] (wr.drewN nq) W':=by rw [hW];exact fr8 _ rb _ _ _ _ _ _ _ _
    obtain ⟨hr,hrd,hnl,-, hz,hf⟩:=HREST.out (wr.drewN nq) ⟨nq,rfl⟩ HGO.out;have hfe:Fr [g] w W':=hf.trans' hset (by simp;have:=HRB.out;omega);have hre:Rdr W' g A c bs i2 d:=hrd.fr_far hset (by simpa using hgl);have e:=hnl.none_;subst e;rw [<-zero_val];exact ReadPost.ok_ hr rfl (leaf_new _ _ _ _) hre hfe
   have hd1:decide (i2 < L)=true:=by simpa using h1
   have hd2:(i2:Int) < (L:Int):=by omega
   go_wp2_with fail
   go_quiet ((go_at_call 70;exact Calls.quiet_of (HSV.out _ _ (by decide))))
   go_wp2_with fail
   refine body_gen1 fun W' hW=>?_;refine bodyPost_ret (v := .tuple #[.agg zeroP,.nilIface]) (by simp [results,results69,go_sem,hW,k0,k1,k2,k3,k4,k5,k6,k7,hrl,zeroP]) rfl ?_;have hset:Fr [rb] (wr.drewN nq) W':=by rw [hW];exact fr8 _ rb _ _ _ _ _ _ _ _
   obtain ⟨hr,hrd,hnl,-, hz,hf⟩:=HREST.out (wr.drewN nq) ⟨nq,rfl⟩ HGO.out;have hfe:Fr [g] w W':=hf.trans' hset (by simp;have:=HRB.out;omega);have hre:Rdr W' g A c bs i2 d:=hrd.fr_far hset (by simpa using hgl);have e:=hnl.none_;subst e;rw [<-zero_val];exact ReadPost.ok_ hr rfl (leaf_new _ _ _ _) hre hfe
  ·obtain rfl:pn=1:=HPN.out;have ho:=HNL.out.own;have hxs:[p].flatMap PT.cells=p.cells:=by simp
   rw [hxs] at ho;obtain ⟨qn,hqn⟩:∃ qn,qn=p.l.length:=⟨_,rfl⟩;obtain ⟨lb,rfl,hlb,-, hcl⟩:=own_cells ho (by unfold PT.cells;simp);have e0:=hcl 0 _ rfl;have e1:=hcl 1 _ rfl;have e2:=hcl 2 _ rfl;have e3:=hcl 3 _ rfl;have e4:=hcl 4 _ rfl;have e5:=hcl 5 _ rfl;have e6:=hcl 6 _ rfl;have e7:=hcl 7 _ rfl;rw [<-hqn] at e7;have HQN:=zh hqn;clear hqn hcl ho hxs;rcases HCS.out with h1 | ⟨h1,h2⟩ | ⟨h1,h2,h3⟩
   ·have hd1:decide (i2 < L)=false:=by simp;omega
    have hd2:decide ((i2:Int) < (L:Int))=false:=by simp;omega
    go_wp2_with fail
    go_quiet ((go_at_call 70;exact Calls.quiet_of (HSV.out _ _ (by decide))))
    go_wp2_with fail
    refine body_gen1 fun W' hW=>?_;refine bodyPost_ret (v := .tuple #[p.val,.nilIface]) (by simp [results,results69,go_sem,hW,k0,k1,k2,k3,k4,k5,k6,k7,hrl,PT.val,HQN.out]) rfl ?_;have hset:Fr [rb] (wr.drewN nq) W':=by rw [hW];exact fr8 _ rb _ _ _ _ _ _ _ _
    obtain ⟨hr,hrd,hnl,-, hz,hf⟩:=HREST.out (wr.drewN nq) ⟨nq,rfl⟩ HGO.out;have hfe:Fr [g] w W':=hf.trans' hset (by simp;have:=HRB.out;omega);have hre:Rdr W' g A c bs i2 d:=hrd.fr_far hset (by simpa using hgl);obtain ⟨t,rfl⟩:∃ t,ts=[t]:=List.length_eq_one_iff.1 (by simpa using hnl.rep.len);have hs1:=hnl.single;exact ReadPost.ok_ hr rfl ((hs1.fr hset (by simp)).lower (by have:=HRB.out;omega)) hre hfe
   ·have hd1:decide (i2 < L)=true:=by simpa using h1
    have hd2:(i2:Int) < (L:Int):=by omega
    go_wp2_with fail
    go_quiet ((go_at_call 70;exact Calls.quiet_of (HSV.out _ _ (by decide))))
    go_wp2_with fail
    refine body_gen1 fun W' hW=>?_;refine bodyPost_ret (v := .tuple #[p.val,.nilIface]) (by simp [results,results69,go_sem,hW,k0,k1,k2,k3,k4,k5,k6,k7,hrl,PT.val,HQN.out]) rfl ?_;have hset:Fr [rb] (wr.drewN nq) W':=by rw [hW];exact fr8 _ rb _ _ _ _ _ _ _ _
    obtain ⟨hr,hrd,hnl,-, hz,hf⟩:=HREST.out (wr.drewN nq) ⟨nq,rfl⟩ HGO.out;have hfe:Fr [g] w W':=hf.trans' hset (by simp;have:=HRB.out;omega);have hre:Rdr W' g A c bs i2 d:=hrd.fr_far hset (by simpa using hgl);obtain ⟨t,rfl⟩:∃ t,ts=[t]:=List.length_eq_one_iff.1 (by simpa using hnl.rep.len);have hs1:=hnl.single;exact ReadPost.ok_ hr rfl ((hs1.fr hset (by simp)).lower (by have:=HRB.out;omega)) hre hfe
   have hd1:decide (i2 < L)=true:=by simpa using h1
   have hd2:(i2:Int) < (L:Int):=by omega
   go_wp2_with fail
   go_quiet ((go_at_call 70;exact Calls.quiet_of (HSV.out _ _ (by decide))))
   go_wp2_with fail
   refine body_gen1 fun W' hW=>?_;refine bodyPost_ret (v := .tuple #[p.val,.nilIface]) (by simp [results,results69,go_sem,hW,k0,k1,k2,k3,k4,k5,k6,k7,hrl,PT.val,HQN.out]) rfl ?_;have hset:Fr [rb] (wr.drewN nq) W':=by rw [hW];exact fr8 _ rb _ _ _ _ _ _ _ _
   obtain ⟨hr,hrd,hnl,-, hz,hf⟩:=HREST.out (wr.drewN nq) ⟨nq,rfl⟩ HGO.out;have hfe:Fr [g] w W':=hf.trans' hset (by simp;have:=HRB.out;omega);have hre:Rdr W' g A c bs i2 d:=hrd.fr_far hset (by simpa using hgl);obtain ⟨t,rfl⟩:∃ t,ts=[t]:=List.length_eq_one_iff.1 (by simpa using hnl.rep.len);have hs1:=hnl.single;exact ReadPost.ok_ hr rfl ((hs1.fr hset (by simp)).lower (by have:=HRB.out;omega)) hre hfe
  have hp0:((pn:Int) == 0)=false:=by have:=HPN.out;simp at this ⊢; omega
  have hp1:((pn:Int) == 1)=false:=by have:=HPN.out;simp at this ⊢; omega
  rcases HCS.out with h1 | ⟨h1,h2⟩ | ⟨h1,h2,h3⟩
  ·have hd1:decide (i2 < L)=false:=by simp;omega
   have hd2:decide ((i2:Int) < (L:Int))=false:=by simp;omega
   go_wp2_with fail
   go_quiet ((go_at_call 70;exact Calls.quiet_of (HSV.out _ _ (by decide))))
   go_wp2_with fail
   refine body_gen1 fun W' hW=>?_;refine bodyPost_ret (v := .tuple #[(PT.mk 2 0 0 0 0 0 0 lA lc (p :: q :: r)).val,.nilIface]) (by simp [results,results69,go_sem,hW,k0,k1,k2,k3,k4,k5,k6,k7,hrl,PT.val,PT.k,PT.s0,PT.s1,PT.s2,PT.s3,PT.mn,PT.mx,PT.A,PT.c,PT.l,HPN.out]) rfl ?_;have hset:Fr [rb] (wr.drewN nq) W':=by rw [hW];exact fr8 _ rb _ _ _ _ _ _ _ _
   obtain ⟨hr,hrd,hnl,-, hz,hf⟩:=HREST.out (wr.drewN nq) ⟨nq,rfl⟩ HGO.out;have hfe:Fr [g] w W':=hf.trans' hset (by simp;have:=HRB.out;omega);have hre:Rdr W' g A c bs i2 d:=hrd.fr_far hset (by simpa using hgl);obtain ⟨hp1,hp2⟩:=hnl.part 2 0 0
   have hrow:rowT ts = .mk 2 S4.empty 0 0 ts:=by
    have:=hnl.rep.len
    match ts,this with
    | a :: b :: r',_=>rfl
   rw [hrow] at hr;exact ReadPost.ok_ hr rfl ((hp1.fr hset (by simp)).lower (by have:=HRB.out;omega)) hre hfe
  ·have hd1:decide (i2 < L)=true:=by simpa using h1
   have hd2:(i2:Int) < (L:Int):=by omega
   go_wp2_with fail
   go_quiet ((go_at_call 70;exact Calls.quiet_of (HSV.out _ _ (by decide))))
   go_wp2_with fail
   refine body_gen1 fun W' hW=>?_;refine bodyPost_ret (v := .tuple #[(PT.mk 2 0 0 0 0 0 0 lA lc (p :: q :: r)).val,.nilIface]) (by simp [results,results69,go_sem,hW,k0,k1,k2,k3,k4,k5,k6,k7,hrl,PT.val,PT.k,PT.s0,PT.s1,PT.s2,PT.s3,PT.mn,PT.mx,PT.A,PT.c,PT.l,HPN.out]) rfl ?_;have hset:Fr [rb] (wr.drewN nq) W':=by rw [hW];exact fr8 _ rb _ _ _ _ _ _ _ _
   obtain ⟨hr,hrd,hnl,-, hz,hf⟩:=HREST.out (wr.drewN nq) ⟨nq,rfl⟩ HGO.out;have hfe:Fr [g] w W':=hf.trans' hset (by simp;have:=HRB.out;omega);have hre:Rdr W' g A c bs i2 d:=hrd.fr_far hset (by simpa using hgl);obtain ⟨hp1,hp2⟩:=hnl.part 2 0 0
   have hrow:rowT ts = .mk 2 S4.empty 0 0 ts:=by
    have:=hnl.rep.len
    match ts,this with
    | a :: b :: r',_=>rfl
   rw [hrow] at hr;exact ReadPost.ok_ hr rfl ((hp1.fr hset (by simp)).lower (by have:=HRB.out;omega)) hre hfe
  have hd1:decide (i2 < L)=true:=by simpa using h1
  have hd2:(i2:Int) < (L:Int):=by omega
  go_wp2_with fail
  go_quiet ((go_at_call 70;exact Calls.quiet_of (HSV.out _ _ (by decide))))
  go_wp2_with fail
  refine body_gen1 fun W' hW=>?_;refine bodyPost_ret (v := .tuple #[(PT.mk 2 0 0 0 0 0 0 lA lc (p :: q :: r)).val,.nilIface]) (by simp [results,results69,go_sem,hW,k0,k1,k2,k3,k4,k5,k6,k7,hrl,PT.val,PT.k,PT.s0,PT.s1,PT.s2,PT.s3,PT.mn,PT.mx,PT.A,PT.c,PT.l,HPN.out]) rfl ?_;have hset:Fr [rb] (wr.drewN nq) W':=by rw [hW];exact fr8 _ rb _ _ _ _ _ _ _ _
  obtain ⟨hr,hrd,hnl,-, hz,hf⟩:=HREST.out (wr.drewN nq) ⟨nq,rfl⟩ HGO.out;have hfe:Fr [g] w W':=hf.trans' hset (by simp;have:=HRB.out;omega);have hre:Rdr W' g A c bs i2 d:=hrd.fr_far hset (by simpa using hgl);obtain ⟨hp1,hp2⟩:=hnl.part 2 0 0
  have hrow:rowT ts = .mk 2 S4.empty 0 0 ts:=by
   have:=hnl.rep.len
   match ts,this with
   | a :: b :: r',_=>rfl
  rw [hrow] at hr;exact ReadPost.ok_ hr rfl ((hp1.fr hset (by simp)).lower (by have:=HRB.out;omega)) hre hfe
end Go.Proofs.YtfofechcccodeaaGreatDoor
namespace Go.Proofs.YtfofechcccodeaaGreatDoor
open Go.RowKit Go.Proofs.Tryz
set_option linter.unusedVariables false
set_option linter.unusedSimpArgs false
set_option maxRecDepth 100000
set_option maxHeartbeats 16000000
def ExprRel (w:World) (g:Nat) (A:Option Addr) (c:Nat) (bs:List UInt8) (d:Nat) (R:Res) (rb f:Nat) (v:Value) (wr:World):Prop:=
 ∃ (k i:Nat) (ts:List RT) (ps:List PT),k <= f/\6 * (bs.length - i)+5 <= k/\exprF bs k d i ts=R/\Rdr wr g A c bs i d/\NewL (rb+1) wr v ts ps/\ps.length <= i/\Bk wr rb 89 zeroP/\Fr [g] w wr
theorem expr_of (f:Nat) (hP:∀ k,k < f->BranchOk k):ExprOk f:=by
 intro w g A c bs i d h hf;have hlen:=h.len;have hgl:=h.blk.lt;obtain ⟨R,hR⟩:∃ R,R=exprF bs f d i []:=⟨_,rfl⟩;rw [<-hR];have HRD:=zh h;have HPK:=zh hP;have HR:=zh hR;obtain ⟨rb,hrb⟩:∃ rb,rb=w.heap.size:=⟨_,rfl⟩;have HRB:=zh hrb;obtain ⟨i0,hi0,hzz,hz1,hz2⟩:=partParts;clear h hP hR;go_enter func56,ntmps56
 go_wp2_with fail
 rw [<-hrb] at hgl ⊢; clear hrb
 go_loopw [4] (fun v wr=>ExprRel w g A c bs d R rb f v wr) (fun _ wr=>rdM bs g wr)
 case atStart=>
  have ha:Fr [] w (w.alloc (.cells zeroP 89)):=(Fr.refl [] w).alloc _;exact ⟨f,i,[],[],Nat.le_refl _,hf,HR.out.symm,HRD.out.fr_nil ha,NewL.nil _ _,by simp,by rw [HRB.out];exact Bk.new w _ _,ha.nil_⟩
 case round=>
  clear HR HRD hf;obtain ⟨k,i2,ts,ps,hk,hfk,hbr,hrd,hnl,hpi,hz,hfr⟩:=hrel;have hrg:¬ (rb=g):=by omega
  have HBR:=zh hbr;have HRD:=zh hrd;have HNL:=zh hnl;have HZ:=zh hz;have HF:=zh hfr;obtain ⟨pn,hpn⟩:∃ pn,pn=ps.length:=⟨_,rfl⟩;have hform:=hnl.form;have hat_:=hrd.at_;rw [<-hpn] at hform hpi;obtain ⟨lA,lc,rfl⟩:=hform;have HPN:=zh hpn;obtain ⟨L,hL⟩:∃ L,L=bs.length:=⟨_,rfl⟩;rw [<-hL] at hfk hat_ hlen;have HL:=zh hL;clear hbr hrd hnl hz hfr hpn hL;go_wp2_with fail
  go_at_call 69
  obtain ⟨k',hk'⟩:∃ k',k=k'+1:=⟨k - 1,by omega⟩;have HKK:=zh hk';refine (HPK.out k' (by omega) wr g A c bs i2 d HRD.out (by rw [<-HL.out];omega)).mono ?_;intro e w2 hp;have hbr:=HBR.out;rw [hk',exprF] at hbr;have hle:=(readF_le bs k').2.1 d i2 [];rcases hX:branchF bs k' d i2 [] with ⟨p,code⟩ | ⟨t,j⟩
  ·rw [hX] at hp hbr;have HR2:Hid (R = .error (p,code)):=zh hbr.symm;obtain ⟨v,rfl,⟨fg,rfl,hfb⟩,hf2⟩:=hp;have HV:=zh (show FaultV w2 _ (p:Int) (code:Int) from ⟨fg,rfl,hfb⟩);have HZ2:=zh (HZ.out.fr hf2 (by simpa using hrg));have HF2:=zh (HF.out.trans hf2);clear hfb hf2 hX hbr HBR hle hk';obtain ⟨⟨k0,k1,k2,k3,k4,k5,k6,k7⟩,z0,z1,z2,z3,z4,z5,z6,z7,hrl⟩:=HZ2.out.eightc;unfold zeroP;go_wp2_with fail
   refine body_gen1 fun W' hW=>?_;refine bodyPost_ret (v := .tuple #[.agg zeroP,.iface 74 (.pointer (some ⟨fg,0,none⟩))]) (by simp [results,results56,go_sem,hW,k0,k1,k2,k3,k4,k5,k6,k7,hrl,zeroP]) rfl ?_;have hset:Fr [rb] w2 W':=by rw [hW];exact (fr8 w2 rb _ _ _ _ _ _ _ _).alloc _
   exact ReadPost.err HR2.out rfl (HV.out.far8 HZ2.out hset) (HF2.out.trans' hset (by simp;have:=HRB.out;omega))
  have hjj:=hle t j (by rw [<-HL.out];exact hat_) hX;rw [hX] at hp hbr;obtain ⟨p,rfl,hn,hrd,hf2⟩:=hp;have HRD2:=zh hrd;have HZ2:=zh (HZ.out.fr hf2 (by simpa using hrg));have HF2:=zh (HF.out.trans hf2);have HN2:=zh hn;have hgr1:g < rb+1:=by omega
  have HNL2:=zh (HNL.out.fr hf2 (by simpa using hgr1))
  have hblk:∀ b ∈ blkP p,(Value.slice lA pn lc).ownBlock ≠ some b:=fun b hb e=>by
   have h1:=(HNL.out.blk b e).2;have h2:=(hn.new b hb).1;omega
  have HBK:=zh hblk;have HBR2:Hid ((if bn bs j=124 then exprF bs k' d (j+1) (ts ++ [t]) else .ok (joinT (ts ++ [t]),j))=R):=zh hbr;have HJ:=zh hjj;have hlo:rb+1 <= wr.heap.size:=HZ.out.lt;have hlo2:wr.heap.size <= w2.heap.size:=hf2.size
  have hown:∀ O1 O2,((w2.alloc O1).alloc O2).ownsRow (rb+1) 89 8 (.slice lA pn lc) pn (ps.flatMap PT.cells):=fun O1 O2=>by
   have:=own_frv HNL2.out.own (((Fr.refl [] w2).alloc O1).alloc O2) (by simp);rw [<-HPN.out] at this;exact this
  have HOWN:=zh hown;clear hn hrd hf2 hX hbr HBR hle hk' hblk hjj hown;unfold PT.val;obtain ⟨qn,hqn⟩:∃ qn,qn=p.l.length:=⟨_,rfl⟩;rw [<-hqn];have HQN:=zh hqn;clear hqn;go_wp2_with (at_builtin;refine wpList_append_R rfl (.tmp 16) (.tmp 18) 87 rfl (rb+1) 89 i0 _ 8 80 underlying87 hi0 hzz hz1 hz2 rfl (by omega) (.slice lA pn lc) pn (ps.flatMap PT.cells) (by first | rfl | simp [Act.eval]) (HOWN.out _ _) ⟨w2.heap.size+1,0,none⟩ 1 1 [.int .i64 p.k,.int .u64 p.s0,.int .u64 p.s1,.int .u64 p.s2,.int .u64 p.s3,.int .i64 p.mn,.int .i64 p.mx,.slice p.A qn p.c] (by first | rfl | simp [Act.eval]) rfl (by have:=eight_new (w2.alloc (.cells #[.int .i64 p.k,.int .u64 p.s0,.int .u64 p.s1,.int .u64 p.s2,.int .u64 p.s3,.int .i64 p.mn,.int .i64 p.mx,.slice p.A qn p.c] 89)) 89 (.int .i64 p.k) (.int .u64 p.s0) (.int .u64 p.s1) (.int .u64 p.s2) (.int .u64 p.s3) (.int .i64 p.mn) (.int .i64 p.mx) (.slice p.A qn p.c);simpa using this) (by simp [Value.oneCell']) (by unfold maxLen;omega) (by omega) (by simp;omega) ?_;intro v' w6 hown6 hgr6 hat6;have HOWN6:=zh hown6;have HGR6:=zh hgr6;have HAT6:=zh hat6;clear hown6 hgr6 hat6)
  go_at_call 70
  have hfin:Rdr w6 g A c bs j d/\NewL (rb+1) w6 v' (ts ++ [t]) (ps ++ [p])/\Bk w6 rb 89 zeroP/\Fr [g] w w6:=by
   have hb:=HNL2.out.blk;have hown6:=HOWN6.out;rw [HPN.out,HQN.out] at hown6;obtain ⟨h1,h2⟩:=NewL.snoc HNL2.out (HN2.out.lower hlo) HBK.out (((Fr.refl [] w2).alloc _).alloc _) hown6 HGR6.out HAT6.out;have hge:∀ b ∈ (Value.slice lA pn lc).ownBlock.toList,rb+1 <= b:=fun b hb'=>(hb b (by simpa using hb')).1;have hrd6:=HRD2.out.fr_far h2 (fun b hb'=>by have:=hge b hb';omega);exact ⟨hrd6,h1,HZ2.out.fr h2 (fun hm=>by have:=hge rb hm;omega),HF2.out.trans' h2 (fun b hb'=>by have:=hge b hb';have:=HRB.out;right;omega)⟩
  obtain ⟨h1,h2,h3,h4⟩:=hfin;have hform:=h2.form;have hln:(ps ++ [p]).length=pn+1:=by simp;exact HPN.out.symm
  rw [hln] at hform;obtain ⟨A',c',rfl⟩:=hform;have HRD6:=zh h1;have HNL6:=zh h2;have HZ6:=zh h3;have HF6:=zh h4;clear h1 h2 h3 h4 hln HOWN6 HGR6 HAT6 HOWN;by_cases h124:bn bs j=124
  ·have hbr:=HBR2.out;rw [if_pos h124] at hbr;have HBR3:=zh hbr;have hjl:j < bs.length:=bn_pos h124 (by omega);rw [<-HL.out] at hjl;refine (stands_q HRD6.out 124 (by omega) true (stB_yes h124)).mono ?_;rintro e w7 ⟨rfl,hq7⟩;have hf7:=hq7.fr;have HRD7:=zh (HRD6.out.fr_nil hf7);have HNL7:=zh (HNL6.out.fr_nil hf7);have HZ7:=zh (HZ6.out.fr hf7 (by simp));have HF7:=zh (HF6.out.trans hf7.nil_);clear hq7 hf7 hbr h124;obtain ⟨-, c1,-, f1,-⟩:=HRD7.out.cells;have hgl7:=HRD7.out.blk.lt
   have hfin:ExprRel w g A c bs d R rb f (.slice A' (pn+1) c') (w7.setCell ⟨g,1,none⟩ (.int .i64 ((j:Int)+1)))/\rdM bs g (w7.setCell ⟨g,1,none⟩ (.int .i64 ((j:Int)+1))) < rdM bs g wr:=by
    have e:((j:Int)+1)=((j+1:Nat):Int):=by omega
    rw [e];have hs:Fr [g] w7 (w7.setCell ⟨g,1,none⟩ (.int .i64 ((j+1:Nat):Int))):=(Fr.refl [g] w7).setCell (.inl (by simp)) _;have hrd:=HRD7.out.move (j:=j+1) (by rw [<-HL.out];omega);have hjj:=HJ.out;refine ⟨⟨k',j+1,ts ++ [t],ps ++ [p],by have:=HKK.out;omega,by have:=HKK.out;have:=HL.out;omega,HBR3.out,hrd,HNL7.out.fr hs (by simpa using hgr1),by simp;have:=HPN.out;omega,HZ7.out.fr hs (by simpa using hrg),HF7.out.trans hs⟩,?_⟩;rw [rdM_at hrd,rdM_at HRD.out];have:=HL.out;omega
   have HFIN:=zh hfin;clear hfin;go_wp2_with fail
   go_roundw
   case rel=>exact HFIN.out.1
   case measure=>exact HFIN.out.2
  have hbr:=HBR2.out;rw [if_neg h124] at hbr;have HBR3:=zh hbr.symm;refine (stands_q HRD6.out 124 (by omega) false (stB_no h124)).mono ?_;rintro e w7 ⟨rfl,hq7⟩;have hf7:=hq7.fr;have HRD7:=zh (HRD6.out.fr_nil hf7);have HNL7:=zh (HNL6.out.fr_nil hf7);have HZ7:=zh (HZ6.out.fr hf7 (by simp));have HF7:=zh (HF6.out.trans hf7.nil_);clear hq7 hf7 hbr h124;obtain ⟨⟨k0,k1,k2,k3,k4,k5,k6,k7⟩,z0,z1,z2,z3,z4,z5,z6,z7,hrl⟩:=HZ7.out.eightc;by_cases hp0:pn=0
  ·have hps:ps=[]:=List.eq_nil_of_length_eq_zero (by have:=HPN.out;omega);have hts:ts=[]:=List.eq_nil_of_length_eq_zero (by have:=HNL.out.rep.len;rw [hps] at this;simpa using this);subst hp0 hps hts;have ho:=HNL7.out.own;have hxs:([] ++ [p]).flatMap PT.cells=p.cells:=by simp
   rw [hxs] at ho;obtain ⟨lb,rfl,hlb,-, hcl⟩:=own_cells ho (by unfold PT.cells;simp);have e0:=hcl 0 _ rfl;have e1:=hcl 1 _ rfl;have e2:=hcl 2 _ rfl;have e3:=hcl 3 _ rfl;have e4:=hcl 4 _ rfl;have e5:=hcl 5 _ rfl;have e6:=hcl 6 _ rfl;have e7:=hcl 7 _ rfl;rw [<-HQN.out] at e7;clear hcl ho hxs;go_wp2_with fail
   refine body_gen1 fun W' hW=>?_;refine bodyPost_ret (v := .tuple #[p.val,.nilIface]) (by simp [results,results56,go_sem,hW,k0,k1,k2,k3,k4,k5,k6,k7,hrl,PT.val,HQN.out]) rfl ?_;have hset:Fr [rb] w7 W':=by rw [hW];exact fr8 w7 rb _ _ _ _ _ _ _ _
   have hs1:NewP (rb+1) w7 t p:=NewL.single (v := .slice (some ⟨lb,0,none⟩) (0+1) c') (by simpa using HNL7.out);exact ReadPost.ok_ HBR3.out rfl ((hs1.fr hset (by simp)).lower (by have:=HRB.out;omega)) (HRD7.out.fr_far hset (by simpa using hgl)) (HF7.out.trans' hset (by simp;have:=HRB.out;omega))
  have hp1:(((pn:Int)+1) == 1)=false:=by simp;omega
  go_wp2_with fail
  refine body_gen1 fun W' hW=>?_;obtain ⟨hpp,hpn2⟩:=HNL7.out.part 3 0 0;refine bodyPost_ret (v := .tuple #[(PT.mk 3 0 0 0 0 0 0 A' c' (ps ++ [p])).val,.nilIface]) (by simp [results,results56,go_sem,hW,k0,k1,k2,k3,k4,k5,k6,k7,hrl,PT.val,PT.k,PT.s0,PT.s1,PT.s2,PT.s3,PT.mn,PT.mx,PT.A,PT.c,PT.l,HPN.out]) rfl ?_;have hset:Fr [rb] w7 W':=by rw [hW];exact fr8 w7 rb _ _ _ _ _ _ _ _
  have hjoin:joinT (ts ++ [t]) = .mk 3 S4.empty 0 0 (ts ++ [t]):=by
   have:=HNL.out.rep.len;have:=HPN.out
   match ts with
   | []=>simp at *; omega
   | [a]=>rfl
   | a :: b :: r=>rfl
  have hr:=HBR3.out;rw [hjoin] at hr;exact ReadPost.ok_ hr rfl ((hpp.fr hset (by simp)).lower (by have:=HRB.out;omega)) (HRD7.out.fr_far hset (by simpa using hgl)) (HF7.out.trans' hset (by simp;have:=HRB.out;omega))
theorem read_ok:∀ f:Nat,ExprOk f/\BranchOk f/\PieceOk f/\AtomOk f/\GroupOk f:=by
 intro f
 induction f using Nat.strongRecOn with
 | _ f ih=>
  have hg:GroupOk f:=by
   rcases f with _ | f
   ·intro w g A c bs i d h hi hf;omega
   exact group_of f (ih f (by omega)).1
  have ha:=atom_of f hg
  have hp:PieceOk f:=by
   rcases f with _ | f
   ·intro w g A c bs i d h hi hf;omega
   exact piece_of f (ih f (by omega)).2.2.2.1
  exact ⟨expr_of f (fun k hk=>(ih k hk).2.1),branch_of f (fun k hk=>(ih k hk).2.2.1),hp,ha,hg⟩
end Go.Proofs.YtfofechcccodeaaGreatDoor
