/-
  Small texts in one (ErB, Er4, Er5). No conditions.
-/
import Derived.Test.YtfofechcccodeaaGreatDoorQat
import Derived.Test.YtfofechcccodeaaGreatDoorQaw
namespace Go.Proofs.YtfofechcccodeaaGreatDoor
open Go.RowKit Go.Proofs.Tryz
set_option linter.unusedVariables false
set_option linter.unusedSimpArgs false
set_option maxRecDepth 100000
set_option maxHeartbeats 4000000
theorem member_past {bs:List UInt8} {n:Nat} (h:bs.length <= n):memberS bs n = .error (bs.length,7):=by
 have h1:opensS bs n=false:=by unfold opensS;simp;omega
 have h2:singleS bs n=none:=by unfold singleS;rw [if_pos h]
 unfold memberS;rw [h1,h2];simp
theorem bracket_last {w:World} {A:Option Addr} {bs:List UInt8} {c:Nat} (h:Bytes w A bs) (i:Nat) (hl:bs.length <= 1000000000) (hi:i+1=bs.length) (hc:bs.length <= c) (hA:A=none->c=0) (hcm:c <= maxLen) (hg:GlobOk w) (h91:bn bs i=91) :
    Calls prog 115 #[.slice A bs.length c,.int .i64 (i:Int)] w (MemberPost w (.error (bs.length,7))):=by
 obtain ⟨b,off,rfl,hb,hcs⟩:=byte_at h (i:=i) (by omega);have c0:=hcs i (by omega);rw [h91] at c0;have HB:=zh h;have HM:=zh (member_past (bs:=bs) (n:=i+1) (by omega));have hL:bs.length <= i+1:=by omega
 have hd:decide (i+1 < bs.length)=false:=by simp;omega
 have hd2:decide (i < bs.length)=true:=by simp;omega
 have hd3:decide (bs.length <= i)=false:=by simp;omega
 clear h hcs h91;obtain ⟨L,hLL⟩:∃ L,L=bs.length:=⟨_,rfl⟩;have HLL:=zh hLL;rw [<-hLL] at hl hi hc hL hd hd2 hd3 ⊢; rw [<-hLL] at HM;clear hLL;have hiL:i < L:=by omega
 have HI:=zh hi;clear hi;go_enter func115,ntmps115
 go_wp2_with fail
 refine wp_loop_rounds 1 ?_;rw [rounds_succ];have t1:(((i:Int)+1) == (i:Int)+1)=true:=by simp
 go_wp2_with fail
 go_at_call 126
 have hmem:=member_any (w:=(w.alloc (.cells S4.empty.cells 86)).alloc (.cells S4.empty.cells 86)) (c:=c) (At.alloc (At.alloc HB.out (.cells S4.empty.cells 86)) (.cells S4.empty.cells 86)) (i+1) (by rw [<-HLL.out];omega) (by rw [<-HLL.out];omega) (by rw [<-HLL.out];omega) (by simp) hcm (hg.fr (((Fr.refl [] w).alloc _).alloc _));rw [<-HLL.out,HM.out] at hmem;have e1:((i+1:Nat):Int)=(i:Int)+1:=by omega
 rw [e1] at hmem;refine hmem.mono ?_;clear hmem;rintro e w1 hp;obtain ⟨v,rfl,⟨fg,rfl,hfb⟩,hf1⟩:=hp;have HV:=zh (show FaultV w1 _ (L:Int) ((7:Nat):Int) from ⟨fg,rfl,hfb⟩);have hk0:Bk w1 w.heap.size 86 S4.empty.cells:=((Bk.new w _ _).alloc _).fr hf1 (by simp)
 have hk1:Bk w1 (w.heap.size+1) 86 S4.empty.cells:=by
  have:=(Bk.new (w.alloc (.cells S4.empty.cells 86)) 86 S4.empty.cells).fr hf1 (by simp)
  simpa using this
 have HK1:=zh hk0;have HM1:=zh hk1;have HF1:=zh ((((Fr.refl [] w).alloc (.cells S4.empty.cells 86)).alloc (.cells S4.empty.cells 86)).trans hf1);clear hf1 hfb hk0 hk1;obtain ⟨⟨k0,k1,k2,k3⟩,z0,z1,z2,z3⟩:=S4.four HK1.out;obtain ⟨⟨l0,l1,l2,l3⟩,y0,y1,y2,y3⟩:=S4.four HM1.out;have hlt1:=HK1.out.lt;have hlt2:=HM1.out.lt;unfold S4.val S4.empty;go_wp2_with fail
 refine bodyPost_ret (v := .tuple #[S4.empty.val,.int .i64 0,.iface 74 (.pointer (some ⟨fg,0,none⟩))]) (by simp [results,results115,go_sem,k0,k1,k2,k3,S4.val,S4.empty]) rfl ?_;exact MemberPost.err rfl ((HV.out.four HM1.out _ _ _ _).four (HK1.out.far4 (by omega) _ _ _ _) _ _ _ _) (four_set (t:=0) _ _ _ _ (four_set (t:=0) _ _ _ _ HF1.out (by omega)) (Nat.le_refl _))
theorem bracketS_last {bs:List UInt8} {i:Nat} (hi:i+1=bs.length):bracketS bs i = .error (bs.length,7):=by
 unfold bracketS;rw [if_neg (by omega),brkL,if_pos (.inl rfl),member_past (by omega)];rfl
theorem bracket_any {w:World} {A:Option Addr} {bs:List UInt8} {c:Nat} (h:Bytes w A bs) (i:Nat) (hl:bs.length <= 1000000000) (hi:i < bs.length) (hc:bs.length <= c) (hA:A=none->c=0) (hcm:c <= maxLen) (hg:GlobOk w) (h91:bn bs i=91) :
    Calls prog 115 #[.slice A bs.length c,.int .i64 (i:Int)] w (MemberPost w (bracketS bs i)):=by
 by_cases hlast:i+1=bs.length
 ·rw [bracketS_last hlast];exact bracket_last h i hl hlast hc hA hcm hg h91
 by_cases h94:bn bs (i+1)=94
 ·have e:bracketS bs i=brkE true i (brkL bs (i+2) (bs.length+1) (i+2) S4.empty):=by unfold bracketS;rw [if_pos ⟨by omega,h94⟩]
  rw [e];exact bracket_not h i hl (by omega) hc hA hcm hg h91 h94
 have e:bracketS bs i=brkE false i (brkL bs (i+1) (bs.length+1) (i+1) S4.empty):=by unfold bracketS;rw [if_neg (by omega)]
 rw [e];exact bracket_plain h i hl (by omega) hc hA hcm hg h91 h94
end Go.Proofs.YtfofechcccodeaaGreatDoor
namespace Go.Proofs.YtfofechcccodeaaGreatDoor
open Go.RowKit Go.Proofs.Tryz
set_option linter.unusedVariables false
set_option linter.unusedSimpArgs false
set_option maxRecDepth 100000
set_option maxHeartbeats 8000000
def zeroP:Array Value:=#[.int .i64 0,.int .u64 0,.int .u64 0,.int .u64 0,.int .u64 0,.int .i64 0,.int .i64 0,.slice none 0 0]
theorem Bk.eightc {W:World} {b:Nat} {t:TypeId} {v0 v1 v2 v3 v4 v5 v6 v7:Value} (h:Bk W b t #[v0,v1,v2,v3,v4,v5,v6,v7]) :
    (W.cell? ⟨b,0,none⟩=some v0/\W.cell? ⟨b,1,none⟩=some v1/\W.cell? ⟨b,2,none⟩=some v2/\W.cell? ⟨b,3,none⟩=some v3/\W.cell? ⟨b,4,none⟩=some v4/\W.cell? ⟨b,5,none⟩=some v5/\W.cell? ⟨b,6,none⟩=some v6/\W.cell? ⟨b,7,none⟩=some v7) /\
     W.frozen? ⟨b,0,none⟩=false/\W.frozen? ⟨b,1,none⟩=false/\W.frozen? ⟨b,2,none⟩=false/\W.frozen? ⟨b,3,none⟩=false/\W.frozen? ⟨b,4,none⟩=false/\W.frozen? ⟨b,5,none⟩=false/\W.frozen? ⟨b,6,none⟩=false/\W.frozen? ⟨b,7,none⟩=false/\b < W.heap.size:=
 ⟨⟨h.cell_ rfl,h.cell_ rfl,h.cell_ rfl,h.cell_ rfl,h.cell_ rfl,h.cell_ rfl,h.cell_ rfl,h.cell_ rfl⟩,h.frozen 0,h.frozen 1,h.frozen 2,h.frozen 3,h.frozen 4,h.frozen 5,h.frozen 6,h.frozen 7,h.lt⟩
theorem calls_gen1 {P:Program} {f:FuncId} {args:Array Value} {R:Ending->World->Prop} {w:World} (h:∀ W,W=w->Calls P f args W R):Calls P f args w R:=h w rfl
def ReadPost (w:World) (g:Nat) (A:Option Addr) (c:Nat) (bs:List UInt8) (d:Nat) (r:Res) (e:Ending) (w':World):Prop:=match r with
 | .error (p,code)=>∃ v,e = .returned (.tuple #[.agg zeroP,v])/\FaultV w' v p code/\Fr [g] w w'
 | .ok (t,j)=>∃ p:PT,e = .returned (.tuple #[p.val,.nilIface])/\NewP w.heap.size w' t p/\Rdr w' g A c bs j d/\Fr [g] w w'
theorem ReadPost.err {w:World} {g:Nat} {A:Option Addr} {c:Nat} {bs:List UInt8} {d:Nat} {r:Res} {e:Ending} {w':World} {p code:Nat} {v:Value} (hr:r = .error (p,code)) (h1:e = .returned (.tuple #[.agg zeroP,v])) (h2:FaultV w' v p code) (h3:Fr [g] w w'):ReadPost w g A c bs d r e w':=by
 subst hr;exact ⟨v,h1,h2,h3⟩
theorem ReadPost.ok_ {w:World} {g:Nat} {A:Option Addr} {c:Nat} {bs:List UInt8} {d:Nat} {r:Res} {e:Ending} {w':World} {t:RT} {j:Nat} {p:PT} (hr:r = .ok (t,j)) (h1:e = .returned (.tuple #[p.val,.nilIface])) (h2:NewP w.heap.size w' t p) (h3:Rdr w' g A c bs j d) (h4:Fr [g] w w'):ReadPost w g A c bs d r e w':=by
 subst hr;exact ⟨p,h1,h2,h3,h4⟩
def leafP (k:Int) (s:S4):PT := .mk k s.a s.b s.c s.d 0 0 none 0 []
theorem leaf_new (lo:Nat) (w:World) (k:Int) (s:S4):NewP lo w (.mk k s 0 0 []) (leafP k s):=
 ⟨by rw [RepP_eq];exact ⟨rfl,rfl,rfl,rfl,rfl,rfl,rfl,by show RepL [] [];rw [RepL_nil]⟩,by unfold leafP;rw [PMem,LMem];trivial,by unfold leafP;rw [blkP];simp [blkL]⟩
theorem zero_val:PT.val (leafP 0 S4.empty) = .agg zeroP:=by simp [PT.val,leafP,zeroP,S4.empty,PT.k,PT.s0,PT.s1,PT.s2,PT.s3,PT.mn,PT.mx,PT.A,PT.c,PT.l]
theorem leaf_val (k:Int) (s:S4):PT.val (leafP k s) = .agg #[.int .i64 k,.int .u64 s.a,.int .u64 s.b,.int .u64 s.c,.int .u64 s.d,.int .i64 0,.int .i64 0,.slice none 0 0]:=by simp [PT.val,leafP,PT.k,PT.s0,PT.s1,PT.s2,PT.s3,PT.mn,PT.mx,PT.A,PT.c,PT.l]
theorem fr8 (W:World) (b:Nat) (x0 x1 x2 x3 x4 x5 x6 x7:Value):Fr [b] W ((((((((W.setCell ⟨b,0,none⟩ x0).setCell ⟨b,1,none⟩ x1).setCell ⟨b,2,none⟩ x2).setCell ⟨b,3,none⟩ x3).setCell ⟨b,4,none⟩ x4).setCell ⟨b,5,none⟩ x5).setCell ⟨b,6,none⟩ x6).setCell ⟨b,7,none⟩ x7):=
 ((((((((Fr.refl [b] W).setCell (.inl (by simp)) x0).setCell (.inl (by simp)) x1).setCell (.inl (by simp)) x2).setCell (.inl (by simp)) x3).setCell (.inl (by simp)) x4).setCell (.inl (by simp)) x5).setCell (.inl (by simp)) x6).setCell (.inl (by simp)) x7
theorem FaultV.frk {l:List Nat} {w w':World} {v:Value} {p c:Int} (h:FaultV w v p c) (hf:Fr l w w') (hl:∀ b ∈ l,∃ t cs,Bk w b t cs/\t ≠ 78):FaultV w' v p c:=by
 obtain ⟨g,h1,h2⟩:=h
 exact ⟨g,h1,h2.fr hf (fun hm=>by
  obtain ⟨t,cs,h3,h4⟩:=hl g hm
  exact h2.ne_ h3 (fun e=>h4 e.symm) rfl)⟩
theorem FaultV.far8 {w w':World} {v:Value} {p c:Int} {b:Nat} {cs:Array Value} (h:FaultV w v p c) (hk:Bk w b 89 cs) (hf:Fr [b] w w'):FaultV w' v p c:=
 h.frk hf (fun b' hb=>by simp at hb;subst hb;exact ⟨_,_,hk,by decide⟩)
def ExprOk (f:Nat):Prop:=∀ (w:World) (g:Nat) (A:Option Addr) (c:Nat) (bs:List UInt8) (i d:Nat),Rdr w g A c bs i d->6 * (bs.length - i)+5 <= f ->
 Calls prog 56 #[.pointer (some ⟨g,0,none⟩)] w (ReadPost w g A c bs d (exprF bs f d i []))
def GroupOk (f:Nat):Prop:=∀ (w:World) (g:Nat) (A:Option Addr) (c:Nat) (bs:List UInt8) (i d:Nat),Rdr w g A c bs i d->i < bs.length->6 * (bs.length - i)+2 <= f->bn bs i=40 ->
 Calls prog 114 #[.pointer (some ⟨g,0,none⟩)] w (ReadPost w g A c bs d (atomF bs f d i))
def AtomOk (f:Nat):Prop:=∀ (w:World) (g:Nat) (A:Option Addr) (c:Nat) (bs:List UInt8) (i d:Nat),Rdr w g A c bs i d->i < bs.length->6 * (bs.length - i)+2 <= f ->
 Calls prog 101 #[.pointer (some ⟨g,0,none⟩)] w (ReadPost w g A c bs d (atomF bs f d i))
theorem atom_of (f:Nat) (hg:GroupOk f):AtomOk f:=by
 intro w g A c bs i d h hi hf;obtain ⟨c0,c1,-, f1,-⟩:=h.cells;have hlen:=h.len;have hgl:=h.blk.lt;obtain ⟨b,off,rfl,hb,hcl⟩:=byte_at h.byt (i:=i) hi;have e0:=hcl i hi;obtain ⟨q,hq⟩:∃ q,q=bn bs i:=⟨_,rfl⟩;have hq256:q < 256:=by rw [hq];exact bn_lt _ _
 rw [<-hq] at e0;obtain ⟨R,hR⟩:∃ R,R=atomF bs f d i:=⟨_,rfl⟩
 have hR2:q ≠ 40->R=plainS bs i:=fun hne=>by
  obtain ⟨f',rfl⟩:∃ f',f=f'+1:=⟨f - 1,by omega⟩;rw [hR,atomF,if_neg (by omega)]
 rw [<-hR];obtain ⟨L,hL⟩:∃ L,L=bs.length:=⟨_,rfl⟩;rw [<-hL] at c0 hi hlen hf;have hi2:(i:Int) < (L:Int):=by omega
 have HRD:=zh h;have HR2:=zh hR2;have HGK:=zh hg;have HRR:=zh hR;have HQ:=zh hq;have HL:=zh hL;have HCL:=zh hcl;clear h hR hR2 hq hL hg hcl;go_enter func101,ntmps101
 go_wp2_with fail
 go_quiet (fail)
 generalize hW:World.drewN _ _=w1
 have hfr1:Fr [] w w1:=by rw [<-hW];exact ((Fr.refl [] w).alloc _).drewN _
 have hz1:Bk w1 w.heap.size 89 zeroP:=by rw [<-hW];exact (Bk.new w _ _).drewN _
 clear hW;obtain ⟨rb,hrb⟩:∃ rb,rb=w.heap.size:=⟨_,rfl⟩;rw [<-hrb] at hz1 hgl ⊢; have hgrb:g < rb:=hgl;have HRB:=zh hrb;have HR1:=zh (HRD.out.fr_nil hfr1);have HZ1:=zh hz1;have HF1:=zh hfr1;clear hz1 hfr1 hrb c0 c1 f1 e0;obtain ⟨c0,c1,-, f1,-⟩:=HR1.out.cells;rw [<-HL.out] at c0;have hgl1:=HR1.out.blk.lt;obtain ⟨⟨k0,k1,k2,k3,k4,k5,k6,k7⟩,z0,z1,z2,z3,z4,z5,z6,z7,hrl⟩:=HZ1.out.eightc;have hgr:¬ (g=rb):=by omega
 have hrg:¬ (rb=g):=by omega
 by_cases hstar:q=42 ∨ q=43 ∨ q=63
 ·have hr:R = .error (i,4):=by
   rw [HR2.out (by omega)];unfold plainS;rw [if_pos (by rw [<-HQ.out];exact hstar)]
  have HR:=zh hr;clear hr;rcases hstar with rfl | rfl | rfl
  all_goals
   go_wp2_with fail
   go_at_call 55
   refine (efault_any _ _ _).mono ?_;rintro e w2 ⟨v,rfl,hv,hf⟩;have HV:=zh hv;have HZ2:=zh (HZ1.out.fr hf (by simp));have HF2:=zh (HF1.out.trans hf);clear hv hf k0 k1 k2 k3 k4 k5 k6 k7 z0 z1 z2 z3 z4 z5 z6 z7 hrl;obtain ⟨⟨k0,k1,k2,k3,k4,k5,k6,k7⟩,z0,z1,z2,z3,z4,z5,z6,z7,hrl⟩:=HZ2.out.eightc;go_wp2_with fail
   refine body_gen1 fun W hW=>?_;refine bodyPost_ret (v := .tuple #[.agg zeroP,v]) (by simp [results,results101,go_sem,hW,k0,k1,k2,k3,k4,k5,k6,k7,zeroP,PT.val]) rfl ?_;exact ReadPost.err HR.out rfl (by rw [hW];exact HV.out.far8 HZ2.out (fr8 w2 rb _ _ _ _ _ _ _ _)) (by rw [hW];exact HF2.out.nil_.trans' (fr8 w2 rb _ _ _ _ _ _ _ _) (by simp;have:=HRB.out;omega))
 by_cases h40:q=40
 ·have hG:=HGK.out _ _ _ _ _ _ _ HR1.out (by rw [<-HL.out];exact hi) (by rw [<-HL.out];exact hf) (HQ.out.symm.trans h40);rw [<-HRR.out] at hG;have HG:=zh hG;subst h40;clear hG hstar;go_wp2_with fail
  go_at_call 114
  refine HG.out.mono ?_;intro e w2 hp;rcases hR:R with ⟨p,code⟩ | ⟨t,j⟩
  ·rw [hR] at hp;obtain ⟨v,rfl,hv,hf⟩:=hp;have HV:=zh hv;have HZ2:=zh (HZ1.out.fr hf (by simpa using hrg));have HF2:=zh (HF1.out.nil_.trans hf);have HR:=zh hR;clear hv hf hR k0 k1 k2 k3 k4 k5 k6 k7 z0 z1 z2 z3 z4 z5 z6 z7 hrl;obtain ⟨⟨k0,k1,k2,k3,k4,k5,k6,k7⟩,z0,z1,z2,z3,z4,z5,z6,z7,hrl⟩:=HZ2.out.eightc;unfold zeroP;go_wp2_with fail
   refine body_gen1 fun W hW=>?_;refine bodyPost_ret (v := .tuple #[.agg zeroP,v]) (by simp [results,results101,go_sem,hW,k0,k1,k2,k3,k4,k5,k6,k7,zeroP,PT.val]) rfl ?_;exact ReadPost.err HR.out rfl (by rw [hW];exact HV.out.far8 HZ2.out (fr8 w2 rb _ _ _ _ _ _ _ _)) (by rw [hW];exact HF2.out.trans' (fr8 w2 rb _ _ _ _ _ _ _ _) (by simp;have:=HRB.out;omega))
  rw [hR] at hp;obtain ⟨p,rfl,hn,hrd,hf⟩:=hp;have HN:=zh hn;have HRD2:=zh hrd;have HZ2:=zh (HZ1.out.fr hf (by simpa using hrg));have HF2:=zh (HF1.out.nil_.trans hf);have HR:=zh hR;clear hn hrd hf hR k0 k1 k2 k3 k4 k5 k6 k7 z0 z1 z2 z3 z4 z5 z6 z7 hrl;obtain ⟨⟨k0,k1,k2,k3,k4,k5,k6,k7⟩,z0,z1,z2,z3,z4,z5,z6,z7,hrl⟩:=HZ2.out.eightc;unfold PT.val;go_wp2_with fail
  refine body_gen1 fun W hW=>?_;refine bodyPost_ret (v := .tuple #[p.val,.nilIface]) (by simp [results,results101,go_sem,hW,k0,k1,k2,k3,k4,k5,k6,k7,zeroP,PT.val]) rfl ?_;exact ReadPost.ok_ HR.out rfl (by rw [hW];exact (HN.out.fr (fr8 w2 rb _ _ _ _ _ _ _ _) (by simp;left;exact HZ1.out.lt)).lower HF1.out.size) (by rw [hW];exact HRD2.out.fr_far (fr8 w2 rb _ _ _ _ _ _ _ _) (by simpa using hgrb)) (by rw [hW];exact HF2.out.trans' (fr8 w2 rb _ _ _ _ _ _ _ _) (by simp;have:=HRB.out;omega))
 have hpl:=HR2.out h40;unfold plainS at hpl;rw [<-HQ.out,if_neg hstar] at hpl;have t42:((q:Int) == 42)=false:=by simp;omega
 have t43:((q:Int) == 43)=false:=by simp;omega
 have t63:((q:Int) == 63)=false:=by simp;omega
 have t40:((q:Int) == 40)=false:=by simp;omega
 by_cases h91:q=91
 ·rw [if_pos h91] at hpl;have hbr:=bracket_any (c:=c) HR1.out.byt i (by rw [<-HL.out];omega) (by rw [<-HL.out];exact hi) HR1.out.cap HR1.out.nil HR1.out.capm HR1.out.glob (HQ.out.symm.trans h91);rw [<-HL.out] at hbr;have HBR:=zh hbr;have HPL:=zh hpl;subst h91;clear hbr hpl hstar h40
  cases hb:bracketS bs i with
  | error pc=>
   obtain ⟨p,code⟩:=pc;have hr:R = .error (p,code):=by rw [HPL.out,hb];rfl
   have HR:=zh hr;have HBS:=zh hb;clear hr hb;go_wp2_with fail
   go_at_call 115
   refine HBR.out.mono ?_;intro e w2 hp;rw [HBS.out] at hp;obtain ⟨v,rfl,⟨fg,rfl,hfb⟩,hf⟩:=hp;have HV:=zh (show FaultV w2 _ (p:Int) (code:Int) from ⟨fg,rfl,hfb⟩);have HZ2:=zh (HZ1.out.fr hf (by simp));have HF2:=zh (HF1.out.trans hf);clear hfb hf k0 k1 k2 k3 k4 k5 k6 k7 z0 z1 z2 z3 z4 z5 z6 z7 hrl;obtain ⟨⟨k0,k1,k2,k3,k4,k5,k6,k7⟩,z0,z1,z2,z3,z4,z5,z6,z7,hrl⟩:=HZ2.out.eightc;unfold S4.val S4.empty;go_wp2_with fail
   refine body_gen1 fun W hW=>?_;refine bodyPost_ret (v := .tuple #[.agg zeroP,.iface 74 (.pointer (some ⟨fg,0,none⟩))]) (by simp [results,results101,go_sem,hW,k0,k1,k2,k3,k4,k5,k6,k7,hrl,zeroP,PT.val]) rfl ?_;have hset:Fr [rb] w2 W:=by rw [hW];exact (fr8 w2 rb _ _ _ _ _ _ _ _).alloc _
   exact ReadPost.err HR.out rfl (HV.out.far8 HZ2.out hset) (HF2.out.nil_.trans' hset (by simp;have:=HRB.out;omega))
  | ok pc=>
   obtain ⟨S,n⟩:=pc;have hr:R = .ok (tSet S,i+n):=by rw [HPL.out,hb];rfl
   have hle:=bracketS_le (by rw [<-HL.out];exact hi) hb;have hin:i+n <= L:=by rw [HL.out];exact hle.2.1
   have HR:=zh hr;have HBS:=zh hb;clear hr hb hle;go_wp2_with fail
   go_at_call 115
   refine HBR.out.mono ?_;intro e w2 hp;rw [HBS.out] at hp;obtain ⟨rfl,hf⟩:=hp;have HZ2:=zh (HZ1.out.fr hf (by simp));have HF2:=zh (HF1.out.trans hf);have HRD2:=zh (HR1.out.fr_nil hf);clear hf k0 k1 k2 k3 k4 k5 k6 k7 z0 z1 z2 z3 z4 z5 z6 z7 hrl c0 c1 f1;obtain ⟨-, c1,-, f1,-⟩:=HRD2.out.cells;have hgl2:=HRD2.out.blk.lt;obtain ⟨sa,sb,sc,sd⟩:=S;unfold S4.val;simp only [];go_wp2_with fail
   go_at_call 116
   refine calls_gen1 fun W hW=>?_;have hat:W=((w2.setCell ⟨g,1,none⟩ (.int .i64 ((i+n:Nat):Int)))).alloc (.cells #[.int .u64 sa,.int .u64 sb,.int .u64 sc,.int .u64 sd] 86):=by rw [hW];first | rfl | (simp;done)
   have HRW:Hid (Rdr W g (some ⟨b,off,none⟩) c bs (i+n) d):=zh (by rw [hat];exact (HRD2.out.move (by rw [<-HL.out];exact hin)).fr_nil ((Fr.refl [] _).alloc _));have HFW:Hid (Fr [g] w2 W):=zh (by rw [hat];exact ((Fr.refl [g] w2).setCell (.inl (by simp)) _).alloc _);clear hat hW;refine (eset_any ⟨sa,sb,sc,sd⟩ W).mono ?_;rintro e w3 ⟨rfl,hf⟩;have HRD3:=zh (HRW.out.fr_nil hf);have HZ3:=zh ((HZ2.out.fr HFW.out (by simpa using hrg)).fr hf (by simp));have HF3:=zh ((HF2.out.nil_.trans HFW.out).trans hf.nil_);clear hf c1 f1;obtain ⟨⟨k0,k1,k2,k3,k4,k5,k6,k7⟩,z0,z1,z2,z3,z4,z5,z6,z7,hrl⟩:=HZ3.out.eightc;go_wp2_with fail
   refine body_gen1 fun W' hW=>?_;refine bodyPost_ret (v := .tuple #[(leafP 1 ⟨sa,sb,sc,sd⟩).val,.nilIface]) (by simp [results,results101,go_sem,hW,k0,k1,k2,k3,k4,k5,k6,k7,zeroP,leaf_val]) rfl ?_;have hset:Fr [rb] w3 W':=by rw [hW];exact fr8 w3 rb _ _ _ _ _ _ _ _
   exact ReadPost.ok_ HR.out rfl (leaf_new _ _ _ _) (HRD3.out.fr_far hset (by simpa using hgrb)) (HF3.out.trans' hset (by simp;have:=HRB.out;omega))
 rw [if_neg h91] at hpl;have t91:((q:Int) == 91)=false:=by simp;omega
 have HRD2:=zh (HR1.out.move (j:=i+1) (by rw [<-HL.out];omega));by_cases h46:q=46
 ·rw [if_pos h46] at hpl;have hr:=hpl;subst h46;clear hpl hstar h40 h91;go_wp2_with fail
  go_at_call 117
  refine calls_gen1 fun W hW=>?_;have hat:W=w1.setCell ⟨g,1,none⟩ (.int .i64 ((i+1:Nat):Int)):=by rw [hW];first | rfl | (simp;done)
  have HRW:Hid (Rdr W g (some ⟨b,off,none⟩) c bs (i+1) d):=zh (by rw [hat];exact HRD2.out);have HFW:Hid (Fr [g] w W):=zh (by rw [hat];exact HF1.out.nil_.trans ((Fr.refl [g] w1).setCell (.inl (by simp)) _));have HZW:Hid (Bk W rb 89 zeroP):=zh (by rw [hat];exact HZ1.out.far hrg _);clear hat hW k0 k1 k2 k3 k4 k5 k6 k7 z0 z1 z2 z3 z4 z5 z6 z7 hrl;refine (range_any 0 255 W (by omega) (by omega)).mono ?_;rintro e w3 ⟨rfl,hf3⟩;obtain ⟨⟨sa,sb,sc,sd⟩,hS⟩:∃ S,S=S4.range 0 255:=⟨_,rfl⟩;rw [<-hS];rw [<-hS] at hr;have HR:=zh hr;have HRD3:=zh (HRW.out.fr_nil hf3);have HZ3:=zh (HZW.out.fr hf3 (by simp));have HF3:=zh (HFW.out.trans hf3.nil_);clear hf3 hS hr;obtain ⟨⟨k0,k1,k2,k3,k4,k5,k6,k7⟩,z0,z1,z2,z3,z4,z5,z6,z7,hrl⟩:=HZ3.out.eightc;unfold S4.val;simp only [];go_wp2_with fail
  go_at_call 116
  refine (eset_any ⟨sa,sb,sc,sd⟩ w3).mono ?_;rintro e w4 ⟨rfl,hf4⟩;have HRD4:=zh (HRD3.out.fr_nil hf4);have HZ4:=zh (HZ3.out.fr hf4 (by simp));have HF4:=zh (HF3.out.trans hf4.nil_);clear hf4 k0 k1 k2 k3 k4 k5 k6 k7 z0 z1 z2 z3 z4 z5 z6 z7 hrl;obtain ⟨⟨k0,k1,k2,k3,k4,k5,k6,k7⟩,z0,z1,z2,z3,z4,z5,z6,z7,hrl⟩:=HZ4.out.eightc;go_wp2_with fail
  refine body_gen1 fun W' hW=>?_;refine bodyPost_ret (v := .tuple #[(leafP 1 ⟨sa,sb,sc,sd⟩).val,.nilIface]) (by simp [results,results101,go_sem,hW,k0,k1,k2,k3,k4,k5,k6,k7,hrl,zeroP,leaf_val]) rfl ?_;have hset:Fr [rb] w4 W':=by rw [hW];exact fr8 w4 rb _ _ _ _ _ _ _ _
  exact ReadPost.ok_ HR.out rfl (leaf_new _ _ _ _) (HRD4.out.fr_far hset (by simpa using hgrb)) (HF4.out.trans' hset (by simp;have:=HRB.out;omega))
 rw [if_neg h46] at hpl;have t46:((q:Int) == 46)=false:=by simp;omega
 by_cases h94:q=94
 ·rw [if_pos h94] at hpl;have HR:=zh hpl;subst h94;clear hpl hstar h40 h91 h46;go_wp2_with fail
  refine body_gen1 fun W' hW=>?_;refine bodyPost_ret (v := .tuple #[(leafP 5 S4.empty).val,.nilIface]) (by simp [results,results101,go_sem,hW,k0,k1,k2,k3,k4,k5,k6,k7,hrl,zeroP,leaf_val,S4.empty]) rfl ?_;have hset:Fr [g,rb] w1 W':=by rw [hW];exact (((Fr.refl [g] w1).setCell (.inl (by simp)) _).mono (by simp)).trans ((fr8 _ rb _ _ _ _ _ _ _ _).mono (by simp))
  have hset2:Fr [rb] (w1.setCell ⟨g,1,none⟩ (.int .i64 ((i+1:Nat):Int))) W':=by rw [hW];exact fr8 _ rb _ _ _ _ _ _ _ _
  exact ReadPost.ok_ HR.out rfl (leaf_new _ _ _ _) (HRD2.out.fr_far hset2 (by simpa using hgrb)) ((HF1.out.nil_.trans hset).mono (by simp;have:=HRB.out;omega))
 rw [if_neg h94] at hpl;have t94:((q:Int) == 94)=false:=by simp;omega
 by_cases h36:q=36
 ·rw [if_pos h36] at hpl;have HR:=zh hpl;subst h36;clear hpl hstar h40 h91 h46 h94;go_wp2_with fail
  refine body_gen1 fun W' hW=>?_;refine bodyPost_ret (v := .tuple #[(leafP 6 S4.empty).val,.nilIface]) (by simp [results,results101,go_sem,hW,k0,k1,k2,k3,k4,k5,k6,k7,hrl,zeroP,leaf_val,S4.empty]) rfl ?_;have hset:Fr [g,rb] w1 W':=by rw [hW];exact (((Fr.refl [g] w1).setCell (.inl (by simp)) _).mono (by simp)).trans ((fr8 _ rb _ _ _ _ _ _ _ _).mono (by simp))
  have hset2:Fr [rb] (w1.setCell ⟨g,1,none⟩ (.int .i64 ((i+1:Nat):Int))) W':=by rw [hW];exact fr8 _ rb _ _ _ _ _ _ _ _
  exact ReadPost.ok_ HR.out rfl (leaf_new _ _ _ _) (HRD2.out.fr_far hset2 (by simpa using hgrb)) ((HF1.out.nil_.trans hset).mono (by simp;have:=HRB.out;omega))
 rw [if_neg h36] at hpl;have t36:((q:Int) == 36)=false:=by simp;omega
 by_cases h92:q=92
 ·rw [if_pos h92,<-HL.out] at hpl;subst h92;clear hstar h40 h91 h46 h94 h36;go_wp2_with fail
  refine code_gen1 fun W hW=>?_;have hat:W=w1.setCell ⟨g,1,none⟩ (.int .i64 ((i+1:Nat):Int)):=by rw [hW];first | rfl | (simp;done)
  have HRW:Hid (Rdr W g (some ⟨b,off,none⟩) c bs (i+1) d):=zh (by rw [hat];exact HRD2.out);have HFW:Hid (Fr [g] w W):=zh (by rw [hat];exact HF1.out.nil_.trans ((Fr.refl [g] w1).setCell (.inl (by simp)) _));have HZW:Hid (Bk W rb 89 zeroP):=zh (by rw [hat];exact HZ1.out.far hrg _);clear hat hW k0 k1 k2 k3 k4 k5 k6 k7 z0 z1 z2 z3 z4 z5 z6 z7 hrl c0 c1 f1 hgl1;obtain ⟨c0,c1,-, f1,-⟩:=HRW.out.cells;rw [<-HL.out] at c0;have hglW:=HRW.out.blk.lt;have hLe:((i+1:Nat):Int)=(i:Int)+1:=by omega
  rw [hLe] at c1;by_cases hlast:L <= i+1
  ·rw [if_pos hlast] at hpl;have HR:=zh hpl;have hLi:((i:Int)+1 == (L:Int))=true:=by simp;omega
   clear hpl
   go_quiet (fail)
   go_wp2_with fail
   go_at_call 55
   refine calls_gen1 fun W2 hW2=>?_;have hfd:Fr [] W W2:=by rw [hW2];exact (Fr.refl [] W).drewN _
   refine (efault_any _ _ W2).mono ?_;rintro e w3 ⟨v,rfl,hv,hf⟩;have HV:=zh hv;have HZ3:=zh (HZW.out.fr (hfd.trans hf) (by simp));have HF3:=zh (HFW.out.trans (hfd.trans hf).nil_);clear hv hf hfd hW2;obtain ⟨⟨k0,k1,k2,k3,k4,k5,k6,k7⟩,z0,z1,z2,z3,z4,z5,z6,z7,hrl⟩:=HZ3.out.eightc;go_wp2_with fail
   refine body_gen1 fun W' hW=>?_;refine bodyPost_ret (v := .tuple #[.agg zeroP,v]) (by simp [results,results101,go_sem,hW,k0,k1,k2,k3,k4,k5,k6,k7,hrl,zeroP,PT.val]) rfl ?_;have hset:Fr [rb] w3 W':=by rw [hW];exact fr8 w3 rb _ _ _ _ _ _ _ _
   exact ReadPost.err HR.out rfl (HV.out.far8 HZ3.out hset) (HF3.out.trans' hset (by simp;have:=HRB.out;omega))
  rw [if_neg hlast] at hpl;have hLi:((i:Int)+1 == (L:Int))=false:=by simp;omega
  have hlt1:(i:Int)+1 < (L:Int):=by omega
  obtain ⟨b',off',hA,hb',hcl⟩:=byte_at HRW.out.byt (i:=i+1) (by rw [<-HL.out];omega)
  injection hA with hA;injection hA with hA1 hA2
  subst hA1 hA2;have e1:=hcl (i+1) (by rw [<-HL.out];omega);obtain ⟨q2,hq2⟩:∃ q2,q2=bn bs (i+1):=⟨_,rfl⟩;rw [<-hq2] at e1 hpl;have hq2l:q2 < 256:=by rw [hq2];exact bn_lt _ _
  obtain ⟨q3,hq3⟩:∃ q3,q3=escN q2:=⟨_,rfl⟩;rw [<-hq3] at hpl;have hr:=hpl;clear hpl hcl hq2
  go_quiet (fail)
  go_wp2_with fail
  refine code_gen1 fun W3 hW3=>?_;have hf3:Fr [] W W3:=by rw [hW3];exact (Fr.refl [] W).drewN _
  have HRW3:=zh (HRW.out.fr_nil hf3);have HZ3:=zh (HZW.out.fr hf3 (by simp));have HF3:=zh (HFW.out.trans hf3.nil_);have e3:=(hf3.cell (World.block_lt_of_cell? W _ e1) (by simp)).trans e1;clear hW3 hf3 e1 c0 c1 f1 hglW;obtain ⟨c0,c1,-, f1,-⟩:=HRW3.out.cells;rw [<-HL.out] at c0;rw [hLe] at c1;have hglW:=HRW3.out.blk.lt;have HESC:=zh (fun (W:World)=>(esc_any q2 hq2l W));have HQ3:=zh hq3;have HRR0:=zh hr;clear hq3 hr
  go_quiet ((go_at_call 118;exact Calls.quiet_of_same ((HESC.out _).mono fun _ _ h=>⟨h.1,h.2.symm⟩)))
  go_wp2_with fail
  go_at_call 117
  refine calls_gen1 fun W hW=>?_;have hat:W=(W3.drewN nq).setCell ⟨g,1,none⟩ (.int .i64 ((i+2:Nat):Int)):=by rw [hW];first | rfl | (simp;done) | (congr 2;omega)
  have HRW:Hid (Rdr W g (some ⟨b,off,none⟩) c bs (i+2) d):=zh (by rw [hat];exact (HRW3.out.drewN _).move (by rw [<-HL.out];omega));have HFW:Hid (Fr [g] w W):=zh (by rw [hat];exact (HF3.out.drewN _).setCell (.inl (by simp)) _);have HZW:Hid (Bk W rb 89 zeroP):=zh (by rw [hat];exact (HZ3.out.drewN _).far hrg _);have hr:=HRR0.out;rw [HQ3.out] at hr;have hq3l:escN q2 < 256:=escN_lt hq2l;clear hat hW;refine (range_any (escN q2) (escN q2) W (by omega) (by omega)).mono ?_;rintro e w3 ⟨rfl,hf3⟩;obtain ⟨⟨sa,sb,sc,sd⟩,hS⟩:∃ S,S=S4.range (escN q2) (escN q2):=⟨_,rfl⟩;rw [<-hS];rw [<-hS] at hr;have HR:=zh hr;have HRD3:=zh (HRW.out.fr_nil hf3);have HZ3:=zh (HZW.out.fr hf3 (by simp));have HF3:=zh (HFW.out.trans hf3.nil_);clear hf3 hS hr;obtain ⟨⟨k0,k1,k2,k3,k4,k5,k6,k7⟩,z0,z1,z2,z3,z4,z5,z6,z7,hrl⟩:=HZ3.out.eightc;unfold S4.val;simp only [];go_wp2_with fail
  go_at_call 116
  refine (eset_any ⟨sa,sb,sc,sd⟩ w3).mono ?_;rintro e w4 ⟨rfl,hf4⟩;have HRD4:=zh (HRD3.out.fr_nil hf4);have HZ4:=zh (HZ3.out.fr hf4 (by simp));have HF4:=zh (HF3.out.trans hf4.nil_);clear hf4 k0 k1 k2 k3 k4 k5 k6 k7 z0 z1 z2 z3 z4 z5 z6 z7 hrl;obtain ⟨⟨k0,k1,k2,k3,k4,k5,k6,k7⟩,z0,z1,z2,z3,z4,z5,z6,z7,hrl⟩:=HZ4.out.eightc;go_wp2_with fail
  refine body_gen1 fun W' hW=>?_;refine bodyPost_ret (v := .tuple #[(leafP 1 ⟨sa,sb,sc,sd⟩).val,.nilIface]) (by simp [results,results101,go_sem,hW,k0,k1,k2,k3,k4,k5,k6,k7,hrl,zeroP,leaf_val]) rfl ?_;have hset:Fr [rb] w4 W':=by rw [hW];exact fr8 w4 rb _ _ _ _ _ _ _ _
  exact ReadPost.ok_ HR.out rfl (leaf_new _ _ _ _) (HRD4.out.fr_far hset (by simpa using hgrb)) (HF4.out.trans' hset (by simp;have:=HRB.out;omega))
 rw [if_neg h92] at hpl;have t92:((q:Int) == 92)=false:=by simp;omega
 have hr:=hpl;clear hpl hstar h40 h91 h46 h94 h36 h92;go_wp2_with fail
 go_at_call 117
 refine calls_gen1 fun W hW=>?_;have hat:W=w1.setCell ⟨g,1,none⟩ (.int .i64 ((i+1:Nat):Int)):=by rw [hW];first | rfl | (simp;done)
 have HRW:Hid (Rdr W g (some ⟨b,off,none⟩) c bs (i+1) d):=zh (by rw [hat];exact HRD2.out);have HFW:Hid (Fr [g] w W):=zh (by rw [hat];exact HF1.out.nil_.trans ((Fr.refl [g] w1).setCell (.inl (by simp)) _));have HZW:Hid (Bk W rb 89 zeroP):=zh (by rw [hat];exact HZ1.out.far hrg _);clear hat hW k0 k1 k2 k3 k4 k5 k6 k7 z0 z1 z2 z3 z4 z5 z6 z7 hrl;refine (range_any q q W (by omega) (by omega)).mono ?_;rintro e w3 ⟨rfl,hf3⟩;obtain ⟨⟨sa,sb,sc,sd⟩,hS⟩:∃ S,S=S4.range q q:=⟨_,rfl⟩;rw [<-hS];rw [<-hS] at hr;have HR:=zh hr;have HRD3:=zh (HRW.out.fr_nil hf3);have HZ3:=zh (HZW.out.fr hf3 (by simp));have HF3:=zh (HFW.out.trans hf3.nil_);clear hf3 hS hr;obtain ⟨⟨k0,k1,k2,k3,k4,k5,k6,k7⟩,z0,z1,z2,z3,z4,z5,z6,z7,hrl⟩:=HZ3.out.eightc;unfold S4.val;simp only [];go_wp2_with fail
 go_at_call 116
 refine (eset_any ⟨sa,sb,sc,sd⟩ w3).mono ?_;rintro e w4 ⟨rfl,hf4⟩;have HRD4:=zh (HRD3.out.fr_nil hf4);have HZ4:=zh (HZ3.out.fr hf4 (by simp));have HF4:=zh (HF3.out.trans hf4.nil_);clear hf4 k0 k1 k2 k3 k4 k5 k6 k7 z0 z1 z2 z3 z4 z5 z6 z7 hrl;obtain ⟨⟨k0,k1,k2,k3,k4,k5,k6,k7⟩,z0,z1,z2,z3,z4,z5,z6,z7,hrl⟩:=HZ4.out.eightc;go_wp2_with fail
 refine body_gen1 fun W' hW=>?_;refine bodyPost_ret (v := .tuple #[(leafP 1 ⟨sa,sb,sc,sd⟩).val,.nilIface]) (by simp [results,results101,go_sem,hW,k0,k1,k2,k3,k4,k5,k6,k7,hrl,zeroP,leaf_val]) rfl ?_;have hset:Fr [rb] w4 W':=by rw [hW];exact fr8 w4 rb _ _ _ _ _ _ _ _
 exact ReadPost.ok_ HR.out rfl (leaf_new _ _ _ _) (HRD4.out.fr_far hset (by simpa using hgrb)) (HF4.out.trans' hset (by simp;have:=HRB.out;omega))
end Go.Proofs.YtfofechcccodeaaGreatDoor
namespace Go.Proofs.YtfofechcccodeaaGreatDoor
open Go.RowKit Go.Proofs.Tryz
set_option linter.unusedVariables false
set_option linter.unusedSimpArgs false
set_option maxRecDepth 100000
set_option maxHeartbeats 8000000
theorem group_of (f:Nat) (hE:ExprOk f):GroupOk (f+1):=by
 intro w g A c bs i d h hi hf h40;obtain ⟨c0,c1,c2,f1,f2⟩:=h.cells;have hlen:=h.len;have hgl:=h.blk.lt;have hd64:=h.deep;obtain ⟨L,hL⟩:∃ L,L=bs.length:=⟨_,rfl⟩;rw [<-hL] at c0 hi hlen hf;obtain ⟨R,hR⟩:∃ R,R=atomF bs (f+1) d i:=⟨_,rfl⟩;rw [<-hR];rw [atomF,if_pos h40] at hR;have HRD:=zh h;have HL:=zh hL;have HEK:=zh hE;have H40:=zh h40;obtain ⟨rb,hrb⟩:∃ rb,rb=w.heap.size:=⟨_,rfl⟩;have HRB:=zh hrb;clear h hL hE h40;by_cases hdd:d=64
 ·rw [if_pos hdd] at hR;have HR:=zh hR;subst hdd;clear hR;go_enter func114,ntmps114
  go_wp2_with fail
  go_at_call 55
  refine calls_gen1 fun W hW=>?_;have hfr1:Fr [] w W:=by rw [hW];exact (Fr.refl [] w).alloc _
  have hz1:Bk W rb 89 zeroP:=by rw [hW,hrb];exact Bk.new w _ _
  rw [<-hrb] at hgl ⊢; clear hW hrb;refine (efault_any _ _ W).mono ?_;rintro e w2 ⟨v,rfl,hv,hf2⟩;have HV:=zh hv;have HZ2:=zh (hz1.fr hf2 (by simp));have HF2:=zh (hfr1.trans hf2);clear hv hf2 hz1 hfr1;obtain ⟨⟨k0,k1,k2,k3,k4,k5,k6,k7⟩,z0,z1,z2,z3,z4,z5,z6,z7,hrl⟩:=HZ2.out.eightc;go_wp2_with fail
  refine body_gen1 fun W' hW=>?_;refine bodyPost_ret (v := .tuple #[.agg zeroP,v]) (by simp [results,results114,go_sem,hW,k0,k1,k2,k3,k4,k5,k6,k7,hrl,zeroP,PT.val]) rfl ?_;have hset:Fr [rb] w2 W':=by rw [hW];exact fr8 w2 rb _ _ _ _ _ _ _ _
  exact ReadPost.err HR.out rfl (HV.out.far8 HZ2.out hset) (HF2.out.nil_.trans' hset (by simp;have:=HRB.out;omega))
 rw [if_neg hdd] at hR;have HR:=zh hR;have t64:((d:Int) == 64)=false:=by simp;omega
 clear hR;go_enter func114,ntmps114
 go_wp2_with fail
 go_at_call 56
 refine calls_gen1 fun W hW=>?_;have hat:W=((w.setCell ⟨g,1,none⟩ (.int .i64 ((i+1:Nat):Int))).setCell ⟨g,2,none⟩ (.int .i64 ((d+1:Nat):Int))).alloc (.cells zeroP 89):=by rw [hW];first | rfl | (simp [zeroP];done)
 have HRW:Hid (Rdr W g A c bs (i+1) (d+1)):=zh (by rw [hat];exact ((HRD.out.move (by rw [<-HL.out];omega)).open_ (by omega)).fr_nil ((Fr.refl [] _).alloc _));have HFW:Hid (Fr [g] w W):=zh (by rw [hat];exact (((Fr.refl [g] w).setCell (.inl (by simp)) _).setCell (.inl (by simp)) _).alloc _)
 have HZW:Hid (Bk W rb 89 zeroP):=zh (by
  rw [hat,hrb];have:=Bk.new ((w.setCell ⟨g,1,none⟩ (.int .i64 ((i+1:Nat):Int))).setCell ⟨g,2,none⟩ (.int .i64 ((d+1:Nat):Int))) 89 zeroP
  simpa using this)
 rw [<-hrb] at hgl ⊢; have hgr:¬ (g=rb):=by omega
 have hrg:¬ (rb=g):=by omega
 clear hat hW hrb c0 c1 c2 f1 f2;refine (HEK.out W g A c bs (i+1) (d+1) HRW.out (by rw [<-HL.out];omega)).mono ?_;intro e w2 hp;rcases hX:exprF bs f (d+1) (i+1) [] with ⟨p,code⟩ | ⟨t,j⟩
 ·rw [hX] at hp;have hr:=HR.out;rw [hX] at hr;have HR2:Hid (R = .error (p,code)):=zh hr;obtain ⟨v,rfl,⟨fg,rfl,hfb⟩,hf2⟩:=hp;have HV:=zh (show FaultV w2 _ (p:Int) (code:Int) from ⟨fg,rfl,hfb⟩);have HZ2:=zh (HZW.out.fr hf2 (by simpa using hrg));have HF2:=zh (HFW.out.trans hf2);clear hfb hf2 hX hr HR;obtain ⟨⟨k0,k1,k2,k3,k4,k5,k6,k7⟩,z0,z1,z2,z3,z4,z5,z6,z7,hrl⟩:=HZ2.out.eightc;unfold zeroP;go_wp2_with fail
  refine body_gen1 fun W' hW=>?_;refine bodyPost_ret (v := .tuple #[.agg zeroP,.iface 74 (.pointer (some ⟨fg,0,none⟩))]) (by simp [results,results114,go_sem,hW,k0,k1,k2,k3,k4,k5,k6,k7,hrl,zeroP,PT.val]) rfl ?_;have hset:Fr [rb] w2 W':=by rw [hW];exact (fr8 w2 rb _ _ _ _ _ _ _ _).alloc _
  exact ReadPost.err HR2.out rfl (HV.out.far8 HZ2.out hset) (HF2.out.trans' hset (by simp;have:=HRB.out;omega))
 rw [hX] at hp;have hr:=HR.out;rw [hX] at hr;unfold closeT at hr;obtain ⟨p,rfl,hn,hrd,hf2⟩:=hp;have HN:=zh hn;have HRD2:=zh hrd;have HZ2:=zh (HZW.out.fr hf2 (by simpa using hrg));have HF2:=zh (HFW.out.trans hf2);have hwl:=HFW.out.size;have HWZ:Hid (rb < W.heap.size):=zh HZW.out.lt;clear hn hrd hf2 hX HR;unfold PT.val;obtain ⟨pn,hpn⟩:∃ pn,pn=p.l.length:=⟨_,rfl⟩;rw [<-hpn];have HPN:=zh hpn;clear hpn;have HRR:=zh hr;clear hr;go_wp2_with fail
 go_at_call 70
 refine calls_gen1 fun W3 hW=>?_;have hf3:Fr [] w2 W3:=by rw [hW];exact (Fr.refl [] w2).alloc _
 have hpc:Bk W3 w2.heap.size 89 #[.int .i64 p.k,.int .u64 p.s0,.int .u64 p.s1,.int .u64 p.s2,.int .u64 p.s3,.int .i64 p.mn,.int .i64 p.mx,.slice p.A pn p.c]:=by rw [hW];exact Bk.new w2 _ _
 have HRD3:=zh (HRD2.out.fr_nil hf3);have HN3:=zh (HN.out.fr_nil hf3);have HZ3:=zh (HZ2.out.fr hf3 (by simp));have HF3:=zh (HF2.out.trans hf3.nil_);have hpb:rb < w2.heap.size:=HZ2.out.lt;have hgw2:g < w2.heap.size:=HRD2.out.blk.lt;obtain ⟨pb,hpbe⟩:∃ pb,pb=w2.heap.size:=⟨_,rfl⟩;rw [<-hpbe] at hpc hpb hgw2 ⊢; have HPC:=zh hpc;clear hW hf3 hpc hpbe;by_cases h41:bn bs j=41
 ·have hr:=HRR.out;rw [if_pos h41] at hr;have HR2:=zh hr;have hjl:j < bs.length:=bn_pos h41 (by omega);refine (stands_q HRD3.out 41 (by omega) true (stB_yes h41)).mono ?_;rintro e w4 ⟨rfl,hq4⟩;have hf4:=hq4.fr;have HRD4:=zh (HRD3.out.fr_nil hf4);have HN4:=zh (HN3.out.fr_nil hf4);have HZ4:=zh (HZ3.out.fr hf4 (by simp));have HF4:=zh (HF3.out.trans hf4.nil_);have HPC4:=zh (HPC.out.fr hf4 (by simp));have HJL:=zh hjl;have hjb:j < 1000:=by have:=HRD4.out.len;omega
  clear hq4 hf4 h41 hr hjl;obtain ⟨-, c1,c2,f1,f2⟩:=HRD4.out.cells;have hgl4:=HRD4.out.blk.lt;obtain ⟨⟨k0,k1,k2,k3,k4,k5,k6,k7⟩,z0,z1,z2,z3,z4,z5,z6,z7,hrl⟩:=HZ4.out.eightc;obtain ⟨⟨l0,l1,l2,l3,l4,l5,l6,l7⟩,-, -, -, -, -, -, -, -, hpl⟩:=HPC4.out.eightc;have hpr:¬ (pb=rb):=by omega
  have hpg:¬ (pb=g):=by omega
  go_wp2_with fail
  refine body_gen1 fun W' hW=>?_;refine bodyPost_ret (v := .tuple #[p.val,.nilIface]) (by simp [results,results114,go_sem,hW,k0,k1,k2,k3,k4,k5,k6,k7,hrl,zeroP,PT.val,HPN.out]) rfl ?_;have hset:Fr [rb] ((w4.setCell ⟨g,1,none⟩ (.int .i64 ((j+1:Nat):Int))).setCell ⟨g,2,none⟩ (.int .i64 (d:Int))) W':=by rw [hW];exact fr8 _ rb _ _ _ _ _ _ _ _
  have hrdm:=(HRD4.out.move (j:=j+1) HJL.out).open_ (e:=d) hd64;have hmid:Fr [g] w4 ((w4.setCell ⟨g,1,none⟩ (.int .i64 ((j+1:Nat):Int))).setCell ⟨g,2,none⟩ (.int .i64 (d:Int))):=((Fr.refl [g] w4).setCell (.inl (by simp)) _).setCell (.inl (by simp)) _;have hWl:=HWZ.out;refine ReadPost.ok_ HR2.out rfl ((((HN4.out.fr hmid (by simp;left;omega)).fr hset (by simp;left;omega))).lower hwl) (hrdm.fr_far hset (by simpa using hgl)) ((HF4.out.trans hmid).trans' hset (by simp;have:=HRB.out;omega))
 have hr:=HRR.out;rw [if_neg h41,<-HL.out] at hr;have HR2:=zh hr;refine (stands_q HRD3.out 41 (by omega) false (stB_no h41)).mono ?_;rintro e w4 ⟨rfl,hq4⟩;have hf4:=hq4.fr;have HRD4:=zh (HRD3.out.fr_nil hf4);have HZ4:=zh (HZ3.out.fr hf4 (by simp));have HF4:=zh (HF3.out.trans hf4.nil_);have HPC4:=zh (HPC.out.fr hf4 (by simp));clear hq4 hf4 h41 hr;obtain ⟨c0,c1,c2,f1,f2⟩:=HRD4.out.cells;rw [<-HL.out] at c0;have hgl4:=HRD4.out.blk.lt;go_wp2_with fail
 go_at_call 55
 refine (efault_any _ _ w4).mono ?_;rintro e w5 ⟨v,rfl,hv,hf5⟩;have HV:=zh hv;have HZ5:=zh (HZ4.out.fr hf5 (by simp));have HF5:=zh (HF4.out.trans hf5.nil_);clear hv hf5;obtain ⟨⟨k0,k1,k2,k3,k4,k5,k6,k7⟩,z0,z1,z2,z3,z4,z5,z6,z7,hrl⟩:=HZ5.out.eightc;go_wp2_with fail
 refine body_gen1 fun W' hW=>?_;refine bodyPost_ret (v := .tuple #[.agg zeroP,v]) (by simp [results,results114,go_sem,hW,k0,k1,k2,k3,k4,k5,k6,k7,hrl,zeroP,PT.val]) rfl ?_;have hset:Fr [rb] w5 W':=by rw [hW];exact fr8 w5 rb _ _ _ _ _ _ _ _
 exact ReadPost.err HR2.out rfl (HV.out.far8 HZ5.out hset) (HF5.out.trans' hset (by simp;have:=HRB.out;omega))
end Go.Proofs.YtfofechcccodeaaGreatDoor
