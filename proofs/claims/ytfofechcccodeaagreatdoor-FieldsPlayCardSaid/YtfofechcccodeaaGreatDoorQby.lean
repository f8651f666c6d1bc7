/-
  Small texts in one (Hf9, HfO). No conditions.
-/
import Derived.Test.YtfofechcccodeaaGreatDoorQbx
import Derived.Deep.CutRange
import Derived.Deep.CutBlock
namespace Go.Proofs.YtfofechcccodeaaGreatDoor.F
open Go.ChangeShapes Go.WideShapes Go.ChangeAt Go.RowKit Go.Deep Go.Proofs.Tryz
set_option linter.unusedVariables false
set_option linter.unusedSimpArgs false
set_option maxRecDepth 100000
set_option maxHeartbeats 16000000
theorem act_row {w:World} {b:Nat} {k n:Int} {s:List UInt8} (h:Bk w b 32 #[.int .i64 k,.int .i64 n,.string ⟨s.toArray⟩]) :
    w.cell? ⟨b,0,none⟩=some (.int .i64 k)/\w.cell? ⟨b,1,none⟩=some (.int .i64 n)/\w.cell? ⟨b,2,none⟩=some (.string ⟨s.toArray⟩):=
 ⟨h.cell_ rfl,h.cell_ rfl,h.cell_ rfl⟩
theorem wrong_ok {fs:List UInt8} {fl:List UInt8->List (List UInt8)} {n a:Int} (h:FsOk fs fl) (hw:WrongIs fs n a):n=0/\a=0:=by
 rcases hw with ⟨-, h1,h2⟩ | ⟨-, -, h1,h2⟩ | ⟨hx,i,c,hp,-⟩
 ·exact ⟨h1,h2⟩
 ·exact ⟨h1,h2⟩
 rcases h with ⟨rfl,-⟩ | ⟨rfl,-⟩ | ⟨c,rfl,-, h2,-⟩ | ⟨-, t,ht,-⟩
 ·rcases hx.2 with h | h <;> simp at h
 ·exact absurd rfl hx.1
 ·rcases hx.2 with h | h
  ·simp at h
  exact absurd (by simpa using h) h2
 rw [hp] at ht;cases ht
theorem wrong_both {fs:List UInt8} {p code:Nat} {n a:Int} (hx:exprFs fs) (h:parseS fs = .error (p,code) ∨ (∃ t,parseS fs = .ok t)/\p=0/\code=5) (hw:WrongIs fs n a) :
    (n=(code:Int)/\a=(p:Int)/\1 <= code/\code <= 25) ∨ (n=0/\p=0/\code=5):=by
 rcases hw with ⟨h1,-⟩ | ⟨-, ⟨t,ht⟩,h1,-⟩ | ⟨-, i,c,hp,h1,h2⟩
 ·exact absurd hx h1
 ·rcases h with h | ⟨-, h⟩
  ·rw [h] at ht;cases ht
  exact .inr ⟨h1,h⟩
 rcases h with h | ⟨⟨t,ht⟩,-⟩
 ·rw [h] at hp
  injection hp with hp
  injection hp with e1 e2
  subst e1 e2;exact .inl ⟨h1,h2,nw_parse_code h⟩
 rw [hp] at ht;cases ht
def LpRel (w:World) (n g xb:Nat) (v7:Value) (wr:World):Prop:=∃ (k:Nat) (fs:List UInt8) (x:Rc) (v:Value),v7 = .int .i64 (k:Int)/\k <= n/\PlI w g xb fs x v wr
def ActR (w:World) (g xb:Nat) (v9 v10:Value) (wr:World):Prop:=∃ (fs:List UInt8) (x:Rc) (v:Value) (code:Int),v10 = .int .i64 code/\ErrIs wr v9 code/\PlI w g xb fs x v wr
theorem fieldsPlay_walk {w:World} (hg:GlobOk w) (ht:ErrT w) {A:Option Addr} {n c:Nat} {K N:Nat->Int} {S:Nat->List UInt8} (ha:ActF w A n K N S) (hn:n <= maxLen) (F:Int) :
    Calls prog 3 #[.slice A n c,.int .i64 F] w fun e w'=>e = .returned (.bool true)/\Fr [] w w':=by
 have HG:=zh hg;have HT:=zh ht;have HA:=zh ha;have HN:=zh hn;have hgl:1 < w.heap.size:=by obtain ⟨m,hm⟩:=hg;exact World.block_lt_of_cell? w _ hm
 have HGL:=zh hgl;unfold maxLen at hn;clear hg ht ha hgl;go_enter func3,ntmps3
 go_wp2_with fail
 go_at_call 4
 refine (awake_any w).mono ?_;rintro e w1 ⟨rfl,hf⟩;have HF1:=zh hf;clear hf;go_wp2_with fail
 go_at_call 5
 refine (few_any (HA.out.fr HF1.out) HN.out).mono ?_;rintro e w2 ⟨b,rfl,hfew,rfl⟩
 cases b with
 | false=>
  go_wp2_with fail
  go_ret
  exact ⟨rfl,HF1.out⟩
 | true=>
  have HFW:=zh (hfew rfl);clear hfew;go_wp2_with fail
  go_at_call 6
  refine (fnew_any w1).mono ?_;rintro e w2 ⟨rfl,hr2,hf2,-⟩;obtain ⟨g,hgx⟩:∃ g,g=w1.heap.size:=⟨_,rfl⟩;rw [<-hgx] at hr2 ⊢; have HGX:=zh hgx;have HR2:=zh hr2;have HF2:=zh (HF1.out.trans hf2);clear hgx hr2 hf2;go_wp2_with fail
  go_at_call 7
  refine (rnew_any w2).mono ?_;rintro e w3 ⟨rfl,hf3⟩;have HR3:=zh (HR2.out.fr_nil hf3);have HF3:=zh (HF2.out.trans hf3);clear hf3;unfold recV recC;go_upto_region 7 with fail
  obtain ⟨xb,hxb⟩:∃ x,x=w3.heap.size:=⟨_,rfl⟩;obtain ⟨w4,hw4⟩:∃ w4,w4=w3.alloc (.cells (recC [32] newRc (.slice none 0 0)) 29):=⟨_,rfl⟩;have hb4:Bk w4 xb 29 (recC [32] newRc (.slice none 0 0)):=by rw [hw4,hxb];exact Bk.new _ _ _
  have hf4:Fr [] w3 w4:=by rw [hw4];exact (Fr.refl [] w3).alloc _
  unfold recC at hw4;rw [<-hw4,<-hxb]
  have hpl:PlI w g xb [32] newRc (.slice none 0 0) w4:=
   ⟨by have:=HGX.out;have:=HF1.out.size;omega,by have:=HF3.out.size;omega,HR3.out.fr_nil hf4,.inl ⟨rfl,rfl⟩,.inl ⟨rfl,rfl⟩,hb4,Own.nil_ _ _,HF3.out.trans hf4,by decide,by decide,by decide⟩
  have HPL:=zh hpl;clear hw4 hxb hb4 hf4 hpl
  go_loopw [7] (LpRel w n g xb) (fun v7 _=>n - (intOf v7).toNat)
  case atStart=>exact ⟨0,[32],newRc,.slice none 0 0,rfl,by omega,HPL.out⟩
  case round=>
   obtain ⟨k,fs,x,v,rfl,hk,hpl⟩:=hrel;have HP:=zh hpl;clear hpl;by_cases hlt:k < n
   ·obtain ⟨b8,off,rfl,hb,h0,h1,h2⟩:=HA.out.fr HP.out.fr k hlt;obtain ⟨hs60,hs12⟩:=HFW.out.2 k hlt;obtain ⟨kd,hkd⟩:∃ kd,kd=K k:=⟨_,rfl⟩;obtain ⟨nn,hnn⟩:∃ nn,nn=N k:=⟨_,rfl⟩;obtain ⟨s,hs⟩:∃ s,s=S k:=⟨_,rfl⟩;rw [<-hkd] at h0 hs12;rw [<-hnn] at h1;rw [<-hs] at h2 hs60 hs12;have HKL:=zh hlt;clear hkd hnn hs;go_upto_region 10 with fail
    obtain ⟨a8,ha8⟩:∃ a,a=wr.heap.size:=⟨_,rfl⟩;obtain ⟨w8,hw8⟩:∃ w8,w8=wr.alloc (.cells #[.int .i64 kd,.int .i64 nn,.string ⟨s.toArray⟩] 32):=⟨_,rfl⟩;have hb8:Bk w8 a8 32 #[.int .i64 kd,.int .i64 nn,.string ⟨s.toArray⟩]:=by rw [hw8,ha8];exact Bk.new _ _ _
    have hf8:Fr [] wr w8:=by rw [hw8];exact (Fr.refl [] wr).alloc _
    rw [<-hw8,<-ha8];have hp8:=HP.out.fr_nil hf8
    have hne8:a8 ≠ g:=by
     obtain ⟨_,hq,-⟩:=hp8.rc;exact hb8.ne_ hq (by decide)
    have hnx8:a8 ≠ xb:=hb8.ne_ hp8.rb (by decide);have HB8:=zh hb8;have HP8:=zh hp8;have HNE8:=zh hne8;have HNX8:=zh hnx8;obtain ⟨A1,cp1,rfl⟩:=own_slice hp8.ow;obtain ⟨c0,c1,c2⟩:=act_row hb8;obtain ⟨d0,d1,d2,d3⟩:=rec_row hp8.rb;clear hw8 ha8 hb8 hf8 hp8 hne8 hnx8 h0 h1 h2 hb
    go_upto_block 2 with fail
    go_cut [9,10,11,12] from 31 to 117 (fun v9 v10 v11 v12 wx=>ActR w g xb v9 v10 wx)
    case first=>
     by_cases h0:kd=0
     ·subst h0;obtain ⟨y,ev,code,hev,hy,hnl,hln,hca,hcb⟩:=pair_set (w:=w) (v := .slice A1 x.l.length cp1) HP8.out.rc HP8.out.sp HP8.out.fo s hs60;unfold recV recC at hcb;have HEV:=zh hev;have HY:=zh hy;have HNL:=zh hnl;have HLN:=zh hln;have HCA:=zh hca;have HCB:=zh hcb;clear hev hy hnl hln hca hcb;go_wp2_with fail
      go_at_call 8
      refine HCA.out.mono ?_;rintro e W1 ⟨rfl,hr1,hf1⟩;obtain ⟨hb1,ho1,hfw1⟩:=HP8.out.gstep hf1;have hz8:=HB8.out.fr hf1 (by simpa using HNE8.out);obtain ⟨c0,c1,c2⟩:=act_row hz8;obtain ⟨d0,d1,d2,d3⟩:=rec_row hb1;have HCB1:=zh (HCB.out W1 ho1);have HR1:=zh hr1;have HF1':=zh hf1;have HB1:=zh hb1;clear hr1 hf1 hb1 ho1 hfw1 hz8;go_wp2_with fail
      go_at_call 9
      refine HCB1.out.mono ?_;rintro e W2 ⟨UA,uc,rfl,ho2,hf2⟩;have HO2:=zh ho2;have HF2':=zh hf2;have HZ:=zh (HB1.out.fr hf2 (by simp));clear ho2 hf2 c0 c1 c2 d0 d1 d2 d3;go_wp2_with (refine wpList_store_bkA rfl 29 _ _ rfl xb _ rfl rfl _ _ HZ.out rec_size (by first | rfl | simp) (by simp [Value.oneCell']) ?_;intro w9 hb9 hf9;have HB9:=zh hb9;have HF9:=zh hf9;clear hb9 hf9)
      go_meet
      obtain ⟨y1,y2,y3,y4,y5⟩:=HY.out;exact ⟨fs,y,_,code,rfl,.inl HEV.out,HP8.out.make HG.out HR1.out HF1'.out HF2'.out HB9.out HF9.out HO2.out (sep_same (HP8.out.sepS HG.out HF1'.out) ⟨y1,y2,y3,y4⟩) (by rw [y4];exact HP8.out.fo) (by rw [y5];exact HP8.out.jn) HNL.out HLN.out⟩
     by_cases h1:kd=1
     ·subst h1;obtain ⟨y,ev,code,hev,hy,hnl,hln,hca,hcb⟩:=pair_set (w:=w) (v := .slice A1 x.l.length cp1) HP8.out.rc HP8.out.sp HP8.out.fo s hs60;unfold recV recC at hcb;have HEV:=zh hev;have HY:=zh hy;have HNL:=zh hnl;have HLN:=zh hln;have HCA:=zh hca;have HCB:=zh hcb;clear hev hy hnl hln hca hcb;go_wp2_with fail
      go_at_call 8
      refine HCA.out.mono ?_;rintro e W1 ⟨rfl,hr1,hf1⟩;obtain ⟨hb1,ho1,hfw1⟩:=HP8.out.gstep hf1;have hz8:=HB8.out.fr hf1 (by simpa using HNE8.out);obtain ⟨c0,c1,c2⟩:=act_row hz8;obtain ⟨d0,d1,d2,d3⟩:=rec_row hb1;have HCB1:=zh (HCB.out W1 ho1);have HR1:=zh hr1;have HF1':=zh hf1;have HB1:=zh hb1;clear hr1 hf1 hb1 ho1 hfw1 hz8;go_wp2_with fail
      go_at_call 9
      refine HCB1.out.mono ?_;rintro e W2 ⟨UA,uc,rfl,ho2,hf2⟩;have HO2:=zh ho2;have HF2':=zh hf2;have HZ:=zh (HB1.out.fr hf2 (by simp));clear ho2 hf2 c0 c1 c2 d0 d1 d2 d3;go_wp2_with (refine wpList_store_bkA rfl 29 _ _ rfl xb _ rfl rfl _ _ HZ.out rec_size (by first | rfl | simp) (by simp [Value.oneCell']) ?_;intro w9 hb9 hf9;have HB9:=zh hb9;have HF9:=zh hf9;clear hb9 hf9)
      go_meet
      obtain ⟨y1,y2,y3,y4,y5⟩:=HY.out;exact ⟨fs,y,_,code,rfl,.inl HEV.out,HP8.out.make HG.out HR1.out HF1'.out HF2'.out HB9.out HF9.out HO2.out (sep_same (HP8.out.sepS HG.out HF1'.out) ⟨y1,y2,y3,y4⟩) (by rw [y4];exact HP8.out.fo) (by rw [y5];exact HP8.out.jn) HNL.out HLN.out⟩
     have e0:(kd == 0)=false:=beq_eq_false_iff_ne.2 h0;have e1:(kd == 1)=false:=beq_eq_false_iff_ne.2 h1;by_cases h2:kd=2
     ·subst h2;obtain ⟨y,ev,code,hev,hy,hnl,hln,hca,hcb⟩:=pair_put (w:=w) (v := .slice A1 x.l.length cp1) HP8.out.rc HP8.out.sp HP8.out.fo HP8.out.jn HP8.out.nl HP8.out.ln nn s hs60;unfold recV recC at hcb;have HEV:=zh hev;have HY:=zh hy;have HNL:=zh hnl;have HLN:=zh hln;have HCA:=zh hca;have HCB:=zh hcb;clear hev hy hnl hln hca hcb;go_wp2_with fail
      go_at_call 10
      refine HCA.out.mono ?_;rintro e W1 ⟨rfl,hr1,hf1⟩;obtain ⟨hb1,ho1,hfw1⟩:=HP8.out.gstep hf1;have hz8:=HB8.out.fr hf1 (by simpa using HNE8.out);obtain ⟨c0,c1,c2⟩:=act_row hz8;obtain ⟨d0,d1,d2,d3⟩:=rec_row hb1;have HCB1:=zh (HCB.out W1 ho1);have HR1:=zh hr1;have HF1':=zh hf1;have HB1:=zh hb1;clear hr1 hf1 hb1 ho1 hfw1 hz8;go_wp2_with fail
      go_at_call 11
      refine HCB1.out.mono ?_;rintro e W2 ⟨UA,uc,rfl,ho2,hf2⟩;have HO2:=zh ho2;have HF2':=zh hf2;have HZ:=zh (HB1.out.fr hf2 (by simp));clear ho2 hf2 c0 c1 c2 d0 d1 d2 d3;go_wp2_with (refine wpList_store_bkA rfl 29 _ _ rfl xb _ rfl rfl _ _ HZ.out rec_size (by first | rfl | simp) (by simp [Value.oneCell']) ?_;intro w9 hb9 hf9;have HB9:=zh hb9;have HF9:=zh hf9;clear hb9 hf9)
      go_meet
      obtain ⟨y1,y2,y3,y4,y5⟩:=HY.out;exact ⟨fs,y,_,code,rfl,.inl HEV.out,HP8.out.make HG.out HR1.out HF1'.out HF2'.out HB9.out HF9.out HO2.out (sep_same (HP8.out.sepS HG.out HF1'.out) ⟨y1,y2,y3,y4⟩) (by rw [y4];exact HP8.out.fo) (by rw [y5];exact HP8.out.jn) HNL.out HLN.out⟩
     by_cases h3:kd=3
     ·subst h3;obtain ⟨y,ev,code,hev,hy,hnl,hln,hca,hcb⟩:=pair_put (w:=w) (v := .slice A1 x.l.length cp1) HP8.out.rc HP8.out.sp HP8.out.fo HP8.out.jn HP8.out.nl HP8.out.ln nn s hs60;unfold recV recC at hcb;have HEV:=zh hev;have HY:=zh hy;have HNL:=zh hnl;have HLN:=zh hln;have HCA:=zh hca;have HCB:=zh hcb;clear hev hy hnl hln hca hcb;go_wp2_with fail
      go_at_call 10
      refine HCA.out.mono ?_;rintro e W1 ⟨rfl,hr1,hf1⟩;obtain ⟨hb1,ho1,hfw1⟩:=HP8.out.gstep hf1;have hz8:=HB8.out.fr hf1 (by simpa using HNE8.out);obtain ⟨c0,c1,c2⟩:=act_row hz8;obtain ⟨d0,d1,d2,d3⟩:=rec_row hb1;have HCB1:=zh (HCB.out W1 ho1);have HR1:=zh hr1;have HF1':=zh hf1;have HB1:=zh hb1;clear hr1 hf1 hb1 ho1 hfw1 hz8;go_wp2_with fail
      go_at_call 11
      refine HCB1.out.mono ?_;rintro e W2 ⟨UA,uc,rfl,ho2,hf2⟩;have HO2:=zh ho2;have HF2':=zh hf2;have HZ:=zh (HB1.out.fr hf2 (by simp));clear ho2 hf2 c0 c1 c2 d0 d1 d2 d3;go_wp2_with (refine wpList_store_bkA rfl 29 _ _ rfl xb _ rfl rfl _ _ HZ.out rec_size (by first | rfl | simp) (by simp [Value.oneCell']) ?_;intro w9 hb9 hf9;have HB9:=zh hb9;have HF9:=zh hf9;clear hb9 hf9)
      go_meet
      obtain ⟨y1,y2,y3,y4,y5⟩:=HY.out;exact ⟨fs,y,_,code,rfl,.inl HEV.out,HP8.out.make HG.out HR1.out HF1'.out HF2'.out HB9.out HF9.out HO2.out (sep_same (HP8.out.sepS HG.out HF1'.out) ⟨y1,y2,y3,y4⟩) (by rw [y4];exact HP8.out.fo) (by rw [y5];exact HP8.out.jn) HNL.out HLN.out⟩
     have e2:(kd == 2)=false:=beq_eq_false_iff_ne.2 h2;have e3:(kd == 3)=false:=beq_eq_false_iff_ne.2 h3;by_cases h4:kd=4
     ·subst h4;obtain ⟨y,ev,code,hev,hy,hnl,hln,hca,hcb⟩:=pair_resize (w:=w) (fs:=fs) (v := .slice A1 x.l.length cp1) HP8.out.rc HP8.out.jn HP8.out.nl HP8.out.ln nn;unfold recV recC at hcb;have HEV:=zh hev;have HY:=zh hy;have HNL:=zh hnl;have HLN:=zh hln;have HCA:=zh hca;have HCB:=zh hcb;clear hev hy hnl hln hca hcb;go_wp2_with fail
      go_at_call 12
      refine HCA.out.mono ?_;rintro e W1 ⟨rfl,hr1,hf1⟩;obtain ⟨hb1,ho1,hfw1⟩:=HP8.out.gstep hf1;have hz8:=HB8.out.fr hf1 (by simpa using HNE8.out);obtain ⟨c0,c1,c2⟩:=act_row hz8;obtain ⟨d0,d1,d2,d3⟩:=rec_row hb1;have HCB1:=zh (HCB.out W1 ho1);have HR1:=zh hr1;have HF1':=zh hf1;have HB1:=zh hb1;clear hr1 hf1 hb1 ho1 hfw1 hz8;go_wp2_with fail
      go_at_call 13
      refine HCB1.out.mono ?_;rintro e W2 ⟨UA,uc,rfl,ho2,hf2⟩;have HO2:=zh ho2;have HF2':=zh hf2;have HZ:=zh (HB1.out.fr hf2 (by simp));clear ho2 hf2 c0 c1 c2 d0 d1 d2 d3;go_wp2_with (refine wpList_store_bkA rfl 29 _ _ rfl xb _ rfl rfl _ _ HZ.out rec_size (by first | rfl | simp) (by simp [Value.oneCell']) ?_;intro w9 hb9 hf9;have HB9:=zh hb9;have HF9:=zh hf9;clear hb9 hf9)
      go_meet
      obtain ⟨y1,y2,y3,y4,y5⟩:=HY.out;exact ⟨fs,y,_,code,rfl,.inl HEV.out,HP8.out.make HG.out HR1.out HF1'.out HF2'.out HB9.out HF9.out HO2.out (sep_same (HP8.out.sepS HG.out HF1'.out) ⟨y1,y2,y3,y4⟩) (by rw [y4];exact HP8.out.fo) (by rw [y5];exact HP8.out.jn) HNL.out HLN.out⟩
     have e4:(kd == 4)=false:=beq_eq_false_iff_ne.2 h4;by_cases h5:kd=5
     ·subst h5;obtain ⟨gm,hgm⟩:∃ gm,gm=g:=⟨_,rfl⟩;have hgr:1 ≠ g:=by have:=HGL.out;have:=HP8.out.g0;omega
      have HSA:=zh (sepr_any HP8.out.rc (HG.out.fr HP8.out.fr) hgr s hs60);clear hgr hgm gm;go_wp2_with fail
      go_at_call 14
      refine HSA.out.mono ?_;intro e W1 hsp;rcases hsp with ⟨k2,c3,f2,fl2,rfl,hfs2,hsp2,hr1,hf1⟩ | ⟨hex,ev,p,code,rfl,hfv,hr1,hf1,hpar⟩
      ·obtain ⟨hb1,ho1,hfw1⟩:=HP8.out.gstep hf1;have hz8:=HB8.out.fr hf1 (by simpa using HNE8.out);obtain ⟨c0,c1,c2⟩:=act_row hz8;have HZ8:=zh hz8;have HR1:=zh hr1;have HF1':=zh hf1;have HB1:=zh hb1;have HO1:=zh ho1;have HS2:=zh hsp2;have HFS2:=zh hfs2;clear hz8 hr1 hf1 hb1 ho1 hfw1 hsp2 hfs2 d0 d1 d2 d3;go_wp2_with fail
       go_at_call 15
       refine (wrong_any W1 s).mono ?_;rintro e W2 ⟨hf2,wn,wa,rfl,hwi⟩;obtain ⟨rfl,rfl⟩:=wrong_ok HFS2.out hwi;have HF2':=zh hf2;have hb2:=HB1.out.fr hf2 (by simp);obtain ⟨c0,c1,c2⟩:=act_row (HZ8.out.fr hf2 (by simp));obtain ⟨d0,d1,d2,d3⟩:=rec_row hb2;have fz:=hb2.frozen 0;have HB2:=zh hb2;clear hf2 hwi hb2;go_wp2_with fail
       go_meet
       exact ⟨s,_,_,0,rfl,.inl (.inl ⟨rfl,rfl⟩),HP8.out.make (y:={ x with kind:=k2,c:=c3,f:=f2,fl:=fl2 }) HG.out HR1.out HF1'.out HF2'.out (HB2.out.put 0 (.string ⟨s.toArray⟩)) ((Fr.refl [xb] W2).setCell (.inl (by simp)) _) (Own.fr HO1.out HF2'.out (by simp)) HS2.out HFS2.out HP8.out.jn HP8.out.nl HP8.out.ln⟩
      have hp1:=HP8.out.fr_nil hf1;obtain ⟨c0,c1,c2⟩:=act_row (HB8.out.fr hf1 (by simp));have HP1:=zh hp1;have HFV:=zh hfv;have HPAR:=zh hpar;have HEX:=zh hex;obtain ⟨fb,hev,-⟩:=hfv;subst hev;clear hp1 hpar hex hr1 hf1 d0 d1 d2 d3;go_wp2_with fail
      go_at_call 15
      refine (wrong_any W1 s).mono ?_;rintro e W2 ⟨hf2,wn,wa,rfl,hwi⟩;have HP2:=zh (HP1.out.fr_nil hf2);have HFV2:Hid (FaultV W2 (.iface 74 (.pointer (some ⟨fb,0,none⟩))) p code):=zh (by obtain ⟨b',e',hb'⟩:=HFV.out;exact ⟨b',e',hb'.fr hf2 (by simp)⟩);rcases wrong_both HEX.out HPAR.out hwi with ⟨rfl,rfl,q1,q2⟩ | ⟨rfl,hp0,hc5⟩
      ·have n0:((code:Int) == 0)=false:=by rw [beq_eq_false_iff_ne];omega
       have n1:((p:Int) != (p:Int))=false:=by simp
       have HPLC:=zh (place_any HFV2.out (HT.out.fr HP2.out.fr));have HQ:=zh (And.intro q1 q2);clear hf2 hwi q1 q2;go_wp2_with fail
       go_at_call 17
       refine HPLC.out.mono ?_;rintro e W3 ⟨rfl,hf3⟩;have HP3:=zh (HP2.out.fr_nil hf3);have HFV3:Hid (FaultV W3 (.iface 74 (.pointer (some ⟨fb,0,none⟩))) p code):=zh (by obtain ⟨b',e',hb'⟩:=HFV2.out;exact ⟨b',e',hb'.fr hf3 (by simp)⟩);clear hf3;go_wp2_with fail
       go_meet
       exact ⟨fs,x,_,code,rfl,.inr ⟨p,HFV3.out,by have:=HQ.out.1;omega,by have:=HQ.out.2;omega⟩,HP3.out⟩
      subst hp0 hc5;have HCF:=zh (code_fault HFV2.out (by omega) (by omega));clear hf2 hwi;go_wp2_with fail
      go_at_call 16
      refine HCF.out.mono ?_;rintro e W3 ⟨rfl,rfl⟩;go_wp2_with fail
      go_ret
      exact ⟨rfl,HP2.out.fr⟩
     have e5:(kd == 5)=false:=beq_eq_false_iff_ne.2 h5;by_cases h6:kd=6
     ·subst h6;have HJ:=zh (join_any HP8.out.rc s);go_wp2_with fail
      go_at_call 18
      refine HJ.out.mono ?_;rintro e W1 ⟨rfl,hr1,hf1⟩;obtain ⟨hb1,ho1,hfw1⟩:=HP8.out.gstep hf1;have hz8:=HB8.out.fr hf1 (by simpa using HNE8.out);obtain ⟨c0,c1,c2⟩:=act_row hz8;obtain ⟨d0,d1,d2,d3⟩:=rec_row hb1;have fz:=hb1.frozen 1;have HR1:=zh hr1;have HF1':=zh hf1;have HB1:=zh hb1;have HO1:=zh ho1;clear hz8 hr1 hf1 hb1 ho1 hfw1;go_wp2_with fail
      go_meet
      exact ⟨fs,_,_,0,rfl,.inl (.inl ⟨rfl,rfl⟩),HP8.out.make (y:={ x with jn:=s }) HG.out HR1.out HF1'.out (Fr.refl _ _) (HB1.out.put 1 (.string ⟨s.toArray⟩)) ((Fr.refl [xb] W1).setCell (.inl (by simp)) _) HO1.out (sep_same (HP8.out.sepS HG.out HF1'.out) ⟨rfl,rfl,rfl,rfl⟩) HP8.out.fo hs60 HP8.out.nl HP8.out.ln⟩
     have e6:(kd == 6)=false:=beq_eq_false_iff_ne.2 h6;go_wp2_with fail
     go_meet
     exact ⟨fs,x,_,0,rfl,.inl (.inl ⟨rfl,rfl⟩),HP8.out⟩
    case rest=>
     obtain ⟨fs3,x3,v3,code,hv10,herr,hpl⟩:=hcut;subst hv10;obtain ⟨A3,cp3,rfl⟩:=own_slice hpl.ow;have HPC:=zh hpl;have HER:=zh herr;clear hpl herr c0 c1 c2 d0 d1 d2 d3;go_upto_region 37 with fail
     refine wp_region_nice_all (fun a b=>Fr [] a b) (fun W=>Fr [] wc W) (by kernel_rfl) (fun w=>Fr.refl [] w) (fun a b c h k=>h.trans k) (fun a b h k=>h.trans k) (by kernel_rfl) (by kernel_rfl) (by kernel_rfl) (fun _ _ d _ _ h=>by cases d <;> exact h) ((Fr.refl [] wc).drew) ?_
     refine nice_move _ rfl rfl ?_;simp only [PE];refine nice_call rfl (fun W hS=>(code_is (HER.out.fr hS)).mono fun _ _ h=>⟨h.1,by rw [<-h.2];exact Fr.refl _ _⟩) (fun W=>?_) ?_
     ·go_simp;first | done | rfl
     simp only [PU];refine nice_move _ rfl rfl ?_;simp only [PE];refine nice_val (v := .bool false) rfl (fun W hS=>?_) ?_
     ·go_simp;first | done | rfl | (simp;done)
     simp only [PU];refine nice_move _ rfl rfl ?_;simp only [PE];refine nice_move _ rfl rfl ?_;simp only [PE];refine nice_call rfl (fun W hS=>(count_any (HPC.out.rc.fr_nil hS)).mono fun _ _ h=>⟨h.1,by rw [<-h.2];exact Fr.refl _ _⟩) (fun W=>?_) ?_
     ·go_simp;first | done | rfl
     simp only [PU];refine nice_val (v := .pointer (some ⟨xb,3,none⟩)) rfl (fun W hS=>?_) ?_
     ·go_simp;first | done | rfl | (simp;done)
     simp only [PU];refine nice_val (v := .slice A3 x3.l.length cp3) rfl (fun W hS=>?_) ?_
     ·obtain ⟨d0,d1,d2,d3⟩:=rec_row (HPC.out.rb.fr hS (by simp));go_simp;first | done | rfl | (simp;done)
     simp only [PU];refine nice_val (v := .int .i64 (x3.l.length:Int)) rfl (fun W hS=>?_) ?_
     ·go_simp;first | done | rfl | (simp;done)
     simp only [PU];refine nice_val (v := .bool false) rfl (fun W hS=>?_) ?_
     ·go_simp;first | done | rfl | (simp;done)
     simp only [PU];refine nice_val (v := .bool false) rfl (fun W hS=>?_) ?_
     ·go_simp;first | done | rfl | (simp;done)
     simp only [PU];refine nice_move _ rfl rfl ?_;simp only [PE];refine nice_move _ rfl rfl ?_;simp only [PE];refine nice_call rfl (fun W hS=>(get_any (HPC.out.rc.fr_nil hS) 0).mono fun _ _ h=>⟨h.1,by rw [<-h.2];exact Fr.refl _ _⟩) (fun W=>?_) ?_
     ·go_simp;first | done | rfl
     simp only [PU];refine nice_val (v := .pointer (some ⟨xb,2,none⟩)) rfl (fun W hS=>?_) ?_
     ·go_simp;first | done | rfl | (simp;done)
     simp only [PU];refine nice_val (v := .string ⟨x3.text.toArray⟩) rfl (fun W hS=>?_) ?_
     ·obtain ⟨d0,d1,d2,d3⟩:=rec_row (HPC.out.rb.fr hS (by simp));go_simp;first | done | rfl | (simp;done)
     simp only [PU];refine nice_val (v := .bool false) rfl (fun W hS=>?_) ?_
     ·go_simp;first | done | rfl | (simp;done)
     simp only [PU];refine nice_val (v := .bool false) rfl (fun W hS=>?_) ?_
     ·go_simp;first | done | rfl | (simp;done)
     simp only [PU];refine nice_move _ rfl rfl ?_;simp only [PE];refine nice_move _ rfl rfl ?_;simp only [PE];refine nice_move _ rfl rfl ?_;simp only [PE];refine nice_call rfl (fun W hS=>(get_any (HPC.out.rc.fr_nil hS) F).mono fun _ _ h=>⟨h.1,by rw [<-h.2];exact Fr.refl _ _⟩) (fun W=>?_) ?_
     ·go_simp;first | done | rfl
     simp only [PU];refine nice_val (v:=recV fs3 x3 (.slice A3 x3.l.length cp3)) rfl (fun W hS=>?_) ?_
     ·obtain ⟨d0,d1,d2,d3⟩:=rec_row (HPC.out.rb.fr hS (by simp));go_simp;first | done | rfl | (simp;done)
     simp only [PU];refine nice_move _ rfl rfl ?_;simp only [PE];refine nice_call rfl (fun W hS=>rget_any fs3 x3 (Own.fr HPC.out.ow hS (by simp)) F) (fun W=>?_) ?_
     ·go_simp;first | done | rfl
     simp only [PU];refine nice_val (v := .bool false) rfl (fun W hS=>?_) ?_
     ·go_simp;first | done | rfl | (simp;done)
     simp only [PU];refine nice_val (v := .bool false) rfl (fun W hS=>?_) ?_
     ·go_simp;first | done | rfl | (simp;done)
     simp only [PU];refine nice_nil ?_;intro wd hS hG;have HPD:=zh (HPC.out.fr_nil hS);clear hS hG;go_upto_region 40 with fail
     obtain ⟨len3,hlen3⟩:∃ m,m=x3.l.length:=⟨_,rfl⟩;have HL3:=zh hlen3;have hl1000:len3 <= 1000:=by have:=HPC.out.nl;omega
     clear hlen3
     go_loopw [13] (fun v13 wz=>∃ j:Nat,v13 = .int .i64 ((j:Int)+1)/\j <= len3/\PlI w g xb fs3 x3 (.slice A3 x3.l.length cp3) wz) (fun v13 _=>2000 - (intOf v13).toNat)
     case atStart=>exact ⟨0,by rfl,by omega,HPD.out⟩
     case round=>
      obtain ⟨j,rfl,hj,hpj⟩:=hrel;have HPJ:=zh hpj;rw [<-HL3.out] at hpj;obtain ⟨d0,d1,d2,d3⟩:=rec_row hpj.rb;have how:=hpj.ow;clear hpj;by_cases hj2:j < len3
      ·have t0:decide ((len3:Int) < (j:Int)+1)=false:=decide_eq_false (by omega);have t0':decide ((j:Int)+1 <= (len3:Int))=true:=decide_eq_true (by omega);by_cases hj50:j+1 < 50
       ·have t1:decide ((j:Int)+1 < 50)=true:=decide_eq_true (by omega);obtain ⟨b3,off3,rfl,hce⟩:=OwnL.cell how (j:=j) (by have:=HL3.out;omega);have hwr2:IntKind.i64.wrap ((j:Int)+1 - 1)=(j:Int):=by rw [show (j:Int)+1 - 1=(j:Int) by omega,IntKind.wrap_i64];omega
        have hwr3:IntKind.i64.wrap ((j:Int)+1+1)=(j:Int)+1+1:=by rw [IntKind.wrap_i64];omega
        have hgt:getM x3.text x3.l ((j:Int)+1)=x3.l.getD j []:=by
         have:=getM_nat x3.text x3.l (j+1) (by omega)
         simpa using this
        obtain ⟨el,hel⟩:∃ el,el=x3.l.getD j []:=⟨_,rfl⟩;rw [<-hel] at hce hgt;have hga:=fun W (hW:RcM W g x3)=>get_any hW ((j:Int)+1);rw [hgt] at hga;have HGA:=zh hga;have h4:¬ ((len3:Int) <= (j:Int)):=by omega
        clear hga hgt hel how;go_upto_region 42 with fail
        go_quiet ((go_at_call 20;exact Calls.quiet_of_same ((HGA.out _ (by first | exact HPJ.out.rc | exact HPJ.out.rc.fr_nil ((Fr.refl _ _).drewN _) | exact HPJ.out.rc.fr_nil (Fr.refl _ _).drew)).mono fun _ _ h=>⟨h.1,h.2.symm⟩)))
        have HPK:=zh (HPJ.out.fr_nil ((Fr.refl [] wr).drewN nq));clear hce d0 d1 d2 d3;go_wp2_with fail
        go_roundw
        case rel=>exact ⟨j+1,by go_num,by omega,HPK.out⟩
        case measure=>simp [intOf] <;> omega
       have t1:decide ((j:Int)+1 < 50)=false:=decide_eq_false (by omega);clear how;go_wp2_with fail
       go_roundw
       case rel=>exact ⟨k+1,fs3,x3,_,by go_num,by have:=HKL.out;omega,HPJ.out⟩
       case measure=>have:=HKL.out;simp [intOf] <;> omega
      have t0:decide ((len3:Int) < (j:Int)+1)=true:=decide_eq_true (by omega);have t0':decide ((j:Int)+1 <= (len3:Int))=false:=decide_eq_false (by omega);clear how;go_wp2_with fail
      go_roundw
      case rel=>exact ⟨k+1,fs3,x3,_,by go_num,by have:=HKL.out;omega,HPJ.out⟩
      case measure=>have:=HKL.out;simp [intOf] <;> omega
   obtain rfl:k=n:=by omega
   go_wp2_with fail
   go_ret
   exact ⟨rfl,HP.out.fr⟩
end Go.Proofs.YtfofechcccodeaaGreatDoor.F
namespace Go.Proofs.YtfofechcccodeaaGreatDoor
open Go.ChangeShapes Go.WideShapes Go.ChangeAt Go.RowKit Go.Deep Go.Proofs.Tryz
set_option linter.unusedVariables false
set_option linter.unusedSimpArgs false
set_option maxRecDepth 100000
theorem fieldsPlay_open {H:Type} {enc:TypeId × Value->H} (W:World) (base:Nat) (v0:Value) (d0:DataW H) (p0:List MemPlace) (v1:Value) (d1:DataW H) (p1:List MemPlace)
    (k0:Value.okWide prog W .any base 22 v0) (k1:Value.okWide prog W .any base 3 v1) (h0:DataW.Trod enc prog W 0 (fun _=>true) true 22 v0 d0 p0) (h1:DataW.Trod enc prog W 0 (fun _=>true) true 3 v1 d1 p1) (hg:GlobOk W) (hl:laidMetH prog Rows.fieldsPlayRow.laid W) :
    Calls prog 3 #[v0,v1] W fun e W'=>e = .returned (.bool true)/\Below W.heap.size W W':=by
 obtain ⟨A,n,c,K,N,S,rfl,hn,ha⟩:=F.acts_openF k0 h0;obtain ⟨fn,rfl,-⟩:=arg_int underlying3 k1 h1;exact (F.fieldsPlay_walk hg (F.errT_of_laid hl) ha hn fn).mono fun e W' ⟨h1,h2⟩=>⟨h1,h2.below_nil⟩
end Go.Proofs.YtfofechcccodeaaGreatDoor
