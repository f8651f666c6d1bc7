/-
  Small texts in one (RfY, RfE). No conditions.
-/
import Derived.Test.YtfofechcccodeaaGreatDoorQbn
namespace Go.Proofs.YtfofechcccodeaaGreatDoor
open Go.RowKit Go.Proofs.Tryz
set_option linter.unusedVariables false
set_option linter.unusedSimpArgs false
set_option maxRecDepth 100000
set_option maxHeartbeats 16000000
theorem sign_zero {bs:List UInt8} {i:Nat} (h:(signS bs i).2.2=0):signS bs i=(0,0,0):=by
 have hI:∀ l v n,(intervalT l v n).2.2=0->intervalT l v n=(0,0,0):=by
  intro l v n h;unfold intervalT at h ⊢; by_cases h1:n=0
  ·rw [if_pos h1]
  rw [if_neg h1] at h ⊢; by_cases h2:bn l (n+1)=44
  ·rw [if_pos h2] at h ⊢; split at h
   ·simp at h
   rename_i h3;rw [if_neg h3]
  rw [if_neg h2] at h ⊢; split at h
  ·simp at h
  rename_i h3;rw [if_neg h3]
 unfold signS intervalS at h ⊢; by_cases h1:bn bs i=42
 ·rw [if_pos h1] at h;simp at h
 rw [if_neg h1] at h ⊢; by_cases h2:bn bs i=43
 ·rw [if_pos h2] at h;simp at h
 rw [if_neg h2] at h ⊢; by_cases h3:bn bs i=63
 ·rw [if_pos h3] at h;simp at h
 rw [if_neg h3] at h ⊢; by_cases h4:bn bs i=123
 ·rw [if_pos h4] at h ⊢; exact hI _ _ _ h
 rw [if_neg h4]
theorem bad_zero {bs:List UInt8} {i:Nat} (h:(signS bs i).2.2=0):badS (signS bs i)=false:=by rw [sign_zero h];rfl
theorem NewR.times {lo:Nat} {w:World} {t:RT} {p:PT} {B:Nat} (h:NewR lo w t p) (a b:Int) (hB:lo <= B) (hb:Bk w B 69 p.rcells.toArray):NewR lo w (tTimes a b t) (.mk 4 0 0 0 0 a b (some ⟨B,0,none⟩) 1 [p]):=by
 refine ⟨?_,?_,?_⟩
 ·unfold tTimes;rw [RepP_eq];refine ⟨rfl,by simp [RT.s,S4.empty,PT.s0],by simp [RT.s,S4.empty,PT.s1],by simp [RT.s,S4.empty,PT.s2],by simp [RT.s,S4.empty,PT.s3],rfl,rfl,?_⟩;show RepL [t] [p];rw [RepL_cons,RepL_nil];exact ⟨h.rep,rfl⟩
 ·rw [RPMem,RLMem,RLMem];exact ⟨⟨B,0,rfl,_,hb,fun j u hj=>by simpa using hj⟩,h.mem,trivial⟩
 intro b' hb';rw [blkP,blkL,blkL,List.append_nil] at hb';rcases List.mem_append.1 hb' with h1 | h1
 ·simp at h1;subst h1;exact ⟨hB,hb.lt⟩
 exact h.new _ h1
theorem rpiece_of (f:Nat) (hA:RAtomOk f):RPieceOk (f+1):=by
 intro w bs i d hl hi hd hf;obtain ⟨S,hS⟩:∃ S,S=(⟨bs.toArray⟩:ByteArray):=⟨_,rfl⟩;obtain ⟨L,hL⟩:∃ L,L=bs.length:=⟨_,rfl⟩;have hs1:S.size=L:=by rw [hS,hL];simp [ByteArray.size]
 have HIX:Hid (∀ j:Nat,j < L->∀ W,(Instr.index 9 (.string S) (.int .i64 (j:Int))).run prog W = .ok (.int .u8 (bn bs j:Int)) W):=zh (fun j hj W=>by rw [hS];exact str_at bs j (by omega) W);have HSD:Hid (S=(⟨bs.toArray⟩:ByteArray)):=zh hS;have HL:Hid (L=bs.length):=zh hL;obtain ⟨R,hR⟩:∃ R,R=pieceF bs (f+1) d i:=⟨_,rfl⟩;obtain ⟨rb,hrb⟩:∃ rb,rb=w.heap.size:=⟨_,rfl⟩;have HRB:=zh hrb;have HR:=zh hR;rw [<-hS,<-hR];rw [<-hL] at hl hi hf;clear hS hR hL;have hcall:=fun W:World=>hA W bs i d (by have:=HL.out;omega) (by have:=HL.out;omega) hd (by have:=HL.out;omega);rw [<-HSD.out] at hcall;have hRR:=HR.out;rw [pieceF] at hRR;have hle:=(readF_le bs f).2.2.2 d i;have hcd:=(read_code bs f).2.2.2 d i;have HSG:Hid (∀ j:Nat,j <= L->∀ W,Calls prog 91 #[.string S,.int .i64 (j:Int)] W fun e w'=>e = .returned (.agg (signC (signS bs j)).toArray)/\Fr [] W w'):=zh (fun j hj W=>by rw [HSD.out];exact sign_any_ bs j (by have:=HL.out;omega) (by have:=HL.out;omega) W);clear hA HR;rcases hX:atomF bs f d i with ⟨q,code⟩ | ⟨t0,j0⟩
 ·have hc0:0 < code:=hcd _ _ hX;rw [hX] at hcall hRR;have HR2:Hid (R = .error (q,code)):=zh hRR;have HCL:Hid (∀ W,Calls prog 90 #[.string S,.int .i64 (i:Int),.int .i64 (d:Int)] W fun e w'=>e = .returned (.agg (gotC zeroPC 0 (code:Int) (q:Int)).toArray)/\Fr [] W w'):=zh hcall;have hcI:((code:Int) != 0)=true:=by simp;omega
  clear hcall hRR hX hle hcd;go_enter func76,ntmps76
  go_upto_region 1 with (first
   | (refine wpList_alloc_bk rfl 71 rfl (gotC zeroPC 0 0 0) 263 rg_zero ?_;intro wA0 hzA hfA;have HFA0:=zh hfA;have HZA0:Hid (Bk wA0 rb 71 (gotC zeroPC 0 0 0).toArray):=zh (by rw [HRB.out];exact hzA);clear hzA hfA))
  rw [<-hrb];clear hrb
  go_wp2_with (first
   | (go_at_call 90;refine (HCL.out wA0).mono ?_;rintro e w2 ⟨rfl,hf2⟩;have HF2:=zh (HFA0.out.trans hf2);have HZ2:=zh (HZA0.out.fr hf2 (by simp));clear hf2)
   | (refine wpList_alloc_bk rfl 71 rfl (gotC zeroPC 0 0 0) 263 rg_zero ?_;intro wA1 hzA hfA;have HZA1:=zh hzA;have HF3:=zh (HF2.out.trans hfA);have HZ3:=zh (HZ2.out.fr hfA (by simp));clear hzA hfA)
   | (refine wpList_store_bk rfl 71 _ _ rfl w2.heap.size (gotC zeroPC 0 (code:Int) (q:Int)) rfl rfl _ _ HZA1.out (by rw [gotC_len zeroPC_len];exact rg_size) (by rw [gotC_len zeroPC_len,List.size_toArray,gotC_len zeroPC_len]) (gotC_one zeroPC_one _ _ _) ?_;intro wS1 hzS hfS;have HZS1:=zh hzS;have HFS1:=zh hfS;have HZ4:=zh (HZ3.out.fr hfS (by simp;have:=HZ2.out.lt;omega));have c261:=hzS.cellL (gotC_e zeroPC_len _ _ _);clear hzS hfS)
   | (refine wpList_load_bk rfl 71 _ rfl w2.heap.size 0 rfl (gotC zeroPC 0 (code:Int) (q:Int)) _ _ _ HZS1.out (by intro j u hj;simpa using hj) underlying71 rfl (by rw [gotC_len zeroPC_len];exact rg_size) ?_)
   | (refine wpList_store_bk rfl 71 _ _ rfl rb (gotC zeroPC 0 (code:Int) (q:Int)) rfl rfl _ _ HZ4.out (by rw [gotC_len zeroPC_len];exact rg_size) (by rw [gotC_len zeroPC_len,List.size_toArray,gotC_len zeroPC_len]) (gotC_one zeroPC_one _ _ _) ?_;intro wS2 hzS hfS;have HZS2:=zh hzS;have HFS2:=zh hfS;clear hzS hfS))
  refine ret_row_ (p:=6) (T:=71) rfl rb _ _ rfl HZS2.out underlying71 rfl (by rw [gotC_len zeroPC_len];exact rg_size) rfl ?_;exact RPost.err HR2.out rfl ((HF3.out.trans' HFS1.out (by simp;have:=HF2.out.size;omega)).trans' HFS2.out (by simp;have:=HRB.out;omega))
 have hj0:=hle t0 j0 (by have:=HL.out;omega) hX;rw [hX] at hcall hRR;have HSL:Hid (signsL bs 8 t0 j0=R):=zh hRR.symm;have HCL:Hid (∀ W,Calls prog 90 #[.string S,.int .i64 (i:Int),.int .i64 (d:Int)] W (RPost W (.ok (t0,j0)))):=zh hcall;have hj0L:j0 <= L:=by have:=HL.out;omega
 clear hcall hRR hX hle hcd hj0;go_enter func76,ntmps76
 go_upto_region 1 with (first
  | (refine wpList_alloc_bk rfl 71 rfl (gotC zeroPC 0 0 0) 263 rg_zero ?_;intro wA0 hzA hfA;have HFA0:=zh hfA;have HZA0:Hid (Bk wA0 rb 71 (gotC zeroPC 0 0 0).toArray):=zh (by rw [HRB.out];exact hzA);clear hzA hfA))
 rw [<-hrb];clear hrb
 go_upto_region 4 with (first
  | (go_at_call 90;refine (HCL.out wA0).mono ?_;rintro e w2 ⟨p0,rfl,hn,hf2⟩;have HN2:=zh hn;have HF2:=zh (HFA0.out.trans hf2);have HZ2:=zh (HZA0.out.fr hf2 (by simp));clear hf2;clear hn)
  | (refine wpList_alloc_bk rfl 71 rfl (gotC zeroPC 0 0 0) 263 rg_zero ?_;intro wA1 hzA hfA;have HZA1:=zh hzA;have HF3:=zh (HF2.out.trans hfA);have HZ3:=zh (HZ2.out.fr hfA (by simp));have HN3:=zh (HN2.out.fr_nil hfA);clear hzA hfA)
  | (refine wpList_store_bk rfl 71 _ _ rfl w2.heap.size (gotC p0.rcells (j0:Int) 0 0) rfl rfl _ _ HZA1.out (by rw [gotC_len (rcells_len p0)];exact rg_size) (by rw [gotC_len (rcells_len p0),List.size_toArray,gotC_len zeroPC_len]) (gotC_one (rcells_one p0) _ _ _) ?_;intro wS1 hzS hfS;have HZS1:=zh hzS;have HFS1:=zh hfS;have HZ4:=zh (HZ3.out.fr hfS (by simp;have:=HZ2.out.lt;omega));have c261:=hzS.cellL (gotC_e (rcells_len p0) _ _ _);clear hzS hfS))
 obtain ⟨g,hg⟩:∃ g,g=w2.heap.size:=⟨_,rfl⟩;rw [<-hg];have hrg:rb < g:=by rw [hg];exact HZ2.out.lt
 have HG0:Hid (Bk wS1 g 71 (gotC p0.rcells (j0:Int) 0 0).toArray):=zh (by rw [hg];exact HZS1.out);have HFS:Hid (Fr [] w wS1):=zh (HF3.out.trans' HFS1.out (by simp;have:=HF2.out.size;omega));have HNS:Hid (NewR (rb+1) wS1 t0 p0/\∀ b ∈ blkP p0,b ≠ g):=zh ⟨(HN3.out.fr HFS1.out (by simp;right;intro hm;have:=(HN2.out.new _ hm).2;omega)).lower (by have:=HFA0.out;have:=HZA0.out.lt;omega),fun b hb=>by have:=(HN2.out.new b hb).2;omega⟩;have hgw:w.heap.size <= g:=by rw [hg];exact HF2.out.size
 clear hg HZA0 HFA0 HF2 HZ2 HN2 HF3 HZ3 HN3 HZA1 HZS1 HFS1 HCL c261;go_wp2_with fail
 go_loopw [8] (fun v8 wr=>∃ (n j:Nat) (t:RT) (p:PT),v8 = .int .i64 (n:Int)/\n <= 8/\j <= L/\signsL bs (8 - n) t j=R/\NewR (rb+1) wr t p/\(∀ b ∈ blkP p,b ≠ g)/\Bk wr g 71 (gotC p.rcells (j:Int) 0 0).toArray/\Bk wr rb 71 (gotC zeroPC 0 0 0).toArray/\Fr [] w wr) (fun v8 _=>9 - (intOf v8).toNat)
 case atStart=>exact ⟨0,j0,t0,p0,rfl,by omega,hj0L,HSL.out,HNS.out.1,HNS.out.2,HG0.out,HZ4.out,HFS.out⟩
 case round=>
  clear HSL HNS HG0 HZ4 HFS;obtain ⟨n,j,t,p,rfl,hn8,hjL,hsl,hnw,hng,hgb,hzb,hfr⟩:=hrel;have c260:=hgb.cellL (gotC_n (rcells_len p) (j:Int) 0 0);have HSLR:=zh hsl;have HNW:=zh hnw;have HNG:=zh hng;have HGB:=zh hgb;have HZB:=zh hzb;have HFR:=zh hfr;have hgl:g < wr.heap.size:=hgb.lt;obtain ⟨mn,hmn⟩:∃ mn,mn=(signS bs j).1:=⟨_,rfl⟩;obtain ⟨mx,hmx⟩:∃ mx,mx=(signS bs j).2.1:=⟨_,rfl⟩;obtain ⟨N,hN⟩:∃ N,N=(signS bs j).2.2:=⟨_,rfl⟩;obtain ⟨bad,hbad⟩:∃ bad,bad=badS (signS bs j):=⟨_,rfl⟩;have HSC:Hid (∀ W,Calls prog 91 #[.string S,.int .i64 (j:Int)] W fun e w'=>e = .returned (.agg (sgC mn mx (N:Int) bad).toArray)/\Fr [] W w'):=zh (fun W=>by have:=HSG.out j hjL W;unfold signC at this;rw [hmn,hmx,hN,hbad];exact this);have hNL:j+N <= L:=by rw [hN];have:=signS_le bs j (by have:=HL.out;omega);have:=HL.out;omega
  have HMN:=zh hmn;have HMX:=zh hmx;have HNN:=zh hN;have HBAD:=zh hbad;clear hsl hnw hng hgb hzb hfr hmn hmx hN hbad
  go_upto_region 7 with (first
   | (go_at_call 91;refine (HSC.out _).mono ?_;rintro e w3 ⟨rfl,hf3⟩;have c260:=(HGB.out.fr hf3 (by simp)).cellL (gotC_n (rcells_len p) (j:Int) 0 0);have HF3:=zh hf3;clear hf3)
   | (refine wpList_alloc_bk rfl 191 rfl (sgC 0 0 0 false) 4 sg_zero ?_;intro wA hzA hfA;have HZA:=zh hzA;have HFA:=zh (HF3.out.trans hfA);clear hzA hfA)
   | (refine wpList_store_bk rfl 191 _ _ rfl w3.heap.size (sgC mn mx (N:Int) bad) rfl rfl _ _ HZA.out sg_size rfl (by simp [sgC,Value.oneCell']) ?_;intro wS hzS hfS;have HZX:=zh hzS;have HFX:=zh hfS;clear hzS hfS))
  have HF4:Hid (Fr [w3.heap.size] wr wS):=zh (HFA.out.nil_.trans HFX.out);have hw3:wr.heap.size <= w3.heap.size:=HF3.out.size;have HF5:Hid (Fr [] wr wS):=zh (HFA.out.trans' HFX.out (by simp;omega));have HG5:=zh (HGB.out.fr HF5.out (by simp));have HZ5:=zh (HZB.out.fr HF5.out (by simp));have HN5:=zh (HNW.out.fr_nil HF5.out);have HFR5:=zh (HFR.out.trans HF5.out);have d260:=HG5.out.cellL (gotC_n (rcells_len p) (j:Int) 0 0);have x0:=HZX.out.cellL (i:=0) (v := .int .i64 mn) rfl;have x1:=HZX.out.cellL (i:=1) (v := .int .i64 mx) rfl;have x2:=HZX.out.cellL (i:=2) (v := .int .i64 (N:Int)) rfl;have x3:=HZX.out.cellL (i:=3) (v := .bool bad) rfl;clear HF4 HSC;have hsls:=HSLR.out
  cases bad with
  | true=>
   have HR2:Hid (R = .error (j,5)):=zh (by
    have h0:¬ (signS bs j).2.2=0:=fun h=>by have:=bad_zero h;rw [<-HBAD.out] at this;cases this
    rw [<-hsls]
    cases 8 - n with
    | zero=>unfold signsL;rw [if_neg h0,if_pos HBAD.out.symm]
    | succ k=>unfold signsL;rw [if_neg h0,if_pos HBAD.out.symm])
   clear hsls HSLR
   go_wp2_with (first
    | (refine wpList_build2 rfl 71 2 3 _ _ rfl (.int .i64 5) (.int .i64 (j:Int)) rfl rfl (gotC zeroPC 0 5 (j:Int)) (built_eq_ _ _) ?_)
    | (refine wpList_store_bk rfl 71 _ _ rfl rb (gotC zeroPC 0 5 (j:Int)) rfl rfl _ _ HZ5.out (by rw [gotC_len zeroPC_len];exact rg_size) (by rw [gotC_len zeroPC_len,List.size_toArray,gotC_len zeroPC_len]) (gotC_one zeroPC_one _ _ _) ?_;intro wS9 hzS hfS;have HZS9:=zh hzS;have HFS9:=zh hfS;clear hzS hfS))
   refine ret_row_ (p:=6) (T:=71) rfl rb _ _ rfl HZS9.out underlying71 rfl (by rw [gotC_len zeroPC_len];exact rg_size) rfl ?_;exact RPost.err (i:=j) (c:=5) HR2.out (by first | (simp;done) | rfl) (HFR5.out.trans' HFS9.out (by simp;have:=HRB.out;omega))
  | false=>
   by_cases hN0:N=0
   ·have hNI:((N:Int) == 0)=true:=by simp;omega
    have HR2:Hid (R = .ok (t,j)):=zh (by
     have h0:(signS bs j).2.2=0:=by rw [<-HNN.out];exact hN0
     rw [<-hsls]
     cases 8 - n with
     | zero=>unfold signsL;rw [if_pos h0]
     | succ k=>unfold signsL;rw [if_pos h0])
    clear hsls HSLR hN0
    go_wp2_with (first
     | (refine wpList_load_bk rfl 71 _ rfl g 0 rfl (gotC p.rcells (j:Int) 0 0) _ _ _ HG5.out (by intro j u hj;simpa using hj) underlying71 rfl (by rw [gotC_len (rcells_len p)];exact rg_size) ?_)
     | (refine wpList_store_bk rfl 71 _ _ rfl rb (gotC p.rcells (j:Int) 0 0) rfl rfl _ _ HZ5.out (by rw [gotC_len (rcells_len p)];exact rg_size) (by rw [gotC_len (rcells_len p),List.size_toArray,gotC_len zeroPC_len]) (gotC_one (rcells_one p) _ _ _) ?_;intro wS9 hzS hfS;have HZS9:=zh hzS;have HFS9:=zh hfS;clear hzS hfS))
    refine ret_row_ (p:=6) (T:=71) rfl rb _ _ rfl HZS9.out underlying71 rfl (by rw [gotC_len (rcells_len p)];exact rg_size) rfl ?_;exact RPost.ok_ HR2.out rfl ((HN5.out.fr HFS9.out (by simp)).lower (by have:=HRB.out;omega)) (HFR5.out.trans' HFS9.out (by simp;have:=HRB.out;omega))
   have hNI:((N:Int) == 0)=false:=by simp;omega
   have h0:¬ (signS bs j).2.2=0:=by rw [<-HNN.out];exact hN0
   by_cases hn:n=8
   ·subst hn
    have HR2:Hid (R = .error (j,6)):=zh (by
     rw [<-hsls];show signsL bs 0 t j=_
     unfold signsL;rw [if_neg h0,if_neg (by rw [<-HBAD.out];simp)])
    clear hsls HSLR hN0 h0
    go_wp2_with (first
     | (refine wpList_build2 rfl 71 2 3 _ _ rfl (.int .i64 6) (.int .i64 (j:Int)) rfl rfl (gotC zeroPC 0 6 (j:Int)) (built_eq_ _ _) ?_)
     | (refine wpList_store_bk rfl 71 _ _ rfl rb (gotC zeroPC 0 6 (j:Int)) rfl rfl _ _ HZ5.out (by rw [gotC_len zeroPC_len];exact rg_size) (by rw [gotC_len zeroPC_len,List.size_toArray,gotC_len zeroPC_len]) (gotC_one zeroPC_one _ _ _) ?_;intro wS9 hzS hfS;have HZS9:=zh hzS;have HFS9:=zh hfS;clear hzS hfS))
    refine ret_row_ (p:=6) (T:=71) rfl rb _ _ rfl HZS9.out underlying71 rfl (by rw [gotC_len zeroPC_len];exact rg_size) rfl ?_;exact RPost.err (i:=j) (c:=6) HR2.out (by first | (simp;done) | rfl) (HFR5.out.trans' HFS9.out (by simp;have:=HRB.out;omega))
   have hn8I:((n:Int) == 8)=false:=by simp;omega
   have HSN:Hid (signsL bs (8 - (n+1)) (tTimes mn mx t) (j+N)=R):=zh (by
    rw [<-hsls,show 8 - n=8 - (n+1)+1 by omega]
    rw [signsL,if_neg h0,if_neg (by rw [<-HBAD.out];simp),<-HMN.out,<-HMX.out,<-HNN.out])
   clear hsls HSLR h0 hN0
   go_wp2_with (first
    | (refine wpList_load_bk rfl 69 _ rfl g 0 rfl (p.rcells) _ _ _ HG5.out (by intro j u hj;rw [Nat.zero_add,List.getElem?_toArray];exact gotC_p _ _ _ hj) underlying69 rfl (by rw [rcells_len];exact rp_size) ?_)
    | (refine wpList_slice1 rfl 67 69 _ rfl p.rcells rfl (.agg zeroPC.toArray) underlying67 (by rw [rcells_len];exact rp_zero) (by rw [rcells_len];omega) (by rw [rcells_len];omega) ?_;intro wB hzB hfB;have HZB2:=zh hzB;have HFB:=zh hfB;have HG6:=zh (HG5.out.fr hfB (by simp));have e260:=(HG5.out.fr hfB (by simp)).cellL (gotC_n (rcells_len p) (j:Int) 0 0);have y2:=(HZX.out.fr hfB (by simp)).cellL (i:=2) (v := .int .i64 (N:Int)) rfl;clear hzB hfB)
    | (refine wpList_build4 rfl 69 0 2 3 4 _ _ _ _ rfl (.int .i64 4) (.int .i64 mn) (.int .i64 mx) (.slice (some ⟨wS.heap.size,0,none⟩) 1 1) rfl rfl rfl rfl (partC 4 S4.empty mn mx (.slice (some ⟨wS.heap.size,0,none⟩) 1 1)) (built_kml _ _ _ _ _ _) ?_)
    | (refine wpList_build2 rfl 71 0 1 _ _ rfl (.agg (partC 4 S4.empty mn mx (.slice (some ⟨wS.heap.size,0,none⟩) 1 1)).toArray) (.int .i64 ((j:Int)+(N:Int))) rfl rfl (gotC (partC 4 S4.empty mn mx (.slice (some ⟨wS.heap.size,0,none⟩) 1 1)) ((j:Int)+(N:Int)) 0 0) (built_pn (partC_len _ _ _ _ _) _) ?_)
    | (refine wpList_store_bk rfl 71 _ _ rfl g (gotC (partC 4 S4.empty mn mx (.slice (some ⟨wS.heap.size,0,none⟩) 1 1)) ((j:Int)+(N:Int)) 0 0) rfl rfl _ _ HG6.out (by rw [gotC_len (partC_len _ _ _ _ _)];exact rg_size) (by rw [gotC_len (partC_len _ _ _ _ _),List.size_toArray,gotC_len (rcells_len p)]) (gotC_one (partC_one _ _ _ _ (by rfl)) _ _ _) ?_;intro w9 hzS hfS;have HG9:=zh hzS;have HF9:=zh hfS;clear hzS hfS))
   go_roundw
   case rel=>
    have hBg:g < wS.heap.size:=by have:=HF5.out.size;omega
    have hn6:=HN5.out.fr_nil HFB.out;have hn7:=hn6.times mn mx (B:=wS.heap.size) (by omega) HZB2.out
    have hng:∀ b ∈ blkP (.mk 4 0 0 0 0 mn mx (some ⟨wS.heap.size,0,none⟩) 1 [p]),b ≠ g:=fun b hb=>by
     rw [blkP,blkL,blkL,List.append_nil] at hb;rcases List.mem_append.1 hb with h1 | h1
     ·simp at h1;omega
     exact HNG.out b h1
    exact ⟨n+1,j+N,_,_,by go_num,by omega,hNL,HSN.out,hn7.fr HF9.out (fun b hb => .inr (by simp at hb;subst hb;exact fun hm=>hng _ hm rfl)),hng,by rw [rset_zero];have:=HG9.out;rw [show ((j+N:Nat):Int)=(j:Int)+(N:Int) by omega];exact this,(HZ5.out.fr HFB.out (by simp)).fr HF9.out (by simp;omega),(HFR5.out.trans HFB.out).trans' HF9.out (by simp;omega)⟩
   case measure=>simp [intOf] <;> omega
end Go.Proofs.YtfofechcccodeaaGreatDoor
namespace Go.Proofs.YtfofechcccodeaaGreatDoor
open Go.RowKit Go.Proofs.Tryz
set_option linter.unusedVariables false
set_option linter.unusedSimpArgs false
set_option maxRecDepth 100000
set_option maxHeartbeats 16000000
theorem rexpression_of (f:Nat) (hP:∀ k,k < f->RBranchOk k):RExprOk f:=by
 intro w bs i d hl hi hd hf;obtain ⟨S,hS⟩:∃ S,S=(⟨bs.toArray⟩:ByteArray):=⟨_,rfl⟩;obtain ⟨L,hL⟩:∃ L,L=bs.length:=⟨_,rfl⟩;have hs1:S.size=L:=by rw [hS,hL];simp [ByteArray.size]
 have HIX:Hid (∀ j:Nat,j < L->∀ W,(Instr.index 9 (.string S) (.int .i64 (j:Int))).run prog W = .ok (.int .u8 (bn bs j:Int)) W):=zh (fun j hj W=>by rw [hS];exact str_at bs j (by omega) W);have HSD:Hid (S=(⟨bs.toArray⟩:ByteArray)):=zh hS;have HL:Hid (L=bs.length):=zh hL;obtain ⟨R,hR⟩:∃ R,R=exprF bs f d i []:=⟨_,rfl⟩;obtain ⟨rb,hrb⟩:∃ rb,rb=w.heap.size:=⟨_,rfl⟩;have HRB:=zh hrb;have HR:=zh hR;rw [<-hS,<-hR];rw [<-hL] at hl hi hf;clear hS hR hL;have HPK:=zh hP;obtain ⟨i0,hi0,hzz,hz1,hz2⟩:=rpParts;clear hP;go_enter func41,ntmps41
 go_wp2_with (first
  | (refine wpList_alloc_bk rfl 71 rfl (gotC zeroPC 0 0 0) 263 rg_zero ?_;intro wA0 hzA hfA;have HZA0:=zh hzA;have HFA0:=zh hfA;clear hzA hfA))
 rw [<-hrb];have HZ0:Hid (Bk wA0 rb 71 (gotC zeroPC 0 0 0).toArray):=zh (by rw [hrb];exact HZA0.out);clear hrb HZA0
 go_loopw [1,7] (fun v1 v7 wr=>∃ (k i:Nat) (ts:List RT) (ps:List PT),v1 = .int .i64 (i:Int)/\k <= f/\6 * (bs.length - i)+5 <= k/\exprF bs k d i ts=R/\True/\RLoop w bs rb i ts ps v7 wr) (fun v1 _ _=>L+1 - (intOf v1).toNat)
 case atStart=>exact ⟨f,i,[],[],rfl,Nat.le_refl _,by have:=HL.out;omega,HR.out.symm,trivial,by have:=HL.out;omega,by simp,NewQ.nil _ _,HZ0.out,HFA0.out⟩
 case round=>
  clear HR hf HZ0 HFA0;obtain ⟨k,i2,ts,ps,rfl,hk,hfk,hbr,-, hi2,hpi,hnl,hz,hfr⟩:=hrel;rw [<-HL.out] at hfk hi2;have HBR:=zh hbr;have HNL:=zh hnl;have HZ:=zh hz;have HF:=zh hfr;obtain ⟨pn,hpn⟩:∃ pn,pn=ps.length:=⟨_,rfl⟩;have hform:=hnl.form;rw [<-hpn] at hform hpi;obtain ⟨lA,lc,rfl⟩:=hform;have HPN:=zh hpn;clear hbr hnl hz hfr hpn;obtain ⟨k',hk'⟩:∃ k',k=k'+1:=⟨k - 1,by omega⟩;have hcall:=HPK.out k' (by omega) wr bs i2 d (by have:=HL.out;omega) (by have:=HL.out;omega) hd (by have:=HL.out;omega);rw [<-HSD.out] at hcall;have hbr:=HBR.out;rw [hk',exprF] at hbr;rcases hX:branchF bs k' d i2 [] with ⟨q,code⟩ | ⟨t,j⟩
  ·have hc0:0 < code:=(read_code bs k').2.1 _ _ _ _ _ hX;rw [hX] at hcall hbr;have HR2:Hid (R = .error (q,code)):=zh hbr.symm;have HCL:Hid (Calls prog 59 #[.string S,.int .i64 (i2:Int),.int .i64 (d:Int)] wr fun e w'=>e = .returned (.agg (gotC zeroPC 0 (code:Int) (q:Int)).toArray)/\Fr [] wr w'):=zh hcall;have hcI:((code:Int) != 0)=true:=by simp;omega
   clear hcall hbr hX HBR
   go_wp2_with (first
    | (go_at_call 59;refine HCL.out.mono ?_;rintro e w2 ⟨rfl,hf2⟩;have HF2:=zh (HF.out.trans hf2);have HZ2:=zh (HZ.out.fr hf2 (by simp));clear hf2)
    | (refine wpList_alloc_bk rfl 71 rfl (gotC zeroPC 0 0 0) 263 rg_zero ?_;intro wA1 hzA hfA;have HZA1:=zh hzA;have HFA1:=zh hfA;have HZ3:=zh (HZ2.out.fr hfA (by simp));clear hzA hfA)
    | (refine wpList_store_bk rfl 71 _ _ rfl w2.heap.size (gotC zeroPC 0 (code:Int) (q:Int)) rfl rfl _ _ HZA1.out (by rw [gotC_len zeroPC_len];exact rg_size) (by rw [gotC_len zeroPC_len,List.size_toArray,gotC_len zeroPC_len]) (gotC_one zeroPC_one _ _ _) ?_;intro wS1 hzS hfS;have HZS1:=zh hzS;have HFS1:=zh hfS;have HZ4:=zh (HZ3.out.fr hfS (by simp;have:=HZ2.out.lt;omega));have c261:=hzS.cellL (gotC_e zeroPC_len 0 (code:Int) (q:Int));clear hzS hfS)
    | (refine wpList_load_bk rfl 71 _ rfl w2.heap.size 0 rfl (gotC zeroPC 0 (code:Int) (q:Int)) _ _ _ HZS1.out (by intro j u hj;simpa using hj) underlying71 rfl (by rw [gotC_len zeroPC_len];exact rg_size) ?_)
    | (refine wpList_store_bk rfl 71 _ _ rfl rb (gotC zeroPC 0 (code:Int) (q:Int)) rfl rfl _ _ HZ4.out (by rw [gotC_len zeroPC_len];exact rg_size) (by rw [gotC_len zeroPC_len,List.size_toArray,gotC_len zeroPC_len]) (gotC_one zeroPC_one _ _ _) ?_;intro wS2 hzS hfS;have HZS2:=zh hzS;have HFS2:=zh hfS;clear hzS hfS))
   refine ret_row_ (p:=6) (T:=71) rfl rb _ _ rfl HZS2.out underlying71 rfl (by rw [gotC_len zeroPC_len];exact rg_size) rfl ?_;exact RPost.err HR2.out rfl (((HF2.out.trans HFA1.out).trans' HFS1.out (by simp;have:=HF2.out.size;omega)).trans' HFS2.out (by simp;have:=HRB.out;omega))
  have hjj:=(readF_le bs k').2.1 d i2 [] t j (by have:=HL.out;omega) hX;rw [hX] at hcall hbr;have HCL:Hid (Calls prog 59 #[.string S,.int .i64 (i2:Int),.int .i64 (d:Int)] wr (RPost wr (.ok (t,j)))):=zh hcall;have HBR2:=zh hbr;have HX:=zh hX;have HKK:=zh hk';clear hcall hbr hX HBR hk'
  go_upto_region 7 with (first
   | (go_at_call 59;refine HCL.out.mono ?_;rintro e w2 ⟨p,rfl,hn,hf2⟩;have HF2:=zh (HF.out.trans hf2);have HZ2:=zh (HZ.out.fr hf2 (by simp));have HNL2:=zh (HNL.out.fr_nil hf2);have HN2:=zh hn;have HBK:Hid (∀ b ∈ blkP p,(Value.slice lA pn lc).ownBlock ≠ some b):=zh (fun b hb e=>by have h1:=(HNL.out.blk b e).2;have h2:=(hn.new b hb).1;omega);have HLO:Hid (rb+1 <= wr.heap.size):=zh HZ.out.lt;clear hf2 hn)
   | (refine wpList_alloc_bk rfl 71 rfl (gotC zeroPC 0 0 0) 263 rg_zero ?_;intro wA1 hzA hfA;have HZA1:=zh hzA;have HFA1:=zh hfA;clear hzA hfA)
   | (refine wpList_store_bk rfl 71 _ _ rfl w2.heap.size (gotC p.rcells (j:Int) 0 0) rfl rfl _ _ HZA1.out (by rw [gotC_len (rcells_len p)];exact rg_size) (by rw [gotC_len (rcells_len p),List.size_toArray,gotC_len zeroPC_len]) (gotC_one (rcells_one p) _ _ _) ?_;intro wS1 hzS hfS;have HZS1:=zh hzS;have HFS1:Hid (Fr [] w2 wS1):=zh (HFA1.out.trans' hfS (by simp));have c261:=hzS.cellL (gotC_e (rcells_len p) (j:Int) 0 0);clear hzS hfS)
   | (refine wpList_load_bk rfl 69 _ rfl w2.heap.size 0 rfl (p.rcells) _ _ _ HZS1.out (by intro j u hj;rw [Nat.zero_add,List.getElem?_toArray];exact gotC_p _ _ _ hj) underlying69 rfl (by rw [rcells_len];exact rp_size) ?_)
   | (refine wpList_slice1 rfl 67 69 _ rfl p.rcells rfl (.agg zeroPC.toArray) underlying67 (by rw [rcells_len];exact rp_zero) (by rw [rcells_len];omega) (by rw [rcells_len];omega) ?_;intro wB hzB hfB;have HZB:=zh hzB;have HFB:Hid (Fr [] w2 wB):=zh (HFS1.out.trans hfB);have HOWN:Hid (wB.ownsRow (rb+1) 69 260 (.slice lA pn lc) pn (ps.flatMap PT.rcells)):=zh (by have:=own_frv HNL2.out.own HFB.out (by simp);rw [<-HPN.out] at this;exact this);have HZG:=zh (HZS1.out.fr hfB (by simp));clear hzB hfB)
   | (at_builtin;refine wpList_append_R rfl (.tmp 17) (.tmp 20) 67 rfl (rb+1) 69 i0 _ 260 304 underlying67 hi0 hzz hz1 hz2 (by simp [Value.cells,zeroPC_len]) (by omega) (.slice lA pn lc) pn (ps.flatMap PT.rcells) rfl HOWN.out ⟨wS1.heap.size,0,none⟩ 1 1 p.rcells rfl (by rw [rcells_len]) (by intro j u hj;rw [addr_add,Nat.zero_add];exact HZB.out.cellL hj) (rcells_one _) (by rw [show maxLen=9223372036854775807 by rfl];omega) (by omega) (by have:=HZ2.out.lt;have:=HFB.out.size;omega) ?_;intro v6 w6 hown6 hgr6 hat6;have HO6:=zh hown6;have HG6:=zh hgr6;have HT6:=zh hat6;have HMR:=zh (RLoop.more HNL2.out (HN2.out.lower HLO.out) HBK.out HZ2.out HF2.out HRB.out HFB.out (by rw [<-HPN.out];exact hown6) hgr6 hat6);have c260:w6.cell? ⟨w2.heap.size,260,none⟩=some (.int .i64 (j:Int)):=(HZG.out.fr ((Fr.refl [] wB).nil_.grown hgr6 (fun g hg => .inl (by rw [hg];simp)):Fr (Value.slice lA pn lc).ownBlock.toList wB w6) (fun hm=>by have:=(HNL2.out.blk _ (by simpa using hm)).2;omega)).cellL (gotC_n (rcells_len p) (j:Int) 0 0);clear hown6 hgr6 hat6))
  obtain ⟨hnl6,hz6,hf6⟩:=HMR.out;have HMRR:=HMR;have hform6:=hnl6.form;obtain ⟨n6,hn6⟩:∃ n6,n6=(ps ++ [p]).length:=⟨_,rfl⟩;rw [<-hn6] at hform6;obtain ⟨lA6,lc6,rfl⟩:=hform6;have HPN60:=zh hn6;obtain ⟨ts2,hts2⟩:∃ ts2,ts2=ts ++ [t]:=⟨_,rfl⟩;obtain ⟨ps2,hps2⟩:∃ ps2,ps2=ps ++ [p]:=⟨_,rfl⟩;rw [<-hps2] at hn6;rw [<-hts2,<-hps2] at hnl6;have HPN6:=zh hn6;have HNL6:=zh hnl6;have HZ6:=zh hz6;have HF6:=zh hf6;have HTS2:=zh hts2;have HPS2:=zh hps2;have HBR3:Hid ((if bn bs j=124 then exprF bs k' d (j+1) (ts ++ [t]) else .ok (joinT (ts ++ [t]),j))=R):=zh HBR2.out;have hjL0:j <= L:=by have:=HL.out;omega
  have hij:i2 <= j:=hjj.1;clear hn6 hnl6 hz6 hf6 hts2 hps2 hjj c261 c260;by_cases h124:bn bs j=124
  ·have hjL:j < L:=by have:=bn_pos h124 (by decide);have:=HL.out;omega
   have hjI:(j:Int) < (L:Int):=by omega
   have ix:=HIX.out j hjL;rw [h124] at ix;have HRN:Hid (exprF bs k' d (j+1) (ts ++ [t])=R):=zh (by have:=HBR3.out;rw [if_pos h124] at this;exact this);clear h124;go_wp2_with fail
   go_roundw
   case rel=>exact ⟨k',j+1,ts ++ [t],ps ++ [p],by go_num,by have:=HKK.out;omega,by have:=HKK.out;have:=HL.out;omega,HRN.out,trivial,by have:=HL.out;omega,by simp;have:=HPN.out;omega,HMRR.out⟩
   case measure=>simp [intOf] <;> omega
  have HE:Hid (R = .ok (joinT ts2,j)):=zh (by have:=HBR3.out;rw [if_neg h124] at this;rw [HTS2.out];exact this.symm);have hwhy:L <= j ∨ (j < L/\bn bs j ≠ 124):=by omega
  clear HMRR HBR3 HBR2 HX HMR;rcases hwhy with hjL | ⟨hjL,hne⟩
  ·have hjI:(L:Int) <= (j:Int):=by omega
   go_upto_region 9 with fail
   rcases ps2 with _ | ⟨p,_ | ⟨q,r⟩⟩
   ·exfalso;have:=HPS2.out;simp at this
   ·obtain rfl:n6=1:=HPN6.out;have ho:=HNL6.out.own;have hxs:[p].flatMap PT.rcells=p.rcells:=by simp
    rw [hxs] at ho;obtain ⟨lb,rfl,hlb,-, hcl⟩:=own_cells ho (by intro e;have:=rcells_len p;rw [e] at this;simp at this);have HCL:=zh hcl;clear hcl ho hxs
    go_wp2_with (first
     | (refine wpList_load_mid rfl 69 _ rfl lb 0 rfl p.rcells _ (fun j v hv=>by have:=HCL.out j v hv;simpa using this) underlying69 rfl (by rw [rcells_len];exact rp_size) ?_)
     | (refine wpList_build2 rfl 71 0 1 _ _ rfl (.agg p.rcells.toArray) (.int .i64 (j:Int)) rfl rfl (gotC p.rcells (j:Int) 0 0) (built_pn (rcells_len p) _) ?_)
     | (refine wpList_store_bk rfl 71 _ _ rfl rb (gotC p.rcells (j:Int) 0 0) rfl rfl _ _ HZ6.out (by rw [gotC_len (rcells_len p)];exact rg_size) (by rw [gotC_len (rcells_len p),List.size_toArray,gotC_len zeroPC_len]) (gotC_one (rcells_one p) _ _ _) ?_;intro wS1 hzS hfS;have HZS1:=zh hzS;have HFS1:=zh hfS;clear hzS hfS))
    refine ret_row_ (p:=6) (T:=71) rfl rb _ _ rfl HZS1.out underlying71 rfl (by rw [gotC_len (rcells_len p)];exact rg_size) rfl ?_;obtain ⟨t,rfl⟩:∃ t,ts2=[t]:=List.length_eq_one_iff.1 (by simpa using HNL6.out.rep.len);exact RPost.ok_ HE.out rfl ((HNL6.out.single.fr HFS1.out (by simp)).lower (by have:=HRB.out;omega)) (HF6.out.trans' HFS1.out (by simp;have:=HRB.out;omega))
   have hp0:((n6:Int) == 0)=false:=by have:=HPN6.out;simp at this ⊢; omega
   have hp1:((n6:Int) == 1)=false:=by have:=HPN6.out;simp at this ⊢; omega
   go_wp2_with (first
    | (refine wpList_build2 rfl 69 0 4 _ _ rfl (.int .i64 3) (.slice lA6 n6 lc6) rfl rfl (partC 3 S4.empty 0 0 (.slice lA6 n6 lc6)) (built_kl _ _ _ _) ?_)
    | (refine wpList_build2 rfl 71 0 1 _ _ rfl (.agg (partC 3 S4.empty 0 0 (.slice lA6 n6 lc6)).toArray) (.int .i64 (j:Int)) rfl rfl (gotC (partC 3 S4.empty 0 0 (.slice lA6 n6 lc6)) (j:Int) 0 0) (built_pn (partC_len _ _ _ _ _) _) ?_)
    | (refine wpList_store_bk rfl 71 _ _ rfl rb (gotC (partC 3 S4.empty 0 0 (.slice lA6 n6 lc6)) (j:Int) 0 0) rfl rfl _ _ HZ6.out (by rw [gotC_len (partC_len _ _ _ _ _)];exact rg_size) (by rw [gotC_len (partC_len _ _ _ _ _),List.size_toArray,gotC_len zeroPC_len]) (gotC_one (partC_one _ _ _ _ (by rfl)) _ _ _) ?_;intro wS1 hzS hfS;have HZS1:=zh hzS;have HFS1:=zh hfS;clear hzS hfS))
   refine ret_row_ (p:=6) (T:=71) rfl rb _ _ rfl HZS1.out underlying71 rfl (by rw [gotC_len (partC_len _ _ _ _ _)];exact rg_size) rfl ?_;obtain ⟨hq1,hq2⟩:=HNL6.out.part 3 0 0
   have hrow:joinT ts2 = .mk 3 S4.empty 0 0 ts2:=by
    have:=HNL6.out.rep.len
    match ts2,this with
    | a :: b :: r',_=>rfl
   exact RPost.ok_ (by rw [HE.out,hrow]) (by rw [rset_zero,<-HPN6.out]) ((hq1.fr HFS1.out (by simp)).lower (by have:=HRB.out;omega)) (HF6.out.trans' HFS1.out (by simp;have:=HRB.out;omega))
  have hjI:¬ ((L:Int) <= (j:Int)):=by omega
  have ix:=HIX.out j hjL;obtain ⟨y,hy⟩:∃ y,y=bn bs j:=⟨_,rfl⟩;rw [<-hy] at ix hne;have ty:((y:Int) != 124)=true:=by simp;omega
  clear hy hne;go_upto_region 9 with fail
  rcases ps2 with _ | ⟨p,_ | ⟨q,r⟩⟩
  ·exfalso;have:=HPS2.out;simp at this
  ·obtain rfl:n6=1:=HPN6.out;have ho:=HNL6.out.own;have hxs:[p].flatMap PT.rcells=p.rcells:=by simp
   rw [hxs] at ho;obtain ⟨lb,rfl,hlb,-, hcl⟩:=own_cells ho (by intro e;have:=rcells_len p;rw [e] at this;simp at this);have HCL:=zh hcl;clear hcl ho hxs
   go_wp2_with (first
    | (refine wpList_load_mid rfl 69 _ rfl lb 0 rfl p.rcells _ (fun j v hv=>by have:=HCL.out j v hv;simpa using this) underlying69 rfl (by rw [rcells_len];exact rp_size) ?_)
    | (refine wpList_build2 rfl 71 0 1 _ _ rfl (.agg p.rcells.toArray) (.int .i64 (j:Int)) rfl rfl (gotC p.rcells (j:Int) 0 0) (built_pn (rcells_len p) _) ?_)
    | (refine wpList_store_bk rfl 71 _ _ rfl rb (gotC p.rcells (j:Int) 0 0) rfl rfl _ _ HZ6.out (by rw [gotC_len (rcells_len p)];exact rg_size) (by rw [gotC_len (rcells_len p),List.size_toArray,gotC_len zeroPC_len]) (gotC_one (rcells_one p) _ _ _) ?_;intro wS1 hzS hfS;have HZS1:=zh hzS;have HFS1:=zh hfS;clear hzS hfS))
   refine ret_row_ (p:=6) (T:=71) rfl rb _ _ rfl HZS1.out underlying71 rfl (by rw [gotC_len (rcells_len p)];exact rg_size) rfl ?_;obtain ⟨t,rfl⟩:∃ t,ts2=[t]:=List.length_eq_one_iff.1 (by simpa using HNL6.out.rep.len);exact RPost.ok_ HE.out rfl ((HNL6.out.single.fr HFS1.out (by simp)).lower (by have:=HRB.out;omega)) (HF6.out.trans' HFS1.out (by simp;have:=HRB.out;omega))
  have hp0:((n6:Int) == 0)=false:=by have:=HPN6.out;simp at this ⊢; omega
  have hp1:((n6:Int) == 1)=false:=by have:=HPN6.out;simp at this ⊢; omega
  go_wp2_with (first
   | (refine wpList_build2 rfl 69 0 4 _ _ rfl (.int .i64 3) (.slice lA6 n6 lc6) rfl rfl (partC 3 S4.empty 0 0 (.slice lA6 n6 lc6)) (built_kl _ _ _ _) ?_)
   | (refine wpList_build2 rfl 71 0 1 _ _ rfl (.agg (partC 3 S4.empty 0 0 (.slice lA6 n6 lc6)).toArray) (.int .i64 (j:Int)) rfl rfl (gotC (partC 3 S4.empty 0 0 (.slice lA6 n6 lc6)) (j:Int) 0 0) (built_pn (partC_len _ _ _ _ _) _) ?_)
   | (refine wpList_store_bk rfl 71 _ _ rfl rb (gotC (partC 3 S4.empty 0 0 (.slice lA6 n6 lc6)) (j:Int) 0 0) rfl rfl _ _ HZ6.out (by rw [gotC_len (partC_len _ _ _ _ _)];exact rg_size) (by rw [gotC_len (partC_len _ _ _ _ _),List.size_toArray,gotC_len zeroPC_len]) (gotC_one (partC_one _ _ _ _ (by rfl)) _ _ _) ?_;intro wS1 hzS hfS;have HZS1:=zh hzS;have HFS1:=zh hfS;clear hzS hfS))
  refine ret_row_ (p:=6) (T:=71) rfl rb _ _ rfl HZS1.out underlying71 rfl (by rw [gotC_len (partC_len _ _ _ _ _)];exact rg_size) rfl ?_;obtain ⟨hq1,hq2⟩:=HNL6.out.part 3 0 0
  have hrow:joinT ts2 = .mk 3 S4.empty 0 0 ts2:=by
   have:=HNL6.out.rep.len
   match ts2,this with
   | a :: b :: r',_=>rfl
  exact RPost.ok_ (by rw [HE.out,hrow]) (by rw [rset_zero,<-HPN6.out]) ((hq1.fr HFS1.out (by simp)).lower (by have:=HRB.out;omega)) (HF6.out.trans' HFS1.out (by simp;have:=HRB.out;omega))
end Go.Proofs.YtfofechcccodeaaGreatDoor
