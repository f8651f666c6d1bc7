/-
  Small texts in one (RfX). No conditions.
-/
import Derived.Test.YtfofechcccodeaaGreatDoorQbm
import Derived.Test.YtfofechcccodeaaGreatDoorQaz
import Derived.OwnWalk
import Derived.Deep.CutRange
namespace Go.Proofs.YtfofechcccodeaaGreatDoor
open Go.RowKit Go.Proofs.Tryz
set_option linter.unusedVariables false
set_option linter.unusedSimpArgs false
set_option maxRecDepth 100000
set_option maxHeartbeats 16000000
theorem rpParts:∃ i,prog.info? 69=some i/\i.zero=some (.agg zeroPC.toArray)/\i.size=260/\i.bytes=304:=by
 have h1:=rp_zero;have h2:=rp_bytes
 cases hq:prog.info? 69 with
 | none=>simp [hq] at h1
 | some i=>
  simp [hq] at h1 h2;exact ⟨i,rfl,h1.1,h1.2,h2⟩
theorem bracket_code {bs:List UInt8} {i p c:Nat} (h:bracketS bs i = .error (p,c)):0 < c:=by
 have hM:∀ n p c,memberS bs n = .error (p,c)->0 < c:=by
  intro n p c h;unfold memberS at h
  (repeat' split at h) <;> first | (injection h with h;injection h with h1 h2;omega) | cases h
 have hL:∀ (first k nx:Nat) (S0:S4) p c,brkL bs first k nx S0 = .error (p,c)->0 < c:=by
  intro first k
  induction k with
  | zero=>intro nx S0 p c h;cases h
  | succ k ih=>
   intro nx S0 p c h;unfold brkL at h;split at h
   ·cases hm:memberS bs nx with
    | error q=>
     rw [hm] at h
     injection h with h
     subst h;exact hM _ _ _ hm
    | ok q=>rw [hm] at h;exact ih _ _ _ _ h
   cases h
 have hE:∀ neg (r:Except (Nat × Nat) (S4 × Nat)),brkE neg i r = .error (p,c)->r = .error (p,c):=by
  intro neg r h
  cases r with
  | error q=>injection h with h;rw [h]
  | ok q=>cases h
 unfold bracketS at h;split at h
 ·exact hL _ _ _ _ _ _ (hE _ _ h)
 exact hL _ _ _ _ _ _ (hE _ _ h)
theorem signs_code {bs:List UInt8}:∀ (k:Nat) (t:RT) (i p c:Nat),signsL bs k t i = .error (p,c)->0 < c
 | 0,t,i,p,c,h=>by
  unfold signsL at h
  (repeat' split at h) <;> first | (injection h with h;injection h with h1 h2;omega) | cases h
 | k+1,t,i,p,c,h=>by
  unfold signsL at h;split at h
  ·cases h
  split at h
  ·injection h with h;injection h with h1 h2;omega
  exact signs_code k _ _ _ _ h
theorem read_code (bs:List UInt8):∀ f:Nat,
    (∀ d i acc p c,exprF bs f d i acc = .error (p,c)->0 < c)/\(∀ d i acc p c,branchF bs f d i acc = .error (p,c)->0 < c)/\(∀ d i p c,pieceF bs f d i = .error (p,c)->0 < c)/\(∀ d i p c,atomF bs f d i = .error (p,c)->0 < c)
 | 0=>⟨fun _ _ _ _ _ h=>(by simp [exprF] at h;omega),fun _ _ _ _ _ h=>(by simp [branchF] at h;omega),fun _ _ _ _ h=>(by simp [pieceF] at h;omega),fun _ _ _ _ h=>(by simp [atomF] at h;omega)⟩
 | f+1=>by
  obtain ⟨hE,hB,hP,hA⟩:=read_code bs f;refine ⟨fun d i acc p c h=>?_,fun d i acc p c h=>?_,fun d i p c h=>?_,fun d i p c h=>?_⟩
  ·unfold exprF at h
   cases hb:branchF bs f d i [] with
   | error q=>
    rw [hb] at h;injection h with h;subst h;exact hB _ _ _ _ _ hb
   | ok q=>
    rw [hb] at h;simp only at h;split at h
    ·exact hE _ _ _ _ _ h
    cases h
  ·unfold branchF at h;split at h
   ·cases hb:pieceF bs f d i with
    | error q=>
     rw [hb] at h;injection h with h;subst h;exact hP _ _ _ _ hb
    | ok q=>rw [hb] at h;exact hB _ _ _ _ _ h
   cases h
  ·unfold pieceF at h
   cases hb:atomF bs f d i with
   | error q=>
    rw [hb] at h;injection h with h;subst h;exact hA _ _ _ _ hb
   | ok q=>rw [hb] at h;exact signs_code _ _ _ _ _ h
  unfold atomF at h;split at h
  ·split at h
   ·injection h with h;injection h with h1 h2;omega
   cases hb:exprF bs f (d+1) (i+1) [] with
   | error q=>
    rw [hb] at h;injection h with h;subst h;exact hE _ _ _ _ _ hb
   | ok q=>
    rw [hb] at h;simp only [closeT] at h;split at h
    ·cases h
    injection h with h;injection h with h1 h2;omega
  unfold plainS at h;split at h
  ·injection h with h;injection h with h1 h2;omega
  split at h
  ·cases hb:bracketS bs i with
   | error q=>
    rw [hb] at h;injection h with h;subst h;exact bracket_code hb
   | ok q=>rw [hb] at h;cases h
  (repeat' split at h) <;> first | (injection h with h;injection h with h1 h2;omega) | cases h
def RExprOk (f:Nat):Prop:=∀ (w:World) (bs:List UInt8) (i d:Nat),bs.length <= 1000->i <= bs.length->d <= 64->6 * (bs.length - i)+5 <= f ->
 Calls prog 41 #[.string ⟨bs.toArray⟩,.int .i64 (i:Int),.int .i64 (d:Int)] w (RPost w (exprF bs f d i []))
def RBranchOk (f:Nat):Prop:=∀ (w:World) (bs:List UInt8) (i d:Nat),bs.length <= 1000->i <= bs.length->d <= 64->6 * (bs.length - i)+4 <= f ->
 Calls prog 59 #[.string ⟨bs.toArray⟩,.int .i64 (i:Int),.int .i64 (d:Int)] w (RPost w (branchF bs f d i []))
def RPieceOk (f:Nat):Prop:=∀ (w:World) (bs:List UInt8) (i d:Nat),bs.length <= 1000->i < bs.length->d <= 64->6 * (bs.length - i)+3 <= f ->
 Calls prog 76 #[.string ⟨bs.toArray⟩,.int .i64 (i:Int),.int .i64 (d:Int)] w (RPost w (pieceF bs f d i))
def RAtomOk (f:Nat):Prop:=∀ (w:World) (bs:List UInt8) (i d:Nat),bs.length <= 1000->i < bs.length->d <= 64->6 * (bs.length - i)+2 <= f ->
 Calls prog 90 #[.string ⟨bs.toArray⟩,.int .i64 (i:Int),.int .i64 (d:Int)] w (RPost w (atomF bs f d i))
def RLoop (w:World) (bs:List UInt8) (rb:Nat) (i:Nat) (ts:List RT) (ps:List PT) (v7:Value) (wr:World):Prop:=
 i <= bs.length/\ps.length <= i+1/\NewQ (rb+1) wr v7 ts ps/\Bk wr rb 71 (gotC zeroPC 0 0 0).toArray/\Fr [] w wr
theorem NewQ.single {lo:Nat} {w:World} {v:Value} {t:RT} {p:PT} (h:NewQ lo w v [t] [p]):NewR lo w t p:=
 ⟨h.rep.one_,h.mem p (by simp),fun b hb=>h.new b (by simp [blkL];exact hb)⟩
theorem rset_zero (k mn mx:Int) (A:Option Addr) (c:Nat) (ps:List PT):(PT.mk k 0 0 0 0 mn mx A c ps).rcells=partC k S4.empty mn mx (.slice A ps.length c):=by
 unfold PT.rcells PT.rset;rfl
theorem RLoop.more {w wq:World} {rb:Nat} {ts:List RT} {ps:List PT} {v v':Value} {t:RT} {p:PT} {W:World}
    (hq:NewQ (rb+1) wq v ts ps) (hn:NewR (rb+1) wq t p) (hk:∀ b ∈ blkP p,v.ownBlock ≠ some b) (hz:Bk wq rb 71 (gotC zeroPC 0 0 0).toArray) (hf:Fr [] w wq) (hrb:rb=w.heap.size) {wa:World} (hfa:Fr [] wq wa)
    (hown:W.ownsRow (rb+1) 69 260 v' (ps.length+1) (ps.flatMap PT.rcells ++ p.rcells)) (hgr:wa.grownBy W v.ownBlock) (hat:v'.ownBlock=v.ownBlock ∨ v'.ownBlock=some wa.heap.size) :
    NewQ (rb+1) W v' (ts ++ [t]) (ps ++ [p])/\Bk W rb 71 (gotC zeroPC 0 0 0).toArray/\Fr [] w W:=by
 obtain ⟨h1,h2⟩:=NewQ.snoc hq hn hk hfa hown hgr hat
 have hge:∀ b ∈ v.ownBlock.toList,rb+1 <= b:=fun b hb'=>(hq.blk b (by simpa using hb')).1;exact ⟨h1,hz.fr h2 (fun hm=>by have:=hge rb hm;omega),hf.trans' h2 (fun b hb'=>by have:=hge b hb';right;omega)⟩
theorem rbranch_of (f:Nat) (hP:∀ k,k < f->RPieceOk k):RBranchOk f:=by
 intro w bs i d hl hi hd hf;obtain ⟨S,hS⟩:∃ S,S=(⟨bs.toArray⟩:ByteArray):=⟨_,rfl⟩;obtain ⟨L,hL⟩:∃ L,L=bs.length:=⟨_,rfl⟩;have hs1:S.size=L:=by rw [hS,hL];simp [ByteArray.size]
 have HIX:Hid (∀ j:Nat,j < L->∀ W,(Instr.index 9 (.string S) (.int .i64 (j:Int))).run prog W = .ok (.int .u8 (bn bs j:Int)) W):=zh (fun j hj W=>by rw [hS];exact str_at bs j (by omega) W);have HSD:Hid (S=(⟨bs.toArray⟩:ByteArray)):=zh hS;have HL:Hid (L=bs.length):=zh hL;obtain ⟨R,hR⟩:∃ R,R=branchF bs f d i []:=⟨_,rfl⟩;obtain ⟨rb,hrb⟩:∃ rb,rb=w.heap.size:=⟨_,rfl⟩;have HRB:=zh hrb;have HR:=zh hR;rw [<-hS,<-hR];rw [<-hL] at hl hi hf;clear hS hR hL;have HPK:=zh hP;obtain ⟨i0,hi0,hzz,hz1,hz2⟩:=rpParts;clear hP;go_enter func59,ntmps59
 go_wp2_with (first
  | (refine wpList_alloc_bk rfl 71 rfl (gotC zeroPC 0 0 0) 263 rg_zero ?_;intro wA0 hzA hfA;have HZA0:=zh hzA;have HFA0:=zh hfA;clear hzA hfA))
 rw [<-hrb];have HZ0:Hid (Bk wA0 rb 71 (gotC zeroPC 0 0 0).toArray):=zh (by rw [hrb];exact HZA0.out);clear hrb HZA0
 go_loopw [1,7] (fun v1 v7 wr=>∃ (k i:Nat) (ts:List RT) (ps:List PT),v1 = .int .i64 (i:Int)/\k <= f/\6 * (bs.length - i)+4 <= k/\branchF bs k d i ts=R/\RLoop w bs rb i ts ps v7 wr) (fun v1 _ _=>L+1 - (intOf v1).toNat)
 case atStart=>exact ⟨f,i,[],[],rfl,Nat.le_refl _,by have:=HL.out;omega,HR.out.symm,by have:=HL.out;omega,by simp,NewQ.nil _ _,HZ0.out,HFA0.out⟩
 case round=>
  clear HR hf HZ0 HFA0;obtain ⟨k,i2,ts,ps,rfl,hk,hfk,hbr,hi2,hpi,hnl,hz,hfr⟩:=hrel;rw [<-HL.out] at hfk hi2;have HBR:=zh hbr;have HNL:=zh hnl;have HZ:=zh hz;have HF:=zh hfr;obtain ⟨pn,hpn⟩:∃ pn,pn=ps.length:=⟨_,rfl⟩;have hform:=hnl.form;rw [<-hpn] at hform hpi;obtain ⟨lA,lc,rfl⟩:=hform;have HPN:=zh hpn;clear hbr hnl hz hfr hpn;obtain ⟨GO,hGO⟩:∃ GO,GO=decide (goesOn bs i2):=⟨_,rfl⟩;have HGOD:=zh hGO;clear hGO;go_upto_region 2 with fail
  go_cut [24] from 9 to 24 (fun v24 wx=>v24 = .bool GO/\wx=wr)
  case first=>
   by_cases h1:i2 < L
   ·have h1I:(i2:Int) < (L:Int):=by omega
    have ix:=HIX.out i2 h1;obtain ⟨y,hy⟩:∃ y,y=bn bs i2:=⟨_,rfl⟩
    have HGOE:Hid (GO=(decide (y ≠ 124) && decide (y ≠ 41))):=zh (by
     rw [HGOD.out,hy];unfold goesOn;have h5:i2 < bs.length:=by have:=HL.out;omega
     by_cases a:bn bs i2=124 <;> by_cases b:bn bs i2=41 <;> simp [a,b,h5])
    rw [<-hy] at ix;clear hy;by_cases h2:y=124
    ·subst h2;go_wp2_with fail
     go_meet
     case rel=>exact ⟨by rw [HGOE.out];rfl,rfl⟩
    have t2:((y:Int) != 124)=true:=by simp;omega
    have HY2:=zh h2;clear h2;by_cases h3:y=41
    ·subst h3;go_wp2_with fail
     go_meet
     case rel=>exact ⟨by rw [HGOE.out];rfl,rfl⟩
    have t3:((y:Int) != 41)=true:=by simp;omega
    have HY3:=zh h3;clear h3;go_wp2_with fail
    go_meet
    case rel=>exact ⟨by rw [HGOE.out];have:=HY2.out;have:=HY3.out;simp [*],rfl⟩
   have h1I:¬ ((i2:Int) < (L:Int)):=by omega
   have HGOE:Hid (GO=false):=zh (by rw [HGOD.out];exact decide_eq_false (fun h=>by have:=h.1;have:=HL.out;omega));go_wp2_with fail
   go_meet
   case rel=>exact ⟨by rw [HGOE.out],rfl⟩
  case rest=>
   obtain ⟨rfl,rfl⟩:=hcut
   cases GO with
   | true=>
    have HGO:Hid (goesOn bs i2):=zh (of_decide_eq_true HGOD.out.symm);have h1:i2 < L:=by have:=HL.out;have:=HGO.out.1;omega
    obtain ⟨k',hk'⟩:∃ k',k=k'+1:=⟨k - 1,by omega⟩;have hcall:=HPK.out k' (by omega) wc bs i2 d (by have:=HL.out;omega) (by have:=HL.out;omega) hd (by have:=HL.out;omega);rw [<-HSD.out] at hcall;have hbr:=HBR.out;rw [hk',branchF,if_pos HGO.out] at hbr;rcases hX:pieceF bs k' d i2 with ⟨q,code⟩ | ⟨t,j⟩
    ·have hc0:0 < code:=(read_code bs k').2.2.1 _ _ _ _ hX;rw [hX] at hcall hbr;have HR2:Hid (R = .error (q,code)):=zh hbr.symm;have HCL:Hid (Calls prog 76 #[.string S,.int .i64 (i2:Int),.int .i64 (d:Int)] wc fun e w'=>e = .returned (.agg (gotC zeroPC 0 (code:Int) (q:Int)).toArray)/\Fr [] wc w'):=zh hcall;have hcI:((code:Int) != 0)=true:=by simp;omega
     clear hcall hbr hX HBR
     go_wp2_with (first
      | (go_at_call 76;refine HCL.out.mono ?_;rintro e w2 ⟨rfl,hf2⟩;have HF2:=zh (HF.out.trans hf2);have HZ2:=zh (HZ.out.fr hf2 (by simp));clear hf2)
      | (refine wpList_alloc_bk rfl 71 rfl (gotC zeroPC 0 0 0) 263 rg_zero ?_;intro wA1 hzA hfA;have HZA1:=zh hzA;have HFA1:=zh hfA;have HZ3:=zh (HZ2.out.fr hfA (by simp));clear hzA hfA)
      | (refine wpList_store_bk rfl 71 _ _ rfl w2.heap.size (gotC zeroPC 0 (code:Int) (q:Int)) rfl rfl _ _ HZA1.out (by rw [gotC_len zeroPC_len];exact rg_size) (by rw [gotC_len zeroPC_len,List.size_toArray,gotC_len zeroPC_len]) (gotC_one zeroPC_one _ _ _) ?_;intro wS1 hzS hfS;have HZS1:=zh hzS;have HFS1:=zh hfS;have HZ4:=zh (HZ3.out.fr hfS (by simp;have:=HZ2.out.lt;omega));have c261:=hzS.cellL (gotC_e zeroPC_len 0 (code:Int) (q:Int));clear hzS hfS)
      | (refine wpList_load_bk rfl 71 _ rfl w2.heap.size 0 rfl (gotC zeroPC 0 (code:Int) (q:Int)) _ _ _ HZS1.out (by intro j u hj;simpa using hj) underlying71 rfl (by rw [gotC_len zeroPC_len];exact rg_size) ?_)
      | (refine wpList_store_bk rfl 71 _ _ rfl rb (gotC zeroPC 0 (code:Int) (q:Int)) rfl rfl _ _ HZ4.out (by rw [gotC_len zeroPC_len];exact rg_size) (by rw [gotC_len zeroPC_len,List.size_toArray,gotC_len zeroPC_len]) (gotC_one zeroPC_one _ _ _) ?_;intro wS2 hzS hfS;have HZS2:=zh hzS;have HFS2:=zh hfS;clear hzS hfS))
     refine ret_row_ (p:=6) (T:=71) rfl rb _ _ rfl HZS2.out underlying71 rfl (by rw [gotC_len zeroPC_len];exact rg_size) rfl ?_;exact RPost.err HR2.out rfl (((HF2.out.trans HFA1.out).trans' HFS1.out (by simp;have:=HF2.out.size;omega)).trans' HFS2.out (by simp;have:=HRB.out;omega))
    ·have hjj:=(readF_le bs k').2.2.1 d i2 t j (by have:=HL.out;omega) hX;rw [hX] at hcall hbr;have HCL:Hid (Calls prog 76 #[.string S,.int .i64 (i2:Int),.int .i64 (d:Int)] wc (RPost wc (.ok (t,j)))):=zh hcall;have HBR2:=zh hbr;have HX:=zh hX;have HKK:=zh hk';clear hcall hbr hX HBR hk'
     go_wp2_with (first
      | (go_at_call 76;refine HCL.out.mono ?_;rintro e w2 ⟨p,rfl,hn,hf2⟩;have HF2:=zh (HF.out.trans hf2);have HZ2:=zh (HZ.out.fr hf2 (by simp));have HNL2:=zh (HNL.out.fr_nil hf2);have HN2:=zh hn;have HBK:Hid (∀ b ∈ blkP p,(Value.slice lA pn lc).ownBlock ≠ some b):=zh (fun b hb e=>by have h1:=(HNL.out.blk b e).2;have h2:=(hn.new b hb).1;omega);have HLO:Hid (rb+1 <= wc.heap.size):=zh HZ.out.lt;clear hf2 hn)
      | (refine wpList_alloc_bk rfl 71 rfl (gotC zeroPC 0 0 0) 263 rg_zero ?_;intro wA1 hzA hfA;have HZA1:=zh hzA;have HFA1:=zh hfA;clear hzA hfA)
      | (refine wpList_store_bk rfl 71 _ _ rfl w2.heap.size (gotC p.rcells (j:Int) 0 0) rfl rfl _ _ HZA1.out (by rw [gotC_len (rcells_len p)];exact rg_size) (by rw [gotC_len (rcells_len p),List.size_toArray,gotC_len zeroPC_len]) (gotC_one (rcells_one p) _ _ _) ?_;intro wS1 hzS hfS;have HZS1:=zh hzS;have HFS1:Hid (Fr [] w2 wS1):=zh (HFA1.out.trans' hfS (by simp));have c261:=hzS.cellL (gotC_e (rcells_len p) (j:Int) 0 0);clear hzS hfS)
      | (refine wpList_load_bk rfl 69 _ rfl w2.heap.size 0 rfl (p.rcells) _ _ _ HZS1.out (by intro j u hj;rw [Nat.zero_add,List.getElem?_toArray];exact gotC_p _ _ _ hj) underlying69 rfl (by rw [rcells_len];exact rp_size) ?_)
      | (refine wpList_slice1 rfl 67 69 _ rfl p.rcells rfl (.agg zeroPC.toArray) underlying67 (by rw [rcells_len];exact rp_zero) (by rw [rcells_len];omega) (by rw [rcells_len];omega) ?_;intro wB hzB hfB;have HZB:=zh hzB;have HFB:Hid (Fr [] w2 wB):=zh (HFS1.out.trans hfB);have HOWN:Hid (wB.ownsRow (rb+1) 69 260 (.slice lA pn lc) pn (ps.flatMap PT.rcells)):=zh (by have:=own_frv HNL2.out.own HFB.out (by simp);rw [<-HPN.out] at this;exact this);have HZG:=zh (HZS1.out.fr hfB (by simp));clear hzB hfB)
      | (at_builtin;refine wpList_append_R rfl (.tmp 33) (.tmp 36) 67 rfl (rb+1) 69 i0 _ 260 304 underlying67 hi0 hzz hz1 hz2 (by simp [Value.cells,zeroPC_len]) (by omega) (.slice lA pn lc) pn (ps.flatMap PT.rcells) rfl HOWN.out ⟨wS1.heap.size,0,none⟩ 1 1 p.rcells rfl (by rw [rcells_len]) (by intro j u hj;rw [addr_add,Nat.zero_add];exact HZB.out.cellL hj) (rcells_one _) (by rw [show maxLen=9223372036854775807 by rfl];omega) (by omega) (by have:=HZ2.out.lt;have:=HFB.out.size;omega) ?_;intro v6 w6 hown6 hgr6 hat6;have HO6:=zh hown6;have HG6:=zh hgr6;have HT6:=zh hat6;have HMR:=zh (RLoop.more HNL2.out (HN2.out.lower HLO.out) HBK.out HZ2.out HF2.out HRB.out HFB.out (by rw [<-HPN.out];exact hown6) hgr6 hat6);have c260:w6.cell? ⟨w2.heap.size,260,none⟩=some (.int .i64 (j:Int)):=(HZG.out.fr ((Fr.refl [] wB).nil_.grown hgr6 (fun g hg => .inl (by rw [hg];simp)):Fr (Value.slice lA pn lc).ownBlock.toList wB w6) (fun hm=>by have:=(HNL2.out.blk _ (by simpa using hm)).2;omega)).cellL (gotC_n (rcells_len p) (j:Int) 0 0);clear hown6 hgr6 hat6))
     go_roundw
     case rel=>exact ⟨k',j,ts ++ [t],ps ++ [p],rfl,by have:=HKK.out;omega,by have:=HKK.out;have:=HL.out;omega,HBR2.out,by have:=HL.out;omega,by simp;have:=HPN.out;omega,HMR.out⟩
     case measure=>simp [intOf] <;> omega
    | false=>
     have HGO:Hid (¬ goesOn bs i2):=zh (of_decide_eq_false HGOD.out.symm);have HE:Hid (R = .ok (rowT ts,i2)):=zh (goesOn_no HGO.out (by omega) HBR.out);rcases ps with _ | ⟨p,_ | ⟨q,r⟩⟩
     ·obtain rfl:pn=0:=HPN.out
      go_wp2_with (first
       | (refine wpList_build1 rfl 71 1 _ rfl (.int .i64 (i2:Int)) rfl (gotC zeroPC (i2:Int) 0 0) (built_n _) ?_)
       | (refine wpList_store_bk rfl 71 _ _ rfl rb (gotC zeroPC (i2:Int) 0 0) rfl rfl _ _ HZ.out (by rw [gotC_len zeroPC_len];exact rg_size) (by rw [gotC_len zeroPC_len,List.size_toArray,gotC_len zeroPC_len]) (gotC_one zeroPC_one _ _ _) ?_;intro wS1 hzS hfS;have HZS1:=zh hzS;have HFS1:=zh hfS;clear hzS hfS))
      refine ret_row_ (p:=6) (T:=71) rfl rb _ _ rfl HZS1.out underlying71 rfl (by rw [gotC_len zeroPC_len];exact rg_size) rfl ?_;have e:ts=[]:=List.eq_nil_of_length_eq_zero (by simpa using HNL.out.rep.len);exact RPost.ok_ (p:=rleafP 0 S4.empty) (by rw [HE.out,e];rfl) (by rw [rleafP_cells];rfl) (rleafP_new _ _ _ _) (HF.out.trans' HFS1.out (by simp;have:=HRB.out;omega))
     ·obtain rfl:pn=1:=HPN.out;have ho:=HNL.out.own;have hxs:[p].flatMap PT.rcells=p.rcells:=by simp
      rw [hxs] at ho;obtain ⟨lb,rfl,hlb,-, hcl⟩:=own_cells ho (by intro e;have:=rcells_len p;rw [e] at this;simp at this);have HCL:=zh hcl;clear hcl ho hxs
      go_wp2_with (first
       | (refine wpList_load_mid rfl 69 _ rfl lb 0 rfl p.rcells _ (fun j v hv=>by have:=HCL.out j v hv;simpa using this) underlying69 rfl (by rw [rcells_len];exact rp_size) ?_)
       | (refine wpList_build2 rfl 71 0 1 _ _ rfl (.agg p.rcells.toArray) (.int .i64 (i2:Int)) rfl rfl (gotC p.rcells (i2:Int) 0 0) (built_pn (rcells_len p) _) ?_)
       | (refine wpList_store_bk rfl 71 _ _ rfl rb (gotC p.rcells (i2:Int) 0 0) rfl rfl _ _ HZ.out (by rw [gotC_len (rcells_len p)];exact rg_size) (by rw [gotC_len (rcells_len p),List.size_toArray,gotC_len zeroPC_len]) (gotC_one (rcells_one p) _ _ _) ?_;intro wS1 hzS hfS;have HZS1:=zh hzS;have HFS1:=zh hfS;clear hzS hfS))
      refine ret_row_ (p:=6) (T:=71) rfl rb _ _ rfl HZS1.out underlying71 rfl (by rw [gotC_len (rcells_len p)];exact rg_size) rfl ?_;obtain ⟨t,rfl⟩:∃ t,ts=[t]:=List.length_eq_one_iff.1 (by simpa using HNL.out.rep.len);exact RPost.ok_ HE.out rfl ((HNL.out.single.fr HFS1.out (by simp)).lower (by have:=HRB.out;omega)) (HF.out.trans' HFS1.out (by simp;have:=HRB.out;omega))
     have hp0:((pn:Int) == 0)=false:=by have:=HPN.out;simp at this ⊢; omega
     have hp1:((pn:Int) == 1)=false:=by have:=HPN.out;simp at this ⊢; omega
     go_wp2_with (first
      | (refine wpList_build2 rfl 69 0 4 _ _ rfl (.int .i64 2) (.slice lA pn lc) rfl rfl (partC 2 S4.empty 0 0 (.slice lA pn lc)) (built_kl _ _ _ _) ?_)
      | (refine wpList_build2 rfl 71 0 1 _ _ rfl (.agg (partC 2 S4.empty 0 0 (.slice lA pn lc)).toArray) (.int .i64 (i2:Int)) rfl rfl (gotC (partC 2 S4.empty 0 0 (.slice lA pn lc)) (i2:Int) 0 0) (built_pn (partC_len _ _ _ _ _) _) ?_)
      | (refine wpList_store_bk rfl 71 _ _ rfl rb (gotC (partC 2 S4.empty 0 0 (.slice lA pn lc)) (i2:Int) 0 0) rfl rfl _ _ HZ.out (by rw [gotC_len (partC_len _ _ _ _ _)];exact rg_size) (by rw [gotC_len (partC_len _ _ _ _ _),List.size_toArray,gotC_len zeroPC_len]) (gotC_one (partC_one _ _ _ _ (by rfl)) _ _ _) ?_;intro wS1 hzS hfS;have HZS1:=zh hzS;have HFS1:=zh hfS;clear hzS hfS))
     refine ret_row_ (p:=6) (T:=71) rfl rb _ _ rfl HZS1.out underlying71 rfl (by rw [gotC_len (partC_len _ _ _ _ _)];exact rg_size) rfl ?_;obtain ⟨hq1,hq2⟩:=HNL.out.part 2 0 0
     have hrow:rowT ts = .mk 2 S4.empty 0 0 ts:=by
      have:=HNL.out.rep.len
      match ts,this with
      | a :: b :: r',_=>rfl
     exact RPost.ok_ (by rw [HE.out,hrow]) (by rw [rset_zero,<-HPN.out]) ((hq1.fr HFS1.out (by simp)).lower (by have:=HRB.out;omega)) (HF.out.trans' HFS1.out (by simp;have:=HRB.out;omega))
end Go.Proofs.YtfofechcccodeaaGreatDoor
