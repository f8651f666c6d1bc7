/-
  Small texts in one (RfC). No conditions.
-/
import Derived.Test.YtfofechcccodeaaGreatDoorQbm
import Derived.Test.YtfofechcccodeaaGreatDoorQbo
import Derived.Test.YtfofechcccodeaaGreatDoorQat
import Derived.LoopTactic
import Derived.Deep.CutRange
namespace Go.Proofs.YtfofechcccodeaaGreatDoor
open Go.RowKit Go.Proofs.Tryz
set_option linter.unusedVariables false
set_option linter.unusedSimpArgs false
set_option maxRecDepth 100000
set_option maxHeartbeats 16000000
def BPost (w:World) (r:Except (Nat × Nat) (S4 × Nat)) (e:Ending) (w':World):Prop:=match r with
 | .ok (S,n)=>e = .returned (.agg (brgC S (n:Int) 0 0).toArray)/\Fr [] w w'
 | .error (p,c)=>e = .returned (.agg (brgC S4.empty 0 (c:Int) (p:Int)).toArray)/\Fr [] w w'
theorem BPost.err {w w':World} {r:Except (Nat × Nat) (S4 × Nat)} {e:Ending} {p c:Nat} (hr:r = .error (p,c)) (he:e = .returned (.agg (brgC S4.empty 0 (c:Int) (p:Int)).toArray)) (hf:Fr [] w w'):BPost w r e w':=by
 subst hr;exact ⟨he,hf⟩
theorem BPost.ok_ {w w':World} {r:Except (Nat × Nat) (S4 × Nat)} {e:Ending} {S:S4} {n:Nat} (hr:r = .ok (S,n)) (he:e = .returned (.agg (brgC S (n:Int) 0 0).toArray)) (hf:Fr [] w w'):BPost w r e w':=by
 subst hr;exact ⟨he,hf⟩
theorem in_some0 (l:List UInt8) (R:S4) (h:classS l=some R) (w:World):Calls prog 121 #[.string ⟨l.toArray⟩,.int .i64 0] w fun e w'=>e = .returned (.tuple #[.bool (R.mem 0),.bool true])/\w=w':=by
 have e:(0:Int)=((0:Nat):Int):=rfl;rw [e];exact in_some l R h 0 (by omega) w
def RBrk (w:World) (bs:List UInt8) (fs:Nat) (r:Except (Nat × Nat) (S4 × Nat)) (rb sb:Nat) (v6 v8:Value) (wr:World):Prop:=
 ∃ (n k:Nat) (S:S4) (fb:Bool),v6 = .int .i64 (n:Int)/\v8 = .bool fb/\fb=decide (n=fs)/\fs <= n/\n <= bs.length/\bs.length < n+k/\S.ok/\brkL bs fs k n S=r/\Bk wr rb 208 (brgC S4.empty 0 0 0).toArray/\Bk wr sb 66 (bitsV S).toArray/\Fr [] w wr
theorem brk_len {bs:List UInt8} {n:Nat} (h:opensS bs n=true):n+2 <= bs.length:=by unfold opensS at h;simp at h;omega
theorem isS_past {bs t:List UInt8} {i:Nat} (h:bs.length < i+t.length):isS bs i t=false:=by
 unfold isS;have:decide (i+t.length <= bs.length)=false:=by simp;omega
 rw [this];rfl
theorem bits_range (S:S4) (f t:Nat) (hf:f < 256) (ht:t < 256):bitsF (fun x=>S.mem x || (decide (f <= x) && decide (x < t+1)))=bitsV (S.or (S4.range f t)):=by
 rw [<-bitsF_mem];refine bitsF_ext fun c hc=>?_;rw [S4.mem_or,S4.mem_range f t c hf ht hc]
 congr 1
 rw [Bool.eq_iff_iff];simp;omega
theorem bits_or (S R:S4):bitsF (fun x=>if x < 256 then (S.mem x || R.mem x) else S.mem x)=bitsV (S.or R):=by
 rw [<-bitsF_mem];refine bitsF_ext fun c hc=>?_;rw [if_pos hc,S4.mem_or]
theorem bits_not {S:S4} (h:S.ok):bitsF (fun x=>if x < 256 then !S.mem x else S.mem x)=bitsV S.not:=by
 rw [<-bitsF_mem];refine bitsF_ext fun c hc=>?_;rw [if_pos hc,S4.mem_not h]
theorem rbracket_any (bs:List UInt8) (i:Nat) (hl:bs.length <= 1000000) (hi:i < bs.length) (h91:bn bs i=91) (w:World):Calls prog 104 #[.string ⟨bs.toArray⟩,.int .i64 (i:Int)] w (BPost w (bracketS bs i)):=by
 obtain ⟨S,hS⟩:∃ S,S=(⟨bs.toArray⟩:ByteArray):=⟨_,rfl⟩;obtain ⟨L,hL⟩:∃ L,L=bs.length:=⟨_,rfl⟩;have hs1:S.size=L:=by rw [hS,hL];simp [ByteArray.size]
 have hix:∀ W,(Instr.index 9 (.string S) (.int .i64 (i:Int))).run prog W = .ok (.int .u8 91) W:=fun W=>by have:=str_at bs i hi W;rw [h91] at this;rw [hS];exact this
 have HIS:Hid (∀ (z:Int) (k:Nat) (t:List UInt8) (b:Bool),z=(k:Int)->k <= 1000000000->t.length <= 1000->isS bs k t=b->∀ W,Calls prog 120 #[.string S,.int .i64 z,.string ⟨t.toArray⟩] W fun e w'=>e = .returned (.bool b)/\W=w'):=zh (fun z k t b hz hk ht hb W=>by
  subst hz hb;rw [hS];exact is_any bs t k (by omega) hk ht W)
 have HISG:Hid (∀ (z:Int) (k:Nat) (t:List UInt8),z=(k:Int)->k <= 1000000000->t.length <= 1000->∀ W,Calls prog 120 #[.string S,.int .i64 z,.string ⟨t.toArray⟩] W fun e w'=>e = .returned (.bool (isS bs k t))/\W=w'):=zh (fun z k t hz hk ht W=>by
  subst hz;rw [hS];exact is_any bs t k (by omega) hk ht W)
 have HON:Hid (∀ (z:Int) (k:Nat) (x m:Nat),z=(k:Int)->k <= 1000000000->oneS bs k=(x,m)->∀ W,Calls prog 122 #[.string S,.int .i64 z] W fun e w'=>e = .returned (.tuple #[.int .u8 (x:Int),.int .i64 (m:Int)])/\W=w'):=zh (fun z k x m hz hk hb W=>by
  subst hz;have:=rone_any bs k (by omega) hk W;rw [hb] at this;rw [hS];exact this)
 have HSD:Hid (S=(⟨bs.toArray⟩:ByteArray)):=zh hS;obtain ⟨nt,hnt⟩:∃ nt,nt=isS bs (i+1) [94]:=⟨_,rfl⟩;obtain ⟨fs,hfs⟩:∃ fs,fs=if nt=true then i+2 else i+1:=⟨_,rfl⟩;obtain ⟨r,hr⟩:∃ r,r=brkL bs fs (L+1) fs S4.empty:=⟨_,rfl⟩
 have HR:Hid (bracketS bs i=brkE nt i r):=zh (by
  rw [hr,hfs,hL];unfold bracketS;rw [isS_one bs (i+1) 94 (by decide)] at hnt;by_cases h:i+1 < bs.length/\bn bs (i+1)=94
  ·have:nt=true:=by rw [hnt];simpa using h.2
   rw [if_pos h,this];rfl
  have:nt=false:=by
   rw [hnt];have h2:¬ bn bs (i+1)=94:=fun e=>h ⟨by have:=bn_pos e (by omega);omega,e⟩
   simpa using h2
  rw [if_neg h,this];rfl)
 have hfsb:i+1 <= fs/\fs <= L:=by
  rw [hfs,hL]
  cases nt with
  | false=>simp;omega
  | true=>
   rw [isS_one bs (i+1) 94 (by decide)] at hnt;have:=bn_pos (of_decide_eq_true hnt.symm) (by decide);simp;omega
 have HBR:=zh hr;have HNT:=zh hnt;have HFS:=zh hfs;have HL:=zh hL;have HLI:Hid (i < L):=zh (by omega);have hiI:(i:Int) < (L:Int):=by omega
 rw [<-hS,HR.out];clear hr hnt hfs hS;rw [<-hL] at hi hl;clear hL;go_enter func104,ntmps104
 go_upto_if 44 with (first
  | (refine wpList_alloc_bk rfl 208 rfl (brgC S4.empty 0 0 0) 259 rb_zero ?_;intro w1 hz hf1;have HZ1:=zh hz;have HF1:=zh hf1;clear hz hf1)
  | (refine wpList_alloc_bk rfl 66 rfl (bitsV S4.empty) 256 rs_zero ?_;intro w2 hz hf2;have HZ2:=zh hz;have HF2:=zh hf2;clear hz hf2)
  | (go_at_call 120;refine (HIS.out _ (i+1) [94] nt (by first | rfl | omega | simp) (by have:=HLI.out;omega) (by simp) HNT.out.symm _).mono ?_;rintro e w3 ⟨rfl,rfl⟩))
 obtain ⟨rb,hrb⟩:∃ rb,rb=w.heap.size:=⟨_,rfl⟩;obtain ⟨sb,hsb⟩:∃ sb,sb=w1.heap.size:=⟨_,rfl⟩;rw [<-hrb,<-hsb];have HB10:Hid (Bk w2 rb 208 (brgC S4.empty 0 0 0).toArray):=zh (by rw [hrb];exact HZ1.out.fr HF2.out (by simp));have HB20:Hid (Bk w2 sb 66 (bitsV S4.empty).toArray):=zh (by rw [hsb];exact HZ2.out);have HF0:Hid (Fr [] w w2):=zh (HF1.out.trans HF2.out);have hrs:rb < sb:=by rw [hrb,hsb];exact HZ1.out.lt
 have HRBE:=zh hrb;have HSBE:Hid (w.heap.size <= sb):=zh (by omega);clear hrb hsb HZ1 HF1 HZ2 HF2
 go_cut [6] from 24 to 46 (fun v6 wx=>v6 = .int .i64 (fs:Int)/\wx=w2)
 case first=>
  cases nt with
  | true=>
   have hfI:(i:Int)+1+1=(fs:Int):=by have:=HFS.out;simp at this;omega
   go_wp2_with fail
   go_meet
   case rel=>exact ⟨by first | rfl | rw [hfI] | (congr 1;omega),rfl⟩
  | false=>
   have hfI:(i:Int)+1=(fs:Int):=by have:=HFS.out;simp at this;omega
   go_wp2_with fail
   go_meet
   case rel=>exact ⟨by first | rfl | rw [hfI] | (congr 1;omega),rfl⟩
 case rest=>
  obtain ⟨rfl,rfl⟩:=hcut;go_wp2_with fail
  go_loopw [6,8] (fun v6 v8 wr=>RBrk w bs fs r rb sb v6 v8 wr) (fun v6 _ _=>L+1 - (intOf v6).toNat)
  case atStart=>exact ⟨fs,L+1,S4.empty,true,rfl,rfl,by simp,Nat.le_refl _,by have:=HL.out;omega,by have:=HL.out;omega,S4.empty_ok,HBR.out.symm,HB10.out,HB20.out,HF0.out⟩
  case round=>
   obtain ⟨n,k,Sx,fb,rfl,rfl,hfb,hfn,hnL,hkn,hok,hbr,hb1,hb2,hf⟩:=hrel;rw [<-HL.out] at hnL hkn;have HFB:=zh hfb;have HBRN:=zh hbr;have HB1:=zh hb1;have HB2:=zh hb2;have HF:=zh hf;have HOK:=zh hok;clear HB10 HB20 HF0 hfb hbr hb1 hb2 hf hok;obtain ⟨GO,hGO⟩:∃ GO,GO=(fb || !isS bs n [93]):=⟨_,rfl⟩;have HGO:=zh hGO;clear hGO;go_upto_region 9 with fail
   go_cut [53] from 47 to 53 (fun v53 wx=>v53 = .bool GO/\wx=wr)
   case first=>
    cases fb with
    | true=>
     go_wp2_with fail
     go_meet
     case rel=>exact ⟨by rw [HGO.out];rfl,rfl⟩
    | false=>
     obtain ⟨q,hq⟩:∃ q,q=isS bs n [93]:=⟨_,rfl⟩;have HQ:=zh hq;clear hq;go_wp2_with (go_at_call 120;refine (HIS.out _ n [93] q rfl (by omega) (by simp) HQ.out.symm _).mono ?_;rintro e w2 ⟨rfl,rfl⟩)
     go_meet
     case rel=>exact ⟨by rw [HGO.out,<-HQ.out];rfl,rfl⟩
   case rest=>
    obtain ⟨rfl,rfl⟩:=hcut
    cases GO with
    | false=>
     have HEX:Hid (r = .ok (Sx,n)):=zh (by
      have h1:=HGO.out;have h2:=HFB.out;rw [isS_one bs n 93 (by decide)] at h1;rw [<-HBRN.out,brk_stop];simp at h1;rw [h1.1] at h2;have h3:¬ n=fs:=of_decide_eq_false h2.symm;have h4:=h1.2;have:=bn_pos h4 (by decide)
      omega)
     clear HBRN HGO HFB
     cases nt with
     | false=>
      have HNI:Hid ((n:Int)+1 - (i:Int)=((n+1 - i:Nat):Int)):=zh (by omega)
      go_wp2_with (first
       | (refine wpList_load_bk rfl 66 _ rfl sb 0 rfl (bitsV Sx) _ _ _ HB2.out (by intro j u hj;simpa using hj) underlying66 rfl (by rw [bitsV_len];exact rs_size) ?_)
       | (refine wpList_build2 rfl 208 0 1 _ _ rfl (.agg (bitsV Sx).toArray) (.int .i64 ((n:Int)+1 - (i:Int))) rfl rfl (brgC Sx ((n:Int)+1 - (i:Int)) 0 0) (bbuilt_sn _ _) ?_)
       | (refine wpList_store_bk rfl 208 _ _ rfl rb (brgC Sx ((n:Int)+1 - (i:Int)) 0 0) rfl rfl _ _ HB1.out (by rw [brgC_len];exact rb_size) (by rw [brgC_len,List.size_toArray,brgC_len]) (brgC_one _ _ _ _) ?_;intro w9 hb9 hf9;have HB9:=zh hb9;have HF9:=zh hf9;clear hb9 hf9))
      refine ret_row_ (p:=4) (T:=208) rfl rb _ _ rfl HB9.out underlying208 rfl (by rw [brgC_len];exact rb_size) rfl ?_;exact BPost.ok_ (S:=Sx) (n:=n+1 - i) (by first | exact (by rw [HEX.out];rfl)) (by first | rfl | (rw [HNI.out];done)) (HF.out.trans' HF9.out (by simp;have:=HRBE.out;omega))
     | true=>
      go_wp2_with fail
      go_loopw [23] (fun v23 wx=>∃ c:Nat,v23 = .int .i64 (c:Int)/\c <= 256/\Bk wx rb 208 (brgC S4.empty 0 0 0).toArray/\Bk wx sb 66 (bitsF fun x=>if x < c then !Sx.mem x else Sx.mem x).toArray/\Fr [] w wx) (fun v23 _=>257 - (intOf v23).toNat)
      case atStart=>exact ⟨0,rfl,by omega,HB1.out,by have:=HB2.out;rw [<-bitsF_mem] at this;rw [bitsF_ext (g:=Sx.mem) (by simp)];exact this,HF.out⟩
      case round=>
       obtain ⟨c,rfl,hc,h1,h2,h3⟩:=hrel;by_cases hlt:c < 256
       ·have hltI:(c:Int) < 256:=by omega
        obtain ⟨b1,hb1⟩:∃ b1,b1=Sx.mem c:=⟨_,rfl⟩;have hcell:=h2.cell_ (i:=c) (v := .bool b1) (by have:=bitsF_get (fun x=>if x < c then !Sx.mem x else Sx.mem x) hlt;rw [hb1];simpa using this);have hfz:=h2.frozen c;have HB1C:=zh hb1;have H1:=zh h1;have H2:=zh h2;have H3:=zh h3;clear hb1 h1 h2 h3 HB1 HB2 HF;go_wp2_with fail
        go_roundw
        case rel=>
         have hs:Fr [sb] wr (wr.setCell ⟨sb,c,none⟩ (.bool (!b1))):=(Fr.refl _ _).setCell (.inl (by simp)) _;refine ⟨c+1,by go_num,by omega,H1.out.fr hs (by simp;omega),?_,H3.out.trans' hs (by simp;have:=HSBE.out;omega)⟩;have:=H2.out.put c (.bool (!b1));rw [bitsF_put _ hlt] at this
         rw [bitsF_ext (g:=fun x=>if x < c+1 then !Sx.mem x else Sx.mem x) (by
          intro x hx;by_cases h:x=c
          ·subst h;simp [HB1C.out]
          by_cases h2:x < c
          ·simp [h,h2,show x < c+1 by omega]
          simp [h,h2,show ¬ x < c+1 by omega])] at this
         exact this
        case measure=>simp [intOf] <;> omega
       obtain rfl:c=256:=by omega
       have HB1:=zh h1;have HF:=zh h3;have HB2:Hid (Bk wr sb 66 (bitsV Sx.not).toArray):=zh (by rw [<-bits_not HOK.out];exact h2);clear h1 h2 h3;have HNI:Hid ((n:Int)+1 - (i:Int)=((n+1 - i:Nat):Int)):=zh (by omega)
       go_wp2_with (first
        | (refine wpList_load_bk rfl 66 _ rfl sb 0 rfl (bitsV Sx.not) _ _ _ HB2.out (by intro j u hj;simpa using hj) underlying66 rfl (by rw [bitsV_len];exact rs_size) ?_)
        | (refine wpList_build2 rfl 208 0 1 _ _ rfl (.agg (bitsV Sx.not).toArray) (.int .i64 ((n:Int)+1 - (i:Int))) rfl rfl (brgC Sx.not ((n:Int)+1 - (i:Int)) 0 0) (bbuilt_sn _ _) ?_)
        | (refine wpList_store_bk rfl 208 _ _ rfl rb (brgC Sx.not ((n:Int)+1 - (i:Int)) 0 0) rfl rfl _ _ HB1.out (by rw [brgC_len];exact rb_size) (by rw [brgC_len,List.size_toArray,brgC_len]) (brgC_one _ _ _ _) ?_;intro w9 hb9 hf9;have HB9:=zh hb9;have HF9:=zh hf9;clear hb9 hf9))
       refine ret_row_ (p:=4) (T:=208) rfl rb _ _ rfl HB9.out underlying208 rfl (by rw [brgC_len];exact rb_size) rfl ?_;exact BPost.ok_ (S:=Sx.not) (n:=n+1 - i) (by first | exact (by rw [HEX.out];rfl)) (by first | rfl | (rw [HNI.out];done)) (HF.out.trans' HF9.out (by simp;have:=HRBE.out;omega))
    | true=>
     have HGT:Hid (n=fs ∨ bs.length <= n ∨ bn bs n ≠ 93):=zh (by
      have h1:=HGO.out;have h2:=HFB.out;rw [isS_one bs n 93 (by decide)] at h1;rw [h2] at h1;simp at h1
      omega)
     have HBG:Hid (r=match memberS bs n with
         | .error p => .error p
         | .ok (m,j)=>brkL bs fs (k - 1) j (Sx.or m)):=zh (by rw [<-HBRN.out];exact brk_go HGT.out (by omega))
     clear HGO HFB;obtain ⟨op,hop⟩:∃ op,op=opensS bs n:=⟨_,rfl⟩;have HOP:=zh hop;clear hop
     cases op with
     | true=>
      have h2L:n+2 <= L:=by have:=brk_len HOP.out.symm;have:=HL.out;omega
      go_wp2_with (go_at_call 120;refine (HIS.out _ n [91,58] true rfl (by omega) (by simp) (by rw [isS_opens];exact HOP.out.symm) _).mono ?_;rintro e w2 ⟨rfl,rfl⟩)
      go_loopw [9] (fun v9 wx=>∃ e:Nat,v9 = .int .i64 (e:Int)/\n+2 <= e/\e <= L/\(∀ j,n+2 <= j->j < e->isS bs j [58,93]=false)/\wx=wc) (fun v9 _=>L+1 - (intOf v9).toNat)
      case atStart=>exact ⟨n+2,by go_num,by omega,h2L,by omega,rfl⟩
      case round=>
       obtain ⟨e,rfl,he2,heL,hno,rfl⟩:=hrel;have HNO:=zh hno;clear hno;by_cases hlt:e < L
       ·have hltI:(e:Int) < (L:Int):=by omega
        have heI:(n:Int)+2 <= (e:Int):=by omega
        obtain ⟨q,hq⟩:∃ q,q=isS bs e [58,93]:=⟨_,rfl⟩;have HQ:=zh hq;clear hq
        cases q with
        | false=>
         go_wp2_with (go_at_call 120;refine (HIS.out _ e [58,93] false rfl (by omega) (by simp) HQ.out.symm _).mono ?_;rintro e w2 ⟨rfl,rfl⟩)
         go_roundw
         case rel=>exact ⟨e+1,by go_num,by omega,by omega,fun j h1 h2=>by
          by_cases h:j < e
          ·exact HNO.out j h1 h
          obtain rfl:j=e:=by omega
          exact HQ.out.symm,by first | rfl | trivial⟩
         case measure=>simp [intOf] <;> omega
        | true=>
         obtain ⟨nm,hnm⟩:∃ nm,nm=(bs.drop (n+2)).take (e - (n+2)):=⟨_,rfl⟩
         have HME:Hid (memberS bs n=match classS nm with
          | none => .error (n,8)
          | some R => .ok (R,e+2)):=zh (by rw [hnm];exact mem_open_at HOP.out.symm he2 (by have:=HL.out;omega) HQ.out.symm HNO.out)
         have HNM:=zh hnm;have HXN:Hid (S.extract (n+2) e=(⟨nm.toArray⟩:ByteArray)):=zh (by rw [HSD.out,ba_extract,hnm]);rcases hcl:classS nm with _ | R
         ·have HIN:Hid (∀ X:ByteArray,X=⟨nm.toArray⟩->∀ W,Calls prog 121 #[.string X,.int .i64 0] W fun e w'=>e = .returned (.tuple #[.bool false,.bool false])/\W=w'):=zh (fun X hX W=>by subst hX;exact in_none nm hcl W);have HER:Hid (brkE nt i r = .error (n,8)):=zh (by rw [HBG.out,HME.out,hcl];rfl);clear hcl hnm HBG HME HBRN
          go_upto_region 18 with (first
           | (go_at_call 120;refine (HIS.out _ e [58,93] true rfl (by omega) (by simp) HQ.out.symm _).mono ?_;rintro e w2 ⟨rfl,rfl⟩))
          go_upto_region 20 with (first
           | (go_at_call 121;refine (HIN.out _ HXN.out _).mono ?_;rintro e w2 ⟨rfl,rfl⟩))
          go_wp2_with (first
           | (refine wpList_build2 rfl 208 2 3 _ _ rfl (.int .i64 8) (.int .i64 (n:Int)) rfl rfl (brgC S4.empty 0 8 (n:Int)) (bbuilt_eq 8 (n:Int)) ?_)
           | (refine wpList_store_bk rfl 208 _ _ rfl rb (brgC S4.empty 0 8 (n:Int)) rfl rfl _ _ HB1.out (by rw [brgC_len];exact rb_size) (by rw [brgC_len,List.size_toArray,brgC_len]) (brgC_one _ _ _ _) ?_;intro w9 hb9 hf9;have HB9:=zh hb9;have HF9:=zh hf9;clear hb9 hf9))
          refine ret_row_ (p:=4) (T:=208) rfl rb _ _ rfl HB9.out underlying208 rfl (by rw [brgC_len];exact rb_size) rfl ?_;exact BPost.err (p:=n) (c:=8) (by first | exact HER.out) (by first | (simp;done) | rfl) (HF.out.trans' HF9.out (by simp;have:=HRBE.out;omega))
         obtain ⟨b0,hb0⟩:∃ b0,b0=R.mem 0:=⟨_,rfl⟩;have HIN:Hid (∀ X:ByteArray,X=⟨nm.toArray⟩->∀ W,Calls prog 121 #[.string X,.int .i64 0] W fun e w'=>e = .returned (.tuple #[.bool b0,.bool true])/\W=w'):=zh (fun X hX W=>by subst hX;rw [hb0];exact in_some0 nm R hcl W);clear hb0;have HIC:Hid (∀ X:ByteArray,X=⟨nm.toArray⟩->∀ c:Nat,c < 256->∀ W,Calls prog 121 #[.string X,.int .i64 (c:Int)] W fun e w'=>e = .returned (.tuple #[.bool (R.mem c),.bool true])/\W=w'):=zh (fun X hX c hc W=>by subst hX;exact in_some nm R hcl c hc W);have HRG:Hid (r=brkL bs fs (k - 1) (e+2) (Sx.or R)):=zh (by rw [HBG.out,HME.out,hcl]);have HRO:Hid R.ok:=zh (classS_ok _ _ hcl)
         have HE2:Hid (e+2 <= L):=zh (by
          have h2:=HQ.out;have h3:=HL.out;rcases Nat.lt_or_ge bs.length (e+2) with h | h
          ·rw [isS_past (by simpa using h)] at h2;cases h2
          omega)
         clear hcl hnm HBG HME HBRN
         go_upto_region 18 with (first
          | (go_at_call 120;refine (HIS.out _ e [58,93] true rfl (by omega) (by simp) HQ.out.symm _).mono ?_;rintro e w2 ⟨rfl,rfl⟩))
         go_upto_region 21 with (first
          | (go_at_call 121;refine (HIN.out _ HXN.out _).mono ?_;rintro e w2 ⟨rfl,rfl⟩))
         go_wp2_with fail
         go_loopw [13] (fun v13 wx=>∃ c:Nat,v13 = .int .i64 (c:Int)/\c <= 256/\Bk wx rb 208 (brgC S4.empty 0 0 0).toArray/\Bk wx sb 66 (bitsF fun x=>if x < c then (Sx.mem x || R.mem x) else Sx.mem x).toArray/\Fr [] w wx) (fun v13 _=>257 - (intOf v13).toNat)
         case atStart=>exact ⟨0,rfl,by omega,HB1.out,by have:=HB2.out;rw [<-bitsF_mem] at this;rw [bitsF_ext (g:=Sx.mem) (by simp)];exact this,HF.out⟩
         case round=>
          obtain ⟨c,rfl,hc,h1,h2,h3⟩:=hrel;by_cases hlt2:c < 256
          ·have hltI2:(c:Int) < 256:=by omega
           obtain ⟨b1,hb1⟩:∃ b1,b1=Sx.mem c:=⟨_,rfl⟩;obtain ⟨b2,hb2⟩:∃ b2,b2=R.mem c:=⟨_,rfl⟩;have hcell:=h2.cell_ (i:=c) (v := .bool b1) (by have:=bitsF_get (fun x=>if x < c then (Sx.mem x || R.mem x) else Sx.mem x) hlt2;rw [hb1];simpa using this);have hfz:=h2.frozen c;have HB1C:=zh hb1;have HB2C:=zh hb2;have H1:=zh h1;have H2:=zh h2;have H3:=zh h3;clear hb1 hb2 h1 h2 h3 HB1 HB2 HF
           have hfin:∀ W,W=wr.setCell ⟨sb,c,none⟩ (.bool (b1 || b2))->Bk W rb 208 (brgC S4.empty 0 0 0).toArray/\Bk W sb 66 (bitsF fun x=>if x < c+1 then (Sx.mem x || R.mem x) else Sx.mem x).toArray/\Fr [] w W:=fun W hW=>by
            subst hW;have hs:Fr [sb] wr (wr.setCell ⟨sb,c,none⟩ (.bool (b1 || b2))):=(Fr.refl _ _).setCell (.inl (by simp)) _;refine ⟨H1.out.fr hs (by simp;omega),?_,H3.out.trans' hs (by simp;have:=HSBE.out;omega)⟩;have:=H2.out.put c (.bool (b1 || b2));rw [bitsF_put _ hlt2] at this
            rw [bitsF_ext (g:=fun x=>if x < c+1 then (Sx.mem x || R.mem x) else Sx.mem x) (by
             intro x hx;by_cases h:x=c
             ·subst h;simp [HB1C.out,HB2C.out]
             by_cases h2:x < c
             ·simp [h,h2,show x < c+1 by omega]
             simp [h,h2,show ¬ x < c+1 by omega])] at this
            exact this
           have HFIN:=zh hfin;clear hfin
           cases b1
           all_goals
            go_wp2_with (go_at_call 121;refine (HIC.out _ HXN.out c hlt2 _).mono ?_;rintro e w2 ⟨rfl,rfl⟩;rw [<-HB2C.out])
            go_roundw
            case rel=>exact ⟨c+1,by go_num,by omega,HFIN.out _ (by first | rfl | simp)⟩
            case measure=>simp [intOf] <;> omega
          obtain rfl:c=256:=by omega
          have H:=zh (show Bk wr sb 66 (bitsV (Sx.or R)).toArray by rw [<-bits_or];exact h2);have H1:=zh h1;have H3:=zh h3;clear h1 h2 h3 HB1 HB2 HF;go_wp2_with fail
          go_roundw
          case rel=>exact ⟨e+2,k - 1,Sx.or R,false,by go_num,rfl,by symm;simp;omega,by omega,by have:=HL.out;have:=HE2.out;omega,by have:=HL.out;omega,S4.or_ok HOK.out HRO.out,HRG.out.symm,H1.out,H.out,H3.out⟩
          case measure=>simp [intOf] <;> omega
       obtain rfl:e=L:=by omega
       have HER:Hid (brkE nt i r = .error (bs.length,7)):=zh (by
        rw [HBG.out,mem_open_none HOP.out.symm (fun j hj=>by
         by_cases h:j < e
         ·exact HNO.out j hj h
         exact isS_past (by have:=HL.out;simp;omega))];rfl)
       clear HBG HBRN HNO
       go_upto_region 16 with (first
        | (go_at_call 120;refine (HIS.out _ e [58,93] true rfl (by omega) (by simp) HQ.out.symm _).mono ?_;rintro e w2 ⟨rfl,rfl⟩))
       go_wp2_with (first
        | (refine wpList_build2 rfl 208 2 3 _ _ rfl (.int .i64 7) (.int .i64 (e:Int)) rfl rfl (brgC S4.empty 0 7 (e:Int)) (bbuilt_eq 7 (e:Int)) ?_)
        | (refine wpList_store_bk rfl 208 _ _ rfl rb (brgC S4.empty 0 7 (e:Int)) rfl rfl _ _ HB1.out (by rw [brgC_len];exact rb_size) (by rw [brgC_len,List.size_toArray,brgC_len]) (brgC_one _ _ _ _) ?_;intro w9 hb9 hf9;have HB9:=zh hb9;have HF9:=zh hf9;clear hb9 hf9))
       refine ret_row_ (p:=4) (T:=208) rfl rb _ _ rfl HB9.out underlying208 rfl (by rw [brgC_len];exact rb_size) rfl ?_;exact BPost.err (p:=bs.length) (c:=7) (by first | exact HER.out) (by rw [<-HL.out];first | (simp;done) | rfl) (HF.out.trans' HF9.out (by simp;have:=HRBE.out;omega))
     | false=>
      have HI0:Hid (isS bs n [91,58]=false):=zh (by rw [isS_opens];exact HOP.out.symm);rcases hsg:singleS bs n with _ | ⟨f,nx⟩
      ·have HER:Hid (brkE nt i r = .error (bs.length,7)):=zh (by
        have:memberS bs n = .error (bs.length,7):=by unfold memberS;rw [<-HOP.out,hsg];simp
        rw [HBG.out,this];rfl)
       have HO1:Hid (oneS bs n=(0,0)):=zh (by unfold oneS;rw [hsg]);clear hsg HBG HBRN
       go_upto_region 27 with (first
        | (go_at_call 120;refine (HIS.out _ n [91,58] false rfl (by omega) (by simp) HI0.out _).mono ?_;rintro e w2 ⟨rfl,rfl⟩))
       go_upto_region 29 with (first
        | (go_at_call 122;refine (HON.out _ n 0 0 rfl (by omega) HO1.out _).mono ?_;rintro e w2 ⟨rfl,rfl⟩))
       go_wp2_with (first
        | (refine wpList_build2 rfl 208 2 3 _ _ rfl (.int .i64 7) (.int .i64 (L:Int)) rfl rfl (brgC S4.empty 0 7 (L:Int)) (bbuilt_eq 7 (L:Int)) ?_)
        | (refine wpList_store_bk rfl 208 _ _ rfl rb (brgC S4.empty 0 7 (L:Int)) rfl rfl _ _ HB1.out (by rw [brgC_len];exact rb_size) (by rw [brgC_len,List.size_toArray,brgC_len]) (brgC_one _ _ _ _) ?_;intro w9 hb9 hf9;have HB9:=zh hb9;have HF9:=zh hf9;clear hb9 hf9))
       refine ret_row_ (p:=4) (T:=208) rfl rb _ _ rfl HB9.out underlying208 rfl (by rw [brgC_len];exact rb_size) rfl ?_;exact BPost.err (p:=bs.length) (c:=7) (by first | exact HER.out) (by rw [<-HL.out];first | (simp;done) | rfl) (HF.out.trans' HF9.out (by simp;have:=HRBE.out;omega))
      have hlt:=singleS_lt hsg;obtain ⟨m,rfl⟩:∃ m,nx=n+m:=⟨nx - n,by omega⟩;have HO1:Hid (oneS bs n=(f,m)):=zh (by unfold oneS;rw [hsg];simp);have HSG:=zh hsg;have hm0:((m:Int) == 0)=false:=by simp;omega
      have hmb:1 <= m/\m <= 2:=by omega
      have hfl:f < 256:=hlt.1;have hnm:n+m <= L:=by have:=HL.out;omega
      obtain ⟨d1,hd1⟩:∃ d1,d1=isS bs (n+m) [45]:=⟨_,rfl⟩;obtain ⟨d2,hd2⟩:∃ d2,d2=isS bs (n+m) [45,93]:=⟨_,rfl⟩;have HD1:=zh hd1;have HD2:=zh hd2;clear hsg hlt hd1 hd2
      go_upto_region 27 with (first
       | (go_at_call 120;refine (HIS.out _ n [91,58] false rfl (by omega) (by simp) HI0.out _).mono ?_;rintro e w2 ⟨rfl,rfl⟩))
      go_upto_region 32 with (first
       | (go_at_call 122;refine (HON.out _ n f m rfl (by omega) HO1.out _).mono ?_;rintro e w2 ⟨rfl,rfl⟩))
      go_cut [135] from 127 to 135 (fun v135 wx=>v135 = .bool (d1 && !d2)/\wx=wc)
      case first=>
       cases d1 with
       | false=>
        go_wp2_with (go_at_call 120;refine (HIS.out _ (n+m) [45] false (by go_num) (by omega) (by simp) HD1.out.symm _).mono ?_;rintro e w2 ⟨rfl,rfl⟩)
        go_meet
        case rel=>exact ⟨rfl,rfl⟩
       | true=>
        go_wp2_with (go_at_call 120;refine (HISG.out _ (n+m) _ (by go_num) (by omega) (by simp) _).mono ?_;rintro e w2 ⟨rfl,rfl⟩;first | rw [<-HD2.out] | rw [<-HD1.out])
        go_meet
        case rel=>exact ⟨by simp,rfl⟩
      case rest=>
       obtain ⟨rfl,rfl⟩:=hcut;obtain ⟨D,hD⟩:∃ D,D=(d1 && !d2):=⟨_,rfl⟩;rw [<-hD];have HD:=zh hD;clear hD;go_upto_if 135 with fail
       go_cut [18,19,20,21] from 47 to 174 (fun v18 v19 v20 v21 wx=>(∃ t nx:Nat,v18 = .int .u8 (t:Int)/\v19 = .int .i64 (nx:Int)/\f <= t/\t < 256/\nx <= L/\n < nx/\memberS bs n = .ok (S4.range f t,nx))/\wx=wc)
       case first=>
        cases D with
        | false=>
         have HMS:Hid (memberS bs n = .ok (S4.range f f,n+m)):=zh (by
          have h1:=HD.out;rw [HD1.out,HD2.out,isS_one bs (n+m) 45 (by decide),isS_two bs (n+m) 45 93 (by decide) (by decide)] at h1
          have h2:bs.length <= n+m+1 ∨ bn bs (n+m) ≠ 45 ∨ bn bs (n+m+1)=93:=by
           simp at h1;by_cases h3:bn bs (n+m)=45
           ·exact .inr (.inr (h1 h3).2)
           exact .inr (.inl h3)
          unfold memberS;rw [<-HOP.out,HSG.out];simp only [Bool.false_eq_true,if_false]
          rw [if_pos h2])
         go_wp2_with fail
         go_meet
         case rel=>exact ⟨⟨f,n+m,rfl,by go_num,by omega,hfl,hnm,by omega,HMS.out⟩,rfl⟩
        | true=>
         have HDD:Hid (bn bs (n+m)=45/\bn bs (n+m+1) ≠ 93):=zh (by
          have h1:=HD.out;rw [HD1.out,HD2.out,isS_one bs (n+m) 45 (by decide),isS_two bs (n+m) 45 93 (by decide) (by decide)] at h1;simp at h1
          exact ⟨h1.1,by have:=h1.1;have:=h1.2;omega⟩)
         have HNL:Hid (n+m < bs.length):=zh (bn_pos HDD.out.1 (by decide));obtain ⟨op2,hop2⟩:∃ op2,op2=opensS bs (n+m+1):=⟨_,rfl⟩;have HOP2:=zh hop2;have HI2:Hid (isS bs (n+m+1) [91,58]=op2):=zh (by rw [isS_opens];exact hop2.symm);clear hop2
         cases op2 with
         | true=>
          have HER:Hid (brkE nt i r = .error (n,4)):=zh (by
           have h2:=brk_len HOP2.out.symm
           have:memberS bs n = .error (n,4):=by
            unfold memberS;rw [<-HOP.out,HSG.out];simp only [Bool.false_eq_true,if_false];rw [if_neg (by have:=HDD.out;omega),if_pos HOP2.out.symm]
           rw [HBG.out,this];rfl)
          clear HBG HBRN
          go_upto_region 34 with (first
           | (go_at_call 120;refine (HIS.out _ (n+m+1) [91,58] _ (by go_num) (by omega) (by simp) HI2.out _).mono ?_;rintro e w2 ⟨rfl,rfl⟩))
          go_wp2_with (first
           | (refine wpList_build2 rfl 208 2 3 _ _ rfl (.int .i64 4) (.int .i64 (n:Int)) rfl rfl (brgC S4.empty 0 4 (n:Int)) (bbuilt_eq 4 (n:Int)) ?_)
           | (refine wpList_store_bk rfl 208 _ _ rfl rb (brgC S4.empty 0 4 (n:Int)) rfl rfl _ _ HB1.out (by rw [brgC_len];exact rb_size) (by rw [brgC_len,List.size_toArray,brgC_len]) (brgC_one _ _ _ _) ?_;intro w9 hb9 hf9;have HB9:=zh hb9;have HF9:=zh hf9;clear hb9 hf9))
          refine ret_row_ (p:=4) (T:=208) rfl rb _ _ rfl HB9.out underlying208 rfl (by rw [brgC_len];exact rb_size) rfl ?_;exact BPost.err (p:=n) (c:=4) (by first | exact HER.out) (by first | (simp;done) | rfl) (HF.out.trans' HF9.out (by simp;have:=HRBE.out;omega))
         | false=>
          rcases hs2:singleS bs (n+m+1) with _ | ⟨t,nx2⟩
          ·have HER:Hid (brkE nt i r = .error (bs.length,7)):=zh (by
            by_cases hend:n+m+1=bs.length
            ·rw [<-HBRN.out,brk_dash HGT.out HOP.out.symm HSG.out (by have:=HL.out;omega) hend HDD.out.1];rfl
            have:memberS bs n = .error (bs.length,7):=by
             unfold memberS;rw [<-HOP.out,HSG.out];simp only [Bool.false_eq_true,if_false];rw [if_neg (by have:=HDD.out;have:=HNL.out;omega),<-HOP2.out,hs2];simp
            rw [HBG.out,this];rfl)
           have HO2:Hid (oneS bs (n+m+1)=(0,0)):=zh (by unfold oneS;rw [hs2]);clear hs2 HBG HBRN
           go_upto_region 35 with (first
            | (go_at_call 120;refine (HIS.out _ (n+m+1) [91,58] _ (by go_num) (by omega) (by simp) HI2.out _).mono ?_;rintro e w2 ⟨rfl,rfl⟩))
           go_upto_region 37 with (first
            | (go_at_call 122;refine (HON.out _ (n+m+1) 0 0 (by go_num) (by omega) HO2.out _).mono ?_;rintro e w2 ⟨rfl,rfl⟩))
           go_wp2_with (first
            | (refine wpList_build2 rfl 208 2 3 _ _ rfl (.int .i64 7) (.int .i64 (L:Int)) rfl rfl (brgC S4.empty 0 7 (L:Int)) (bbuilt_eq 7 (L:Int)) ?_)
            | (refine wpList_store_bk rfl 208 _ _ rfl rb (brgC S4.empty 0 7 (L:Int)) rfl rfl _ _ HB1.out (by rw [brgC_len];exact rb_size) (by rw [brgC_len,List.size_toArray,brgC_len]) (brgC_one _ _ _ _) ?_;intro w9 hb9 hf9;have HB9:=zh hb9;have HF9:=zh hf9;clear hb9 hf9))
           refine ret_row_ (p:=4) (T:=208) rfl rb _ _ rfl HB9.out underlying208 rfl (by rw [brgC_len];exact rb_size) rfl ?_;exact BPost.err (p:=bs.length) (c:=7) (by first | exact HER.out) (by rw [<-HL.out];first | (simp;done) | rfl) (HF.out.trans' HF9.out (by simp;have:=HRBE.out;omega))
          have hlt2:=singleS_lt hs2;obtain ⟨m2,rfl⟩:∃ m2,nx2=n+m+1+m2:=⟨nx2 - (n+m+1),by omega⟩;have HO2:Hid (oneS bs (n+m+1)=(t,m2)):=zh (by unfold oneS;rw [hs2];simp);have htl:t < 256:=hlt2.1;have hm20:((m2:Int) == 0)=false:=by simp;omega
          have hmb2:1 <= m2/\m2 <= 2:=by omega
          have hnm2:n+m+1+m2 <= L:=by have:=HL.out;omega
          have HMM:Hid (memberS bs n=if t < f then .error (n,4) else .ok (S4.range f t,n+m+1+m2)):=zh (by
           unfold memberS;rw [<-HOP.out,HSG.out];simp only [Bool.false_eq_true,if_false];rw [if_neg (by have:=HDD.out;have:=HNL.out;omega),<-HOP2.out,hs2]
           simp)
          clear hs2 hlt2;by_cases htf:t < f
          ·have htI:(t:Int) < (f:Int):=by omega
           have HER:Hid (brkE nt i r = .error (n,4)):=zh (by rw [HBG.out,HMM.out,if_pos htf];rfl);clear HBG HBRN
           go_upto_region 35 with (first
            | (go_at_call 120;refine (HIS.out _ (n+m+1) [91,58] _ (by go_num) (by omega) (by simp) HI2.out _).mono ?_;rintro e w2 ⟨rfl,rfl⟩))
           go_upto_region 39 with (first
            | (go_at_call 122;refine (HON.out _ (n+m+1) t m2 (by go_num) (by omega) HO2.out _).mono ?_;rintro e w2 ⟨rfl,rfl⟩))
           go_wp2_with (first
            | (refine wpList_build2 rfl 208 2 3 _ _ rfl (.int .i64 4) (.int .i64 (n:Int)) rfl rfl (brgC S4.empty 0 4 (n:Int)) (bbuilt_eq 4 (n:Int)) ?_)
            | (refine wpList_store_bk rfl 208 _ _ rfl rb (brgC S4.empty 0 4 (n:Int)) rfl rfl _ _ HB1.out (by rw [brgC_len];exact rb_size) (by rw [brgC_len,List.size_toArray,brgC_len]) (brgC_one _ _ _ _) ?_;intro w9 hb9 hf9;have HB9:=zh hb9;have HF9:=zh hf9;clear hb9 hf9))
           refine ret_row_ (p:=4) (T:=208) rfl rb _ _ rfl HB9.out underlying208 rfl (by rw [brgC_len];exact rb_size) rfl ?_;exact BPost.err (p:=n) (c:=4) (by first | exact HER.out) (by first | (simp;done) | rfl) (HF.out.trans' HF9.out (by simp;have:=HRBE.out;omega))
          have htI:¬ ((t:Int) < (f:Int)):=by omega
          go_upto_region 35 with (first
           | (go_at_call 120;refine (HIS.out _ (n+m+1) [91,58] _ (by go_num) (by omega) (by simp) HI2.out _).mono ?_;rintro e w2 ⟨rfl,rfl⟩))
          go_upto_region 40 with (first
           | (go_at_call 122;refine (HON.out _ (n+m+1) t m2 (by go_num) (by omega) HO2.out _).mono ?_;rintro e w2 ⟨rfl,rfl⟩))
          go_wp2_with fail
          go_meet
          case rel=>exact ⟨⟨t,n+m+1+m2,rfl,by go_num,by omega,htl,hnm2,by omega,by rw [HMM.out,if_neg htf]⟩,rfl⟩
       case rest=>
        obtain ⟨⟨t,nx,rfl,rfl,hft,htl,hnxL,hnnx,hms⟩,rfl⟩:=hcut;have HRG:Hid (r=brkL bs fs (k - 1) nx (Sx.or (S4.range f t))):=zh (by rw [HBG.out,hms]);clear hms HBG HBRN;go_wp2_with fail
        go_loopw [22] (fun v22 wr=>∃ c:Nat,v22 = .int .i64 (c:Int)/\f <= c/\c <= t+1/\Bk wr rb 208 (brgC S4.empty 0 0 0).toArray/\Bk wr sb 66 (bitsF fun x=>Sx.mem x || (decide (f <= x) && decide (x < c))).toArray/\Fr [] w wr) (fun v22 _=>257 - (intOf v22).toNat)
        case atStart=>exact ⟨f,rfl,by omega,by omega,HB1.out,by have:=HB2.out;rw [<-bitsF_mem] at this;rw [bitsF_ext (g:=Sx.mem) (fun c hc=>by rw [show (decide (f <= c) && decide (c < f))=false by simp];simp)];exact this,HF.out⟩
        case round=>
         obtain ⟨c,rfl,hfc,hct,h1,h2,h3⟩:=hrel;by_cases hlt2:c <= t
         ·have hltI2:(c:Int) <= (t:Int):=by omega
          have hcl:c < 256:=by omega
          have hcell:=h2.cell_ (i:=c) (v := .bool (Sx.mem c || (decide (f <= c) && decide (c < c)))) (by have:=bitsF_get (fun x=>Sx.mem x || (decide (f <= x) && decide (x < c))) hcl;simpa using this);have hfz:=h2.frozen c
          have hfin:∀ W,W=wr.setCell ⟨sb,c,none⟩ (.bool true)->Bk W rb 208 (brgC S4.empty 0 0 0).toArray/\Bk W sb 66 (bitsF fun x=>Sx.mem x || (decide (f <= x) && decide (x < c+1))).toArray/\Fr [] w W:=fun W hW=>by
           subst hW;have hs:Fr [sb] wr (wr.setCell ⟨sb,c,none⟩ (.bool true)):=(Fr.refl _ _).setCell (.inl (by simp)) _;refine ⟨h1.fr hs (by simp;omega),?_,h3.trans' hs (by simp;have:=HSBE.out;omega)⟩;have:=h2.put c (.bool true);rw [bitsF_put _ hcl] at this
           rw [bitsF_ext (g:=fun x=>Sx.mem x || (decide (f <= x) && decide (x < c+1))) (by
            intro x hx;by_cases h:x=c
            ·subst h;simp [hfc]
            have e:decide (x < c+1)=decide (x < c):=by rw [Bool.eq_iff_iff];simp;omega
            simp [h,e])] at this
           exact this
          have HFIN:=zh hfin;clear hfin h1 h2 h3 HB1 HB2 HF;go_wp2_with fail
          go_roundw
          case rel=>exact ⟨c+1,by go_num,by omega,by omega,HFIN.out _ (by first | rfl | simp)⟩
          case measure=>simp [intOf] <;> omega
         obtain rfl:c=t+1:=by omega
         have hltI2:¬ (((t+1:Nat):Int) <= (t:Int)):=by omega
         have H:Hid (Bk wr sb 66 (bitsV (Sx.or (S4.range f t))).toArray):=zh (by rw [<-bits_range Sx f t (by omega) htl];exact h2);have H1:=zh h1;have H3:=zh h3;clear h1 h2 h3 HB1 HB2 HF;go_wp2_with fail
         go_roundw
         case rel=>exact ⟨nx,k - 1,Sx.or (S4.range f t),false,rfl,rfl,by symm;simp;omega,by omega,by have:=HL.out;omega,by have:=HL.out;omega,S4.or_ok HOK.out (S4.range_ok _ _),HRG.out.symm,H1.out,H.out,H3.out⟩
         case measure=>simp [intOf] <;> omega
end Go.Proofs.YtfofechcccodeaaGreatDoor
