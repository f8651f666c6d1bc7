/-
  Small texts in one (HfS, Hf3, Hf4). No conditions.
-/
import Derived.Test.YtfofechcccodeaaGreatDoorQac
import Derived.Test.YtfofechcccodeaaGreatDoorQbd
import Derived.Test.YtfofechcccodeaaGreatDoorQbe
import Derived.Laws.MakeOwn
import Derived.Deep.Cut
import Derived.Laws.CopyRow
import Derived.Laws.IdiomCopy
namespace Go.Proofs.YtfofechcccodeaaGreatDoor.F
open Go.RowKit Go.Proofs.Tryz
set_option linter.unusedVariables false
set_option linter.unusedSimpArgs false
set_option maxRecDepth 100000
set_option maxHeartbeats 4000000
def errV (c:Int):Value := .iface 55 (.int .i64 c)
def chrM (s:List UInt8):List (List UInt8):=s.map fun b=>[b]
def SepOk (w:World) (x:Rc):Prop:=(x.kind=0/\x.fl=splM) ∨ (x.kind=1/\GlobOk w/\x.fl=fun t=>cutM t x.c) ∨ (x.kind=2/\x.fl=chrM) ∨
 (x.kind=3/\∃ lo fb L,x.f=some ⟨fb,0,none⟩/\FinderAt w lo fb L/\ProgOk L/\0 < L.length/\L.length <= 5000/\x.fl=splitS L)
theorem mk_room (n:Nat) (hn:n <= 1000) (W:World):(Instr.makeSlice 27 (.int .i64 0) (.int .i64 (n:Int))).run prog W = .ok (.slice (some ⟨W.heap.size,0,none⟩) 0 n) (W.alloc (.cells (strVals (List.replicate n [])).toArray 9)):=by
 obtain ⟨i,hi,hz,hs,hb⟩:=strParts;have h:=run_make (P:=prog) (w:=W) 27 9 i _ underlying27 hi hz .i64 .i64 0 (n:Int) (by omega) (by omega) (by rw [hb];omega) (by omega);rw [hs] at h;have e1:Int.toNat (n:Int)=n:=by omega
 have e2:madeCells (Value.string ByteArray.empty).cells (n * 1)=(strVals (List.replicate n [])).toArray:=by
  have:=toList_madeCells_one (.string ByteArray.empty) n;rw [Nat.mul_one]
  apply Array.ext'
  rw [show (Value.string ByteArray.empty).cells=#[Value.string ByteArray.empty] from rfl,this];simp [strVals]
  right
  rfl
 rw [e1,e2] at h;exact h
theorem own_room0 {w:World} {g n:Nat} {cs:Array Value} (h:Bk w g 9 cs) (hc:n <= cs.size) (hn:n <= maxLen):OwnL w (.slice (some ⟨g,0,none⟩) 0 n) []:=
 ⟨_,n,rfl,Nat.zero_le _,hn,.inr ⟨g,0,cs,rfl,h,by simpa using hc,by simp [strVals]⟩⟩
theorem FinderAt.fr_ {w w':World} {lo fb:Nat} {L:List Sp} (h:FinderAt w lo fb L) (hf:Fr [] w w'):FinderAt w' lo fb L:=by
 obtain ⟨A,c,h1,h2⟩:=h;exact ⟨A,c,h1.fr hf (by simp),own_fr h2 hf (by simp)⟩
theorem chr_len (s:List UInt8):(chrM s).length=s.length:=by simp [chrM]
theorem take_next (s:List UInt8) (i:Nat) (h:i < s.length):s.take (i+1)=s.take i ++ [s.getD i 0]:=by
 rw [List.take_add_one,List.getElem?_eq_getElem h,List.getD_eq_getElem?_getD,List.getElem?_eq_getElem h];rfl
theorem chr_next (s:List UInt8) (i:Nat) (h:i < s.length):chrM (s.take (i+1))=chrM (s.take i) ++ [(s.drop i).take (i+1 - i)]:=by
 rw [take_next s i h,show i+1 - i=1 by omega]
 have e:(s.drop i).take 1=[s.getD i 0]:=by
  rw [List.take_one,List.head?_drop,List.getElem?_eq_getElem h,List.getD_eq_getElem?_getD,List.getElem?_eq_getElem h];rfl
 rw [e];simp [chrM]
theorem takes_next (s:List (List UInt8)) (i:Nat) (h:i < s.length):s.take (i+1)=s.take i ++ [s[i]]:=by
 rw [List.take_add_one,List.getElem?_eq_getElem h];rfl
def GatRel (w0:World) (G:Nat->List (List UInt8)) (n:Nat) (vl vi:Value) (wr:World):Prop:=
 ∃ i:Nat,vi = .int .i64 (i:Int)/\OwnL wr vl (G i)/\(∀ g,vl.ownBlock=some g->w0.heap.size <= g)/\Fr [] w0 wr/\i <= n
theorem chr_any {w:World} (c:UInt8) (f:Option Addr) (s:List UInt8) (hs:s.length <= 500) :
    Calls prog 22 #[.agg #[.int .i64 2,.int .u8 (c.toNat:Int),.pointer f],.string ⟨s.toArray⟩] w fun e w'=>∃ v,e = .returned v/\OwnL w' v (chrM s)/\Fr [] w w':=by
 obtain ⟨i0,hi0,hz0,hz1,hz2⟩:=strParts;have hmk:=mk_room s.length (by omega);obtain ⟨E,hE⟩:∃ E,E=(strVals (List.replicate s.length [])).toArray:=⟨_,rfl⟩;rw [<-hE] at hmk;have HE:=zh hE;clear hE;go_enter func22,ntmps22
 go_wp2_with fail
 obtain ⟨w4,hw4⟩:∃ w4,w4=(w.alloc (.cells #[.int .i64 2,.int .u8 (c.toNat:Int),.pointer f] 52)).alloc (.cells E 9):=⟨_,rfl⟩;have h34:Fr [] w w4:=by rw [hw4];exact ((Fr.refl [] w).alloc _).alloc _
 have hr0:OwnL w4 (.slice (some ⟨w.heap.size+1,0,none⟩) 0 s.length) []:=by
  rw [hw4];have:=own_room0 (w:=(w.alloc (.cells #[.int .i64 2,.int .u8 (c.toNat:Int),.pointer f] 52)).alloc (.cells E 9)) (n:=s.length) (Bk.new (w.alloc (.cells #[.int .i64 2,.int .u8 (c.toNat:Int),.pointer f] 52)) 9 E) (by rw [HE.out];simp [strVals]) (by unfold maxLen;omega)
  simpa using this
 rw [<-hw4];have H34:=zh h34;have HR0:=zh hr0;clear h34 hr0 hw4
 go_loopw [5,30] (GatRel w (fun i=>chrM (s.take i)) s.length) (fun _ v30 _=>s.length - (intOf v30).toNat)
 case atStart=>
  exact ⟨0,rfl,HR0.out,fun g hg=>by simp [Value.ownBlock] at hg;omega,H34.out,by omega⟩
 case round=>
  obtain ⟨i,rfl,ho,hfr,hf,hi⟩:=hrel;have hln:(chrM (s.take i)).length=i:=by rw [chr_len];simp;omega
  obtain ⟨A,cap,hv,hl1,hl2,-, -⟩:=OwnL.val ho;rw [hln] at hv hl1;subst hv;unfold maxLen at hl2;have HFR:=zh hfr;have HO:=zh ho;have HF:=zh hf;have HLN:=zh hln;clear ho hf hfr hln;by_cases hlt:i < s.length
  ·have hwr:IntKind.i64.wrap ((i:Int)+1)=(i:Int)+1:=by rw [IntKind.wrap_i64];omega
   go_wp2_with (at_builtin;refine wpList_append_OwnS rfl (.tmp 33) (.tmp 39) 27 rfl 9 i0 _ underlying27 hi0 hz0 hz1 rfl (.slice A i cap) (strVals (chrM (s.take i))) i (by rw [strVals_length];exact HLN.out) (by rfl) (Own.fr HO.out ((Fr.refl [] wr).alloc _) (by simp)) (some ⟨wr.heap.size,0,none⟩) 1 1 (by rfl) [.string ((⟨s.toArray⟩:ByteArray).extract i (i+1))] (one_str wr _) rfl (by simp [Value.oneCell']) (by unfold maxLen;omega) (by rw [hz2];omega) ?_;intro A5 c5 w5 ho5 hg5 hl5;have HO5:=zh ho5;have HG5:=zh hg5;have HL5:=zh hl5;clear ho5 hg5 hl5)
   have hoL:OwnL w5 (.slice A5 (i+1) c5) (chrM (s.take (i+1))):=by have:=HO5.out;rw [ba_extract] at this;unfold OwnL;rw [chr_next s i hlt,strVals_append];exact this
   have hfr5:Fr [] w w5:=(HF.out.trans ((Fr.refl [] wr).alloc _)).grown HG5.out (fun g hg => .inr (HFR.out g hg))
   have hnew:∀ g,(Value.slice A5 (i+1) c5).ownBlock=some g->w.heap.size <= g:=fun g hg=>by
    rcases HL5.out with e | e
    ·exact HFR.out g (by rw [<-e];exact hg)
    rw [hg] at e;injection e with e;have:=HF.out.size;simp at e;omega
   have HOL:=zh hoL;have HFR5:=zh hfr5;have HNEW:=zh hnew;clear hoL hfr5 hnew;go_wp2_with fail
   go_roundw
   case rel=>exact ⟨i+1,by go_num,HOL.out,HNEW.out,HFR5.out,by omega⟩
   case measure=>simp [intOf] <;> omega
  obtain rfl:i=s.length:=by omega
  have hfin:OwnL wr (.slice A s.length cap) (chrM s):=by have:=HO.out;dsimp only at this;rw [List.take_length] at this;exact this
  have HFIN:=zh hfin;clear hfin;go_wp2_with fail
  go_ret
  exact ⟨_,rfl,HFIN.out,HF.out⟩
theorem fnd_any {w:World} (c:UInt8) {lo fb:Nat} {L:List Sp} (hfa:FinderAt w lo fb L) (hok:ProgOk L) (h0:0 < L.length) (h5:L.length <= 5000) (s:List UInt8) (hs:s.length <= 500) (hps:(splitS L s).length <= 600) :
    Calls prog 22 #[.agg #[.int .i64 3,.int .u8 (c.toNat:Int),.pointer (some ⟨fb,0,none⟩)],.string ⟨s.toArray⟩] w fun e w'=>∃ v,e = .returned v/\OwnL w' v (splitS L s)/\Fr [] w w':=by
 obtain ⟨i0,hi0,hz0,hz1,hz2⟩:=strParts
 have hq:∀ W,Fr [] w W->∀ (A2:Option Addr) (c2:Nat),Bytes W A2 s->(A2=none->c2=0)->s.length <= c2->Calls prog 33 #[.pointer (some ⟨fb,0,none⟩),.slice A2 s.length c2] W (SplitPost W (splitS L s)):=
  fun W hW A2 c2 ht hA hc=>Split_any (FinderAt.fr_ hfa hW) ht hA hc h0 h5 hok (by omega)
 obtain ⟨ps,hpsE⟩:∃ ps,ps=splitS L s:=⟨_,rfl⟩;rw [<-hpsE] at hq hps ⊢; obtain ⟨m,hm⟩:∃ m,m=ps.length:=⟨_,rfl⟩;rw [<-hm] at hps;have HQ:=zh hq;clear hq hfa hok h0 h5 hpsE;have hmk:=mk_room m (by omega);obtain ⟨E,hE⟩:∃ E,E=(strVals (List.replicate m [])).toArray:=⟨_,rfl⟩;rw [<-hE] at hmk;have HE:=zh hE;have HM:=zh hm;clear hE hm;go_enter func22,ntmps22
 go_wp2_with (refine wpList_bytes rfl 9 64 (.tmp 45) rfl 5 underlying9 underlying64 underlying5 ⟨s.toArray⟩ (by rfl) (by rw [ba_size];unfold maxLen;omega) ?_;intro A2 c2 w2 hat hge hle hA2 hfr;have HAT:Hid (Bytes w2 A2 s):=zh (show At w2 A2 (byteVals s) from by simpa using hat);have HF:=zh hfr;have HA2:=zh hA2;have HGE:=zh hge;clear hat hge hle hA2 hfr)
 have hf2:Fr [] w w2:=((Fr.refl [] w).alloc _).trans HF.out;have HF2:=zh hf2;clear hf2;go_at_call 33
 refine (HQ.out w2 HF2.out A2 c2 HAT.out (by rw [HA2.out];simp) (by have:=HGE.out;rw [ba_size] at this;exact this)).mono ?_;rintro e w3 ⟨LA,lc,es,rfl,how,hpv,hf3⟩;rw [<-HM.out] at how ⊢; have HOW:=zh how;have HPV:=zh hpv;have HF3:=zh (HF2.out.trans hf3);clear how hpv hf3;go_wp2_with fail
 obtain ⟨w4,hw4⟩:∃ w4,w4=w3.alloc (.cells E 9):=⟨_,rfl⟩;have h34:Fr [] w3 w4:=by rw [hw4];exact (Fr.refl [] w3).alloc _
 have hr0:OwnL w4 (.slice (some ⟨w3.heap.size,0,none⟩) 0 m) []:=by rw [hw4];exact own_room0 (Bk.new w3 9 E) (by rw [HE.out];simp [strVals]) (by unfold maxLen;omega)
 rw [<-hw4];have H34:=zh h34;have HR0:=zh hr0;clear h34 hr0 hw4
 go_loopw [8,53] (GatRel w3 (fun i=>ps.take i) m) (fun _ v53 _=>m - (intOf v53).toNat)
 case atStart=>
  exact ⟨0,rfl,HR0.out,fun g hg=>by simp [Value.ownBlock] at hg;omega,H34.out,by omega⟩
 case round=>
  obtain ⟨i,rfl,ho,hfr,hf,hi⟩:=hrel;have hln:(ps.take i).length=i:=by have:=HM.out;simp;omega
  obtain ⟨A,cap,hv,hl1,hl2,-, -⟩:=OwnL.val ho;rw [hln] at hv hl1;subst hv;unfold maxLen at hl2;by_cases hlt:i < m
  ·have hlp:i < ps.length:=by have:=HM.out;omega
   have hpr:PartsV wr (fun _=>True) es ps:=HPV.out.fr hf (fun b _ _=>⟨by simp,trivial⟩);obtain ⟨PA,pc,e1,e2,e3,e4,-⟩:=hpr i ps[i] (List.getElem?_eq_getElem hlp);obtain ⟨SB,rfl,-, -, hcl⟩:=own_cells (own_fr HOW.out hf (by simp)) (fun h0=>by rw [h0] at e1;cases e1);have ce:=hcl i _ e1;have hnx:=takes_next ps i hlp;obtain ⟨p,hp⟩:∃ p,p=ps[i]:=⟨_,rfl⟩;rw [<-hp] at ce e2 hnx;obtain ⟨pl,hpl⟩:∃ n,n=p.length:=⟨_,rfl⟩;rw [<-hpl] at ce;have HE2:=zh e2;have HPL:=zh hpl;have HNX:=zh hnx;have HFR:=zh hfr;have HO:=zh ho;have HFW:=zh hf;have HLN:=zh hln;have g4:¬ ((m:Int) <= (i:Int)):=by omega
   clear ho hf hfr hln e1 e2 e3 e4 hcl hpr hp hpl hnx hlp
   go_wp2_with (first
    | (refine wpList_str rfl 64 9 (.tmp 58) rfl 5 underlying64 underlying5 underlying9 PA pl pc (by first | rfl | simp [Act.eval]) p HE2.out HPL.out.symm ?_)
    | (at_builtin;refine wpList_append_OwnS rfl (.tmp 57) (.tmp 60) 27 rfl 9 i0 _ underlying27 hi0 hz0 hz1 rfl (.slice A i cap) (strVals (ps.take i)) i (by rw [strVals_length];exact HLN.out) (by rfl) (Own.fr HO.out ((Fr.refl [] wr).alloc _) (by simp)) (some ⟨wr.heap.size,0,none⟩) 1 1 (by rfl) [.string ⟨p.toArray⟩] (one_str wr _) rfl (by simp [Value.oneCell']) (by unfold maxLen;omega) (by rw [hz2];omega) ?_;intro A5 c5 w5 ho5 hg5 hl5;have HO5:=zh ho5;have HG5:=zh hg5;have HL5:=zh hl5;clear ho5 hg5 hl5))
   have hoL:OwnL w5 (.slice A5 (i+1) c5) (ps.take (i+1)):=by have:=HO5.out;unfold OwnL;rw [HNX.out,strVals_append];exact this
   have hfr5:Fr [] w3 w5:=(HFW.out.trans ((Fr.refl [] wr).alloc _)).grown HG5.out (fun g hg => .inr (HFR.out g hg))
   have hnew:∀ g,(Value.slice A5 (i+1) c5).ownBlock=some g->w3.heap.size <= g:=fun g hg=>by
    rcases HL5.out with e | e
    ·exact HFR.out g (by rw [<-e];exact hg)
    rw [hg] at e;injection e with e;have:=HFW.out.size;simp at e;omega
   have HOL:=zh hoL;have HFR5:=zh hfr5;have HNEW:=zh hnew;clear hoL hfr5 hnew ce;go_wp2_with fail
   go_roundw
   case rel=>exact ⟨i+1,by go_num,HOL.out,HNEW.out,HFR5.out,by omega⟩
   case measure=>simp [intOf] <;> omega
  obtain rfl:i=m:=by omega
  have hfin:OwnL wr (.slice A i cap) ps:=by have:=ho;dsimp only at this;rw [List.take_of_length_le (by have:=HM.out;omega)] at this;exact this
  have HFIN:=zh hfin;have HFW:=zh (HF3.out.trans hf);clear hfin ho hf hfr hln;go_wp2_with fail
  go_ret
  exact ⟨_,rfl,HFIN.out,HFW.out⟩
theorem splitF_len (tx:List UInt8):∀ (l:List (Nat × Nat)) (b:Nat),(splitF tx l b).length <= l.length+1
 | [],b=>by simp [splitF]
 | q :: r,b=>by
  unfold splitF;split
  ·have:=splitF_len tx r q.2;simp only [List.length_cons];omega
  have:=splitF_len tx r b;simp only [List.length_cons];omega
theorem splitS_len {L:List Sp} (hok:ProgOk L) (h0:0 < L.length) (tx:List UInt8):(splitS L tx).length <= tx.length+3:=by
 unfold splitS;split
 ·simp
 have h1:=splitF_len tx (findsS L tx) 0;have h2:=(findsS_ord (tx:=tx) hok h0).2.2;omega
theorem sep_any {w:World} (x:Rc) (hk:SepOk w x) (text:List UInt8) (ht:text.length <= 500) :
    Calls prog 22 #[.agg #[.int .i64 x.kind,.int .u8 (x.c.toNat:Int),.pointer x.f],.string ⟨text.toArray⟩] w fun e w'=>∃ v,e = .returned v/\OwnL w' v (x.fl text)/\Fr [] w w':=by
 obtain ⟨kind,c,jn,tx0,l0,f,fl⟩:=x;have hf0:∀ z,Fr [] w (w.alloc (.cells z 52)):=fun z=>(Fr.refl _ _).alloc _;unfold SepOk at hk;dsimp only at hk ⊢; rcases hk with ⟨rfl,rfl⟩ | ⟨rfl,hg,rfl⟩ | ⟨rfl,rfl⟩ | ⟨rfl,lo,fb,L,rfl,hfa,hok,h0,h5,rfl⟩
 ·have HF0:=zh hf0;clear hf0;go_enter func22,ntmps22
  go_wp2_with fail
  go_at_call 31
  refine (wsplit_any _ text (by omega)).mono ?_;rintro e w2 ⟨v,rfl,ho,hf⟩;have HO:=zh ho;have HF:=zh ((HF0.out _).trans hf);clear ho hf;go_wp2_with fail
  go_ret
  exact ⟨v,rfl,HO.out,HF.out⟩
 ·have HF0:=zh hf0;have HG:=zh hg;clear hf0 hg;go_enter func22,ntmps22
  go_wp2_with fail
  go_at_call 32
  refine (cut_any (HG.out.fr (HF0.out _)) text c (by omega)).mono ?_;rintro e w2 ⟨v,rfl,ho,hf⟩;have HO:=zh ho;have HF:=zh ((HF0.out _).trans hf);clear ho hf;go_wp2_with fail
  go_ret
  exact ⟨v,rfl,HO.out,HF.out⟩
 ·exact chr_any c f text ht
 exact fnd_any c hfa hok h0 h5 text ht (by have:=splitS_len hok h0 text;omega)
end Go.Proofs.YtfofechcccodeaaGreatDoor.F
namespace Go.Proofs.YtfofechcccodeaaGreatDoor.F
open Go.RowKit Go.Proofs.Tryz
set_option linter.unusedVariables false
set_option linter.unusedSimpArgs false
set_option maxRecDepth 100000
set_option maxHeartbeats 1000000
def SetPost (w:World) (r:Nat) (x:Rc) (text:List UInt8) (e:Ending) (w':World):Prop:=
 (65536 < text.length/\e = .returned (errV 13)/\w=w') ∨ (text.length <= 65536/\1000 < (x.fl text).length/\e = .returned (errV 5)/\RcM w' r x/\Fr [] w w') ∨
  (text.length <= 65536/\(x.fl text).length <= 1000/\e = .returned .nilIface/\RcM w' r { x with text:=text,l:=x.fl text }/\Fr [r] w w')
theorem set_any {w:World} {r:Nat} {x:Rc} (h:RcM w r x) (hk:SepOk w x) (text:List UInt8) (ht:text.length <= 500) :
    Calls prog 8 #[.pointer (some ⟨r,0,none⟩),.string ⟨text.toArray⟩] w (SetPost w r x text):=by
 by_cases hbig:65536 < text.length
 ·have t1:decide ((65536:Int) < (text.length:Int))=true:=by simp;omega
  have HB:=zh hbig;clear hbig h hk;go_enter func8,ntmps8
  go_wp2_with fail
  go_ret
  exact .inl ⟨HB.out,rfl,rfl⟩
 have t1:decide ((65536:Int) < (text.length:Int))=false:=by simp;omega
 have ht2:text.length <= 65536:=by omega
 obtain ⟨v,h⟩:=h;obtain ⟨d0,d1,d2,-, -, -⟩:=rc_cells h.1;have H:=zh h;have HK:=zh hk;clear h hk hbig;go_enter func8,ntmps8
 go_wp2_with fail
 go_at_call 22
 refine (sep_any x HK.out text (by omega)).mono ?_;rintro e w2 ⟨u,rfl,ho,hf⟩;obtain ⟨A,cap,hv,hl1,hl2,-, -⟩:=OwnL.val ho;subst hv;have hr2:RcR w2 r x v:=⟨H.out.1.fr hf (by simp),Own.fr H.out.2 hf (by simp)⟩;have f4:=hr2.1.frozen 4;have f5:=hr2.1.frozen 5;obtain ⟨-, -, -, -, d4,d5⟩:=rc_cells hr2.1;have HO:=zh ho;have HF:=zh hf;have HR:=zh hr2;clear ho hf hr2 d0 d1 d2;by_cases hm:1000 < (x.fl text).length
 ·have t2:decide ((1000:Int) < ((x.fl text).length:Int))=true:=by simp;omega
  go_wp2_with fail
  go_ret
  exact .inr (.inl ⟨ht2,hm,rfl,⟨v,HR.out⟩,HF.out⟩)
 have t2:decide ((1000:Int) < ((x.fl text).length:Int))=false:=by simp;omega
 go_wp2_with fail
 go_ret
 have hfr:Fr [r] w2 ((w2.setCell ⟨r,4,none⟩ (.string ⟨text.toArray⟩)).setCell ⟨r,5,none⟩ (.slice A (x.fl text).length cap)):=((Fr.refl _ _).setCell (.inl (by simp)) _).setCell (.inl (by simp)) _;exact .inr (.inr ⟨ht2,by omega,rfl,⟨_,HR.out.fr_put (y:={ x with text:=text,l:=x.fl text }) hfr ((HR.out.1.put 4 _).put 5 _) HO.out⟩,(Fr.nil_ HF.out).trans hfr⟩)
theorem wpList_copy_new {P:Program} {ops:Array Oper} {rest:List Oper} {o:Oper} {a:Act} {w:World} {Q:Exit->Act->World->Prop} (hgd:Region.wanted o (yielded ops a.tmps)=true) (d x:Operand) (t:TypeId)
    (ho:o.op = .call { callee := .builtin .copy,args:=#[d,x],argTypes:=#[t,t] }) (e:TypeId) (i:TypeInfo) (ht:P.underlying t=some (.slice e)) (hi:P.info? e=some i) (hs:i.size=1)
    (g n c:Nat) (cur:Array Value) (hdv:a.eval d = .slice (some ⟨g,0,none⟩) n c) (hg:Bk w g e cur) (hcs:n <= cur.size)
    (A:Option Addr) (m cx:Nat) (hxv:a.eval x = .slice A m cx) (xs:List Value) (hx:At w A xs) (hm:xs.length=m) (h1:∀ u ∈ xs,u.oneCell'=true)
    (hK:∀ k w',Bk w' g e (xs.take n ++ cur.toList.drop (min m n)).toArray->Fr [g] w w'->wpList P ops Q rest (a.put o.dst (.int .i64 k)) w') :
    wpList P ops Q (o :: rest) a w:=by
 refine wpList_wanted hgd fun K hKK=>?_;have hsz:(P.info? e).map (·.size)=some 1:=by rw [hi];simp [hs]
 unfold Oper.wp execOp;simp only [ho,resolve,invoke,builtin,Sem.run_bind,Sem.run_pure,Result.andThen_ok,List.map_toArray,List.map_cons,List.map_nil,hdv,hxv];by_cases h0:min m n=0
 ·rw [run_copy_none (P:=P) w t t o.type e (some ⟨g,0,none⟩) A n c m cx ht hsz h0];refine hKK _ _ (hK 0 w ?_ (Fr.refl _ _))
  have e1:xs.take n=[]:=by
   apply List.eq_nil_of_length_eq_zero
   rw [List.length_take];omega
  rw [e1,h0]
  simpa using hg
 obtain ⟨b,rfl⟩:∃ b,A=some b:=by
  rcases hx with h | ⟨b,h,_⟩
  ·rw [h] at hm;simp at hm;omega
  exact ⟨b,h⟩
 have hl:(xs.take n).length=min m n:=by rw [List.length_take];omega
 have hr:=run_copy_row (P:=P) w t t o.type e g 0 n c b m cx cur e (xs.take n) ht hsz hg hl (hx.take n).cells (by rw [hl];omega) (fun u hu=>h1 u (List.mem_of_mem_take hu));rw [hl] at hr;rw [hr];refine hKK _ _ (hK _ _ ?_ ⟨rfl,rfl,rfl,by simp,fun k hk hn=>setRow_other w g k _ (fun e=>hn (by simp [e]))⟩);have hh:=setRow_heap w g cur (cur.toList.take 0 ++ xs.take n ++ cur.toList.drop (0+min m n)).toArray e _ hg;unfold Bk;rw [hh];simp
theorem own_of_bk {w:World} {g:Nat} {l:List (List UInt8)} (h:Bk w g 9 (strVals l).toArray) (hl:l.length <= maxLen):OwnL w (.slice (some ⟨g,0,none⟩) l.length l.length) l:=
 ⟨_,l.length,by rw [strVals_length],by rw [strVals_length];exact Nat.le_refl _,hl,.inr ⟨g,0,_,rfl,h,by simp [strVals_length],by simp⟩⟩
theorem mk_strs (n:Nat) (hn:n <= 1000) (W:World):(Instr.makeSlice 27 (.int .i64 (n:Int)) (.int .i64 (n:Int))).run prog W = .ok (.slice (some ⟨W.heap.size,0,none⟩) n n) (W.alloc (.cells (strVals (List.replicate n [])).toArray 9)):=by
 obtain ⟨i,hi,hz,hs,hb⟩:=strParts;have h:=run_make (P:=prog) (w:=W) 27 9 i _ underlying27 hi hz .i64 .i64 (n:Int) (n:Int) (by omega) (by omega) (by rw [hb];omega) (by omega);rw [hs] at h;have e1:Int.toNat (n:Int)=n:=by omega
 have e2:madeCells (Value.string ByteArray.empty).cells (n * 1)=(strVals (List.replicate n [])).toArray:=by
  have:=toList_madeCells_one (.string ByteArray.empty) n;rw [Nat.mul_one]
  apply Array.ext'
  rw [show (Value.string ByteArray.empty).cells=#[Value.string ByteArray.empty] from rfl,this];simp [strVals]
  right
  rfl
 rw [e1,e2] at h;exact h
def MadePost (w:World) (l:List (List UInt8)) (n:Nat) (e:Ending) (w':World):Prop:=
 (1000 < n/\e = .returned (.tuple #[.slice none 0 0,errV 5])/\w=w') ∨ (n <= 1000/\∃ g,e = .returned (.tuple #[.slice (some ⟨g,0,none⟩) n n,.nilIface])/\w.heap.size <= g/\Bk w' g 9 (strVals (padM l n)).toArray/\Fr [] w w')
theorem made_any {w:World} {r:Nat} {x:Rc} (h:RcM w r x) (n:Nat) (hn:n <= 100000) :
    Calls prog 24 #[.pointer (some ⟨r,0,none⟩),.int .i64 (n:Int)] w (MadePost w x.l n):=by
 by_cases hbig:1000 < n
 ·have t0:decide ((n:Int) < 0)=false:=decide_eq_false (by omega);have t1:decide ((1000:Int) < (n:Int))=true:=by simp;omega
  clear h;go_enter func24,ntmps24
  go_wp2_with fail
  go_ret2
  exact .inl ⟨hbig,rfl,rfl⟩
 have t0:decide ((n:Int) < 0)=false:=decide_eq_false (by omega);have t1:decide ((1000:Int) < (n:Int))=false:=by simp;omega
 have hn2:n <= 1000:=by omega
 obtain ⟨v,h⟩:=h;obtain ⟨A,cap,hv,hl1,hl2,hat,-⟩:=OwnL.val h.2;subst hv;obtain ⟨-, -, -, -, -, d5⟩:=rc_cells h.1;obtain ⟨i0,hi0,hz0,hz1,hz2⟩:=strParts;have hmk:=mk_strs n hn2;have d5':∀ O,(w.alloc O).cell? ⟨r,5,none⟩=some (.slice A x.l.length cap):=fun O=>(h.1.alloc O).cell_ (i:=5) rfl;have HAT:=zh hat
 clear h hbig hat
 obtain ⟨E,hE⟩:∃ E,E=(strVals (List.replicate n [])).toArray:=⟨_,rfl⟩;rw [<-hE] at hmk;have HE:=zh hE;clear hE;go_enter func24,ntmps24
 go_wp2_with (refine wpList_copy_new rfl (.tmp 15) (.tmp 19) 27 rfl 9 i0 underlying27 hi0 hz1 w.heap.size n n E (by rfl) (Bk.new w _ _) (by rw [HE.out];simp [strVals]) A x.l.length cap (by rfl) (strVals x.l) (HAT.out.alloc _) (strVals_length _) (strVals_one _) ?_;intro kk w3 hb3 hf3;have HB3:=zh hb3;have HF3:=zh hf3;clear hb3 hf3)
 go_ret2
 have hb:=HB3.out
 have e1:(strVals x.l).take n ++ E.toList.drop (min x.l.length n)=strVals (padM x.l n):=by
  rw [HE.out];unfold padM strVals;rw [List.map_append,List.map_take]
  congr 1
  simp only [List.map_replicate,List.drop_replicate]
  congr 1
  omega
 rw [e1] at hb;exact .inr ⟨hn2,_,rfl,Nat.le_refl _,hb,(((Fr.refl [] w).alloc _).trans' HF3.out (by simp))⟩
def szM (l:List (List UInt8)) (jn:List UInt8) (i:Nat):Nat:=jn.length * (i - 1)+Lib.lens (l.take i)
theorem szM_all (l:List (List UInt8)) (jn:List UInt8):szM l jn l.length=(Lib.join l jn).length:=by unfold szM;rw [join_len,List.take_length]
theorem szM_next (l:List (List UInt8)) (jn:List UInt8) (i:Nat) (hi:i < l.length) (h0:0 < i):szM l jn (i+1)=szM l jn i+jn.length+(l.getD i []).length:=by
 unfold szM;rw [Lib.lens_take_succ l i (l.getD i []) (by simp [hi])];obtain ⟨k,rfl⟩:∃ k,i=k+1:=⟨i - 1,by omega⟩;simp only [Nat.add_sub_cancel];rw [Nat.mul_succ];omega
theorem szM_one (l:List (List UInt8)) (jn:List UInt8) (hi:0 < l.length):szM l jn 1=(l.getD 0 []).length:=by
 unfold szM;rw [show 1=0+1 from rfl,Lib.lens_take_succ l 0 (l.getD 0 []) (by simp [hi])];simp [Lib.lens]
theorem szM_le (l:List (List UInt8)) (jn:List UInt8) (i:Nat) (hi:i <= l.length):szM l jn i <= jn.length * l.length+Lib.lens l:=by
 unfold szM;have h1:=Lib.lens_take_le l i;have h2:jn.length * (i - 1) <= jn.length * l.length:=Nat.mul_le_mul_left _ (by omega);omega
def TakePost (w:World) (r:Nat) (x:Rc) (l:List (List UInt8)) (e:Ending) (w':World):Prop:=
 (65536 < (Lib.join l x.jn).length/\e = .returned (errV 13)/\w=w') ∨ ((Lib.join l x.jn).length <= 65536/\e = .returned .nilIface/\RcM w' r { x with text:=Lib.join l x.jn,l:=l }/\Fr [r] w w')
theorem take_any {w:World} {r:Nat} {x:Rc} (h:RcM w r x) {A:Option Addr} {n c:Nat} {l:List (List UInt8)} (hn:l.length=n) (ho:OwnL w (.slice A n c) l) (hl:l.length <= 1000) (hb:x.jn.length * l.length+Lib.lens l <= 1000000000000) :
    Calls prog 25 #[.pointer (some ⟨r,0,none⟩),.slice A n c] w (TakePost w r x l):=by
 obtain ⟨v,h⟩:=h;obtain ⟨-, -, -, d3,-, -⟩:=rc_cells h.1;have H:=zh h;have HO:=zh ho;clear h ho
 have hjn:x.jn.length <= 1000000000000 ∨ l.length=0:=by
  rcases Nat.eq_zero_or_pos l.length with h | h
  ·exact .inr h
  have:=Nat.mul_le_mul_left x.jn.length h;omega
 go_enter func25,ntmps25
 go_wp2_with fail
 go_loop [5,10] (fun v5 v10=>∃ i:Nat,v10 = .int .i64 (i:Int)/\v5 = .int .i64 (szM l x.jn i:Int)/\i <= n) (fun _ v10=>n+1 - (intOf v10).toNat)
 case atStart=>exact ⟨0,rfl,by simp [szM,Lib.lens],by omega⟩
 case round=>
  obtain ⟨i,rfl,rfl,hi⟩:=hrel;have hle:=szM_le l x.jn i (by omega);by_cases hlt:i < n
  ·obtain ⟨b,off,rfl,hc⟩:=OwnL.cell HO.out (j:=i) (by omega);have hle2:=szM_le l x.jn (i+1) (by omega);obtain ⟨el,hel⟩:∃ el,l.getD i []=el:=⟨_,rfl⟩;rw [hel] at hc;by_cases h0:0 < i
   ·have hnx:=szM_next l x.jn i (by omega) h0;rw [hel] at hnx;have t0:decide ((0:Int) < (i:Int))=true:=decide_eq_true (by omega);have HX:=zh (And.intro hle (And.intro hle2 hnx));clear hle hle2 hnx hel;go_wp2_with fail
    go_round
    case rel=>
     obtain ⟨q1,q2,q3⟩:=HX.out;exact ⟨i+1,by go_num,by refine congrArg _ ?_;rw [Go.IntWalk.wrap64_in ((szM l x.jn i:Int)+(x.jn.length:Int)) ?_,Go.IntWalk.wrap64_in _ ?_] <;> omega,by omega⟩
    case measure=>simp [intOf] <;> omega
   obtain rfl:i=0:=by omega
   have hnx:=szM_one l x.jn (by omega);rw [hel] at hnx;have hs0:szM l x.jn 0=0:=by simp [szM,Lib.lens]
   rw [Nat.add_zero] at hc;rw [hs0];have HX:=zh (And.intro hle2 (And.intro hnx hs0));clear hle hle2 hnx hel hs0;go_wp2_with fail
   go_round
   case rel=>
    obtain ⟨q2,q3,q4⟩:=HX.out;exact ⟨1,by go_num,by rw [q3] at q2 ⊢; first | go_num | (refine congrArg _ ?_;rw [Go.IntWalk.wrap64_in _ ?_] <;> omega),by omega⟩
   case measure=>simp [intOf] <;> omega
  obtain rfl:i=n:=by omega
  subst hn;rw [szM_all] at hle ⊢; by_cases hbig:65536 < (Lib.join l x.jn).length
  ·have t1:decide ((65536:Int) < ((Lib.join l x.jn).length:Int))=true:=decide_eq_true (by omega);have HB:=zh hbig;clear hbig;go_wp2_with fail
   go_ret
   exact .inl ⟨HB.out,rfl,rfl⟩
  have t1:decide ((65536:Int) < ((Lib.join l x.jn).length:Int))=false:=decide_eq_false (by omega);have hbig':(Lib.join l x.jn).length <= 65536:=by omega
  clear hbig;go_wp2_with fail
  go_at_call 37
  refine (joins_any HO.out x.jn (by omega) (by omega)).mono ?_;rintro e w2 ⟨rfl,hf⟩;have hr2:RcR w2 r x v:=⟨H.out.1.fr hf (by simp),Own.fr H.out.2 hf (by simp)⟩;have ho2:OwnL w2 (.slice A l.length c) l:=Own.fr HO.out hf (by simp);have f4:=hr2.1.frozen 4;have f5:=hr2.1.frozen 5;obtain ⟨-, -, -, -, d4,d5⟩:=rc_cells hr2.1;have HO2:=zh ho2;have HF:=zh hf;have HR:=zh hr2;clear ho2 hf hr2;obtain ⟨tx,htx⟩:∃ tx,Lib.join l x.jn=tx:=⟨_,rfl⟩;rw [htx];have HTX:=zh htx;clear htx;go_wp2_with fail
  go_ret
  have hfr:Fr [r] w2 ((w2.setCell ⟨r,4,none⟩ (.string ⟨tx.toArray⟩)).setCell ⟨r,5,none⟩ (.slice A l.length c)):=((Fr.refl _ _).setCell (.inl (by simp)) _).setCell (.inl (by simp)) _;have htx:=HTX.out;refine .inr ⟨hbig',rfl,⟨_,HR.out.fr_put (y:={ x with text:=Lib.join l x.jn,l:=l }) hfr ?_ HO2.out⟩,(Fr.nil_ HF.out).trans hfr⟩;rw [htx];exact (HR.out.1.put 4 _).put 5 _
end Go.Proofs.YtfofechcccodeaaGreatDoor.F
namespace Go.Proofs.YtfofechcccodeaaGreatDoor.F
open Go.RowKit Go.Proofs.Tryz
set_option linter.unusedVariables false
set_option linter.unusedSimpArgs false
set_option maxRecDepth 100000
set_option maxHeartbeats 1000000
theorem calls_gen {P:Program} {f:FuncId} {args:Array Value} {R:Ending->World->Prop} {w:World} (h:∀ W,W=w->Calls P f args W R):Calls P f args w R:=h w rfl
def PutPost (w:World) (r:Nat) (x:Rc) (l:List (List UInt8)) (e:Ending) (w':World):Prop:=
 (1000 < l.length/\e = .returned (errV 5)/\w=w') ∨ (l.length <= 1000/\65536 < (Lib.join l x.jn).length/\e = .returned (errV 13)/\RcM w' r x/\Fr [] w w') ∨
  (l.length <= 1000/\(Lib.join l x.jn).length <= 65536/\e = .returned .nilIface/\RcM w' r { x with text:=Lib.join l x.jn,l:=l }/\Fr [r] w w')
theorem put_any {w:World} {r:Nat} {x:Rc} (h:RcM w r x) (k:Nat) (hk:1 <= k) (hk2:k <= 100000) (hl:x.l.length <= 1000) (s:List UInt8) (hb:x.jn.length * max k x.l.length+Lib.lens x.l+s.length <= 1000000000000) :
    Calls prog 10 #[.pointer (some ⟨r,0,none⟩),.int .i64 (k:Int),.string ⟨s.toArray⟩] w (PutPost w r x (putM x.l k s)):=by
 have hpl:=put_len x.l k s;obtain ⟨v,h⟩:=h;obtain ⟨A,cap,hv,hl1,hl2,-, -⟩:=OwnL.val h.2;subst hv;obtain ⟨-, -, -, -, -, d5⟩:=rc_cells h.1;obtain ⟨n,hn⟩:∃ n,n=max k x.l.length:=⟨_,rfl⟩;have H:=zh h;have t0:((k:Int) == 0)=false:=beq_eq_false_iff_ne.2 (by omega);have t1:decide ((0:Int) < (k:Int))=true:=decide_eq_true (by omega);have HM:Hid (max (k:Int) (x.l.length:Int)=(n:Int)):=zh (by omega);have HN:=zh hn;clear h;rw [<-hn] at hpl hb;clear hn;go_enter func10,ntmps10
 go_wp2_with (refine wpList_max rfl (.tmp 18) (.tmp 23) _ rfl .i64 _ _ _ (by rfl) (by rfl) HM.out ?_)
 go_at_call 24
 refine (made_any ⟨_,H.out⟩ n (by have:=HN.out;omega)).mono ?_;intro e w2 hp;rcases hp with ⟨hbig,rfl,rfl⟩ | ⟨hn2,g,rfl,hg,hbk,hf⟩
 ·unfold errV;go_wp2_with fail
  go_ret
  exact .inl ⟨by rw [hpl];exact hbig,rfl,rfl⟩
 have hgf:=hbk.frozen (k - 1);have hkn:k <= n:=by have:=HN.out;omega
 obtain ⟨j,hj⟩:∃ j,k=j+1:=⟨k - 1,by omega⟩;have hcell:=hbk.cell_ (i:=k - 1) (strVals_get (padM x.l n) (j:=k - 1) (by rw [pad_len];omega) |> fun h=>by simpa using h);have hwr:IntKind.i64.wrap ((k:Int) - 1)=((k - 1:Nat):Int):=by rw [IntKind.wrap_i64];omega
 have hpm:putM x.l k s=(padM x.l n).set (k - 1) s:=by rw [putM,<-HN.out]
 have hkI:((k - 1:Nat):Int) < (n:Int):=by omega
 have hr2:RcR w2 r x (.slice A x.l.length cap):=⟨H.out.1.fr hf (by simp),Own.fr H.out.2 hf (by simp)⟩;have hrg:g ≠ r:=by have:=H.out.1.lt;omega
 have HBK:=zh hbk;have HF:=zh hf;have HR:=zh hr2;have HPM:=zh hpm;have HJ:=zh hj;obtain ⟨q,hq⟩:∃ q,k - 1=q:=⟨_,rfl⟩;rw [hq] at hgf hcell hwr hkI;have HQ:=zh hq;clear hbk hf hr2 hpm hj hq;go_wp2_with fail
 go_at_call 25
 refine calls_gen fun V hV=>?_;have hfV:Fr [g] w2 V:=by rw [hV];exact (Fr.refl _ _).setCell (.inl (by simp)) _
 have hbV:Bk V g 9 (strVals (putM x.l k s)).toArray:=by
  rw [hV,HPM.out];have:=HBK.out.put q (.string ⟨s.toArray⟩);have e:(strVals ((padM x.l n).set (k - 1) s)).toArray=(strVals (padM x.l n)).toArray.setIfInBounds q (.string ⟨s.toArray⟩):=by rw [HQ.out];simp [strVals,List.map_set]
  rw [e];exact this
 have hrV:RcM V r x:=⟨_,HR.out.1.fr hfV (by simpa using Ne.symm hrg),Own.fr HR.out.2 hfV (fun b hb2=>by have:=Own.lt H.out.2 b hb2;simp;omega)⟩;have hoV:OwnL V (.slice (some ⟨g,0,none⟩) n n) (putM x.l k s):=by have:=own_of_bk hbV (by rw [hpl];unfold maxLen;omega);rwa [hpl] at this
 have hfw:Fr [] w V:=HF.out.trans' hfV (fun b hb2=>by simp at hb2;subst hb2;exact .inr hg);clear hV;have hlens:=put_lens x.l k s;refine (take_any hrV hpl hoV (by rw [hpl];exact hn2) (by rw [hpl];omega)).mono ?_;intro e w3 hp;rcases hp with ⟨hbig,rfl,rfl⟩ | ⟨hbig,rfl,hr3,hf3⟩
 ·have HFIN:=zh (show RcM V r x/\Fr [] w V/\65536 < (Lib.join (putM x.l k s) x.jn).length from ⟨hrV,hfw,hbig⟩);clear hrV hfw hbig hoV hbV hfV hlens hpl;unfold errV;go_wp2_with fail
  go_ret
  exact .inr (.inl ⟨by rw [put_len,<-HN.out];exact hn2,HFIN.out.2.2,rfl,HFIN.out.1,HFIN.out.2.1⟩)
 have HFIN:=zh (show RcM w3 r { x with text:=Lib.join (putM x.l k s) x.jn,l:=putM x.l k s }/\Fr [r] w w3/\(Lib.join (putM x.l k s) x.jn).length <= 65536 from ⟨hr3,(Fr.nil_ hfw).trans hf3,hbig⟩);clear hrV hfw hbig hoV hbV hfV hlens hr3 hf3 hpl;go_wp2_with fail
 go_ret
 exact .inr (.inr ⟨by rw [put_len,<-HN.out];exact hn2,HFIN.out.2.2,rfl,HFIN.out.1,HFIN.out.2.1⟩)
theorem resize_any {w:World} {r:Nat} {x:Rc} (h:RcM w r x) (n:Nat) (hk2:n <= 100000) (hb:x.jn.length * n+Lib.lens x.l <= 1000000000000) :
    Calls prog 12 #[.pointer (some ⟨r,0,none⟩),.int .i64 (n:Int)] w (PutPost w r x (padM x.l n)):=by
 have hpl:=pad_len x.l n;obtain ⟨v,h⟩:=h;have H:=zh h;clear h;go_enter func12,ntmps12
 go_wp2_with fail
 go_at_call 24
 refine (made_any ⟨_,H.out⟩ n hk2).mono ?_;intro e w2 hp;rcases hp with ⟨hbig,rfl,rfl⟩ | ⟨hn2,g,rfl,hg,hbk,hf⟩
 ·unfold errV;go_wp2_with fail
  go_ret
  exact .inl ⟨by rw [hpl];exact hbig,rfl,rfl⟩
 have hr2:RcM w2 r x:=⟨v,H.out.1.fr hf (by simp),Own.fr H.out.2 hf (by simp)⟩;have hoV:OwnL w2 (.slice (some ⟨g,0,none⟩) n n) (padM x.l n):=by have:=own_of_bk hbk (by rw [hpl];unfold maxLen;omega);rwa [hpl] at this
 have HF:=zh hf;have HR:=zh hr2;have HO:=zh hoV;clear hbk hf hr2 hoV;have hlens:=pad_lens x.l n;go_wp2_with fail
 go_at_call 25
 refine (take_any HR.out hpl HO.out (by rw [hpl];exact hn2) (by rw [hpl];omega)).mono ?_;intro e w3 hp;rcases hp with ⟨hbig,rfl,rfl⟩ | ⟨hbig,rfl,hr3,hf3⟩
 ·have HB:=zh hbig;clear hbig hpl hlens;unfold errV;go_wp2_with fail
  go_ret
  exact .inr (.inl ⟨by rw [pad_len];exact hn2,HB.out,rfl,HR.out,HF.out⟩)
 have HFIN:=zh (show RcM w3 r { x with text:=Lib.join (padM x.l n) x.jn,l:=padM x.l n }/\Fr [r] w w3/\(Lib.join (padM x.l n) x.jn).length <= 65536 from ⟨hr3,(Fr.nil_ HF.out).trans hf3,hbig⟩);clear hbig hr3 hf3 hpl hlens;go_wp2_with fail
 go_ret
 exact .inr (.inr ⟨by rw [pad_len];exact hn2,HFIN.out.2.2,rfl,HFIN.out.1,HFIN.out.2.1⟩)
end Go.Proofs.YtfofechcccodeaaGreatDoor.F
