/-
  Small texts in one (Hr2). No conditions.
-/
import Derived.Test.YtfofechcccodeaaGreatDoorQbj
namespace Go.Proofs.YtfofechcccodeaaGreatDoor.F
open Go.RowKit Go.Proofs.Tryz
set_option linter.unusedVariables false
set_option linter.unusedSimpArgs false
set_option maxRecDepth 100000
set_option maxHeartbeats 4000000
def SplitOk (w:World) (fs s:List UInt8) (l:List (List UInt8)):Prop:=
 ∀ W,Fr [] w W->Calls prog 23 #[.string ⟨fs.toArray⟩,.string ⟨s.toArray⟩] W fun e w'=>∃ v,e = .returned v/\OwnL w' v l/\Fr [] W w'
def RSetP (w:World) (fs:List UInt8) (x:Rc) (v:Value) (s:List UInt8) (l:List (List UInt8)) (e:Ending) (w':World):Prop:=
 Fr [] w w'/\((1000 < l.length/\e = .returned (.tuple #[recV fs x v,.int .i64 5])) ∨ (l.length <= 1000/\∃ u,e = .returned (.tuple #[recV fs { x with text:=s,l:=l } u,.int .i64 0])/\OwnL w' u l))
theorem rset_any {w:World} (fs:List UInt8) (x:Rc) {v:Value} (ov:OwnL w v x.l) (s:List UInt8) (hs:s.length <= 500) {l:List (List UInt8)} (hl:SplitOk w fs s l) :
    Calls prog 9 #[recV fs x v,.string ⟨s.toArray⟩] w (RSetP w fs x v s l):=by
 obtain ⟨B,bcap,rfl,-, -, -⟩:=OwnL.val ov;obtain ⟨PP,hPP⟩:∃ PP,PP=RSetP w fs x (.slice B x.l.length bcap) s l:=⟨_,rfl⟩;rw [<-hPP];have HP:=zh hPP;have HL:=zh hl;have t0:decide ((65536:Int) < (s.length:Int))=false:=decide_eq_false (by omega);clear hPP ov hl;go_enter func9,ntmps9
 unfold recV recC;go_upto_region 1 with fail
 obtain ⟨w1,hw1⟩:∃ w1,w1=(w.alloc (.cells (recC fs x (.slice B x.l.length bcap)) 29)).alloc (.cells #[.string ⟨#[]⟩,.string ⟨#[]⟩,.string ⟨#[]⟩,.slice none 0 0] 29):=⟨_,rfl⟩;have hrb:=RB.new w fs x (.slice B x.l.length bcap) w1 hw1;obtain ⟨h,hh⟩:∃ h,h=w.heap.size+1:=⟨_,rfl⟩;obtain ⟨g,hg⟩:∃ g,g=w.heap.size:=⟨_,rfl⟩;unfold recC at hw1;rw [<-hw1,<-hh,<-hg];rw [<-hh,<-hg] at hrb;clear hw1 hg hh;obtain ⟨c0,c1,c2,c3⟩:=rec_row hrb.b1;have hj:=HL.out w1 hrb.fr;have HJ:=zh hj;have HRB:=zh hrb;clear hj hrb;go_upto_region 4 with (go_at_call 23;refine HJ.out.mono ?_;rintro e w2 ⟨u,rfl,ho,hf⟩;have HO:=zh ho;obtain ⟨A,cap,hv,-, -, -⟩:=OwnL.val ho;subst hv;have HRB2:=zh (HRB.out.fr_nil hf);clear ho hf c0 c1 c2 c3;obtain ⟨c0,c1,c2,c3⟩:=rec_row HRB2.out.b1)
 have k2:=HRB2.out.b1.frozen 2;have k3:=HRB2.out.b1.frozen 3;by_cases hbig:1000 < l.length
 ·have t1:decide ((1000:Int) < (l.length:Int))=true:=decide_eq_true (by omega);have HB:=zh hbig;clear hbig k2 k3;have HZ:=zh (HRB2.out.two (Fr.refl _ _));go_wp2_with (refine wpList_store_bkA rfl 29 _ _ rfl h _ rfl rfl _ _ HZ.out rec_size (by first | rfl | simp) (by simp [Value.oneCell']) ?_;intro w9 hb9 hf9;have HB9:=zh hb9;have HF9:=zh hf9;clear hb9 hf9)
  refine rec_end (fs:=fs) (x:=x) (v := .slice B x.l.length bcap) (by rfl) HB9.out (by rfl) (by rfl) ?_;rw [HP.out];exact ⟨HRB2.out.ends (Fr.refl _ _) HF9.out,.inl ⟨HB.out,rfl⟩⟩
 have t1:decide ((1000:Int) < (l.length:Int))=false:=decide_eq_false (by omega);have HB:Hid (l.length <= 1000):=zh (by omega);clear hbig;go_upto_region 8 with fail
 obtain ⟨w3,hw3⟩:∃ w3,w3=(w2.setCell ⟨g,2,none⟩ (.string ⟨s.toArray⟩)).setCell ⟨g,3,none⟩ (.slice A l.length cap):=⟨_,rfl⟩;have hf3:Fr [g] w2 w3:=by rw [hw3];exact ((Fr.refl [g] w2).setCell (.inl (by simp)) _).setCell (.inl (by simp)) _
 have hb3:Bk w3 g 29 #[.string ⟨fs.toArray⟩,.string ⟨x.jn.toArray⟩,.string ⟨s.toArray⟩,.slice A l.length cap]:=by rw [hw3];exact (HRB2.out.b1.put 2 _).put 3 _
 rw [<-hw3];have d0:=hb3.cell_ (i:=0) rfl;have d1:=hb3.cell_ (i:=1) rfl;have d2:=hb3.cell_ (i:=2) rfl;have d3:=hb3.cell_ (i:=3) rfl;have HZ:=zh (HRB2.out.two hf3);have HF3:=zh hf3;clear hw3 hf3 hb3 c0 c1 c2 c3 k2 k3 t1;go_wp2_with (refine wpList_store_bkA rfl 29 _ _ rfl h _ rfl rfl _ _ HZ.out rec_size (by first | rfl | simp) (by simp [Value.oneCell']) ?_;intro w9 hb9 hf9;have HB9:=zh hb9;have HF9:=zh hf9;clear hb9 hf9)
 refine rec_end (fs:=fs) (x:={ x with text:=s,l:=l }) (v := .slice A l.length cap) (by rfl) HB9.out (by rfl) (by rfl) ?_;rw [HP.out];refine ⟨HRB2.out.ends HF3.out HF9.out,.inr ⟨HB.out,_,rfl,?_⟩⟩;have hne:∀ k,(Value.slice A l.length cap).ownBlock=some k->k ≠ g/\k ≠ h:=fun k hk=>⟨fun e=>Own.ne_bk HO.out HRB2.out.b1 (by decide) (e ▸ hk),fun e=>Own.ne_bk HO.out HRB2.out.b2 (by decide) (e ▸ hk)⟩;exact Own.fr (Own.fr HO.out HF3.out (fun k hk=>by simp;exact (hne k hk).1)) HF9.out (fun k hk=>by simp;exact (hne k hk).2)
theorem OwnL.put {w:World} {A:Option Addr} {n c:Nat} {l:List (List UInt8)} (h:OwnL w (.slice A n c) l) {j:Nat} (hj:j < l.length) (s:List UInt8):∃ b off,A=some ⟨b,off,none⟩/\w.cell? ⟨b,off+j,none⟩=some (.string ⟨(l.getD j []).toArray⟩)/\w.frozen? ⟨b,off+j,none⟩=false/\(∃ cs,Bk w b 9 cs) /\
    OwnL (w.setCell ⟨b,off+j,none⟩ (.string ⟨s.toArray⟩)) (.slice A n c) (l.set j s):=by
 have h0:=h;obtain ⟨A',cap,hv,h1,h2,h3⟩:=h
 injection hv with e1 e2 e3
 subst e1 e2 e3;rcases h3 with ⟨rfl,h3⟩ | ⟨g,off,cur,rfl,hg,h4,h5⟩
 ·rw [strVals_length] at h1;omega
 have hb:Bk w g 9 cur:=hg;obtain ⟨b,o2,e,hc⟩:=OwnL.cell h0 hj
 injection e with e
 injection e with e1 e2
 subst e1 e2;rw [strVals_length] at h5 h1;have e3:strVals (l.set j s)=(strVals l).set j (.string ⟨s.toArray⟩):=by simp [strVals,List.map_set]
 have e4:(strVals (l.set j s)).length=l.length:=by rw [strVals_length,List.length_set]
 refine ⟨_,_,rfl,hc,hb.frozen _,⟨_,hb⟩,some ⟨g,off,none⟩,c,by rw [e4,strVals_length],by rw [e4];exact h1,h2,.inr ⟨g,off,cur.setIfInBounds (off+j) (.string ⟨s.toArray⟩),rfl,hb.put _ _,by simpa using h4,?_⟩⟩;rw [e4,e3,<-h5];simp only [Array.toList_setIfInBounds];rw [List.drop_set,if_neg (by omega),show off+j - off=j by omega,List.take_set]
def lenV:Value->Nat | .slice _ n _=>n | _=>0
def RPutP (w:World) (fs:List UInt8) (x:Rc) (v:Value) (l:List (List UInt8)) (e:Ending) (w':World):Prop:=
 Fr [] w w'/\((65536 < (Lib.join l x.jn).length/\e = .returned (.tuple #[recV fs x v,.int .i64 13])) ∨ ((Lib.join l x.jn).length <= 65536/\∃ u,e = .returned (.tuple #[recV fs { x with text:=Lib.join l x.jn,l:=l } u,.int .i64 0])/\OwnL w' u l))
def RzRel (w0:World) (G:Nat->List (List UInt8)) (n:Nat) (v6 v7:Value) (wr:World):Prop:=
 ∃ j:Nat,v7 = .int .i64 ((j:Int)+1)/\OwnL wr v6 (G j)/\(∀ g,v6.ownBlock=some g->w0.heap.size <= g)/\Fr [] w0 wr/\j <= n
theorem pad_next (l:List (List UInt8)) (text:List UInt8) (n j:Nat) (h:j < n):(padM l n).take (j+1)=(padM l n).take j ++ [getM text l ((j:Int)+1)]:=by
 have hl:=pad_len l n;have e1:=pad_get l n j;rw [if_pos h] at e1
 have e2:getM text l ((j:Int)+1)=l.getD j []:=by
  have:=getM_nat text l (j+1) (by omega)
  simpa using this
 rw [takes_next _ j (by omega),e2,<-e1,List.getD_eq_getElem?_getD,List.getElem?_eq_getElem (by omega)];rfl
theorem rresize_any {w:World} (fs:List UInt8) (x:Rc) {v:Value} (ov:OwnL w v x.l) (n:Nat) (hn:n <= 1000) (hb:(Lib.join (padM x.l n) x.jn).length <= 1000000000) :
    Calls prog 13 #[recV fs x v,.int .i64 (n:Int)] w (RPutP w fs x v (padM x.l n)):=by
 obtain ⟨B,bcap,rfl,-, -, -⟩:=OwnL.val ov;obtain ⟨i0,hi0,hz0,hz1,hz2⟩:=strParts;obtain ⟨PP,hPP⟩:∃ PP,PP=RPutP w fs x (.slice B x.l.length bcap) (padM x.l n):=⟨_,rfl⟩;rw [<-hPP];have hpl:=pad_len x.l n;obtain ⟨G,hG⟩:∃ G,G=padM x.l n:=⟨_,rfl⟩;rw [<-hG] at hpl hb;have HP:=zh hPP;have HV:=zh ov;have HG:=zh hG;have HPL:=zh hpl;have HB:=zh hb;have t0:decide ((n:Int) < 0)=false:=decide_eq_false (by omega);have t1:decide ((1000:Int) < (n:Int))=false:=decide_eq_false (by omega);clear hPP ov hG hpl hb;go_enter func13,ntmps13
 unfold recV recC;go_upto_region 1 with fail
 obtain ⟨w1,hw1⟩:∃ w1,w1=(w.alloc (.cells (recC fs x (.slice B x.l.length bcap)) 29)).alloc (.cells #[.string ⟨#[]⟩,.string ⟨#[]⟩,.string ⟨#[]⟩,.slice none 0 0] 29):=⟨_,rfl⟩;have hrb:=RB.new w fs x (.slice B x.l.length bcap) w1 hw1;obtain ⟨h,hh⟩:∃ h,h=w.heap.size+1:=⟨_,rfl⟩;obtain ⟨g,hg⟩:∃ g,g=w.heap.size:=⟨_,rfl⟩;unfold recC at hw1;rw [<-hw1,<-hh,<-hg];rw [<-hh,<-hg] at hrb;clear hw1 hg hh;have HRB:=zh hrb;clear hrb;go_upto_region 7 with fail
 clear t0 t1
 go_loopw [6,7] (RzRel w1 (fun j=>G.take j) n) (fun _ v7 _=>n+1 - (intOf v7).toNat)
 case atStart=>exact ⟨0,by rfl,by simpa [OwnL,strVals] using Own.nil_ w1 9,fun g hg=>by simp [Value.ownBlock] at hg,Fr.refl _ _,by omega⟩
 case round=>
  obtain ⟨j,rfl,ho,hfr,hf,hi⟩:=hrel;have hln:(G.take j).length=j:=by have:=HPL.out;simp;omega
  obtain ⟨A,cap,hv,hl1,hl2,-, -⟩:=OwnL.val ho;rw [hln] at hv hl1;subst hv;unfold maxLen at hl2;have HFR:=zh hfr;have HO:=zh ho;have HF:=zh hf;have HLN:=zh hln;have hrb2:=HRB.out.fr_nil hf;obtain ⟨c0,c1,c2,c3⟩:=rec_row hrb2.b1;have HRB2:=zh hrb2;clear ho hf hfr hln hrb2;by_cases hlt:j < n
  ·have hnx:=pad_next x.l x.text n j hlt;rw [<-HG.out] at hnx;have hov:OwnL wr (.slice B x.l.length bcap) x.l:=Own.fr HV.out HRB2.out.fr (by simp);have hge:=rget_any fs x hov ((j:Int)+1);unfold recV recC at hge;obtain ⟨el,hel⟩:∃ el,el=getM x.text x.l ((j:Int)+1):=⟨_,rfl⟩;rw [<-hel] at hnx hge;have HNX:=zh hnx;have HGE:=zh hge;have tl:decide ((j:Int)+1 <= (n:Int))=true:=decide_eq_true (by omega);have tl2:decide ((n:Int) < (j:Int)+1)=false:=decide_eq_false (by omega);have hwr:IntKind.i64.wrap ((j:Int)+1+1)=((j+1:Nat):Int)+1:=by rw [IntKind.wrap_i64];omega
   clear hnx hge hel hov
   go_wp2_with (first
    | (go_at_call 21;refine HGE.out.mono ?_;rintro e w4 ⟨rfl,hf4⟩;have HF4:=zh hf4;clear hf4)
    | (at_builtin;refine wpList_append_OwnS rfl (.tmp 19) (.tmp 23) 27 rfl 9 i0 _ underlying27 hi0 hz0 hz1 rfl (.slice A j cap) (strVals (G.take j)) j (by rw [strVals_length];exact HLN.out) (by rfl) (Own.fr HO.out (HF4.out.alloc _) (by simp)) (some ⟨w4.heap.size,0,none⟩) 1 1 (by rfl) [.string ⟨el.toArray⟩] (one_str w4 _) rfl (by simp [Value.oneCell']) (by unfold maxLen;omega) (by rw [hz2];omega) ?_;intro A5 c5 w5 ho5 hg5 hl5;have HO5:=zh ho5;have HG5:=zh hg5;have HL5:=zh hl5;clear ho5 hg5 hl5))
   have hoL:OwnL w5 (.slice A5 (j+1) c5) (G.take (j+1)):=by have:=HO5.out;unfold OwnL;rw [HNX.out,strVals_append];exact this
   have hfr5:Fr [] w1 w5:=(HF.out.trans (HF4.out.alloc _)).grown HG5.out (fun g hg => .inr (HFR.out g hg))
   have hnew:∀ g,(Value.slice A5 (j+1) c5).ownBlock=some g->w1.heap.size <= g:=fun g hg=>by
    rcases HL5.out with e | e
    ·exact HFR.out g (by rw [<-e];exact hg)
    rw [hg] at e;injection e with e;have:=HF.out.size;have:=HF4.out.size;simp at e;omega
   have HOL:=zh hoL;have HFR5:=zh hfr5;have HNEW:=zh hnew;clear hoL hfr5 hnew c0 c1 c2 c3;go_wp2_with fail
   go_roundw
   case rel=>exact ⟨j+1,by go_num,HOL.out,HNEW.out,HFR5.out,by omega⟩
   case measure=>simp [intOf] <;> omega
  obtain rfl:j=n:=by omega
  have tl:decide ((j:Int)+1 <= (j:Int))=false:=decide_eq_false (by omega);have tl2:decide ((j:Int) < (j:Int)+1)=true:=decide_eq_true (by omega);have hog:OwnL wr (.slice A j cap) G:=by have:=HO.out;dsimp only at this;rw [List.take_of_length_le (by have:=HPL.out;omega)] at this;exact this
  have hov:OwnL wr (.slice B x.l.length bcap) x.l:=Own.fr HV.out HRB2.out.fr (by simp);have hm:=rmade_any fs x hov hog (by have:=HPL.out;omega) HB.out;unfold recV recC at hm;have HM:=zh hm;have HOG:=zh hog;clear hog hov hm;go_wp2_with fail
  go_at_call 26
  refine HM.out.mono ?_;rintro e w4 ⟨hf4,hp⟩;have HF4:=zh hf4;have HZ:=zh ((HRB2.out.fr_nil hf4).two (Fr.refl _ _));clear hf4;rcases hp with ⟨hbig,rfl⟩ | ⟨hbig,rfl⟩
  ·have HBG:=zh hbig;clear hbig;unfold recV recC;go_wp2_with (refine wpList_store_bkA rfl 29 _ _ rfl h _ rfl rfl _ _ HZ.out rec_size (by first | rfl | simp) (by simp [Value.oneCell']) ?_;intro w9 hb9 hf9;have HB9:=zh hb9;have HF9:=zh hf9;clear hb9 hf9)
   refine rec_end (fs:=fs) (x:=x) (v := .slice B x.l.length bcap) (by rfl) HB9.out (by rfl) (by rfl) ?_;rw [HP.out,<-HG.out];exact ⟨(HRB2.out.fr_nil HF4.out).ends (Fr.refl _ _) HF9.out,.inl ⟨HBG.out,rfl⟩⟩
  have HBG:=zh hbig;clear hbig;unfold recV recC;go_wp2_with (refine wpList_store_bkA rfl 29 _ _ rfl h _ rfl rfl _ _ HZ.out rec_size (by first | rfl | simp) (by simp [Value.oneCell']) ?_;intro w9 hb9 hf9;have HB9:=zh hb9;have HF9:=zh hf9;clear hb9 hf9)
  refine rec_end (fs:=fs) (x:={ x with text:=Lib.join G x.jn,l:=G }) (v := .slice A j cap) (by rfl) HB9.out (by rfl) (by rfl) ?_;rw [HP.out,<-HG.out];refine ⟨(HRB2.out.fr_nil HF4.out).ends (Fr.refl _ _) HF9.out,.inr ⟨HBG.out,_,rfl,?_⟩⟩;exact Own.fr (Own.fr HOG.out HF4.out (by simp)) HF9.out (fun k hk=>by simp;exact fun e=>Own.ne_bk HOG.out HRB2.out.b2 (by decide) (e ▸ hk))
theorem rresize_out {w:World} (fs:List UInt8) (x:Rc) {v:Value} (ov:OwnL w v x.l) (n:Int) (hn:wrongN n) :
    Calls prog 13 #[recV fs x v,.int .i64 n] w fun e w'=>e = .returned (.tuple #[recV fs x v,.int .i64 (wrongC n)])/\Fr [] w w':=by
 obtain ⟨B,bcap,rfl,-, -, -⟩:=OwnL.val ov;obtain ⟨PP,hPP⟩:∃ PP:Ending->World->Prop,PP=fun e w'=>e = .returned (.tuple #[recV fs x (.slice B x.l.length bcap),.int .i64 (wrongC n)])/\Fr [] w w':=⟨_,rfl⟩;rw [<-hPP];have HP:=zh hPP;have HN:=zh hn;clear hPP ov hn;go_enter func13,ntmps13
 unfold recV recC;go_upto_region 1 with fail
 obtain ⟨w1,hw1⟩:∃ w1,w1=(w.alloc (.cells (recC fs x (.slice B x.l.length bcap)) 29)).alloc (.cells #[.string ⟨#[]⟩,.string ⟨#[]⟩,.string ⟨#[]⟩,.slice none 0 0] 29):=⟨_,rfl⟩;have hrb:=RB.new w fs x (.slice B x.l.length bcap) w1 hw1;obtain ⟨h,hh⟩:∃ h,h=w.heap.size+1:=⟨_,rfl⟩;obtain ⟨g,hg⟩:∃ g,g=w.heap.size:=⟨_,rfl⟩;unfold recC at hw1;rw [<-hw1,<-hh,<-hg];rw [<-hh,<-hg] at hrb;clear hw1 hg hh;obtain ⟨c0,c1,c2,c3⟩:=rec_row hrb.b1;have HRB:=zh hrb;have HZ:=zh (hrb.two (Fr.refl _ _));clear hrb;by_cases h0:n < 0
 ·have t0:decide (n < 0)=true:=decide_eq_true h0;have E1:Hid (wrongC n=1):=zh (if_pos h0);clear h0;go_wp2_with (refine wpList_store_bkA rfl 29 _ _ rfl h _ rfl rfl _ _ HZ.out rec_size (by first | rfl | simp) (by simp [Value.oneCell']) ?_;intro w9 hb9 hf9;have HB9:=zh hb9;have HF9:=zh hf9;clear hb9 hf9)
  refine rec_end (fs:=fs) (x:=x) (v := .slice B x.l.length bcap) (by rfl) HB9.out (by rfl) (by rfl) ?_;rw [HP.out,E1.out];exact ⟨rfl,HRB.out.ends (Fr.refl _ _) HF9.out⟩
 have t0:decide (n < 0)=false:=decide_eq_false h0;have t1:decide ((1000:Int) < n)=true:=decide_eq_true (by rcases HN.out with h | h <;> omega)
 have E1:Hid (wrongC n=5):=zh (if_neg h0);clear h0;go_wp2_with (refine wpList_store_bkA rfl 29 _ _ rfl h _ rfl rfl _ _ HZ.out rec_size (by first | rfl | simp) (by simp [Value.oneCell']) ?_;intro w9 hb9 hf9;have HB9:=zh hb9;have HF9:=zh hf9;clear hb9 hf9)
 refine rec_end (fs:=fs) (x:=x) (v := .slice B x.l.length bcap) (by rfl) HB9.out (by rfl) (by rfl) ?_;rw [HP.out,E1.out];exact ⟨rfl,HRB.out.ends (Fr.refl _ _) HF9.out⟩
theorem rput_out {w:World} (fs:List UInt8) (x:Rc) {v:Value} (ov:OwnL w v x.l) (n:Int) (hn:wrongN n) (s:ByteArray) :
    Calls prog 11 #[recV fs x v,.int .i64 n,.string s] w fun e w'=>e = .returned (.tuple #[recV fs x v,.int .i64 (wrongC n)])/\Fr [] w w':=by
 obtain ⟨B,bcap,rfl,-, -, -⟩:=OwnL.val ov;obtain ⟨PP,hPP⟩:∃ PP:Ending->World->Prop,PP=fun e w'=>e = .returned (.tuple #[recV fs x (.slice B x.l.length bcap),.int .i64 (wrongC n)])/\Fr [] w w':=⟨_,rfl⟩;rw [<-hPP];have HP:=zh hPP;have HN:=zh hn;clear hPP ov hn;go_enter func11,ntmps11
 unfold recV recC;go_upto_region 1 with fail
 obtain ⟨w1,hw1⟩:∃ w1,w1=(w.alloc (.cells (recC fs x (.slice B x.l.length bcap)) 29)).alloc (.cells #[.string ⟨#[]⟩,.string ⟨#[]⟩,.string ⟨#[]⟩,.slice none 0 0] 29):=⟨_,rfl⟩;have hrb:=RB.new w fs x (.slice B x.l.length bcap) w1 hw1;obtain ⟨h,hh⟩:∃ h,h=w.heap.size+1:=⟨_,rfl⟩;obtain ⟨g,hg⟩:∃ g,g=w.heap.size:=⟨_,rfl⟩;unfold recC at hw1;rw [<-hw1,<-hh,<-hg];rw [<-hh,<-hg] at hrb;clear hw1 hg hh;obtain ⟨c0,c1,c2,c3⟩:=rec_row hrb.b1;have HRB:=zh hrb;have HZ:=zh (hrb.two (Fr.refl _ _));clear hrb;have t2:(n == 0)=false:=beq_eq_false_iff_ne.2 (by rcases HN.out with h | h <;> omega)
 by_cases h0:n < 0
 ·have t0:decide (n < 0)=true:=decide_eq_true h0;have E1:Hid (wrongC n=1):=zh (if_pos h0);clear h0;go_wp2_with (refine wpList_store_bkA rfl 29 _ _ rfl h _ rfl rfl _ _ HZ.out rec_size (by first | rfl | simp) (by simp [Value.oneCell']) ?_;intro w9 hb9 hf9;have HB9:=zh hb9;have HF9:=zh hf9;clear hb9 hf9)
  refine rec_end (fs:=fs) (x:=x) (v := .slice B x.l.length bcap) (by rfl) HB9.out (by rfl) (by rfl) ?_;rw [HP.out,E1.out];exact ⟨rfl,HRB.out.ends (Fr.refl _ _) HF9.out⟩
 have t0:decide (n < 0)=false:=decide_eq_false h0;have t1:decide ((1000:Int) < n)=true:=decide_eq_true (by rcases HN.out with h | h <;> omega)
 have E1:Hid (wrongC n=5):=zh (if_neg h0);clear h0;go_wp2_with (refine wpList_store_bkA rfl 29 _ _ rfl h _ rfl rfl _ _ HZ.out rec_size (by first | rfl | simp) (by simp [Value.oneCell']) ?_;intro w9 hb9 hf9;have HB9:=zh hb9;have HF9:=zh hf9;clear hb9 hf9)
 refine rec_end (fs:=fs) (x:=x) (v := .slice B x.l.length bcap) (by rfl) HB9.out (by rfl) (by rfl) ?_;rw [HP.out,E1.out];exact ⟨rfl,HRB.out.ends (Fr.refl _ _) HF9.out⟩
theorem rput_zero {w:World} (fs:List UInt8) (x:Rc) {v:Value} (ov:OwnL w v x.l) (s:List UInt8) (hs:s.length <= 500) {l:List (List UInt8)} (hl:SplitOk w fs s l) :
    Calls prog 11 #[recV fs x v,.int .i64 0,.string ⟨s.toArray⟩] w (RSetP w fs x v s l):=by
 obtain ⟨B,bcap,rfl,-, -, -⟩:=OwnL.val ov;obtain ⟨PP,hPP⟩:∃ PP,PP=RSetP w fs x (.slice B x.l.length bcap) s l:=⟨_,rfl⟩;rw [<-hPP];have HP:=zh hPP;have HL:=zh hl;have HV:=zh ov;clear hPP ov hl;go_enter func11,ntmps11
 unfold recV recC;go_upto_region 1 with fail
 obtain ⟨w1,hw1⟩:∃ w1,w1=(w.alloc (.cells (recC fs x (.slice B x.l.length bcap)) 29)).alloc (.cells #[.string ⟨#[]⟩,.string ⟨#[]⟩,.string ⟨#[]⟩,.slice none 0 0] 29):=⟨_,rfl⟩;have hrb:=RB.new w fs x (.slice B x.l.length bcap) w1 hw1;obtain ⟨h,hh⟩:∃ h,h=w.heap.size+1:=⟨_,rfl⟩;obtain ⟨g,hg⟩:∃ g,g=w.heap.size:=⟨_,rfl⟩;unfold recC at hw1;rw [<-hw1,<-hh,<-hg];rw [<-hh,<-hg] at hrb;clear hw1 hg hh;obtain ⟨c0,c1,c2,c3⟩:=rec_row hrb.b1;have hst:=rset_any fs x (Own.fr HV.out hrb.fr (by simp):OwnL w1 (.slice B x.l.length bcap) x.l) s hs (fun W hW=>HL.out W (hrb.fr.trans hW));unfold recV recC at hst;have HRB:=zh hrb;have HST:=zh hst;clear hrb hst;go_wp2_with fail
 go_at_call 9
 refine HST.out.mono ?_;rintro e w4 ⟨hf4,hp⟩;have HF4:=zh hf4;have HZ:=zh ((HRB.out.fr_nil hf4).two (Fr.refl _ _));clear hf4;rcases hp with ⟨hbig,rfl⟩ | ⟨hbig,u,rfl,hu⟩
 ·have HBG:=zh hbig;clear hbig;unfold recV recC;go_wp2_with (refine wpList_store_bkA rfl 29 _ _ rfl h _ rfl rfl _ _ HZ.out rec_size (by first | rfl | simp) (by simp [Value.oneCell']) ?_;intro w9 hb9 hf9;have HB9:=zh hb9;have HF9:=zh hf9;clear hb9 hf9)
  refine rec_end (fs:=fs) (x:=x) (v := .slice B x.l.length bcap) (by rfl) HB9.out (by rfl) (by rfl) ?_;rw [HP.out];exact ⟨(HRB.out.fr_nil HF4.out).ends (Fr.refl _ _) HF9.out,.inl ⟨HBG.out,rfl⟩⟩
 have HBG:=zh hbig;clear hbig;unfold recV recC;obtain ⟨A,cap,rfl,-, -, -⟩:=OwnL.val hu;have HU:=zh hu;clear hu;go_wp2_with (refine wpList_store_bkA rfl 29 _ _ rfl h _ rfl rfl _ _ HZ.out rec_size (by first | rfl | simp) (by simp [Value.oneCell']) ?_;intro w9 hb9 hf9;have HB9:=zh hb9;have HF9:=zh hf9;clear hb9 hf9)
 refine rec_end (fs:=fs) (x:={ x with text:=s,l:=l }) (v := .slice A l.length cap) (by rfl) HB9.out (by rfl) (by rfl) ?_;rw [HP.out];refine ⟨(HRB.out.fr_nil HF4.out).ends (Fr.refl _ _) HF9.out,.inr ⟨HBG.out,_,rfl,?_⟩⟩;exact Own.fr HU.out HF9.out (fun k hk=>by simp;exact fun e=>Own.ne_bk HU.out HZ.out (by decide) (e ▸ hk))
theorem own_empty0 (w:World):OwnL (w.alloc (.cells #[] 9)) (.slice (some ⟨w.heap.size,0,none⟩) 0 0) []:=
 ⟨_,0,rfl,Nat.le_refl _,Nat.zero_le _,.inr ⟨w.heap.size,0,#[],rfl,Bk.new w _ _,by simp,by simp [strVals]⟩⟩
def PtRel (w0:World) (l:List (List UInt8)) (n:Nat) (v8:Value) (wr:World):Prop:=
 ∃ m:Nat,OwnL wr v8 (l ++ List.replicate m [])/\(∀ g,v8.ownBlock=some g->w0.heap.size <= g)/\Fr [] w0 wr/\l.length+m <= n
theorem put_pad (l:List (List UInt8)) (k m:Nat) (s:List UInt8) (hm:l.length+m=max k l.length):(l ++ List.replicate m []).set (k - 1) s=putM l k s:=by
 unfold putM padM;rw [List.take_of_length_le (by omega),show max k l.length - l.length=m by omega]
theorem rput_any {w:World} (fs:List UInt8) (x:Rc) {v:Value} (ov:OwnL w v x.l) (n:Nat) (hn1:1 <= n) (hn:n <= 1000) (hxl:x.l.length <= 1000) (s:List UInt8) (hb:(Lib.join (putM x.l n s) x.jn).length <= 1000000000) :
    Calls prog 11 #[recV fs x v,.int .i64 (n:Int),.string ⟨s.toArray⟩] w (RPutP w fs x v (putM x.l n s)):=by
 obtain ⟨B,bcap,rfl,hv1,hv2,hvat,-⟩:=OwnL.val ov;obtain ⟨i0,hi0,hz0,hz1,hz2⟩:=strParts;obtain ⟨PP,hPP⟩:∃ PP,PP=RPutP w fs x (.slice B x.l.length bcap) (putM x.l n s):=⟨_,rfl⟩;rw [<-hPP];have hpl:=put_len x.l n s;obtain ⟨G,hG⟩:∃ G,G=putM x.l n s:=⟨_,rfl⟩;rw [<-hG] at hpl hb;have HP:=zh hPP;have HV:=zh ov;have HG:=zh hG;have HPL:=zh hpl;have HB:=zh hb;have HVAT:=zh hvat
 have t0:decide ((n:Int) < 0)=false:=decide_eq_false (by omega);have t1:decide ((1000:Int) < (n:Int))=false:=decide_eq_false (by omega);have t2:((n:Int) == 0)=false:=beq_eq_false_iff_ne.2 (by omega);clear hPP ov hG hpl hb hvat
 unfold maxLen at hv2;go_enter func11,ntmps11
 unfold recV recC;go_upto_region 1 with fail
 obtain ⟨w1,hw1⟩:∃ w1,w1=(w.alloc (.cells (recC fs x (.slice B x.l.length bcap)) 29)).alloc (.cells #[.string ⟨#[]⟩,.string ⟨#[]⟩,.string ⟨#[]⟩,.slice none 0 0] 29):=⟨_,rfl⟩;have hrb:=RB.new w fs x (.slice B x.l.length bcap) w1 hw1;obtain ⟨h,hh⟩:∃ h,h=w.heap.size+1:=⟨_,rfl⟩;obtain ⟨g,hg⟩:∃ g,g=w.heap.size:=⟨_,rfl⟩;unfold recC at hw1;rw [<-hw1,<-hh,<-hg];rw [<-hh,<-hg] at hrb;clear hw1 hg hh;go_upto_region 7 with fail
 clear t0 t1 t2;obtain ⟨b0,b1,b2,b3⟩:=rec_row hrb.b1;have c3:∀ O,(w1.alloc O).cell? ⟨g,3,none⟩=some (.slice B x.l.length bcap):=fun O=>by rw [World.cell?_alloc_some w1 _ O (by rw [b3];rfl)];exact b3
 have HRB:=zh hrb;clear hrb b0 b1 b2 b3;obtain ⟨m0,hm0⟩:∃ m,m=x.l.length:=⟨_,rfl⟩;have HM0:=zh hm0;rw [<-hm0] at hv1 hxl c3 ⊢; clear hm0;have hva:At w1 B (strVals x.l):=(Own.at_ (Own.fr HV.out HRB.out.fr (by simp):OwnL w1 (.slice B x.l.length bcap) x.l)) |> fun ⟨A,c,e,h,_⟩=>by injection e with e1;rw [e1];exact h
 have HVB:Hid (At (w1.alloc (.cells #[] 9)) B (strVals x.l)):=zh (hva.alloc _);clear hva;go_upto_region 8 with (at_builtin;refine wpList_append_OwnS rfl (.tmp 22) (.tmp 24) 27 rfl 9 i0 _ underlying27 hi0 hz0 hz1 rfl (.slice (some ⟨w1.heap.size,0,none⟩) 0 0) (strVals []) 0 (by rfl) (by rfl) (own_empty0 w1) B m0 bcap (by first | rfl | simp) (strVals x.l) HVB.out (by rw [strVals_length];exact HM0.out.symm) (strVals_one x.l) (by unfold maxLen;omega) (by rw [hz2];omega) ?_;intro A5 c5 w5 ho5 hg5 hl5;have HO5:=zh ho5;have HG5:=zh hg5;have HL5:=zh hl5;clear ho5 hg5 hl5)
 simp only [Nat.zero_add] at HO5 HL5 ⊢; have hoA:OwnL w5 (.slice A5 m0 c5) (x.l ++ List.replicate 0 []):=by have:=HO5.out;simpa [OwnL,strVals] using this
 have hfrA:Fr [] w1 w5:=((Fr.refl [] w1).alloc _).grown HG5.out (fun g hg => .inr (by simp [Value.ownBlock] at hg;omega))
 have hnewA:∀ g,(Value.slice A5 m0 c5).ownBlock=some g->w1.heap.size <= g:=fun g hg=>by
  rcases HL5.out with e | e
  ·rw [hg] at e;simp [Value.ownBlock] at e;omega
  rw [hg] at e;injection e with e;simp at e;omega
 have HOA:=zh hoA;have HFA:=zh hfrA;have HNA:=zh hnewA;clear hoA hfrA hnewA c3;obtain ⟨M,hM⟩:∃ M,M=max n m0:=⟨_,rfl⟩;have HMX:=zh hM;clear hM
 go_loopw [8] (PtRel w1 x.l M) (fun v8 _=>M - lenV v8)
 case atStart=>exact ⟨0,HOA.out,HNA.out,HFA.out,by rw [<-HM0.out];have:=HMX.out;omega⟩
 case round=>
  obtain ⟨m,ho,hfr,hf,hi⟩:=hrel;obtain ⟨k,hk⟩:∃ k,k=m0+m:=⟨_,rfl⟩;have hln:(x.l ++ List.replicate m []).length=k:=by rw [List.length_append,List.length_replicate,<-HM0.out,hk]
  obtain ⟨A,cap,hv,hl1,hl2,-, -⟩:=OwnL.val ho;rw [hln] at hv hl1;subst hv;rw [<-HM0.out,<-hk] at hi;have HK:=zh hk;clear hk;unfold maxLen at hl2;have HFR:=zh hfr;have HO:=zh ho;have HF:=zh hf;have HLN:=zh hln;clear ho hf hfr hln;by_cases hlt:k < n
  ·have HNX:Hid (x.l.length+(m+1) <= M):=zh (by rw [<-HM0.out];have:=HK.out;have:=HMX.out;omega);have tl:decide ((k:Int) < (n:Int))=true:=decide_eq_true (by omega);go_wp2_with (at_builtin;refine wpList_append_OwnS rfl (.tmp 30) (.tmp 31) 27 rfl 9 i0 _ underlying27 hi0 hz0 hz1 rfl (.slice A k cap) (strVals (x.l ++ List.replicate m [])) k (by rw [strVals_length];exact HLN.out) (by rfl) (Own.fr HO.out ((Fr.refl [] wr).alloc _) (by simp)) (some ⟨wr.heap.size,0,none⟩) 1 1 (by rfl) [.string ⟨#[]⟩] (one_str wr _) rfl (by simp [Value.oneCell']) (by unfold maxLen;omega) (by rw [hz2];omega) ?_;intro A6 c6 w6 ho6 hg6 hl6;have HO6:=zh ho6;have HG6:=zh hg6;have HL6:=zh hl6;clear ho6 hg6 hl6)
   have hoL:OwnL w6 (.slice A6 (k+1) c6) (x.l ++ List.replicate (m+1) []):=by
    have:=HO6.out;unfold OwnL;rw [List.replicate_succ',<-List.append_assoc,strVals_append];exact this
   have hfr6:Fr [] w1 w6:=(HF.out.trans ((Fr.refl [] wr).alloc _)).grown HG6.out (fun g hg => .inr (HFR.out g hg))
   have hnew:∀ g,(Value.slice A6 (k+1) c6).ownBlock=some g->w1.heap.size <= g:=fun g hg=>by
    rcases HL6.out with e | e
    ·exact HFR.out g (by rw [<-e];exact hg)
    rw [hg] at e;injection e with e;have:=HF.out.size;simp at e;omega
   have HOL:=zh hoL;have HFR6:=zh hfr6;have HNEW:=zh hnew;clear hoL hfr6 hnew;go_wp2_with fail
   go_roundw
   case rel=>exact ⟨m+1,HOL.out,HNEW.out,HFR6.out,HNX.out⟩
   case measure=>(try simp [lenV]);have:=HNX.out;have:=HK.out;have:=HM0.out;omega
  have tl:decide ((k:Int) < (n:Int))=false:=decide_eq_false (by omega);have hkM:k=M:=by have:=HMX.out;have:=HK.out;omega
  have hset:=put_pad x.l n m s (by rw [<-HM0.out];have:=HMX.out;have:=HK.out;omega);rw [<-HG.out] at hset;obtain ⟨q,hq⟩:∃ q,q=n - 1:=⟨_,rfl⟩;obtain ⟨b,off,rfl,hce,hfz,⟨bcs,hbk⟩,hput⟩:=OwnL.put HO.out (j:=q) (by have:=HLN.out;omega) s;rw [<-hq] at hset;rw [hset] at hput;have hbn:=HFR.out b (by simp [Value.ownBlock]);have hwq:IntKind.i64.wrap ((n:Int) - 1)=(q:Int):=by rw [IntKind.wrap_i64];omega
  have hqk:(q:Int) < (k:Int):=by omega
  obtain ⟨w7,hw7⟩:∃ w7,w7=wr.setCell ⟨b,off+q,none⟩ (.string ⟨s.toArray⟩):=⟨_,rfl⟩;rw [<-hw7] at hput;have hf7:Fr [b] wr w7:=by rw [hw7];exact (Fr.refl [b] wr).setCell (.inl (by simp)) _
  have hrb1:=HRB.out.fr_nil HF.out
  have hrb7:RB w g h fs x (.slice B m0 bcap) w7:=by
   rw [HM0.out];refine ⟨hrb1.g0,hrb1.gh,hrb1.b1.fr hf7 (fun hm=>?_),hrb1.b2.fr hf7 (fun hm=>?_),hrb1.fr.trans' hf7 (fun y hy => .inr ?_)⟩
   ·obtain rfl:g=b:=by simpa using hm
    exact hrb1.b1.ne_ hbk (by decide) rfl
   ·obtain rfl:h=b:=by simpa using hm
    exact hrb1.b2.ne_ hbk (by decide) rfl
   obtain rfl:y=b:=by simpa using hy
   have:=HRB.out.fr.size;omega
  have hov:OwnL w7 (.slice B x.l.length bcap) x.l:=Own.fr HV.out hrb7.fr (by simp);have hk1000:k <= 1000:=by have:=HMX.out;omega
  have hlG:G.length=k:=by rw [HPL.out,<-HM0.out];have:=HMX.out;omega
  have hm:=rmade_any fs x hov hput (by omega) HB.out;unfold recV recC at hm;rw [<-HM0.out] at hm;have HM:=zh hm;have HOG:=zh hput;have HRB7:=zh hrb7;have HW7:=zh hw7;clear hov hm hput hrb1 hw7 hf7 hset hbk hbn hkM hq hlG;go_upto_region 11 with fail
  rw [<-HW7.out];obtain ⟨c0,c1,c2,c3⟩:=rec_row HRB7.out.b1;clear hce hfz hwq tl;go_wp2_with fail
  go_at_call 26
  refine HM.out.mono ?_;rintro e w4 ⟨hf4,hp⟩;have HF4:=zh hf4;have HZ:=zh ((HRB7.out.fr_nil hf4).two (Fr.refl _ _));clear hf4;rcases hp with ⟨hbig,rfl⟩ | ⟨hbig,rfl⟩
  ·have HBG:=zh hbig;clear hbig;unfold recV recC;go_wp2_with (refine wpList_store_bkA rfl 29 _ _ rfl h _ rfl rfl _ _ HZ.out rec_size (by first | rfl | simp) (by simp [Value.oneCell']) ?_;intro w9 hb9 hf9;have HB9:=zh hb9;have HF9:=zh hf9;clear hb9 hf9)
   refine rec_end (fs:=fs) (x:=x) (v := .slice B m0 bcap) (by rfl) HB9.out (by rfl) (by rfl) ?_;rw [HP.out,<-HG.out,HM0.out];exact ⟨(HRB7.out.fr_nil HF4.out).ends (Fr.refl _ _) HF9.out,.inl ⟨HBG.out,rfl⟩⟩
  have HBG:=zh hbig;clear hbig;unfold recV recC;go_wp2_with (refine wpList_store_bkA rfl 29 _ _ rfl h _ rfl rfl _ _ HZ.out rec_size (by first | rfl | simp) (by simp [Value.oneCell']) ?_;intro w9 hb9 hf9;have HB9:=zh hb9;have HF9:=zh hf9;clear hb9 hf9)
  refine rec_end (fs:=fs) (x:={ x with text:=Lib.join G x.jn,l:=G }) (v := .slice (some ⟨b,off,none⟩) k cap) (by rfl) HB9.out (by rfl) (by rfl) ?_;rw [HP.out,<-HG.out];refine ⟨(HRB7.out.fr_nil HF4.out).ends (Fr.refl _ _) HF9.out,.inr ⟨HBG.out,_,rfl,?_⟩⟩;exact Own.fr (Own.fr HOG.out HF4.out (by simp)) HF9.out (fun k hk=>by simp;exact fun e=>Own.ne_bk HOG.out HRB7.out.b2 (by decide) (e ▸ hk))
end Go.Proofs.YtfofechcccodeaaGreatDoor.F
