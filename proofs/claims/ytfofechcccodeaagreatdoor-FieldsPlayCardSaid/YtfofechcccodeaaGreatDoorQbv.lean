/-
  Small texts in one (Rv5, Rv6, Hr4). No conditions.
-/
import Derived.Test.YtfofechcccodeaaGreatDoorQbu
import Derived.Test.YtfofechcccodeaaGreatDoorQba
import Derived.Test.YtfofechcccodeaaGreatDoorQbk
import Derived.Test.YtfofechcccodeaaGreatDoorQbl
import Derived.Test.YtfofechcccodeaaGreatDoorQbs
namespace Go.Proofs.YtfofechcccodeaaGreatDoor
open Go.RowKit Go.ChangeMaps Go.Proofs.Tryz
set_option linter.unusedVariables false
set_option linter.unusedSimpArgs false
set_option maxRecDepth 100000
set_option maxHeartbeats 16000000
def fcell (q:Nat × Nat):List Value:=[.int .i64 (q.1:Int),.int .i64 (q.2:Int),.bool true]
theorem fcell_len (q:Nat × Nat):(fcell q).length=3:=rfl
theorem fndParts:∃ i,prog.info? 119=some i/\i.zero=some (.agg #[.int .i64 0,.int .i64 0,.bool false])/\i.size=3/\i.bytes=24:=info_parts (by kernel_rfl)
theorem three_new (w:World) (t:TypeId) (a b c:Value):∀ j u,[a,b,c][j]?=some u->(w.alloc (.cells #[a,b,c] t)).cell? ((⟨w.heap.size,0,none⟩:Addr).add j)=some u:=by
 intro j u h;have hb:=Bk.new w t #[a,b,c];have e:(⟨w.heap.size,0,none⟩:Addr).add j=⟨w.heap.size,j,none⟩:=by cases j <;> simp [Addr.add]
 rw [e];exact hb.cell_ (by simpa using h)
def FsRel (w:World) (g n:Nat) (C:List Value) (L:List Sp) (tx:List UInt8) (v5 v6 v7:Value) (wr:World):Prop:=∃ (fr f:Nat) (last:Int) (dl:List (Nat × Nat)) (A:Option Addr) (c:Nat),
 v6 = .int .i64 (fr:Int)/\v7 = .int .i64 last/\v5 = .slice A dl.length c/\fr <= n+1/\n+2 <= f+fr/\findsS L tx=dl ++ findsF L tx f fr last/\wr.ownsRow w.heap.size 119 3 (.slice A dl.length c) dl.length (dl.flatMap fcell) /\
 Bk wr g 69 C.toArray/\Fr [] w wr
theorem rfinds_any {tx:List UInt8} {L:List Sp} {C:List Value} {w:World} (hC:C.length=260) (hx:tx.length <= 500) (hL:ProgOk L/\0 < L.length)
    (hF:∀ W,Fr [] w W->∀ a:Nat,a <= tx.length->Calls prog 66 #[.agg C.toArray,.string ⟨tx.toArray⟩,.int .i64 (a:Int)] W fun e w'=>e = .returned (.agg (foundC (findS L tx a)).toArray)/\Fr [] W w') :
    Calls prog 51 #[.agg C.toArray,.string ⟨tx.toArray⟩] w fun e w'=>∃ (A:Option Addr) (c:Nat),e = .returned (.slice A (findsS L tx).length c)/\w'.ownsRow w.heap.size 119 3 (.slice A (findsS L tx).length c) (findsS L tx).length ((findsS L tx).flatMap fcell)/\Fr [] w w':=by
 have hord:=findsS_ord (tx:=tx) hL.1 hL.2;obtain ⟨FL,hFL⟩:∃ FL,FL=findsS L tx:=⟨_,rfl⟩;rw [<-hFL] at hord ⊢; obtain ⟨S,hS⟩:∃ S,S=(⟨tx.toArray⟩:ByteArray):=⟨_,rfl⟩;obtain ⟨n,hn⟩:∃ n,n=tx.length:=⟨_,rfl⟩;have hs1:S.size=n:=by rw [hS,hn];simp [ByteArray.size]
 rw [<-hS,<-hn] at hF;rw [<-hS];rw [<-hn] at hx;have hlen:=hord.2.2;rw [<-hn] at hlen
 have hsome:∀ a q,a <= n->findS L tx a=some q->a <= q.1/\q.1 <= q.2/\q.2 <= n:=fun a q ha h=>by
  have F:=findS_some hL.1 hL.2 (by rw [<-hn];exact ha) h;exact ⟨F.fr,F.le,by rw [hn];exact F.len⟩
 have HF:=zh hF;have HFL:=zh hFL;have HN:=zh hn;have HLEN:=zh hlen;have HSOME:=zh hsome;obtain ⟨i0,hi0,hz0,hz1,hz2⟩:=fndParts;obtain ⟨g,hg⟩:∃ g,g=w.heap.size:=⟨_,rfl⟩;have HGE:=zh hg;clear hF hFL hS hn hord hlen hsome hL hg;go_enter func51,ntmps51
 go_upto_region 4 with (refine wpList_box_bk rfl 69 _ rfl C rfl ?_;intro w1 hz hf1;have HZ:=zh hz;have HF1:=zh hf1;clear hz hf1)
 rw [<-HGE.out];have hz:Bk w1 g 69 C.toArray:=by rw [HGE.out];exact HZ.out
 have HZ:=zh hz;clear hz
 go_loopw [5,6,7,8] (fun v5 v6 v7 v8 wr=>FsRel w g n C L tx v5 v6 v7 wr) (fun _ v6 _ _ _=>n+2 - (intOf v6).toNat)
 case atStart=>exact ⟨0,tx.length+2,-1,[],none,0,rfl,rfl,rfl,by omega,by have:=HN.out;omega,by rw [List.nil_append];rfl,⟨by simp,.inl ⟨rfl,rfl⟩⟩,HZ.out,HF1.out⟩
 case round=>
  obtain ⟨a,f,last,dl,A0,c0,rfl,rfl,rfl,han,hfa,heq,hown,hbk,hfr⟩:=hrel;have HEQ:=zh heq;have HOWN:=zh hown;have HBK:=zh hbk;have HFR:=zh hfr;have hdl:dl.length <= n+2:=by have h1:=HLEN.out;rw [HFL.out,heq,List.length_append] at h1;omega
  obtain ⟨d,hd⟩:∃ d,d=dl.length:=⟨_,rfl⟩;rw [<-hd] at hdl HOWN ⊢; have HD:=zh hd;clear heq hown hbk hfr hd;rcases Nat.lt_or_ge a (n+1) with hal | hal
  ·have halI:(a:Int) <= (n:Int):=by omega
   obtain ⟨f,rfl⟩:∃ f0,f=f0+1:=⟨f - 1,by omega⟩;have hcf:=HF.out wr HFR.out a (by omega);have hanx:a <= tx.length:=by have:=HN.out;omega
   obtain ⟨r,hr⟩:∃ r,r=findS L tx a:=⟨_,rfl⟩;rw [<-hr] at hcf;have HCF:=zh hcf;have HR:=zh hr;clear hcf hr
   cases r with
   | none=>
    have hfin:FL=dl:=by
     have h:=HEQ.out;rw [findsF_none HR.out.symm,List.append_nil,<-HFL.out] at h;exact h
    have HFIN:=zh hfin;dsimp only [foundC] at HCF;clear hfin
    go_wp2_with (first
     | (refine wpList_load_bk rfl 69 _ rfl g 0 rfl C _ _ _ HBK.out (by intro j u hj;rw [Nat.zero_add,List.getElem?_toArray];exact hj) underlying69 rfl (by rw [hC];exact rp_size) ?_)
     | (go_at_call 66;refine HCF.out.mono ?_;rintro e w3 ⟨rfl,hf⟩;have HF3:=zh hf;clear hf))
    go_ret
    refine ⟨A0,c0,by rw [HFIN.out,HD.out];rfl,?_,(HFR.out.trans HF3.out).alloc _⟩;rw [HFIN.out,<-HD.out];exact own_keep HOWN.out (KeepB.of_nil (HF3.out.alloc _))
   | some q=>
    obtain ⟨s,z⟩:=q;obtain ⟨b1,b2,b3⟩:=HSOME.out a (s,z) (by omega) HR.out.symm;dsimp only at b1 b2 b3;have hstep:=findsF_some (f:=f) (last:=last) hanx HR.out.symm;dsimp only at hstep;have heq:=HEQ.out;rw [hstep] at heq;have HEQ2:=zh heq;dsimp only [foundC] at HCF;clear hstep heq HEQ
    go_upto_region 6 with (first
     | (refine wpList_load_bk rfl 69 _ rfl g 0 rfl C _ _ _ HBK.out (by intro j u hj;rw [Nat.zero_add,List.getElem?_toArray];exact hj) underlying69 rfl (by rw [hC];exact rp_size) ?_)
     | (go_at_call 66;refine HCF.out.mono ?_;rintro e w3 ⟨rfl,hf⟩;have HF3:=zh hf;clear hf))
    obtain ⟨w4,hw4⟩:∃ w4,w4=w3.alloc (.cells #[.int .i64 (s:Int),.int .i64 (z:Int),.bool true] 119):=⟨_,rfl⟩;have hb8:Bk w4 w3.heap.size 119 #[.int .i64 (s:Int),.int .i64 (z:Int),.bool true]:=by rw [hw4];exact Bk.new w3 _ _
    have h4:Fr [] wr w4:=by rw [hw4];exact HF3.out.alloc _
    obtain ⟨g8,hg8⟩:∃ g8,g8=w3.heap.size:=⟨_,rfl⟩;rw [<-hg8] at hb8;rw [<-hw4,<-hg8];have e0:=hb8.cell_ (i:=0) rfl;have e1:=hb8.cell_ (i:=1) rfl;have e2:=hb8.cell_ (i:=2) rfl;have hlt8:=hb8.lt
    have hob:∀ b,(Value.slice A0 d c0).ownBlock=some b->b < g8:=fun b hb=>by
     obtain ⟨-, cur,hc⟩:=own_base HOWN.out b hb;have h1:=hc.lt;have h2:=HF3.out.size;rw [hg8];omega
    have HOB:=zh hob;have HB8:=zh hb8;have HF4:=zh h4;have HFW4:=zh (HFR.out.trans h4);have HBK4:=zh (HBK.out.fr h4 (by simp));have HOWN4:=zh (own_keep HOWN.out (KeepB.of_nil h4));clear hw4 hb8 h4 hg8 hob HBK HOWN;by_cases hsz:s < z
    ·have hszI:(s:Int) < (z:Int):=by omega
     have hne:((s:Int) == (z:Int))=false:=by simp;omega
     have hq:findsS L tx=(dl ++ [(s,z)]) ++ findsF L tx f z (z:Int):=by
      have h:=HEQ2.out;rw [if_pos (.inl hsz),if_neg (by omega),<-List.append_assoc] at h;exact h
     have HQ:=zh hq;clear hq HEQ2;go_upto_region 10 with (at_builtin;refine wpList_append_R rfl (.tmp 32) (.tmp 34) 116 rfl w.heap.size 119 i0 _ 3 24 underlying116 hi0 hz0 hz1 hz2 rfl (by omega) (.slice A0 d c0) d (dl.flatMap fcell) (by first | rfl | simp [Act.eval]) (own_keep HOWN4.out (KeepB.of_nil ((Fr.refl [] w4).alloc _))) ⟨w4.heap.size,0,none⟩ 1 1 (fcell (s,z)) (by first | rfl | simp [Act.eval]) rfl (three_new w4 119 _ _ _) (by simp [fcell,Value.oneCell']) (by unfold maxLen;omega) (by omega) (by have:=HFW4.out.size;simp;omega) ?_;intro v' w5 hown5 hgr hat5;obtain ⟨A5,c5,rfl⟩:=own_any hown5;have HGR:=zh hgr;have HOWN5:=zh hown5;clear hown5 hgr hat5)
     clear e0 e1 e2;have hgr:=HGR.out;have hb5:Bk w5 g8 119 #[.int .i64 (s:Int),.int .i64 (z:Int),.bool true]:=(HB8.out.fr ((Fr.refl [] w4).alloc _) (by simp)).grown hgr (fun e=>by have:=HOB.out g8 e.symm;omega)
     have hbk5:Bk w5 g 69 C.toArray:=(HBK4.out.fr ((Fr.refl [] w4).alloc _) (by simp)).grown hgr (fun e=>by
      obtain ⟨-, cur,hc⟩:=own_base HOWN4.out g e.symm
      exact HBK4.out.ne_ hc (by decide) rfl)
     have hf5:Fr [] w w5:=(HFW4.out.alloc _).grown hgr (fun x hx => .inr (own_base HOWN4.out x hx).1);have e0:=hb5.cell_ (i:=0) rfl;have e1:=hb5.cell_ (i:=1) rfl;have e2:=hb5.cell_ (i:=2) rfl;have HBK5:=zh hbk5;have HF5:=zh hf5;clear hgr hb5 hbk5 hf5;go_wp2_with fail
     go_roundw
     case rel=>
      refine ⟨z,f,(z:Int),dl ++ [(s,z)],A5,c5,by go_num,rfl,by rw [List.length_append,<-HD.out];rfl,by omega,by omega,HQ.out,?_,HBK5.out,HF5.out⟩;have h:=HOWN5.out;have e1:(dl ++ [(s,z)]).length=d+1:=by rw [List.length_append,<-HD.out];rfl
      have e2:(dl ++ [(s,z)]).flatMap fcell=dl.flatMap fcell ++ fcell (s,z):=by simp
      rw [e1,e2];exact h
     case measure=>simp [intOf] <;> omega
    have hszI:¬ ((s:Int) < (z:Int)):=by omega
    obtain rfl:s=z:=by omega
    by_cases hlz:(s:Int)=last
    ·have hlzI:((s:Int) != last)=false:=by simp [hlz]
     have hq:findsS L tx=dl ++ findsF L tx f (s+1) (s:Int):=by
      have h:=HEQ2.out;rw [if_neg (by rintro (h1 | h1);exact absurd h1 hsz;exact h1 hlz),if_pos rfl,List.nil_append] at h;exact h
     have HQ:=zh hq;have HLZ:=zh hlz;clear hq HEQ2 hlz;go_wp2_with fail
     go_roundw
     case rel=>exact ⟨s+1,f,(s:Int),dl,A0,c0,by go_num,rfl,by rw [HD.out],by omega,by omega,HQ.out,by rw [<-HD.out];exact HOWN4.out,HBK4.out,HFW4.out⟩
     case measure=>simp [intOf] <;> omega
    have hlzI:((s:Int) != last)=true:=by simpa using hlz
    have hq:findsS L tx=(dl ++ [(s,s)]) ++ findsF L tx f (s+1) (s:Int):=by
     have h:=HEQ2.out;rw [if_pos (.inr hlz),if_pos rfl,<-List.append_assoc] at h;exact h
    have HQ:=zh hq;have HLZ:=zh hlz;clear hq HEQ2 hlz;go_upto_region 10 with (at_builtin;refine wpList_append_R rfl (.tmp 32) (.tmp 34) 116 rfl w.heap.size 119 i0 _ 3 24 underlying116 hi0 hz0 hz1 hz2 rfl (by omega) (.slice A0 d c0) d (dl.flatMap fcell) (by first | rfl | simp [Act.eval]) (own_keep HOWN4.out (KeepB.of_nil ((Fr.refl [] w4).alloc _))) ⟨w4.heap.size,0,none⟩ 1 1 (fcell (s,s)) (by first | rfl | simp [Act.eval]) rfl (three_new w4 119 _ _ _) (by simp [fcell,Value.oneCell']) (by unfold maxLen;omega) (by omega) (by have:=HFW4.out.size;simp;omega) ?_;intro v' w5 hown5 hgr hat5;obtain ⟨A5,c5,rfl⟩:=own_any hown5;have HGR:=zh hgr;have HOWN5:=zh hown5;clear hown5 hgr hat5)
    clear e0 e1 e2;have hgr:=HGR.out;have hb5:Bk w5 g8 119 #[.int .i64 (s:Int),.int .i64 (s:Int),.bool true]:=(HB8.out.fr ((Fr.refl [] w4).alloc _) (by simp)).grown hgr (fun e=>by have:=HOB.out g8 e.symm;omega)
    have hbk5:Bk w5 g 69 C.toArray:=(HBK4.out.fr ((Fr.refl [] w4).alloc _) (by simp)).grown hgr (fun e=>by
     obtain ⟨-, cur,hc⟩:=own_base HOWN4.out g e.symm
     exact HBK4.out.ne_ hc (by decide) rfl)
    have hf5:Fr [] w w5:=(HFW4.out.alloc _).grown hgr (fun x hx => .inr (own_base HOWN4.out x hx).1);have e0:=hb5.cell_ (i:=0) rfl;have e1:=hb5.cell_ (i:=1) rfl;have e2:=hb5.cell_ (i:=2) rfl;have HBK5:=zh hbk5;have HF5:=zh hf5;clear hgr hb5 hbk5 hf5;go_wp2_with fail
    go_roundw
    case rel=>
     refine ⟨s+1,f,(s:Int),dl ++ [(s,s)],A5,c5,by go_num,rfl,by rw [List.length_append,<-HD.out];rfl,by omega,by omega,HQ.out,?_,HBK5.out,HF5.out⟩;have h:=HOWN5.out;have e1:(dl ++ [(s,s)]).length=d+1:=by rw [List.length_append,<-HD.out];rfl
     have e2:(dl ++ [(s,s)]).flatMap fcell=dl.flatMap fcell ++ fcell (s,s):=by simp
     rw [e1,e2];exact h
    case measure=>simp [intOf] <;> omega
  have halI:¬ ((a:Int) <= (n:Int)):=by omega
  have hfin:FL=dl:=by
   have h:=HEQ.out
   have h2:findsF L tx f a last=[]:=by
    cases f with
    | zero=>rfl
    | succ f=>exact findsF_past (by have:=HN.out;omega)
   rw [h2,List.append_nil,<-HFL.out] at h;exact h
  have HFIN:=zh hfin;clear hfin;go_wp2_with fail
  go_ret
  refine ⟨A0,c0,by rw [HFIN.out,HD.out];rfl,?_,HFR.out⟩;rw [HFIN.out,<-HD.out];exact HOWN.out
end Go.Proofs.YtfofechcccodeaaGreatDoor
namespace Go.Proofs.YtfofechcccodeaaGreatDoor
open Go.RowKit Go.ChangeMaps Go.Proofs.Tryz
set_option linter.unusedVariables false
set_option linter.unusedSimpArgs false
set_option maxRecDepth 100000
set_option maxHeartbeats 16000000
def strs (ps:List (List UInt8)):List Value:=ps.map fun b => .string ⟨b.toArray⟩
theorem strParts:∃ i,prog.info? 9=some i/\i.zero=some (.string ⟨#[]⟩)/\i.size=1/\i.bytes=16:=info_parts (by kernel_rfl)
theorem one_new1 (w:World) (t:TypeId) (a:Value):∀ j u,[a][j]?=some u->(w.alloc (.cells #[a] t)).cell? ((⟨w.heap.size,0,none⟩:Addr).add j)=some u:=by
 intro j u h;have hb:=Bk.new w t #[a];have e:(⟨w.heap.size,0,none⟩:Addr).add j=⟨w.heap.size,j,none⟩:=by cases j <;> simp [Addr.add]
 rw [e];exact hb.cell_ (by simpa using h)
def SlRel (w:World) (tx:List UInt8) (FL:List (Nat × Nat)) (v6 v7 v8:Value) (wr:World):Prop:=∃ (i b:Nat) (ps:List (List UInt8)) (A:Option Addr) (c:Nat),
 v8 = .int .i64 (i:Int)/\v7 = .int .i64 (b:Int)/\v6 = .slice A ps.length c/\i <= FL.length/\ps.length <= i/\b <= tx.length/\splitF tx FL 0=ps ++ splitF tx (FL.drop i) b/\(∀ q ∈ FL.drop i,b <= q.1) /\
 wr.ownsRow w.heap.size 9 1 (.slice A ps.length c) ps.length (strs ps)/\Fr [] w wr
theorem rsplit_any {tx:List UInt8} {L:List Sp} {C:List Value} {w:World} (hC:C.length=260) (hx:tx.length <= 500) (hL:ProgOk L/\0 < L.length)
    (hF:∀ W,Fr [] w W->Calls prog 51 #[.agg C.toArray,.string ⟨tx.toArray⟩] W fun e w'=>∃ (A:Option Addr) (c:Nat),e = .returned (.slice A (findsS L tx).length c)/\w'.ownsRow W.heap.size 119 3 (.slice A (findsS L tx).length c) (findsS L tx).length ((findsS L tx).flatMap fcell)/\Fr [] W w') :
    Calls prog 36 #[.agg C.toArray,.string ⟨tx.toArray⟩] w fun e w'=>∃ (A:Option Addr) (c:Nat),e = .returned (.slice A (splitS L tx).length c)/\w'.ownsRow w.heap.size 9 1 (.slice A (splitS L tx).length c) (splitS L tx).length (strs (splitS L tx))/\Fr [] w w':=by
 have hord:=findsS_ord (tx:=tx) hL.1 hL.2;obtain ⟨FL,hFL⟩:∃ FL,FL=findsS L tx:=⟨_,rfl⟩;rw [<-hFL] at hord hF;obtain ⟨SP,hSP⟩:∃ SP,SP=splitS L tx:=⟨_,rfl⟩;rw [<-hSP];obtain ⟨S,hS⟩:∃ S,S=(⟨tx.toArray⟩:ByteArray):=⟨_,rfl⟩;obtain ⟨n,hn⟩:∃ n,n=tx.length:=⟨_,rfl⟩;have hs1:S.size=n:=by rw [hS,hn];simp [ByteArray.size]
 rw [<-hS] at hF ⊢; rw [<-hn] at hx;obtain ⟨g,hg⟩:∃ g,g=w.heap.size:=⟨_,rfl⟩;have HGE:=zh hg;clear hg;by_cases hte:tx=[]
 ·have hSP0:SP=[]:=by rw [hSP,splitS,if_pos hte]
  have hS0:S=⟨#[]⟩:=by rw [hS,hte]
  subst hS0 hSP0;clear hF hFL hSP hS hord hn hs1;go_enter func36,ntmps36
  go_wp2_with (refine wpList_box_bk rfl 69 _ rfl C rfl ?_;intro w1 hz hf1;have HZ:=zh hz;have HF1:=zh hf1;clear hz hf1)
  go_ret
  exact ⟨none,0,rfl,⟨by simp [strs],.inl ⟨rfl,rfl⟩⟩,HF1.out⟩
 have hSne:S.toList.isEmpty=false:=by
  rw [hS,ByteArray.toList_mk]
  cases tx with
  | nil=>exact absurd rfl hte
  | cons x y=>rfl
 obtain ⟨m,hm⟩:∃ m,m=FL.length:=⟨_,rfl⟩;rw [<-hm] at hF;have hSPE:SP=splitF tx FL 0:=by rw [hSP,splitS,if_neg hte,hFL]
 have hext:∀ a b,a <= b->b <= n->S.extract a b=⟨((tx.drop a).take (b - a)).toArray⟩:=fun a b hab hb=>by rw [hS,ba_extract]
 have HF:=zh hF;have HN:=zh hn;have HM:=zh hm;have HSPE:=zh hSPE;have HORD:=zh hord;have HEXT:=zh hext;have HSNE:=zh hSne;have hmb:m <= 502:=by have:=hord.2.2;omega
 obtain ⟨i0,hi0,hz0,hz1,hz2⟩:=strParts;clear hF hFL hSP hS hn hord hSPE hext hL hm hte;go_enter func36,ntmps36
 go_upto_region 1 with (refine wpList_box_bk rfl 69 _ rfl C rfl ?_;intro w1 hz hf1;have HZ:=zh hz;have HF1:=zh hf1;clear hz hf1)
 rw [<-HGE.out];have hz:Bk w1 g 69 C.toArray:=by rw [HGE.out];exact HZ.out
 have HZ:=zh hz;clear hz;go_upto_region 3 with fail
 go_upto_region 4 with (first
  | (refine wpList_load_bk rfl 69 _ rfl g 0 rfl C _ _ _ HZ.out (by intro j u hj;rw [Nat.zero_add,List.getElem?_toArray];exact hj) underlying69 rfl (by rw [hC];exact rp_size) ?_)
  | (go_at_call 51;refine (HF.out w1 HF1.out).mono ?_;rintro e w2 ⟨FA,fc,rfl,hfo,hf⟩;have HFO:=zh hfo;have HF2:=zh (HF1.out.trans hf);clear hfo hf))
 clear hSne HSNE;go_wp2_with fail
 go_loopw [6,7,8] (fun v6 v7 v8 wr=>SlRel w2 tx FL v6 v7 v8 wr) (fun _ _ v8 _=>m+1 - (intOf v8).toNat)
 case atStart=>exact ⟨0,0,[],none,0,rfl,rfl,rfl,Nat.zero_le _,Nat.le_refl _,Nat.zero_le _,by simp,fun q hq=>Nat.zero_le _,⟨by simp [strs],.inl ⟨rfl,rfl⟩⟩,Fr.refl _ _⟩
 case round=>
  obtain ⟨i,b,ps,A0,c0,rfl,rfl,rfl,him,hpi,hbn,hspl,hq,hown,hfr⟩:=hrel;rw [<-HM.out] at him;have hbn':b <= n:=by rw [HN.out];exact hbn
  obtain ⟨k,hk⟩:∃ k,k=ps.length:=⟨_,rfl⟩;rw [<-hk] at hown hpi ⊢; have HSPL:=zh hspl;have HQ:=zh hq;have HOWN:=zh hown;have HFR:=zh hfr;have HK:=zh hk;clear hspl hq hown hfr hk hbn;rcases Nat.lt_or_ge i m with hin | hin
  ·have hinI:(i:Int) < (m:Int):=by omega
   obtain ⟨q,hq⟩:∃ q,FL[i]?=some q:=⟨FL[i]'(by rw [<-HM.out];exact hin),List.getElem?_eq_getElem _⟩;obtain ⟨s,z⟩:=q;have hd:=drop_cons_of hq;obtain ⟨k1,k2,k3,k4,k5⟩:=split_round HORD.out.2.1 HORD.out.1 hq HQ.out;dsimp only at k1 k2 k3 k4 k5;rw [<-HN.out] at k3
   obtain ⟨FB,rfl,-, -, hcl⟩:=own_cells (own_keep HFO.out (KeepB.of_nil HFR.out)) (fun h0=>by
    have h1:=flat_len fcell_len FL;rw [h0] at h1
    have:=HM.out;simp at h1;omega)
   have e0:=hcl (i * 3+0) _ (flat_at fcell_len _ 0 (by omega) FL i hq);have e1:=hcl (i * 3+1) _ (flat_at fcell_len _ 1 (by omega) FL i hq);rw [Nat.add_zero] at e0;have hspl:=HSPL.out;rw [hd,splitF] at hspl;dsimp only at hspl;have HSPL2:=zh hspl;have K4:=zh k4;have K5:=zh k5;clear hspl hd hq hcl k4 k5 HSPL;go_upto_region 9 with fail
   obtain ⟨wd,hwd⟩:∃ wd,wd=wr.drew:=⟨_,rfl⟩;have hfd:Fr [] wr wd:=by rw [hwd];exact (Fr.refl [] wr).drew
   have d0:=(hfd.cell (World.block_lt_of_cell? _ _ e0) (by simp)).trans e0;have d1:=(hfd.cell (World.block_lt_of_cell? _ _ e1) (by simp)).trans e1;have HFD:=zh hfd;clear hfd;by_cases hsz:s < z
   ·have hszI:(s:Int) < (z:Int):=by omega
    refine wp_region_M_ (G:=fun a b=>a=b) (S:=fun W=>W=wr.drew) ⟨fun _=>rfl,fun a b c h k=>h.trans k,fun a b h k=>k ▸ h,by kernel_rfl,fun _ _ d _ _ h=>by cases d <;> exact h⟩ (by kernel_rfl) fun su=>?_
    have SU:=zh su;have HS:Hid (wr.drew=wr.drew):=zh rfl;clear su;refine M_m 0 SU.out HS.out ?_;simp only [PE];refine M_m 1 SU.out HS.out ?_;simp only [PE];refine M_v 2 ?_ SU.out HS.out (fun W hS=>?_) ?_;rotate_left
    ·rw [<-hwd] at hS;obtain rfl:=hS;go_simp;first | done | rfl | omega | (exact IntWalk.i64_in _ (by omega)) | (simp <;> omega)
    simp only [PU];refine M_v 3 ?_ SU.out HS.out (fun W hS=>?_) ?_;rotate_left
    ·rw [<-hwd] at hS;obtain rfl:=hS;go_simp;first | done | rfl | omega | (exact IntWalk.i64_in _ (by omega)) | (simp <;> omega)
    simp only [PU];refine M_v 4 (.int .i64 (s:Int)) SU.out HS.out (fun W hS=>?_) ?_
    ·rw [<-hwd] at hS;obtain rfl:=hS;go_simp;first | done | rfl | omega | (exact IntWalk.i64_in _ (by omega)) | (simp <;> omega)
    simp only [PU];refine M_m 5 SU.out HS.out ?_;simp only [PE];refine M_m 6 SU.out HS.out ?_;simp only [PE];refine M_v 7 ?_ SU.out HS.out (fun W hS=>?_) ?_;rotate_left
    ·rw [<-hwd] at hS;obtain rfl:=hS;go_simp;first | done | rfl | omega | (exact IntWalk.i64_in _ (by omega)) | (simp <;> omega)
    simp only [PU];refine M_v 8 ?_ SU.out HS.out (fun W hS=>?_) ?_;rotate_left
    ·rw [<-hwd] at hS;obtain rfl:=hS;go_simp;first | done | rfl | omega | (exact IntWalk.i64_in _ (by omega)) | (simp <;> omega)
    simp only [PU];refine M_v 9 (.int .i64 (z:Int)) SU.out HS.out (fun W hS=>?_) ?_
    ·rw [<-hwd] at hS;obtain rfl:=hS;go_simp;first | done | rfl | omega | (exact IntWalk.i64_in _ (by omega)) | (simp <;> omega)
    simp only [PU];refine M_v 10 (.bool true) SU.out HS.out (fun W hS=>?_) ?_
    ·rw [<-hwd] at hS;obtain rfl:=hS;go_simp;first | done | rfl | omega | (exact IntWalk.i64_in _ (by omega)) | (simp <;> omega)
    simp only [PU];refine wpAnyM_done (by kernel_rfl) (fun w' hG=>?_);obtain rfl:=hG;rw [<-hwd];clear hwd e0 e1;have hspl:=HSPL2.out;rw [if_pos hsz] at hspl;have HSPL3:=zh hspl;clear hspl HSPL2;go_upto_region 11 with (at_builtin;refine wpList_append_R rfl (.tmp 31) (.tmp 40) 27 rfl w2.heap.size 9 i0 _ 1 16 underlying27 hi0 hz0 hz1 hz2 rfl (by omega) (.slice A0 k c0) k (strs ps) (by first | rfl | simp [Act.eval]) (own_keep HOWN.out (KeepB.of_nil (HFD.out.alloc _))) ⟨wd.heap.size,0,none⟩ 1 1 [.string (S.extract b s)] (by first | rfl | simp [Act.eval]) rfl (one_new1 wd 9 _) (by simp [Value.oneCell']) (by unfold maxLen;omega) (by omega) (by have:=HFR.out.size;have:=HFD.out.size;simp;omega) ?_;intro v' w5 hown5 hgr hat5;obtain ⟨A5,c5,rfl⟩:=own_any hown5;have HGR:=zh hgr;have HOWN5:=zh hown5;clear hown5 hgr hat5)
    have hfb:FB < w2.heap.size:=by
     obtain ⟨-, cur,hc⟩:=own_base HFO.out FB rfl;exact hc.lt
    have hf5:Fr (Value.slice A0 k c0).ownBlock.toList wd w5:=((Fr.refl _ wd).alloc _).grown HGR.out (fun x hx => .inl (by simp [hx]));have hob:∀ x,(Value.slice A0 k c0).ownBlock=some x->w2.heap.size <= x:=fun x hx=>(own_base HOWN.out x hx).1
    have e1:w5.cell? ⟨FB,i * 3+1,none⟩=some (.int .i64 (z:Int)):=(hf5.cell (World.block_lt_of_cell? _ _ d1) (by
     intro hm;have:=hob FB (by simpa using hm)
     omega)).trans d1
    have hfw:Fr [] w2 w5:=((HFR.out.trans HFD.out).alloc _).grown HGR.out (fun x hx => .inr (hob x hx));have HFW:=zh hfw;clear hf5 hfw hob d0 d1;go_wp2_with fail
    go_roundw
    case rel=>
     have hp:S.extract b s=⟨((tx.drop b).take (s - b)).toArray⟩:=HEXT.out b s k1 (by omega);have h1:=HOWN5.out;rw [hp] at h1;have el:(ps ++ [(tx.drop b).take (s - b)]).length=k+1:=by rw [List.length_append,<-HK.out];rfl
     refine ⟨i+1,z,ps ++ [(tx.drop b).take (s - b)],A5,c5,by go_num,rfl,by rw [el],by rw [<-HM.out];omega,by rw [el];omega,by rw [<-HN.out];exact k3,by rw [HSPL3.out];simp,K4.out,?_,HFW.out⟩;rw [el]
     simpa [strs] using h1
    case measure=>simp [intOf] <;> omega
   have hszI:¬ ((s:Int) < (z:Int)):=by omega
   refine wp_region_M_ (G:=fun a b=>a=b) (S:=fun W=>W=wr.drew) ⟨fun _=>rfl,fun a b c h k=>h.trans k,fun a b h k=>k ▸ h,by kernel_rfl,fun _ _ d _ _ h=>by cases d <;> exact h⟩ (by kernel_rfl) fun su=>?_
   have SU:=zh su;have HS:Hid (wr.drew=wr.drew):=zh rfl;clear su;refine M_m 0 SU.out HS.out ?_;simp only [PE];refine M_m 1 SU.out HS.out ?_;simp only [PE];refine M_v 2 ?_ SU.out HS.out (fun W hS=>?_) ?_;rotate_left
   ·rw [<-hwd] at hS;obtain rfl:=hS;go_simp;first | done | rfl | omega | (exact IntWalk.i64_in _ (by omega)) | (simp <;> omega)
   simp only [PU];refine M_v 3 ?_ SU.out HS.out (fun W hS=>?_) ?_;rotate_left
   ·rw [<-hwd] at hS;obtain rfl:=hS;go_simp;first | done | rfl | omega | (exact IntWalk.i64_in _ (by omega)) | (simp <;> omega)
   simp only [PU];refine M_v 4 (.int .i64 (s:Int)) SU.out HS.out (fun W hS=>?_) ?_
   ·rw [<-hwd] at hS;obtain rfl:=hS;go_simp;first | done | rfl | omega | (exact IntWalk.i64_in _ (by omega)) | (simp <;> omega)
   simp only [PU];refine M_m 5 SU.out HS.out ?_;simp only [PE];refine M_m 6 SU.out HS.out ?_;simp only [PE];refine M_v 7 ?_ SU.out HS.out (fun W hS=>?_) ?_;rotate_left
   ·rw [<-hwd] at hS;obtain rfl:=hS;go_simp;first | done | rfl | omega | (exact IntWalk.i64_in _ (by omega)) | (simp <;> omega)
   simp only [PU];refine M_v 8 ?_ SU.out HS.out (fun W hS=>?_) ?_;rotate_left
   ·rw [<-hwd] at hS;obtain rfl:=hS;go_simp;first | done | rfl | omega | (exact IntWalk.i64_in _ (by omega)) | (simp <;> omega)
   simp only [PU];refine M_v 9 (.int .i64 (z:Int)) SU.out HS.out (fun W hS=>?_) ?_
   ·rw [<-hwd] at hS;obtain rfl:=hS;go_simp;first | done | rfl | omega | (exact IntWalk.i64_in _ (by omega)) | (simp <;> omega)
   simp only [PU];refine M_v 10 (.bool false) SU.out HS.out (fun W hS=>?_) ?_
   ·rw [<-hwd] at hS;obtain rfl:=hS;go_simp;first | done | rfl | omega | (exact IntWalk.i64_in _ (by omega)) | (simp <;> omega)
   simp only [PU];refine wpAnyM_done (by kernel_rfl) (fun w' hG=>?_);obtain rfl:=hG;rw [<-hwd];clear hwd e0 e1;have hspl:=HSPL2.out;rw [if_neg hsz] at hspl;have HSPL3:=zh hspl;clear hspl HSPL2;go_wp2_with fail
   go_roundw
   case rel=>exact ⟨i+1,b,ps,A0,c0,by go_num,rfl,by rw [<-HK.out],by rw [<-HM.out];omega,by rw [<-HK.out];omega,by rw [<-HN.out];exact hbn',HSPL3.out,K5.out,by rw [<-HK.out];exact own_keep HOWN.out (KeepB.of_nil HFD.out),HFR.out.trans HFD.out⟩
   case measure=>simp [intOf] <;> omega
  have hinI:¬ ((i:Int) < (m:Int)):=by omega
  obtain rfl:m=i:=by omega
  have hspl:=HSPL.out;rw [List.drop_of_length_le (by rw [<-HM.out];exact Nat.le_refl _),splitF,<-HSPE.out] at hspl;have HSPL2:=zh hspl;clear hspl HSPL;go_wp2_with (at_builtin;refine wpList_append_R rfl (.tmp 47) (.tmp 51) 27 rfl w2.heap.size 9 i0 _ 1 16 underlying27 hi0 hz0 hz1 hz2 rfl (by omega) (.slice A0 k c0) k (strs ps) (by first | rfl | simp [Act.eval]) (own_keep HOWN.out (KeepB.of_nil ((Fr.refl [] wr).alloc _))) ⟨wr.heap.size,0,none⟩ 1 1 [.string (S.extract b n)] (by first | rfl | simp [Act.eval]) rfl (one_new1 wr 9 _) (by simp [Value.oneCell']) (by unfold maxLen;omega) (by omega) (by have:=HFR.out.size;simp;omega) ?_;intro v' w5 hown5 hgr hat5;obtain ⟨A5,c5,rfl⟩:=own_any hown5;have HGR:=zh hgr;have HOWN5:=zh hown5;clear hown5 hgr hat5)
  go_ret
  have hp:S.extract b n=⟨(tx.drop b).toArray⟩:=by
   rw [HEXT.out b n hbn' (Nat.le_refl _),List.take_of_length_le (by have:=HN.out;simp;omega)]
  have h1:=HOWN5.out;rw [hp] at h1;have el:SP.length=k+1:=by rw [HSPL2.out,List.length_append,<-HK.out];rfl
  refine ⟨A5,c5,by rw [el];rfl,?_,HF2.out.trans ((HFR.out.alloc _).grown HGR.out (fun x hx => .inr (own_base HOWN.out x hx).1))⟩;rw [el];have h2:=own_rebase (base':=w.heap.size) h1 (fun x hx=>by have:=(own_base h1 x hx).1;have:=HF2.out.size;omega);rw [HSPL2.out]
  simpa [strs] using h2
end Go.Proofs.YtfofechcccodeaaGreatDoor
namespace Go.Proofs.YtfofechcccodeaaGreatDoor.F
open Go.RowKit Go.Proofs.Tryz
set_option linter.unusedVariables false
set_option linter.unusedSimpArgs false
set_option maxRecDepth 100000
set_option maxHeartbeats 4000000
theorem own_of_row {w:World} {base n c:Nat} {A:Option Addr} {l:List (List UInt8)} (h:w.ownsRow base 9 1 (.slice A n c) n (strs l)):OwnL w (.slice A n c) l:=by
 obtain ⟨h1,⟨h2,h3⟩ | ⟨g,cap,cur,h2,-, hb,h3,h4,h5,h6⟩⟩:=h
 ·subst h3
  injection h2 with e1 e2 e3
  subst e1 e3;have:l=[]:=List.eq_nil_of_length_eq_zero (by simpa [strs] using h1);subst this;exact Own.nil_ _ _
 injection h2 with e1 e2 e3
 subst e1 e3;have hl:(strVals l).length=n:=by rw [strVals_length];simpa [strs] using h1
 refine ⟨_,_,by rw [hl],by rw [hl];exact h3,h4,.inr ⟨g,0,cur,rfl,hb,by omega,?_⟩⟩;rw [hl,List.drop_zero];rw [Nat.mul_one] at h6;exact h6
theorem field_p {C:List Value} (hC:C.length=260) (a b c:Int) (W:World):(Instr.field 71 (.agg (gotC C a b c).toArray) 0).run prog W = .ok (.agg C.toArray) W:=by
 have h1:∀ w,(isAgg 69).run prog w = .ok true w:=fun w=>by kernel_rfl
 have h2:∀ w,(sizeOf 69).run prog w = .ok 260 w:=fun w=>by kernel_rfl
 have h3:∀ (w:World) (x:Array Value),(Instr.field 71 (.agg x) 0).run prog w=(part 69 x 0).run prog w:=fun w x=>by kernel_rfl
 rw [h3];unfold part;simp only [Sem.run_bind,h1,h2,Result.andThen_ok,if_true,Sem.run_pure]
 have e:(gotC C a b c).toArray.extract 0 (0+260)=C.toArray:=by
  unfold gotC
  apply Array.ext'
  simp [<-hC]
 rw [e]
theorem split6_any {w:World} {base:Nat} {fs tx:List UInt8} {t:RT} {p:PT} (hp:parseS fs = .ok t) (hl:fs.length <= 60) (htx:tx.length <= 500) (hL:ProgOk (progT t)/\0 < (progT t).length) (hn:NewR base w t p) :
    Calls prog 36 #[.agg p.rcells.toArray,.string ⟨tx.toArray⟩] w fun e w'=>∃ (A:Option Addr) (c:Nat),e = .returned (.slice A (splitS (progT t) tx).length c)/\w'.ownsRow w.heap.size 9 1 (.slice A (splitS (progT t) tx).length c) (splitS (progT t) tx).length (strs (splitS (progT t) tx))/\Fr [] w w':=by
 obtain ⟨hr1,hr2⟩:=parse_good hp;have hcnt:cntP p <= 5000:=by rw [hn.rep.cnt];omega
 have hE:EndsOk tx p:=ends_any htx (cntP p+1) p (by omega) hcnt (by rw [hn.rep.right];exact hr1);exact rsplit_any (rcells_len p) htx hL (fun W hW=>rfinds_any (rcells_len p) htx hL (fun U hU x hx=>rfind_any htx hE (hn.mem.fr_nil (hW.trans hU)) hx (fndP_of hp hn.rep hL hx)))
theorem rspl_sp (w:World) (s:List UInt8) (hs:s.length <= 500):SplitOk w [32] s (splM s):=by
 intro W _;go_enter func23,ntmps23
 go_wp2_with fail
 go_at_call 34
 refine (rsplit7_any _ s (by omega)).mono ?_;rintro e w2 ⟨v,rfl,ho,hf⟩;have HO:=zh ho;have HF:=zh hf;clear ho hf;go_wp2_with fail
 go_ret
 exact ⟨v,rfl,HO.out,HF.out⟩
theorem rspl_one (w:World) (c:UInt8) (h1:c ≠ 32) (h2:c ≠ 92) (s:List UInt8) (hs:s.length <= 500):SplitOk w [c] s (cutM s c):=by
 intro W _;have t1:([c] == [(32:UInt8)])=false:=by simpa using h1
 have t2:([c] == ([]:List UInt8))=false:=by simp
 have t3:([c] == [(92:UInt8)])=false:=by simpa using h2
 have i0:∀ W,(Instr.index 9 (.string ⟨#[c]⟩) (.int .i64 0)).run prog W = .ok (.int .u8 (c.toNat:Int)) W:=fun W=>by kernel_rfl
 clear h1 h2;go_enter func23,ntmps23
 go_wp2_with fail
 go_at_call 35
 refine (rcut7_any _ s c (by omega)).mono ?_;rintro e w2 ⟨v,rfl,ho,hf⟩;have HO:=zh ho;have HF:=zh hf;clear ho hf;go_wp2_with fail
 go_ret
 exact ⟨v,rfl,HO.out,HF.out⟩
theorem rspl_chr (w:World) (s:List UInt8) (hs:s.length <= 500):SplitOk w [] s (chrM s):=by
 intro W _;obtain ⟨i0,hi0,hz0,hz1,hz2⟩:=strParts;go_enter func23,ntmps23
 go_wp2_with fail
 go_loopw [5,6] (GatRel W (fun i=>chrM (s.take i)) s.length) (fun _ v6 _=>s.length - (intOf v6).toNat)
 case atStart=>exact ⟨0,rfl,by simpa [OwnL,strVals,chrM] using Own.nil_ W 9,fun g hg=>by simp [Value.ownBlock] at hg,Fr.refl _ _,by omega⟩
 case round=>
  obtain ⟨i,rfl,ho,hfr,hf,hi⟩:=hrel;have hln:(chrM (s.take i)).length=i:=by rw [chr_len];simp;omega
  obtain ⟨A,cap,hv,hl1,hl2,-, -⟩:=OwnL.val ho;rw [hln] at hv hl1;subst hv;unfold maxLen at hl2;have HFR:=zh hfr;have HO:=zh ho;have HF:=zh hf;have HLN:=zh hln;clear ho hf hfr hln;by_cases hlt:i < s.length
  ·have hwr:IntKind.i64.wrap ((i:Int)+1)=(i:Int)+1:=by rw [IntKind.wrap_i64];omega
   go_wp2_with (at_builtin;refine wpList_append_OwnS rfl (.tmp 19) (.tmp 25) 27 rfl 9 i0 _ underlying27 hi0 hz0 hz1 rfl (.slice A i cap) (strVals (chrM (s.take i))) i (by rw [strVals_length];exact HLN.out) (by rfl) (Own.fr HO.out ((Fr.refl [] wr).alloc _) (by simp)) (some ⟨wr.heap.size,0,none⟩) 1 1 (by rfl) [.string ((⟨s.toArray⟩:ByteArray).extract i (i+1))] (one_str wr _) rfl (by simp [Value.oneCell']) (by unfold maxLen;omega) (by rw [hz2];omega) ?_;intro A5 c5 w5 ho5 hg5 hl5;have HO5:=zh ho5;have HG5:=zh hg5;have HL5:=zh hl5;clear ho5 hg5 hl5)
   have hoL:OwnL w5 (.slice A5 (i+1) c5) (chrM (s.take (i+1))):=by have:=HO5.out;rw [ba_extract] at this;unfold OwnL;rw [chr_next s i hlt,strVals_append];exact this
   have hfr5:Fr [] W w5:=(HF.out.trans ((Fr.refl [] wr).alloc _)).grown HG5.out (fun g hg => .inr (HFR.out g hg))
   have hnew:∀ g,(Value.slice A5 (i+1) c5).ownBlock=some g->W.heap.size <= g:=fun g hg=>by
    rcases HL5.out with e | e
    ·exact HFR.out g (by rw [<-e];exact hg)
    rw [hg] at e;injection e with e;have:=HF.out.size;simp at e;omega
   have HOL:=zh hoL;have HFR5:=zh hfr5;have HNEW:=zh hnew;clear hoL hfr5 hnew;go_wp2_with fail
   go_roundw
   case rel=>exact ⟨i+1,by go_num,HOL.out,HNEW.out,HFR5.out,by omega⟩
   case measure=>simp [intOf] <;> omega
  obtain rfl:i=s.length:=by omega
  have hfin:OwnL wr (.slice A s.length cap) (chrM s):=by have:=HO.out;dsimp only at this;rw [List.take_length] at this;exact this
  have HFIN:=zh hfin;clear hfin;go_wp2_with fail
  go_ret
  exact ⟨_,rfl,HFIN.out,HF.out⟩
structure ExS (fs:List UInt8) (S:ByteArray) (n:Nat):Prop where
 hs:S=⟨fs.toArray⟩
 hn:n=fs.length
 sz:S.size=n
 n0:0 < n
 d0:(S.data.toList == ([]:List UInt8))=false
 d1:(S.toList == ([]:List UInt8))=false
 d2:S.toList.isEmpty=false
 d3:(S.data.toList == [(32:UInt8)])=false
 d4:(S.toList == [(32:UInt8)])=false
 e0:n=1->(S.data.toList == [(92:UInt8)])=true
 e1:n=1->(S.toList == [(92:UInt8)])=true
theorem ExS.of {fs:List UInt8} (hx:exprFs fs):∃ S n,ExS fs S n:=by
 refine ⟨⟨fs.toArray⟩,fs.length,rfl,rfl,by simp [ByteArray.size],List.length_pos_iff.2 hx.1,?_,?_,?_,?_,?_,?_,?_⟩
 ·simpa using hx.1
 ·simpa using hx.1
 ·have:(⟨fs.toArray⟩:ByteArray).toList=fs:=by simp
  rw [this]
  cases h:fs with
  | nil=>exact absurd h hx.1
  | cons=>rfl
 ·have:fs ≠ [32]:=by rintro rfl;rcases hx.2 with h | h <;> simp at h
  simpa using this
 ·have:fs ≠ [32]:=by rintro rfl;rcases hx.2 with h | h <;> simp at h
  simpa using this
 ·intro h;rcases hx.2 with h2 | h2
  ·exact absurd h h2
  rw [h2];rfl
 intro h;rcases hx.2 with h2 | h2
 ·exact absurd h h2
 rw [h2];simp
theorem rspl_expr (w:World) {fs:List UInt8} (hx:exprFs fs) {t:RT} (hp:parseS fs = .ok t) (hl:fs.length <= 60) (s:List UInt8) (hs:s.length <= 500):SplitOk w fs s (splitS (progT t) s):=by
 intro W _;obtain ⟨S,n,hX⟩:=ExS.of hx;obtain ⟨q1,q2,-⟩:=parse_prog hp;have hpar:=rparse_any fs W;rw [hp] at hpar;have h6:∀ (W':World) (p:PT) (base:Nat),NewR base W' t p->Calls prog 36 #[.agg p.rcells.toArray,.string ⟨s.toArray⟩] W' _:=fun W' p base hn=>split6_any hp hl hs ⟨q1,q2⟩ hn;have t0:=hX.d0;have t1:=hX.d1;have t2:=hX.d2;have t3:=hX.d3;have t4:=hX.d4;have e0:=hX.e0;have e1:=hX.e1;have hs1:=hX.sz;rw [<-hX.hs] at hpar ⊢; have HPAR:=zh hpar;have H6:=zh h6;clear hX hx hp hpar h6 q1 q2;go_enter func23,ntmps23
 by_cases h1:n=1
 case' pos=>
  have u1:((n:Int) == 1)=true:=by simp [h1]
  have u2:((S.size:Int) == 1)=true:=by rw [hs1];exact u1
  have v0:=e0 h1;have v1:=e1 h1;clear e0 e1 h1 hs1;go_upto_region 12 with fail
  clear u1 u2 v0 v1
 case' neg=>
  have u1:((n:Int) == 1)=false:=by rw [beq_eq_false_iff_ne];omega
  have u2:((S.size:Int) == 1)=false:=by rw [hs1];exact u1
  clear e0 e1 h1 hs1;go_upto_region 12 with fail
  clear u1 u2
 all_goals
  clear t0 t1 t2 t3 t4;go_wp2_with fail
  go_at_call 28
  refine HPAR.out.mono ?_;rintro e w2 ⟨hf,p,j,rfl,hn⟩;have HN:=zh hn;have HF:=zh hf;have hfd:=fun W=>field_p (rcells_len p) (j:Int) 0 0 W;obtain ⟨G,hG⟩:∃ G,G=(gotC p.rcells (j:Int) 0 0).toArray:=⟨_,rfl⟩;rw [<-hG] at hfd ⊢; obtain ⟨PC,hPC⟩:∃ PC,PC=p.rcells.toArray:=⟨_,rfl⟩;rw [<-hPC] at hfd;have HPC:=zh hPC;clear hn hf hG hPC;go_wp2_with fail
  go_at_call 36
  rw [HPC.out];refine (H6.out w2 p _ HN.out).mono ?_;rintro e w3 ⟨A,c,rfl,ho,hf⟩;have HO:=zh (own_of_row ho);have HF3:=zh (HF.out.trans hf);clear ho hf;go_wp2_with fail
  go_ret
  exact ⟨_,rfl,HO.out,HF3.out⟩
theorem rspl_any (w:World) {fs:List UInt8} {fl:List UInt8->List (List UInt8)} (h:FsOk fs fl) (s:List UInt8) (hs:s.length <= 500):SplitOk w fs s (fl s):=by
 rcases h with ⟨rfl,rfl⟩ | ⟨rfl,rfl⟩ | ⟨c,rfl,h1,h2,rfl⟩ | ⟨hx,t,hp,hl,rfl⟩
 ·exact rspl_sp w s hs
 ·exact rspl_chr w s hs
 ·exact rspl_one w c h1 h2 s hs
 exact rspl_expr w hx hp hl s hs
end Go.Proofs.YtfofechcccodeaaGreatDoor.F
