/-
  Small texts in one (Hr3, Hf6). No conditions.
-/
import Derived.Test.YtfofechcccodeaaGreatDoorQac
import Derived.Test.YtfofechcccodeaaGreatDoorQad
import Derived.Test.YtfofechcccodeaaGreatDoorQbg
import Derived.Test.YtfofechcccodeaaGreatDoorQba
namespace Go.Proofs.YtfofechcccodeaaGreatDoor.F
open Go.RowKit Go.Proofs.Tryz
set_option linter.unusedVariables false
set_option linter.unusedSimpArgs false
set_option maxRecDepth 100000
set_option maxHeartbeats 4000000
theorem splG_byte {s:List UInt8} {i:Nat} {x:UInt8} (h:s[i]?=some x) (cur:List UInt8):splG (s.drop i) cur=if isBl x=true then (if cur=[] then [] else [cur]) ++ splG (s.drop (i+1)) [] else splG (s.drop (i+1)) (cur ++ [x]):=by
 obtain ⟨h1,h2⟩:=List.getElem?_eq_some_iff.1 h;rw [List.drop_eq_getElem_cons h1,h2,splG]
theorem cutG_byte {s:List UInt8} {i:Nat} {x c:UInt8} (h:s[i]?=some x) (cur:List UInt8):cutG c (s.drop i) cur=if x=c then cur :: cutG c (s.drop (i+1)) [] else cutG c (s.drop (i+1)) (cur ++ [x]):=by
 obtain ⟨h1,h2⟩:=List.getElem?_eq_some_iff.1 h;rw [List.drop_eq_getElem_cons h1,h2,cutG]
def RsRel (w:World) (s:List UInt8) (F:List UInt8->List UInt8->List (List UInt8)) (R:List (List UInt8)) (v3 v4 v5:Value) (wr:World):Prop:=∃ (i:Nat) (l:List (List UInt8)) (cur:List UInt8) (A:Option Addr) (cap:Nat),
 v5 = .int .i64 (i:Int)/\v4 = .string ⟨cur.toArray⟩/\v3 = .slice A l.length cap/\OwnL wr (.slice A l.length cap) l/\(∀ g,(Value.slice A l.length cap).ownBlock=some g->w.heap.size <= g)/\Fr [] w wr/\i <= s.length/\l.length <= i/\cur.length <= i/\l ++ F (s.drop i) cur=R
theorem ext_one {s:List UInt8} {i:Nat} {x:UInt8} (h:s[i]?=some x):(⟨s.toArray⟩:ByteArray).extract i (i+1)=⟨[x].toArray⟩:=by
 obtain ⟨h1,h2⟩:=List.getElem?_eq_some_iff.1 h;rw [ba_extract,List.drop_eq_getElem_cons h1,h2,Nat.add_sub_cancel_left];rfl
theorem getD_of {s:List UInt8} {i:Nat} {x:UInt8} (h:s[i]?=some x):s.getD i 0=x:=by rw [List.getD_eq_getElem?_getD,h];rfl
theorem rsplit7_any (w:World) (s:List UInt8) (hs:s.length <= 1000):Calls prog 34 #[.string ⟨s.toArray⟩] w fun e w'=>∃ v,e = .returned v/\OwnL w' v (splM s)/\Fr [] w w':=by
 obtain ⟨i0,hi0,hz0,hz1,hz2⟩:=strParts;obtain ⟨S,hS⟩:∃ S,S=(⟨s.toArray⟩:ByteArray):=⟨_,rfl⟩;obtain ⟨n,hn⟩:∃ n,n=s.length:=⟨_,rfl⟩;have hs1:S.size=n:=by rw [hS,hn];simp [ByteArray.size]
 have hidx0:∀ (i:Nat) (x:UInt8),s[i]?=some x->∀ W,(Instr.index 9 (.string S) (.int .i64 (i:Int))).run prog W = .ok (.int .u8 ((x.toNat:Nat):Int)) W:=fun i x h W=>by
  have h1:=idx_str s i (List.getElem?_eq_some_iff.1 h).1 W;rw [getD_of h] at h1;rw [hS];exact h1
 have hext0:∀ (i:Nat) (x:UInt8),s[i]?=some x->S.extract i (i+1)=⟨[x].toArray⟩:=fun i x h=>by rw [hS];exact ext_one h
 rw [<-hS];rw [<-hn] at hs;have HS:=zh hS;have HN:=zh hn;have HIX:=zh hidx0;have HEX:=zh hext0;clear hS hn hidx0 hext0;go_enter func34,ntmps34
 go_upto_region 4 with fail
 go_loopw [3,4,5] (fun v3 v4 v5 wr=>RsRel w s splG (splM s) v3 v4 v5 wr) (fun _ _ v5 _=>n+1 - (intOf v5).toNat)
 case atStart=>exact ⟨0,[],[],none,0,rfl,rfl,rfl,Own.nil_ _ _,by simp [Value.ownBlock],Fr.refl _ _,Nat.zero_le _,Nat.le_refl _,Nat.le_refl _,by simp [splM]⟩
 case round=>
  obtain ⟨i,l,cur,A,cap,rfl,rfl,rfl,ho,hfr,hf,hi,hll,hcl,hq⟩:=hrel;have hin0:i <= n:=by rw [HN.out];exact hi
  clear hi;have HFR:=zh hfr;have HO:=zh ho;have HF:=zh hf;have HQ:=zh hq;clear hfr ho hf hq;obtain ⟨O,hO⟩:∃ O,O=(⟨cur.toArray⟩:ByteArray):=⟨_,rfl⟩;obtain ⟨k,hk⟩:∃ k,k=l.length:=⟨_,rfl⟩;have hos:O.size <= i:=by rw [hO];simpa [ByteArray.size] using hcl
  have HOS:=zh hO;have HK:=zh hk;have HCL:=zh hcl;rw [<-hO,<-hk];rw [<-hk] at HO HFR hll;clear hO hk hcl
  have hne0:cur ≠ []->O.toList.isEmpty=false:=fun h=>by
   rw [HOS.out,ByteArray.toList_mk];cases cur with
   | nil=>exact absurd rfl h
   | cons x y=>rfl
  have hemp:cur=[]->O=⟨#[]⟩:=fun h=>by rw [HOS.out,h]
  rcases Nat.lt_or_ge i n with hin | hin
  ·have hinI:(i:Int) < (n:Int):=by omega
   obtain ⟨x,hx⟩:∃ x,s[i]?=some x:=⟨_,List.getElem?_eq_getElem (by have:=HN.out;omega)⟩;have hidx:=HIX.out i x hx;have hext:=HEX.out i x hx;have hq:=HQ.out;rw [splG_byte hx] at hq;obtain ⟨m,hm⟩:∃ m,x.toNat=m:=⟨_,rfl⟩;rw [hm] at hidx;by_cases hbl:isBl x=true
   ·rw [if_pos hbl] at hq
    have hne:m=32 ∨ m=9 ∨ m=10:=by
     subst hm;unfold isBl at hbl;simp only [Bool.or_eq_true,beq_iff_eq] at hbl;rcases hbl with (q | q) | q <;> rw [q] <;> simp
    by_cases hc0:cur=[]
    ·rw [if_pos hc0,List.nil_append] at hq;have hO0:=hemp hc0;have HQ2:=zh hq;clear hq hbl hm hext hx hemp hne0 HQ hc0;subst hO0;rcases hne with rfl | rfl | rfl
     all_goals
      go_wp2_with fail
      go_roundw
      case rel=>exact ⟨i+1,l,[],A,cap,by go_num,rfl,by rw [HK.out],by rw [<-HK.out];exact HO.out,by rw [<-HK.out];exact HFR.out,HF.out,by have:=HN.out;omega,by have:=HK.out;omega,by simp,HQ2.out⟩
      case measure=>simp [intOf] <;> omega
    rw [if_neg hc0] at hq;have hO0:=hne0 hc0;have HQ2:=zh hq;clear hq hbl hm hext hx hemp hne0 HQ hc0;rcases hne with rfl | rfl | rfl
    all_goals
     go_wp2_with (at_builtin;refine wpList_append_OwnS rfl (.tmp 30) (.tmp 32) 27 rfl 9 i0 _ underlying27 hi0 hz0 hz1 rfl (.slice A k cap) (strVals l) k (by rw [strVals_length];exact HK.out.symm) (by first | rfl | simp [Act.eval]) (Own.fr HO.out ((Fr.refl [] wr).alloc _) (by simp)) (some ⟨wr.heap.size,0,none⟩) 1 1 (by first | rfl | simp [Act.eval]) [.string O] (one_str wr _) rfl (by simp [Value.oneCell']) (by unfold maxLen;omega) (by rw [hz2];omega) ?_;intro A5 c5 w5 ho5 hg5 hl5;have HO5:=zh ho5;have HG5:=zh hg5;have HL5:=zh hl5;clear ho5 hg5 hl5)
     have hoL:OwnL w5 (.slice A5 (k+1) c5) (l ++ [cur]):=by have:=HO5.out;rw [HOS.out] at this;unfold OwnL;rw [strVals_append];exact this
     have hfr5:Fr [] w w5:=(HF.out.trans ((Fr.refl [] wr).alloc _)).grown HG5.out (fun g hg => .inr (HFR.out g hg))
     have hnew:∀ g,(Value.slice A5 (k+1) c5).ownBlock=some g->w.heap.size <= g:=fun g hg=>by
      rcases HL5.out with e | e
      ·exact HFR.out g (by rw [<-e];exact hg)
      rw [hg] at e;injection e with e;have:=HF.out.size;simp at e;omega
     have HOL:=zh hoL;have HFR5:=zh hfr5;have HNEW:=zh hnew;clear hoL hfr5 hnew;go_wp2_with fail
     go_roundw
     case rel=>
      have el:(l ++ [cur]).length=k+1:=by rw [List.length_append,<-HK.out];rfl
      exact ⟨i+1,l ++ [cur],[],A5,c5,by go_num,rfl,by rw [el],by rw [el];exact HOL.out,by rw [el];exact HNEW.out,HFR5.out,by have:=HN.out;omega,by rw [el];omega,by simp,by have h:=HQ2.out;rw [<-List.append_assoc] at h;exact h⟩
     case measure=>simp [intOf] <;> omega
   rw [if_neg hbl] at hq
   have hne:m ≠ 32/\m ≠ 9/\m ≠ 10:=by
    subst hm;unfold isBl at hbl;simp only [Bool.or_eq_true,beq_iff_eq,not_or] at hbl;obtain ⟨⟨q1,q2⟩,q3⟩:=hbl;exact ⟨fun e=>q3 (UInt8.toNat_inj.1 e),fun e=>q1 (UInt8.toNat_inj.1 e),fun e=>q2 (UInt8.toNat_inj.1 e)⟩
   have t1:((m:Int) == 32)=false:=beq_eq_false_iff_ne.2 (by omega);have t2:((m:Int) == 9)=false:=beq_eq_false_iff_ne.2 (by omega);have t3:((m:Int) == 10)=false:=beq_eq_false_iff_ne.2 (by omega);obtain ⟨E,hE⟩:∃ E,E=(⟨[x].toArray⟩:ByteArray):=⟨_,rfl⟩;rw [<-hE] at hext;have hes:E.size=1:=by rw [hE];rfl
   have hnov:¬ 9223372036854775807 < O.size+E.size:=by omega
   have hcat:O ++ E=(⟨(cur ++ [x]).toArray⟩:ByteArray):=by rw [HOS.out,hE,ba_append]
   have HQ2:=zh hq;have HCAT:=zh hcat
   clear hq hbl hm hx hemp hne0 HQ hne hE hcat
   go_wp2_with fail
   go_roundw
   case rel=>exact ⟨i+1,l,cur ++ [x],A,cap,by go_num,by rw [HCAT.out],by rw [HK.out],by rw [<-HK.out];exact HO.out,by rw [<-HK.out];exact HFR.out,HF.out,by have:=HN.out;omega,by have:=HK.out;omega,by have:=HCL.out;simp;omega,HQ2.out⟩
   case measure=>simp [intOf] <;> omega
  have hinI:¬ ((i:Int) < (n:Int)):=by omega
  have hdr:s.drop i=[]:=List.drop_of_length_le (by rw [<-HN.out];exact hin);have hq:=HQ.out;rw [hdr,splG] at hq;by_cases hc0:cur=[]
  ·rw [if_pos hc0,List.append_nil] at hq;have hO0:=hemp hc0;have HQ2:=zh hq;clear hq hemp hne0 HQ hc0 hdr;subst hO0;go_wp2_with fail
   go_ret
   exact ⟨_,rfl,by rw [<-HQ2.out];exact HO.out,HF.out⟩
  rw [if_neg hc0] at hq;have hO0:=hne0 hc0;have HQ2:=zh hq;clear hq hemp hne0 HQ hc0 hdr;go_wp2_with (at_builtin;refine wpList_append_OwnS rfl (.tmp 43) (.tmp 45) 27 rfl 9 i0 _ underlying27 hi0 hz0 hz1 rfl (.slice A k cap) (strVals l) k (by rw [strVals_length];exact HK.out.symm) (by first | rfl | simp [Act.eval]) (Own.fr HO.out ((Fr.refl [] wr).alloc _) (by simp)) (some ⟨wr.heap.size,0,none⟩) 1 1 (by first | rfl | simp [Act.eval]) [.string O] (one_str wr _) rfl (by simp [Value.oneCell']) (by unfold maxLen;omega) (by rw [hz2];omega) ?_;intro A5 c5 w5 ho5 hg5 hl5;have HO5:=zh ho5;have HG5:=zh hg5;have HL5:=zh hl5;clear ho5 hg5 hl5)
  have hoL:OwnL w5 (.slice A5 (k+1) c5) (l ++ [cur]):=by have:=HO5.out;rw [HOS.out] at this;unfold OwnL;rw [strVals_append];exact this
  have hfr5:Fr [] w w5:=(HF.out.trans ((Fr.refl [] wr).alloc _)).grown HG5.out (fun g hg => .inr (HFR.out g hg))
  have hnew:∀ g,(Value.slice A5 (k+1) c5).ownBlock=some g->w.heap.size <= g:=fun g hg=>by
   rcases HL5.out with e | e
   ·exact HFR.out g (by rw [<-e];exact hg)
   rw [hg] at e;injection e with e;have:=HF.out.size;simp at e;omega
  have HOL:=zh hoL;have HFR5:=zh hfr5;have HNEW:=zh hnew;clear hoL hfr5 hnew;go_wp2_with fail
  go_ret
  exact ⟨_,rfl,by rw [<-HQ2.out];exact HOL.out,HFR5.out⟩
theorem rcut7_any (w:World) (s:List UInt8) (c:UInt8) (hs:s.length <= 1000):Calls prog 35 #[.string ⟨s.toArray⟩,.int .u8 (c.toNat:Int)] w fun e w'=>∃ v,e = .returned v/\OwnL w' v (cutM s c)/\Fr [] w w':=by
 obtain ⟨i0,hi0,hz0,hz1,hz2⟩:=strParts;unfold cutM;by_cases h0:s=[]
 ·subst h0;rw [if_pos rfl];go_enter func35,ntmps35
  go_wp2_with fail
  go_ret
  exact ⟨_,rfl,Own.nil_ _ _,Fr.refl _ _⟩
 rw [if_neg h0];obtain ⟨S,hS⟩:∃ S,S=(⟨s.toArray⟩:ByteArray):=⟨_,rfl⟩;obtain ⟨n,hn⟩:∃ n,n=s.length:=⟨_,rfl⟩;obtain ⟨cn,hcn⟩:∃ cn,c.toNat=cn:=⟨_,rfl⟩;have hs1:S.size=n:=by rw [hS,hn];simp [ByteArray.size]
 have hSne:S.toList.isEmpty=false:=by
  rw [hS,ByteArray.toList_mk];cases s with
  | nil=>exact absurd rfl h0
  | cons x y=>rfl
 have hidx0:∀ (i:Nat) (x:UInt8),s[i]?=some x->∀ W,(Instr.index 9 (.string S) (.int .i64 (i:Int))).run prog W = .ok (.int .u8 ((x.toNat:Nat):Int)) W:=fun i x h W=>by
  have h1:=idx_str s i (List.getElem?_eq_some_iff.1 h).1 W;rw [getD_of h] at h1;rw [hS];exact h1
 have hext0:∀ (i:Nat) (x:UInt8),s[i]?=some x->S.extract i (i+1)=⟨[x].toArray⟩:=fun i x h=>by rw [hS];exact ext_one h
 rw [<-hS,hcn];rw [<-hn] at hs;have HS:=zh hS;have HN:=zh hn;have HIX:=zh hidx0;have HEX:=zh hext0;have HCN:=zh hcn;clear hS hn hidx0 hext0 h0 hcn;go_enter func35,ntmps35
 go_upto_region 6 with fail
 clear hSne
 go_loopw [5,6,7] (fun v3 v4 v5 wr=>RsRel w s (cutG c) (cutG c s []) v3 v4 v5 wr) (fun _ _ v5 _=>n+1 - (intOf v5).toNat)
 case atStart=>exact ⟨0,[],[],none,0,rfl,rfl,rfl,Own.nil_ _ _,by simp [Value.ownBlock],Fr.refl _ _,Nat.zero_le _,Nat.le_refl _,Nat.le_refl _,by simp⟩
 case round=>
  obtain ⟨i,l,cur,A,cap,rfl,rfl,rfl,ho,hfr,hf,hi,hll,hcl,hq⟩:=hrel;have hin0:i <= n:=by rw [HN.out];exact hi
  clear hi;have HFR:=zh hfr;have HO:=zh ho;have HF:=zh hf;have HQ:=zh hq;clear hfr ho hf hq;obtain ⟨O,hO⟩:∃ O,O=(⟨cur.toArray⟩:ByteArray):=⟨_,rfl⟩;obtain ⟨k,hk⟩:∃ k,k=l.length:=⟨_,rfl⟩;have hos:O.size <= i:=by rw [hO];simpa [ByteArray.size] using hcl
  have HOS:=zh hO;have HK:=zh hk;have HCL:=zh hcl;rw [<-hO,<-hk];rw [<-hk] at HO HFR hll;clear hO hk hcl
  have hne0:cur ≠ []->O.toList.isEmpty=false:=fun h=>by
   rw [HOS.out,ByteArray.toList_mk];cases cur with
   | nil=>exact absurd rfl h
   | cons x y=>rfl
  have hemp:cur=[]->O=⟨#[]⟩:=fun h=>by rw [HOS.out,h]
  rcases Nat.lt_or_ge i n with hin | hin
  ·have hinI:(i:Int) < (n:Int):=by omega
   obtain ⟨x,hx⟩:∃ x,s[i]?=some x:=⟨_,List.getElem?_eq_getElem (by have:=HN.out;omega)⟩;have hidx:=HIX.out i x hx;have hext:=HEX.out i x hx;have hq:=HQ.out;rw [cutG_byte hx] at hq;obtain ⟨m,hm⟩:∃ m,x.toNat=m:=⟨_,rfl⟩;rw [hm] at hidx;by_cases hbl:x=c
   ·rw [if_pos hbl] at hq;have hmc:m=cn:=by rw [<-hm,hbl,HCN.out]
    have t1:((m:Int) == (cn:Int))=true:=by rw [hmc];simp
    have HQ2:=zh hq;clear hq hbl hm hext hx hemp hne0 HQ;subst hmc;go_wp2_with (at_builtin;refine wpList_append_OwnS rfl (.tmp 21) (.tmp 23) 27 rfl 9 i0 _ underlying27 hi0 hz0 hz1 rfl (.slice A k cap) (strVals l) k (by rw [strVals_length];exact HK.out.symm) (by first | rfl | simp [Act.eval]) (Own.fr HO.out ((Fr.refl [] wr).alloc _) (by simp)) (some ⟨wr.heap.size,0,none⟩) 1 1 (by first | rfl | simp [Act.eval]) [.string O] (one_str wr _) rfl (by simp [Value.oneCell']) (by unfold maxLen;omega) (by rw [hz2];omega) ?_;intro A5 c5 w5 ho5 hg5 hl5;have HO5:=zh ho5;have HG5:=zh hg5;have HL5:=zh hl5;clear ho5 hg5 hl5)
    have hoL:OwnL w5 (.slice A5 (k+1) c5) (l ++ [cur]):=by have:=HO5.out;rw [HOS.out] at this;unfold OwnL;rw [strVals_append];exact this
    have hfr5:Fr [] w w5:=(HF.out.trans ((Fr.refl [] wr).alloc _)).grown HG5.out (fun g hg => .inr (HFR.out g hg))
    have hnew:∀ g,(Value.slice A5 (k+1) c5).ownBlock=some g->w.heap.size <= g:=fun g hg=>by
     rcases HL5.out with e | e
     ·exact HFR.out g (by rw [<-e];exact hg)
     rw [hg] at e;injection e with e;have:=HF.out.size;simp at e;omega
    have HOL:=zh hoL;have HFR5:=zh hfr5;have HNEW:=zh hnew;clear hoL hfr5 hnew;go_wp2_with fail
    go_roundw
    case rel=>
     have el:(l ++ [cur]).length=k+1:=by rw [List.length_append,<-HK.out];rfl
     exact ⟨i+1,l ++ [cur],[],A5,c5,by go_num,rfl,by rw [el],by rw [el];exact HOL.out,by rw [el];exact HNEW.out,HFR5.out,by have:=HN.out;omega,by rw [el];omega,by simp,by have h:=HQ2.out;simpa using h⟩
    case measure=>simp [intOf] <;> omega
   rw [if_neg hbl] at hq;have hmc:m ≠ cn:=fun e=>hbl (UInt8.toNat_inj.1 (by rw [hm,HCN.out,e]));have t1:((m:Int) == (cn:Int))=false:=beq_eq_false_iff_ne.2 (by omega);obtain ⟨E,hE⟩:∃ E,E=(⟨[x].toArray⟩:ByteArray):=⟨_,rfl⟩;rw [<-hE] at hext;have hes:E.size=1:=by rw [hE];rfl
   have hnov:¬ 9223372036854775807 < O.size+E.size:=by omega
   have hcat:O ++ E=(⟨(cur ++ [x]).toArray⟩:ByteArray):=by rw [HOS.out,hE,ba_append]
   have HQ2:=zh hq;have HCAT:=zh hcat
   clear hq hbl hm hx hemp hne0 HQ hE hcat
   go_wp2_with fail
   go_roundw
   case rel=>exact ⟨i+1,l,cur ++ [x],A,cap,by go_num,by rw [HCAT.out],by rw [HK.out],by rw [<-HK.out];exact HO.out,by rw [<-HK.out];exact HFR.out,HF.out,by have:=HN.out;omega,by have:=HK.out;omega,by have:=HCL.out;simp;omega,HQ2.out⟩
   case measure=>simp [intOf] <;> omega
  have hinI:¬ ((i:Int) < (n:Int)):=by omega
  have hdr:s.drop i=[]:=List.drop_of_length_le (by rw [<-HN.out];exact hin);have hq:=HQ.out;rw [hdr,cutG] at hq;have HQ2:=zh hq;clear hq hemp hne0 HQ hdr;go_wp2_with (at_builtin;refine wpList_append_OwnS rfl (.tmp 32) (.tmp 34) 27 rfl 9 i0 _ underlying27 hi0 hz0 hz1 rfl (.slice A k cap) (strVals l) k (by rw [strVals_length];exact HK.out.symm) (by first | rfl | simp [Act.eval]) (Own.fr HO.out ((Fr.refl [] wr).alloc _) (by simp)) (some ⟨wr.heap.size,0,none⟩) 1 1 (by first | rfl | simp [Act.eval]) [.string O] (one_str wr _) rfl (by simp [Value.oneCell']) (by unfold maxLen;omega) (by rw [hz2];omega) ?_;intro A5 c5 w5 ho5 hg5 hl5;have HO5:=zh ho5;have HG5:=zh hg5;have HL5:=zh hl5;clear ho5 hg5 hl5)
  have hoL:OwnL w5 (.slice A5 (k+1) c5) (l ++ [cur]):=by have:=HO5.out;rw [HOS.out] at this;unfold OwnL;rw [strVals_append];exact this
  have hfr5:Fr [] w w5:=(HF.out.trans ((Fr.refl [] wr).alloc _)).grown HG5.out (fun g hg => .inr (HFR.out g hg))
  have hnew:∀ g,(Value.slice A5 (k+1) c5).ownBlock=some g->w.heap.size <= g:=fun g hg=>by
   rcases HL5.out with e | e
   ·exact HFR.out g (by rw [<-e];exact hg)
   rw [hg] at e;injection e with e;have:=HF.out.size;simp at e;omega
  have HOL:=zh hoL;have HFR5:=zh hfr5;have HNEW:=zh hnew;clear hoL hfr5 hnew;go_wp2_with fail
  go_ret
  exact ⟨_,rfl,by rw [<-HQ2.out];exact HOL.out,HFR5.out⟩
/-! same. -/
end Go.Proofs.YtfofechcccodeaaGreatDoor.F
namespace Go.Proofs.YtfofechcccodeaaGreatDoor.F
open Go.RowKit Go.Proofs.Tryz
set_option linter.unusedVariables false
set_option linter.unusedSimpArgs false
set_option maxRecDepth 100000
set_option maxHeartbeats 4000000
def exprFs (fs:List UInt8):Prop:=fs ≠ []/\(fs.length ≠ 1 ∨ fs=[92])
def FsOk (fs:List UInt8) (fl:List UInt8->List (List UInt8)):Prop:=
 (fs=[32]/\fl=splM) ∨ (fs=[]/\fl=chrM) ∨ (∃ c,fs=[c]/\c ≠ 32/\c ≠ 92/\fl=fun t=>cutM t c) ∨ (exprFs fs/\∃ t,parseS fs = .ok t/\fs.length <= 60/\fl=splitS (progT t))
theorem finder_off {w w':World} {lo fb:Nat} {L:List Sp} {l:List Nat} (h:FinderAt w lo fb L) (hf:Fr l w w') (hl:∀ b ∈ l,∃ t cs,Bk w b t cs/\t ≠ 96/\t ≠ 142):FinderAt w' lo fb L:=by
 obtain ⟨A,cap,hb,hr⟩:=h;refine ⟨A,cap,hb.fr hf (fun hm=>?_),own_fr hr hf (fun b hk hm=>?_)⟩
 ·obtain ⟨t,cs,h1,h2,-⟩:=hl _ hm;exact h1.ne_ hb h2 rfl
 obtain ⟨t,cs,h1,-, h3⟩:=hl _ hm;obtain ⟨-, cur,hc⟩:=own_base hr b hk;exact h1.ne_ hc h3 rfl
theorem SepOk.fr_rec {w w':World} {r:Nat} {x y:Rc} (hk:SepOk w x) (hr:RcM w r y) (hg:GlobOk w') (hf:Fr [r] w w'):SepOk w' x:=by
 rcases hk with h | ⟨h1,-, h2⟩ | h | ⟨h1,lo,fb,L,h2,h3,h4⟩
 ·exact .inl h
 ·exact .inr (.inl ⟨h1,hg,h2⟩)
 ·exact .inr (.inr (.inl h))
 obtain ⟨v,hb,-⟩:=hr
 exact .inr (.inr (.inr ⟨h1, lo, fb, L, h2, finder_off h3 hf (fun b hm => by obtain rfl : b = r := by simpa using hm
                                                                             exact ⟨_,_,hb,by decide,by decide⟩),h4⟩))
theorem SepOk.fr_nil {w w':World} {x:Rc} (hk:SepOk w x) (hf:Fr [] w w'):SepOk w' x:=by
 rcases hk with h | ⟨h1,hg,h2⟩ | h | ⟨h1,lo,fb,L,h2,h3,h4⟩
 ·exact .inl h
 ·exact .inr (.inl ⟨h1,hg.fr hf,h2⟩)
 ·exact .inr (.inr (.inl h))
 exact .inr (.inr (.inr ⟨h1,lo,fb,L,h2,FinderAt.fr_ h3 hf,h4⟩))
def SeprPost (w:World) (r:Nat) (x:Rc) (fs:List UInt8) (e:Ending) (w':World):Prop:=
 (∃ k c f fl,e = .returned .nilIface/\FsOk fs fl/\SepOk w' { x with kind:=k,c:=c,f:=f,fl:=fl }/\RcM w' r { x with kind:=k,c:=c,f:=f,fl:=fl }/\Fr [r] w w') ∨
  (exprFs fs/\∃ (v:Value) (p code:Nat),e = .returned v/\FaultV w' v p code/\RcM w' r x/\Fr [] w w'/\(parseS fs = .error (p,code) ∨ (∃ t,parseS fs = .ok t)/\p=0/\code=5))
theorem put3 {w:World} {r:Nat} {x:Rc} {v:Value} (h:RcR w r x v) (k:Int) (c:UInt8) (f:Option Addr) (fl:List UInt8->List (List UInt8)) (w':World) (hw:w'=((w.setCell ⟨r,0,none⟩ (.int .i64 k)).setCell ⟨r,1,none⟩ (.int .u8 (c.toNat:Int))).setCell ⟨r,2,none⟩ (.pointer f)) :
    RcM w' r { x with kind:=k,c:=c,f:=f,fl:=fl }/\Fr [r] w w':=by
 subst hw;have hf:Fr [r] w (((w.setCell ⟨r,0,none⟩ (.int .i64 k)).setCell ⟨r,1,none⟩ (.int .u8 (c.toNat:Int))).setCell ⟨r,2,none⟩ (.pointer f)):=(((Fr.refl [r] w).setCell (.inl (by simp)) _).setCell (.inl (by simp)) _).setCell (.inl (by simp)) _;exact ⟨⟨v,h.fr_put (y:={ x with kind:=k,c:=c,f:=f,fl:=fl }) hf (((h.1.put 0 (.int .i64 k)).put 1 (.int .u8 (c.toNat:Int))).put 2 (.pointer f)) h.2⟩,hf⟩
theorem sepr_sp {w:World} {r:Nat} {x:Rc} (h:RcM w r x):Calls prog 14 #[.pointer (some ⟨r,0,none⟩),.string ⟨#[32]⟩] w (SeprPost w r x [32]):=by
 obtain ⟨v,h⟩:=h;obtain ⟨d0,d1,d2,-, -, -⟩:=rc_cells h.1;have f0:=h.1.frozen 0;have f1:=h.1.frozen 1;have f2:=h.1.frozen 2;have H:=zh h;clear h;go_enter func14,ntmps14
 go_wp2_with fail
 go_ret
 obtain ⟨q1,q2⟩:=put3 H.out 0 0 none splM _ rfl;exact .inl ⟨0,0,none,splM,rfl,.inl ⟨rfl,rfl⟩,.inl ⟨rfl,rfl⟩,q1,q2⟩
theorem sepr_nil {w:World} {r:Nat} {x:Rc} (h:RcM w r x):Calls prog 14 #[.pointer (some ⟨r,0,none⟩),.string ⟨#[]⟩] w (SeprPost w r x []):=by
 obtain ⟨v,h⟩:=h;obtain ⟨d0,d1,d2,-, -, -⟩:=rc_cells h.1;have f0:=h.1.frozen 0;have f1:=h.1.frozen 1;have f2:=h.1.frozen 2;have H:=zh h;clear h;go_enter func14,ntmps14
 go_wp2_with fail
 go_ret
 obtain ⟨q1,q2⟩:=put3 H.out 2 0 none chrM _ rfl;exact .inl ⟨2,0,none,chrM,rfl,.inr (.inl ⟨rfl,rfl⟩),.inr (.inr (.inl ⟨rfl,rfl⟩)),q1,q2⟩
theorem sepr_one {w:World} {r:Nat} {x:Rc} (h:RcM w r x) (hg:GlobOk w) (hgr:1 ≠ r) (c:UInt8) (h1:c ≠ 32) (h2:c ≠ 92):Calls prog 14 #[.pointer (some ⟨r,0,none⟩),.string ⟨#[c]⟩] w (SeprPost w r x [c]):=by
 obtain ⟨v,h⟩:=h;obtain ⟨d0,d1,d2,-, -, -⟩:=rc_cells h.1;have f0:=h.1.frozen 0;have f1:=h.1.frozen 1;have f2:=h.1.frozen 2;have t1:([c] == [(32:UInt8)])=false:=by simpa using h1
 have t2:([c] == ([]:List UInt8))=false:=by simp
 have h3:c.toNat ≠ 92:=fun e=>h2 (UInt8.toNat_inj.1 e);have t3:((c.toNat:Int) == 92)=false:=beq_eq_false_iff_ne.2 (by omega);have i0:∀ W,(Instr.index 9 (.string ⟨#[c]⟩) (.int .i64 0)).run prog W = .ok (.int .u8 (c.toNat:Int)) W:=fun W=>by kernel_rfl
 have H:=zh h;have HG:=zh hg;have HX:=zh (And.intro h1 h2);have HGR:=zh hgr;clear h h1 h2 h3 hg hgr;go_enter func14,ntmps14
 go_wp2_with fail
 go_ret
 obtain ⟨q1,q2⟩:=put3 H.out 1 c none (fun t=>cutM t c) _ rfl;exact .inl ⟨1,c,none,_,rfl,.inr (.inr (.inl ⟨c,rfl,HX.out.1,HX.out.2,rfl⟩)),.inr (.inl ⟨rfl,GlobOk.far HG.out q2 (by simpa using HGR.out),rfl⟩),q1,q2⟩
theorem news_cases {w w':World} {rs:List UInt8} {e:Ending} (h:NewPost w (parseS rs) e w') :
    (∃ (v:Value) (p code:Nat),e = .returned (.tuple #[.pointer none,v])/\FaultV w' v p code/\(parseS rs = .error (p,code) ∨ (∃ t,parseS rs = .ok t)/\p=0/\code=5)) ∨
    (∃ t lo fb,parseS rs = .ok t/\e = .returned (.tuple #[.pointer (some ⟨fb,0,none⟩),.nilIface])/\FinderAt w' lo fb (progT t)/\ProgOk (progT t)/\0 < (progT t).length/\(progT t).length <= 5000):=by
 obtain ⟨-, hp⟩:=h
 cases hpr:parseS rs with
 | error q=>
  obtain ⟨p,code⟩:=q;rw [hpr] at hp;obtain ⟨v,he,hb⟩:=hp;exact .inl ⟨v,p,code,he,hb,.inl rfl⟩
 | ok t=>
  rw [hpr] at hp;dsimp only at hp;by_cases h4:4000 <= sizP (toP t)
  ·rw [if_pos h4] at hp;obtain ⟨v,he,hb⟩:=hp;exact .inl ⟨v,0,5,he,hb,.inr ⟨⟨t,rfl⟩,rfl,rfl⟩⟩
  rw [if_neg h4] at hp;obtain ⟨fb,he,-, hfa⟩:=hp;obtain ⟨q1,q2,q3,-, -⟩:=parse_prog hpr;exact .inr ⟨t,_,fb,rfl,he,hfa,q1,q2,by omega⟩
theorem sepr_expr {w:World} {r:Nat} {x:Rc} (h:RcM w r x) (hg:GlobOk w) (fs:List UInt8) (hx:exprFs fs) (hl:fs.length <= 60):Calls prog 14 #[.pointer (some ⟨r,0,none⟩),.string ⟨fs.toArray⟩] w (SeprPost w r x fs):=by
 obtain ⟨v,h⟩:=h;obtain ⟨PP,hPP⟩:∃ PP,PP=SeprPost w r x fs:=⟨_,rfl⟩;rw [<-hPP];obtain ⟨S,hS⟩:∃ S,S=(⟨fs.toArray⟩:ByteArray):=⟨_,rfl⟩;obtain ⟨n,hn⟩:∃ n,n=fs.length:=⟨_,rfl⟩;have hne:=hx.1;have hne32:fs ≠ [32]:=by rintro rfl;rcases hx.2 with h | h <;> simp at h
 have hs1:S.size=n:=by rw [hS,hn];simp [ByteArray.size]
 have hs2:S.data.toList=fs:=by rw [hS]
 have hs3:S.toList=fs:=by rw [hS];simp
 have t0:(S.data.toList == ([]:List UInt8))=false:=by rw [hs2];simpa using hne
 have t0':(S.toList == ([]:List UInt8))=false:=by rw [hs3];simpa using hne
 have t0'':S.toList.isEmpty=false:=by
  rw [hs3];cases fs with
  | nil=>exact absurd rfl hne
  | cons=>rfl
 have t9:(S.data.toList == [(32:UInt8)])=false:=by rw [hs2];simpa using hne32
 have t9':(S.toList == [(32:UInt8)])=false:=by rw [hs3];simpa using hne32
 have hn0:0 < n:=by rw [hn];exact List.length_pos_iff.2 hne
 have i0:n=1->∀ W,(Instr.index 9 (.string S) (.int .i64 0)).run prog W = .ok (.int .u8 92) W:=fun h1 W=>by
  rcases hx.2 with h2 | h2
  ·exact absurd (hn ▸ h1) h2
  rw [hS,h2];kernel_rfl
 rw [<-hS];rw [<-hn] at hl;have hsz:S.size <= maxLen:=by rw [hs1];unfold maxLen;omega
 have HNW:Hid (∀ W A c,Fr [] w W->Bytes W A fs->S.size <= c->c <= maxLen->(A=none->c=0)->Calls prog 27 #[.slice A S.size c] W (NewPost W (parseS fs))):=zh (fun W A c hW hB hc hcm hA=>by
  have e:S.size=fs.length:=by rw [hs1,hn]
  have hl12:fs.length <= 150:=by rw [<-hn];omega
  rw [e] at hc ⊢
  exact new_any hB hl12 hc hA hcm (hg.fr hW))
 have HP:=zh hPP;have H:=zh h;have HS:=zh hs2;have HN:=zh hn;have HX:=zh hx;clear hPP h hg hS hs2 hs3 hn hne hne32 hx;go_enter func14,ntmps14
 by_cases h1:n=1
 case' pos=>
  have t1:((n:Int) == 1)=true:=by simp [h1]
  have t1':((S.size:Int) == 1)=true:=by rw [hs1];exact t1
  have i1:=i0 h1;clear i0 h1 hs1;go_upto_region 1 with fail
  clear i1 t1 t1'
 case' neg=>
  have t1:((n:Int) == 1)=false:=by rw [beq_eq_false_iff_ne];omega
  have t1':((S.size:Int) == 1)=false:=by rw [hs1];exact t1
  clear i0 h1 hs1;go_upto_region 1 with fail
  clear t1 t1'
 all_goals
  clear t0 t0' t0'' t9 t9'
  go_upto_region 2 with (first
   | (refine wpList_bytes rfl 9 64 (.tmp 8) rfl 5 underlying9 underlying64 underlying5 S (by rfl) hsz ?_;intro A2 cc2 w2 hat hge hle hA2 hfr;have HAT:Hid (Bytes w2 A2 fs):=zh (by rw [HS.out] at hat;exact hat);have HF2:=zh hfr;have HNX:=zh (HNW.out w2 A2 cc2 HF2.out HAT.out hge hle (by rw [hA2];simp));clear hat hge hle hA2 hfr)
   | (go_at_call 27;refine HNX.out.mono ?_;rintro e w3 hp;have HF3:=zh (HF2.out.trans hp.1);rcases news_cases hp with ⟨ev,p,code,rfl,hb,hc⟩ | ⟨t,lo,fb,hx,rfl,hfa,o1,o2,o3⟩ <;> clear hp <;> first | (have HFB:=zh hb;have HC:=zh hc;have hev:=hb;obtain ⟨q,rfl,-⟩:=hev;clear hb hc) | (have HX2:=zh hx;have HFA:=zh hfa;have HO:=zh (And.intro o1 (And.intro o2 o3));clear hx hfa o1 o2 o3)))
  ·go_wp2_with fail
   rw [HP.out];exact .inr ⟨HX.out,_,p,code,rfl,HFB.out,⟨v,H.out.1.fr HF3.out (by simp),Own.fr H.out.2 HF3.out (by simp)⟩,HF3.out,HC.out⟩
  have hr3:RcR w3 r x v:=⟨H.out.1.fr HF3.out (by simp),Own.fr H.out.2 HF3.out (by simp)⟩;obtain ⟨d0,d1,d2,-, -, -⟩:=rc_cells hr3.1;have f0:=hr3.1.frozen 0;have f1:=hr3.1.frozen 1;have f2:=hr3.1.frozen 2;have HR3:=zh hr3;clear hr3;go_wp2_with fail
  rw [HP.out];obtain ⟨q1,q2⟩:=put3 HR3.out 3 0 (some ⟨fb,0,none⟩) (splitS (progT t)) _ rfl
  have hoff:∀ b ∈ [r],∃ t cs,Bk w3 b t cs/\t ≠ 96/\t ≠ 142:=fun b hm=>by
   rw [List.mem_singleton.1 hm];exact ⟨_,_,HR3.out.1,by decide,by decide⟩
  exact .inl ⟨3,0,_,_,rfl,.inr (.inr (.inr ⟨HX.out,t,HX2.out,by have:=HN.out;omega,rfl⟩)),.inr (.inr (.inr ⟨rfl,lo,fb,progT t,rfl,finder_off HFA.out q2 hoff,HO.out.1,HO.out.2.1,HO.out.2.2,rfl⟩)),q1,(Fr.nil_ HF3.out).trans q2⟩
theorem sepr_any {w:World} {r:Nat} {x:Rc} (h:RcM w r x) (hg:GlobOk w) (hgr:1 ≠ r) (fs:List UInt8) (hl:fs.length <= 60):Calls prog 14 #[.pointer (some ⟨r,0,none⟩),.string ⟨fs.toArray⟩] w (SeprPost w r x fs):=by
 match fs,hl with
 | [],_=>exact sepr_nil h
 | [c],hl=>
  by_cases h1:c=32
  ·subst h1;exact sepr_sp h
  by_cases h2:c=92
  ·subst h2;exact sepr_expr h hg [92] ⟨by simp,.inr rfl⟩ hl
  exact sepr_one h hg hgr c h1 h2
 | a :: b :: q,hl=>exact sepr_expr h hg (a :: b :: q) ⟨by simp,.inl (by simp)⟩ hl
end Go.Proofs.YtfofechcccodeaaGreatDoor.F
