/-
  Small texts in one (RfA). No conditions.
-/
import Derived.Test.YtfofechcccodeaaGreatDoorQbn
import Derived.Test.YtfofechcccodeaaGreatDoorQbp
namespace Go.Proofs.YtfofechcccodeaaGreatDoor
open Go.RowKit Go.Proofs.Tryz
set_option linter.unusedVariables false
set_option linter.unusedSimpArgs false
set_option maxRecDepth 100000
set_option maxHeartbeats 16000000
theorem partC_put (k:Int) (s s':S4) (mn mx:Int) (X:Value) {c:Nat} (hc:c < 256) (h:∀ x,x < 256->s'.mem x=(s.mem x || decide (x=c))):(partC k s mn mx X).toArray.setIfInBounds (1+c) (.bool true)=(partC k s' mn mx X).toArray:=by
 have e:(bitsV s).set c (.bool true)=bitsV s':=by
  rw [<-bitsF_mem,<-bitsF_mem,bitsF_set _ hc];refine bitsF_ext fun x hx=>?_;rw [h x hx];by_cases hx2:x=c <;> simp [hx2]
 have e2:(partC k s mn mx X).set (1+c) (.bool true)=partC k s' mn mx X:=by
  unfold partC;rw [Nat.add_comm 1 c,List.set_cons_succ,List.set_append_left _ _ (by rw [bitsV_len];exact hc),e]
 rw [<-e2];simp
theorem single_any_ (c:Nat) (hc:c < 256) (w:World):Calls prog 105 #[.int .u8 (c:Int)] w fun e w'=>e = .returned (.agg (partC 1 (S4.range c c) 0 0 (.slice none 0 0)).toArray)/\Fr [] w w':=by
 obtain ⟨rb,hrb⟩:∃ rb,rb=w.heap.size:=⟨_,rfl⟩;have HRB:=zh hrb;go_enter func105,ntmps105
 go_upto_region 1 with (refine wpList_alloc_bk rfl 69 rfl zeroPC 260 rp_zero ?_;intro wA0 hzA hfA;have HFA0:=zh hfA;have HZA0:Hid (Bk wA0 rb 69 zeroPC.toArray):=zh (by rw [HRB.out];exact hzA);clear hzA hfA)
 rw [<-hrb];clear hrb
 go_upto_region 2 with (first
  | (refine wpList_build1 rfl 69 0 _ rfl (.int .i64 1) rfl (partC 1 S4.empty 0 0 (.slice none 0 0)) (built_k _) ?_)
  | (refine wpList_alloc_bk rfl 69 rfl zeroPC 260 rp_zero ?_;intro wA1 hzA hfA;have HZA1:=zh hzA;have HFA1:=zh hfA;have HZ1:=zh (HZA0.out.fr hfA (by simp));clear hzA hfA)
  | (refine wpList_store_bk rfl 69 _ _ rfl wA0.heap.size (partC 1 S4.empty 0 0 (.slice none 0 0)) rfl rfl _ _ HZA1.out (by rw [partC_len];exact rp_size) (by rw [partC_len,List.size_toArray,zeroPC_len]) (partC_one _ _ _ _ (by rfl)) ?_;intro wS hzS hfS;have HZS:=zh hzS;have HFS:=zh hfS;have HZ2:=zh (HZ1.out.fr hfS (by simp;have:=HZA0.out.lt;omega));clear hzS hfS))
 obtain ⟨g,hg⟩:∃ g,g=wA0.heap.size:=⟨_,rfl⟩;rw [<-hg];have HGB:Hid (Bk wS g 69 (partC 1 S4.empty 0 0 (.slice none 0 0)).toArray):=zh (by rw [hg];exact HZS.out);have HFW:Hid (Fr [] w wS):=zh ((HFA0.out.trans HFA1.out).trans' HFS.out (by simp;have:=HFA0.out.size;omega));have hgw:w.heap.size <= g:=by rw [hg];exact HFA0.out.size
 have hrg:rb < g:=by rw [hg];exact HZA0.out.lt
 have hcell:=HGB.out.cellL (partC_set 1 S4.empty 0 0 (.slice none 0 0) hc);have hfz:=HGB.out.frozen (1+c);clear hg;go_upto_region 3 with fail
 refine code_gen1 fun W hW=>?_
 have HB9:Hid (Bk W g 69 (partC 1 (S4.range c c) 0 0 (.slice none 0 0)).toArray):=zh (by
  have:=HGB.out.put (1+c) (.bool true);rw [partC_put 1 S4.empty (S4.range c c) 0 0 _ hc (fun x hx=>by rw [S4.mem_empty,S4.mem_range c c x hc hc hx,Bool.false_or,Bool.eq_iff_iff];simp;omega)] at this
  rw [hW];exact this)
 have HZ9:Hid (Bk W rb 69 zeroPC.toArray):=zh (by rw [hW];exact HZ2.out.far (by intro e;simp at e;omega) _);have HF9:Hid (Fr [] w W):=zh (by rw [hW];exact HFW.out.setCell (.inr hgw) _);clear hW hcell hfz
 go_wp2_with (first
  | (refine wpList_load_bk rfl 69 _ rfl g 0 rfl (partC 1 (S4.range c c) 0 0 (.slice none 0 0)) _ _ _ HB9.out (by intro j u hj;rw [Nat.zero_add,List.getElem?_toArray];exact hj) underlying69 rfl (by rw [partC_len];exact rp_size) ?_)
  | (refine wpList_store_bk rfl 69 _ _ rfl rb (partC 1 (S4.range c c) 0 0 (.slice none 0 0)) rfl rfl _ _ HZ9.out (by rw [partC_len];exact rp_size) (by rw [partC_len,List.size_toArray,zeroPC_len]) (partC_one _ _ _ _ (by rfl)) ?_;intro wT hzS hfS;have HZT:=zh hzS;have HFT:=zh hfS;clear hzS hfS))
 refine ret_row_ (p:=2) (T:=69) rfl rb _ _ rfl HZT.out underlying69 rfl (by rw [partC_len];exact rp_size) rfl ?_;exact ⟨rfl,HF9.out.trans' HFT.out (by simp;have:=HRB.out;omega)⟩
theorem ratom_of (f:Nat) (hE:RExprOk f):RAtomOk (f+1):=by
 intro w bs i d hl hi hd hf;obtain ⟨S,hS⟩:∃ S,S=(⟨bs.toArray⟩:ByteArray):=⟨_,rfl⟩;obtain ⟨L,hL⟩:∃ L,L=bs.length:=⟨_,rfl⟩;have hs1:S.size=L:=by rw [hS,hL];simp [ByteArray.size]
 have HIX:Hid (∀ j:Nat,j < L->∀ W,(Instr.index 9 (.string S) (.int .i64 (j:Int))).run prog W = .ok (.int .u8 (bn bs j:Int)) W):=zh (fun j hj W=>by rw [hS];exact str_at bs j (by omega) W);have HSD:Hid (S=(⟨bs.toArray⟩:ByteArray)):=zh hS;have HL:Hid (L=bs.length):=zh hL;obtain ⟨R,hR⟩:∃ R,R=atomF bs (f+1) d i:=⟨_,rfl⟩;obtain ⟨rb,hrb⟩:∃ rb,rb=w.heap.size:=⟨_,rfl⟩;have HRB:=zh hrb;have HR:=zh hR;rw [<-hS,<-hR];rw [<-hL] at hl hi hf;clear hS hR hL
 have hEx:∀ W:World,d < 64->Calls prog 41 #[.string S,.int .i64 ((i:Int)+1),.int .i64 ((d:Int)+1)] W (RPost W (exprF bs f (d+1) (i+1) [])):=fun W h=>by
  have:=hE W bs (i+1) (d+1) (by have:=HL.out;omega) (by have:=HL.out;omega) (by omega) (by have:=HL.out;omega);rw [HSD.out,show (i:Int)+1=((i+1:Nat):Int) by omega,show (d:Int)+1=((d+1:Nat):Int) by omega];exact this
 have HEX:=zh hEx;have HBRK:Hid (bn bs i=91->∀ W:World,Calls prog 104 #[.string S,.int .i64 (i:Int)] W (BPost W (bracketS bs i))):=zh (fun h W=>by rw [HSD.out];exact rbracket_any bs i (by have:=HL.out;omega) (by have:=HL.out;omega) h W);have ix:=HIX.out i hi;have hRR:=HR.out;rw [atomF] at hRR;have HRX:=zh hRR;have hxl:=bn_lt bs i;obtain ⟨x,hx⟩:∃ x,x=bn bs i:=⟨_,rfl⟩;have HX:=zh hx;rw [<-hx] at ix hxl;have HPL:Hid (x ≠ 40->R=plainS bs i):=zh (fun h=>by rw [HRX.out,if_neg (by rw [<-HX.out];exact h)]);clear hE hEx HR hRR hx;go_enter func90,ntmps90
 go_upto_region 1 with (first
  | (refine wpList_alloc_bk rfl 71 rfl (gotC zeroPC 0 0 0) 263 rg_zero ?_;intro wA0 hzA hfA;have HFA0:=zh hfA;have HZA0:Hid (Bk wA0 rb 71 (gotC zeroPC 0 0 0).toArray):=zh (by rw [HRB.out];exact hzA);clear hzA hfA))
 rw [<-hrb];clear hrb;by_cases h40:x=40
 ·subst h40;by_cases hd64:d=64
  ·subst hd64;have HR2:Hid (R = .error (i,6)):=zh (by rw [HRX.out,if_pos HX.out.symm,if_pos rfl])
   go_wp2_with (first
    | (refine wpList_build2 rfl 71 2 3 _ _ rfl (.int .i64 6) (.int .i64 (i:Int)) rfl rfl (gotC zeroPC 0 6 (i:Int)) (built_eq_ _ _) ?_)
    | (refine wpList_store_bk rfl 71 _ _ rfl rb (gotC zeroPC 0 6 (i:Int)) rfl rfl _ _ HZA0.out (by rw [gotC_len zeroPC_len];exact rg_size) (by rw [gotC_len zeroPC_len,List.size_toArray,gotC_len zeroPC_len]) (gotC_one zeroPC_one _ _ _) ?_;intro wS9 hzS hfS;have HZS9:=zh hzS;have HFS9:=zh hfS;clear hzS hfS))
   refine ret_row_ (p:=6) (T:=71) rfl rb _ _ rfl HZS9.out underlying71 rfl (by rw [gotC_len zeroPC_len];exact rg_size) rfl ?_;exact RPost.err (i:=i) (c:=6) HR2.out (by first | (simp;done) | rfl) (HFA0.out.trans' HFS9.out (by simp;have:=HRB.out;omega))
  have hdlt:d < 64:=by omega
  have hdI:((d:Int) == 64)=false:=by simp;omega
  have hcall:=fun W=>HEX.out W hdlt;have hRR:=HRX.out;rw [if_pos HX.out.symm,if_neg hd64] at hRR;have hle:=(readF_le bs f).1 (d+1) (i+1) [];rcases hY:exprF bs f (d+1) (i+1) [] with ⟨q,code⟩ | ⟨t,j⟩
  ·have hc0:0 < code:=(read_code bs f).1 _ _ _ _ _ hY;rw [hY] at hcall hRR;have HR2:Hid (R = .error (q,code)):=zh hRR;have HCL:Hid (∀ W,Calls prog 41 #[.string S,.int .i64 ((i:Int)+1),.int .i64 ((d:Int)+1)] W fun e w'=>e = .returned (.agg (gotC zeroPC 0 (code:Int) (q:Int)).toArray)/\Fr [] W w'):=zh hcall;have hcI:((code:Int) != 0)=true:=by simp;omega
   clear hcall hRR hY hle HRX HPL HBRK HEX
   go_upto_region 6 with (first
    | (go_at_call 41;refine (HCL.out _).mono ?_;rintro e w2 ⟨rfl,hf2⟩;have HF2:=zh (HFA0.out.trans hf2);have HZ2:=zh (HZA0.out.fr hf2 (by simp));clear hf2)
    | (refine wpList_alloc_bk rfl 71 rfl (gotC zeroPC 0 0 0) 263 rg_zero ?_;intro wA1 hzA hfA;have HZA1:=zh hzA;have HF3:=zh (HF2.out.trans hfA);have HZ3:=zh (HZ2.out.fr hfA (by simp));clear hzA hfA)
    | (refine wpList_store_bk rfl 71 _ _ rfl w2.heap.size (gotC zeroPC 0 (code:Int) (q:Int)) rfl rfl _ _ HZA1.out (by rw [gotC_len zeroPC_len];exact rg_size) (by rw [gotC_len zeroPC_len,List.size_toArray,gotC_len zeroPC_len]) (gotC_one zeroPC_one _ _ _) ?_;intro wS1 hzS hfS;have HZS1:=zh hzS;have HF4:Hid (Fr [] w wS1):=zh (HF3.out.trans' hfS (by simp;have:=HF2.out.size;omega));have HFS1:=zh hfS;have HZ4:=zh (HZ3.out.fr hfS (by simp;have:=HZ2.out.lt;omega));have c261:=hzS.cellL (gotC_e zeroPC_len _ _ _);have c260:=hzS.cellL (gotC_n zeroPC_len _ _ _);clear hzS hfS))
   go_wp2_with (first
    | (refine wpList_load_bk rfl 71 _ rfl w2.heap.size 0 rfl (gotC zeroPC 0 (code:Int) (q:Int)) _ _ _ HZS1.out (by intro j u hj;simpa using hj) underlying71 rfl (by rw [gotC_len zeroPC_len];exact rg_size) ?_)
    | (refine wpList_store_bk rfl 71 _ _ rfl rb (gotC zeroPC 0 (code:Int) (q:Int)) rfl rfl _ _ HZ4.out (by rw [gotC_len zeroPC_len];exact rg_size) (by rw [gotC_len zeroPC_len,List.size_toArray,gotC_len zeroPC_len]) (gotC_one zeroPC_one _ _ _) ?_;intro wS9 hzS hfS;have HZS9:=zh hzS;have HFS9:=zh hfS;clear hzS hfS))
   refine ret_row_ (p:=6) (T:=71) rfl rb _ _ rfl HZS9.out underlying71 rfl (by rw [gotC_len zeroPC_len];exact rg_size) rfl ?_;exact RPost.err HR2.out rfl (HF4.out.trans' HFS9.out (by simp;have:=HRB.out;omega))
  have hjb:=hle t j (by have:=HL.out;omega) hY;have hend:=(read_end bs f).1 _ _ _ _ _ hY;rw [hY] at hcall hRR;have HRC:Hid (R=closeT bs (.ok (t,j))):=zh hRR;have HCL:Hid (∀ W,Calls prog 41 #[.string S,.int .i64 ((i:Int)+1),.int .i64 ((d:Int)+1)] W (RPost W (.ok (t,j)))):=zh hcall;clear hcall hRR hY hle HRX HPL HBRK HEX
  go_upto_region 8 with (first
   | (go_at_call 41;refine (HCL.out _).mono ?_;rintro e w2 ⟨p,rfl,hn,hf2⟩;have HN2:=zh hn;have HF2:=zh (HFA0.out.trans hf2);have HZ2:=zh (HZA0.out.fr hf2 (by simp));clear hf2 hn)
   | (refine wpList_alloc_bk rfl 71 rfl (gotC zeroPC 0 0 0) 263 rg_zero ?_;intro wA1 hzA hfA;have HZA1:=zh hzA;have HF3:=zh (HF2.out.trans hfA);have HZ3:=zh (HZ2.out.fr hfA (by simp));have HN3:=zh (HN2.out.fr_nil hfA);clear hzA hfA)
   | (refine wpList_store_bk rfl 71 _ _ rfl w2.heap.size (gotC p.rcells (j:Int) 0 0) rfl rfl _ _ HZA1.out (by rw [gotC_len (rcells_len p)];exact rg_size) (by rw [gotC_len (rcells_len p),List.size_toArray,gotC_len zeroPC_len]) (gotC_one (rcells_one p) _ _ _) ?_;intro wS1 hzS hfS;have HZS1:=zh hzS;have HF4:Hid (Fr [] w wS1):=zh (HF3.out.trans' hfS (by simp;have:=HF2.out.size;omega));have HFS1:=zh hfS;have HZ4:=zh (HZ3.out.fr hfS (by simp;have:=HZ2.out.lt;omega));have c261:=hzS.cellL (gotC_e (rcells_len p) _ _ _);have c260:=hzS.cellL (gotC_n (rcells_len p) _ _ _);clear hzS hfS))
  have HN4:Hid (NewR w2.heap.size wS1 t p ∨ True):=zh (.inr trivial);have HN5:Hid (NewR w.heap.size wS1 t p):=zh ((HN3.out.fr HFS1.out (by simp;right;intro hm;have:=(HN2.out.new _ hm).2;omega)).lower HFA0.out.size);by_cases hjL:L <= j
  ·have hjI:(L:Int) <= (j:Int):=by omega
   have HR2:Hid (R = .error (bs.length,7)):=zh (by rw [HRC.out];unfold closeT;simp only [];rw [if_neg (by rw [bn_ge (by have:=HL.out;omega)];omega)])
   go_wp2_with (first
    | (refine wpList_build2 rfl 71 2 3 _ _ rfl (.int .i64 7) (.int .i64 (L:Int)) rfl rfl (gotC zeroPC 0 7 (L:Int)) (built_eq_ _ _) ?_)
    | (refine wpList_store_bk rfl 71 _ _ rfl rb (gotC zeroPC 0 7 (L:Int)) rfl rfl _ _ HZ4.out (by rw [gotC_len zeroPC_len];exact rg_size) (by rw [gotC_len zeroPC_len,List.size_toArray,gotC_len zeroPC_len]) (gotC_one zeroPC_one _ _ _) ?_;intro wS9 hzS hfS;have HZS9:=zh hzS;have HFS9:=zh hfS;clear hzS hfS))
   refine ret_row_ (p:=6) (T:=71) rfl rb _ _ rfl HZS9.out underlying71 rfl (by rw [gotC_len zeroPC_len];exact rg_size) rfl ?_;exact RPost.err (i:=bs.length) (c:=7) HR2.out (by rw [<-HL.out];first | (simp;done) | rfl) (HF4.out.trans' HFS9.out (by simp;have:=HRB.out;omega))
  have hjI:¬ ((L:Int) <= (j:Int)):=by omega
  have HR2:Hid (R = .ok (t,j+1)):=zh (by rw [HRC.out];unfold closeT;simp only [];rw [if_pos (by have:=HL.out;rcases hend with h | h <;> omega)])
  go_wp2_with (first
   | (refine wpList_load_bk rfl 69 _ rfl w2.heap.size 0 rfl (p.rcells) _ _ _ HZS1.out (by intro j u hj;rw [Nat.zero_add,List.getElem?_toArray];exact gotC_p _ _ _ hj) underlying69 rfl (by rw [rcells_len];exact rp_size) ?_)
   | (refine wpList_build2 rfl 71 0 1 _ _ rfl (.agg p.rcells.toArray) (.int .i64 ((j:Int)+1)) rfl rfl (gotC p.rcells ((j:Int)+1) 0 0) (built_pn (rcells_len p) _) ?_)
   | (refine wpList_store_bk rfl 71 _ _ rfl rb (gotC p.rcells ((j:Int)+1) 0 0) rfl rfl _ _ HZ4.out (by rw [gotC_len (rcells_len p)];exact rg_size) (by rw [gotC_len (rcells_len p),List.size_toArray,gotC_len zeroPC_len]) (gotC_one (rcells_one p) _ _ _) ?_;intro wS9 hzS hfS;have HZS9:=zh hzS;have HFS9:=zh hfS;clear hzS hfS))
  refine ret_row_ (p:=6) (T:=71) rfl rb _ _ rfl HZS9.out underlying71 rfl (by rw [gotC_len (rcells_len p)];exact rg_size) rfl ?_;exact RPost.ok_ HR2.out (by first | rfl | (simp;done)) (HN5.out.fr HFS9.out (by simp;right;intro hm;have h1:=(HN2.out.new _ hm).1;have:=HZA0.out.lt;omega)) (HF4.out.trans' HFS9.out (by simp;have:=HRB.out;omega))
 have t40:((x:Int) == 40)=false:=by simp;omega
 have HP2:Hid (R=plainS bs i):=zh (HPL.out h40);clear HEX HPL HRX h40;by_cases h91:x=91
 ·subst h91;have hcall:=HBRK.out HX.out.symm
  have HP3:Hid (R=setR (bracketS bs i) i):=zh (by
   rw [HP2.out];unfold plainS;rw [<-HX.out];simp)
  rcases hY:bracketS bs i with ⟨q,code⟩ | ⟨Sx,n⟩
  ·have hc0:0 < code:=bracket_code hY;have HR2:Hid (R = .error (q,code)):=zh (by rw [HP3.out,hY];rfl);rw [hY] at hcall;have HCL:Hid (∀ W:World,Calls prog 104 #[.string S,.int .i64 (i:Int)] W fun e w'=>e = .returned (.agg (brgC S4.empty 0 (code:Int) (q:Int)).toArray)/\Fr [] W w'):=zh hcall;have hcI:((code:Int) != 0)=true:=by simp;omega
   clear hcall hY HP2 HP3 HBRK
   go_upto_region 13 with (first
    | (go_at_call 104;refine (HCL.out _).mono ?_;rintro e w2 ⟨rfl,hf2⟩;have HF2:=zh (HFA0.out.trans hf2);have HZ2:=zh (HZA0.out.fr hf2 (by simp));clear hf2)
    | (refine wpList_alloc_bk rfl 208 rfl (brgC S4.empty 0 0 0) 259 rb_zero ?_;intro wA1 hzA hfA;have HZA1:=zh hzA;have HF3:=zh (HF2.out.trans hfA);have HZ3:=zh (HZ2.out.fr hfA (by simp));clear hzA hfA)
    | (refine wpList_store_bk rfl 208 _ _ rfl w2.heap.size (brgC S4.empty 0 (code:Int) (q:Int)) rfl rfl _ _ HZA1.out (by rw [brgC_len];exact rb_size) (by rw [brgC_len,List.size_toArray,brgC_len]) (brgC_one _ _ _ _) ?_;intro wS1 hzS hfS;have HZS1:=zh hzS;have HF4:Hid (Fr [] w wS1):=zh (HF3.out.trans' hfS (by simp;have:=HF2.out.size;omega));have HZ4:=zh (HZ3.out.fr hfS (by simp;have:=HZ2.out.lt;omega));have c257:=hzS.cellL (brgC_e _ _ _ _);have c258:=hzS.cellL (brgC_at _ _ _ _);have c256:=hzS.cellL (brgC_n _ _ _ _);clear hzS hfS))
   go_wp2_with (first
    | (refine wpList_build2 rfl 71 2 3 _ _ rfl (.int .i64 (code:Int)) (.int .i64 (q:Int)) rfl rfl (gotC zeroPC 0 (code:Int) (q:Int)) (built_eq_ _ _) ?_)
    | (refine wpList_store_bk rfl 71 _ _ rfl rb (gotC zeroPC 0 (code:Int) (q:Int)) rfl rfl _ _ HZ4.out (by rw [gotC_len zeroPC_len];exact rg_size) (by rw [gotC_len zeroPC_len,List.size_toArray,gotC_len zeroPC_len]) (gotC_one zeroPC_one _ _ _) ?_;intro wS9 hzS hfS;have HZS9:=zh hzS;have HFS9:=zh hfS;clear hzS hfS))
   refine ret_row_ (p:=6) (T:=71) rfl rb _ _ rfl HZS9.out underlying71 rfl (by rw [gotC_len zeroPC_len];exact rg_size) rfl ?_;exact RPost.err HR2.out rfl (HF4.out.trans' HFS9.out (by simp;have:=HRB.out;omega))
  have HR2:Hid (R = .ok (tSet Sx,i+n)):=zh (by rw [HP3.out,hY];rfl);have hnl:=bracketS_le (by have:=HL.out;omega) hY;rw [hY] at hcall;have HCL:Hid (∀ W:World,Calls prog 104 #[.string S,.int .i64 (i:Int)] W fun e w'=>e = .returned (.agg (brgC Sx (n:Int) 0 0).toArray)/\Fr [] W w'):=zh hcall;have hnL:i+n <= L:=by have:=HL.out;omega
  clear hcall hY HP2 HP3 HBRK hnl
  go_upto_region 13 with (first
   | (go_at_call 104;refine (HCL.out _).mono ?_;rintro e w2 ⟨rfl,hf2⟩;have HF2:=zh (HFA0.out.trans hf2);have HZ2:=zh (HZA0.out.fr hf2 (by simp));clear hf2)
   | (refine wpList_alloc_bk rfl 208 rfl (brgC S4.empty 0 0 0) 259 rb_zero ?_;intro wA1 hzA hfA;have HZA1:=zh hzA;have HF3:=zh (HF2.out.trans hfA);have HZ3:=zh (HZ2.out.fr hfA (by simp));clear hzA hfA)
   | (refine wpList_store_bk rfl 208 _ _ rfl w2.heap.size (brgC Sx (n:Int) 0 0) rfl rfl _ _ HZA1.out (by rw [brgC_len];exact rb_size) (by rw [brgC_len,List.size_toArray,brgC_len]) (brgC_one _ _ _ _) ?_;intro wS1 hzS hfS;have HZS1:=zh hzS;have HF4:Hid (Fr [] w wS1):=zh (HF3.out.trans' hfS (by simp;have:=HF2.out.size;omega));have HZ4:=zh (HZ3.out.fr hfS (by simp;have:=HZ2.out.lt;omega));have c257:=hzS.cellL (brgC_e _ _ _ _);have c258:=hzS.cellL (brgC_at _ _ _ _);have c256:=hzS.cellL (brgC_n _ _ _ _);clear hzS hfS))
  go_wp2_with (first
   | (refine wpList_load_bk rfl 66 _ rfl w2.heap.size 0 rfl (bitsV Sx) _ _ _ HZS1.out (by intro j u hj;rw [Nat.zero_add,List.getElem?_toArray];exact brgC_s _ _ _ _ hj) underlying66 rfl (by rw [bitsV_len];exact rs_size) ?_)
   | (refine wpList_build2 rfl 69 0 1 _ _ rfl (.int .i64 1) (.agg (bitsV Sx).toArray) rfl rfl (partC 1 Sx 0 0 (.slice none 0 0)) (built_ks _ _) ?_)
   | (refine wpList_build2 rfl 71 0 1 _ _ rfl (.agg (partC 1 Sx 0 0 (.slice none 0 0)).toArray) (.int .i64 ((i:Int)+(n:Int))) rfl rfl (gotC (partC 1 Sx 0 0 (.slice none 0 0)) ((i:Int)+(n:Int)) 0 0) (built_pn (partC_len _ _ _ _ _) _) ?_)
   | (refine wpList_store_bk rfl 71 _ _ rfl rb (gotC (partC 1 Sx 0 0 (.slice none 0 0)) ((i:Int)+(n:Int)) 0 0) rfl rfl _ _ HZ4.out (by rw [gotC_len (partC_len _ _ _ _ _)];exact rg_size) (by rw [gotC_len (partC_len _ _ _ _ _),List.size_toArray,gotC_len zeroPC_len]) (gotC_one (partC_one _ _ _ _ (by rfl)) _ _ _) ?_;intro wS9 hzS hfS;have HZS9:=zh hzS;have HFS9:=zh hfS;clear hzS hfS))
  refine ret_row_ (p:=6) (T:=71) rfl rb _ _ rfl HZS9.out underlying71 rfl (by rw [gotC_len (partC_len _ _ _ _ _)];exact rg_size) rfl ?_;exact RPost.ok_ (p:=rleafP 1 Sx) HR2.out (by rw [rleafP_cells];first | rfl | (simp;done)) (rleafP_new _ _ _ _) (HF4.out.trans' HFS9.out (by simp;have:=HRB.out;omega))
 have t91:((x:Int) == 91)=false:=by simp;omega
 clear HBRK;by_cases h46:x=46
 ·subst h46;have HR2:Hid (R = .ok (tSet (S4.range 0 255),i+1)):=zh (by rw [HP2.out];unfold plainS;rw [<-HX.out];simp);clear HP2 t40 t91 h91
  go_upto_region 18 with (first
   | (refine wpList_build1 rfl 69 0 _ rfl (.int .i64 1) rfl (partC 1 S4.empty 0 0 (.slice none 0 0)) (built_k _) ?_)
   | (refine wpList_alloc_bk rfl 69 rfl zeroPC 260 rp_zero ?_;intro wA1 hzA hfA;have HZA1:=zh hzA;have HF3:=zh (HFA0.out.trans hfA);have HZ3:=zh (HZA0.out.fr hfA (by simp));clear hzA hfA)
   | (refine wpList_store_bk rfl 69 _ _ rfl wA0.heap.size (partC 1 S4.empty 0 0 (.slice none 0 0)) rfl rfl _ _ HZA1.out (by rw [partC_len];exact rp_size) (by rw [partC_len,List.size_toArray,zeroPC_len]) (partC_one _ _ _ _ (by rfl)) ?_;intro wS hzS hfS;have HZS:=zh hzS;have HFS:Hid (Fr [] w wS):=zh (HF3.out.trans' hfS (by simp;have:=HFA0.out.size;omega));have HZ4:=zh (HZ3.out.fr hfS (by simp;have:=HZA0.out.lt;omega));clear hzS hfS))
  obtain ⟨g,hg⟩:∃ g,g=wA0.heap.size:=⟨_,rfl⟩;rw [<-hg];have HGB:Hid (Bk wS g 69 (partC 1 S4.empty 0 0 (.slice none 0 0)).toArray):=zh (by rw [hg];exact HZS.out);have hrg:rb < g:=by rw [hg];exact HZA0.out.lt
  have HGW:Hid (w.heap.size <= g):=zh (by rw [hg];exact HFA0.out.size);clear hg;go_wp2_with fail
  go_loopw [10] (fun v10 wr=>∃ c:Nat,v10 = .int .i64 (c:Int)/\c <= 256/\Bk wr g 69 (partC 1 (S4.span 0 c) 0 0 (.slice none 0 0)).toArray/\Bk wr rb 71 (gotC zeroPC 0 0 0).toArray/\Fr [] w wr) (fun v10 _=>257 - (intOf v10).toNat)
  case atStart=>exact ⟨0,rfl,by omega,HGB.out,HZ4.out,HFS.out⟩
  case round=>
   obtain ⟨c,rfl,hc,h1,h2,h3⟩:=hrel;by_cases hlt:c < 256
   ·have hltI:(c:Int) < 256:=by omega
    have hcell:=h1.cellL (partC_set 1 (S4.span 0 c) 0 0 (.slice none 0 0) hlt);have hfz:=h1.frozen (1+c)
    have hfin:∀ W,W=wr.setCell ⟨g,1+c,none⟩ (.bool true)->Bk W g 69 (partC 1 (S4.span 0 (c+1)) 0 0 (.slice none 0 0)).toArray/\Bk W rb 71 (gotC zeroPC 0 0 0).toArray/\Fr [] w W:=fun W hW=>by
     subst hW;refine ⟨?_,h2.far (by intro e;simp at e;omega) _,h3.setCell (.inr HGW.out) _⟩;have:=h1.put (1+c) (.bool true);rw [partC_put 1 (S4.span 0 c) (S4.span 0 (c+1)) 0 0 _ hlt (fun x hx=>by rw [S4.mem_span 0 (c+1) x (by omega) hx,S4.mem_span 0 c x (by omega) hx,Bool.eq_iff_iff];simp;omega)] at this;exact this
    have HFIN:=zh hfin;clear hfin h1 h2 h3 HGB HZ4 HFS;go_wp2_with fail
    go_roundw
    case rel=>exact ⟨c+1,by go_num,by omega,HFIN.out _ (by first | rfl | simp)⟩
    case measure=>simp [intOf] <;> omega
   obtain rfl:c=256:=by omega
   have H1:Hid (Bk wr g 69 (partC 1 (S4.range 0 255) 0 0 (.slice none 0 0)).toArray):=zh h1;have H2:=zh h2;have H3:=zh h3;clear h1 h2 h3 HGB HZ4 HFS
   go_wp2_with (first
    | (refine wpList_load_bk rfl 69 _ rfl g 0 rfl (partC 1 (S4.range 0 255) 0 0 (.slice none 0 0)) _ _ _ H1.out (by intro j u hj;rw [Nat.zero_add,List.getElem?_toArray];exact hj) underlying69 rfl (by rw [partC_len];exact rp_size) ?_)
    | (refine wpList_build2 rfl 71 0 1 _ _ rfl (.agg (partC 1 (S4.range 0 255) 0 0 (.slice none 0 0)).toArray) (.int .i64 ((i:Int)+1)) rfl rfl (gotC (partC 1 (S4.range 0 255) 0 0 (.slice none 0 0)) ((i:Int)+1) 0 0) (built_pn (partC_len _ _ _ _ _) _) ?_)
    | (refine wpList_store_bk rfl 71 _ _ rfl rb (gotC (partC 1 (S4.range 0 255) 0 0 (.slice none 0 0)) ((i:Int)+1) 0 0) rfl rfl _ _ H2.out (by rw [gotC_len (partC_len _ _ _ _ _)];exact rg_size) (by rw [gotC_len (partC_len _ _ _ _ _),List.size_toArray,gotC_len zeroPC_len]) (gotC_one (partC_one _ _ _ _ (by rfl)) _ _ _) ?_;intro wS9 hzS hfS;have HZS9:=zh hzS;have HFS9:=zh hfS;clear hzS hfS))
   refine ret_row_ (p:=6) (T:=71) rfl rb _ _ rfl HZS9.out underlying71 rfl (by rw [gotC_len (partC_len _ _ _ _ _)];exact rg_size) rfl ?_;exact RPost.ok_ (p:=rleafP 1 (S4.range 0 255)) HR2.out (by rw [rleafP_cells];first | rfl | (simp;done)) (rleafP_new _ _ _ _) (H3.out.trans' HFS9.out (by simp;have:=HRB.out;omega))
 have t46:((x:Int) == 46)=false:=by simp;omega
 by_cases h94:x=94
 ·subst h94;have HR2:Hid (R = .ok (.mk 5 S4.empty 0 0 [],i+1)):=zh (by rw [HP2.out];unfold plainS;rw [<-HX.out];simp);clear HP2
  go_wp2_with (first
   | (refine wpList_build1 rfl 69 0 _ rfl (.int .i64 5) rfl (partC 5 S4.empty 0 0 (.slice none 0 0)) (built_k _) ?_)
   | (refine wpList_build2 rfl 71 0 1 _ _ rfl (.agg (partC 5 S4.empty 0 0 (.slice none 0 0)).toArray) (.int .i64 ((i:Int)+1)) rfl rfl (gotC (partC 5 S4.empty 0 0 (.slice none 0 0)) ((i:Int)+1) 0 0) (built_pn (partC_len _ _ _ _ _) _) ?_)
   | (refine wpList_store_bk rfl 71 _ _ rfl rb (gotC (partC 5 S4.empty 0 0 (.slice none 0 0)) ((i:Int)+1) 0 0) rfl rfl _ _ HZA0.out (by rw [gotC_len (partC_len _ _ _ _ _)];exact rg_size) (by rw [gotC_len (partC_len _ _ _ _ _),List.size_toArray,gotC_len zeroPC_len]) (gotC_one (partC_one _ _ _ _ (by rfl)) _ _ _) ?_;intro wS9 hzS hfS;have HZS9:=zh hzS;have HFS9:=zh hfS;clear hzS hfS))
  refine ret_row_ (p:=6) (T:=71) rfl rb _ _ rfl HZS9.out underlying71 rfl (by rw [gotC_len (partC_len _ _ _ _ _)];exact rg_size) rfl ?_;exact RPost.ok_ (p:=rleafP 5 S4.empty) HR2.out (by rw [rleafP_cells];first | rfl | (simp;done)) (rleafP_new _ _ _ _) (HFA0.out.trans' HFS9.out (by simp;have:=HRB.out;omega))
 have t94:((x:Int) == 94)=false:=by simp;omega
 by_cases h36:x=36
 ·subst h36;have HR2:Hid (R = .ok (.mk 6 S4.empty 0 0 [],i+1)):=zh (by rw [HP2.out];unfold plainS;rw [<-HX.out];simp);clear HP2
  go_wp2_with (first
   | (refine wpList_build1 rfl 69 0 _ rfl (.int .i64 6) rfl (partC 6 S4.empty 0 0 (.slice none 0 0)) (built_k _) ?_)
   | (refine wpList_build2 rfl 71 0 1 _ _ rfl (.agg (partC 6 S4.empty 0 0 (.slice none 0 0)).toArray) (.int .i64 ((i:Int)+1)) rfl rfl (gotC (partC 6 S4.empty 0 0 (.slice none 0 0)) ((i:Int)+1) 0 0) (built_pn (partC_len _ _ _ _ _) _) ?_)
   | (refine wpList_store_bk rfl 71 _ _ rfl rb (gotC (partC 6 S4.empty 0 0 (.slice none 0 0)) ((i:Int)+1) 0 0) rfl rfl _ _ HZA0.out (by rw [gotC_len (partC_len _ _ _ _ _)];exact rg_size) (by rw [gotC_len (partC_len _ _ _ _ _),List.size_toArray,gotC_len zeroPC_len]) (gotC_one (partC_one _ _ _ _ (by rfl)) _ _ _) ?_;intro wS9 hzS hfS;have HZS9:=zh hzS;have HFS9:=zh hfS;clear hzS hfS))
  refine ret_row_ (p:=6) (T:=71) rfl rb _ _ rfl HZS9.out underlying71 rfl (by rw [gotC_len (partC_len _ _ _ _ _)];exact rg_size) rfl ?_;exact RPost.ok_ (p:=rleafP 6 S4.empty) HR2.out (by rw [rleafP_cells];first | rfl | (simp;done)) (rleafP_new _ _ _ _) (HFA0.out.trans' HFS9.out (by simp;have:=HRB.out;omega))
 have t36:((x:Int) == 36)=false:=by simp;omega
 by_cases h92:x=92
 ·subst h92;by_cases hiL:L <= i+1
  ·have hiI:(L:Int) <= (i:Int)+1:=by omega
   have HR2:Hid (R = .error (bs.length,7)):=zh (by rw [HP2.out];unfold plainS;rw [<-HX.out];simp;have:=HL.out;omega);clear HP2
   go_wp2_with (first
    | (refine wpList_build2 rfl 71 2 3 _ _ rfl (.int .i64 7) (.int .i64 (L:Int)) rfl rfl (gotC zeroPC 0 7 (L:Int)) (built_eq_ _ _) ?_)
    | (refine wpList_store_bk rfl 71 _ _ rfl rb (gotC zeroPC 0 7 (L:Int)) rfl rfl _ _ HZA0.out (by rw [gotC_len zeroPC_len];exact rg_size) (by rw [gotC_len zeroPC_len,List.size_toArray,gotC_len zeroPC_len]) (gotC_one zeroPC_one _ _ _) ?_;intro wS9 hzS hfS;have HZS9:=zh hzS;have HFS9:=zh hfS;clear hzS hfS))
   refine ret_row_ (p:=6) (T:=71) rfl rb _ _ rfl HZS9.out underlying71 rfl (by rw [gotC_len zeroPC_len];exact rg_size) rfl ?_;exact RPost.err (i:=bs.length) (c:=7) HR2.out (by rw [<-HL.out];first | (simp;done) | rfl) (HFA0.out.trans' HFS9.out (by simp;have:=HRB.out;omega))
  have hiI:¬ ((L:Int) <= (i:Int)+1):=by omega
  have hiI2:(i:Int)+1 < (L:Int):=by omega
  have iy:=HIX.out (i+1) (by omega);have hyl:=bn_lt bs (i+1);obtain ⟨y,hy⟩:∃ y,y=bn bs (i+1):=⟨_,rfl⟩;rw [<-hy,show ((i+1:Nat):Int)=(i:Int)+1 by omega] at iy;rw [<-hy] at hyl
  have HR2:Hid (R = .ok (tSet (S4.range (escN y) (escN y)),i+2)):=zh (by
   rw [HP2.out];unfold plainS;rw [<-HX.out,<-hy];simp;have:=HL.out;omega)
  have hel:=escN_lt hyl;clear HP2 hy;go_upto_region 30 with fail
  go_wp2_with (first
   | (go_at_call 106;refine (resc_any y hyl _).mono ?_;rintro e w1 ⟨rfl,rfl⟩)
   | (go_at_call 105;refine (single_any_ (escN y) hel _).mono ?_;rintro e w2 ⟨rfl,hf2⟩;have HF2:=zh (HFA0.out.trans hf2);have HZ2:=zh (HZA0.out.fr hf2 (by simp));clear hf2)
   | (refine wpList_build2 rfl 71 0 1 _ _ rfl (.agg (partC 1 (S4.range (escN y) (escN y)) 0 0 (.slice none 0 0)).toArray) (.int .i64 ((i:Int)+2)) rfl rfl (gotC (partC 1 (S4.range (escN y) (escN y)) 0 0 (.slice none 0 0)) ((i:Int)+2) 0 0) (built_pn (partC_len _ _ _ _ _) _) ?_)
   | (refine wpList_store_bk rfl 71 _ _ rfl rb (gotC (partC 1 (S4.range (escN y) (escN y)) 0 0 (.slice none 0 0)) ((i:Int)+2) 0 0) rfl rfl _ _ HZ2.out (by rw [gotC_len (partC_len _ _ _ _ _)];exact rg_size) (by rw [gotC_len (partC_len _ _ _ _ _),List.size_toArray,gotC_len zeroPC_len]) (gotC_one (partC_one _ _ _ _ (by rfl)) _ _ _) ?_;intro wS9 hzS hfS;have HZS9:=zh hzS;have HFS9:=zh hfS;clear hzS hfS))
  refine ret_row_ (p:=6) (T:=71) rfl rb _ _ rfl HZS9.out underlying71 rfl (by rw [gotC_len (partC_len _ _ _ _ _)];exact rg_size) rfl ?_;exact RPost.ok_ (p:=rleafP 1 (S4.range (escN y) (escN y))) HR2.out (by rw [rleafP_cells];first | rfl | (simp;done)) (rleafP_new _ _ _ _) (HF2.out.trans' HFS9.out (by simp;have:=HRB.out;omega))
 have t92:((x:Int) == 92)=false:=by simp;omega
 by_cases h42:x=42
 ·subst h42;have HR2:Hid (R = .error (i,4)):=zh (by rw [HP2.out];unfold plainS;rw [<-HX.out];simp);clear HP2
  go_wp2_with (first
   | (refine wpList_build2 rfl 71 2 3 _ _ rfl (.int .i64 4) (.int .i64 (i:Int)) rfl rfl (gotC zeroPC 0 4 (i:Int)) (built_eq_ _ _) ?_)
   | (refine wpList_store_bk rfl 71 _ _ rfl rb (gotC zeroPC 0 4 (i:Int)) rfl rfl _ _ HZA0.out (by rw [gotC_len zeroPC_len];exact rg_size) (by rw [gotC_len zeroPC_len,List.size_toArray,gotC_len zeroPC_len]) (gotC_one zeroPC_one _ _ _) ?_;intro wS9 hzS hfS;have HZS9:=zh hzS;have HFS9:=zh hfS;clear hzS hfS))
  refine ret_row_ (p:=6) (T:=71) rfl rb _ _ rfl HZS9.out underlying71 rfl (by rw [gotC_len zeroPC_len];exact rg_size) rfl ?_;exact RPost.err (i:=i) (c:=4) HR2.out (by first | (simp;done) | rfl) (HFA0.out.trans' HFS9.out (by simp;have:=HRB.out;omega))
 have t42:((x:Int) == 42)=false:=by simp;omega
 by_cases h43:x=43
 ·subst h43;have HR2:Hid (R = .error (i,4)):=zh (by rw [HP2.out];unfold plainS;rw [<-HX.out];simp);clear HP2
  go_wp2_with (first
   | (refine wpList_build2 rfl 71 2 3 _ _ rfl (.int .i64 4) (.int .i64 (i:Int)) rfl rfl (gotC zeroPC 0 4 (i:Int)) (built_eq_ _ _) ?_)
   | (refine wpList_store_bk rfl 71 _ _ rfl rb (gotC zeroPC 0 4 (i:Int)) rfl rfl _ _ HZA0.out (by rw [gotC_len zeroPC_len];exact rg_size) (by rw [gotC_len zeroPC_len,List.size_toArray,gotC_len zeroPC_len]) (gotC_one zeroPC_one _ _ _) ?_;intro wS9 hzS hfS;have HZS9:=zh hzS;have HFS9:=zh hfS;clear hzS hfS))
  refine ret_row_ (p:=6) (T:=71) rfl rb _ _ rfl HZS9.out underlying71 rfl (by rw [gotC_len zeroPC_len];exact rg_size) rfl ?_;exact RPost.err (i:=i) (c:=4) HR2.out (by first | (simp;done) | rfl) (HFA0.out.trans' HFS9.out (by simp;have:=HRB.out;omega))
 have t43:((x:Int) == 43)=false:=by simp;omega
 by_cases h63:x=63
 ·subst h63;have HR2:Hid (R = .error (i,4)):=zh (by rw [HP2.out];unfold plainS;rw [<-HX.out];simp);clear HP2
  go_wp2_with (first
   | (refine wpList_build2 rfl 71 2 3 _ _ rfl (.int .i64 4) (.int .i64 (i:Int)) rfl rfl (gotC zeroPC 0 4 (i:Int)) (built_eq_ _ _) ?_)
   | (refine wpList_store_bk rfl 71 _ _ rfl rb (gotC zeroPC 0 4 (i:Int)) rfl rfl _ _ HZA0.out (by rw [gotC_len zeroPC_len];exact rg_size) (by rw [gotC_len zeroPC_len,List.size_toArray,gotC_len zeroPC_len]) (gotC_one zeroPC_one _ _ _) ?_;intro wS9 hzS hfS;have HZS9:=zh hzS;have HFS9:=zh hfS;clear hzS hfS))
  refine ret_row_ (p:=6) (T:=71) rfl rb _ _ rfl HZS9.out underlying71 rfl (by rw [gotC_len zeroPC_len];exact rg_size) rfl ?_;exact RPost.err (i:=i) (c:=4) HR2.out (by first | (simp;done) | rfl) (HFA0.out.trans' HFS9.out (by simp;have:=HRB.out;omega))
 have t63:((x:Int) == 63)=false:=by simp;omega
 have HR2:Hid (R = .ok (tSet (S4.range x x),i+1)):=zh (by
  rw [HP2.out];unfold plainS;rw [<-HX.out,if_neg (by omega),if_neg (by omega),if_neg (by omega),if_neg (by omega),if_neg (by omega),if_neg (by omega)])
 clear HP2
 go_wp2_with (first
  | (go_at_call 105;refine (single_any_ (x) hxl _).mono ?_;rintro e w2 ⟨rfl,hf2⟩;have HF2:=zh (HFA0.out.trans hf2);have HZ2:=zh (HZA0.out.fr hf2 (by simp));clear hf2)
  | (refine wpList_build2 rfl 71 0 1 _ _ rfl (.agg (partC 1 (S4.range x x) 0 0 (.slice none 0 0)).toArray) (.int .i64 ((i:Int)+1)) rfl rfl (gotC (partC 1 (S4.range x x) 0 0 (.slice none 0 0)) ((i:Int)+1) 0 0) (built_pn (partC_len _ _ _ _ _) _) ?_)
  | (refine wpList_store_bk rfl 71 _ _ rfl rb (gotC (partC 1 (S4.range x x) 0 0 (.slice none 0 0)) ((i:Int)+1) 0 0) rfl rfl _ _ HZ2.out (by rw [gotC_len (partC_len _ _ _ _ _)];exact rg_size) (by rw [gotC_len (partC_len _ _ _ _ _),List.size_toArray,gotC_len zeroPC_len]) (gotC_one (partC_one _ _ _ _ (by rfl)) _ _ _) ?_;intro wS9 hzS hfS;have HZS9:=zh hzS;have HFS9:=zh hfS;clear hzS hfS))
 refine ret_row_ (p:=6) (T:=71) rfl rb _ _ rfl HZS9.out underlying71 rfl (by rw [gotC_len (partC_len _ _ _ _ _)];exact rg_size) rfl ?_;exact RPost.ok_ (p:=rleafP 1 (S4.range x x)) HR2.out (by rw [rleafP_cells];first | rfl | (simp;done)) (rleafP_new _ _ _ _) (HF2.out.trans' HFS9.out (by simp;have:=HRB.out;omega))
end Go.Proofs.YtfofechcccodeaaGreatDoor
