/-
  Small texts in one (RfR, RnP, Rv1, RfT). No conditions.
-/
import Derived.Test.YtfofechcccodeaaGreatDoorQbq
import Derived.Test.YtfofechcccodeaaGreatDoorQbr
import Derived.Test.YtfofechcccodeaaGreatDoorQbe
import Derived.Test.YtfofechcccodeaaGreatDoorQam
import Derived.Test.YtfofechcccodeaaGreatDoorQat
namespace Go.Proofs.YtfofechcccodeaaGreatDoor
open Go.RowKit Go.Proofs.Tryz
set_option linter.unusedVariables false
set_option linter.unusedSimpArgs false
set_option maxRecDepth 100000
set_option maxHeartbeats 16000000
theorem rread_ok:∀ f:Nat,RExprOk f/\RBranchOk f/\RPieceOk f/\RAtomOk f:=by
 intro f
 induction f using Nat.strongRecOn with
 | _ f ih=>
  have ha:RAtomOk f:=by
   rcases f with _ | f
   ·intro w bs i d hl hi hd hf;omega
   exact ratom_of f (ih f (by omega)).1
  have hp:RPieceOk f:=by
   rcases f with _ | f
   ·intro w bs i d hl hi hd hf;omega
   exact rpiece_of f (ih f (by omega)).2.2.2
  exact ⟨rexpression_of f (fun k hk=>(ih k hk).2.1),rbranch_of f (fun k hk=>(ih k hk).2.2.1),hp,ha⟩
def RPPost (w:World) (r:Except (Nat × Nat) RT) (e:Ending) (w':World):Prop:=Fr [] w w'/\match r with
 | .ok t=>∃ (p:PT) (j:Nat),e = .returned (.agg (gotC p.rcells (j:Int) 0 0).toArray)/\NewR w.heap.size w' t p
 | .error (i,c)=>0 < c/\e = .returned (.agg (gotC zeroPC 0 (c:Int) (i:Int)).toArray)
theorem RPPost.err {w w':World} {r:Except (Nat × Nat) RT} {e:Ending} {i c:Nat} (hr:r = .error (i,c)) (hc:0 < c) (he:e = .returned (.agg (gotC zeroPC 0 (c:Int) (i:Int)).toArray)) (hf:Fr [] w w'):RPPost w r e w':=by
 subst hr;exact ⟨hf,hc,he⟩
theorem RPPost.ok_ {w w':World} {r:Except (Nat × Nat) RT} {e:Ending} {t:RT} {p:PT} {j:Nat} (hr:r = .ok t) (he:e = .returned (.agg (gotC p.rcells (j:Int) 0 0).toArray)) (hn:NewR w.heap.size w' t p) (hf:Fr [] w w'):RPPost w r e w':=by
 subst hr;exact ⟨hf,p,j,he,hn⟩
theorem rparse_any (bs:List UInt8) (w:World):Calls prog 28 #[.string ⟨bs.toArray⟩] w (RPPost w (parseS bs)):=by
 obtain ⟨S,hS⟩:∃ S,S=(⟨bs.toArray⟩:ByteArray):=⟨_,rfl⟩;obtain ⟨L,hL⟩:∃ L,L=bs.length:=⟨_,rfl⟩;have hs1:S.size=L:=by rw [hS,hL];simp [ByteArray.size]
 have HSD:Hid (S=(⟨bs.toArray⟩:ByteArray)):=zh hS;have HL:Hid (L=bs.length):=zh hL;obtain ⟨R,hR⟩:∃ R,R=parseS bs:=⟨_,rfl⟩;obtain ⟨rb,hrb⟩:∃ rb,rb=w.heap.size:=⟨_,rfl⟩;have HRB:=zh hrb;have HR:=zh hR;rw [<-hS,<-hR];clear hS hR hL;go_enter func28,ntmps28
 go_upto_region 1 with (first
  | (refine wpList_alloc_bk rfl 71 rfl (gotC zeroPC 0 0 0) 263 rg_zero ?_;intro wA0 hzA hfA;have HFA0:=zh hfA;have HZA0:Hid (Bk wA0 rb 71 (gotC zeroPC 0 0 0).toArray):=zh (by rw [HRB.out];exact hzA);clear hzA hfA))
 rw [<-hrb];clear hrb;by_cases h1000:1000 < L
 ·have hI:(1000:Int) < (L:Int):=by omega
  have HR2:Hid (R = .error (0,5)):=zh (by rw [HR.out];unfold parseS;rw [if_pos (by have:=HL.out;omega)])
  go_wp2_with (first
   | (refine wpList_build1 rfl 71 2 _ rfl (.int .i64 5) rfl (gotC zeroPC 0 5 0) (built_e _) ?_)
   | (refine wpList_store_bk rfl 71 _ _ rfl rb (gotC zeroPC 0 5 0) rfl rfl _ _ HZA0.out (by rw [gotC_len zeroPC_len];exact rg_size) (by rw [gotC_len zeroPC_len,List.size_toArray,gotC_len zeroPC_len]) (gotC_one zeroPC_one _ _ _) ?_;intro wS9 hzS hfS;have HZS9:=zh hzS;have HFS9:=zh hfS;clear hzS hfS))
  refine ret_row_ (p:=2) (T:=71) rfl rb _ _ rfl HZS9.out underlying71 rfl (by rw [gotC_len zeroPC_len];exact rg_size) rfl ?_;exact RPPost.err (i:=0) (c:=5) HR2.out (by omega) (by first | (simp;done) | rfl) (HFA0.out.trans' HFS9.out (by simp;have:=HRB.out;omega))
 have hI:¬ ((1000:Int) < (L:Int)):=by omega
 have hRR:=HR.out;unfold parseS at hRR;rw [if_neg (by have:=HL.out;omega)] at hRR
 have hcall:∀ W:World,Calls prog 41 #[.string S,.int .i64 0,.int .i64 0] W (RPost W (exprF bs (6 * bs.length+5) 0 0 [])):=fun W=>by
  have:=(rread_ok (6 * bs.length+5)).1 W bs 0 0 (by have:=HL.out;omega) (by omega) (by omega) (by omega);rw [HSD.out];have e:(0:Int)=((0:Nat):Int):=rfl;rw [e];exact this
 have hle:=(readF_le bs (6 * bs.length+5)).1 0 0 [];have hcd:=(read_code bs (6 * bs.length+5)).1 0 0 [];clear HR;rcases hY:exprF bs (6 * bs.length+5) 0 0 [] with ⟨q,code⟩ | ⟨t,j⟩
 ·have hc0:0 < code:=hcd _ _ hY;rw [hY] at hcall hRR;have HR2:Hid (R = .error (q,code)):=zh hRR;have HCL:Hid (∀ W,Calls prog 41 #[.string S,.int .i64 0,.int .i64 0] W fun e w'=>e = .returned (.agg (gotC zeroPC 0 (code:Int) (q:Int)).toArray)/\Fr [] W w'):=zh hcall;have hcI:((code:Int) == 0)=false:=by simp;omega
  have HC0:=zh hc0;clear hcall hRR hY hle hcd hc0
  go_upto_region 4 with (first
   | (go_at_call 41;refine (HCL.out _).mono ?_;rintro e w2 ⟨rfl,hf2⟩;have HF2:=zh (HFA0.out.trans hf2);have HZ2:=zh (HZA0.out.fr hf2 (by simp));clear hf2)
   | (refine wpList_alloc_bk rfl 71 rfl (gotC zeroPC 0 0 0) 263 rg_zero ?_;intro wA1 hzA hfA;have HZA1:=zh hzA;have HF3:=zh (HF2.out.trans hfA);have HZ3:=zh (HZ2.out.fr hfA (by simp));clear hzA hfA)
   | (refine wpList_store_bk rfl 71 _ _ rfl w2.heap.size (gotC zeroPC 0 (code:Int) (q:Int)) rfl rfl _ _ HZA1.out (by rw [gotC_len zeroPC_len];exact rg_size) (by rw [gotC_len zeroPC_len,List.size_toArray,gotC_len zeroPC_len]) (gotC_one zeroPC_one _ _ _) ?_;intro wS1 hzS hfS;have HZS1:=zh hzS;have HF4:Hid (Fr [] w wS1):=zh (HF3.out.trans' hfS (by simp;have:=HF2.out.size;omega));have HFS1:=zh hfS;have HZ4:=zh (HZ3.out.fr hfS (by simp;have:=HZ2.out.lt;omega));have c261:=hzS.cellL (gotC_e zeroPC_len _ _ _);have c260:=hzS.cellL (gotC_n zeroPC_len _ _ _);clear hzS hfS))
  go_wp2_with (first
   | (refine wpList_load_bk rfl 71 _ rfl w2.heap.size 0 rfl (gotC zeroPC 0 (code:Int) (q:Int)) _ _ _ HZS1.out (by intro j u hj;simpa using hj) underlying71 rfl (by rw [gotC_len zeroPC_len];exact rg_size) ?_)
   | (refine wpList_store_bk rfl 71 _ _ rfl rb (gotC zeroPC 0 (code:Int) (q:Int)) rfl rfl _ _ HZ4.out (by rw [gotC_len zeroPC_len];exact rg_size) (by rw [gotC_len zeroPC_len,List.size_toArray,gotC_len zeroPC_len]) (gotC_one zeroPC_one _ _ _) ?_;intro wS9 hzS hfS;have HZS9:=zh hzS;have HFS9:=zh hfS;clear hzS hfS))
  refine ret_row_ (p:=2) (T:=71) rfl rb _ _ rfl HZS9.out underlying71 rfl (by rw [gotC_len zeroPC_len];exact rg_size) rfl ?_;exact RPPost.err HR2.out HC0.out rfl (HF4.out.trans' HFS9.out (by simp;have:=HRB.out;omega))
 have hjb:=hle t j (by omega) hY;rw [hY] at hcall hRR;have HCL:Hid (∀ W,Calls prog 41 #[.string S,.int .i64 0,.int .i64 0] W (RPost W (.ok (t,j)))):=zh hcall;have HRC:Hid (R=if j < bs.length then .error (j,4) else .ok t):=zh hRR;clear hcall hRR hY hle hcd
 go_upto_region 4 with (first
  | (go_at_call 41;refine (HCL.out _).mono ?_;rintro e w2 ⟨p,rfl,hn,hf2⟩;have HN2:=zh hn;have HF2:=zh (HFA0.out.trans hf2);have HZ2:=zh (HZA0.out.fr hf2 (by simp));clear hf2 hn)
  | (refine wpList_alloc_bk rfl 71 rfl (gotC zeroPC 0 0 0) 263 rg_zero ?_;intro wA1 hzA hfA;have HZA1:=zh hzA;have HF3:=zh (HF2.out.trans hfA);have HZ3:=zh (HZ2.out.fr hfA (by simp));have HN3:=zh (HN2.out.fr_nil hfA);clear hzA hfA)
  | (refine wpList_store_bk rfl 71 _ _ rfl w2.heap.size (gotC p.rcells (j:Int) 0 0) rfl rfl _ _ HZA1.out (by rw [gotC_len (rcells_len p)];exact rg_size) (by rw [gotC_len (rcells_len p),List.size_toArray,gotC_len zeroPC_len]) (gotC_one (rcells_one p) _ _ _) ?_;intro wS1 hzS hfS;have HZS1:=zh hzS;have HF4:Hid (Fr [] w wS1):=zh (HF3.out.trans' hfS (by simp;have:=HF2.out.size;omega));have HFS1:=zh hfS;have HZ4:=zh (HZ3.out.fr hfS (by simp;have:=HZ2.out.lt;omega));have c261:=hzS.cellL (gotC_e (rcells_len p) _ _ _);have c260:=hzS.cellL (gotC_n (rcells_len p) _ _ _);clear hzS hfS))
 have HN5:Hid (NewR w.heap.size wS1 t p):=zh ((HN3.out.fr HFS1.out (by simp;right;intro hm;have:=(HN2.out.new _ hm).2;omega)).lower HFA0.out.size);by_cases hjL:j < L
 ·have hjI:(j:Int) < (L:Int):=by omega
  have HR2:Hid (R = .error (j,4)):=zh (by rw [HRC.out,if_pos (by have:=HL.out;omega)])
  go_wp2_with (first
   | (refine wpList_build2 rfl 71 2 3 _ _ rfl (.int .i64 4) (.int .i64 (j:Int)) rfl rfl (gotC zeroPC 0 4 (j:Int)) (built_eq_ _ _) ?_)
   | (refine wpList_store_bk rfl 71 _ _ rfl rb (gotC zeroPC 0 4 (j:Int)) rfl rfl _ _ HZ4.out (by rw [gotC_len zeroPC_len];exact rg_size) (by rw [gotC_len zeroPC_len,List.size_toArray,gotC_len zeroPC_len]) (gotC_one zeroPC_one _ _ _) ?_;intro wS9 hzS hfS;have HZS9:=zh hzS;have HFS9:=zh hfS;clear hzS hfS))
  refine ret_row_ (p:=2) (T:=71) rfl rb _ _ rfl HZS9.out underlying71 rfl (by rw [gotC_len zeroPC_len];exact rg_size) rfl ?_;exact RPPost.err (i:=j) (c:=4) HR2.out (by omega) (by first | (simp;done) | rfl) (HF4.out.trans' HFS9.out (by simp;have:=HRB.out;omega))
 have hjI:¬ ((j:Int) < (L:Int)):=by omega
 have HR2:Hid (R = .ok t):=zh (by rw [HRC.out,if_neg (by have:=HL.out;omega)])
 go_wp2_with (first
  | (refine wpList_load_bk rfl 71 _ rfl w2.heap.size 0 rfl (gotC p.rcells (j:Int) 0 0) _ _ _ HZS1.out (by intro j u hj;simpa using hj) underlying71 rfl (by rw [gotC_len (rcells_len p)];exact rg_size) ?_)
  | (refine wpList_store_bk rfl 71 _ _ rfl rb (gotC p.rcells (j:Int) 0 0) rfl rfl _ _ HZ4.out (by rw [gotC_len (rcells_len p)];exact rg_size) (by rw [gotC_len (rcells_len p),List.size_toArray,gotC_len zeroPC_len]) (gotC_one (rcells_one p) _ _ _) ?_;intro wS9 hzS hfS;have HZS9:=zh hzS;have HFS9:=zh hfS;clear hzS hfS))
 refine ret_row_ (p:=2) (T:=71) rfl rb _ _ rfl HZS9.out underlying71 rfl (by rw [gotC_len (rcells_len p)];exact rg_size) rfl ?_;exact RPPost.ok_ HR2.out rfl (HN5.out.fr HFS9.out (by simp;right;intro hm;have h1:=(HN2.out.new _ hm).1;have:=HZA0.out.lt;omega)) (HF4.out.trans' HFS9.out (by simp;have:=HRB.out;omega))
end Go.Proofs.YtfofechcccodeaaGreatDoor
namespace Go.Proofs.YtfofechcccodeaaGreatDoor
set_option linter.unusedVariables false
set_option linter.unusedSimpArgs false
def HasV (n:Nat) (fs:List Bool) (P:Nat->Prop):Prop:=fs.length=n+1/\∀ c,c <= n->(fs.getD c false=true ↔ P c)
theorem HasV.iff {n:Nat} {fs:List Bool} {P Q:Nat->Prop} (h:HasV n fs P) (hq:∀ c,c <= n->(P c ↔ Q c)):HasV n fs Q:=⟨h.1,fun c hc=>(h.2 c hc).trans (hq c hc)⟩
theorem HasV.none_ (n:Nat):HasV n (List.replicate (n+1) false) (fun _=>False):=⟨by simp,fun c hc=>by
    rw [List.getD_eq_getElem?_getD,List.getElem?_replicate]
    split <;> simp⟩
theorem getD_set {fs:List Bool} {i c:Nat} {b:Bool} (hi:i < fs.length):(fs.set i b).getD c false=if c=i then b else fs.getD c false:=by
 rw [List.getD_eq_getElem?_getD,List.getElem?_set,List.getD_eq_getElem?_getD];by_cases h:i=c
 ·subst h;simp [hi]
 have h2:c ≠ i:=fun e=>h e.symm;simp [h,h2]
theorem HasV.set_ {n:Nat} {fs:List Bool} {P:Nat->Prop} (h:HasV n fs P) {i:Nat} (hi:i <= n) (b:Bool):HasV n (fs.set i b) (fun c=>if c=i then b=true else P c):=by
 refine ⟨by rw [List.length_set];exact h.1,fun c hc=>?_⟩;rw [getD_set (by have:=h.1;omega)];by_cases e:c=i
 ·simp [e]
 simp only [e,if_false];exact h.2 c hc
theorem HasV.ext {n:Nat} {fs gs:List Bool} {P:Nat->Prop} (h:HasV n fs P) (k:HasV n gs P):fs=gs:=by
 have h1:=h.1;have h2:=k.1
 apply List.ext_getElem (by omega)
 intro c hc hc';have e1:=h.2 c (by omega);have e2:=k.2 c (by omega);rw [List.getD_eq_getElem?_getD,List.getElem?_eq_getElem hc,Option.getD_some] at e1;rw [List.getD_eq_getElem?_getD,List.getElem?_eq_getElem hc',Option.getD_some] at e2;exact Bool.eq_iff_iff.2 (e1.trans e2.symm)
theorem HasV.same_iff {n:Nat} {fs gs:List Bool} {P Q:Nat->Prop} (h:HasV n fs P) (k:HasV n gs Q):fs=gs ↔ ∀ c,c <= n->(P c ↔ Q c):=by
 constructor
 ·intro e c hc;subst e;exact (h.2 c hc).symm.trans (k.2 c hc)
 intro e;exact (h.iff e).ext k
theorem HasV.or_ {n:Nat} {fs gs:List Bool} {P Q:Nat->Prop} (h:HasV n fs P) (k:HasV n gs Q):HasV n (List.zipWith (· || ·) fs gs) (fun c=>P c ∨ Q c):=by
 have h1:=h.1;have h2:=k.1;refine ⟨by rw [List.length_zipWith];omega,fun c hc=>?_⟩;have e1:=h.2 c hc;have e2:=k.2 c hc;rw [List.getD_eq_getElem?_getD,List.getElem?_eq_getElem (by omega),Option.getD_some] at e1 e2;rw [List.getD_eq_getElem?_getD,List.getElem?_eq_getElem (by rw [List.length_zipWith];omega),Option.getD_some,List.getElem_zipWith,Bool.or_eq_true,e1,e2]
theorem zip_take {fs gs:List Bool} {i:Nat} (hf:i < fs.length) (hg:i < gs.length):(List.zipWith (· || ·) fs gs).take (i+1)=(List.zipWith (· || ·) fs gs).take i ++ [fs.getD i false || gs.getD i false]:=by
 rw [List.take_add_one,List.getElem?_eq_getElem (by rw [List.length_zipWith];omega),List.getElem_zipWith,List.getD_eq_getElem?_getD,List.getD_eq_getElem?_getD,List.getElem?_eq_getElem hf,List.getElem?_eq_getElem hg];rfl
/-! Again and again. -/
theorem iter_right {R:Nat->Nat->Prop} (n a c:Nat):iterR R (n+1) a c ↔ ∃ b,iterR R n a b/\R b c:=by
 rw [iter_add n 1 a c];constructor
 ·rintro ⟨b,h1,h2⟩;rw [iterR] at h2;obtain ⟨d,h3,h4⟩:=h2;rw [iterR] at h4;subst h4;exact ⟨b,h1,h3⟩
 rintro ⟨b,h1,h2⟩;exact ⟨b,h1,by rw [iterR];exact ⟨c,h2,by rw [iterR]⟩⟩
theorem iter_le {R:Nat->Nat->Prop} {n:Nat} (hR:∀ a c,R a c->a <= n->a <= c/\c <= n):∀ (k a c:Nat),iterR R k a c->a <= n->a <= c/\c <= n
 | 0,a,c,h,ha=>by rw [iterR] at h;omega
 | k+1,a,c,h,ha=>by
  rw [iterR] at h;obtain ⟨b,h1,h2⟩:=h;have h3:=hR a b h1 ha;have h4:=iter_le hR k b c h2 h3.2;omega
theorem iter_stop {R:Nat->Nat->Prop} {n m a:Nat} (hR:∀ a c,R a c->a <= n->a <= c/\c <= n) (ha:a <= n) (h:∀ c,c <= n->(iterR R m a c ↔ iterR R (m+1) a c)):∀ (k c:Nat),c <= n->(iterR R m a c ↔ iterR R (m+k) a c)
 | 0,c,hc=>Iff.rfl
 | k+1,c,hc=>by
  rw [h c hc,<-Nat.add_assoc,iter_right,iter_right];constructor
  ·rintro ⟨b,h1,h2⟩;exact ⟨b,(iter_stop hR ha h k b (iter_le hR _ _ _ h1 ha).2).1 h1,h2⟩
  rintro ⟨b,h1,h2⟩;exact ⟨b,(iter_stop hR ha h k b (iter_le hR _ _ _ h1 ha).2).2 h1,h2⟩
def accR (R:Nat->Nat->Prop) (mn a j c:Nat):Prop:=∃ i,i <= j/\iterR R (mn+i) a c
theorem acc_zero {R:Nat->Nat->Prop} (mn a c:Nat):accR R mn a 0 c ↔ iterR R mn a c:=
 ⟨fun ⟨i, h1, h2⟩ => by obtain rfl : i = 0 := by omega
                        exact h2,fun h=>⟨0,Nat.le_refl _,h⟩⟩
theorem acc_succ {R:Nat->Nat->Prop} (mn a j c:Nat):accR R mn a (j+1) c ↔ accR R mn a j c ∨ ∃ b,accR R mn a j b/\R b c:=by
 constructor
 ·rintro ⟨i,h1,h2⟩;rcases Nat.lt_or_ge i (j+1) with h | h
  ·exact .inl ⟨i,by omega,h2⟩
  obtain rfl:i=j+1:=by omega
  rw [<-Nat.add_assoc,iter_right] at h2;obtain ⟨b,h3,h4⟩:=h2;exact .inr ⟨b,⟨j,Nat.le_refl _,h3⟩,h4⟩
 rintro (⟨i,h1,h2⟩ | ⟨b,⟨i,h1,h2⟩,h3⟩)
 ·exact ⟨i,by omega,h2⟩
 exact ⟨i+1,by omega,by rw [<-Nat.add_assoc,iter_right];exact ⟨b,h2,h3⟩⟩
theorem acc_stop {R:Nat->Nat->Prop} {n mn a j:Nat} (hR:∀ a c,R a c->a <= n->a <= c/\c <= n) (ha:a <= n) (h:∀ c,c <= n->(accR R mn a j c ↔ accR R mn a (j+1) c)):∀ (k c:Nat),c <= n->(accR R mn a j c ↔ accR R mn a (j+k) c)
 | 0,c,hc=>Iff.rfl
 | k+1,c,hc=>by
  rw [<-Nat.add_assoc,acc_succ,<-acc_stop hR ha h k c hc];constructor
  ·exact .inl
  rintro (h1 | ⟨b,h1,h2⟩)
  ·exact h1
  have hb:b <= n:=by obtain ⟨i,-, hi⟩:=h1;exact (iter_le hR _ _ _ hi ha).2
  exact (h c hc).2 ((acc_succ mn a j c).2 (.inr ⟨b,(acc_stop hR ha h k b hb).2 h1,h2⟩))
theorem rep_all {R:Nat->Nat->Prop} {n mn a j:Nat} {mx:Int} (hR:∀ a c,R a c->a <= n->a <= c/\c <= n) (ha:a <= n) (hj:(∀ c,c <= n->(accR R mn a j c ↔ accR R mn a (j+1) c)) ∨ (0 <= mx/\mn+j=mx.toNat)) (hle:mx < 0 ∨ mn+j <= mx.toNat) (c:Nat) (hc:c <= n) :
    accR R mn a j c ↔ ∃ m:Nat,mn <= m/\(mx < 0 ∨ m <= mx.toNat)/\iterR R m a c:=by
 constructor
 ·rintro ⟨i,h1,h2⟩;exact ⟨mn+i,by omega,by omega,h2⟩
 rintro ⟨m,h1,h2,h3⟩;rcases hj with hj | ⟨h4,h5⟩
 ·have h6:accR R mn a (j+(m - mn)) c:=⟨m - mn,by omega,by rw [show mn+(m - mn)=m by omega];exact h3⟩;exact (acc_stop hR ha hj _ c hc).2 h6
 exact ⟨m - mn,by omega,by rw [show mn+(m - mn)=m by omega];exact h3⟩
/-! How many are not there yet. -/
def lackV (fs:List Bool):Nat:=(fs.filter (!·)).length
theorem lack_or:∀ (fs gs:List Bool),fs.length=gs.length->lackV (List.zipWith (· || ·) fs gs) <= lackV fs/\(lackV (List.zipWith (· || ·) fs gs)=lackV fs->List.zipWith (· || ·) fs gs=fs)
 | [],[],_=>by simp [lackV]
 | [],_ :: _,h=>by simp at h
 | _ :: _,[],h=>by simp at h
 | a :: fs,b :: gs,h=>by
  have ih:=lack_or fs gs (by simpa using h);unfold lackV at ih ⊢
  cases a <;> cases b <;> simp [List.zipWith] at ih ⊢
  ·exact ⟨ih.1,ih.2⟩
  ·exact ⟨by omega,fun e=>by omega⟩
  ·exact ⟨ih.1,ih.2⟩
  exact ⟨ih.1,ih.2⟩
/-! Where a part ends. -/
mutual
theorem semP_le (tx:List UInt8):∀ (t:PT) (a c:Nat),semP tx t a c->a <= tx.length->a <= c/\c <= tx.length
 | .mk k s0 s1 s2 s3 mn mx A cc l,a,c,h,ha=>by
  have hl:=semL_le tx l;have ho:=semO_le tx l;rw [semP] at h;split at h
  ·obtain ⟨h1,h2,-⟩:=h;omega
  split at h
  ·obtain ⟨h1,-⟩:=h;omega
  split at h
  ·obtain ⟨h1,-⟩:=h;omega
  split at h
  ·exact hl a c h ha
  split at h
  ·exact ho a c h ha
  split at h
  ·obtain ⟨n,-, -, h3⟩:=h;exact iter_le hl n a c h3 ha
  have:a=c:=h;omega
theorem semL_le (tx:List UInt8):∀ (l:List PT) (a c:Nat),semL tx l a c->a <= tx.length->a <= c/\c <= tx.length
 | [],a,c,h,ha=>by
  rw [semL] at h;have:a=c:=h;omega
 | t :: r,a,c,h,ha=>by
  rw [semL] at h;obtain ⟨b,h1,h2⟩:=h;have h3:=semP_le tx t a b h1 ha;have h4:=semL_le tx r b c h2 h3.2;omega
theorem semO_le (tx:List UInt8):∀ (l:List PT) (a c:Nat),semO tx l a c->a <= tx.length->a <= c/\c <= tx.length
 | [],a,c,h,ha=>by rw [semO] at h;exact h.elim
 | t :: r,a,c,h,ha=>by
  rw [semO] at h;rcases h with h | h
  ·exact semP_le tx t a c h ha
  exact semO_le tx r a c h ha
end
theorem semL_take (tx:List UInt8):∀ (l:List PT) (i:Nat) (t:PT) (a c:Nat),l[i]?=some t->(semL tx (l.take (i+1)) a c ↔ ∃ b,semL tx (l.take i) a b/\semP tx t b c)
 | [],i,t,a,c,h=>by simp at h
 | u :: r,0,t,a,c,h=>by
  simp at h;subst h;simp only [List.take_succ_cons,List.take_zero];rw [semL,semL];show (∃ b,semP tx u a b/\semL tx [] b c) ↔ ∃ b,a=b/\semP tx u b c;rw [semL];constructor
  ·rintro ⟨b,h1,h2⟩;have e:b=c:=h2;subst e;exact ⟨a,rfl,h1⟩
  rintro ⟨b,rfl,h2⟩;exact ⟨c,h2,rfl⟩
 | u :: r,i+1,t,a,c,h=>by
  simp at h;have ih:=semL_take tx r i t;simp only [List.take_succ_cons];rw [semL,semL];show (∃ b,semP tx u a b/\semL tx (r.take (i+1)) b c) ↔ ∃ b,(∃ d,semP tx u a d/\semL tx (r.take i) d b)/\semP tx t b c;constructor
  ·rintro ⟨b,h1,h2⟩;obtain ⟨d,h3,h4⟩:=(ih b c h).1 h2;exact ⟨d,⟨b,h1,h3⟩,h4⟩
  rintro ⟨d,⟨b,h1,h3⟩,h4⟩;exact ⟨b,h1,(ih b c h).2 ⟨d,h3,h4⟩⟩
theorem semO_take (tx:List UInt8):∀ (l:List PT) (i:Nat) (t:PT) (a c:Nat),l[i]?=some t->(semO tx (l.take (i+1)) a c ↔ semO tx (l.take i) a c ∨ semP tx t a c)
 | [],i,t,a,c,h=>by simp at h
 | u :: r,0,t,a,c,h=>by
  simp at h;subst h;simp only [List.take_succ_cons,List.take_zero];rw [semO];show (semP tx u a c ∨ semO tx [] a c) ↔ semO tx [] a c ∨ semP tx u a c;exact Or.comm
 | u :: r,i+1,t,a,c,h=>by
  simp at h;have ih:=semO_take tx r i t a c h;simp only [List.take_succ_cons];rw [semO,semO];show (semP tx u a c ∨ semO tx (r.take (i+1)) a c) ↔ (semP tx u a c ∨ semO tx (r.take i) a c) ∨ semP tx t a c;rw [ih,or_assoc]
theorem semL_nil (tx:List UInt8) (a c:Nat):semL tx [] a c ↔ a=c:=by rw [semL]
theorem semO_nil (tx:List UInt8) (a c:Nat):semO tx [] a c ↔ False:=by rw [semO]
theorem semL_one (tx:List UInt8) (t:PT) (a c:Nat):semL tx [t] a c ↔ semP tx t a c:=by
 rw [semL];show (∃ b,semP tx t a b/\semL tx [] b c) ↔ _;rw [semL]
 exact ⟨fun ⟨b, h1, h2⟩ => by have e : b = c := h2
                              subst e;exact h1,fun h=>⟨c,h,rfl⟩⟩
theorem semP_eq (tx:List UInt8) (p:PT) (a c:Nat):semP tx p a c ↔
    (p.k=1/\a < tx.length/\c=a+1/\(S4.mk p.s0.toNat p.s1.toNat p.s2.toNat p.s3.toNat).mem (tx.getD a 0).toNat=true) ∨ (p.k=5/\a=c/\a=0) ∨ (p.k=6/\a=c/\a=tx.length) ∨ (p.k=2/\semL tx p.l a c) ∨ (p.k=3/\semO tx p.l a c) ∨
    (p.k=4/\∃ n:Nat,p.mn.toNat <= n/\(p.mx < 0 ∨ n <= p.mx.toNat)/\iterR (semL tx p.l) n a c) ∨ ((p.k ≠ 1/\p.k ≠ 2/\p.k ≠ 3/\p.k ≠ 4/\p.k ≠ 5/\p.k ≠ 6)/\a=c):=by
 cases p with
 | mk k s0 s1 s2 s3 mn mx A cc l=>
  rw [semP];simp only [PT.k,PT.s0,PT.s1,PT.s2,PT.s3,PT.mn,PT.mx,PT.l];by_cases h1:k=1
  ·simp [h1]
  by_cases h5:k=5
  ·simp [h5]
  by_cases h6:k=6
  ·simp [h6]
  by_cases h2:k=2
  ·simp [h2]
  by_cases h3:k=3
  ·simp [h3]
  by_cases h4:k=4
  ·simp [h4]
  simp [h1,h2,h3,h4,h5,h6]
end Go.Proofs.YtfofechcccodeaaGreatDoor
namespace Go.Proofs.YtfofechcccodeaaGreatDoor
open Go.RowKit Go.ChangeMaps Go.Proofs.Tryz
set_option linter.unusedVariables false
set_option linter.unusedSimpArgs false
set_option maxRecDepth 100000
set_option maxHeartbeats 4000000
def bits (fs:List Bool):List Value:=fs.map (fun b => .bool b)
theorem bits_len (fs:List Bool):(bits fs).length=fs.length:=by simp [bits]
theorem bits_get {fs:List Bool} {i:Nat} (h:i < fs.length):(bits fs)[i]?=some (.bool (fs.getD i false)):=by
 unfold bits;rw [List.getElem?_map,List.getElem?_eq_getElem h,List.getD_eq_getElem?_getD,List.getElem?_eq_getElem h];rfl
theorem boolParts:∃ i,prog.info? 4=some i/\i.zero=some (.bool false)/\i.size=1/\i.bytes=1:=info_parts (by kernel_rfl)
theorem At.bit {w:World} {A:Option Addr} {fs:List Bool} (h:At w A (bits fs)) {i:Nat} (hi:i < fs.length):∃ ad,A=some ad/\w.cell? (ad.add i)=some (.bool (fs.getD i false)):=by
 rcases h with h | ⟨ad,h1,-, h3⟩
 ·exfalso
  have:=bits_len fs;rw [h] at this;simp at this;omega
 exact ⟨ad,h1,h3 i _ (bits_get hi)⟩
theorem one_bit (w:World) (b:Bool):∀ j u,[Value.bool b][j]?=some u->(w.alloc (.cells #[.bool b] 4)).cell? ((⟨w.heap.size,0,none⟩:Addr).add j)=some u:=by
 intro j u h;rcases j with _ | j
 ·simp at h;subst h;simp [Addr.add]
 simp at h
def RBothRel (w:World) (fs gs:List Bool) (v5 v6:Value) (wr:World):Prop:=∃ (i:Nat) (A:Option Addr) (c:Nat),v6 = .int .i64 (i:Int)/\v5 = .slice A i c/\i <= fs.length/\wr.ownsRow w.heap.size 4 1 (.slice A i c) i (bits ((List.zipWith (· || ·) fs gs).take i))/\Fr [] w wr
theorem rboth_any {w:World} {A B:Option Addr} {ca cb n:Nat} {fs gs:List Bool} (hn:n=fs.length) (hm:n=gs.length) (hl:n <= 1000) (ha:At w A (bits fs)) (hb:At w B (bits gs)) :
    Calls prog 99 #[.slice A n ca,.slice B n cb] w fun e w'=>∃ A' c',e = .returned (.slice A' n c')/\w'.ownsRow w.heap.size 4 1 (.slice A' n c') n (bits (List.zipWith (· || ·) fs gs))/\Fr [] w w':=by
 obtain ⟨i0,hi0,hz0,hz1,hz2⟩:=boolParts;have HA:=zh ha;have HB:=zh hb;have HN:=zh hn;have HM:=zh hm;clear ha hb hn hm;go_enter func99,ntmps99
 go_wp2_with fail
 go_loopw [5,6] (fun v5 v6 wr=>RBothRel w fs gs v5 v6 wr) (fun _ v6 _=>n+1 - (intOf v6).toNat)
 case atStart=>exact ⟨0,none,0,rfl,rfl,Nat.zero_le _,⟨by simp [bits],.inl ⟨rfl,rfl⟩⟩,Fr.refl _ _⟩
 case round=>
  obtain ⟨i,A0,c0,rfl,rfl,hi,hown,hfr⟩:=hrel;have HOWN:=zh hown;have HFR:=zh hfr;have hi':i <= n:=by rw [HN.out];exact hi
  clear hown hfr hi;rcases Nat.lt_or_ge i n with hin | hin
  ·have hinI:(i:Int) < (n:Int):=by omega
   obtain ⟨ad,rfl,e0⟩:=(HA.out.fr_nil HFR.out).bit (i:=i) (by have:=HN.out;omega);obtain ⟨bd,rfl,e1⟩:=(HB.out.fr_nil HFR.out).bit (i:=i) (by have:=HM.out;omega);have hstep:=zip_take (fs:=fs) (gs:=gs) (i:=i) (by have:=HN.out;omega) (by have:=HM.out;omega);obtain ⟨x,hx⟩:∃ x,x=fs.getD i false:=⟨_,rfl⟩;obtain ⟨y,hy⟩:∃ y,y=gs.getD i false:=⟨_,rfl⟩;obtain ⟨z,hz⟩:∃ z,z=(x || y):=⟨_,rfl⟩;rw [<-hx] at e0;rw [<-hy] at e1;rw [<-hx,<-hy,<-hz] at hstep;have HST:=zh hstep;obtain ⟨xs,hxs⟩:∃ xs,xs=bits ((List.zipWith (· || ·) fs gs).take i):=⟨_,rfl⟩;rw [<-hxs] at HOWN;have HXS:=zh hxs;clear hx hy hxs hstep
   cases x with
   | true=>
    subst hz;go_wp2_with (at_builtin;refine wpList_append_R rfl (.tmp 13) (.tmp 24) 181 rfl w.heap.size 4 i0 _ 1 1 underlying181 hi0 hz0 hz1 hz2 rfl (by omega) (.slice A0 i c0) i xs (by first | rfl | simp [Act.eval]) (own_keep HOWN.out (KeepB.of_nil ((Fr.refl [] wr).alloc _))) ⟨wr.heap.size,0,none⟩ 1 1 [.bool true] (by first | rfl | simp [Act.eval]) rfl (one_bit wr _) (by simp [Value.oneCell']) (by unfold maxLen;omega) (by omega) (by have:=HFR.out.size;simp;omega) ?_;intro v' w4 hown4 hgr hat4;obtain ⟨A4,c4,rfl⟩:=own_any hown4;have HGR:=zh hgr;have HOWN4:=zh hown4;clear hown4 hgr hat4)
    go_roundw
    case rel=>exact ⟨i+1,A4,c4,by go_num,rfl,by have:=HN.out;omega,by have h:=HOWN4.out;rw [HXS.out] at h;rw [HST.out];simpa [bits] using h,(HFR.out.alloc _).grown HGR.out (fun g hg => .inr (own_base HOWN.out g hg).1)⟩
    case measure=>simp [intOf] <;> omega
   | false=>
    obtain rfl:z=y:=hz;go_wp2_with (at_builtin;refine wpList_append_R rfl (.tmp 13) (.tmp 24) 181 rfl w.heap.size 4 i0 _ 1 1 underlying181 hi0 hz0 hz1 hz2 rfl (by omega) (.slice A0 i c0) i xs (by first | rfl | simp [Act.eval]) (own_keep HOWN.out (KeepB.of_nil ((Fr.refl [] wr).alloc _))) ⟨wr.heap.size,0,none⟩ 1 1 [.bool z] (by first | rfl | simp [Act.eval]) rfl (one_bit wr _) (by simp [Value.oneCell']) (by unfold maxLen;omega) (by omega) (by have:=HFR.out.size;simp;omega) ?_;intro v' w4 hown4 hgr hat4;obtain ⟨A4,c4,rfl⟩:=own_any hown4;have HGR:=zh hgr;have HOWN4:=zh hown4;clear hown4 hgr hat4)
    go_roundw
    case rel=>exact ⟨i+1,A4,c4,by go_num,rfl,by have:=HN.out;omega,by have h:=HOWN4.out;rw [HXS.out] at h;rw [HST.out];simpa [bits] using h,(HFR.out.alloc _).grown HGR.out (fun g hg => .inr (own_base HOWN.out g hg).1)⟩
    case measure=>simp [intOf] <;> omega
  have hinI:¬ ((i:Int) < (n:Int)):=by omega
  obtain rfl:i=n:=by omega
  have hfin:(List.zipWith (· || ·) fs gs).take i=List.zipWith (· || ·) fs gs:=List.take_of_length_le (by rw [List.length_zipWith];have:=HN.out;omega);rw [hfin] at HOWN;clear hfin;go_wp2_with fail
  go_ret
  exact ⟨A0,c0,rfl,HOWN.out,HFR.out⟩
theorem take_more {fs gs:List Bool} {i:Nat} (h1:i < fs.length) (h2:i < gs.length) (h:fs.take i=gs.take i) (k:fs.getD i false=gs.getD i false):fs.take (i+1)=gs.take (i+1):=by
 rw [List.take_add_one,List.take_add_one,h,List.getElem?_eq_getElem h1,List.getElem?_eq_getElem h2];rw [List.getD_eq_getElem?_getD,List.getElem?_eq_getElem h1,List.getD_eq_getElem?_getD,List.getElem?_eq_getElem h2] at k;rw [show fs[i]=gs[i] from k]
def RSameRel (w:World) (fs gs:List Bool) (v5:Value) (wr:World):Prop:=∃ i:Nat,v5 = .int .i64 (i:Int)/\i <= fs.length/\fs.take i=gs.take i/\Fr [] w wr
theorem rsame_any {w:World} {A B:Option Addr} {ca cb n:Nat} {fs gs:List Bool} (hn:n=fs.length) (hm:n=gs.length) (hl:n <= 1000) (ha:At w A (bits fs)) (hb:At w B (bits gs)) :
    Calls prog 113 #[.slice A n ca,.slice B n cb] w fun e w'=>e = .returned (.bool (decide (fs=gs)))/\Fr [] w w':=by
 obtain ⟨D,hD⟩:∃ D,D=decide (fs=gs):=⟨_,rfl⟩;rw [<-hD];have HA:=zh ha;have HB:=zh hb;have HN:=zh hn;have HM:=zh hm;have HD:=zh hD;clear ha hb hn hm hD;go_enter func113,ntmps113
 go_wp2_with fail
 go_loopw [5] (fun v5 wr=>RSameRel w fs gs v5 wr) (fun v5 _=>n+1 - (intOf v5).toNat)
 case atStart=>exact ⟨0,rfl,Nat.zero_le _,by simp,Fr.refl _ _⟩
 case round=>
  obtain ⟨i,rfl,hi,htk,hfr⟩:=hrel;have HTK:=zh htk;have HFR:=zh hfr;have hi':i <= n:=by rw [HN.out];exact hi
  clear htk hfr hi;rcases Nat.lt_or_ge i n with hin | hin
  ·have hinI:(i:Int) < (n:Int):=by omega
   obtain ⟨ad,rfl,e0⟩:=(HA.out.fr_nil HFR.out).bit (i:=i) (by have:=HN.out;omega);obtain ⟨bd,rfl,e1⟩:=(HB.out.fr_nil HFR.out).bit (i:=i) (by have:=HM.out;omega);obtain ⟨x,hx⟩:∃ x,x=fs.getD i false:=⟨_,rfl⟩;obtain ⟨y,hy⟩:∃ y,y=gs.getD i false:=⟨_,rfl⟩;rw [<-hx] at e0;rw [<-hy] at e1;have HX:=zh hx;have HY:=zh hy;clear hx hy;go_upto_region 4 with fail
   by_cases hxy:x=y
   ·have hb:(x != y)=false:=by rw [hxy];cases y <;> rfl
    have HXY:=zh hxy;clear hxy;refine wp_region_M_ (G:=fun a b=>a=b) (S:=fun W=>W=wr.drew) ⟨fun _=>rfl,fun a b c h k=>h.trans k,fun a b h k=>k ▸ h,by kernel_rfl,fun _ _ d _ _ h=>by cases d <;> exact h⟩ (by kernel_rfl) fun su=>?_
    have SU:=zh su;have HS:Hid (wr.drew=wr.drew):=zh rfl;clear su;refine M_m 0 SU.out HS.out ?_;simp only [PE];refine M_m 1 SU.out HS.out ?_;simp only [PE];refine M_v 2 ?_ SU.out HS.out (fun W hS=>?_) ?_;rotate_left
    ·obtain rfl:=hS;go_simp;first | done | rfl | (exact HXY.out) | omega | (exact IntWalk.i64_in _ (by omega)) | (simp <;> omega)
    simp only [PU];refine M_v 3 (.bool x) SU.out HS.out (fun W hS=>?_) ?_
    ·obtain rfl:=hS;go_simp;first | done | rfl | (exact HXY.out) | omega | (exact IntWalk.i64_in _ (by omega)) | (simp <;> omega)
    simp only [PU];refine M_m 4 SU.out HS.out ?_;simp only [PE];refine M_m 5 SU.out HS.out ?_;simp only [PE];refine M_v 6 ?_ SU.out HS.out (fun W hS=>?_) ?_;rotate_left
    ·obtain rfl:=hS;go_simp;first | done | rfl | (exact HXY.out) | omega | (exact IntWalk.i64_in _ (by omega)) | (simp <;> omega)
    simp only [PU];refine M_v 7 (.bool y) SU.out HS.out (fun W hS=>?_) ?_
    ·obtain rfl:=hS;go_simp;first | done | rfl | (exact HXY.out) | omega | (exact IntWalk.i64_in _ (by omega)) | (simp <;> omega)
    simp only [PU];refine M_v 8 (.bool false) SU.out HS.out (fun W hS=>?_) ?_
    ·obtain rfl:=hS;go_simp;first | done | rfl | (exact HXY.out) | omega | (exact IntWalk.i64_in _ (by omega)) | (simp <;> omega)
    simp only [PU];refine wpAnyM_done (by kernel_rfl) (fun w' hG=>?_);obtain rfl:=hG;go_wp2_with fail
    go_roundw
    case rel=>exact ⟨i+1,by go_num,by have:=HN.out;omega,take_more (by have:=HN.out;omega) (by have:=HM.out;omega) HTK.out (by rw [<-HX.out,<-HY.out];exact HXY.out),HFR.out.drew⟩
    case measure=>simp [intOf] <;> omega
   have hb:(x != y)=true:=by simpa using hxy
   have hne:D=false:=by
    rw [HD.out];refine decide_eq_false fun e=>?_;have h1:=HX.out;have h2:=HY.out;rw [e] at h1;rw [<-h2] at h1;exact hxy h1
   subst hne;have HXY:=zh hxy;clear hxy;refine wp_region_M_ (G:=fun a b=>a=b) (S:=fun W=>W=wr.drew) ⟨fun _=>rfl,fun a b c h k=>h.trans k,fun a b h k=>k ▸ h,by kernel_rfl,fun _ _ d _ _ h=>by cases d <;> exact h⟩ (by kernel_rfl) fun su=>?_
   have SU:=zh su;have HS:Hid (wr.drew=wr.drew):=zh rfl;clear su;refine M_m 0 SU.out HS.out ?_;simp only [PE];refine M_m 1 SU.out HS.out ?_;simp only [PE];refine M_v 2 ?_ SU.out HS.out (fun W hS=>?_) ?_;rotate_left
   ·obtain rfl:=hS;go_simp;first | done | rfl | (exact HXY.out) | omega | (exact IntWalk.i64_in _ (by omega)) | (simp <;> omega)
   simp only [PU];refine M_v 3 (.bool x) SU.out HS.out (fun W hS=>?_) ?_
   ·obtain rfl:=hS;go_simp;first | done | rfl | (exact HXY.out) | omega | (exact IntWalk.i64_in _ (by omega)) | (simp <;> omega)
   simp only [PU];refine M_m 4 SU.out HS.out ?_;simp only [PE];refine M_m 5 SU.out HS.out ?_;simp only [PE];refine M_v 6 ?_ SU.out HS.out (fun W hS=>?_) ?_;rotate_left
   ·obtain rfl:=hS;go_simp;first | done | rfl | (exact HXY.out) | omega | (exact IntWalk.i64_in _ (by omega)) | (simp <;> omega)
   simp only [PU];refine M_v 7 (.bool y) SU.out HS.out (fun W hS=>?_) ?_
   ·obtain rfl:=hS;go_simp;first | done | rfl | (exact HXY.out) | omega | (exact IntWalk.i64_in _ (by omega)) | (simp <;> omega)
   simp only [PU];refine M_v 8 (.bool true) SU.out HS.out (fun W hS=>?_) ?_
   ·obtain rfl:=hS;go_simp;first | done | rfl | (exact HXY.out) | omega | (exact IntWalk.i64_in _ (by omega)) | (simp <;> omega)
   simp only [PU];refine wpAnyM_done (by kernel_rfl) (fun w' hG=>?_);obtain rfl:=hG;go_wp2_with fail
   go_ret
   exact ⟨rfl,HFR.out.drew⟩
  have hinI:¬ ((i:Int) < (n:Int)):=by omega
  have hne:D=true:=by
   rw [HD.out];refine decide_eq_true ?_;have h1:=HTK.out;rw [List.take_of_length_le (by have:=HN.out;omega),List.take_of_length_le (by have:=HM.out;omega)] at h1;exact h1
  subst hne;go_wp2_with fail
  go_ret
  exact ⟨rfl,HFR.out⟩
end Go.Proofs.YtfofechcccodeaaGreatDoor
namespace Go.Proofs.YtfofechcccodeaaGreatDoor
open Go.RowKit
set_option linter.unusedVariables false
set_option linter.unusedSimpArgs false
theorem wpList_box_bk {P:Program} {ops:Array Oper} {rest:List Oper} {o:Oper} {a:Act} {w:World} {Q:Exit->Act->World->Prop} (hgd:o.guard=none) (T:TypeId) (x:Operand) (ho:o.op = .box T x) (C:List Value) (hx:a.eval x = .agg C.toArray)
    (h:∀ w',Bk w' w.heap.size T C.toArray->Fr [] w w'->wpList P ops Q rest (a.put o.dst (.pointer (some ⟨w.heap.size,0,none⟩))) w'):wpList P ops Q (o :: rest) a w:=by
 refine wpList_plain hgd fun K hK=>?_;have h2:=hK _ _ (h _ (Bk.new w T C.toArray) ((Fr.refl [] w).alloc _));unfold Oper.wp execOp;simp only [ho,hx,Sem.run_bind,Instr.box,newVar,newRow,run_newObj_alloc,Sem.run_pure,Result.andThen_ok,Value.cells];exact h2
theorem cntL_ge:∀ (l:List PT),l.length <= cntL l
 | []=>by simp
 | a :: r=>by have:=cntL_ge r;have h:1 <= cntP a:=(by rw [cntP_eq];omega);rw [cntL];simp;omega
theorem cntL_child:∀ (l:List PT) (q:PT),q ∈ l->cntP q <= cntL l
 | [],q,h=>by cases h
 | a :: r,q,h=>by
  rw [cntL];rcases List.mem_cons.1 h with rfl | h
  ·omega
  have:=cntL_child r q h;omega
theorem child_size {p q:PT} (h:q ∈ p.l):cntP q < cntP p:=by
 rw [cntP_eq p];have:=cntL_child p.l q h;omega
theorem len_cnt (p:PT):p.l.length < cntP p:=by rw [cntP_eq];have:=cntL_ge p.l;omega
theorem RPMem.fr_nil {w w':World} {p:PT} (h:RPMem w p) (hf:Fr [] w w'):RPMem w' p:=RPMem.fr_ hf p (fun b _=>by simp) h
theorem RPMem.child {w:World} {p q:PT} {i:Nat} (h:RPMem w p) (hq:p.l[i]?=some q):(∃ b off,p.A=some ⟨b,off,none⟩/\RCellsAt w b (off+i * 260) q.rcells)/\RPMem w q:=by
 rw [RPMem_eq] at h;have:=RLMem.get h hq
 simpa using this
end Go.Proofs.YtfofechcccodeaaGreatDoor
