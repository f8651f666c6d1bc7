/-
  Small texts in one (Hf7, Hf8, HfJ). No conditions.
-/
import Derived.Test.YtfofechcccodeaaGreatDoorQbv
import Derived.Test.YtfofechcccodeaaGreatDoorQbw
import Derived.LaidHandle
import Derived.Test.YtfofechcccodeaaGreatDoorQab
namespace Go.Proofs.YtfofechcccodeaaGreatDoor.F
open Go.ChangeShapes Go.WideShapes Go.ChangeAt Go.RowKit Go.Deep Go.Proofs.Tryz
set_option linter.unusedVariables false
set_option linter.unusedSimpArgs false
set_option maxHeartbeats 4000000
def ErrT (w:World):Prop:=w.cell? ⟨0,0,none⟩=some (.iface 144 (.agg #[.pointer (some ⟨4,34,none⟩)]))
theorem ErrT.fr {w w':World} (h:ErrT w) (hf:Fr [] w w'):ErrT w':=(hf.cell (World.block_lt_of_cell? w _ h) (by simp)).trans h
theorem as_fault {w:World} {v:Value} {p c:Int} {t:Nat} {old:Value} (h:FaultV w v p c) (hg:ErrT w) (ht:Bk w t 74 #[old]) :
    Calls prog 30 #[v,.iface 76 (.pointer (some ⟨t,0,none⟩))] w fun e w'=>e = .returned (.bool true)/\∃ g,Bk w' t 74 #[.pointer (some ⟨g,0,none⟩)]/\Bk w' g 78 #[.int .i64 p,.iface 55 (.int .i64 c)]/\Fr [t] w w':=by
 obtain ⟨g,rfl,hb⟩:=h;refine (as_hit ⟨g,0,none⟩ ⟨t,0,none⟩ old w hg (ht.cell_ rfl) (ht.frozen 0)).mono ?_;rintro e w' ⟨rfl,rfl⟩;have hne:g ≠ t:=hb.ne_ ht (by decide);refine ⟨rfl,g,?_,?_,?_⟩
 ·exact ((((ht.alloc _).alloc _).alloc _).alloc _).put 0 _
 ·exact ((((hb.alloc _).alloc _).alloc _).alloc _).far hne _
 exact (((((Fr.refl [t] w).alloc _).alloc _).alloc _).alloc _).setCell (.inl (by simp)) _
set_option maxRecDepth 100000
theorem et_name : prog.globalNamed "errors.errorType" = some 0 := by kernel_rfl
theorem rt_name : (prog.cutTypes.find? (·.1 == "internal/reflectlite.rtype")).map (·.2) = some 144 := by kernel_rfl
theorem one_row:((List.range (372 - 100)).filter fun t=>prog.rowNamed t [101,114,114,111,114])=[34]:=by kernel_rfl
theorem types_n:prog.types.size=372 - 100:=by kernel_rfl
theorem errT_of_laid {W:World} (h:laidMetH prog Rows.fieldsPlayRow.laid W):ErrT W:=by
 have ef : (Rows.fieldsPlayRow.laid.filter fun x => x.2.handleName?.isSome) = [("errors.errorType", Rows.laid_errors_errorType)] := by rfl
 unfold laidMetH at h; rw [ef] at h; have h' : handlesMet prog [("errors.errorType", Rows.laid_errors_errorType)] W := h.2; obtain ⟨name, u, ty, e1, e2, e3, e4, e5⟩ := h' _ (List.mem_singleton.2 rfl); have en : name = [101, 114, 114, 111, 114] := (Option.some.inj e1).symm; subst en; obtain rfl := Option.some.inj (rt_name.symm.trans e2); have hm : ty ∈ (List.range (372 - 100)).filter fun t => prog.rowNamed t [101, 114, 114, 111, 114] := List.mem_filter.2 ⟨List.mem_range.2 (by rw [← types_n]; exact e3), e4⟩; rw [one_row] at hm; obtain rfl := List.mem_singleton.1 hm; have hh : typeHandle prog 34 = .pointer (some ⟨4, 34, none⟩) := by kernel_rfl
 rw [hh] at e5;unfold ErrT
 simpa using World.var?_cell et_name e5 0
theorem int_cells:prog.cellsOf 3=1:=by kernel_rfl
theorem str_cells:prog.cellsOf 9=1:=by kernel_rfl
theorem act_cells:prog.cellsOf 32=3:=by kernel_rfl
def ActF (w:World) (A:Option Addr) (n:Nat) (K N:Nat->Int) (S:Nat->List UInt8):Prop:=
 ∀ i,i < n->∃ b off,A=some ⟨b,off,none⟩/\b < w.heap.size/\w.cell? ⟨b,off+i * 3,none⟩=some (.int .i64 (K i))/\w.cell? ⟨b,off+i * 3+1,none⟩=some (.int .i64 (N i))/\w.cell? ⟨b,off+i * 3+2,none⟩=some (.string ⟨(S i).toArray⟩)
theorem ActF.fr {w w':World} {A:Option Addr} {n:Nat} {K N:Nat->Int} {S:Nat->List UInt8} (h:ActF w A n K N S) (hf:Fr [] w w'):ActF w' A n K N S:=by
 intro i hi;obtain ⟨b,off,hA,hb,h0,h1,h2⟩:=h i hi;exact ⟨b,off,hA,Nat.lt_of_lt_of_le hb hf.size,(hf.cell hb (by simp)).trans h0,(hf.cell hb (by simp)).trans h1,(hf.cell hb (by simp)).trans h2⟩
theorem acts_openF {H:Type} {enc:TypeId × Value->H} {w:World} {base base':Nat} {spare:Nat->Bool} {held:Bool} {r:Reach} {v:Value} {d:DataW H} {p:List MemPlace}
    (hv:Value.okWide prog w r base' 22 v) (h:DataW.Trod enc prog w base spare held 22 v d p) :
    ∃ (A:Option Addr) (n c:Nat) (K N:Nat->Int) (S:Nat->List UInt8),v = .slice A n c/\n <= maxLen/\ActF w A n K N S:=by
 obtain ⟨A,n,c,rfl,h1,h2,h3,hi⟩:=arg_slice underlying22 (by rw [act_cells];omega) hv h;rw [act_cells] at hi
 have hx:∀ i,i < n->∃ x:Int × Int × List UInt8,∃ b off,A=some ⟨b,off,none⟩/\b < w.heap.size/\w.cell? ⟨b,off+i * 3,none⟩=some (.int .i64 x.1)/\w.cell? ⟨b,off+i * 3+1,none⟩=some (.int .i64 x.2.1)/\w.cell? ⟨b,off+i * 3+2,none⟩=some (.string ⟨x.2.2.toArray⟩):=by
  intro i hil;obtain ⟨b,off,es,hA,hb,hel,hcell,hrd⟩:=hi i hil;obtain ⟨_,hf⟩:=hrd.struct_ underlying32
  match es,hel with
  | [e0,e1,e2],_=>
   obtain ⟨k,hk,wk⟩:=(hf 0 _ rfl).int_ underlying3;obtain ⟨j,hj,wj⟩:=(hf 1 _ rfl).int_ underlying3;obtain ⟨s,hs,ws⟩:=(hf 2 _ rfl).string_ underlying9;simp [int_cells,str_cells] at hk hj hs;subst hk hj hs;exact ⟨(k,j,s.data.toList),b,off,hA,hb,hcell 0 (by omega),hcell 1 (by omega),by rw [<-ba_of];exact hcell 2 (by omega)⟩
 obtain ⟨f,hf⟩:=choose_lt (α := Int × Int × List UInt8) hx;exact ⟨A,n,c,fun i=>(f i).1,fun i=>(f i).2.1,fun i=>(f i).2.2,rfl,Nat.le_trans h1 h2,fun i hi=>hf i hi⟩
def Few (n:Nat) (K:Nat->Int) (S:Nat->List UInt8):Prop:=n <= 30/\∀ i,i < n->(S i).length <= 60/\(K i=5->(S i).length <= 12)
theorem few_any {w:World} {A:Option Addr} {n c:Nat} {K N:Nat->Int} {S:Nat->List UInt8} (ha:ActF w A n K N S) (hn:n <= maxLen) :
    Calls prog 5 #[.slice A n c] w fun e w'=>∃ b:Bool,e = .returned (.bool b)/\(b=true->Few n K S)/\w=w':=by
 have HA:=zh ha;unfold maxLen at hn;clear ha;go_enter func5,ntmps5
 by_cases h30:30 < n
 ·have t0:decide ((30:Int) < (n:Int))=true:=decide_eq_true (by omega);go_wp2_with fail
  go_ret
  exact ⟨false,rfl,by simp,rfl⟩
 have t0:decide ((30:Int) < (n:Int))=false:=decide_eq_false (by omega);go_upto_region 4 with fail
 go_loopw [3] (fun v3 wr=>∃ i:Nat,v3 = .int .i64 (i:Int)/\i <= n/\w=wr/\∀ j,j < i->(S j).length <= 60/\(K j=5->(S j).length <= 12)) (fun v3 _=>n - (intOf v3).toNat)
 case atStart=>exact ⟨0,rfl,by omega,rfl,fun j hj=>by omega⟩
 case round=>
  obtain ⟨i,rfl,hi,rfl,hall⟩:=hrel;have HALL:=zh hall;clear hall t0;by_cases hlt:i < n
  ·obtain ⟨b,off,rfl,hb,h0,h1,h2⟩:=HA.out i hlt;obtain ⟨k,hk⟩:∃ k,k=K i:=⟨_,rfl⟩;obtain ⟨s,hs⟩:∃ s,s=S i:=⟨_,rfl⟩;rw [<-hk] at h0;rw [<-hs] at h2;have HK:=zh hk;have HS:=zh hs;clear hk hs;by_cases h60:60 < s.length
   ·have t1:decide ((60:Int) < (s.length:Int))=true:=decide_eq_true (by omega);go_wp2_with fail
    go_ret
    exact ⟨false,rfl,by simp,rfl⟩
   have t1:decide ((60:Int) < (s.length:Int))=false:=decide_eq_false (by omega);by_cases h5:k=5
   ·subst h5;by_cases h12:12 < s.length
    ·have t2:decide ((12:Int) < (s.length:Int))=true:=decide_eq_true (by omega);go_wp2_with fail
     go_ret
     exact ⟨false,rfl,by simp,rfl⟩
    have t2:decide ((12:Int) < (s.length:Int))=false:=decide_eq_false (by omega)
    have HX:Hid (∀ j,j < i+1->(S j).length <= 60/\(K j=5->(S j).length <= 12)):=zh (fun j hj=>by
     rcases Nat.lt_succ_iff_lt_or_eq.1 hj with h | rfl
     ·exact HALL.out j h
     rw [<-HS.out];exact ⟨by omega,fun _=>by omega⟩)
    go_wp2_with fail
    go_roundw
    case rel=>exact ⟨i+1,by go_num,by omega,(by first | rfl | trivial),HX.out⟩
    case measure=>simp [intOf] <;> omega
   have t2:(k == 5)=false:=beq_eq_false_iff_ne.2 h5
   have HX:Hid (∀ j,j < i+1->(S j).length <= 60/\(K j=5->(S j).length <= 12)):=zh (fun j hj=>by
    rcases Nat.lt_succ_iff_lt_or_eq.1 hj with h | rfl
    ·exact HALL.out j h
    rw [<-HS.out,<-HK.out];exact ⟨by omega,fun e=>absurd e h5⟩)
   clear h5;go_wp2_with fail
   go_roundw
   case rel=>exact ⟨i+1,by go_num,by omega,(by first | rfl | trivial),HX.out⟩
   case measure=>simp [intOf] <;> omega
  obtain rfl:i=n:=by omega
  go_wp2_with fail
  go_ret
  exact ⟨true,rfl,fun _=>⟨by omega,HALL.out⟩,rfl⟩
theorem place_any {w:World} {v:Value} {p c:Int} (h:FaultV w v p c) (hg:ErrT w):Calls prog 17 #[v] w fun e w'=>e = .returned (.int .i64 p)/\Fr [] w w':=by
 have HV:=zh h;have HG:=zh hg;obtain ⟨g0,rfl,-⟩:=h;clear hg;go_enter func17,ntmps17
 go_upto_region 2 with fail
 obtain ⟨t,ht⟩:∃ t,t=w.heap.size:=⟨_,rfl⟩;obtain ⟨w1,hw1⟩:∃ w1,w1=w.alloc (.cells #[.pointer none] 74):=⟨_,rfl⟩;have hb:Bk w1 t 74 #[.pointer none]:=by rw [hw1,ht];exact Bk.new _ _ _
 have hf:Fr [] w w1:=by rw [hw1];exact (Fr.refl [] w).alloc _
 rw [<-hw1,<-ht]
 have hv1:FaultV w1 (.iface 74 (.pointer (some ⟨g0,0,none⟩))) p c:=by
  obtain ⟨g,e,hbk⟩:=HV.out;exact ⟨g,e,hbk.fr hf (by simp)⟩
 have HAS:=zh (as_fault hv1 (HG.out.fr hf) hb);have HF:=zh hf;have HT:=zh ht;clear hw1 ht hb hf hv1;go_wp2_with fail
 go_at_call 30
 refine HAS.out.mono ?_;rintro e w2 ⟨rfl,g,hb2,hb3,hf2⟩;have c0:=hb2.cell_ (i:=0) rfl;have c1:=hb3.cell_ (i:=0) rfl;have HF2:Hid (Fr [] w w2):=zh (HF.out.trans' hf2 (fun q hq => .inr (by have:=HT.out;simp at hq;omega)));clear hb2 hb3 hf2;go_wp2_with fail
 go_ret
 exact ⟨rfl,HF2.out⟩
def WrongIs (fs:List UInt8) (n a:Int):Prop:=(¬ exprFs fs/\n=0/\a=0) ∨ (exprFs fs/\(∃ t,parseS fs = .ok t)/\n=0/\a=0) ∨ (exprFs fs/\∃ i c:Nat,parseS fs = .error (i,c)/\n=c/\a=i)
def WrongP (w:World) (fs:List UInt8) (e:Ending) (w':World):Prop:=Fr [] w w'/\∃ n a:Int,e = .returned (.tuple #[.int .i64 n,.int .i64 a])/\WrongIs fs n a
theorem wrong_nil (w:World):Calls prog 15 #[.string ⟨#[]⟩] w (WrongP w []):=by
 go_enter func15,ntmps15
 go_wp2_with fail
 go_ret2
 exact ⟨Fr.refl _ _,0,0,rfl,.inl ⟨fun h=>h.1 rfl,rfl,rfl⟩⟩
theorem wrong_one (w:World) (c:UInt8) (h2:c ≠ 92):Calls prog 15 #[.string ⟨#[c]⟩] w (WrongP w [c]):=by
 have t3:([c] == [(92:UInt8)])=false:=by simpa using h2
 have HX:Hid (¬ exprFs [c]):=zh (fun h=>by rcases h.2 with h | h;exact absurd rfl h;exact h2 (by simpa using h));clear h2;go_enter func15,ntmps15
 go_wp2_with fail
 go_ret2
 exact ⟨Fr.refl _ _,0,0,rfl,.inl ⟨HX.out,rfl,rfl⟩⟩
theorem wrong_expr (w:World) {fs:List UInt8} (hx:exprFs fs):Calls prog 15 #[.string ⟨fs.toArray⟩] w (WrongP w fs):=by
 obtain ⟨S,n,hX⟩:=ExS.of hx
 have hpar:Calls prog 28 #[.string ⟨fs.toArray⟩] w fun e w'=>Fr [] w w'/\∃ (C:List Value) (j k i:Int),C.length=260/\(∀ v ∈ C,v.oneCell'=true)/\e = .returned (.agg (gotC C j k i).toArray)/\WrongIs fs k i:=by
  refine (rparse_any fs w).mono ?_;rintro e w' ⟨hf,hp⟩;refine ⟨hf,?_⟩
  cases hY:parseS fs with
  | error q=>
   obtain ⟨i,c⟩:=q;rw [hY] at hp;exact ⟨zeroPC,0,c,i,zeroPC_len,zeroPC_one,hp.2,.inr (.inr ⟨hx,i,c,hY,rfl,rfl⟩)⟩
  | ok t=>
   rw [hY] at hp;obtain ⟨p,j,he,-⟩:=hp;exact ⟨p.rcells,j,0,0,rcells_len p,rcells_one p,he,.inr (.inl ⟨hx,⟨t,hY⟩,rfl,rfl⟩)⟩
 have t0:=hX.d0;have t1:=hX.d1;have t2:=hX.d2;have e0:=hX.e0;have e1:=hX.e1;have hs1:=hX.sz;have hn0:=hX.n0;rw [<-hX.hs] at hpar ⊢; have HPAR:=zh hpar;clear hX hx hpar;go_enter func15,ntmps15
 have u0:((n:Int) == 0)=false:=by rw [beq_eq_false_iff_ne];omega
 have u0':((S.size:Int) == 0)=false:=by rw [hs1];exact u0
 by_cases h1:n=1
 case' pos=>
  have u1:((n:Int) == 1)=true:=by simp [h1]
  have u2:((S.size:Int) == 1)=true:=by rw [hs1];exact u1
  have v0:=e0 h1;have v1:=e1 h1;clear e0 e1 h1 hs1;go_upto_region 3 with fail
  clear u1 u2 v0 v1
 case' neg=>
  have u1:((n:Int) == 1)=false:=by rw [beq_eq_false_iff_ne];omega
  have u2:((S.size:Int) == 1)=false:=by rw [hs1];exact u1
  clear e0 e1 h1 hs1;go_upto_region 3 with fail
  clear u1 u2
 all_goals
  clear t0 t1 t2 u0 u0' hn0
  go_upto_region 4 with (first
   | (go_at_call 28;refine HPAR.out.mono ?_;rintro e w4 ⟨hf,C,j,k,i,hC,hC1,rfl,hW⟩;have HX4:=zh hf;have HC:=zh hC;have HC1:=zh hC1;have HW:=zh hW;clear hf hC hC1 hW)
   | (refine wpList_alloc_bk rfl 71 rfl (gotC zeroPC 0 0 0) 263 rg_zero ?_;intro wA1 hzA hfA;have HZA1:=zh hzA;have HX5:=zh (HX4.out.trans hfA);clear hzA hfA)
   | (refine wpList_store_bk rfl 71 _ _ rfl w4.heap.size (gotC C j k i) rfl rfl _ _ HZA1.out (by rw [gotC_len HC.out];exact rg_size) (by rw [gotC_len HC.out,List.size_toArray,gotC_len zeroPC_len]) (gotC_one HC1.out _ _ _) ?_;intro wS1 hzS hfS;have HX6:Hid (Fr [] w wS1):=zh (HX5.out.trans' hfS (by simp;have:=HX4.out.size;omega));have c261:=hzS.cellL (gotC_e HC.out _ _ _);have c262:=hzS.cellL (gotC_at HC.out _ _ _);clear hzS hfS))
  go_quiet (fail)
  go_wp2_with fail
  go_ret2
  exact ⟨HX6.out.drewN _,k,i,rfl,HW.out⟩
theorem wrong_any (w:World) (fs:List UInt8):Calls prog 15 #[.string ⟨fs.toArray⟩] w (WrongP w fs):=by
 match fs with
 | []=>exact wrong_nil w
 | [c]=>
  by_cases h:c=92
  ·subst h;exact wrong_expr w ⟨by simp,.inr rfl⟩
  exact wrong_one w c h
 | a :: b :: q=>exact wrong_expr w ⟨by simp,.inl (by simp)⟩
end Go.Proofs.YtfofechcccodeaaGreatDoor.F
namespace Go.Proofs.YtfofechcccodeaaGreatDoor.F
open Go.RowKit Go.Proofs.Tryz
set_option linter.unusedVariables false
set_option linter.unusedSimpArgs false
theorem cutG_sum (c:UInt8):∀ (s cur:List UInt8),Lib.lens (cutG c s cur) <= s.length+cur.length
 | [],cur=>by simp [cutG,Lib.lens]
 | x :: r,cur=>by
  unfold cutG;split
  ·have h:=cutG_sum c r [];rw [lens_cons];simp only [List.length_nil,List.length_cons] at h ⊢; omega
  have h:=cutG_sum c r (cur ++ [x]);rw [List.length_append] at h;simp only [List.length_cons,List.length_nil] at h ⊢; omega
theorem cutM_sum (s:List UInt8) (c:UInt8):Lib.lens (cutM s c) <= s.length:=by
 unfold cutM;split
 ·simp [Lib.lens]
 have:=cutG_sum c s [];simpa using this
theorem chrM_sum:∀ (s:List UInt8),Lib.lens (chrM s)=s.length
 | []=>rfl
 | x :: r=>by
  have h:=chrM_sum r;unfold chrM at h ⊢; rw [List.map_cons,lens_cons,h,List.length_cons];simp;omega
theorem splitF_sum (tx:List UInt8):∀ (l:List (Nat × Nat)) (b:Nat),Lib.lens (splitF tx l b) <= (l.length+1) * tx.length
 | [],b=>by simp [splitF,Lib.lens]
 | q :: r,b=>by
  unfold splitF;split
  ·have:=splitF_sum tx r q.2;rw [lens_cons,List.length_cons,Nat.succ_mul];have h2:((tx.drop b).take (q.1 - b)).length <= tx.length:=by simp;omega
   omega
  have:=splitF_sum tx r b;rw [List.length_cons,Nat.succ_mul];omega
theorem fs_size {fs:List UInt8} {fl:List UInt8->List (List UInt8)} (h:FsOk fs fl) (s:List UInt8) (hs:s.length <= 60):(fl s).length <= 1000/\Lib.lens (fl s) <= 65536:=by
 rcases h with ⟨-, rfl⟩ | ⟨-, rfl⟩ | ⟨c,-, -, -, rfl⟩ | ⟨-, t,hp,-, rfl⟩
 ·have:=splM_len s;have:=splM_sum s;omega
 ·have:=chr_len s;have:=chrM_sum s;omega
 ·have:=cutM_len s c;have:=cutM_sum s c;dsimp only;omega
 obtain ⟨q1,q2,-⟩:=parse_prog hp;refine ⟨by have:=splitS_len q1 q2 s;omega,?_⟩;unfold splitS;split
 ·simp [Lib.lens]
 have h1:=splitF_sum s (findsS (progT t) s) 0;have h2:=(findsS_ord (tx:=s) q1 q2).2.2;have h3:((findsS (progT t) s).length+1) * s.length <= 63 * 60:=Nat.mul_le_mul (by omega) hs;omega
def ErrN (ev:Value) (code:Int):Prop:=(ev = .nilIface/\code=0) ∨ (ev=errV code/\1 <= code/\code <= 25)
def PairP (w W:World) (g:Nat) (fs:List UInt8) (x:Rc) (v:Value) (fi:FuncId) (ai:Array Value) (fr:FuncId) (ar:Array Value):Prop:=
 ∃ (y:Rc) (ev:Value) (code:Int),ErrN ev code/\(y.kind=x.kind/\y.c=x.c/\y.f=x.f/\y.fl=x.fl/\y.jn=x.jn)/\y.l.length <= 1000/\Lib.lens y.l <= 65536 /\
  (Calls prog fi ai W fun e W1=>e = .returned ev/\RcM W1 g y/\Fr [g] W W1) /\
  (∀ W1,OwnL W1 v x.l->Calls prog fr ar W1 fun e W2=>∃ A c,e = .returned (.tuple #[recV fs y (.slice A y.l.length c),.int .i64 code])/\OwnL W2 (.slice A y.l.length c) y.l/\Fr [] W1 W2)
section
variable {w W:World} {g:Nat} {fs:List UInt8} {x:Rc} {v:Value}
theorem own_slice {W:World} {u:Value} {l:List (List UInt8)} (h:OwnL W u l):∃ A c,u = .slice A l.length c:=by
 obtain ⟨A,c,e,-⟩:=OwnL.val h;exact ⟨A,c,e⟩
theorem pair_set (hr:RcM W g x) (hs:SepOk W x) (hfs:FsOk fs x.fl) (s:List UInt8) (hl:s.length <= 60) :
    PairP w W g fs x v 8 #[.pointer (some ⟨g,0,none⟩),.string ⟨s.toArray⟩] 9 #[recV fs x v,.string ⟨s.toArray⟩]:=by
 obtain ⟨h1,h2⟩:=fs_size hfs s hl;refine ⟨{ x with text:=s,l:=x.fl s },.nilIface,0,.inl ⟨rfl,rfl⟩,⟨rfl,rfl,rfl,rfl,rfl⟩,h1,h2,?_,fun W1 ho=>?_⟩
 ·refine (set_any hr hs s (by omega)).mono fun e W1 hp=>?_;rcases hp with ⟨hb,-⟩ | ⟨-, hb,-⟩ | ⟨-, -, he,h3,h4⟩
  ·omega
  ·omega
  exact ⟨he,h3,h4⟩
 refine (rset_any fs x ho s (by omega) (rspl_any W1 hfs s (by omega))).mono fun e W2 hp=>?_;obtain ⟨hf,⟨hb,-⟩ | ⟨-, u,he,hu⟩⟩:=hp
 ·omega
 obtain ⟨A,c,rfl⟩:=own_slice hu;exact ⟨A,c,he,hu,hf⟩
theorem pair_zero (hr:RcM W g x) (hs:SepOk W x) (hfs:FsOk fs x.fl) (s:List UInt8) (hl:s.length <= 60) :
    PairP w W g fs x v 10 #[.pointer (some ⟨g,0,none⟩),.int .i64 0,.string ⟨s.toArray⟩] 11 #[recV fs x v,.int .i64 0,.string ⟨s.toArray⟩]:=by
 obtain ⟨h1,h2⟩:=fs_size hfs s hl;refine ⟨{ x with text:=s,l:=x.fl s },.nilIface,0,.inl ⟨rfl,rfl⟩,⟨rfl,rfl,rfl,rfl,rfl⟩,h1,h2,?_,fun W1 ho=>?_⟩
 ·refine (put_zero hr hs s (by omega)).mono fun e W1 hp=>?_;rcases hp with ⟨hb,-⟩ | ⟨-, hb,-⟩ | ⟨-, -, he,h3,h4⟩
  ·omega
  ·omega
  exact ⟨he,h3,h4⟩
 refine (rput_zero fs x ho s (by omega) (rspl_any W1 hfs s (by omega))).mono fun e W2 hp=>?_;obtain ⟨hf,⟨hb,-⟩ | ⟨-, u,he,hu⟩⟩:=hp
 ·omega
 obtain ⟨A,c,rfl⟩:=own_slice hu;exact ⟨A,c,he,hu,hf⟩
theorem wrongC_ok {n:Int} (h:wrongN n):ErrN (errV (wrongC n)) (wrongC n):=by
 refine .inr ⟨rfl,?_⟩;unfold wrongC;split <;> omega
theorem lens_le_join (l:List (List UInt8)) (s:List UInt8) (m:Nat) (h:(Lib.join l s).length <= m):Lib.lens l <= m:=by
 rw [join_len] at h;omega
theorem join_le (l:List (List UInt8)) (s:List UInt8) (h1:l.length <= 1000) (h2:Lib.lens l <= 100000) (h3:s.length <= 60):(Lib.join l s).length <= 1000000000:=by
 rw [join_len];have:=Nat.mul_le_mul h3 (show l.length - 1 <= 1000 by omega);omega
theorem pair_made {l:List (List UInt8)} {fi fr:FuncId} {ai ar:Array Value} (hr:RcM W g x) (hl:l.length <= 1000) (hxl:x.l.length <= 1000) (hln:Lib.lens x.l <= 65536)
    (h1:Calls prog fi ai W (PutPost W g x l)) (h2:∀ W1,OwnL W1 v x.l->Calls prog fr ar W1 (RPutP W1 fs x v l)):PairP w W g fs x v fi ai fr ar:=by
 by_cases hb:65536 < (Lib.join l x.jn).length
 ·refine ⟨x,errV 13,13,.inr ⟨rfl,by omega,by omega⟩,⟨rfl,rfl,rfl,rfl,rfl⟩,hxl,hln,h1.mono fun e W1 hp=>?_,fun W1 ho=>(h2 W1 ho).mono fun e W2 hp=>?_⟩
  ·rcases hp with ⟨hb,-⟩ | ⟨-, -, he,h3,h4⟩ | ⟨-, hb2,-⟩
   ·omega
   ·exact ⟨he,h3,h4.nil_⟩
   omega
  obtain ⟨hf,⟨-, he⟩ | ⟨hb2,-⟩⟩:=hp
  ·obtain ⟨A,c,rfl⟩:=own_slice ho;exact ⟨A,c,he,Own.fr ho hf (by simp),hf⟩
  omega
 refine ⟨{ x with text:=Lib.join l x.jn,l:=l },.nilIface,0,.inl ⟨rfl,rfl⟩,⟨rfl,rfl,rfl,rfl,rfl⟩,hl,lens_le_join l x.jn _ (by omega),h1.mono fun e W1 hp=>?_,fun W1 ho=>(h2 W1 ho).mono fun e W2 hp=>?_⟩
 ·rcases hp with ⟨hb,-⟩ | ⟨-, hb2,-⟩ | ⟨-, -, he,h3,h4⟩
  ·omega
  ·exact absurd hb2 hb
  exact ⟨he,h3,h4⟩
 obtain ⟨hf,⟨hb2,-⟩ | ⟨-, u,he,hu⟩⟩:=hp
 ·exact absurd hb2 hb
 obtain ⟨A,c,rfl⟩:=own_slice hu;exact ⟨A,c,he,hu,hf⟩
theorem pair_put (hr:RcM W g x) (hs:SepOk W x) (hfs:FsOk fs x.fl) (hj:x.jn.length <= 60) (hxl:x.l.length <= 1000) (hln:Lib.lens x.l <= 65536) (n:Int) (s:List UInt8) (hl:s.length <= 60) :
    PairP w W g fs x v 10 #[.pointer (some ⟨g,0,none⟩),.int .i64 n,.string ⟨s.toArray⟩] 11 #[recV fs x v,.int .i64 n,.string ⟨s.toArray⟩]:=by
 by_cases hw:wrongN n
 ·refine ⟨x,errV (wrongC n),wrongC n,wrongC_ok hw,⟨rfl,rfl,rfl,rfl,rfl⟩,hxl,hln,(put_out hr hxl n hw _).mono fun e W1 hp=>?_,fun W1 ho=>(rput_out fs x ho n hw _).mono fun e W2 hp=>?_⟩
  ·obtain ⟨he,rfl⟩:=hp;exact ⟨he,hr,Fr.refl _ _⟩
  obtain ⟨A,c,rfl⟩:=own_slice ho;exact ⟨A,c,hp.1,Own.fr ho hp.2 (by simp),hp.2⟩
 by_cases h0:n=0
 ·subst h0;exact pair_zero hr hs hfs s hl
 unfold wrongN at hw;obtain ⟨k,rfl⟩:∃ k:Nat,n=(k:Int):=⟨n.toNat,by omega⟩;have hpl:=put_len x.l k s;have hps:=put_lens x.l k s;have hm:x.jn.length * max k x.l.length <= 60 * 1000:=Nat.mul_le_mul hj (by omega);exact pair_made hr (by omega) hxl hln (put_any hr k (by omega) (by omega) hxl s (by omega)) (fun W1 ho=>rput_any fs x ho k (by omega) (by omega) hxl s (join_le _ _ (by omega) (by omega) hj))
theorem pair_resize (hr:RcM W g x) (hj:x.jn.length <= 60) (hxl:x.l.length <= 1000) (hln:Lib.lens x.l <= 65536) (n:Int) :
    PairP w W g fs x v 12 #[.pointer (some ⟨g,0,none⟩),.int .i64 n] 13 #[recV fs x v,.int .i64 n]:=by
 by_cases hw:wrongN n
 ·refine ⟨x,errV (wrongC n),wrongC n,wrongC_ok hw,⟨rfl,rfl,rfl,rfl,rfl⟩,hxl,hln,(resize_out hr n hw).mono fun e W1 hp=>?_,fun W1 ho=>(rresize_out fs x ho n hw).mono fun e W2 hp=>?_⟩
  ·obtain ⟨he,rfl⟩:=hp;exact ⟨he,hr,Fr.refl _ _⟩
  obtain ⟨A,c,rfl⟩:=own_slice ho;exact ⟨A,c,hp.1,Own.fr ho hp.2 (by simp),hp.2⟩
 unfold wrongN at hw;obtain ⟨k,rfl⟩:∃ k:Nat,n=(k:Int):=⟨n.toNat,by omega⟩;have hpl:=pad_len x.l k;have hps:=pad_lens x.l k;have hm:x.jn.length * k <= 60 * 1000:=Nat.mul_le_mul hj (by omega);exact pair_made hr (by omega) hxl hln (resize_any hr k (by omega) (by omega)) (fun W1 ho=>rresize_any fs x ho k (by omega) (join_le _ _ (by omega) (by omega) hj))
end
structure PlI (w:World) (g xb:Nat) (fs:List UInt8) (x:Rc) (v:Value) (W:World):Prop where
 g0:w.heap.size <= g
 x0:w.heap.size <= xb
 rc:RcM W g x
 sp:SepOk W x
 fo:FsOk fs x.fl
 rb:Bk W xb 29 (recC fs x v)
 ow:OwnL W v x.l
 fr:Fr [] w W
 jn:x.jn.length <= 60
 nl:x.l.length <= 1000
 ln:Lib.lens x.l <= 65536
section
variable {w W W1 W2 W3:World} {g xb:Nat} {fs fs':List UInt8} {x y:Rc} {v u:Value}
theorem PlI.fr_nil (h:PlI w g xb fs x v W) (hf:Fr [] W W1):PlI w g xb fs x v W1:=
 ⟨h.g0,h.x0,h.rc.fr_nil hf,h.sp.fr_nil hf,h.fo,h.rb.fr hf (by simp),Own.fr h.ow hf (by simp),h.fr.trans hf,h.jn,h.nl,h.ln⟩
theorem PlI.ne (h:PlI w g xb fs x v W):xb ≠ g:=by
 obtain ⟨_,hb,-⟩:=h.rc;exact h.rb.ne_ hb (by decide)
theorem PlI.gstep (h:PlI w g xb fs x v W) (hf:Fr [g] W W1):Bk W1 xb 29 (recC fs x v)/\OwnL W1 v x.l/\Fr [] w W1:=by
 obtain ⟨_,hb,-⟩:=h.rc;refine ⟨h.rb.fr hf (by simpa using h.ne),Own.fr h.ow hf (fun k hk=>?_),h.fr.trans' hf (fun q hq => .inr (by have:=h.g0;simp at hq;omega))⟩;have:=Own.ne_bk h.ow hb (by decide);simp;rintro rfl;exact this hk
theorem PlI.sepS (h:PlI w g xb fs x v W) (hg:GlobOk w) (hf:Fr [g] W W1):SepOk W1 x:=h.sp.fr_rec h.rc (hg.fr (h.gstep hf).2.2) hf
theorem sep_same (h:SepOk W x) (e:y.kind=x.kind/\y.c=x.c/\y.f=x.f/\y.fl=x.fl):SepOk W y:=by
 obtain ⟨e1,e2,e3,e4⟩:=e;unfold SepOk at h ⊢; rw [e1,e2,e3,e4];exact h
theorem PlI.make (h:PlI w g xb fs x v W) (hg:GlobOk w) (h1:RcM W1 g y) (f1:Fr [g] W W1) (f2:Fr [] W1 W2) (hb:Bk W3 xb 29 (recC fs' y u)) (f3:Fr [xb] W2 W3) (ho:OwnL W2 u y.l) (hs:SepOk W1 y) (hfs:FsOk fs' y.fl)
    (hj:y.jn.length <= 60) (hnl:y.l.length <= 1000) (hln:Lib.lens y.l <= 65536):PlI w g xb fs' y u W3:=by
 obtain ⟨b1,-, fw⟩:=h.gstep f1;have b2:=b1.fr f2 (by simp);have fw3:Fr [] w W3:=(fw.trans f2).trans' f3 (fun q hq => .inr (by have:=h.x0;simp at hq;omega));obtain ⟨vv,hb1,hb2⟩:=h1.fr_nil f2;refine ⟨h.g0,h.x0,⟨vv,hb1.fr f3 (by simpa using Ne.symm h.ne),Own.fr hb2 f3 (fun k hk=>?_)⟩,?_,hfs,hb,Own.fr ho f3 (fun k hk=>?_),fw3,hj,hnl,hln⟩
 ·have:=Own.ne_bk hb2 b2 (by decide);simp;rintro rfl;exact this hk
 ·rcases hs.fr_nil f2 with q | ⟨q1,-, q2⟩ | q | ⟨q1,lo,fb,L,q2,q3,q4⟩
  ·exact .inl q
  ·exact .inr (.inl ⟨q1,hg.fr fw3,q2⟩)
  ·exact .inr (.inr (.inl q))
  have hoff:∀ b ∈ [xb],∃ t cs,Bk W2 b t cs/\t ≠ 96/\t ≠ 142:=fun b hm=>by
   rw [List.mem_singleton.1 hm];exact ⟨_,_,b2,by decide,by decide⟩
  exact .inr (.inr (.inr ⟨q1,lo,fb,L,q2,finder_off q3 f3 hoff,q4⟩))
 have:=Own.ne_bk ho b2 (by decide);simp;rintro rfl;exact this hk
end
def ErrIs (W:World) (ev:Value) (code:Int):Prop:=ErrN ev code ∨ ∃ p,FaultV W ev p code/\1 <= code/\code <= 25
theorem code_is {W:World} {ev:Value} {code:Int} (h:ErrIs W ev code):Calls prog 16 #[ev] W fun e w'=>e = .returned (.int .i64 code)/\W=w':=by
 rcases h with (⟨rfl,rfl⟩ | ⟨rfl,h1,h2⟩) | ⟨p,h,h1,h2⟩
 ·exact code_nil W
 ·exact code_errno code W h1 h2
 exact code_fault h h1 h2
theorem ErrIs.fr {W W':World} {ev:Value} {code:Int} (h:ErrIs W ev code) (hf:Fr [] W W'):ErrIs W' ev code:=by
 rcases h with h | ⟨p,⟨b,e,hb⟩,h1⟩
 ·exact .inl h
 exact .inr ⟨p,⟨b,e,hb.fr hf (by simp)⟩,h1⟩
end Go.Proofs.YtfofechcccodeaaGreatDoor.F
namespace Go.Proofs.YtfofechcccodeaaGreatDoor.F
open Go.RowKit Go.Proofs.Tryz
set_option linter.unusedVariables false
set_option linter.unusedSimpArgs false
theorem join_any {w:World} {r:Nat} {x:Rc} (h:RcM w r x) (s:List UInt8):Calls prog 18 #[.pointer (some ⟨r,0,none⟩),.string ⟨s.toArray⟩] w fun e w'=>e = .returned (.tuple #[])/\RcM w' r { x with jn:=s }/\Fr [r] w w':=by
 obtain ⟨v,h⟩:=h;obtain ⟨-, -, -, d3,-, -⟩:=rc_cells h.1;have f3:=h.1.frozen 3;have H:=zh h;clear h;go_enter func18,ntmps18
 go_wp2_with fail
 go_end0
 have hf:Fr [r] w (w.setCell ⟨r,3,none⟩ (.string ⟨s.toArray⟩)):=(Fr.refl _ _).setCell (.inl (by simp)) _;exact ⟨rfl,⟨v,H.out.fr_put hf (H.out.1.put 3 _) H.out.2⟩,hf⟩
end Go.Proofs.YtfofechcccodeaaGreatDoor.F
