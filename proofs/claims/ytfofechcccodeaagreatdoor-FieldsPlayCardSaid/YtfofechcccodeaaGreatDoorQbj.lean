/-
  Small texts in one (Hr1). No conditions.
-/
import Derived.Test.YtfofechcccodeaaGreatDoorQbg
import Derived.Test.YtfofechcccodeaaGreatDoorQbi
namespace Go.Proofs.YtfofechcccodeaaGreatDoor.F
open Go.RowKit Go.Proofs.Tryz
set_option linter.unusedVariables false
set_option linter.unusedSimpArgs false
set_option maxRecDepth 100000
set_option maxHeartbeats 2000000
def recC (fs:List UInt8) (x:Rc) (v:Value):Array Value:=#[.string ⟨fs.toArray⟩,.string ⟨x.jn.toArray⟩,.string ⟨x.text.toArray⟩,v]
def recV (fs:List UInt8) (x:Rc) (v:Value):Value := .agg (recC fs x v)
theorem rec_row {w:World} {b:Nat} {fs:List UInt8} {x:Rc} {v:Value} (h:Bk w b 29 (recC fs x v)) :
    w.cell? ⟨b,0,none⟩=some (.string ⟨fs.toArray⟩)/\w.cell? ⟨b,1,none⟩=some (.string ⟨x.jn.toArray⟩)/\w.cell? ⟨b,2,none⟩=some (.string ⟨x.text.toArray⟩)/\w.cell? ⟨b,3,none⟩=some v:=
 ⟨h.cell_ rfl,h.cell_ rfl,h.cell_ rfl,h.cell_ rfl⟩
theorem rec_end {fn:Func} {p u:Nat} (h:fn.results=#[.cell p 29,.tmp u]) {wq:World} {b:Nat} {fs:List UInt8} {x:Rc} {v E:Value} {tmps:Array Value} {R:Ending->World->Prop} (hb:Bk wq b 29 (recC fs x v))
    (hp:tmps.getD p undef = .pointer (some ⟨b,0,none⟩)) (hE:tmps.getD u undef=E) (hR:R (.returned (.tuple #[recV fs x v,E])) wq):bodyPost prog fn R .ret { tmps:=tmps,defers:=[] } wq:=by
 obtain ⟨r0,r1,r2,r3⟩:=rec_row hb;refine bodyPost_ret (v := .tuple #[recV fs x v,E]) ?_ rfl hR;rw [results_cell_tmp h];clear hb;rw [<-hE];unfold recV recC;have hp':tmps[p]?.getD undef = .pointer (some ⟨b,0,none⟩):=by simpa using hp
 go_simp
 all_goals first | done | rfl
theorem rnew_any (w:World):Calls prog 7 #[] w fun e w'=>e = .returned (recV [32] newRc (.slice none 0 0))/\Fr [] w w':=by
 go_enter func7,ntmps7
 go_wp2_with fail
 refine ret_row (R:=fun e w'=>e = .returned (recV [32] newRc (.slice none 0 0))/\Fr [] w w') (t:=29) (by rfl) w.heap.size (recC [32] newRc (.slice none 0 0)).toList _ (by rfl) (Bk.new w _ _) underlying29 rfl (by kernel_rfl) rfl ?_;exact ⟨rfl,(Fr.refl [] w).alloc _⟩
theorem rget_any {w:World} (fs:List UInt8) (x:Rc) {v:Value} (ho:OwnL w v x.l) (i:Int):Calls prog 21 #[recV fs x v,.int .i64 i] w fun e w'=>e = .returned (.string ⟨(getM x.text x.l i).toArray⟩)/\Fr [] w w':=by
 obtain ⟨A,cap,rfl,hcap,hmx,-⟩:=OwnL.val ho;unfold maxLen at hmx;have hf0:Fr [] w (w.alloc (.cells #[.string ⟨fs.toArray⟩,.string ⟨x.jn.toArray⟩,.string ⟨x.text.toArray⟩,.slice A x.l.length cap] 29)):=(Fr.refl [] w).alloc _;have HF:=zh hf0;clear hf0;unfold recV recC;by_cases h0:i=0
 ·subst h0;clear ho;go_enter func21,ntmps21
  go_wp2_with fail
  go_ret
  exact ⟨rfl,HF.out⟩
 have t0:(i == 0)=false:=by simpa using h0
 by_cases hn:i < 0
 ·have t1:decide (i < 0)=true:=by simpa using hn
  have e:getM x.text x.l i=[]:=by unfold getM;rw [if_neg h0,if_pos hn]
  rw [e];clear ho;go_enter func21,ntmps21
  go_wp2_with fail
  go_ret
  exact ⟨rfl,HF.out⟩
 have t1:decide (i < 0)=false:=by simpa using hn
 obtain ⟨j,rfl⟩:∃ j:Nat,i=(j:Int)+1:=⟨(i - 1).toNat,by omega⟩
 have e:getM x.text x.l ((j:Int)+1)=x.l.getD j []:=by
  have:=getM_nat x.text x.l (j+1) (by omega)
  simpa using this
 rw [e];by_cases hj:j < x.l.length
 ·have t2:decide ((x.l.length:Int) < (j:Int)+1)=false:=by simp;omega
  obtain ⟨b,off,rfl,hc⟩:=OwnL.cell ho hj;have hc':∀ O,(w.alloc O).cell? ⟨b,off+j,none⟩=some (.string ⟨(x.l.getD j []).toArray⟩):=fun O=>by rw [World.cell?_alloc_some w _ O (by rw [hc];rfl)];exact hc
  have hwr:IntKind.i64.wrap ((j:Int)+1 - 1)=(j:Int):=by rw [show (j:Int)+1 - 1=(j:Int) by omega,IntKind.wrap_i64];omega
  clear ho e;go_enter func21,ntmps21
  go_wp2_with fail
  go_ret
  exact ⟨rfl,HF.out⟩
 have t2:decide ((x.l.length:Int) < (j:Int)+1)=true:=by simp;omega
 have e2:x.l.getD j []=[]:=by rw [List.getD_eq_getElem?_getD,List.getElem?_eq_none (by omega)];rfl
 rw [e2];clear ho e e2;go_enter func21,ntmps21
 go_wp2_with fail
 go_ret
 exact ⟨rfl,HF.out⟩
theorem join_take (l:List (List UInt8)) (s:List UInt8) (i:Nat) (h:i < l.length):Lib.join (l.take (i+1)) s=(if 0 < i then Lib.join (l.take i) s ++ s else []) ++ l.getD i []:=by
 cases l with
 | nil=>simp at h
 | cons a r=>
  cases i with
  | zero=>simp [Lib.join_cons,Lib.joinTail]
  | succ i=>
   rw [List.take_succ_cons,Lib.join_cons,if_pos (by omega),List.take_succ_cons,Lib.join_cons];have h2:i < r.length:=by simpa using h
   have e:r.take (i+1)=r.take i ++ [r.getD i []]:=by rw [List.take_add_one,List.getElem?_eq_getElem h2,List.getD_eq_getElem?_getD,List.getElem?_eq_getElem h2];rfl
   rw [e]
   have e3:∀ (p q:List (List UInt8)),Lib.joinTail s (p ++ q)=Lib.joinTail s p ++ Lib.joinTail s q:=by
    intro p q
    induction p with
    | nil=>simp [Lib.joinTail]
    | cons y p ih=>simp [Lib.joinTail]
   rw [e3];simp [Lib.joinTail]
theorem join_take_le (l:List (List UInt8)) (s:List UInt8) (i:Nat) (h:i <= l.length):(Lib.join (l.take i) s).length <= (Lib.join l s).length:=by
 rw [join_len,join_len,List.length_take];have h1:=Lib.lens_take_le l i;have h2:s.length * (min i l.length - 1) <= s.length * (l.length - 1):=Nat.mul_le_mul_left _ (by omega);omega
def JnRel (w:World) (l:List (List UInt8)) (s:List UInt8) (v5 v6:Value) (wr:World):Prop:=∃ i:Nat,v6 = .int .i64 (i:Int)/\i <= l.length/\v5 = .string ⟨(Lib.join (l.take i) s).toArray⟩/\w=wr
theorem rjoin_any {w:World} {v:Value} {l:List (List UInt8)} (ho:OwnL w v l) (s:List UInt8) (hl:l.length <= 1000000) (hb:(Lib.join l s).length <= 1000000000) :
    Calls prog 38 #[v,.string ⟨s.toArray⟩] w fun e w'=>e = .returned (.string ⟨(Lib.join l s).toArray⟩)/\w=w':=by
 obtain ⟨A,cap,rfl,hcap,hmx,-⟩:=OwnL.val ho;obtain ⟨n,hn⟩:∃ n,n=l.length:=⟨_,rfl⟩;rw [<-hn] at ho hl ⊢; have HO:=zh ho;have HN:=zh hn;clear ho hmx hcap hn;go_enter func38,ntmps38
 go_wp2_with fail
 go_loopw [5,6] (JnRel w l s) (fun _ v6 _=>n - (intOf v6).toNat)
 case atStart=>exact ⟨0,rfl,by omega,by simp [Lib.join_nil],rfl⟩
 case round=>
  obtain ⟨i,rfl,hi,rfl,rfl⟩:=hrel;have hi':i <= n:=by have:=HN.out;omega
  clear hi;by_cases hlt:i < n
  ·obtain ⟨b,off,rfl,hc⟩:=OwnL.cell HO.out (j:=i) (by have:=HN.out;omega);have hjt:=join_take l s i (by have:=HN.out;omega);have hle:=join_take_le l s (i+1) (by have:=HN.out;omega);have hlq:=congrArg List.length hjt;rw [List.length_append] at hlq;obtain ⟨el,hel⟩:∃ el,el=l.getD i []:=⟨_,rfl⟩;rw [<-hel] at hc hjt;rw [<-hel] at hlq;clear hel;obtain ⟨S0,hS0⟩:∃ S,S=(⟨(Lib.join (l.take i) s).toArray⟩:ByteArray):=⟨_,rfl⟩;obtain ⟨S1,hS1⟩:∃ S,S=(⟨s.toArray⟩:ByteArray):=⟨_,rfl⟩;obtain ⟨S2,hS2⟩:∃ S,S=(⟨el.toArray⟩:ByteArray):=⟨_,rfl⟩
   have hsum:(⟨(Lib.join (l.take (i+1)) s).toArray⟩:ByteArray)=if 0 < i then S0 ++ S1 ++ S2 else S2:=by
    rw [hjt,hS0,hS1,hS2];by_cases h0:0 < i
    ·rw [if_pos h0,if_pos h0];simp [ba_append]
    rw [if_neg h0,if_neg h0];simp
   have z2:S2.size <= 1000000000:=by rw [hS2];show el.toArray.size <= _;rw [List.size_toArray];omega
   rw [<-hS0,<-hS1];rw [<-hS2] at hc;have HSUM:=zh hsum;clear hsum hle;by_cases h0:0 < i
   ·have t0:decide ((0:Int) < (i:Int))=true:=decide_eq_true (by omega);have t0':decide (0 < i)=true:=decide_eq_true h0;rw [if_pos h0,List.length_append] at hlq;have hle:=join_take_le l s (i+1) (by have:=HN.out;omega);have z0:S0.size <= 1000000000:=by rw [hS0];show (Lib.join (l.take i) s).toArray.size <= _;rw [List.size_toArray];omega
    have z1:S1.size <= 1000000000:=by rw [hS1];show s.toArray.size <= _;rw [List.size_toArray];omega
    have z3:(S0 ++ S1).size <= 2000000000:=by rw [ByteArray.size_append];omega
    have H0:=zh h0;clear hjt h0 hle hlq hS0 hS1 hS2;go_wp2_with fail
    go_roundw
    case rel=>exact ⟨i+1,by go_num,by have:=HN.out;omega,by rw [HSUM.out,if_pos H0.out],rfl⟩
    case measure=>simp [intOf] <;> omega
   have t0:decide ((0:Int) < (i:Int))=false:=decide_eq_false (by omega);have t0':decide (0 < i)=false:=decide_eq_false h0;obtain rfl:i=0:=by omega
   have e0:S0=ByteArray.empty:=by rw [hS0];simp [Lib.join_nil];rfl
   rw [Nat.add_zero] at hc;have H0:=zh h0;clear hjt h0 hlq hS1 hS2 hS0;subst e0;go_wp2_with fail
   go_roundw
   case rel=>exact ⟨0+1,by go_num,by have:=HN.out;omega,by rw [HSUM.out,if_neg H0.out],rfl⟩
   case measure=>simp [intOf] <;> omega
  obtain rfl:i=n:=by omega
  rw [List.take_of_length_le (by have:=HN.out;omega)];go_wp2_with fail
  go_ret
  exact ⟨rfl,rfl⟩
def RMadeP (w:World) (fs:List UInt8) (x:Rc) (v:Value) (l:List (List UInt8)) (u:Value) (e:Ending) (w':World):Prop:=
 Fr [] w w'/\((65536 < (Lib.join l x.jn).length/\e = .returned (.tuple #[recV fs x v,.int .i64 13])) ∨ ((Lib.join l x.jn).length <= 65536/\e = .returned (.tuple #[recV fs { x with text:=Lib.join l x.jn,l:=l } u,.int .i64 0])))
structure RB (w:World) (g h:Nat) (fs:List UInt8) (x:Rc) (v:Value) (w1:World):Prop where
 g0:w.heap.size <= g
 gh:g < h
 b1:Bk w1 g 29 (recC fs x v)
 b2:Bk w1 h 29 #[.string ⟨#[]⟩,.string ⟨#[]⟩,.string ⟨#[]⟩,.slice none 0 0]
 fr:Fr [] w w1
theorem RB.new (w:World) (fs:List UInt8) (x:Rc) (v:Value) (w1:World) (hw:w1=(w.alloc (.cells (recC fs x v) 29)).alloc (.cells #[.string ⟨#[]⟩,.string ⟨#[]⟩,.string ⟨#[]⟩,.slice none 0 0] 29)):RB w w.heap.size (w.heap.size+1) fs x v w1:=by
 subst hw;refine ⟨Nat.le_refl _,Nat.lt_succ_self _,(Bk.new w _ _).alloc _,?_,((Fr.refl [] w).alloc _).alloc _⟩;have:=Bk.new (w.alloc (.cells (recC fs x v) 29)) 29 #[.string ⟨#[]⟩,.string ⟨#[]⟩,.string ⟨#[]⟩,.slice none 0 0]
 simpa using this
theorem RB.fr_nil {w w1 w2:World} {g h:Nat} {fs:List UInt8} {x:Rc} {v:Value} (b:RB w g h fs x v w1) (hf:Fr [] w1 w2):RB w g h fs x v w2:=⟨b.g0,b.gh,b.b1.fr hf (by simp),b.b2.fr hf (by simp),b.fr.trans hf⟩
theorem rec_size:(prog.info? 29).map (·.size)=some 4:=by kernel_rfl
theorem RB.ends {w w1 w2 w3:World} {g h:Nat} {fs:List UInt8} {x:Rc} {v:Value} (b:RB w g h fs x v w1) (hf:Fr [g] w1 w2) (hg:Fr [h] w2 w3):Fr [] w w3:=
 (b.fr.trans' hf (fun q hq => .inr (by have:=b.g0;simp at hq;omega))).trans' hg (fun q hq => .inr (by have:=b.gh;have:=b.g0;simp at hq;omega))
theorem RB.two {w w1 w2:World} {g h:Nat} {fs:List UInt8} {x:Rc} {v:Value} (b:RB w g h fs x v w1) (hf:Fr [g] w1 w2):Bk w2 h 29 #[.string ⟨#[]⟩,.string ⟨#[]⟩,.string ⟨#[]⟩,.slice none 0 0]:=b.b2.fr hf (by have:=b.gh;simp;omega)
theorem rmade_any {w:World} (fs:List UInt8) (x:Rc) {v:Value} (ov:OwnL w v x.l) {u:Value} {l:List (List UInt8)} (ho:OwnL w u l) (hl:l.length <= 1000000) (hb:(Lib.join l x.jn).length <= 1000000000) :
    Calls prog 26 #[recV fs x v,u] w (RMadeP w fs x v l u):=by
 obtain ⟨A,cap,rfl,-, -, -⟩:=OwnL.val ho;obtain ⟨B,bcap,rfl,-, -, -⟩:=OwnL.val ov;obtain ⟨PP,hPP⟩:∃ PP,PP=RMadeP w fs x (.slice B x.l.length bcap) l (.slice A l.length cap):=⟨_,rfl⟩;rw [<-hPP];have HP:=zh hPP;clear hPP ov;go_enter func26,ntmps26
 unfold recV recC;go_upto_region 1 with fail
 obtain ⟨w1,hw1⟩:∃ w1,w1=(w.alloc (.cells (recC fs x (.slice B x.l.length bcap)) 29)).alloc (.cells #[.string ⟨#[]⟩,.string ⟨#[]⟩,.string ⟨#[]⟩,.slice none 0 0] 29):=⟨_,rfl⟩;have hrb:=RB.new w fs x (.slice B x.l.length bcap) w1 hw1;obtain ⟨h,hh⟩:∃ h,h=w.heap.size+1:=⟨_,rfl⟩;obtain ⟨g,hg⟩:∃ g,g=w.heap.size:=⟨_,rfl⟩;unfold recC at hw1;rw [<-hw1,<-hh,<-hg];rw [<-hh,<-hg] at hrb;have hgh:g ≠ h:=by omega
 have hhg:h ≠ g:=by omega
 clear hw1 hg hh;have ho1:=Own.fr ho hrb.fr (by simp);obtain ⟨c0,c1,c2,c3⟩:=rec_row hrb.b1;have hj:=rjoin_any ho1 x.jn hl hb;obtain ⟨tx,htx⟩:∃ tx,tx=Lib.join l x.jn:=⟨_,rfl⟩;obtain ⟨n,hn⟩:∃ n,n=tx.length:=⟨_,rfl⟩;have hts:(⟨tx.toArray⟩:ByteArray).size=n:=by rw [ba_size,hn]
 rw [<-htx] at hj;obtain ⟨TX,hTX⟩:∃ S,S=(⟨tx.toArray⟩:ByteArray):=⟨_,rfl⟩;rw [<-hTX] at hj hts;have HJ:=zh hj;have HRB:=zh hrb;have HTX:=zh hTX;have HT2:=zh htx;have HN:=zh hn;clear hj hrb htx ho ho1 hn hb hTX;go_upto_region 2 with (go_at_call 38;refine HJ.out.mono ?_;rintro e w2 ⟨rfl,rfl⟩)
 have k2:=HRB.out.b1.frozen 2;have k3:=HRB.out.b1.frozen 3;by_cases hbig:65536 < n
 ·have t1:decide ((65536:Int) < (n:Int))=true:=decide_eq_true (by omega);have HB:=zh hbig;clear hbig k2 k3;have HZ:=zh (HRB.out.two (Fr.refl _ _));go_wp2_with (refine wpList_store_bkA rfl 29 _ _ rfl h _ rfl rfl _ _ HZ.out rec_size (by first | rfl | simp) (by simp [Value.oneCell']) ?_;intro w9 hb9 hf9;have HB9:=zh hb9;have HF9:=zh hf9;clear hb9 hf9)
  refine rec_end (fs:=fs) (x:=x) (v := .slice B x.l.length bcap) (by rfl) HB9.out (by rfl) (by rfl) ?_;rw [HP.out];exact ⟨HRB.out.ends (Fr.refl _ _) HF9.out,.inl ⟨by rw [<-HT2.out,<-HN.out];exact HB.out,rfl⟩⟩
 have t1:decide ((65536:Int) < (n:Int))=false:=decide_eq_false (by omega);have HB:Hid (n <= 65536):=zh (by omega);clear hbig;go_upto_region 6 with fail
 obtain ⟨w3,hw3⟩:∃ w3,w3=(w1.setCell ⟨g,3,none⟩ (.slice A l.length cap)).setCell ⟨g,2,none⟩ (.string TX):=⟨_,rfl⟩;have hf3:Fr [g] w1 w3:=by rw [hw3];exact ((Fr.refl [g] w1).setCell (.inl (by simp)) _).setCell (.inl (by simp)) _
 have hb3:Bk w3 g 29 #[.string ⟨fs.toArray⟩,.string ⟨x.jn.toArray⟩,.string TX,.slice A l.length cap]:=by rw [hw3];exact (HRB.out.b1.put 3 _).put 2 _
 rw [<-hw3];have d0:=hb3.cell_ (i:=0) rfl;have d1:=hb3.cell_ (i:=1) rfl;have d2:=hb3.cell_ (i:=2) rfl;have d3:=hb3.cell_ (i:=3) rfl;have HZ:=zh (HRB.out.two hf3);have HF3:=zh hf3;clear hw3 hf3 hb3 c0 c1 c2 c3 k2 k3 t1;go_wp2_with (refine wpList_store_bkA rfl 29 _ _ rfl h _ rfl rfl _ _ HZ.out rec_size (by first | rfl | simp) (by simp [Value.oneCell']) ?_;intro w9 hb9 hf9;have HB9:=zh hb9;have HF9:=zh hf9;clear hb9 hf9)
 have hb9:=HB9.out;rw [HTX.out,HT2.out] at hb9;refine rec_end (fs:=fs) (x:={ x with text:=Lib.join l x.jn,l:=l }) (v := .slice A l.length cap) (by rfl) hb9 (by rfl) (by rfl) ?_;rw [HP.out];exact ⟨HRB.out.ends HF3.out HF9.out,.inr ⟨by rw [<-HT2.out,<-HN.out];exact HB.out,rfl⟩⟩
end Go.Proofs.YtfofechcccodeaaGreatDoor.F
