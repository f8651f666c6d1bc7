/-
  Small texts in one (Bracket, ErN). No conditions.
-/
import Derived.Test.YtfofechcccodeaaGreatDoorQar
import Derived.Test.YtfofechcccodeaaGreatDoorQac
namespace Go.Proofs.YtfofechcccodeaaGreatDoor
open Go.RowKit Go.Proofs.Tryz
set_option linter.unusedVariables false
set_option linter.unusedSimpArgs false
set_option maxRecDepth 100000
set_option maxHeartbeats 4000000
def brkL (bs:List UInt8) (first:Nat):Nat->Nat->S4->Except (Nat × Nat) (S4 × Nat)
 | 0,nx,S => .ok (S,nx)
 | k+1,nx,S=>
  if nx=first ∨ bs.length <= nx ∨ bn bs nx ≠ 93 then
   match memberS bs nx with
   | .error p => .error p
   | .ok (m,n)=>brkL bs first k n (S.or m)
  else .ok (S,nx)
def brkE (neg:Bool) (i:Nat):Except (Nat × Nat) (S4 × Nat)->Except (Nat × Nat) (S4 × Nat)
 | .error p => .error p
 | .ok (S,n) => .ok (if neg then S.not else S,n+1 - i)
def bracketS (bs:List UInt8) (i:Nat):Except (Nat × Nat) (S4 × Nat):=
 if i+1 < bs.length/\bn bs (i+1)=94 then brkE true i (brkL bs (i+2) (bs.length+1) (i+2) S4.empty)
 else brkE false i (brkL bs (i+1) (bs.length+1) (i+1) S4.empty)
theorem index_end (a b:UInt8) (l:List UInt8) (h:0 <= Lib.index l [a,b]):Lib.index l [a,b]+2 <= l.length:=by
 induction l with
 | nil=>simp [Lib.index] at h
 | cons x l ih=>
  unfold Lib.index at h ⊢; split
  ·rename_i hp
   cases l with
   | nil=>simp [List.isPrefixOf] at hp
   | cons y l=>simp;omega
  rename_i hp
  rw [if_neg hp] at h;split
  ·rename_i h2;rw [if_pos h2] at h;omega
  rename_i h2
  rw [if_neg h2] at h;have h3 : -1 <= Lib.index l [a,b]:=(index_bd _ _).1;have h4:Lib.index l [a,b] ≠ -1:=by simpa using h2
  have:=ih (by omega);simp;omega
theorem memberS_ok {bs:List UInt8} {i n:Nat} {R:S4} (h:memberS bs i = .ok (R,n)):R.ok/\i < n/\n <= bs.length:=by
 unfold memberS at h;split at h
 ·rename_i ho
  have hi2:i+2 <= bs.length:=by unfold opensS at ho;simp at ho;omega
  split at h
  ·cases h
  rename_i hx
  have he:=index_end 58 93 (bs.drop (i+2)) (by omega);rw [List.length_drop] at he;split at h
  ·cases h
  rename_i R' hR
  injection h with h;injection h with h1 h2;subst h1 h2
  exact ⟨classS_ok _ _ hR,by omega,by omega⟩
 split at h
 ·cases h
 rename_i f nx hs
 have h1:=singleS_lt hs;split at h
 ·injection h with h;injection h with h2 h3;subst h2 h3
  exact ⟨S4.range_ok _ _,by omega,by omega⟩
 split at h
 ·cases h
 split at h
 ·cases h
 rename_i t nx2 hs2
 have h4:=singleS_lt hs2;split at h
 ·cases h
 injection h with h;injection h with h2 h3;subst h2 h3
 exact ⟨S4.range_ok _ _,by omega,by omega⟩
theorem Bk.far4 {w:World} {g h:Nat} {t:TypeId} {cs:Array Value} (k:Bk w g t cs) (hp:g ≠ h) (x0 x1 x2 x3:Value):Bk ((((w.setCell ⟨h,0,none⟩ x0).setCell ⟨h,1,none⟩ x1).setCell ⟨h,2,none⟩ x2).setCell ⟨h,3,none⟩ x3) g t cs:=
 (((k.far hp _).far hp _).far hp _).far hp _
theorem body_gen {P:Program} {f:Func} {post:Ending->World->Prop} {ex:Exit} {a:Act} {w:World} (h:∀ W,W=w->bodyPost P f post ex a W):bodyPost P f post ex a w:=h w rfl
def BrkRel (w:World) (bs:List UInt8) (first:Nat) (r:Except (Nat × Nat) (S4 × Nat)) (e nx m:Value) (wr:World):Prop:=
 ∃ (n k:Nat) (S:S4),nx = .int .i64 (n:Int)/\e = .nilIface/\n <= bs.length/\first <= n/\bs.length < n+k/\S.ok/\brkL bs first k n S=r/\Fr [] w wr/\Bk wr w.heap.size 86 S.cells
theorem bracket_plain {w:World} {A:Option Addr} {bs:List UInt8} {c:Nat} (h:Bytes w A bs) (i:Nat) (hl:bs.length <= 1000000000) (hi:i+1 < bs.length) (hc:bs.length <= c) (hA:A=none->c=0) (hcm:c <= maxLen) (hg:GlobOk w) (h91:bn bs i=91) (h94:bn bs (i+1) ≠ 94) :
    Calls prog 115 #[.slice A bs.length c,.int .i64 (i:Int)] w (MemberPost w (brkE false i (brkL bs (i+1) (bs.length+1) (i+1) S4.empty))):=by
 generalize hr:brkL bs (i+1) (bs.length+1) (i+1) S4.empty=r
 have HR:=zh hr;clear hr;obtain ⟨b,off,rfl,hb,hcs⟩:=byte_at h (i:=i) (by omega);have c0:=hcs i (by omega);have c1:=hcs (i+1) (by omega);rw [h91] at c0;have b1:=bn_lt bs (i+1);have g1:((bn bs (i+1):Int) == 94)=false:=by simp;omega
 have HCS:=zh hcs;have HB:=zh h;clear h hcs h91 h94;go_enter func115,ntmps115
 go_wp2_with fail
 go_loopw [6,7,10] (fun e nx m wr=>BrkRel w bs (i+1) r e nx m wr) (fun _ nx _ _=>bs.length+1 - (intOf nx).toNat)
 case atStart=>exact ⟨i+1,bs.length+1,S4.empty,by go_num,rfl,by omega,by omega,by omega,S4.empty_ok,HR.out,(Fr.refl [] w).alloc _,Bk.new w _ _⟩
 case round=>
  obtain ⟨n,k,S,rfl,rfl,hn,hfn,hkn,hS,hbr,hfr,hbk⟩:=hrel;have HBR:=zh hbr;have HFR:=zh hfr;have HBK:=zh hbk;clear hbr hfr hbk;by_cases hgo:n=i+1 ∨ bs.length <= n ∨ bn bs n ≠ 93
  ·have HGO:=zh hgo;by_cases ha:n=i+1
   ·have t1:((n:Int) == (i:Int)+1)=true:=by simp;omega
    clear ha hgo
    cases hm:memberS bs n with
    | error p=>
     obtain ⟨p,q⟩:=p;have HM:=zh hm
     have hre:r = .error (p,q):=by
      rw [<-HBR.out];obtain ⟨k',rfl⟩:∃ k',k=k'+1:=⟨k - 1,by omega⟩;unfold brkL;rw [if_pos HGO.out,hm]
     have HRE:=zh hre;clear hm hre;go_wp2_with fail
     go_at_call 126
     refine (member_any (At.alloc (At.fr_nil HB.out HFR.out) _) n hl hn hc hA hcm (hg.fr (HFR.out.alloc _))).mono ?_;rintro e w1 hp;rw [HM.out] at hp;obtain ⟨v,rfl,⟨fg,rfl,hfb⟩,hf1⟩:=hp;have HV:=zh (show FaultV w1 _ (p:Int) (q:Int) from ⟨fg,rfl,hfb⟩);have HK1:=zh ((Bk.alloc HBK.out (.cells S4.empty.cells 86)).fr hf1 (by simp));have HM1:=zh (res_cells hf1);have HF1:=zh ((HFR.out.alloc (.cells S4.empty.cells 86)).trans hf1);clear hf1 hfb;obtain ⟨⟨k0,k1,k2,k3⟩,z0,z1,z2,z3⟩:=S4.four HK1.out;obtain ⟨⟨l0,l1,l2,l3⟩,y0,y1,y2,y3⟩:=S4.four HM1.out;have hlt1:=HK1.out.lt;have hlt2:=HM1.out.lt;have hne:w.heap.size < wr.heap.size:=HBK.out.lt;have hne2:w.heap.size ≠ wr.heap.size:=by omega
     unfold S4.val S4.empty;go_wp2_with fail
     refine bodyPost_ret (v := .tuple #[S4.empty.val,.int .i64 0,.iface 74 (.pointer (some ⟨fg,0,none⟩))]) (by simp [results,results115,go_sem,k0,k1,k2,k3,S4.val,S4.empty]) rfl ?_;rw [HRE.out];exact MemberPost.err rfl ((HV.out.four HM1.out _ _ _ _).four (HK1.out.far4 hne2 _ _ _ _) _ _ _ _) (four_set (t:=0) _ _ _ _ (four_set (t:=0) _ _ _ _ HF1.out (by omega)) (Nat.le_refl _))
    | ok p=>
     obtain ⟨R,n'⟩:=p;have HM:=zh hm;have hok:=memberS_ok hm
     have hre:∃ k',bs.length < n'+k'/\brkL bs (i+1) k' n' (S.or R)=r:=by
      rw [<-HBR.out];obtain ⟨k',rfl⟩:∃ k',k=k'+1:=⟨k - 1,by omega⟩;refine ⟨k',by omega,?_⟩
      conv=>rhs;unfold brkL
      rw [if_pos HGO.out,hm]
     obtain ⟨k',hk',hre⟩:=hre;have HRE:=zh hre;clear hm hre;go_wp2_with fail
     go_at_call 126
     refine (member_any (At.alloc (At.fr_nil HB.out HFR.out) _) n hl hn hc hA hcm (hg.fr (HFR.out.alloc _))).mono ?_;rintro e w1 hp;rw [HM.out] at hp;obtain ⟨rfl,hf1⟩:=hp;have HK1:=zh ((Bk.alloc HBK.out (.cells S4.empty.cells 86)).fr hf1 (by simp));have HM1:=zh (res_cells hf1);have HF1:=zh ((HFR.out.alloc (.cells S4.empty.cells 86)).trans hf1);clear hf1;obtain ⟨⟨k0,k1,k2,k3⟩,z0,z1,z2,z3⟩:=S4.four HK1.out;obtain ⟨⟨l0,l1,l2,l3⟩,y0,y1,y2,y3⟩:=S4.four HM1.out;have hlt1:=HK1.out.lt;have hlt2:=HM1.out.lt;have hne:w.heap.size < wr.heap.size:=HBK.out.lt;have hne2:w.heap.size ≠ wr.heap.size:=by omega
     unfold S4.val;go_wp2_with fail
     go_at_call 127
     refine (or_any S R _ hS hok.1).mono ?_;rintro e w3 ⟨rfl,hf3⟩;have HK3:=zh ((HK1.out.far4 hne2 (.int .u64 (R.a:Int)) (.int .u64 (R.b:Int)) (.int .u64 (R.c:Int)) (.int .u64 (R.d:Int))).fr hf3 (by simp));have HF3:=zh ((four_set (t:=0) _ _ _ _ HF1.out (by omega)).trans hf3);clear hf3 k0 k1 k2 k3 z0 z1 z2 z3 l0 l1 l2 l3 y0 y1 y2 y3;obtain ⟨⟨k0,k1,k2,k3⟩,z0,z1,z2,z3⟩:=S4.four HK3.out;have hlt3:=HK3.out.lt;unfold S4.val;go_wp2_with fail
     go_roundw
     case rel=>exact ⟨n',k',S.or R,rfl,rfl,hok.2.2,by omega,hk',S4.or_ok hS hok.1,HRE.out,four_set (t:=0) _ _ _ _ HF3.out (Nat.le_refl _),(((HK3.out.put 0 _).put 1 _).put 2 _).put 3 _⟩
     case measure=>simp [intOf];omega
   have t1:((n:Int) == (i:Int)+1)=false:=by simp;omega
   by_cases hb2:bs.length <= n
   ·clear ha hgo
    cases hm:memberS bs n with
    | error p=>
     obtain ⟨p,q⟩:=p;have HM:=zh hm
     have hre:r = .error (p,q):=by
      rw [<-HBR.out];obtain ⟨k',rfl⟩:∃ k',k=k'+1:=⟨k - 1,by omega⟩;unfold brkL;rw [if_pos HGO.out,hm]
     have HRE:=zh hre;clear hm hre;go_wp2_with fail
     go_at_call 126
     refine (member_any (At.alloc (At.fr_nil HB.out HFR.out) _) n hl hn hc hA hcm (hg.fr (HFR.out.alloc _))).mono ?_;rintro e w1 hp;rw [HM.out] at hp;obtain ⟨v,rfl,⟨fg,rfl,hfb⟩,hf1⟩:=hp;have HV:=zh (show FaultV w1 _ (p:Int) (q:Int) from ⟨fg,rfl,hfb⟩);have HK1:=zh ((Bk.alloc HBK.out (.cells S4.empty.cells 86)).fr hf1 (by simp));have HM1:=zh (res_cells hf1);have HF1:=zh ((HFR.out.alloc (.cells S4.empty.cells 86)).trans hf1);clear hf1 hfb;obtain ⟨⟨k0,k1,k2,k3⟩,z0,z1,z2,z3⟩:=S4.four HK1.out;obtain ⟨⟨l0,l1,l2,l3⟩,y0,y1,y2,y3⟩:=S4.four HM1.out;have hlt1:=HK1.out.lt;have hlt2:=HM1.out.lt;have hne:w.heap.size < wr.heap.size:=HBK.out.lt;have hne2:w.heap.size ≠ wr.heap.size:=by omega
     unfold S4.val S4.empty;go_wp2_with fail
     refine bodyPost_ret (v := .tuple #[S4.empty.val,.int .i64 0,.iface 74 (.pointer (some ⟨fg,0,none⟩))]) (by simp [results,results115,go_sem,k0,k1,k2,k3,S4.val,S4.empty]) rfl ?_;rw [HRE.out];exact MemberPost.err rfl ((HV.out.four HM1.out _ _ _ _).four (HK1.out.far4 hne2 _ _ _ _) _ _ _ _) (four_set (t:=0) _ _ _ _ (four_set (t:=0) _ _ _ _ HF1.out (by omega)) (Nat.le_refl _))
    | ok p=>
     obtain ⟨R,n'⟩:=p;have HM:=zh hm;have hok:=memberS_ok hm
     exfalso;omega
   have hcn:=(HFR.out.cell (show (⟨b,off+n,none⟩:Addr).block < w.heap.size from hb) (by simp)).trans (HCS.out n (by omega));have b2:=bn_lt bs n;have g3:(!((bn bs n:Int) == 93))=true:=by simp;omega
   have g4:((bn bs n:Int) != 93)=true:=by simp;omega
   have hblt:b < wr.heap.size:=by have:=HBK.out.lt;omega
   clear ha hgo
   cases hm:memberS bs n with
   | error p=>
    obtain ⟨p,q⟩:=p;have HM:=zh hm
    have hre:r = .error (p,q):=by
     rw [<-HBR.out];obtain ⟨k',rfl⟩:∃ k',k=k'+1:=⟨k - 1,by omega⟩;unfold brkL;rw [if_pos HGO.out,hm]
    have HRE:=zh hre;clear hm hre;go_wp2_with fail
    go_at_call 126
    refine (member_any (At.alloc (At.fr_nil HB.out HFR.out) _) n hl hn hc hA hcm (hg.fr (HFR.out.alloc _))).mono ?_;rintro e w1 hp;rw [HM.out] at hp;obtain ⟨v,rfl,⟨fg,rfl,hfb⟩,hf1⟩:=hp;have HV:=zh (show FaultV w1 _ (p:Int) (q:Int) from ⟨fg,rfl,hfb⟩);have HK1:=zh ((Bk.alloc HBK.out (.cells S4.empty.cells 86)).fr hf1 (by simp));have HM1:=zh (res_cells hf1);have HF1:=zh ((HFR.out.alloc (.cells S4.empty.cells 86)).trans hf1);clear hf1 hfb;obtain ⟨⟨k0,k1,k2,k3⟩,z0,z1,z2,z3⟩:=S4.four HK1.out;obtain ⟨⟨l0,l1,l2,l3⟩,y0,y1,y2,y3⟩:=S4.four HM1.out;have hlt1:=HK1.out.lt;have hlt2:=HM1.out.lt;have hne:w.heap.size < wr.heap.size:=HBK.out.lt;have hne2:w.heap.size ≠ wr.heap.size:=by omega
    unfold S4.val S4.empty;go_wp2_with fail
    refine bodyPost_ret (v := .tuple #[S4.empty.val,.int .i64 0,.iface 74 (.pointer (some ⟨fg,0,none⟩))]) (by simp [results,results115,go_sem,k0,k1,k2,k3,S4.val,S4.empty]) rfl ?_;rw [HRE.out];exact MemberPost.err rfl ((HV.out.four HM1.out _ _ _ _).four (HK1.out.far4 hne2 _ _ _ _) _ _ _ _) (four_set (t:=0) _ _ _ _ (four_set (t:=0) _ _ _ _ HF1.out (by omega)) (Nat.le_refl _))
   | ok p=>
    obtain ⟨R,n'⟩:=p;have HM:=zh hm;have hok:=memberS_ok hm
    have hre:∃ k',bs.length < n'+k'/\brkL bs (i+1) k' n' (S.or R)=r:=by
     rw [<-HBR.out];obtain ⟨k',rfl⟩:∃ k',k=k'+1:=⟨k - 1,by omega⟩;refine ⟨k',by omega,?_⟩
     conv=>rhs;unfold brkL
     rw [if_pos HGO.out,hm]
    obtain ⟨k',hk',hre⟩:=hre;have HRE:=zh hre;clear hm hre;go_wp2_with fail
    go_at_call 126
    refine (member_any (At.alloc (At.fr_nil HB.out HFR.out) _) n hl hn hc hA hcm (hg.fr (HFR.out.alloc _))).mono ?_;rintro e w1 hp;rw [HM.out] at hp;obtain ⟨rfl,hf1⟩:=hp;have HK1:=zh ((Bk.alloc HBK.out (.cells S4.empty.cells 86)).fr hf1 (by simp));have HM1:=zh (res_cells hf1);have HF1:=zh ((HFR.out.alloc (.cells S4.empty.cells 86)).trans hf1);clear hf1;obtain ⟨⟨k0,k1,k2,k3⟩,z0,z1,z2,z3⟩:=S4.four HK1.out;obtain ⟨⟨l0,l1,l2,l3⟩,y0,y1,y2,y3⟩:=S4.four HM1.out;have hlt1:=HK1.out.lt;have hlt2:=HM1.out.lt;have hne:w.heap.size < wr.heap.size:=HBK.out.lt;have hne2:w.heap.size ≠ wr.heap.size:=by omega
    unfold S4.val;go_wp2_with fail
    go_at_call 127
    refine (or_any S R _ hS hok.1).mono ?_;rintro e w3 ⟨rfl,hf3⟩;have HK3:=zh ((HK1.out.far4 hne2 (.int .u64 (R.a:Int)) (.int .u64 (R.b:Int)) (.int .u64 (R.c:Int)) (.int .u64 (R.d:Int))).fr hf3 (by simp));have HF3:=zh ((four_set (t:=0) _ _ _ _ HF1.out (by omega)).trans hf3);clear hf3 k0 k1 k2 k3 z0 z1 z2 z3 l0 l1 l2 l3 y0 y1 y2 y3;obtain ⟨⟨k0,k1,k2,k3⟩,z0,z1,z2,z3⟩:=S4.four HK3.out;have hlt3:=HK3.out.lt;unfold S4.val;go_wp2_with fail
    go_roundw
    case rel=>exact ⟨n',k',S.or R,rfl,rfl,hok.2.2,by omega,hk',S4.or_ok hS hok.1,HRE.out,four_set (t:=0) _ _ _ _ HF3.out (Nat.le_refl _),(((HK3.out.put 0 _).put 1 _).put 2 _).put 3 _⟩
    case measure=>simp [intOf];omega
  have hre:r = .ok (S,n):=by
   rw [<-HBR.out];obtain ⟨k',rfl⟩:∃ k',k=k'+1:=⟨k - 1,by omega⟩;unfold brkL;rw [if_neg hgo]
  have HRE:=zh hre;clear hre;have t1:((n:Int) == (i:Int)+1)=false:=by simp;omega
  have hcn:=(HFR.out.cell (show (⟨b,off+n,none⟩:Addr).block < w.heap.size from hb) (by simp)).trans (HCS.out n (by omega));have h93:bn bs n=93:=by omega
  have hn2:n < bs.length:=by omega
  rw [h93] at hcn;have hblt:b < wr.heap.size:=by have:=HBK.out.lt;omega
  have hv:((n:Int)+1 - (i:Int))=((n+1 - i:Nat):Int):=by omega
  have HVV:=zh hv;obtain ⟨⟨k0,k1,k2,k3⟩,z0,z1,z2,z3⟩:=S4.four HBK.out;have hlt:=HBK.out.lt;clear hgo h93 hv;go_wp2_with fail
  refine bodyPost_ret (v := .tuple #[S.val,.int .i64 ((n:Int)+1 - (i:Int)),.nilIface]) (by simp [results,results115,go_sem,k0,k1,k2,k3,S4.val]) rfl ?_;rw [HRE.out,HVV.out];exact MemberPost.ok_ rfl (four_set (t:=0) _ _ _ _ HFR.out (Nat.le_refl _))
theorem bracket_not {w:World} {A:Option Addr} {bs:List UInt8} {c:Nat} (h:Bytes w A bs) (i:Nat) (hl:bs.length <= 1000000000) (hi:i+1 < bs.length) (hc:bs.length <= c) (hA:A=none->c=0) (hcm:c <= maxLen) (hg:GlobOk w) (h91:bn bs i=91) (h94:bn bs (i+1)=94) :
    Calls prog 115 #[.slice A bs.length c,.int .i64 (i:Int)] w (MemberPost w (brkE true i (brkL bs (i+2) (bs.length+1) (i+2) S4.empty))):=by
 generalize hr:brkL bs (i+2) (bs.length+1) (i+2) S4.empty=r
 have HR:=zh hr;clear hr;obtain ⟨b,off,rfl,hb,hcs⟩:=byte_at h (i:=i) (by omega);have c0:=hcs i (by omega);have c1:=hcs (i+1) (by omega);rw [h91] at c0;rw [h94] at c1;have HCS:=zh hcs;have HB:=zh h;clear h hcs h91 h94;go_enter func115,ntmps115
 go_wp2_with fail
 go_loopw [6,7,10] (fun e nx m wr=>BrkRel w bs (i+2) r e nx m wr) (fun _ nx _ _=>bs.length+1 - (intOf nx).toNat)
 case atStart=>exact ⟨i+2,bs.length+1,S4.empty,by go_num,rfl,by omega,by omega,by omega,S4.empty_ok,HR.out,(Fr.refl [] w).alloc _,Bk.new w _ _⟩
 case round=>
  obtain ⟨n,k,S,rfl,rfl,hn,hfn,hkn,hS,hbr,hfr,hbk⟩:=hrel;have HBR:=zh hbr;have HFR:=zh hfr;have HBK:=zh hbk;clear hbr hfr hbk;by_cases hgo:n=i+2 ∨ bs.length <= n ∨ bn bs n ≠ 93
  ·have HGO:=zh hgo;by_cases ha:n=i+2
   ·have t1:((n:Int) == (i:Int)+1+1)=true:=by simp;omega
    clear ha hgo
    cases hm:memberS bs n with
    | error p=>
     obtain ⟨p,q⟩:=p;have HM:=zh hm
     have hre:r = .error (p,q):=by
      rw [<-HBR.out];obtain ⟨k',rfl⟩:∃ k',k=k'+1:=⟨k - 1,by omega⟩;unfold brkL;rw [if_pos HGO.out,hm]
     have HRE:=zh hre;clear hm hre;go_wp2_with fail
     go_at_call 126
     refine (member_any (At.alloc (At.fr_nil HB.out HFR.out) _) n hl hn hc hA hcm (hg.fr (HFR.out.alloc _))).mono ?_;rintro e w1 hp;rw [HM.out] at hp;obtain ⟨v,rfl,⟨fg,rfl,hfb⟩,hf1⟩:=hp;have HV:=zh (show FaultV w1 _ (p:Int) (q:Int) from ⟨fg,rfl,hfb⟩);have HK1:=zh ((Bk.alloc HBK.out (.cells S4.empty.cells 86)).fr hf1 (by simp));have HM1:=zh (res_cells hf1);have HF1:=zh ((HFR.out.alloc (.cells S4.empty.cells 86)).trans hf1);clear hf1 hfb;obtain ⟨⟨k0,k1,k2,k3⟩,z0,z1,z2,z3⟩:=S4.four HK1.out;obtain ⟨⟨l0,l1,l2,l3⟩,y0,y1,y2,y3⟩:=S4.four HM1.out;have hlt1:=HK1.out.lt;have hlt2:=HM1.out.lt;have hne:w.heap.size < wr.heap.size:=HBK.out.lt;have hne2:w.heap.size ≠ wr.heap.size:=by omega
     unfold S4.val S4.empty;go_wp2_with fail
     refine bodyPost_ret (v := .tuple #[S4.empty.val,.int .i64 0,.iface 74 (.pointer (some ⟨fg,0,none⟩))]) (by simp [results,results115,go_sem,k0,k1,k2,k3,S4.val,S4.empty]) rfl ?_;rw [HRE.out];exact MemberPost.err rfl ((HV.out.four HM1.out _ _ _ _).four (HK1.out.far4 hne2 _ _ _ _) _ _ _ _) (four_set (t:=0) _ _ _ _ (four_set (t:=0) _ _ _ _ HF1.out (by omega)) (Nat.le_refl _))
    | ok p=>
     obtain ⟨R,n'⟩:=p;have HM:=zh hm;have hok:=memberS_ok hm
     have hre:∃ k',bs.length < n'+k'/\brkL bs (i+2) k' n' (S.or R)=r:=by
      rw [<-HBR.out];obtain ⟨k',rfl⟩:∃ k',k=k'+1:=⟨k - 1,by omega⟩;refine ⟨k',by omega,?_⟩
      conv=>rhs;unfold brkL
      rw [if_pos HGO.out,hm]
     obtain ⟨k',hk',hre⟩:=hre;have HRE:=zh hre;clear hm hre;go_wp2_with fail
     go_at_call 126
     refine (member_any (At.alloc (At.fr_nil HB.out HFR.out) _) n hl hn hc hA hcm (hg.fr (HFR.out.alloc _))).mono ?_;rintro e w1 hp;rw [HM.out] at hp;obtain ⟨rfl,hf1⟩:=hp;have HK1:=zh ((Bk.alloc HBK.out (.cells S4.empty.cells 86)).fr hf1 (by simp));have HM1:=zh (res_cells hf1);have HF1:=zh ((HFR.out.alloc (.cells S4.empty.cells 86)).trans hf1);clear hf1;obtain ⟨⟨k0,k1,k2,k3⟩,z0,z1,z2,z3⟩:=S4.four HK1.out;obtain ⟨⟨l0,l1,l2,l3⟩,y0,y1,y2,y3⟩:=S4.four HM1.out;have hlt1:=HK1.out.lt;have hlt2:=HM1.out.lt;have hne:w.heap.size < wr.heap.size:=HBK.out.lt;have hne2:w.heap.size ≠ wr.heap.size:=by omega
     unfold S4.val;go_wp2_with fail
     go_at_call 127
     refine (or_any S R _ hS hok.1).mono ?_;rintro e w3 ⟨rfl,hf3⟩;have HK3:=zh ((HK1.out.far4 hne2 (.int .u64 (R.a:Int)) (.int .u64 (R.b:Int)) (.int .u64 (R.c:Int)) (.int .u64 (R.d:Int))).fr hf3 (by simp));have HF3:=zh ((four_set (t:=0) _ _ _ _ HF1.out (by omega)).trans hf3);clear hf3 k0 k1 k2 k3 z0 z1 z2 z3 l0 l1 l2 l3 y0 y1 y2 y3;obtain ⟨⟨k0,k1,k2,k3⟩,z0,z1,z2,z3⟩:=S4.four HK3.out;have hlt3:=HK3.out.lt;unfold S4.val;go_wp2_with fail
     go_roundw
     case rel=>exact ⟨n',k',S.or R,rfl,rfl,hok.2.2,by omega,hk',S4.or_ok hS hok.1,HRE.out,four_set (t:=0) _ _ _ _ HF3.out (Nat.le_refl _),(((HK3.out.put 0 _).put 1 _).put 2 _).put 3 _⟩
     case measure=>simp [intOf];omega
   have t1:((n:Int) == (i:Int)+1+1)=false:=by simp;omega
   by_cases hb2:bs.length <= n
   ·clear ha hgo
    cases hm:memberS bs n with
    | error p=>
     obtain ⟨p,q⟩:=p;have HM:=zh hm
     have hre:r = .error (p,q):=by
      rw [<-HBR.out];obtain ⟨k',rfl⟩:∃ k',k=k'+1:=⟨k - 1,by omega⟩;unfold brkL;rw [if_pos HGO.out,hm]
     have HRE:=zh hre;clear hm hre;go_wp2_with fail
     go_at_call 126
     refine (member_any (At.alloc (At.fr_nil HB.out HFR.out) _) n hl hn hc hA hcm (hg.fr (HFR.out.alloc _))).mono ?_;rintro e w1 hp;rw [HM.out] at hp;obtain ⟨v,rfl,⟨fg,rfl,hfb⟩,hf1⟩:=hp;have HV:=zh (show FaultV w1 _ (p:Int) (q:Int) from ⟨fg,rfl,hfb⟩);have HK1:=zh ((Bk.alloc HBK.out (.cells S4.empty.cells 86)).fr hf1 (by simp));have HM1:=zh (res_cells hf1);have HF1:=zh ((HFR.out.alloc (.cells S4.empty.cells 86)).trans hf1);clear hf1 hfb;obtain ⟨⟨k0,k1,k2,k3⟩,z0,z1,z2,z3⟩:=S4.four HK1.out;obtain ⟨⟨l0,l1,l2,l3⟩,y0,y1,y2,y3⟩:=S4.four HM1.out;have hlt1:=HK1.out.lt;have hlt2:=HM1.out.lt;have hne:w.heap.size < wr.heap.size:=HBK.out.lt;have hne2:w.heap.size ≠ wr.heap.size:=by omega
     unfold S4.val S4.empty;go_wp2_with fail
     refine bodyPost_ret (v := .tuple #[S4.empty.val,.int .i64 0,.iface 74 (.pointer (some ⟨fg,0,none⟩))]) (by simp [results,results115,go_sem,k0,k1,k2,k3,S4.val,S4.empty]) rfl ?_;rw [HRE.out];exact MemberPost.err rfl ((HV.out.four HM1.out _ _ _ _).four (HK1.out.far4 hne2 _ _ _ _) _ _ _ _) (four_set (t:=0) _ _ _ _ (four_set (t:=0) _ _ _ _ HF1.out (by omega)) (Nat.le_refl _))
    | ok p=>
     obtain ⟨R,n'⟩:=p;have HM:=zh hm;have hok:=memberS_ok hm
     exfalso;omega
   have hcn:=(HFR.out.cell (show (⟨b,off+n,none⟩:Addr).block < w.heap.size from hb) (by simp)).trans (HCS.out n (by omega));have b2:=bn_lt bs n;have g3:(!((bn bs n:Int) == 93))=true:=by simp;omega
   have g4:((bn bs n:Int) != 93)=true:=by simp;omega
   have hblt:b < wr.heap.size:=by have:=HBK.out.lt;omega
   clear ha hgo
   cases hm:memberS bs n with
   | error p=>
    obtain ⟨p,q⟩:=p;have HM:=zh hm
    have hre:r = .error (p,q):=by
     rw [<-HBR.out];obtain ⟨k',rfl⟩:∃ k',k=k'+1:=⟨k - 1,by omega⟩;unfold brkL;rw [if_pos HGO.out,hm]
    have HRE:=zh hre;clear hm hre;go_wp2_with fail
    go_at_call 126
    refine (member_any (At.alloc (At.fr_nil HB.out HFR.out) _) n hl hn hc hA hcm (hg.fr (HFR.out.alloc _))).mono ?_;rintro e w1 hp;rw [HM.out] at hp;obtain ⟨v,rfl,⟨fg,rfl,hfb⟩,hf1⟩:=hp;have HV:=zh (show FaultV w1 _ (p:Int) (q:Int) from ⟨fg,rfl,hfb⟩);have HK1:=zh ((Bk.alloc HBK.out (.cells S4.empty.cells 86)).fr hf1 (by simp));have HM1:=zh (res_cells hf1);have HF1:=zh ((HFR.out.alloc (.cells S4.empty.cells 86)).trans hf1);clear hf1 hfb;obtain ⟨⟨k0,k1,k2,k3⟩,z0,z1,z2,z3⟩:=S4.four HK1.out;obtain ⟨⟨l0,l1,l2,l3⟩,y0,y1,y2,y3⟩:=S4.four HM1.out;have hlt1:=HK1.out.lt;have hlt2:=HM1.out.lt;have hne:w.heap.size < wr.heap.size:=HBK.out.lt;have hne2:w.heap.size ≠ wr.heap.size:=by omega
    unfold S4.val S4.empty;go_wp2_with fail
    refine bodyPost_ret (v := .tuple #[S4.empty.val,.int .i64 0,.iface 74 (.pointer (some ⟨fg,0,none⟩))]) (by simp [results,results115,go_sem,k0,k1,k2,k3,S4.val,S4.empty]) rfl ?_;rw [HRE.out];exact MemberPost.err rfl ((HV.out.four HM1.out _ _ _ _).four (HK1.out.far4 hne2 _ _ _ _) _ _ _ _) (four_set (t:=0) _ _ _ _ (four_set (t:=0) _ _ _ _ HF1.out (by omega)) (Nat.le_refl _))
   | ok p=>
    obtain ⟨R,n'⟩:=p;have HM:=zh hm;have hok:=memberS_ok hm
    have hre:∃ k',bs.length < n'+k'/\brkL bs (i+2) k' n' (S.or R)=r:=by
     rw [<-HBR.out];obtain ⟨k',rfl⟩:∃ k',k=k'+1:=⟨k - 1,by omega⟩;refine ⟨k',by omega,?_⟩
     conv=>rhs;unfold brkL
     rw [if_pos HGO.out,hm]
    obtain ⟨k',hk',hre⟩:=hre;have HRE:=zh hre;clear hm hre;go_wp2_with fail
    go_at_call 126
    refine (member_any (At.alloc (At.fr_nil HB.out HFR.out) _) n hl hn hc hA hcm (hg.fr (HFR.out.alloc _))).mono ?_;rintro e w1 hp;rw [HM.out] at hp;obtain ⟨rfl,hf1⟩:=hp;have HK1:=zh ((Bk.alloc HBK.out (.cells S4.empty.cells 86)).fr hf1 (by simp));have HM1:=zh (res_cells hf1);have HF1:=zh ((HFR.out.alloc (.cells S4.empty.cells 86)).trans hf1);clear hf1;obtain ⟨⟨k0,k1,k2,k3⟩,z0,z1,z2,z3⟩:=S4.four HK1.out;obtain ⟨⟨l0,l1,l2,l3⟩,y0,y1,y2,y3⟩:=S4.four HM1.out;have hlt1:=HK1.out.lt;have hlt2:=HM1.out.lt;have hne:w.heap.size < wr.heap.size:=HBK.out.lt;have hne2:w.heap.size ≠ wr.heap.size:=by omega
    unfold S4.val;go_wp2_with fail
    go_at_call 127
    refine (or_any S R _ hS hok.1).mono ?_;rintro e w3 ⟨rfl,hf3⟩;have HK3:=zh ((HK1.out.far4 hne2 (.int .u64 (R.a:Int)) (.int .u64 (R.b:Int)) (.int .u64 (R.c:Int)) (.int .u64 (R.d:Int))).fr hf3 (by simp));have HF3:=zh ((four_set (t:=0) _ _ _ _ HF1.out (by omega)).trans hf3);clear hf3 k0 k1 k2 k3 z0 z1 z2 z3 l0 l1 l2 l3 y0 y1 y2 y3;obtain ⟨⟨k0,k1,k2,k3⟩,z0,z1,z2,z3⟩:=S4.four HK3.out;have hlt3:=HK3.out.lt;unfold S4.val;go_wp2_with fail
    go_roundw
    case rel=>exact ⟨n',k',S.or R,rfl,rfl,hok.2.2,by omega,hk',S4.or_ok hS hok.1,HRE.out,four_set (t:=0) _ _ _ _ HF3.out (Nat.le_refl _),(((HK3.out.put 0 _).put 1 _).put 2 _).put 3 _⟩
    case measure=>simp [intOf];omega
  have hre:r = .ok (S,n):=by
   rw [<-HBR.out];obtain ⟨k',rfl⟩:∃ k',k=k'+1:=⟨k - 1,by omega⟩;unfold brkL;rw [if_neg hgo]
  have HRE:=zh hre;clear hre;have t1:((n:Int) == (i:Int)+1+1)=false:=by simp;omega
  have hcn:=(HFR.out.cell (show (⟨b,off+n,none⟩:Addr).block < w.heap.size from hb) (by simp)).trans (HCS.out n (by omega));have h93:bn bs n=93:=by omega
  have hn2:n < bs.length:=by omega
  rw [h93] at hcn;have hblt:b < wr.heap.size:=by have:=HBK.out.lt;omega
  have hv:((n:Int)+1 - (i:Int))=((n+1 - i:Nat):Int):=by omega
  have HVV:=zh hv;obtain ⟨⟨k0,k1,k2,k3⟩,z0,z1,z2,z3⟩:=S4.four HBK.out;have hlt:=HBK.out.lt;clear hgo h93 hv;go_wp2_with fail
  go_at_call 128
  refine (not_any S _ hS).mono ?_;rintro e w3 ⟨rfl,hf3⟩;have HK3:=zh (HBK.out.fr hf3 (by simp));have HF3:=zh (HFR.out.trans hf3);clear hf3 k0 k1 k2 k3 z0 z1 z2 z3;obtain ⟨⟨k0,k1,k2,k3⟩,z0,z1,z2,z3⟩:=S4.four HK3.out;have hlt3:=HK3.out.lt;unfold S4.val;go_wp2_with fail
  refine body_gen fun W hW=>?_;have hkW:Bk W w.heap.size 86 S.not.cells:=by rw [hW];exact (((((((HK3.out.put 0 _).put 1 _).put 2 _).put 3 _).put 0 _).put 1 _).put 2 _).put 3 _
  have hfW:Fr [] w W:=by rw [hW];exact four_set (t:=0) _ _ _ _ (four_set (t:=0) _ _ _ _ HF3.out (Nat.le_refl _)) (Nat.le_refl _)
  clear hW;obtain ⟨⟨j0,j1,j2,j3⟩,_⟩:=S4.four hkW;refine bodyPost_ret (v := .tuple #[S.not.val,.int .i64 ((n:Int)+1 - (i:Int)),.nilIface]) (by simp [results,results115,go_sem,j0,j1,j2,j3,S4.val]) rfl ?_;rw [HRE.out,HVV.out];exact MemberPost.ok_ rfl hfW
end Go.Proofs.YtfofechcccodeaaGreatDoor
namespace Go.Proofs.YtfofechcccodeaaGreatDoor
set_option linter.unusedVariables false
set_option linter.unusedSimpArgs false
def isDig (c:UInt8):Bool:=decide (48 <= c.toNat) && decide (c.toNat <= 57)
def numV (l:List UInt8):Nat:=l.foldl (fun v c=>v * 10+(c.toNat - 48)) 0
def numS (l:List UInt8):Nat × Nat:=if 3 < (l.takeWhile isDig).length then (0,0) else (numV (l.takeWhile isDig),(l.takeWhile isDig).length)
def intervalT (l:List UInt8) (v n:Nat):Int × Int × Nat:=
 if n=0 then (0,0,0)
 else if bn l (n+1)=44 then
  (if bn l (n+2+(numS (l.drop (n+2))).2)=125 then ((v:Int),(if (numS (l.drop (n+2))).2=0 then -1 else ((numS (l.drop (n+2))).1:Int)),n+2+(numS (l.drop (n+2))).2+1) else (0,0,0))
 else if bn l (n+1)=125 then ((v:Int),(v:Int),n+2)
 else (0,0,0)
def intervalS (l:List UInt8):Int × Int × Nat:=intervalT l (numS (l.drop 1)).1 (numS (l.drop 1)).2
def signS (bs:List UInt8) (i:Nat):Int × Int × Nat:=
 if bn bs i=42 then (0,-1,1) else if bn bs i=43 then (1,-1,1) else if bn bs i=63 then (0,1,1) else if bn bs i=123 then intervalS (bs.drop i) else (0,0,0)
theorem numS_le (l:List UInt8):(numS l).2 <= l.length/\(numS l).2 <= 3/\(numS l).1 <= 999:=by
 unfold numS;have h:=(List.takeWhile_sublist (l:=l) isDig).length_le;split
 ·simp
 refine ⟨h,by simp;omega,?_⟩
 have hall:∀ c ∈ l.takeWhile isDig,isDig c=true:=fun c hc=>by
  have:=List.all_takeWhile (p:=isDig) (l:=l);rw [List.all_eq_true] at this;exact this c hc
 generalize l.takeWhile isDig=x at *
 have hd:∀ c:UInt8,isDig c=true->c.toNat - 48 <= 9:=fun c hc=>by unfold isDig at hc;simp at hc;omega
 match x with
 | []=>simp [numV]
 | [a]=>have:=hd a (hall a (by simp));simp [numV];omega
 | [a,b]=>have:=hd a (hall a (by simp));have:=hd b (hall b (by simp));simp [numV];omega
 | [a,b,c]=>have:=hd a (hall a (by simp));have:=hd b (hall b (by simp));have:=hd c (hall c (by simp));simp [numV];omega
 | _ :: _ :: _ :: _ :: _=>simp at *
theorem bn_pos {bs:List UInt8} {i c:Nat} (h:bn bs i=c) (hc:0 < c):i < bs.length:=by
 rcases Nat.lt_or_ge i bs.length with h1 | h1
 ·exact h1
 unfold bn at h;simp [List.getD_eq_getElem?_getD,List.getElem?_eq_none h1] at h;omega
theorem bn_drop (bs:List UInt8) (k i:Nat):bn (bs.drop k) i=bn bs (k+i):=by
 unfold bn;simp [List.getD_eq_getElem?_getD]
theorem intervalT_le (l:List UInt8) (v n:Nat):(intervalT l v n).2.2 <= l.length:=by
 unfold intervalT;split
 ·simp
 split
 ·split
  ·rename_i h;have:=bn_pos h (by omega);simp;omega
  simp
 split
 ·rename_i h;have:=bn_pos h (by omega);simp;omega
 simp
theorem signS_le (bs:List UInt8) (i:Nat) (hi:i <= bs.length):i+(signS bs i).2.2 <= bs.length:=by
 unfold signS;split
 ·rename_i h;have:=bn_pos h (by omega);simp;omega
 split
 ·rename_i h;have:=bn_pos h (by omega);simp;omega
 split
 ·rename_i h;have:=bn_pos h (by omega);simp;omega
 split
 ·have:=intervalT_le (bs.drop i) (numS ((bs.drop i).drop 1)).1 (numS ((bs.drop i).drop 1)).2;unfold intervalS;simp at this ⊢; omega
 simp;exact hi
end Go.Proofs.YtfofechcccodeaaGreatDoor
