/-
  Small texts in one (HfM, Hf1, Bits, Set). No conditions.
-/
import Derived.Test.YtfofechcccodeaaGreatDoorQaa
import Derived.Lib.Join
import Derived.Lib.Split
import Derived.Test.YtfofechcccodeaaGreatDoorRows
import Derived.LoopTactic
import Derived.Laws.BitsAllLaws
import Derived.Laws.BitsLemmas
import Derived.Deep.QuietTactic
import Derived.BigQuiet
import Derived.RegionTactic
import Derived.BigRegion
import Derived.ChangeAlike
namespace Go.Proofs.YtfofechcccodeaaGreatDoor.F
open Go.RowKit
set_option linter.unusedVariables false
set_option linter.unusedSimpArgs false
def isBl (c:UInt8):Bool:=c == 9 || c == 10 || c == 32
def splG:List UInt8->List UInt8->List (List UInt8)
 | [],cur=>if cur=[] then [] else [cur]
 | c :: r,cur=>if isBl c=true then (if cur=[] then [] else [cur]) ++ splG r [] else splG r (cur ++ [c])
def splM (s:List UInt8):List (List UInt8):=splG s []
theorem one_len (cur:List UInt8):(if cur=[] then [] else [cur]).length=if cur=[] then 0 else 1:=by split <;> rfl
theorem lens_nil:Lib.lens []=0:=rfl
theorem lens_cons (x:List UInt8) (r:List (List UInt8)):Lib.lens (x :: r)=x.length+Lib.lens r:=by simp [Lib.lens]
theorem lens_append (a b:List (List UInt8)):Lib.lens (a ++ b)=Lib.lens a+Lib.lens b:=by simp [Lib.lens]
theorem one_lens (cur:List UInt8):Lib.lens (if cur=[] then [] else [cur])=cur.length:=by
 split
 ·rename_i h;subst h;rfl
 simp [Lib.lens]
theorem splG_len:∀ (s cur:List UInt8),(splG s cur).length <= s.length+if cur=[] then 0 else 1
 | [],cur=>by simp only [splG,one_len,List.length_nil];omega
 | c :: r,cur=>by
  unfold splG;split
  ·have h:=splG_len r [];simp only [if_true] at h;rw [List.length_append,one_len,List.length_cons];omega
  have h:=splG_len r (cur ++ [c]);rw [if_neg (by simp)] at h;rw [List.length_cons];split <;> omega
theorem splM_len (s:List UInt8):(splM s).length <= s.length:=by have:=splG_len s [];simpa [splM] using this
theorem splG_sum:∀ (s cur:List UInt8),Lib.lens (splG s cur) <= s.length+cur.length
 | [],cur=>by simp only [splG,one_lens,List.length_nil];omega
 | c :: r,cur=>by
  unfold splG;split
  ·have h:=splG_sum r [];rw [lens_append,one_lens,List.length_cons];simp only [List.length_nil] at h;omega
  have h:=splG_sum r (cur ++ [c]);rw [List.length_append] at h;simp only [List.length_cons,List.length_nil] at h ⊢; omega
theorem splM_sum (s:List UInt8):Lib.lens (splM s) <= s.length:=by have:=splG_sum s [];simpa [splM] using this
def cutG (c:UInt8):List UInt8->List UInt8->List (List UInt8)
 | [],cur=>[cur]
 | x :: r,cur=>if x=c then cur :: cutG c r [] else cutG c r (cur ++ [x])
theorem cutG_free (c:UInt8):∀ (a s cur:List UInt8),c ∉ a->cutG c (a ++ s) cur=cutG c s (cur ++ a)
 | [],s,cur,_=>by simp
 | x :: a,s,cur,h=>by
  have h1:x ≠ c:=fun e=>h (by simp [e]);have h2:c ∉ a:=fun e=>h (by simp [e]);have:=cutG_free c a s (cur ++ [x]) h2;simp only [List.cons_append,cutG,if_neg h1,this,List.append_assoc,List.singleton_append];rfl
theorem cut_first (c:UInt8):∀ (s:List UInt8),c ∈ s->∃ a b,s=a ++ c :: b/\c ∉ a
 | [],h=>by simp at h
 | x :: r,h=>by
  by_cases e:x=c
  ·exact ⟨[],r,by simp [e],by simp⟩
  obtain ⟨a,b,h1,h2⟩:=cut_first c r (by simpa [Ne.symm e] using h);exact ⟨x :: a,b,by simp [h1],by simp [h2,Ne.symm e]⟩
theorem index_hit1 (c:UInt8):∀ (a b:List UInt8),c ∉ a->Lib.index (a ++ c :: b) [c]=a.length
 | [],b,_=>by simp [Lib.index]
 | x :: a,b,h=>by
  have h1:¬ c=x:=fun e=>h (by simp [e]);have h2:c ∉ a:=fun e=>h (by simp [e]);have ih:=index_hit1 c a b h2;have h3:((a.length:Int) == -1)=false:=by rw [beq_eq_false_iff_ne];omega
  simp [Lib.index,h1,ih,h3]
theorem index_miss1 (c:UInt8):∀ (s:List UInt8),c ∉ s->Lib.index s [c] = -1
 | [],_=>by simp [Lib.index]
 | x :: a,h=>by
  have h1:¬ c=x:=fun e=>h (by simp [e]);have h2:c ∉ a:=fun e=>h (by simp [e]);simp [Lib.index,h1,index_miss1 c a h2]
theorem cutG_split (c:UInt8):∀ (n:Nat) (s:List UInt8),s.length <= n->Lib.splitK [c] 0 (Lib.count s [c]) s=cutG c s []
 | n,s,hn=>by
  by_cases h:c ∈ s
  ·obtain ⟨a,b,rfl,h2⟩:=cut_first c s h;have hi:=index_hit1 c a b h2
   have hd:(a ++ c :: b).drop (a.length + [c].length)=b:=by
    rw [<-List.drop_drop,List.drop_left];rfl
   rw [Lib.count_hit (by simp) hi,hd,Nat.add_comm 1];have h3:(Lib.index (a ++ c :: b) [c] == -1)=false:=by rw [hi,beq_eq_false_iff_ne];omega
   unfold Lib.splitK;rw [h3,hi];have h4:((a.length:Int).toNat)=a.length:=by omega
   rw [h4,hd,Nat.add_zero,List.take_left,cutG_free c a (c :: b) [] h2]
   cases n with
   | zero=>simp at hn
   | succ n=>
    have ih:=cutG_split c n b (by simp at hn;omega);rw [ih];simp [cutG]
  rw [Lib.count_miss (index_miss1 c s h)];have:=cutG_free c s [] [] h;simp only [List.append_nil,List.nil_append] at this;rw [this];rfl
def cutM (s:List UInt8) (c:UInt8):List (List UInt8):=if s=[] then [] else cutG c s []
theorem cutG_len (c:UInt8):∀ (s cur:List UInt8),(cutG c s cur).length <= s.length+1
 | [],cur=>by simp [cutG]
 | x :: r,cur=>by
  unfold cutG;split
  ·have:=cutG_len c r [];simp only [List.length_cons];omega
  have:=cutG_len c r (cur ++ [x]);simp only [List.length_cons];omega
theorem cutM_len (s:List UInt8) (c:UInt8):(cutM s c).length <= s.length+1:=by
 unfold cutM;split
 ·simp
 exact cutG_len c s []
def padM (l:List (List UInt8)) (n:Nat):List (List UInt8):=l.take n ++ List.replicate (n - l.length) []
theorem pad_len (l:List (List UInt8)) (n:Nat):(padM l n).length=n:=by simp [padM];omega
theorem lens_repl (n:Nat):Lib.lens (List.replicate n [])=0:=by induction n with
 | zero=>rfl
 | succ n ih=>rw [List.replicate_succ,lens_cons,ih];rfl
theorem pad_lens (l:List (List UInt8)) (n:Nat):Lib.lens (padM l n) <= Lib.lens l:=by
 unfold padM;rw [lens_append,lens_repl];exact Lib.lens_take_le l n
theorem pad_get (l:List (List UInt8)) (n i:Nat):(padM l n).getD i []=if i < n then l.getD i [] else []:=by
 simp only [padM,List.getD_eq_getElem?_getD];by_cases h:i < l.length
 ·by_cases h2:i < n
  ·rw [List.getElem?_append_left (by simp;omega),List.getElem?_take,if_pos h2,if_pos h2]
  rw [if_neg h2,List.getElem?_append_right (by simp;omega),List.getElem?_replicate];split <;> rfl
 rw [List.getElem?_append_right (by simp;omega),List.getElem?_replicate,List.getElem?_eq_none (by omega:l.length <= i)];split <;> split <;> rfl
def putM (l:List (List UInt8)) (k:Nat) (s:List UInt8):List (List UInt8):=(padM l (max k l.length)).set (k - 1) s
theorem put_len (l:List (List UInt8)) (k:Nat) (s:List UInt8):(putM l k s).length=max k l.length:=by simp [putM,pad_len]
theorem lens_set:∀ (l:List (List UInt8)) (k:Nat) (s:List UInt8),Lib.lens (l.set k s) <= Lib.lens l+s.length
 | [],k,s=>by simp [lens_nil]
 | x :: r,0,s=>by simp only [List.set_cons_zero,lens_cons];omega
 | x :: r,k+1,s=>by have:=lens_set r k s;simp only [List.set_cons_succ,lens_cons];omega
theorem put_lens (l:List (List UInt8)) (k:Nat) (s:List UInt8):Lib.lens (putM l k s) <= Lib.lens l+s.length:=by
 have h1:=lens_set (padM l (max k l.length)) (k - 1) s;have h2:=pad_lens l (max k l.length);unfold putM;omega
theorem join_len (l:List (List UInt8)) (sep:List UInt8):(Lib.join l sep).length=sep.length * (l.length - 1)+Lib.lens l:=by
 cases l with
 | nil=>simp [Lib.join_nil,lens_nil]
 | cons x r=>rw [Lib.join_length];simp
def getM (text:List UInt8) (l:List (List UInt8)) (i:Int):List UInt8:=if i=0 then text else if i < 0 then [] else l.getD (i.toNat - 1) []
theorem getM_nat (text:List UInt8) (l:List (List UInt8)) (i:Nat) (h:1 <= i):getM text l (i:Int)=l.getD (i - 1) []:=by
 unfold getM;rw [if_neg (by omega),if_neg (by omega)];rfl
end Go.Proofs.YtfofechcccodeaaGreatDoor.F
namespace Go.Proofs.YtfofechcccodeaaGreatDoor.F
open Go.RowKit Go.Proofs.Tryz
set_option linter.unusedVariables false
set_option linter.unusedSimpArgs false
def strVals (l:List (List UInt8)):List Value:=l.map fun b => .string ⟨b.toArray⟩
theorem strVals_length (l:List (List UInt8)):(strVals l).length=l.length:=by simp [strVals]
theorem strVals_append (a b:List (List UInt8)):strVals (a ++ b)=strVals a ++ strVals b:=by simp [strVals]
theorem strVals_get (l:List (List UInt8)) {j:Nat} (h:j < l.length):(strVals l)[j]?=some (.string ⟨(l.getD j []).toArray⟩):=by simp [strVals,h]
theorem strVals_one (l:List (List UInt8)):∀ u ∈ strVals l,u.oneCell'=true:=by
 intro u hu;obtain ⟨b,_,rfl⟩:=List.mem_map.1 hu;rfl
theorem Own.ne_bk {w:World} {e:TypeId} {v:Value} {xs:List Value} {g:Nat} {t:TypeId} {cs:Array Value} (h:Own w e v xs) (hb:Bk w g t cs) (hne:e ≠ t):v.ownBlock ≠ some g:=by
 obtain ⟨A,cap,rfl,-, -, ⟨rfl,-⟩ | ⟨g',off,cur,rfl,hg,-⟩⟩:=h
 ·simp [Value.ownBlock]
 intro hk;simp [Value.ownBlock] at hk;subst hk;exact Bk.ne_ (g:=g') (cs:=cur) hg hb hne rfl
def OwnL (w:World) (v:Value) (l:List (List UInt8)):Prop:=Own w 9 v (strVals l)
theorem OwnL.val {w:World} {v:Value} {l:List (List UInt8)} (h:OwnL w v l):∃ A cap,v = .slice A l.length cap/\l.length <= cap/\cap <= maxLen/\At w A (strVals l)/\(A=none->cap=0):=by
 obtain ⟨A,cap,rfl,h1,h2,h3,h4,-⟩:=Own.at_ h;rw [strVals_length] at h2;exact ⟨A,cap,by rw [strVals_length],h2,h3,h1,h4⟩
theorem OwnL.cell {w:World} {A:Option Addr} {n c:Nat} {l:List (List UInt8)} (h:OwnL w (.slice A n c) l) {j:Nat} (hj:j < l.length):∃ b off,A=some ⟨b,off,none⟩/\w.cell? ⟨b,off+j,none⟩=some (.string ⟨(l.getD j []).toArray⟩):=by
 obtain ⟨A',cap,hv,h1,h2,h3⟩:=h
 injection hv with e1 e2 e3
 subst e1;rcases h3 with ⟨rfl,h3⟩ | ⟨g,off,cur,rfl,hg,h4,h5⟩
 ·rw [strVals_length] at h1;omega
 refine ⟨g,off,rfl,?_⟩;have hb:Bk w g 9 cur:=hg;rw [hb.cell];have:=strVals_get l hj;rw [<-h5,strVals_length,List.getElem?_take,if_pos hj,List.getElem?_drop] at this
 simpa using this
structure Rc where
 kind:Int
 c:UInt8
 jn:List UInt8
 text:List UInt8
 l:List (List UInt8)
 f:Option Addr
 fl:List UInt8->List (List UInt8)
def rcCells (x:Rc) (v:Value):Array Value:=#[.int .i64 x.kind,.int .u8 (x.c.toNat:Int),.pointer x.f,.string ⟨x.jn.toArray⟩,.string ⟨x.text.toArray⟩,v]
def RcR (w:World) (r:Nat) (x:Rc) (v:Value):Prop:=Bk w r 54 (rcCells x v)/\OwnL w v x.l
def RcM (w:World) (r:Nat) (x:Rc):Prop:=∃ v,RcR w r x v
theorem RcM.lt {w:World} {r:Nat} {x:Rc} (h:RcM w r x):r < w.heap.size:=by obtain ⟨v,h,-⟩:=h;exact h.lt
theorem RcM.fr_nil {w w':World} {r:Nat} {x:Rc} (h:RcM w r x) (hf:Fr [] w w'):RcM w' r x:=by
 obtain ⟨v,h1,h2⟩:=h;exact ⟨v,h1.fr hf (by simp),Own.fr h2 hf (by simp)⟩
theorem rc_cells {w:World} {r:Nat} {x:Rc} {v:Value} (h:Bk w r 54 (rcCells x v)) :
    w.cell? ⟨r,0,none⟩=some (.int .i64 x.kind)/\w.cell? ⟨r,1,none⟩=some (.int .u8 (x.c.toNat:Int))/\w.cell? ⟨r,2,none⟩=some (.pointer x.f)/\w.cell? ⟨r,3,none⟩=some (.string ⟨x.jn.toArray⟩)/\w.cell? ⟨r,4,none⟩=some (.string ⟨x.text.toArray⟩)/\w.cell? ⟨r,5,none⟩=some v:=
 ⟨h.cell_ rfl,h.cell_ rfl,h.cell_ rfl,h.cell_ rfl,h.cell_ rfl,h.cell_ rfl⟩
def newRc:Rc:=⟨0,0,[32],[],[],none,splM⟩
theorem fnew_any (w:World):Calls prog 6 #[] w fun e w'=>e = .returned (.pointer (some ⟨w.heap.size,0,none⟩))/\RcM w' w.heap.size newRc/\Fr [] w w'/\w'.heap.size=w.heap.size+1:=by
 go_enter func6,ntmps6
 go_wp2_with fail
 go_ret
 exact ⟨rfl,⟨_,Bk.new w _ _,Own.nil_ _ _⟩,(Fr.refl _ _).alloc _,by simp⟩
theorem count_any {w:World} {r:Nat} {x:Rc} (h:RcM w r x):Calls prog 19 #[.pointer (some ⟨r,0,none⟩)] w fun e w'=>e = .returned (.int .i64 x.l.length)/\w=w':=by
 obtain ⟨v,h1,h2⟩:=h;obtain ⟨A,cap,rfl,-⟩:=OwnL.val h2;obtain ⟨-, -, -, -, -, d5⟩:=rc_cells h1;clear h1 h2;go_enter func19,ntmps19
 go_wp2_with fail
 go_ret
 exact ⟨rfl,rfl⟩
theorem get_any {w:World} {r:Nat} {x:Rc} (h:RcM w r x) (i:Int):Calls prog 20 #[.pointer (some ⟨r,0,none⟩),.int .i64 i] w fun e w'=>e = .returned (.string ⟨(getM x.text x.l i).toArray⟩)/\w=w':=by
 obtain ⟨v,h1,h2⟩:=h;obtain ⟨A,cap,rfl,hcap,hmx,-⟩:=OwnL.val h2;obtain ⟨-, -, -, -, d4,d5⟩:=rc_cells h1;unfold maxLen at hmx;by_cases h0:i=0
 ·subst h0;clear h1 h2;go_enter func20,ntmps20
  go_wp2_with fail
  go_ret
  exact ⟨rfl,rfl⟩
 have t0:(i == 0)=false:=by simpa using h0
 by_cases hn:i < 0
 ·have t1:decide (i < 0)=true:=by simpa using hn
  have e:getM x.text x.l i=[]:=by unfold getM;rw [if_neg h0,if_pos hn]
  rw [e];clear h1 h2;go_enter func20,ntmps20
  go_wp2_with fail
  go_ret
  exact ⟨rfl,rfl⟩
 have t1:decide (i < 0)=false:=by simpa using hn
 obtain ⟨j,rfl⟩:∃ j:Nat,i=(j:Int)+1:=⟨(i - 1).toNat,by omega⟩
 have e:getM x.text x.l ((j:Int)+1)=x.l.getD j []:=by
  have:=getM_nat x.text x.l (j+1) (by omega)
  simpa using this
 rw [e];by_cases hj:j < x.l.length
 ·have t2:decide ((x.l.length:Int) < (j:Int)+1)=false:=by simp;omega
  obtain ⟨b,off,rfl,hc⟩:=OwnL.cell h2 hj;have hwr:IntKind.i64.wrap ((j:Int)+1 - 1)=(j:Int):=by rw [show (j:Int)+1 - 1=(j:Int) by omega,IntKind.wrap_i64];omega
  clear h1 h2 e;go_enter func20,ntmps20
  go_wp2_with fail
  go_ret
  exact ⟨rfl,rfl⟩
 have t2:decide ((x.l.length:Int) < (j:Int)+1)=true:=by simp;omega
 have e2:x.l.getD j []=[]:=by rw [List.getD_eq_getElem?_getD,List.getElem?_eq_none (by omega)];rfl
 rw [e2];clear h1 h2 e e2;go_enter func20,ntmps20
 go_wp2_with fail
 go_ret
 exact ⟨rfl,rfl⟩
theorem RcR.fr_put {w w':World} {r:Nat} {x y:Rc} {v u:Value} (h:RcR w r x v) (hf:Fr [r] w w') (hb:Bk w' r 54 (rcCells y u)) (ho:OwnL w u y.l):RcR w' r y u:=
 ⟨hb,Own.fr ho hf (fun k hk=>by have:=Own.ne_bk ho h.1 (by decide);simp;rintro rfl;exact this hk)⟩
end Go.Proofs.YtfofechcccodeaaGreatDoor.F
namespace Go.Proofs.YtfofechcccodeaaGreatDoor
open Go.RowKit
set_option linter.unusedVariables false
set_option linter.unusedSimpArgs false
theorem ofInt_u64 (a:Nat) (ha:a < 18446744073709551616):(BitVec.ofInt 64 (a:Int)).toNat=a:=by
 rw [BitVec.ofInt_natCast,BitVec.toNat_ofNat];exact Nat.mod_eq_of_lt (by omega)
theorem u64_and_ (a b:Nat) (ha:a < 18446744073709551616) (hb:b < 18446744073709551616):bits .and .u64 (a:Int) (b:Int)=((a &&& b:Nat):Int):=by
 have hx:a &&& b < 2 ^ 64:=Nat.and_lt_two_pow _ (by omega);show IntKind.u64.wrap ((BitVec.ofInt 64 (a:Int) &&& BitVec.ofInt 64 (b:Int)).toNat:Int)=_;rw [BitVec.toNat_and,ofInt_u64 a ha,ofInt_u64 b hb,IntKind.wrap_u64];omega
theorem u64_or_ (a b:Nat) (ha:a < 18446744073709551616) (hb:b < 18446744073709551616):bits .or .u64 (a:Int) (b:Int)=((a ||| b:Nat):Int):=by
 have hx:a ||| b < 2 ^ 64:=Nat.or_lt_two_pow (by omega) (by omega)
 show IntKind.u64.wrap ((BitVec.ofInt 64 (a:Int) ||| BitVec.ofInt 64 (b:Int)).toNat:Int)=_;rw [BitVec.toNat_or,ofInt_u64 a ha,ofInt_u64 b hb,IntKind.wrap_u64];omega
theorem bit_asked (a y:Nat) (ha:a < 18446744073709551616):(bits BinOp.and IntKind.u64 ((a:Int) / 2 ^ y) 1 == 1)=a.testBit y:=by
 have h1:((a:Int) / 2 ^ y)=((a / 2 ^ y:Nat):Int):=by simp
 have h2:a / 2 ^ y < 18446744073709551616:=Nat.lt_of_le_of_lt (Nat.div_le_self _ _) ha;have h3:=u64_and_ (a / 2 ^ y) 1 h2 (by omega);rw [h1];have e:(bits BinOp.and IntKind.u64 ((a / 2 ^ y:Nat):Int) 1)=((a / 2 ^ y &&& 1:Nat):Int):=h3;rw [e,Nat.and_one_is_mod,Nat.testBit_eq_decide_div_mod_eq];by_cases h:a / 2 ^ y % 2=1 <;> simp [h] <;> omega
theorem or_pow_testBit (a y j:Nat):(a ||| 2 ^ y).testBit j=(a.testBit j || decide (y=j)):=by
 rw [Nat.testBit_or,Nat.testBit_two_pow]
def cpl (a:Nat):Nat:=18446744073709551615 - a
theorem u64_cpl (a:Nat) (ha:a < 18446744073709551616):bits .xor .u64 IntKind.u64.max (a:Int)=((cpl a:Nat):Int):=by
 have hm:IntKind.u64.max=((18446744073709551615:Nat):Int):=by decide
 have hx:18446744073709551615 ^^^ a < 2 ^ 64:=Nat.xor_lt_two_pow (by omega) (by omega)
 have he:18446744073709551615 ^^^ a=cpl a:=by
  have h:cpl a=2 ^ 64 - (a+1):=by unfold cpl;omega
  rw [h]
  apply Nat.eq_of_testBit_eq
  intro j;rw [Nat.testBit_two_pow_sub_succ (by omega),Nat.testBit_xor,show (18446744073709551615:Nat)=2 ^ 64 - 1 by omega,Nat.testBit_two_pow_sub_one];by_cases hj:j < 64
  ·simp [hj]
  rw [Nat.testBit_lt_two_pow (Nat.lt_of_lt_of_le (show a < 2 ^ 64 by omega) (Nat.pow_le_pow_right (by omega) (by omega)))];simp [hj]
 rw [hm];show IntKind.u64.wrap ((BitVec.ofInt 64 ((18446744073709551615:Nat):Int) ^^^ BitVec.ofInt 64 (a:Int)).toNat:Int)=_;rw [BitVec.toNat_xor,ofInt_u64 _ (by omega),ofInt_u64 a ha,IntKind.wrap_u64,<-he];omega
theorem cpl_lt (a:Nat):cpl a < 18446744073709551616:=by unfold cpl;omega
theorem cpl_testBit (a j:Nat) (ha:a < 18446744073709551616) (hj:j < 64):(cpl a).testBit j = !a.testBit j:=by
 have h:cpl a=2 ^ 64 - (a+1):=by unfold cpl;omega
 rw [h,Nat.testBit_two_pow_sub_succ (by omega)];simp [hj]
theorem word_ext {a b:Nat} (ha:a < 18446744073709551616) (hb:b < 18446744073709551616) (h:∀ j,j < 64->a.testBit j=b.testBit j):a=b:=by
 apply Nat.eq_of_testBit_eq
 intro j;by_cases hj:j < 64
 ·exact h j hj
 rw [Nat.testBit_lt_two_pow (Nat.lt_of_lt_of_le (show a < 2 ^ 64 by omega) (Nat.pow_le_pow_right (by omega) (by omega))),Nat.testBit_lt_two_pow (Nat.lt_of_lt_of_le (show b < 2 ^ 64 by omega) (Nat.pow_le_pow_right (by omega) (by omega)))]
theorem or_lt {a b:Nat} (ha:a < 18446744073709551616) (hb:b < 18446744073709551616):a ||| b < 18446744073709551616:=Nat.or_lt_two_pow (n:=64) (by omega) (by omega)
theorem pow_lt {y:Nat} (hy:y < 64):2 ^ y < 18446744073709551616:=by
 have:2 ^ y < 2 ^ 64:=Nat.pow_lt_pow_right (by omega) hy;omega
structure S4 where
 a:Nat
 b:Nat
 c:Nat
 d:Nat
def S4.ok (s:S4):Prop:=s.a < 18446744073709551616/\s.b < 18446744073709551616/\s.c < 18446744073709551616/\s.d < 18446744073709551616
def S4.val (s:S4):Value := .agg #[.int .u64 (s.a:Int),.int .u64 (s.b:Int),.int .u64 (s.c:Int),.int .u64 (s.d:Int)]
def S4.word (s:S4) (i:Nat):Nat:=if i=0 then s.a else if i=1 then s.b else if i=2 then s.c else s.d
def S4.mem (s:S4) (x:Nat):Bool:=(s.word (x / 64)).testBit (x % 64)
def S4.empty:S4:=⟨0,0,0,0⟩
def S4.or (s t:S4):S4:=⟨s.a ||| t.a,s.b ||| t.b,s.c ||| t.c,s.d ||| t.d⟩
def S4.not (s:S4):S4:=⟨cpl s.a,cpl s.b,cpl s.c,cpl s.d⟩
def S4.add (s:S4) (x:Nat):S4:=
 if x / 64=0 then { s with a:=s.a ||| 2 ^ (x % 64) } else if x / 64=1 then { s with b:=s.b ||| 2 ^ (x % 64) } else if x / 64=2 then { s with c:=s.c ||| 2 ^ (x % 64) } else { s with d:=s.d ||| 2 ^ (x % 64) }
theorem S4.empty_ok:S4.empty.ok:=by unfold S4.ok S4.empty;simp
theorem S4.or_ok {s t:S4} (h:s.ok) (k:t.ok):(s.or t).ok:=⟨or_lt h.1 k.1,or_lt h.2.1 k.2.1,or_lt h.2.2.1 k.2.2.1,or_lt h.2.2.2 k.2.2.2⟩
theorem S4.not_ok (s:S4):s.not.ok:=⟨cpl_lt _,cpl_lt _,cpl_lt _,cpl_lt _⟩
theorem S4.add_ok {s:S4} (h:s.ok) (x:Nat):(s.add x).ok:=by
 have hy:x % 64 < 64:=Nat.mod_lt _ (by omega);unfold S4.add
 (repeat' split)
 ·exact ⟨or_lt h.1 (pow_lt hy),h.2.1,h.2.2.1,h.2.2.2⟩
 ·exact ⟨h.1,or_lt h.2.1 (pow_lt hy),h.2.2.1,h.2.2.2⟩
 ·exact ⟨h.1,h.2.1,or_lt h.2.2.1 (pow_lt hy),h.2.2.2⟩
 exact ⟨h.1,h.2.1,h.2.2.1,or_lt h.2.2.2 (pow_lt hy)⟩
theorem S4.mem_empty (x:Nat):S4.empty.mem x=false:=by
 unfold S4.mem S4.word S4.empty
 (repeat' split) <;> simp
theorem S4.mem_or (s t:S4) (x:Nat):(s.or t).mem x=(s.mem x || t.mem x):=by
 unfold S4.mem S4.word S4.or
 (repeat' split) <;> simp [Nat.testBit_or]
theorem S4.mem_not {s:S4} (h:s.ok) (x:Nat):s.not.mem x = !s.mem x:=by
 have hy:x % 64 < 64:=Nat.mod_lt _ (by omega);obtain ⟨h1,h2,h3,h4⟩:=h;unfold S4.mem S4.word S4.not
 (repeat' split) <;> exact cpl_testBit _ _ (by assumption) hy
theorem S4.mem_add (s:S4) (x j:Nat) (hx:x < 256) (hj:j < 256):(s.add x).mem j=(s.mem j || decide (x=j)):=by
 have e:x=j ↔ x / 64=j / 64/\x % 64=j % 64:=by omega
 unfold S4.mem S4.word S4.add;by_cases h0:x / 64=0
 ·rw [if_pos h0];by_cases g:j / 64=0
  ·simp only [g,if_true,or_pow_testBit];congr 1;simp [e,h0,g]
  have:¬ x=j:=fun h=>g (by rw [<-h];exact h0);simp [g,this]
 rw [if_neg h0];by_cases h1:x / 64=1
 ·rw [if_pos h1];by_cases g:j / 64=1
  ·simp only [g,if_true,or_pow_testBit];simp [e,h1,g,Nat.testBit_two_pow]
  have:¬ x=j:=fun h=>g (by rw [<-h];exact h1);simp [g,this]
 rw [if_neg h1];by_cases h2:x / 64=2
 ·rw [if_pos h2];by_cases g:j / 64=2
  ·simp only [g,if_true,or_pow_testBit];simp [e,h2,g,Nat.testBit_two_pow]
  have:¬ x=j:=fun h=>g (by rw [<-h];exact h2);simp [g,this]
 rw [if_neg h2];have h3:x / 64=3:=by omega
 by_cases g:j / 64=3
 ·simp only [g,or_pow_testBit];simp [e,h3,g,Nat.testBit_two_pow]
 have:¬ x=j:=fun h=>g (by rw [<-h];exact h3);have g':j / 64=0 ∨ j / 64=1 ∨ j / 64=2:=by omega
 rcases g' with g' | g' | g' <;> simp [g',this]
theorem S4.ext {s t:S4} (h:s.ok) (k:t.ok) (hm:∀ x,x < 256->s.mem x=t.mem x):s=t:=by
 obtain ⟨h1,h2,h3,h4⟩:=h;obtain ⟨k1,k2,k3,k4⟩:=k
 have H:∀ i j,i < 4->j < 64->(s.word i).testBit j=(t.word i).testBit j:=fun i j hi hj=>by
  have:=hm (64 * i+j) (by omega);unfold S4.mem at this
  rwa [show (64 * i+j) / 64=i by omega,show (64 * i+j) % 64=j by omega] at this
 cases s;cases t
 simp only [S4.mk.injEq];exact ⟨word_ext h1 k1 fun j hj=>H 0 j (by omega) hj,word_ext h2 k2 fun j hj=>H 1 j (by omega) hj,word_ext h3 k3 fun j hj=>H 2 j (by omega) hj,word_ext h4 k4 fun j hj=>H 3 j (by omega) hj⟩
def S4.span (f:Nat):Nat->S4
 | 0=>S4.empty
 | n+1=>(S4.span f n).add (f+n)
theorem S4.span_ok (f n:Nat):(S4.span f n).ok:=by
 induction n with
 | zero=>exact S4.empty_ok
 | succ n ih=>exact S4.add_ok ih _
theorem S4.mem_span (f n j:Nat) (h:f+n <= 256) (hj:j < 256):(S4.span f n).mem j=decide (f <= j/\j < f+n):=by
 induction n with
 | zero=>rw [S4.span,S4.mem_empty,Bool.eq_iff_iff];simp;try omega
 | succ n ih=>
  rw [S4.span,S4.mem_add _ _ _ (by omega) hj,ih (by omega)];rw [Bool.eq_iff_iff];simp;omega
def S4.range (f t:Nat):S4:=S4.span f (t+1 - f)
theorem S4.range_ok (f t:Nat):(S4.range f t).ok:=S4.span_ok _ _
theorem S4.mem_range (f t j:Nat) (hf:f < 256) (ht:t < 256) (hj:j < 256):(S4.range f t).mem j=decide (f <= j/\j <= t):=by
 unfold S4.range;rw [S4.mem_span _ _ _ (by omega) hj];rw [Bool.eq_iff_iff];simp;omega
theorem u64_or_pow (a y:Nat) (ha:a < 18446744073709551616) (hy:y < 64):bits .or .u64 (a:Int) (IntKind.u64.wrap (2 ^ y))=((a ||| 2 ^ y:Nat):Int):=by
 have hp:=pow_lt hy
 have e:IntKind.u64.wrap (2 ^ y)=((2 ^ y:Nat):Int):=by
  have e1:((2:Int) ^ y)=((2 ^ y:Nat):Int):=by simp
  rw [e1]
  generalize 2 ^ y=q at *
  rw [IntKind.wrap_u64];omega
 rw [e,u64_or_ a _ ha hp]
def S4.cells (s:S4):Array Value:=#[.int .u64 (s.a:Int),.int .u64 (s.b:Int),.int .u64 (s.c:Int),.int .u64 (s.d:Int)]
theorem S4.word_lt {s:S4} (h:s.ok) (i:Nat):s.word i < 18446744073709551616:=by
 obtain ⟨h1,h2,h3,h4⟩:=h;unfold S4.word
 (repeat' split) <;> assumption
theorem S4.cells_at (s:S4) (i:Nat) (hi:i < 4):s.cells[i]?=some (.int .u64 (s.word i:Int)):=by
 have:i=0 ∨ i=1 ∨ i=2 ∨ i=3:=by omega
 rcases this with rfl | rfl | rfl | rfl <;> rfl
theorem S4.four {w:World} {g:Nat} {t:TypeId} {s:S4} (h:Bk w g t s.cells) :
    (w.cell? ⟨g,0,none⟩=some (.int .u64 (s.a:Int))/\w.cell? ⟨g,1,none⟩=some (.int .u64 (s.b:Int))/\w.cell? ⟨g,2,none⟩=some (.int .u64 (s.c:Int))/\w.cell? ⟨g,3,none⟩=some (.int .u64 (s.d:Int))) /\
    (w.frozen? ⟨g,0,none⟩=false/\w.frozen? ⟨g,1,none⟩=false/\w.frozen? ⟨g,2,none⟩=false/\w.frozen? ⟨g,3,none⟩=false):=
 ⟨⟨h.cell_ rfl,h.cell_ rfl,h.cell_ rfl,h.cell_ rfl⟩,h.frozen 0,h.frozen 1,h.frozen 2,h.frozen 3⟩
theorem S4.cells_add (s:S4) (x:Nat) (hx:x < 256):s.cells.setIfInBounds (x / 64) (.int .u64 ((s.word (x / 64) ||| 2 ^ (x % 64):Nat):Int))=(s.add x).cells:=by
 have:x / 64=0 ∨ x / 64=1 ∨ x / 64=2 ∨ x / 64=3:=by omega
 unfold S4.add;rcases this with h | h | h | h <;> rw [h] <;> rfl
end Go.Proofs.YtfofechcccodeaaGreatDoor
namespace Go.Proofs.YtfofechcccodeaaGreatDoor
open Go.RowKit Go.Proofs.Tryz
set_option linter.unusedVariables false
set_option linter.unusedSimpArgs false
theorem not_any (s:S4) (w:World) (hs:s.ok) :
    Calls prog 128 #[s.val] w fun e w'=>e = .returned s.not.val/\Fr [] w w':=by
 obtain ⟨a,b,c,d⟩:=s;obtain ⟨ha,hb,hc,hd⟩:=hs;dsimp only at ha hb hc hd;unfold S4.val;dsimp only;go_enter func128,ntmps128
 go_wp2_with fail
 refine wp_loop_rounds 5 ?_;rw [rounds_succ];go_wp2_with fail
 rw [rounds_succ];go_wp2_with fail
 rw [rounds_succ];go_wp2_with fail
 rw [rounds_succ];go_wp2_with fail
 rw [rounds_succ];go_wp2_with fail
 refine bodyPost_ret (v := .agg #[.int .u64 (bits .xor .u64 IntKind.u64.max (a:Int)),.int .u64 (bits .xor .u64 IntKind.u64.max (b:Int)),.int .u64 (bits .xor .u64 IntKind.u64.max (c:Int)),.int .u64 (bits .xor .u64 IntKind.u64.max (d:Int))]) (by simp [results,results128,go_sem]) rfl ⟨?_,((Fr.refl [] w).alloc _).alloc _⟩;rw [u64_cpl a ha,u64_cpl b hb,u64_cpl c hc,u64_cpl d hd];rfl
theorem or_any (s t:S4) (w:World) (hs:s.ok) (ht:t.ok) :
    Calls prog 127 #[s.val,t.val] w fun e w'=>e = .returned (s.or t).val/\Fr [] w w':=by
 obtain ⟨a,b,c,d⟩:=s;obtain ⟨ha,hb,hc,hd⟩:=hs;obtain ⟨a',b',c',d'⟩:=t;obtain ⟨ha',hb',hc',hd'⟩:=ht;dsimp only at ha hb hc hd ha' hb' hc' hd';unfold S4.val;dsimp only;go_enter func127,ntmps127
 go_wp2_with fail
 refine wp_loop_rounds 5 ?_;rw [rounds_succ];go_wp2_with fail
 go_region
 go_wp2_with fail
 rw [rounds_succ];go_wp2_with fail
 go_region
 go_wp2_with fail
 rw [rounds_succ];go_wp2_with fail
 go_region
 go_wp2_with fail
 rw [rounds_succ];go_wp2_with fail
 go_region
 go_wp2_with fail
 rw [rounds_succ];go_wp2_with fail
 refine bodyPost_ret (v := .agg #[.int .u64 (bits .or .u64 (a:Int) (a':Int)),.int .u64 (bits .or .u64 (b:Int) (b':Int)),.int .u64 (bits .or .u64 (c:Int) (c':Int)),.int .u64 (bits .or .u64 (d:Int) (d':Int))]) (by simp [results,results127,go_sem]) rfl ⟨?_,?_⟩
 ·rw [u64_or_ a a' ha ha',u64_or_ b b' hb hb',u64_or_ c c' hc hc',u64_or_ d d' hd hd'];rfl
 exact ((((((((Fr.refl [] w).alloc _).alloc _).alloc _).drew).drew).drew).drew)
theorem range_any (f t:Nat) (w:World) (hf:f < 256) (ht:t < 256) :
    Calls prog 117 #[.int .u8 (f:Int),.int .u8 (t:Int)] w fun e w'=>e = .returned (S4.range f t).val/\Fr [] w w':=by
 go_enter func117,ntmps117
 go_wp2_with fail
 go_loopw [6] (fun i wr=>∃ n:Nat,i = .int .i64 ((f+n:Nat):Int)/\f+n <= max f (t+1)/\Fr [] w wr/\w.heap.size+1 < wr.heap.size/\Bk wr (w.heap.size+1) 86 (S4.span f n).cells/\Bk wr w.heap.size 86 S4.empty.cells) (fun i _=>t+1 - (intOf i).toNat)
 case atStart=>
  refine ⟨0,by simp,by omega,((Fr.refl [] w).alloc _).alloc _,by simp,?_,(Bk.new w _ _).alloc _⟩;have:=Bk.new (w.alloc (.cells S4.empty.cells 86)) 86 S4.empty.cells;rw [World.size_alloc] at this;exact this
 case round=>
  obtain ⟨n,rfl,hn,hfr,hlt,hb1,hb0⟩:=hrel;have hlt0:w.heap.size < wr.heap.size:=by omega
  by_cases hle:f+n <= t
  ·have hi4:(f+n) / 64 < 4:=by omega
   have hok:=S4.span_ok f n;have hcell:=hb1.cell_ ((S4.span f n).cells_at _ hi4);have hfz:=hb1.frozen ((f+n) / 64)
   have hnext:Bk (wr.setCell ⟨w.heap.size+1,(f+n) / 64,none⟩ (.int .u64 (((S4.span f n).word ((f+n) / 64) ||| 2 ^ ((f+n) % 64):Nat):Int))) (w.heap.size+1) 86 (S4.span f (n+1)).cells:=by
    have:=hb1.put ((f+n) / 64) (.int .u64 (((S4.span f n).word ((f+n) / 64) ||| 2 ^ ((f+n) % 64):Nat):Int));rw [S4.cells_add _ _ (by omega)] at this;exact this
   have hv:=u64_or_pow ((S4.span f n).word ((f+n) / 64)) ((f+n) % 64) (S4.word_lt hok _) (Nat.mod_lt _ (by omega));rw [<-hv] at hnext;have hfr':Fr [] w (wr.setCell ⟨w.heap.size+1,(f+n) / 64,none⟩ (.int .u64 (bits .or .u64 ((S4.span f n).word ((f+n) / 64):Int) (IntKind.u64.wrap (2 ^ ((f+n) % 64)))))):=hfr.setCell (.inr (by simp)) _;have hb0':Bk (wr.setCell ⟨w.heap.size+1,(f+n) / 64,none⟩ (.int .u64 (bits .or .u64 ((S4.span f n).word ((f+n) / 64):Int) (IntKind.u64.wrap (2 ^ ((f+n) % 64)))))) w.heap.size 86 S4.empty.cells:=hb0.far (by simp) _
   generalize hW:(S4.span f n).word ((f+n) / 64)=W at *
   have HN:=zh hnext;have HFR:=zh hfr';have HB0:=zh hb0';clear hnext hfr' hb0' hfr hb1 hb0 hok hv hW;go_wp2_with fail
   go_region
   go_wp2_with fail
   go_roundw
   case rel=>exact ⟨n+1,by go_num,by omega,HFR.out.drew,by simp;omega,HN.out,HB0.out⟩
   case measure=>simp [intOf];omega
  have hend:S4.span f n=S4.range f t:=by
   unfold S4.range
   congr 1
   omega
  rw [hend] at hb1;obtain ⟨⟨c0,c1,c2,c3⟩,-⟩:=S4.four hb1;obtain ⟨⟨k0,k1,k2,k3⟩,z0,z1,z2,z3⟩:=S4.four hb0
  generalize hR:S4.range f t=R at *
  have HFR:=zh hfr;have HB0:=zh hb0;have HB1:=zh hb1;have HR:=zh hR;clear hfr hb0 hb1 hend hR;go_wp2_with fail
  refine bodyPost_ret (v:=R.val) (by simp [results,results117,go_sem,c0,c1,c2,c3,k0,k1,k2,k3,S4.val]) rfl ⟨by rw [HR.out],((((HFR.out.setCell (.inr (Nat.le_refl _)) _).setCell (.inr (Nat.le_refl _)) _).setCell (.inr (Nat.le_refl _)) _).setCell (.inr (Nat.le_refl _)) _)⟩
end Go.Proofs.YtfofechcccodeaaGreatDoor
