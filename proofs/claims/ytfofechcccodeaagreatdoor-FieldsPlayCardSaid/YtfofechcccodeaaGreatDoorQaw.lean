/-
  Small texts in one (Er1, Er2, Er3). No conditions.
-/
import Derived.Test.YtfofechcccodeaaGreatDoorQas
import Derived.Test.YtfofechcccodeaaGreatDoorQac
import Derived.Test.YtfofechcccodeaaGreatDoorQad
import Derived.LoopTactic
import Derived.Deep.QuietTactic
import Derived.BigQuiet
import Derived.Deep.Cut
namespace Go.Proofs.YtfofechcccodeaaGreatDoor
open Go.RowKit Go.Proofs.Tryz
set_option linter.unusedVariables false
set_option linter.unusedSimpArgs false
set_option maxHeartbeats 1000000
structure Rdr (w:World) (g:Nat) (A:Option Addr) (c:Nat) (bs:List UInt8) (i d:Nat):Prop where
 blk:Bk w g 130 #[.slice A bs.length c,.int .i64 (i:Int),.int .i64 (d:Int)]
 byt:Bytes w A bs
 lt_:bs ≠ []->∀ a,A=some a->a.block < g
 cap:bs.length <= c
 nil:A=none->c=0
 capm:c <= maxLen
 len:bs.length <= 1000
 at_:i <= bs.length
 deep:d <= 64
 glob:GlobOk w
 far:1 < g
namespace Rdr
variable {w w':World} {g:Nat} {A:Option Addr} {c:Nat} {bs:List UInt8} {i d:Nat}
theorem byt_fr {l:List Nat} (h:Rdr w g A c bs i d) (hf:Fr l w w') (hl:∀ b ∈ l,g <= b):Bytes w' A bs:=by
 by_cases e:bs=[]
 ·subst e;exact .inl rfl
 exact h.byt.fr hf (fun a ha _ hm=>by have:=hl _ hm;have:=h.lt_ e a ha;omega)
theorem glob_fr {l:List Nat} (h:Rdr w g A c bs i d) (hf:Fr l w w') (hl:∀ b ∈ l,g <= b):GlobOk w':=by
 obtain ⟨m,hm⟩:=h.glob;exact ⟨m,(hf.cell (World.block_lt_of_cell? w _ hm) (fun hm'=>by have:=hl _ hm';have h0:=h.far;have h1:(1:Nat)=(⟨1,0,none⟩:Addr).block:=rfl;omega)).trans hm⟩
theorem fr_far {l:List Nat} (h:Rdr w g A c bs i d) (hf:Fr l w w') (hl:∀ b ∈ l,g < b):Rdr w' g A c bs i d:=
 { h with blk:=h.blk.fr hf (fun hm=>by have:=hl _ hm;omega),byt:=h.byt_fr hf (fun b hb=>Nat.le_of_lt (hl b hb)),glob:=h.glob_fr hf (fun b hb=>Nat.le_of_lt (hl b hb)) }
theorem fr_nil (h:Rdr w g A c bs i d) (hf:Fr [] w w'):Rdr w' g A c bs i d:=h.fr_far hf (by simp)
theorem drewN (h:Rdr w g A c bs i d) (n:Nat):Rdr (w.drewN n) g A c bs i d:=h.fr_nil ((Fr.refl [] w).drewN n)
theorem move (h:Rdr w g A c bs i d) {j:Nat} (hj:j <= bs.length):Rdr (w.setCell ⟨g,1,none⟩ (.int .i64 (j:Int))) g A c bs j d:=
 { h with blk:=h.blk.put 1 _,byt:=h.byt_fr (l:=[g]) ((Fr.refl [g] w).setCell (.inl (by simp)) _) (by simp),at_:=hj,glob:=h.glob_fr (l:=[g]) ((Fr.refl [g] w).setCell (.inl (by simp)) _) (by simp) }
theorem open_ (h:Rdr w g A c bs i d) {e:Nat} (he:e <= 64):Rdr (w.setCell ⟨g,2,none⟩ (.int .i64 (e:Int))) g A c bs i e:=
 { h with blk:=h.blk.put 2 _,byt:=h.byt_fr (l:=[g]) ((Fr.refl [g] w).setCell (.inl (by simp)) _) (by simp),deep:=he,glob:=h.glob_fr (l:=[g]) ((Fr.refl [g] w).setCell (.inl (by simp)) _) (by simp) }
theorem cells (h:Rdr w g A c bs i d):w.cell? ⟨g,0,none⟩=some (.slice A bs.length c)/\w.cell? ⟨g,1,none⟩=some (.int .i64 (i:Int))/\w.cell? ⟨g,2,none⟩=some (.int .i64 (d:Int))/\w.frozen? ⟨g,1,none⟩=false/\w.frozen? ⟨g,2,none⟩=false:=
 ⟨h.blk.cell_ rfl,h.blk.cell_ rfl,h.blk.cell_ rfl,h.blk.frozen 1,h.blk.frozen 2⟩
end Rdr
theorem body_gen1 {P:Program} {f:Func} {post:Ending->World->Prop} {ex:Exit} {a:Act} {w:World} (h:∀ W,W=w->bodyPost P f post ex a W):bodyPost P f post ex a w:=h w rfl
theorem efault_any (p c:Int) (w:World):Calls prog 55 #[.int .i64 p,.int .i64 c] w (FaultPost w p c):=by
 go_enter func55,ntmps55
 go_wp2_with fail
 go_ret
 exact ⟨_,rfl,⟨_,rfl,Bk.new _ _ _⟩,(Fr.refl _ _).alloc _⟩
def stB (bs:List UInt8) (i c:Nat):Bool:=decide (bn bs i=c)
theorem stB_yes {bs:List UInt8} {i c:Nat} (h:bn bs i=c):stB bs i c=true:=by unfold stB;simp [h]
theorem stB_no {bs:List UInt8} {i c:Nat} (h:bn bs i ≠ c):stB bs i c=false:=by unfold stB;simp [h]
theorem bn_past {bs:List UInt8} {i:Nat} (h:bs.length <= i):bn bs i=0:=by
 unfold bn;simp [List.getD_eq_getElem?_getD,List.getElem?_eq_none h]
theorem stands_any {w:World} {g:Nat} {A:Option Addr} {c:Nat} {bs:List UInt8} {i d:Nat} (h:Rdr w g A c bs i d) (x:Nat) (hx:0 < x) :
    Calls prog 70 #[.pointer (some ⟨g,0,none⟩),.int .u8 (x:Int)] w fun e w'=>e = .returned (.bool (stB bs i x))/\∃ n,w'=w.drewN n:=by
 obtain ⟨c0,c1,-, -, -⟩:=h.cells;have hlen:=h.len;by_cases hlt:i < bs.length
 ·obtain ⟨b,off,rfl,hb,hc⟩:=byte_at h.byt (i:=i) hlt;have e0:=hc i hlt;obtain ⟨q,hq⟩:∃ q,q=bn bs i:=⟨_,rfl⟩
  have hr:stB bs i x=((q:Int) == (x:Int)):=by
   rw [hq,Bool.eq_iff_iff];unfold stB;simp;omega
  rw [hr];rw [<-hq] at e0;have h1:decide (i < bs.length)=true:=by simpa using hlt
  obtain ⟨n,hn⟩:∃ n,n=bs.length:=⟨_,rfl⟩;rw [<-hn] at c0 hlt h1 hlen;have h2:decide ((i:Int) < (n:Int))=true:=by simpa using hlt
  have h3:(i:Int) < (n:Int):=by omega
  clear hc h hr hq hn;go_enter func70,ntmps70
  go_wp2_with fail
  go_quiet (fail)
  go_wp2_with fail
  go_ret
  exact ⟨rfl,_,rfl⟩
 have hr:stB bs i x=false:=stB_no (by rw [bn_past (by omega)];omega);rw [hr];have h1:decide (i < bs.length)=false:=by simpa using hlt
 obtain ⟨n,hn⟩:∃ n,n=bs.length:=⟨_,rfl⟩;rw [<-hn] at c0 hlt h1 hlen;have h2:decide ((i:Int) < (n:Int))=false:=by simp;omega
 clear h hr hn;go_enter func70,ntmps70
 go_wp2_with fail
 go_quiet (fail)
 go_wp2_with fail
 go_ret
 exact ⟨rfl,_,rfl⟩
theorem eset_any (s:S4) (w:World):Calls prog 116 #[s.val] w fun e w'=>e = .returned (.agg #[.int .i64 1,.int .u64 s.a,.int .u64 s.b,.int .u64 s.c,.int .u64 s.d,.int .i64 0,.int .i64 0,.slice none 0 0])/\Fr [] w w':=by
 obtain ⟨a,b,c,d⟩:=s;unfold S4.val;go_enter func116,ntmps116
 go_wp2_with fail
 refine body_gen1 fun W hW=>?_;refine bodyPost_ret (v := .agg #[.int .i64 1,.int .u64 a,.int .u64 b,.int .u64 c,.int .u64 d,.int .i64 0,.int .i64 0,.slice none 0 0]) (by simp [results,results116,go_sem,hW]) rfl ⟨rfl,?_⟩;rw [hW]
 (repeat (first | (refine Fr.setCell ?_ (.inr (by simp)) _) | (refine Fr.alloc ?_ _)))
 exact Fr.refl _ _
end Go.Proofs.YtfofechcccodeaaGreatDoor
namespace Go.Proofs.YtfofechcccodeaaGreatDoor
open Go.RowKit Go.Proofs.Tryz
set_option linter.unusedVariables false
set_option linter.unusedSimpArgs false
set_option maxRecDepth 100000
set_option maxHeartbeats 4000000
def DigTo (l:List UInt8) (k:Nat):Prop:=∀ j,j < k->48 <= bn l j/\bn l j <= 57
theorem tw_take:∀ (l:List UInt8) (k:Nat),DigTo l k->k <= l.length->(k=l.length ∨ ¬ (48 <= bn l k/\bn l k <= 57))->l.takeWhile isDig=l.take k
 | [],k,h,hk,he=>by simp
 | c :: r,0,h,hk,he=>by
  have hc:isDig c=false:=by
   rcases he with he | he
   ·simp at he
   unfold isDig;simp [bn] at he ⊢; omega
  simp [List.takeWhile_cons,hc]
 | c :: r,k+1,h,hk,he=>by
  have h0:=h 0 (by omega);have hc:isDig c=true:=by unfold isDig;simp [bn] at h0 ⊢; omega
  have:=tw_take r k (fun j hj=>by have:=h (j+1) (by omega);simpa [bn] using this) (by simpa using hk) (by
   rcases he with he | he
   ·left;simpa using he
   right;simpa [bn] using he)
  simp [List.takeWhile_cons,hc,this]
theorem tw_gt:∀ (l:List UInt8) (k:Nat),DigTo l k->k <= l.length->k <= (l.takeWhile isDig).length
 | [],k,h,hk=>by simpa using hk
 | c :: r,0,h,hk=>by omega
 | c :: r,k+1,h,hk=>by
  have h0:=h 0 (by omega);have hc:isDig c=true:=by unfold isDig;simp [bn] at h0 ⊢; omega
  have:=tw_gt r k (fun j hj=>by have:=h (j+1) (by omega);simpa [bn] using this) (by simpa using hk);simp [List.takeWhile_cons,hc];omega
theorem numV_snoc (l:List UInt8) (k:Nat) (hk:k < l.length):numV (l.take (k+1))=numV (l.take k) * 10+(bn l k - 48):=by
 rw [List.take_succ_eq_append_getElem hk];unfold numV;rw [List.foldl_append];simp [bn,List.getD_eq_getElem?_getD,List.getElem?_eq_getElem hk]
theorem numV_le (l:List UInt8) (k:Nat) (h:DigTo l k) (hk:k <= l.length) (h3:k <= 3):numV (l.take k) <= 999:=by
 have h0:numV (l.take 0)=0:=by simp [numV]
 have st:∀ j,j < k->numV (l.take (j+1)) <= numV (l.take j) * 10+9:=fun j hj=>by
  rw [numV_snoc l j (by omega)];have:=h j hj;omega
 rcases Nat.lt_or_ge 0 k with a | a
 ·have s0:numV (l.take 1) <= numV (l.take 0) * 10+9:=st 0 a;rcases Nat.lt_or_ge 1 k with b | b
  ·have s1:numV (l.take 2) <= numV (l.take 1) * 10+9:=st 1 b;rcases Nat.lt_or_ge 2 k with c | c
   ·have s2:numV (l.take 3) <= numV (l.take 2) * 10+9:=st 2 c;have:k=3:=by omega
    subst this;omega
   have:k=2:=by omega
   subst this;omega
  have:k=1:=by omega
  subst this;omega
 have:k=0:=by omega
 subst this;omega
theorem DigTo.snoc {l:List UInt8} {k:Nat} (h:DigTo l k) (h1:48 <= bn l k) (h2:bn l k <= 57):DigTo l (k+1):=fun j hj=>by
 rcases Nat.lt_or_ge j k with hk | hk
 ·exact h j hk
 have:j=k:=by omega
 subst this;exact ⟨h1,h2⟩
theorem numS_at {l:List UInt8} {k:Nat} (h:DigTo l k) (hk:k <= l.length) (h3:k <= 3) (he:k=l.length ∨ ¬ (48 <= bn l k/\bn l k <= 57)):numS l=(numV (l.take k),k):=by
 unfold numS;rw [tw_take l k h hk he];have:(l.take k).length=k:=by simp;omega
 rw [this,if_neg (by omega)]
theorem numS_over {l:List UInt8} (h:DigTo l 4) (hk:4 <= l.length):numS l=(0,0):=by
 unfold numS;have:=tw_gt l 4 h hk;rw [if_pos (by omega)]
def NumRel (l:List UInt8) (v n:Value):Prop:=∃ k:Nat,n = .int .i64 (k:Int)/\k <= l.length/\k <= 3/\DigTo l k/\v = .int .i64 (numV (l.take k):Int)
theorem number_any {w:World} {A:Option Addr} {l:List UInt8} {c:Nat} (h:Bytes w A l) (hl:l.length <= 1000) (n:Nat) (hn:l.length=n) :
    Calls prog 129 #[.slice A n c] w fun e w'=>e = .returned (.tuple #[.int .i64 (numS l).1,.int .i64 (numS l).2])/\w=w':=by
 have hl':n <= 1000:=by omega
 have HN:=zh hn;have HB:=zh h;clear h hn hl;go_enter func129,ntmps129
 go_wp2_with fail
 go_loop [2,3] (fun v k=>NumRel l v k) (fun _ k=>4 - (intOf k).toNat)
 case atStart=>exact ⟨0,rfl,Nat.zero_le _,Nat.zero_le _,fun j hj=>by omega,by simp [numV]⟩
 case round=>
  unfold NumRel at hrel;obtain ⟨k,rfl,hk1,hk2,hd,rfl⟩:=hrel;rw [HN.out] at hk1;have hv:=numV_le l k hd (by rw [HN.out];exact hk1) hk2;obtain ⟨V,hV⟩:∃ V,V=numV (l.take k):=⟨_,rfl⟩;rw [<-hV] at hv ⊢; have HV:=zh hV;have HD:=zh hd;clear hV hd;by_cases hlt:k < n
  ·obtain ⟨b,off,rfl,hb,hc⟩:=byte_at HB.out (i:=k) (by rw [HN.out];exact hlt);have e0:=hc k (by rw [HN.out];exact hlt);obtain ⟨q,hq⟩:∃ q,q=bn l k:=⟨_,rfl⟩;rw [<-hq] at e0;have HQ:=zh hq;have hq256:q < 256:=by rw [hq];exact bn_lt _ _
   clear hc hq;by_cases h1:48 <= q
   ·have g1:decide (48 <= q)=true:=by simpa using h1
    by_cases h2:q <= 57
    ·have g2:decide (q <= 57)=true:=by simpa using h2
     by_cases h3:k=3
     ·subst h3;have hn:=numS_over (HD.out.snoc (by rw [<-HQ.out];exact h1) (by rw [<-HQ.out];exact h2)) (by rw [HN.out];omega);have HNS:=zh hn;clear hn;go_wp2_with fail
      go_ret2
      exact ⟨by rw [HNS.out];rfl,rfl⟩
     have h3':(k:Int) ≠ 3:=by omega
     have hs:=numV_snoc l k (by rw [HN.out];exact hlt);rw [<-HV.out,<-HQ.out] at hs;have HS:=zh hs;clear hs;go_wp2_with fail
     go_round
     case rel=>exact ⟨k+1,by go_num,by rw [HN.out];omega,by omega,HD.out.snoc (by rw [<-HQ.out];exact h1) (by rw [<-HQ.out];exact h2),by rw [HS.out];go_num⟩
     case measure=>simp [intOf];omega
    have g2:decide (q <= 57)=false:=by simpa using h2
    have hn:=numS_at HD.out (by rw [HN.out];exact hk1) hk2 (.inr (by rw [<-HQ.out];omega));have HNS:=zh hn;clear hn;go_wp2_with fail
    go_ret2
    exact ⟨by rw [HNS.out,<-HV.out];rfl,rfl⟩
   have g1:decide (48 <= q)=false:=by simpa using h1
   have hn:=numS_at HD.out (by rw [HN.out];exact hk1) hk2 (.inr (by rw [<-HQ.out];omega));have HNS:=zh hn;clear hn;go_wp2_with fail
   go_ret2
   exact ⟨by rw [HNS.out,<-HV.out];rfl,rfl⟩
  have hn:=numS_at HD.out (by rw [HN.out];exact hk1) hk2 (.inl (by rw [HN.out];omega));have HNS:=zh hn;clear hn;go_wp2_with fail
  go_ret2
  exact ⟨by rw [HNS.out,<-HV.out];rfl,rfl⟩
def ivV (r:Int × Int × Nat):Value := .tuple #[.int .i64 r.1,.int .i64 r.2.1,.int .i64 (r.2.2:Int)]
theorem ret_iv {a b:Int} {n:Nat} {r:Int × Int × Nat} (h:r=(a,b,n)) {x y z:Int} (hx:x=a) (hy:y=b) (hz:z=(n:Int)):Ending.returned (.tuple #[.int .i64 x,.int .i64 y,.int .i64 z]) = .returned (ivV r):=by
 subst h hx hy hz;rfl
theorem interval_any {w:World} {A:Option Addr} {l:List UInt8} {c:Nat} (h:Bytes w A l) (hl:l.length <= 1000) (h0:0 < l.length) (hc:l.length <= c) (hA:A=none->c=0) (L:Nat) (hL:l.length=L) (hcm:c <= maxLen) :
    Calls prog 119 #[.slice A L c] w fun e w'=>e = .returned (ivV (intervalS l))/\w=w':=by
 rw [hL] at hl h0 hc;unfold maxLen at hcm
 have hcut:∀ (W:World) (X:Option Addr) (k:Nat),k <= L->At W X (((byteVals l).drop k).take (L - k))->Bytes W X (l.drop k):=fun W X k hk hX=>by
  have e:((byteVals l).drop k).take (L - k)=byteVals (l.drop k):=by
   rw [List.take_of_length_le (by rw [List.length_drop,byteVals_length];omega),byteVals,byteVals,List.map_drop]
  rwa [e] at hX
 obtain ⟨i0,hi0,hz1⟩:∃ i0,prog.info? 5=some i0/\i0.size=1:=by
  obtain ⟨i0,h1,_,h2,_⟩:∃ i,prog.info? 5=some i/\i.zero=some (.int .u8 0)/\i.size=1/\i.bytes=1:=info_parts (by kernel_rfl);exact ⟨i0,h1,h2⟩
 have hnum:∀ (W:World) (X:Option Addr) (k:Nat),k <= L->Bytes W X (l.drop k)->∀ m cc:Nat,m=L - k->Calls prog 129 #[.slice X m cc] W fun e w'=>e = .returned (.tuple #[.int .i64 (numS (l.drop k)).1,.int .i64 (numS (l.drop k)).2])/\W=w':=fun W X k hk hX m cc hm=>
  number_any hX (by simp;omega) m (by simp;omega)
 obtain ⟨v,hv⟩:∃ v,v=(numS (l.drop 1)).1:=⟨_,rfl⟩;obtain ⟨n,hn⟩:∃ n,n=(numS (l.drop 1)).2:=⟨_,rfl⟩;have hnum1:=hnum w;obtain ⟨hn1,hn3,hv9⟩:=numS_le (l.drop 1);rw [<-hv] at hv9;rw [<-hn] at hn1 hn3;have hn2:n+1 <= L:=by simp at hn1;omega
 have hiv:intervalS l=intervalT l v n:=by unfold intervalS;rw [hv,hn]
 rw [hiv]
 have hnum2:∀ (X:Option Addr),Bytes w X (l.drop 1)->∀ cc:Nat,Calls prog 129 #[.slice X (L - 1) cc] w fun e w'=>e = .returned (.tuple #[.int .i64 v,.int .i64 n])/\w=w':=fun X hX cc=>by
  rw [hv,hn];exact hnum w X 1 (by omega) hX (L - 1) cc rfl
 have HCUT:=zh hcut;have HNUM:=zh hnum;have HNUM2:=zh hnum2;have HL:=zh hL;have HB:=zh h;have HNIL:=zh hA;clear hcut hnum hnum1 hnum2 hn1 hL hiv hv hn h hA;by_cases hn0:n=0
 ·have hr:intervalT l v n=(0,0,0):=by unfold intervalT;rw [if_pos hn0]
  rw [hr];subst hn0;have HR:=zh hr;clear hr;go_enter func119,ntmps119
  go_wp2_with (first
   | (refine wpList_cut rfl 64 (.tmp 7) (some (.const (.int .i64 1))) none none rfl 5 i0 underlying64 hi0 hz1 _ L c rfl (byteVals l) HB.out (by rw [byteVals_length];exact HL.out) hc HNIL.out 1 L c (.inr rfl) (.inl ⟨rfl,rfl,rfl⟩) (.inl ⟨rfl,rfl⟩) (by omega) (by omega) (by omega) (by omega) ?_;intro X hX hX0 hX1;have HX:=zh (HCUT.out _ X 1 (by omega) hX);clear hX hX0 hX1)
   | (go_at_call 129;refine (HNUM2.out X HX.out _).mono ?_;rintro e w1 ⟨rfl,rfl⟩))
  go_ret3
  exact ⟨rfl,rfl⟩
 have hnz:((n:Int) == 0)=false:=by simp;omega
 by_cases hlt:n+1 < L
 ·obtain ⟨b,off,rfl,hb,hcell⟩:=byte_at HB.out (i:=n+1) (by rw [HL.out];exact hlt);have e0:=hcell (n+1) (by rw [HL.out];exact hlt);have HCELL:=zh hcell;clear hcell;have hd1:decide (n+1 < L)=true:=by simpa using hlt
  by_cases h44:bn l (n+1)=44
  ·obtain ⟨m,hm⟩:∃ m,m=(numS (l.drop (n+2))).1:=⟨_,rfl⟩;obtain ⟨k,hk⟩:∃ k,k=(numS (l.drop (n+2))).2:=⟨_,rfl⟩;obtain ⟨hk1,hk3,hm9⟩:=numS_le (l.drop (n+2));rw [<-hm] at hm9;rw [<-hk] at hk1 hk3;have hk2:n+2+k <= L:=by simp at hk1;have:=HL.out;omega
   have hnum3:∀ (X:Option Addr),Bytes w X (l.drop (n+2))->∀ cc:Nat,Calls prog 129 #[.slice X (L - (n+2)) cc] w fun e w'=>e = .returned (.tuple #[.int .i64 m,.int .i64 k])/\w=w':=fun X hX cc=>by
    rw [hm,hk];exact HNUM.out w X (n+2) (by omega) hX (L - (n+2)) cc rfl
   have hr:intervalT l v n=if bn l (n+2+k)=125 then ((v:Int),(if k=0 then -1 else (m:Int)),n+2+k+1) else (0,0,0):=by
    unfold intervalT;rw [if_neg hn0,if_pos h44,<-hm,<-hk]
   rw [h44] at e0;have HR:=zh hr;have HNUM3:=zh hnum3;clear hr hnum3 hm hk hk1 h44;by_cases hlt2:n+2+k < L
   ·have e1:=HCELL.out (n+2+k) (by rw [HL.out];exact hlt2);obtain ⟨q,hq⟩:∃ q,q=bn l (n+2+k):=⟨_,rfl⟩;rw [<-hq] at e1;have hr2:=HR.out;rw [<-hq] at hr2;have HR2:=zh hr2;have hq256:q < 256:=by rw [hq];exact bn_lt _ _
    have hd2:decide (L <= n+2+k)=false:=by simp;omega
    clear hr2 hq HR;by_cases hk0:k=0
    ·subst hk0;by_cases h125:q=125
     ·subst h125;go_enter func119,ntmps119
      go_wp2_with (first
       | (refine wpList_cut rfl 64 (.tmp 7) (some (.const (.int .i64 1))) none none rfl 5 i0 underlying64 hi0 hz1 _ L c rfl (byteVals l) HB.out (by rw [byteVals_length];exact HL.out) hc HNIL.out 1 L c (.inr rfl) (.inl ⟨rfl,rfl,rfl⟩) (.inl ⟨rfl,rfl⟩) (by omega) (by omega) (by omega) (by omega) ?_;intro X hX hX0 hX1;have HX:=zh (HCUT.out _ X 1 (by omega) hX);clear hX hX0 hX1)
       | (refine wpList_cut rfl 64 (.tmp 31) (some (.tmp 32)) none none rfl 5 i0 underlying64 hi0 hz1 _ L c rfl (byteVals l) HB.out (by rw [byteVals_length];exact HL.out) hc HNIL.out (n+2) L c (.inr (by first | rfl | (simp [Act.eval];done) | (simp [Act.eval];omega))) (.inl ⟨rfl,rfl,rfl⟩) (.inl ⟨rfl,rfl⟩) (by omega) (by omega) (by omega) (by omega) ?_;intro Y hY hY0 hY1;have HY:=zh (HCUT.out _ Y (n+2) (by omega) hY);clear hY hY0 hY1)
       | (go_at_call 129;refine (HNUM3.out Y HY.out _).mono ?_;rintro e w1 ⟨rfl,rfl⟩)
       | (go_at_call 129;refine (HNUM2.out X HX.out _).mono ?_;rintro e w1 ⟨rfl,rfl⟩))
      go_ret3
      exact ⟨ret_iv HR2.out rfl rfl (by omega),rfl⟩
     have ht:((q:Int) != 125)=true:=by simp;omega
     go_enter func119,ntmps119
     go_wp2_with (first
      | (refine wpList_cut rfl 64 (.tmp 7) (some (.const (.int .i64 1))) none none rfl 5 i0 underlying64 hi0 hz1 _ L c rfl (byteVals l) HB.out (by rw [byteVals_length];exact HL.out) hc HNIL.out 1 L c (.inr rfl) (.inl ⟨rfl,rfl,rfl⟩) (.inl ⟨rfl,rfl⟩) (by omega) (by omega) (by omega) (by omega) ?_;intro X hX hX0 hX1;have HX:=zh (HCUT.out _ X 1 (by omega) hX);clear hX hX0 hX1)
      | (refine wpList_cut rfl 64 (.tmp 31) (some (.tmp 32)) none none rfl 5 i0 underlying64 hi0 hz1 _ L c rfl (byteVals l) HB.out (by rw [byteVals_length];exact HL.out) hc HNIL.out (n+2) L c (.inr (by first | rfl | (simp [Act.eval];done) | (simp [Act.eval];omega))) (.inl ⟨rfl,rfl,rfl⟩) (.inl ⟨rfl,rfl⟩) (by omega) (by omega) (by omega) (by omega) ?_;intro Y hY hY0 hY1;have HY:=zh (HCUT.out _ Y (n+2) (by omega) hY);clear hY hY0 hY1)
      | (go_at_call 129;refine (HNUM3.out Y HY.out _).mono ?_;rintro e w1 ⟨rfl,rfl⟩)
      | (go_at_call 129;refine (HNUM2.out X HX.out _).mono ?_;rintro e w1 ⟨rfl,rfl⟩))
     go_ret3
     exact ⟨ret_iv (HR2.out.trans (if_neg h125)) rfl rfl rfl,rfl⟩
    have hkz:((k:Int) == 0)=false:=by simp;omega
    by_cases h125:q=125
    ·subst h125;go_enter func119,ntmps119
     go_wp2_with (first
      | (refine wpList_cut rfl 64 (.tmp 7) (some (.const (.int .i64 1))) none none rfl 5 i0 underlying64 hi0 hz1 _ L c rfl (byteVals l) HB.out (by rw [byteVals_length];exact HL.out) hc HNIL.out 1 L c (.inr rfl) (.inl ⟨rfl,rfl,rfl⟩) (.inl ⟨rfl,rfl⟩) (by omega) (by omega) (by omega) (by omega) ?_;intro X hX hX0 hX1;have HX:=zh (HCUT.out _ X 1 (by omega) hX);clear hX hX0 hX1)
      | (refine wpList_cut rfl 64 (.tmp 31) (some (.tmp 32)) none none rfl 5 i0 underlying64 hi0 hz1 _ L c rfl (byteVals l) HB.out (by rw [byteVals_length];exact HL.out) hc HNIL.out (n+2) L c (.inr (by first | rfl | (simp [Act.eval];done) | (simp [Act.eval];omega))) (.inl ⟨rfl,rfl,rfl⟩) (.inl ⟨rfl,rfl⟩) (by omega) (by omega) (by omega) (by omega) ?_;intro Y hY hY0 hY1;have HY:=zh (HCUT.out _ Y (n+2) (by omega) hY);clear hY hY0 hY1)
      | (go_at_call 129;refine (HNUM3.out Y HY.out _).mono ?_;rintro e w1 ⟨rfl,rfl⟩)
      | (go_at_call 129;refine (HNUM2.out X HX.out _).mono ?_;rintro e w1 ⟨rfl,rfl⟩))
     go_ret3
     exact ⟨ret_iv (HR2.out.trans (by simp [hk0];rfl)) rfl rfl (by omega),rfl⟩
    have ht:((q:Int) != 125)=true:=by simp;omega
    go_enter func119,ntmps119
    go_wp2_with (first
     | (refine wpList_cut rfl 64 (.tmp 7) (some (.const (.int .i64 1))) none none rfl 5 i0 underlying64 hi0 hz1 _ L c rfl (byteVals l) HB.out (by rw [byteVals_length];exact HL.out) hc HNIL.out 1 L c (.inr rfl) (.inl ⟨rfl,rfl,rfl⟩) (.inl ⟨rfl,rfl⟩) (by omega) (by omega) (by omega) (by omega) ?_;intro X hX hX0 hX1;have HX:=zh (HCUT.out _ X 1 (by omega) hX);clear hX hX0 hX1)
     | (refine wpList_cut rfl 64 (.tmp 31) (some (.tmp 32)) none none rfl 5 i0 underlying64 hi0 hz1 _ L c rfl (byteVals l) HB.out (by rw [byteVals_length];exact HL.out) hc HNIL.out (n+2) L c (.inr (by first | rfl | (simp [Act.eval];done) | (simp [Act.eval];omega))) (.inl ⟨rfl,rfl,rfl⟩) (.inl ⟨rfl,rfl⟩) (by omega) (by omega) (by omega) (by omega) ?_;intro Y hY hY0 hY1;have HY:=zh (HCUT.out _ Y (n+2) (by omega) hY);clear hY hY0 hY1)
     | (go_at_call 129;refine (HNUM3.out Y HY.out _).mono ?_;rintro e w1 ⟨rfl,rfl⟩)
     | (go_at_call 129;refine (HNUM2.out X HX.out _).mono ?_;rintro e w1 ⟨rfl,rfl⟩))
    go_ret3
    exact ⟨ret_iv (HR2.out.trans (if_neg h125)) rfl rfl rfl,rfl⟩
   have hr2:=HR.out;rw [bn_past (by rw [HL.out];omega),if_neg (by omega)] at hr2;have HR2:=zh hr2;have hd2:decide (L <= n+2+k)=true:=by simp;omega
   clear hr2 HR;by_cases hk0:k=0
   ·subst hk0;go_enter func119,ntmps119
    go_wp2_with (first
     | (refine wpList_cut rfl 64 (.tmp 7) (some (.const (.int .i64 1))) none none rfl 5 i0 underlying64 hi0 hz1 _ L c rfl (byteVals l) HB.out (by rw [byteVals_length];exact HL.out) hc HNIL.out 1 L c (.inr rfl) (.inl ⟨rfl,rfl,rfl⟩) (.inl ⟨rfl,rfl⟩) (by omega) (by omega) (by omega) (by omega) ?_;intro X hX hX0 hX1;have HX:=zh (HCUT.out _ X 1 (by omega) hX);clear hX hX0 hX1)
     | (refine wpList_cut rfl 64 (.tmp 31) (some (.tmp 32)) none none rfl 5 i0 underlying64 hi0 hz1 _ L c rfl (byteVals l) HB.out (by rw [byteVals_length];exact HL.out) hc HNIL.out (n+2) L c (.inr (by first | rfl | (simp [Act.eval];done) | (simp [Act.eval];omega))) (.inl ⟨rfl,rfl,rfl⟩) (.inl ⟨rfl,rfl⟩) (by omega) (by omega) (by omega) (by omega) ?_;intro Y hY hY0 hY1;have HY:=zh (HCUT.out _ Y (n+2) (by omega) hY);clear hY hY0 hY1)
     | (go_at_call 129;refine (HNUM3.out Y HY.out _).mono ?_;rintro e w1 ⟨rfl,rfl⟩)
     | (go_at_call 129;refine (HNUM2.out X HX.out _).mono ?_;rintro e w1 ⟨rfl,rfl⟩))
    go_ret3
    exact ⟨ret_iv HR2.out rfl rfl rfl,rfl⟩
   have hkz:((k:Int) == 0)=false:=by simp;omega
   go_enter func119,ntmps119
   go_wp2_with (first
    | (refine wpList_cut rfl 64 (.tmp 7) (some (.const (.int .i64 1))) none none rfl 5 i0 underlying64 hi0 hz1 _ L c rfl (byteVals l) HB.out (by rw [byteVals_length];exact HL.out) hc HNIL.out 1 L c (.inr rfl) (.inl ⟨rfl,rfl,rfl⟩) (.inl ⟨rfl,rfl⟩) (by omega) (by omega) (by omega) (by omega) ?_;intro X hX hX0 hX1;have HX:=zh (HCUT.out _ X 1 (by omega) hX);clear hX hX0 hX1)
    | (refine wpList_cut rfl 64 (.tmp 31) (some (.tmp 32)) none none rfl 5 i0 underlying64 hi0 hz1 _ L c rfl (byteVals l) HB.out (by rw [byteVals_length];exact HL.out) hc HNIL.out (n+2) L c (.inr (by first | rfl | (simp [Act.eval];done) | (simp [Act.eval];omega))) (.inl ⟨rfl,rfl,rfl⟩) (.inl ⟨rfl,rfl⟩) (by omega) (by omega) (by omega) (by omega) ?_;intro Y hY hY0 hY1;have HY:=zh (HCUT.out _ Y (n+2) (by omega) hY);clear hY hY0 hY1)
    | (go_at_call 129;refine (HNUM3.out Y HY.out _).mono ?_;rintro e w1 ⟨rfl,rfl⟩)
    | (go_at_call 129;refine (HNUM2.out X HX.out _).mono ?_;rintro e w1 ⟨rfl,rfl⟩))
   go_ret3
   exact ⟨ret_iv HR2.out rfl rfl rfl,rfl⟩
  have hr:intervalT l v n=if bn l (n+1)=125 then ((v:Int),(v:Int),n+2) else (0,0,0):=by
   unfold intervalT;rw [if_neg hn0,if_neg h44]
  obtain ⟨q,hq⟩:∃ q,q=bn l (n+1):=⟨_,rfl⟩;rw [<-hq] at e0 hr h44;have hq256:q < 256:=by rw [hq];exact bn_lt _ _
  have ht4:((q:Int) == 44)=false:=by simp;omega
  have hd2:decide (L <= n+1)=false:=by simp;omega
  have HR2:=zh hr;clear hr hq h44;by_cases h125:q=125
  ·subst h125;go_enter func119,ntmps119
   go_wp2_with (first
    | (refine wpList_cut rfl 64 (.tmp 7) (some (.const (.int .i64 1))) none none rfl 5 i0 underlying64 hi0 hz1 _ L c rfl (byteVals l) HB.out (by rw [byteVals_length];exact HL.out) hc HNIL.out 1 L c (.inr rfl) (.inl ⟨rfl,rfl,rfl⟩) (.inl ⟨rfl,rfl⟩) (by omega) (by omega) (by omega) (by omega) ?_;intro X hX hX0 hX1;have HX:=zh (HCUT.out _ X 1 (by omega) hX);clear hX hX0 hX1)
    | (refine wpList_cut rfl 64 (.tmp 31) (some (.tmp 32)) none none rfl 5 i0 underlying64 hi0 hz1 _ L c rfl (byteVals l) HB.out (by rw [byteVals_length];exact HL.out) hc HNIL.out (n+2) L c (.inr (by first | rfl | (simp [Act.eval];done) | (simp [Act.eval];omega))) (.inl ⟨rfl,rfl,rfl⟩) (.inl ⟨rfl,rfl⟩) (by omega) (by omega) (by omega) (by omega) ?_;intro Y hY hY0 hY1;have HY:=zh (HCUT.out _ Y (n+2) (by omega) hY);clear hY hY0 hY1)
    | (go_at_call 129;refine (HNUM3.out Y HY.out _).mono ?_;rintro e w1 ⟨rfl,rfl⟩)
    | (go_at_call 129;refine (HNUM2.out X HX.out _).mono ?_;rintro e w1 ⟨rfl,rfl⟩))
   go_ret3
   exact ⟨ret_iv HR2.out rfl rfl (by omega),rfl⟩
  have ht:((q:Int) != 125)=true:=by simp;omega
  go_enter func119,ntmps119
  go_wp2_with (first
   | (refine wpList_cut rfl 64 (.tmp 7) (some (.const (.int .i64 1))) none none rfl 5 i0 underlying64 hi0 hz1 _ L c rfl (byteVals l) HB.out (by rw [byteVals_length];exact HL.out) hc HNIL.out 1 L c (.inr rfl) (.inl ⟨rfl,rfl,rfl⟩) (.inl ⟨rfl,rfl⟩) (by omega) (by omega) (by omega) (by omega) ?_;intro X hX hX0 hX1;have HX:=zh (HCUT.out _ X 1 (by omega) hX);clear hX hX0 hX1)
   | (refine wpList_cut rfl 64 (.tmp 31) (some (.tmp 32)) none none rfl 5 i0 underlying64 hi0 hz1 _ L c rfl (byteVals l) HB.out (by rw [byteVals_length];exact HL.out) hc HNIL.out (n+2) L c (.inr (by first | rfl | (simp [Act.eval];done) | (simp [Act.eval];omega))) (.inl ⟨rfl,rfl,rfl⟩) (.inl ⟨rfl,rfl⟩) (by omega) (by omega) (by omega) (by omega) ?_;intro Y hY hY0 hY1;have HY:=zh (HCUT.out _ Y (n+2) (by omega) hY);clear hY hY0 hY1)
   | (go_at_call 129;refine (HNUM3.out Y HY.out _).mono ?_;rintro e w1 ⟨rfl,rfl⟩)
   | (go_at_call 129;refine (HNUM2.out X HX.out _).mono ?_;rintro e w1 ⟨rfl,rfl⟩))
  go_ret3
  exact ⟨ret_iv (HR2.out.trans (if_neg h125)) rfl rfl rfl,rfl⟩
 have hr:intervalT l v n=(0,0,0):=by
  unfold intervalT;rw [if_neg hn0,bn_past (by rw [HL.out];omega),if_neg (by omega),if_neg (by omega)]
 have HR2:=zh hr;have hd1:decide (n+1 < L)=false:=by simpa using hlt
 have hd2:decide (L <= n+1)=true:=by simp;omega
 clear hr;go_enter func119,ntmps119
 go_wp2_with (first
  | (refine wpList_cut rfl 64 (.tmp 7) (some (.const (.int .i64 1))) none none rfl 5 i0 underlying64 hi0 hz1 _ L c rfl (byteVals l) HB.out (by rw [byteVals_length];exact HL.out) hc HNIL.out 1 L c (.inr rfl) (.inl ⟨rfl,rfl,rfl⟩) (.inl ⟨rfl,rfl⟩) (by omega) (by omega) (by omega) (by omega) ?_;intro X hX hX0 hX1;have HX:=zh (HCUT.out _ X 1 (by omega) hX);clear hX hX0 hX1)
  | (refine wpList_cut rfl 64 (.tmp 31) (some (.tmp 32)) none none rfl 5 i0 underlying64 hi0 hz1 _ L c rfl (byteVals l) HB.out (by rw [byteVals_length];exact HL.out) hc HNIL.out (n+2) L c (.inr (by first | rfl | (simp [Act.eval];done) | (simp [Act.eval];omega))) (.inl ⟨rfl,rfl,rfl⟩) (.inl ⟨rfl,rfl⟩) (by omega) (by omega) (by omega) (by omega) ?_;intro Y hY hY0 hY1;have HY:=zh (HCUT.out _ Y (n+2) (by omega) hY);clear hY hY0 hY1)
  | (go_at_call 129;refine (HNUM3.out Y HY.out _).mono ?_;rintro e w1 ⟨rfl,rfl⟩)
  | (go_at_call 129;refine (HNUM2.out X HX.out _).mono ?_;rintro e w1 ⟨rfl,rfl⟩))
 go_ret3
 exact ⟨ret_iv HR2.out rfl rfl rfl,rfl⟩
end Go.Proofs.YtfofechcccodeaaGreatDoor
namespace Go.Proofs.YtfofechcccodeaaGreatDoor
open Go.RowKit Go.Proofs.Tryz
set_option linter.unusedVariables false
set_option linter.unusedSimpArgs false
set_option maxRecDepth 100000
set_option maxHeartbeats 4000000
theorem addr_add (b off i:Nat):(⟨b,off,none⟩:Addr).add i=⟨b,off+i,none⟩:=by unfold Addr.add;split <;> simp_all
def Qt (w w':World):Prop:=∃ n,w'=w.drewN n
theorem Qt.refl (w:World):Qt w w:=⟨0,rfl⟩
theorem Qt.trans {a b c:World} (h:Qt a b) (k:Qt b c):Qt a c:=by
 obtain ⟨n,rfl⟩:=h;obtain ⟨m,rfl⟩:=k;exact ⟨n+m,by rw [World.drewN_drewN]⟩
theorem Qt.fr {w w':World} (h:Qt w w'):Fr [] w w':=by
 obtain ⟨n,rfl⟩:=h;exact (Fr.refl [] w).drewN n
theorem Qt.n (w:World) (n:Nat):Qt w (w.drewN n):=⟨n,rfl⟩
theorem stands_q {w:World} {g:Nat} {A:Option Addr} {c:Nat} {bs:List UInt8} {i d:Nat} (h:Rdr w g A c bs i d) (x:Nat) (hx:0 < x) (v:Bool) (hv:stB bs i x=v) :
    Calls prog 70 #[.pointer (some ⟨g,0,none⟩),.int .u8 (x:Int)] w fun e w'=>e = .returned (.bool v)/\Qt w w':=by
 subst hv;exact (stands_any h x hx).mono fun e w' hp=>hp
theorem sign_any {w:World} {g:Nat} {A:Option Addr} {c:Nat} {bs:List UInt8} {i d:Nat} (h:Rdr w g A c bs i d) :
    Calls prog 102 #[.pointer (some ⟨g,0,none⟩)] w fun e w'=>e = .returned (ivV (signS bs i))/\Qt w w':=by
 have HRD:=zh h;have hlen:=h.len;obtain ⟨r,hr⟩:∃ r,r=signS bs i:=⟨_,rfl⟩;rw [<-hr];obtain ⟨q,hq⟩:∃ q,q=bn bs i:=⟨_,rfl⟩;unfold signS at hr;rw [<-hq] at hr;by_cases h42:q=42
 ·have s1:stB bs i 42=true:=stB_yes (by omega);rw [if_pos h42] at hr;have HR:=zh hr;have S1:=zh s1;clear hr s1 h hq h42;go_enter func102,ntmps102
  go_wp2_with (go_at_call 70;refine (stands_q HRD.out 42 (by omega) true S1.out).mono ?_;rintro e w1 ⟨rfl,hq1⟩;have HQ1:=zh hq1;clear hq1)
  go_ret3
  exact ⟨ret_iv HR.out rfl rfl rfl,HQ1.out⟩
 have s1:stB bs i 42=false:=stB_no (by omega);rw [if_neg h42] at hr;have S1:=zh s1;clear s1;by_cases h43:q=43
 ·have s1:stB bs i 43=true:=stB_yes (by omega);rw [if_pos h43] at hr;have HR:=zh hr;have S2:=zh s1;clear hr s1 h hq h42 h43;go_enter func102,ntmps102
  go_wp2_with fail
  refine (stands_q HRD.out 42 (by omega) false S1.out).mono ?_;rintro e w1 ⟨rfl,hq1⟩;have HQ1:=zh hq1;have HR1:=zh (HRD.out.fr_nil hq1.fr);clear hq1;go_wp2_with fail
  refine (stands_q HR1.out 43 (by omega) true S2.out).mono ?_;rintro e w2 ⟨rfl,hq1⟩;have HQ2:=zh (HQ1.out.trans hq1);clear hq1;go_wp2_with fail
  go_ret3
  exact ⟨ret_iv HR.out rfl rfl rfl,HQ2.out⟩
 have s1:stB bs i 43=false:=stB_no (by omega);rw [if_neg h43] at hr;have S2:=zh s1;clear s1;by_cases h63:q=63
 ·have s1:stB bs i 63=true:=stB_yes (by omega);rw [if_pos h63] at hr;have HR:=zh hr;have S3:=zh s1;clear hr s1 h hq h42 h43 h63;go_enter func102,ntmps102
  go_wp2_with fail
  refine (stands_q HRD.out 42 (by omega) false S1.out).mono ?_;rintro e w1 ⟨rfl,hq1⟩;have HQ1:=zh hq1;have HR1:=zh (HRD.out.fr_nil hq1.fr);clear hq1;go_wp2_with fail
  refine (stands_q HR1.out 43 (by omega) false S2.out).mono ?_;rintro e w2 ⟨rfl,hq1⟩;have HQ2:=zh (HQ1.out.trans hq1);have HR2:=zh (HR1.out.fr_nil hq1.fr);clear hq1;go_wp2_with fail
  refine (stands_q HR2.out 63 (by omega) true S3.out).mono ?_;rintro e w3 ⟨rfl,hq1⟩;have HQ3:=zh (HQ2.out.trans hq1);clear hq1;go_wp2_with fail
  go_ret3
  exact ⟨ret_iv HR.out rfl rfl rfl,HQ3.out⟩
 have s1:stB bs i 63=false:=stB_no (by omega);rw [if_neg h63] at hr;have S3:=zh s1;clear s1;obtain ⟨V,hV⟩:∃ V,V=stB bs i 123:=⟨_,rfl⟩;have S4:=zh hV.symm;have hV2:V=decide (q=123):=by rw [hV,hq];rfl
 clear hV h;by_cases h123:q=123
 ·have hV3:V=true:=by rw [hV2];simp [h123]
  rw [if_pos h123] at hr;subst hV3;have hlt:i < bs.length:=bn_pos (hq.symm.trans h123) (by omega);obtain ⟨L,hL⟩:∃ L,L=bs.length:=⟨_,rfl⟩;rw [<-hL] at hlt hlen;obtain ⟨s,t,u,hs⟩:∃ s t u,r=(s,t,u):=⟨r.1,r.2.1,r.2.2,rfl⟩;have HR:=zh hr;have HS:=zh hs;have HL:=zh hL
  have hic:∀ W,Qt w W->∃ b off,A=some ⟨b,off,none⟩/\∀ q,Calls prog 119 #[.slice (some ⟨b,off+i,none⟩) (L - i) (c - i)] (W.drewN q) fun e w'=>e = .returned (.tuple #[.int .i64 s,.int .i64 t,.int .i64 u])/\w'=W.drewN q:=fun W hW=>by
   have hR:=HRD.out.fr_nil hW.fr;obtain ⟨b,off,hA,hb,hcl⟩:=byte_at hR.byt (i:=i) (by rw [<-HL.out];exact hlt);refine ⟨b,off,hA,fun q=>?_⟩;have hcap:=hR.cap
   have hby:Bytes (W.drewN q) (some ⟨b,off+i,none⟩) (bs.drop i):=by
    have h1:=(hR.drewN q).byt;have h2:=At.cut h1 (k:=i) (cap:=c) (by rw [byteVals_length];have:=HL.out;omega);rw [if_neg (by have:=HL.out;omega),hA] at h2;have e:(byteVals bs).drop i=byteVals (bs.drop i):=by simp [byteVals,List.map_drop]
    rw [e] at h2;have e2:=addr_add b off i;simp only [Option.map_some,e2] at h2;exact h2
   have hiv:ivV (intervalS (bs.drop i)) = .tuple #[.int .i64 s,.int .i64 t,.int .i64 u]:=by
    rw [<-HR.out,HS.out];rfl
   have hcm:=hR.capm;have:=interval_any hby (by rw [List.length_drop];have:=HL.out;omega) (by rw [List.length_drop];have:=HL.out;omega) (c:=c - i) (by rw [List.length_drop];have:=HL.out;omega) (by intro hh;cases hh) (L - i) (by rw [List.length_drop];have:=HL.out;omega) (by omega);rw [hiv] at this;exact this.mono fun e w' ⟨he,hw⟩=>⟨he,hw.symm⟩
  have HIC:=zh hic;clear hr hs hL hic hq h42 h43 h63 h123 hV2;go_enter func102,ntmps102
  go_wp2_with fail
  refine (stands_q HRD.out 42 (by omega) false S1.out).mono ?_;rintro e w1 ⟨rfl,hq1⟩;have HQ1:=zh hq1;have HR1:=zh (HRD.out.fr_nil hq1.fr);clear hq1;go_wp2_with fail
  refine (stands_q HR1.out 43 (by omega) false S2.out).mono ?_;rintro e w2 ⟨rfl,hq1⟩;have HQ2:=zh (HQ1.out.trans hq1);have HR2:=zh (HR1.out.fr_nil hq1.fr);clear hq1;go_wp2_with fail
  refine (stands_q HR2.out 63 (by omega) false S3.out).mono ?_;rintro e w3 ⟨rfl,hq1⟩;have HQ3:=zh (HQ2.out.trans hq1);have HR3:=zh (HR2.out.fr_nil hq1.fr);clear hq1;go_wp2_with fail
  refine (stands_q HR3.out 123 (by omega) true S4.out).mono ?_;rintro e w4 ⟨rfl,hq1⟩;have HQ4:=zh (HQ3.out.trans hq1);have HR4:=zh (HR3.out.fr_nil hq1.fr);clear hq1;obtain ⟨b,off,hA,hcall⟩:=HIC.out w4 HQ4.out;obtain ⟨c0,c1,-, -, -⟩:=HR4.out.cells;have hcm:=HR4.out.capm;have hcap:=HR4.out.cap;rw [<-HL.out] at c0 hcap;rw [hA] at c0;unfold maxLen at hcm;have HCA:=zh hcall;have hne:¬ (c=i):=by omega
  have hlt':(i:Int) < (L:Int):=by omega
  have hle':(i:Int) <= (L:Int):=by omega
  clear hA hcall;go_wp2_with fail
  go_quiet ((go_at_call 119;exact Calls.quiet_of_same (HCA.out _)))
  go_wp2_with fail
  go_ret3
  exact ⟨by rw [HS.out];rfl,HQ4.out.trans (Qt.n _ _)⟩
 have hV3:V=false:=by rw [hV2];simp [h123]
 rw [if_neg h123] at hr;subst hV3;have HR:=zh hr;clear hr hq h42 h43 h63 h123 hV2;go_enter func102,ntmps102
 go_wp2_with fail
 refine (stands_q HRD.out 42 (by omega) false S1.out).mono ?_;rintro e w1 ⟨rfl,hq1⟩;have HQ1:=zh hq1;have HR1:=zh (HRD.out.fr_nil hq1.fr);clear hq1;go_wp2_with fail
 refine (stands_q HR1.out 43 (by omega) false S2.out).mono ?_;rintro e w2 ⟨rfl,hq1⟩;have HQ2:=zh (HQ1.out.trans hq1);have HR2:=zh (HR1.out.fr_nil hq1.fr);clear hq1;go_wp2_with fail
 refine (stands_q HR2.out 63 (by omega) false S3.out).mono ?_;rintro e w3 ⟨rfl,hq1⟩;have HQ3:=zh (HQ2.out.trans hq1);have HR3:=zh (HR2.out.fr_nil hq1.fr);clear hq1;go_wp2_with fail
 refine (stands_q HR3.out 123 (by omega) false S4.out).mono ?_;rintro e w4 ⟨rfl,hq1⟩;have HQ4:=zh (HQ3.out.trans hq1);clear hq1;go_wp2_with fail
 go_ret3
 exact ⟨ret_iv HR.out rfl rfl rfl,HQ4.out⟩
end Go.Proofs.YtfofechcccodeaaGreatDoor
