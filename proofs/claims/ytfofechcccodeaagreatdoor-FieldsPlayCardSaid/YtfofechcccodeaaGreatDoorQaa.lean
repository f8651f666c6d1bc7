/-
  Small texts in one (Base, Own). No conditions.
-/
import Derived.WalkKit
import Derived.WalkSpells
import Derived.WalkSmall
import Derived.WalkLawsBesides
import Derived.Deep.Draws
import Derived.Lib.Hide
import Derived.PlainAid
namespace Go.Proofs.YtfofechcccodeaaGreatDoor
open Go.RowKit
set_option linter.unusedVariables false
set_option linter.unusedSimpArgs false
theorem zh {p:Prop} (h:p):Hid p:=Lib.hid h
structure Fr (l:List Nat) (w w':World):Prop where
 os:w'.os=w.os
 tape:w'.tape=w.tape
 output:w'.output=w.output
 size:w.heap.size <= w'.heap.size
 block:∀ k,k < w.heap.size->k ∉ l->w'.heap[k]?=w.heap[k]?
namespace Fr
variable {l l':List Nat} {a b c w w':World}
theorem refl (l:List Nat) (w:World):Fr l w w:=⟨rfl,rfl,rfl,Nat.le_refl _,fun _ _ _=>rfl⟩
theorem trans (h:Fr l a b) (k:Fr l b c):Fr l a c:=
 ⟨k.os.trans h.os,k.tape.trans h.tape,k.output.trans h.output,Nat.le_trans h.size k.size,
  fun i hi hn=>(k.block i (Nat.lt_of_lt_of_le hi h.size) hn).trans (h.block i hi hn)⟩
theorem trans' (h:Fr l a b) (k:Fr l' b c) (hl:∀ i ∈ l',i ∈ l ∨ a.heap.size <= i):Fr l a c:=
 ⟨k.os.trans h.os,k.tape.trans h.tape,k.output.trans h.output,Nat.le_trans h.size k.size,
  fun i hi hn=>(k.block i (Nat.lt_of_lt_of_le hi h.size) (fun hm=>(hl i hm).elim hn (fun hge=>by omega))).trans (h.block i hi hn)⟩
theorem mono (h:Fr l a b) (hl:∀ i ∈ l,i ∈ l' ∨ a.heap.size <= i):Fr l' a b:=
 ⟨h.os,h.tape,h.output,h.size,fun i hi hn=>h.block i hi (fun hm=>(hl i hm).elim hn (fun hge=>by omega))⟩
theorem nil_ (h:Fr [] a b):Fr l a b:=h.mono (by simp)
theorem drew (h:Fr l a b):Fr l a b.drew:=⟨h.os,h.tape,h.output,h.size,h.block⟩
theorem drewN (h:Fr l a b) (n:Nat):Fr l a (b.drewN n):=⟨h.os,h.tape,h.output,h.size,h.block⟩
theorem alloc (h:Fr l a b) (o:Obj):Fr l a (b.alloc o):=
 h.trans ⟨rfl,rfl,rfl,by simp,fun i hi _=>Below.heap_alloc b o i hi⟩
theorem setCell (h:Fr l a b) {p:Addr} (hp:p.block ∈ l ∨ a.heap.size <= p.block) (u:Value):Fr l a (b.setCell p u):=
 ⟨h.os,h.tape,h.output,by simpa using h.size,fun i hi hn=>(Below.heap_setCell b p u i (by
  rintro rfl;rcases hp with hp | hp
  ·exact hn hp
  omega)).trans (h.block i hi hn)⟩
theorem grown {row:Option Nat} (h:Fr l a b) (hg:b.grownBy c row) (hr:∀ g,row=some g->g ∈ l ∨ a.heap.size <= g):Fr l a c:=
 ⟨hg.os.trans h.os,hg.tape.trans h.tape,hg.output.trans h.output,Nat.le_trans h.size hg.size,
  fun i hi hn=>(hg.block i (Nat.lt_of_lt_of_le hi h.size) (fun e=>(hr i e.symm).elim hn (fun hge=>by omega))).trans (h.block i hi hn)⟩
theorem of_below (h:Below a.heap.size a b):Fr l a b:=⟨h.os,h.tape,h.output,h.size,fun i hi _=>h.block i hi⟩
theorem below (h:Fr l a b) (hl:∀ i ∈ l,a.heap.size <= i):Below a.heap.size a b:=
 ⟨h.os,h.tape,h.output,h.size,fun i hi=>h.block i hi (fun hm=>by have:=hl i hm;omega)⟩
theorem below_nil (h:Fr [] a b):Below a.heap.size a b:=h.below (by simp)
theorem cell (h:Fr l a b) {p:Addr} (hp:p.block < a.heap.size) (hn:p.block ∉ l):b.cell? p=a.cell? p:=
 World.cell?_of_block (w:=a) (h.block p.block hp hn)
theorem frozen (h:Fr l a b) {p:Addr} (hp:p.block < a.heap.size) (hn:p.block ∉ l):b.frozen? p=a.frozen? p:=
 World.frozen?_of_block (w:=a) (h.block p.block hp hn)
end Fr
def Bk (w:World) (g:Nat) (t:TypeId) (cs:Array Value):Prop:=w.heap[g]?=some (.cells cs t (0,0))
namespace Bk
variable {w w':World} {g:Nat} {t:TypeId} {cs:Array Value}
theorem lt (h:Bk w g t cs):g < w.heap.size:=by
 rcases Nat.lt_or_ge g w.heap.size with hl | hg
 ·exact hl
 unfold Bk at h;rw [Array.getElem?_eq_none hg] at h;cases h
theorem cell (h:Bk w g t cs) (i:Nat):w.cell? ⟨g,i,none⟩=cs[i]?:=cell_of_row w g i cs t (0,0) h
theorem cell_ (h:Bk w g t cs) {i:Nat} {v:Value} (hv:cs[i]?=some v):w.cell? ⟨g,i,none⟩=some v:=(h.cell i).trans hv
theorem frozen (h:Bk w g t cs) (i:Nat):w.frozen? ⟨g,i,none⟩=false:=by
 unfold Bk at h;simp [World.frozen?,h]
theorem new (w:World) (t:TypeId) (cs:Array Value):Bk (w.alloc (.cells cs t)) w.heap.size t cs:=heap_alloc_new w _
theorem drew (h:Bk w g t cs):Bk w.drew g t cs:=h
theorem drewN (h:Bk w g t cs) (n:Nat):Bk (w.drewN n) g t cs:=h
theorem alloc (h:Bk w g t cs) (o:Obj):Bk (w.alloc o) g t cs:=(Below.heap_alloc w o g h.lt).trans h
theorem put (h:Bk w g t cs) (i:Nat) (u:Value):Bk (w.setCell ⟨g,i,none⟩ u) g t (cs.setIfInBounds i u):=by
 unfold Bk at h ⊢; simp [World.setCell,Array.getElem?_modify,h]
theorem far (h:Bk w g t cs) {p:Addr} (hp:g ≠ p.block) (u:Value):Bk (w.setCell p u) g t cs:=(Below.heap_setCell w p u g hp).trans h
theorem fr {l:List Nat} (h:Bk w g t cs) (hf:Fr l w w') (hg:g ∉ l):Bk w' g t cs:=(hf.block g h.lt hg).trans h
theorem grown {row:Option Nat} (h:Bk w g t cs) (hb:w.grownBy w' row) (hg:some g ≠ row):Bk w' g t cs:=(hb.block g h.lt hg).trans h
theorem ne_ {g':Nat} {t':TypeId} {cs':Array Value} (h:Bk w g t cs) (h':Bk w g' t' cs') (hne:t ≠ t'):g ≠ g':=by
 rintro rfl;unfold Bk at h h';rw [h] at h'
 injection h' with h'
 injection h' with _ ht
 exact hne ht
end Bk
theorem ba_append (a b:List UInt8):(⟨a.toArray⟩:ByteArray) ++ ⟨b.toArray⟩=⟨(a ++ b).toArray⟩:=by
 apply ByteArray.ext
 simp [ByteArray.data_append]
theorem ba_size (a:List UInt8):(⟨a.toArray⟩:ByteArray).size=a.length:=by simp [ByteArray.size]
theorem ba_extract (a:List UInt8) (i j:Nat):(⟨a.toArray⟩:ByteArray).extract i j=⟨((a.drop i).take (j - i)).toArray⟩:=by
 apply ByteArray.ext
 simp [ByteArray.data_extract,List.extract_eq_take_drop]
theorem ba_of (s:ByteArray):s=⟨s.data.toList.toArray⟩:=by apply ByteArray.ext;simp
def byteVals (bs:List UInt8):List Value:=bs.map fun b => .int .u8 (b.toNat:Int)
theorem byteVals_length (bs:List UInt8):(byteVals bs).length=bs.length:=by simp [byteVals]
def At (w:World) (A:Option Addr) (xs:List Value):Prop:=
 xs=[] ∨ ∃ a,A=some a/\a.block < w.heap.size/\∀ j u,xs[j]?=some u->w.cell? (a.add j)=some u
theorem blk_add (a:Addr) (n:Nat):(a.add n).block=a.block:=by unfold Addr.add;split <;> rfl
theorem add_add_ (a:Addr) (i j:Nat):(a.add i).add j=a.add (i+j):=by
 unfold Addr.add;by_cases hi:i=0 <;> by_cases hj:j=0 <;> simp [hi,hj,Nat.add_assoc]
namespace At
variable {w w':World} {A:Option Addr} {xs:List Value}
theorem nil_ (w:World) (A:Option Addr):At w A [] := .inl rfl
def blk:Option Addr->Option Nat | some a=>some a.block | none=>none
theorem keep (h:At w A xs) (hs:w.heap.size <= w'.heap.size) (hk:∀ a p:Addr,A=some a->p.block=a.block->w'.cell? p=w.cell? p):At w' A xs:=by
 rcases h with h | ⟨a,rfl,hb,hc⟩
 ·exact .inl h
 exact .inr ⟨a,rfl,by omega,fun j u hu=>(hk a _ rfl (blk_add a j)).trans (hc j u hu)⟩
theorem fr {l:List Nat} (h:At w A xs) (hf:Fr l w w') (hn:∀ a,A=some a->a.block < w.heap.size->a.block ∉ l):At w' A xs:=by
 rcases h with h | ⟨a,rfl,hb,hc⟩
 ·exact .inl h
 exact .inr ⟨a,rfl,Nat.lt_of_lt_of_le hb hf.size,fun j u hu=>(hf.cell (by rw [blk_add];exact hb) (by rw [blk_add];exact hn a rfl hb)).trans (hc j u hu)⟩
theorem fr_nil (h:At w A xs) (hf:Fr [] w w'):At w' A xs:=h.fr hf (by simp)
theorem drew (h:At w A xs):At w.drew A xs:=h
theorem drewN (h:At w A xs) (n:Nat):At (w.drewN n) A xs:=h
theorem alloc (h:At w A xs) (o:Obj):At (w.alloc o) A xs:=h.fr_nil ((Fr.refl _ _).alloc o)
theorem get {j:Nat} {u:Value} (h:At w A xs) (hu:xs[j]?=some u):∃ a,A=some a/\a.block < w.heap.size/\w.cell? (a.add j)=some u:=by
 rcases h with rfl | ⟨a,rfl,hb,hc⟩
 ·simp at hu
 exact ⟨a,rfl,hb,hc j u hu⟩
theorem cut (h:At w A xs) {k cap:Nat} (hk:xs.length <= cap):At w (if cap=k then A else A.map (·.add k)) (xs.drop k):=by
 rcases h with rfl | ⟨a,rfl,hb,hc⟩
 ·left;simp
 by_cases e:cap=k
 ·left;rw [List.drop_eq_nil_of_le (by omega)]
 rw [if_neg e];exact .inr ⟨a.add k,rfl,by rw [blk_add];exact hb,fun j u hu=>by rw [add_add_];exact hc _ u (by rw [<-hu,List.getElem?_drop])⟩
theorem take (h:At w A xs) (k:Nat):At w A (xs.take k):=by
 rcases h with rfl | ⟨a,rfl,hb,hc⟩
 ·left;simp
 refine .inr ⟨a,rfl,hb,fun j u hu=>hc j u ?_⟩;rw [List.getElem?_take] at hu;split at hu
 ·exact hu
 cases hu
theorem of_bk {g:Nat} {t:TypeId} {cs:Array Value} (h:Bk w g t cs) {n:Nat} (hx:cs.toList.take n=xs):At w (some ⟨g,0,none⟩) xs:=by
 refine .inr ⟨_,rfl,h.lt,fun j u hu=>?_⟩;have hadd:(⟨g,0,none⟩:Addr).add j=⟨g,j,none⟩:=by unfold Addr.add;split <;> simp_all
 rw [hadd,h.cell];rw [<-hx,List.getElem?_take] at hu;split at hu
 ·simpa using hu
 cases hu
theorem cells {a:Addr} (h:At w (some a) xs):∀ j u,xs[j]?=some u->w.cell? (a.add j)=some u:=by
 intro j u hu;obtain ⟨a',e,_,hc⟩:=h.get hu
 injection e with e
 rw [e];exact hc
end At
def Bytes (w:World) (A:Option Addr) (bs:List UInt8):Prop:=At w A (byteVals bs)
theorem wpList_wanted {P:Program} {w:World} {ops:Array Oper} {rest:List Oper} {o:Oper} {a:Act} {Q:Exit->Act->World->Prop} (hg:Region.wanted o (yielded ops a.tmps)=true)
    (h:∀ K:Act->World->Prop,(∀ a w,wpList P ops Q rest a w->K a w)->o.wp P a w K Q):wpList P ops Q (o :: rest) a w:=
 wpList_step fun K hK=>by rw [if_pos hg];exact h K hK
section
variable {P:Program} {w:World}
theorem run_append_full (t ty e:TypeId) (i:TypeInfo) (z:Value) (ht:P.underlying t=some (.slice e)) (hi:P.info? e=some i) (hz:i.zero=some z) (hs:i.size=1)
    (A B:Option Addr) (n m c:Nat) (olds news:List Value) (ho:At w A olds) (hol:olds.length=n) (hx:At w B news) (hnl:news.length=m) (hA:A=none->n=0)
    (hbytes:(n+m) * i.bytes <= 140737488355328) (h63:n+m <= 9223372036854775807) (hm:0 < m) :
    (Builtin.append_ #[t,t] ty #[.slice A n n,.slice B m c]).run P w =
     .ok (.slice (some ⟨w.heap.size,0,none⟩) (n+m) (grownCap w (n+m) n e))
      (w.drew.alloc (.cells (olds.toArray ++ news.toArray ++ Builtin.zeroCells z.cells (grownCap w (n+m) n e - (n+m))) e)):=by
 obtain ⟨b,rfl⟩:∃ b,B=some b:=by
  rcases hx with h | ⟨b,h,_⟩
  ·rw [h] at hnl;simp at hnl;omega
  exact ⟨b,h⟩
 cases A with
 | none=>
  have hn:n=0:=hA rfl;subst hn;obtain rfl:olds=[]:=List.eq_nil_of_length_eq_zero hol;have hr:=run_append_nil (P:=P) w t ty e i z ht hi hz b m c news (by rw [hs];omega) hx.cells hm (by omega) (by simp only [Nat.zero_add] at hbytes;omega)
  simpa using hr
 | some a=>
  have hr:=run_append_grow (P:=P) w t ty e i z ht hi hz a n n olds (by rw [hs];omega) ho.cells b m c news (by rw [hs];omega) hx.cells (by omega) (by omega) (growslice_fits (by omega) hbytes);exact hr
theorem run_append_none (t ty e:TypeId) (i:TypeInfo) (ht:P.underlying t=some (.slice e)) (hi:P.info? e=some i)
    (A B:Option Addr) (n k c:Nat) (hn:n <= k) (ha:∀ a,A=some a->a.block < w.heap.size ∨ True) :
    (Builtin.append_ #[t,t] ty #[.slice A n k,.slice B 0 c]).run P w = .ok (.slice A n k) w:=by
 cases A <;> cases B <;> simp [Builtin.append_,run_underlying ht,sizeOf,typeInfo,hi,Builtin.lenOf,Builtin.firstCells,loadCells,loadCellsFrom,hn,storeCells]
theorem wpList_append_full {ops:Array Oper} {rest:List Oper} {o:Oper} {a:Act} {Q:Exit->Act->World->Prop} (hgd:Region.wanted o (yielded ops a.tmps)=true) (s x:Operand) (t:TypeId)
    (ho:o.op = .call { callee := .builtin .append,args:=#[s,x],argTypes:=#[t,t] })
    (e:TypeId) (i:TypeInfo) (z:Value) (ht:P.underlying t=some (.slice e)) (hi:P.info? e=some i) (hz:i.zero=some z) (hs:i.size=1) (hzs:z.cells.size=1)
    (A B:Option Addr) (n m c:Nat) (hsv:a.eval s = .slice A n n) (hxv:a.eval x = .slice B m c) (olds news:List Value) (hold:At w A olds) (hol:olds.length=n) (hx:At w B news) (hnl:news.length=m) (hA:A=none->n=0)
    (hbytes:(n+m) * i.bytes <= 140737488355328) (h63:n+m <= maxLen)
    (hK:∀ A' c' w',At w' A' (olds ++ news)->n+m <= c'->c' <= maxLen->(A'=none->c'=0)->Fr [] w w'->(m=0/\A'=A ∨ A'=some ⟨w.heap.size,0,none⟩)->wpList P ops Q rest (a.put o.dst (.slice A' (n+m) c')) w') :
    wpList P ops Q (o :: rest) a w:=by
 refine wpList_wanted hgd fun K hKK=>?_;unfold Oper.wp execOp;simp only [ho,resolve,invoke,builtin,Sem.run_bind,Sem.run_pure,Result.andThen_ok,List.map_toArray,List.map_cons,List.map_nil,hsv,hxv];have h63':n+m <= 9223372036854775807:=by simpa [maxLen] using h63
 by_cases hm:m=0
 ·subst hm;obtain rfl:news=[]:=List.eq_nil_of_length_eq_zero hnl;rw [run_append_none (P:=P) t o.type e i ht hi A B n n c (Nat.le_refl _) (fun _ _ => .inr trivial)];exact hKK _ _ (hK A n w (by simpa using hold) (by omega) (by omega) hA (Fr.refl _ _) (.inl ⟨rfl,rfl⟩))
 rw [run_append_full (P:=P) t o.type e i z ht hi hz hs A B n m c olds news hold hol hx hnl hA hbytes h63' (by omega)];have hge:=grownCap_ge w (n+m) n e;have hle:=grownCap_le_maxLen w (n+m) n e h63;refine hKK _ _ (hK _ _ _ ?_ hge hle (by simp) ((Fr.refl _ _).drew.alloc _) (.inr rfl));refine At.of_bk (n:=n+m) (Bk.new w.drew _ _) ?_;simp only [Array.toList_append,List.append_assoc];rw [<-List.append_assoc,<-hol,<-hnl,<-List.length_append];exact List.take_left
theorem run_bound_ (l y:Nat) (code:BoundsCode) (w:World) (h:l <= y):(Instr.sliceBound (.int .i64 l) y code).run P w = .ok l w:=by
 have h':(0:Int) <= (l:Int)/\(l:Int) <= (y:Int):=by omega
 simp [Instr.sliceBound,asIntOf,h']
theorem run_bounds_ (len cap:Nat) (lo hi mx:Option Value) (l h m:Nat) (w:World)
    (hl:lo=none/\l=0 ∨ lo=some (.int .i64 l)) (hh:hi=none/\h=len/\mx=none ∨ hi=some (.int .i64 h)) (hm:mx=none/\m=cap ∨ mx=some (.int .i64 m)) (h1:l <= h) (h2:h <= m) (h3:m <= cap) :
    (Instr.sliceBounds true len cap lo hi mx).run P w = .ok (l,h,m) w:=by
 rcases hm with ⟨rfl,rfl⟩ | rfl <;> rcases hh with ⟨rfl,rfl,e⟩ | rfl <;> rcases hl with ⟨rfl,rfl⟩ | rfl
 all_goals first
  | cases e;done
  | (simp only [Instr.sliceBounds,Sem.run_bind,Sem.run_pure,Result.andThen_ok,run_bound_ (P:=P) _ _ _ _ h1,run_bound_ (P:=P) _ _ _ _ h2,run_bound_ (P:=P) _ _ _ _ h3])
theorem run_load_at (A:Addr) (xs:List Value) (n:Nat) (h:At w (some A) xs) (hn:xs.length=n):(loadCells A n).run P w = .ok xs.toArray w:=by
 have:=run_loadCells_list (P:=P) w A xs h.cells
 rwa [hn] at this
theorem run_str_ (src dst e:TypeId) (hs:P.underlying src=some (.slice e)) (he:P.underlying e=some (.int .u8)) (hd:P.underlying dst=some .string)
    (A:Option Addr) (bs:List UInt8) (n c:Nat) (hx:At w A (byteVals bs)) (hn:bs.length=n):(convert src dst (.slice A n c)).run P w = .ok (.string ⟨bs.toArray⟩) w:=by
 rw [run_convert_bytes_string w src dst e _ n c hs he hd]
 cases A with
 | none=>
  have:bs=[]:=by
   rcases hx with h | ⟨a,h,_⟩
   ·simpa [byteVals] using h
   cases h
  subst this;simp [Conv.bytesToString];rfl
 | some a=>
  have hl:=run_load_at (P:=P) a (byteVals bs) n hx (by rw [byteVals_length];exact hn);have e1:byteVals bs=(bs.map fun b:UInt8=>(b.toNat:Int)).map (Value.int .u8):=by simp [byteVals,Function.comp_def]
  rw [e1] at hl;rw [run_bytesToString w a n c _ hl,foldl_push_bytes];simp [ByteArray.empty,ByteArray.emptyWithCapacity,Function.comp_def];rfl
theorem wpList_str {ops:Array Oper} {rest:List Oper} {o:Oper} {a:Act} {Q:Exit->Act->World->Prop} (hgd:Region.wanted o (yielded ops a.tmps)=true) (src dst:TypeId) (x:Operand)
    (ho:o.op = .convert src dst x) (e:TypeId) (hs:P.underlying src=some (.slice e)) (he:P.underlying e=some (.int .u8)) (hd:P.underlying dst=some .string)
    (A:Option Addr) (n c:Nat) (hxv:a.eval x = .slice A n c) (bs:List UInt8) (hx:At w A (byteVals bs)) (hn:bs.length=n)
    (hK:wpList P ops Q rest (a.put o.dst (.string ⟨bs.toArray⟩)) w):wpList P ops Q (o :: rest) a w:=by
 refine wpList_wanted hgd fun K hKK=>?_;unfold Oper.wp execOp;simp only [ho,hxv,run_str_ (P:=P) src dst e hs he hd A bs n c hx hn,Sem.run_bind,Result.andThen_ok,Sem.run_pure];exact hKK _ _ hK
theorem cell?_freeze (w:World) (a:Addr) (n:Nat) (p:Addr):(w.freeze a n).cell? p=w.cell? p:=by
 unfold World.freeze;split
 ·rfl
 simp only [World.cell?,Array.getElem?_modify];by_cases hb:a.block=p.block
 ·rw [if_pos hb]
  cases w.heap[p.block]? with
  | none=>rfl
  | some o=>cases o <;> rfl
 rw [if_neg hb]
theorem Fr.freeze (w:World) (a:Addr) (n:Nat):Fr [a.block] w (w.freeze a n):=by
 unfold World.freeze;split
 ·exact Fr.refl _ _
 refine ⟨rfl,rfl,rfl,by simp,fun k hk hn=>?_⟩;rw [Array.getElem?_modify,if_neg (by simpa using fun h=>hn (by simp [h]))]
theorem At.freeze {A:Option Addr} {xs:List Value} (h:At w A xs) (a:Addr) (n:Nat):At (w.freeze a n) A xs:=
 h.keep (Fr.freeze w a n).size (fun _ p _ _=>cell?_freeze w a n p)
theorem run_mark_stringish (a:Addr):∃ w',(markStringish a).run P w = .ok () w'/\(w'=w ∨ ∃ n,w'=w.freeze ⟨a.block,n,none⟩ 1):=by
 cases h:w.shape? a.block with
 | none=>exact ⟨w,by simp [markStringish,h],.inl rfl⟩
 | some x=>exact ⟨_,by simp [markStringish,h],.inr ⟨x.2,rfl⟩⟩
theorem wpList_same {ops:Array Oper} {rest:List Oper} {o:Oper} {a:Act} {Q:Exit->Act->World->Prop} (hgd:Region.wanted o (yielded ops a.tmps)=true) (t:TypeId) (x:Operand)
    (ho:o.op = .convert t t x) (e:TypeId) (ht:P.underlying t=some (.slice e)) (he:P.underlying e=some (.int .u8))
    (A:Addr) (n c:Nat) (hxv:a.eval x = .slice (some A) n c) (xs:List Value) (hx:At w (some A) xs)
    (hK:∀ w',At w' (some A) xs->Fr [A.block] w w'->wpList P ops Q rest (a.put o.dst (.slice (some A) n c)) w'):wpList P ops Q (o :: rest) a w:=by
 refine wpList_wanted hgd fun K hKK=>?_;obtain ⟨w',hr,hw'⟩:=run_mark_stringish (P:=P) (w:=w) A;unfold Oper.wp execOp;simp only [ho,hxv,convert,run_underlying ht,run_underlying he,Sem.run_bind,Result.andThen_ok,Sem.run_pure,beq_self_eq_true,hr];refine hKK _ _ (hK w' ?_ ?_)
 ·rcases hw' with rfl | ⟨k,rfl⟩
  ·exact hx
  exact hx.freeze _ _
 rcases hw' with rfl | ⟨k,rfl⟩
 ·exact Fr.refl _ _
 exact Fr.freeze w ⟨A.block,k,none⟩ 1
theorem wpList_bytes {ops:Array Oper} {rest:List Oper} {o:Oper} {a:Act} {Q:Exit->Act->World->Prop} (hgd:Region.wanted o (yielded ops a.tmps)=true) (src dst:TypeId) (x:Operand)
    (ho:o.op = .convert src dst x) (e:TypeId) (hs:P.underlying src=some .string) (hd:P.underlying dst=some (.slice e)) (he:P.underlying e=some (.int .u8))
    (s:ByteArray) (hxv:a.eval x = .string s) (hsz:s.size <= maxLen)
    (hK:∀ A' c' w',At w' A' (byteVals s.data.toList)->s.size <= c'->c' <= maxLen->A'=some ⟨w.heap.size,0,none⟩->Fr [] w w'->wpList P ops Q rest (a.put o.dst (.slice A' s.size c')) w'):wpList P ops Q (o :: rest) a w:=by
 refine wpList_wanted hgd fun K hKK=>?_;have hge:=grownCap_ge w s.size 0 e;have hle:=grownCap_le_maxLen w s.size 0 e hsz;obtain ⟨w',hr,hw'⟩:=run_mark_stringish (P:=P) (w:=w.drew.alloc (.cells ((s.data.map fun b=>Value.int .u8 b.toNat) ++ Array.replicate (grownCap w s.size 0 e - s.size) (.int .u8 0)) e)) ⟨w.heap.size,0,none⟩
 have hrun:(convert src dst (.string s)).run P w = .ok (.slice (some ⟨w.heap.size,0,none⟩) s.size (grownCap w s.size 0 e)) w':=by
  have hr':=hr;unfold grownCap at hr';simp [convert,run_underlying hs,run_underlying hd,run_underlying he,Conv.stringToBytes,Question.forced,newRow,grownCap,hr']
 have hat:At (w.drew.alloc (.cells ((s.data.map fun b=>Value.int .u8 b.toNat) ++ Array.replicate (grownCap w s.size 0 e - s.size) (.int .u8 0)) e)) (some ⟨w.heap.size,0,none⟩) (byteVals s.data.toList):=by
  refine At.of_bk (n:=s.size) (Bk.new w.drew _ _) ?_;have e2:(s.data.map fun b=>Value.int .u8 b.toNat).toList=byteVals s.data.toList:=by simp [byteVals]
  have e3:s.size=(byteVals s.data.toList).length:=by rw [byteVals_length];simp
  rw [Array.toList_append,e2,e3,List.take_left]
 unfold Oper.wp execOp;simp only [ho,hxv,hrun,Sem.run_bind,Result.andThen_ok,Sem.run_pure];refine hKK _ _ (hK _ _ w' ?_ hge hle rfl ?_)
 ·rcases hw' with rfl | ⟨k,rfl⟩
  ·exact hat
  exact hat.freeze _ _
 have h0:Fr [] w (w.drew.alloc (.cells ((s.data.map fun b=>Value.int .u8 b.toNat) ++ Array.replicate (grownCap w s.size 0 e - s.size) (.int .u8 0)) e)):=(Fr.refl _ _).drew.alloc _;rcases hw' with rfl | ⟨k,rfl⟩
 ·exact h0
 exact h0.trans' (Fr.freeze _ ⟨w.heap.size,k,none⟩ 1) (by simp)
theorem At.of_own {base:Nat} {e:TypeId} {A:Option Addr} {n c:Nat} {xs:List Value} (h:w.ownsRow base e 1 (.slice A n c) n xs):At w A xs:=by
 by_cases h0:xs=[]
 ·exact .inl h0
 have hl:=h.1;rcases h.2 with ⟨_,rfl⟩ | ⟨g,cap,cur,hv,hb,hg,hn,hcm,hcs,htk⟩
 ·exfalso;apply h0;exact List.eq_nil_of_length_eq_zero (by omega)
 have hA:A=some ⟨g,0,none⟩:=by injection hv
 subst hA;exact At.of_bk (n:=n * 1) (t:=e) (cs:=cur) hg htk
theorem wpList_min {ops:Array Oper} {rest:List Oper} {o:Oper} {a:Act} {Q:Exit->Act->World->Prop} (hgd:Region.wanted o (yielded ops a.tmps)=true) (x y:Operand) (ts:Array TypeId)
    (ho:o.op = .call { callee := .builtin .min,args:=#[x,y],argTypes:=ts }) (k:IntKind) (X Y Z:Int) (hx:a.eval x = .int k X) (hy:a.eval y = .int k Y) (hZ:min X Y=Z)
    (hK:wpList P ops Q rest (a.put o.dst (.int k Z)) w):wpList P ops Q (o :: rest) a w:=by
 refine wpList_wanted hgd fun K hKK=>?_;have e:(if Y < X then Y else X)=Z:=by rw [<-hZ];omega
 have hr:(Builtin.min_ ts o.type #[.int k X,.int k Y]).run P w = .ok (.int k Z) w:=by simp [Builtin.min_,Builtin.min2,e]
 unfold Oper.wp execOp;simp only [ho,resolve,invoke,builtin,Sem.run_bind,Sem.run_pure,Result.andThen_ok,List.map_toArray,List.map_cons,List.map_nil,hx,hy,hr];exact hKK _ _ hK
theorem wpList_max {ops:Array Oper} {rest:List Oper} {o:Oper} {a:Act} {Q:Exit->Act->World->Prop} (hgd:Region.wanted o (yielded ops a.tmps)=true) (x y:Operand) (ts:Array TypeId)
    (ho:o.op = .call { callee := .builtin .max,args:=#[x,y],argTypes:=ts }) (k:IntKind) (X Y Z:Int) (hx:a.eval x = .int k X) (hy:a.eval y = .int k Y) (hZ:max X Y=Z)
    (hK:wpList P ops Q rest (a.put o.dst (.int k Z)) w):wpList P ops Q (o :: rest) a w:=by
 refine wpList_wanted hgd fun K hKK=>?_;have e:(if X < Y then Y else X)=Z:=by rw [<-hZ];omega
 have hr:(Builtin.max_ ts o.type #[.int k X,.int k Y]).run P w = .ok (.int k Z) w:=by simp [Builtin.max_,Builtin.max2,e]
 unfold Oper.wp execOp;simp only [ho,resolve,invoke,builtin,Sem.run_bind,Sem.run_pure,Result.andThen_ok,List.map_toArray,List.map_cons,List.map_nil,hx,hy,hr];exact hKK _ _ hK
theorem wpList_cut {ops:Array Oper} {rest:List Oper} {o:Oper} {a:Act} {Q:Exit->Act->World->Prop} (hgd:Region.wanted o (yielded ops a.tmps)=true) (t:TypeId) (x:Operand) (ol oh om:Option Operand)
    (ho:o.op = .slice t x ol oh om) (e:TypeId) (i:TypeInfo) (ht:P.underlying t=some (.slice e)) (hi:P.info? e=some i) (hs:i.size=1)
    (A:Option Addr) (n c:Nat) (hxv:a.eval x = .slice A n c) (xs:List Value) (hx:At w A xs) (hxn:xs.length=n) (hnc:n <= c) (hA:A=none->c=0)
    (l h m:Nat) (hl:ol.map a.eval=none/\l=0 ∨ ol.map a.eval=some (.int .i64 l)) (hh:oh.map a.eval=none/\h=n/\om=none ∨ oh.map a.eval=some (.int .i64 h)) (hm:om.map a.eval=none/\m=c ∨ om.map a.eval=some (.int .i64 m))
    (h1:l <= h) (h2:h <= m) (h3:m <= c) (h4:h <= n)
    (hK:∀ X,At w X ((xs.drop l).take (h - l))->(X=none->m - l=0)->(∀ b,X=some b->∃ a',A=some a'/\b.block=a'.block)->wpList P ops Q rest (a.put o.dst (.slice X (h - l) (m - l))) w) :
    wpList P ops Q (o :: rest) a w:=by
 have hcut:At w (if m=l then A else A.map (·.add (l * 1))) ((xs.drop l).take (h - l)):=by
  by_cases e:m=l
  ·left
   have:h - l=0:=by omega
   rw [this];simp
  rw [if_neg e,Nat.mul_one];by_cases e2:c=l
  ·omega
  have:=(At.cut hx (k:=l) (cap:=c) (by omega)).take (h - l)
  rwa [if_neg e2] at this
 have hnil:(if m=l then A else A.map (·.add (l * 1)))=none->m - l=0:=by
  intro hX;split at hX
  ·omega
  have:A=none:=by simpa using hX
  have:=hA this;omega
 have hblk:∀ b,(if m=l then A else A.map (·.add (l * 1)))=some b->∃ a',A=some a'/\b.block=a'.block:=by
  intro b hb;split at hb
  ·exact ⟨b,hb,rfl⟩
  cases A with
  | none=>cases hb
  | some a'=>simp at hb;exact ⟨a',rfl,by rw [<-hb,blk_add]⟩
 refine wpList_wanted hgd fun K hKK=>?_
 have hrun:(Instr.sliceAt t (a.eval x) (ol.map a.eval) (oh.map a.eval) (om.map a.eval)).run P w = .ok (.slice (if m=l then A else A.map (·.add (l * 1))) (h - l) (m - l)) w:=by
  rw [hxv];have hb:=run_bounds_ (P:=P) n c (ol.map a.eval) (oh.map a.eval) (om.map a.eval) l h m w hl (hh.imp (fun ⟨p,q,r⟩=>⟨p,q,by rw [r];rfl⟩) id) hm h1 h2 h3;simp [Instr.sliceAt,Instr.slice,run_underlying ht,sizeOf,typeInfo,hi,hs,hb]
 unfold Oper.wp execOp;simp only [ho,hrun,Sem.run_bind,Result.andThen_ok,Sem.run_pure];exact hKK _ _ (hK _ hcut hnil hblk)
end
end Go.Proofs.YtfofechcccodeaaGreatDoor
namespace Go.Proofs.YtfofechcccodeaaGreatDoor
open Go.RowKit
set_option linter.unusedVariables false
set_option linter.unusedSimpArgs false
def Own (w:World) (e:TypeId) (v:Value) (xs:List Value):Prop:=
 ∃ A cap,v = .slice A xs.length cap/\xs.length <= cap/\cap <= maxLen /\
  ((A=none/\cap=0) ∨ ∃ g off cur,A=some ⟨g,off,none⟩/\w.heap[g]?=some (.cells cur e (0,0))/\off+cap <= cur.size/\(cur.toList.drop off).take xs.length=xs)
namespace Own
variable {w w':World} {e:TypeId} {v:Value} {xs:List Value}
theorem nil_ (w:World) (e:TypeId):Own w e (.slice none 0 0) []:=⟨none,0,rfl,by simp,by simp,.inl ⟨rfl,rfl⟩⟩
theorem lt (h:Own w e v xs):∀ k,v.ownBlock=some k->k < w.heap.size:=by
 obtain ⟨A,cap,rfl,-, -, ⟨rfl,-⟩ | ⟨g,off,cur,rfl,hg,-⟩⟩:=h
 ·intro k hk;simp [Value.ownBlock] at hk
 intro k hk;simp [Value.ownBlock] at hk;subst hk;rcases Nat.lt_or_ge g w.heap.size with hl | hge
 ·exact hl
 rw [Array.getElem?_eq_none hge] at hg;cases hg
theorem kept (h:Own w e v xs) (hk:∀ k,v.ownBlock=some k->w'.heap[k]?=w.heap[k]?):Own w' e v xs:=by
 obtain ⟨A,cap,rfl,h1,h2,⟨rfl,h3⟩ | ⟨g,off,cur,rfl,hg,h4⟩⟩:=h
 ·exact ⟨none,cap,rfl,h1,h2,.inl ⟨rfl,h3⟩⟩
 exact ⟨_,cap,rfl,h1,h2,.inr ⟨g,off,cur,rfl,(hk g (by simp [Value.ownBlock])).trans hg,h4⟩⟩
theorem fr {l:List Nat} (h:Own w e v xs) (hf:Fr l w w') (hn:∀ k,v.ownBlock=some k->k ∉ l):Own w' e v xs:=
 h.kept fun k hk=>hf.block k (h.lt k hk) (hn k hk)
theorem grown {row:Option Nat} (h:Own w e v xs) (hg:w.grownBy w' row) (hn:∀ k,v.ownBlock=some k->some k ≠ row):Own w' e v xs:=
 h.kept fun k hk=>hg.block k (h.lt k hk) (hn k hk)
theorem at_ (h:Own w e v xs):∃ A cap,v = .slice A xs.length cap/\At w A xs/\xs.length <= cap/\cap <= maxLen/\(A=none->cap=0)/\v.ownBlock=A.map (·.block):=by
 obtain ⟨A,cap,rfl,h1,h2,⟨rfl,h3⟩ | ⟨g,off,cur,rfl,hg,h4,h5⟩⟩:=h
 ·refine ⟨none,cap,rfl,.inl (List.eq_nil_of_length_eq_zero (by omega)),h1,h2,fun _=>h3,rfl⟩
 have hb:Bk w g e cur:=hg;refine ⟨_,cap,rfl,.inr ⟨_,rfl,hb.lt,fun j u hu=>?_⟩,h1,h2,(by intro h;cases h),rfl⟩;have hadd:(⟨g,off,none⟩:Addr).add j=⟨g,off+j,none⟩:=by unfold Addr.add;split <;> simp_all
 rw [hadd,hb.cell];rw [<-h5,List.getElem?_take] at hu;split at hu
 ·rw [List.getElem?_drop] at hu
  simpa using hu
 cases hu
theorem drop {A:Option Addr} {n cap k:Nat} (h:Own w e (.slice A n cap) xs) (hk:k <= n):Own w e (.slice (if cap=k then A else A.map (·.add k)) (n - k) (cap - k)) (xs.drop k) /\
    (Value.slice (if cap=k then A else A.map (·.add k)) (n - k) (cap - k)).ownBlock=(Value.slice A n cap).ownBlock:=by
 obtain ⟨A',cap',hv,h1,h2,h3⟩:=h
 injection hv with e1 e2 e3
 subst e1 e2 e3;rcases h3 with ⟨rfl,h3⟩ | ⟨g,off,cur,rfl,hg,h4,h5⟩
 ·refine ⟨⟨none,cap - k,by simp,by simp;omega,by omega,.inl ⟨rfl,by omega⟩⟩,by simp [Value.ownBlock]⟩
 by_cases hc:cap=k
 ·rw [if_pos hc];refine ⟨⟨_,cap - k,by simp,by simp;omega,by omega,.inr ⟨g,off,cur,rfl,hg,by omega,?_⟩⟩,rfl⟩;have:xs.drop k=[]:=List.drop_eq_nil_of_le (by omega);rw [this];simp
 rw [if_neg hc];have hadd:(⟨g,off,none⟩:Addr).add k=⟨g,off+k,none⟩:=by unfold Addr.add;split <;> simp_all
 have hmap:(some (⟨g,off,none⟩:Addr)).map (·.add k)=some ⟨g,off+k,none⟩:=by simp [hadd]
 rw [hmap];refine ⟨⟨_,cap - k,by simp,by simp;omega,by omega,.inr ⟨g,off+k,cur,rfl,hg,by omega,?_⟩⟩,rfl⟩;rw [List.length_drop,<-List.drop_drop]
 conv=>rhs;rw [<-h5]
 rw [List.drop_take]
end Own
section
variable {P:Program}
theorem Own.append {w:World} {v:Value} {xs:List Value} (t ty e:TypeId) (i:TypeInfo) (z:Value) (ht:P.underlying t=some (.slice e)) (hi:P.info? e=some i) (hz:i.zero=some z) (hs:i.size=1) (hzs:z.cells.size=1)
    (h:Own w e v xs) (B:Option Addr) (m c:Nat) (news:List Value) (hx:At w B news) (hm:news.length=m) (h1:∀ u ∈ news,u.oneCell'=true) (h63:xs.length+m <= maxLen) (hbytes:(xs.length+m) * i.bytes <= 140737488355328) :
    ∃ v' w',(Builtin.append_ #[t,t] ty #[v,.slice B m c]).run P w = .ok v' w'/\Own w' e v' (xs ++ news)/\w.grownBy w' v.ownBlock/\(v'.ownBlock=v.ownBlock ∨ v'.ownBlock=some w.heap.size):=by
 have h63':xs.length+m <= 9223372036854775807:=by simpa [maxLen] using h63
 have hown:=h;obtain ⟨A,cap,rfl,h2,h3,hA⟩:=h;by_cases hm0:m=0
 ·subst hm0;obtain rfl:news=[]:=List.eq_nil_of_length_eq_zero hm;refine ⟨_,w,run_append_none (P:=P) t ty e i ht hi A B xs.length cap c h2 (fun _ _ => .inr trivial),by simpa using hown,⟨rfl,rfl,rfl,Nat.le_refl _,fun _ _ _=>rfl⟩,.inl rfl⟩
 obtain ⟨b,rfl⟩:∃ b,B=some b:=by
  rcases hx with h | ⟨b,h,_⟩
  ·rw [h] at hm;simp at hm;omega
  exact ⟨b,h⟩
 have grown:∀ (old:Nat),old < xs.length+m ->
     Own (w.drew.alloc (.cells (xs.toArray ++ news.toArray ++ Builtin.zeroCells z.cells (grownCap w (xs.length+m) old e - (xs.length+m))) e)) e (.slice (some ⟨w.heap.size,0,none⟩) (xs.length+m) (grownCap w (xs.length+m) old e)) (xs ++ news):=by
  intro old ho;have hge:=grownCap_ge w (xs.length+m) old e;have hle:=grownCap_le_maxLen w (xs.length+m) old e h63;have hl:(xs ++ news).length=xs.length+m:=by rw [List.length_append,hm]
  refine ⟨_,_,by rw [hl],by rw [hl];exact hge,hle,.inr ⟨w.heap.size,0,_,rfl,heap_alloc_new w.drew _,?_,?_⟩⟩
  ·simp only [Array.size_append,List.size_toArray,size_zeroCells,hzs,hm];omega
  rw [hl];simp only [Array.toList_append,List.append_assoc,List.drop_zero];rw [<-List.append_assoc,<-hl];exact List.take_left
 rcases hA with ⟨rfl,hc0⟩ | ⟨g,off,cur,rfl,hg,h4,h5⟩
 ·have hx0:xs=[]:=List.eq_nil_of_length_eq_zero (by omega);subst hx0;subst hc0;have hr:=run_append_nil (P:=P) w t ty e i z ht hi hz b m c news (by rw [hs];omega) hx.cells (by omega) (by simp at h63';omega) (by simp only [List.length_nil,Nat.zero_add] at hbytes;omega);have hgr:=grown 0 (by simp;omega);simp only [List.length_nil,Nat.zero_add,List.nil_append] at hgr ⊢; refine ⟨_,_,hr,?_,⟨rfl,rfl,rfl,by simp,fun k hk _=>Below.heap_alloc w.drew _ k hk⟩,.inr rfl⟩
  simpa using hgr
 by_cases hroom:xs.length+m <= cap
 ·have hf:=run_firstCells_some (P:=P) w i.size m b m c news (by rw [hs];omega) hx.cells;have hst:=run_storeCells_at P g (off+xs.length) e news 0 cur w hg (by omega) h1
  have hrun:(Builtin.append_ #[t,t] ty #[.slice (some ⟨g,off,none⟩) xs.length cap,.slice (some b) m c]).run P w =
      .ok (.slice (some ⟨g,off,none⟩) (xs.length+m) cap) (w.setRow g (cur.toList.take (off+xs.length) ++ news ++ cur.toList.drop (off+xs.length+news.length)).toArray):=by
   simp only [Nat.add_zero] at hst;rw [hs] at hf;simp [Builtin.append_,run_underlying ht,sizeOf,typeInfo,hi,Builtin.lenOf,hroom,hf,hs,Addr.add_lit,hst]
  refine ⟨_,_,hrun,?_,⟨rfl,rfl,rfl,by simp,fun k _ hk=>setRow_other w g k _ (fun e=>hk (by simp [Value.ownBlock,e]))⟩,.inl rfl⟩;have hl:(xs ++ news).length=xs.length+m:=by rw [List.length_append,hm]
  have hcl:cur.toList.length=cur.size:=Array.length_toList;refine ⟨_,cap,by rw [hl],by rw [hl];exact hroom,h3,.inr ⟨g,off,_,rfl,setRow_heap w g cur _ e _ hg,?_,?_⟩⟩
  ·simp only [List.size_toArray,List.length_append,List.length_take,List.length_drop,Array.length_toList];omega
  have hsz:(cur.toList.take (off+xs.length)).length=off+xs.length:=by rw [List.length_take];omega
  rw [List.append_assoc,List.drop_append_of_le_length (by omega),List.drop_take,show off+xs.length - off=xs.length by omega,h5,<-List.append_assoc];exact List.take_left
 have holds:∀ j u,xs[j]?=some u->w.cell? ((⟨g,off,none⟩:Addr).add j)=some u:=by
  obtain ⟨A',cap',hv,hat,-⟩:=hown.at_
  injection hv with e1 e2 e3
  subst e1;exact hat.cells
 have hr:=run_append_grow (P:=P) w t ty e i z ht hi hz ⟨g,off,none⟩ xs.length cap xs (by rw [hs];omega) holds b m c news (by rw [hs];omega) hx.cells (by omega) (by omega) (growslice_fits (by omega) hbytes);exact ⟨_,_,hr,grown cap (by omega),⟨rfl,rfl,rfl,by simp,fun k hk _=>Below.heap_alloc w.drew _ k hk⟩,.inr rfl⟩
theorem wpList_append_Own {ops:Array Oper} {rest:List Oper} {o:Oper} {a:Act} {w:World} {Q:Exit->Act->World->Prop} (hgd:Region.wanted o (yielded ops a.tmps)=true) (s x:Operand) (t:TypeId)
    (ho:o.op = .call { callee := .builtin .append,args:=#[s,x],argTypes:=#[t,t] })
    (e:TypeId) (i:TypeInfo) (z:Value) (ht:P.underlying t=some (.slice e)) (hi:P.info? e=some i) (hz:i.zero=some z) (hs:i.size=1) (hzs:z.cells.size=1)
    (v:Value) (xs:List Value) (hsv:a.eval s=v) (h:Own w e v xs) (B:Option Addr) (m c:Nat) (hxv:a.eval x = .slice B m c) (news:List Value) (hx:At w B news) (hm:news.length=m) (h1:∀ u ∈ news,u.oneCell'=true) (h63:xs.length+m <= maxLen) (hbytes:(xs.length+m) * i.bytes <= 140737488355328)
    (hK:∀ v' w',Own w' e v' (xs ++ news)->w.grownBy w' v.ownBlock->(v'.ownBlock=v.ownBlock ∨ v'.ownBlock=some w.heap.size)->wpList P ops Q rest (a.put o.dst v') w') :
    wpList P ops Q (o :: rest) a w:=by
 refine wpList_wanted hgd fun K hKK=>?_;obtain ⟨v',w',hr,h2,h3,h4⟩:=Own.append (P:=P) t o.type e i z ht hi hz hs hzs h B m c news hx hm h1 h63 hbytes;unfold Oper.wp execOp;simp only [ho,resolve,invoke,builtin,Sem.run_bind,Sem.run_pure,Result.andThen_ok,List.map_toArray,List.map_cons,List.map_nil,hsv,hxv,hr];exact hKK _ _ (hK v' w' h2 h3 h4)
theorem wpList_append_OwnS {ops:Array Oper} {rest:List Oper} {o:Oper} {a:Act} {w:World} {Q:Exit->Act->World->Prop} (hgd:Region.wanted o (yielded ops a.tmps)=true) (s x:Operand) (t:TypeId)
    (ho:o.op = .call { callee := .builtin .append,args:=#[s,x],argTypes:=#[t,t] })
    (e:TypeId) (i:TypeInfo) (z:Value) (ht:P.underlying t=some (.slice e)) (hi:P.info? e=some i) (hz:i.zero=some z) (hs:i.size=1) (hzs:z.cells.size=1)
    (v:Value) (xs:List Value) (n:Nat) (hn:xs.length=n) (hsv:a.eval s=v) (h:Own w e v xs) (B:Option Addr) (m c:Nat) (hxv:a.eval x = .slice B m c) (news:List Value) (hx:At w B news) (hm:news.length=m) (h1:∀ u ∈ news,u.oneCell'=true) (h63:n+m <= maxLen) (hbytes:(n+m) * i.bytes <= 140737488355328)
    (hK:∀ A' c' w',Own w' e (.slice A' (n+m) c') (xs ++ news)->w.grownBy w' v.ownBlock->((Value.slice A' (n+m) c').ownBlock=v.ownBlock ∨ (Value.slice A' (n+m) c').ownBlock=some w.heap.size)->wpList P ops Q rest (a.put o.dst (.slice A' (n+m) c')) w') :
    wpList P ops Q (o :: rest) a w:=by
 subst hn;refine wpList_append_Own hgd s x t ho e i z ht hi hz hs hzs v xs hsv h B m c hxv news hx hm h1 h63 hbytes fun v' w' h2 h3 h4=>?_;have h5:=h2;obtain ⟨A',c',rfl,-⟩:=h5;have hl:(xs ++ news).length=xs.length+m:=by rw [List.length_append,hm]
 rw [hl] at h2 h4 ⊢; exact hK A' c' w' h2 h3 h4
end
end Go.Proofs.YtfofechcccodeaaGreatDoor
