/-
  Small texts in one (Hf5, Big, Rf1). No conditions.
-/
import Derived.Test.YtfofechcccodeaaGreatDoorQbf
import Derived.Test.YtfofechcccodeaaGreatDoorQaa
import Derived.Deep.MidRow
import Derived.Great.BuildSlice
import Derived.Great.FillDense
import Derived.Test.YtfofechcccodeaaGreatDoorQab
import Derived.Test.YtfofechcccodeaaGreatDoorRows
namespace Go.Proofs.YtfofechcccodeaaGreatDoor.F
open Go.RowKit Go.Proofs.Tryz
set_option linter.unusedVariables false
set_option linter.unusedSimpArgs false
set_option maxRecDepth 100000
theorem set_ok {w:World} {r:Nat} {x:Rc} (h:RcM w r x) (hk:SepOk w x) (text:List UInt8) (ht:text.length <= 500) (hl:(x.fl text).length <= 1000) (y:Rc) (hy:{ x with text:=text,l:=x.fl text }=y) :
    Calls prog 8 #[.pointer (some ⟨r,0,none⟩),.string ⟨text.toArray⟩] w fun e w'=>e = .returned .nilIface/\RcM w' r y/\Fr [r] w w':=by
 refine (set_any h hk text ht).mono ?_;subst hy;intro e w' hp;rcases hp with ⟨hb,-⟩ | ⟨-, hb,-⟩ | ⟨-, -, rfl,h1,h2⟩
 ·omega
 ·omega
 exact ⟨rfl,h1,h2⟩
theorem put_ok {w:World} {r:Nat} {x:Rc} (h:RcM w r x) (k:Nat) (hk:1 <= k) (hk2:k <= 1000) (hl:x.l.length <= 1000) (s:List UInt8) (hb:x.jn.length * max k x.l.length+Lib.lens x.l+s.length <= 65536) (y:Rc) (hy:{ x with text:=Lib.join (putM x.l k s) x.jn,l:=putM x.l k s }=y) :
    Calls prog 10 #[.pointer (some ⟨r,0,none⟩),.int .i64 (k:Int),.string ⟨s.toArray⟩] w fun e w'=>e = .returned .nilIface/\RcM w' r y/\Fr [r] w w':=by
 refine (put_any h k hk (by omega) hl s (by omega)).mono ?_;subst hy;intro e w' hp;have h1:=put_len x.l k s;have h2:=join_len (putM x.l k s) x.jn;have h3:=put_lens x.l k s;rw [h1] at h2;have h4:x.jn.length * (max k x.l.length - 1) <= x.jn.length * max k x.l.length:=Nat.mul_le_mul_left _ (by omega);rcases hp with ⟨hb,-⟩ | ⟨-, hb,-⟩ | ⟨-, -, rfl,h1,h2⟩
 ·omega
 ·omega
 exact ⟨rfl,h1,h2⟩
def awR1:Rc:=⟨0,0,[32],[97,32,98,32,32,99],[[97],[98],[99]],none,splM⟩
def awR2:Rc:=⟨0,0,[32],[97,32,98,32,99,32,32,101],[[97],[98],[99],[],[101]],none,splM⟩
theorem awake_any (w:World):Calls prog 4 #[] w fun e w'=>e = .returned (.bool true)/\Fr [] w w':=by
 go_enter func4,ntmps4
 go_wp2_with fail
 go_at_call 6
 refine (fnew_any w).mono ?_;rintro e w1 ⟨rfl,hr1,hf1,hs1⟩;obtain ⟨g,hg⟩:∃ g,w.heap.size=g:=⟨_,rfl⟩;rw [hg] at hr1 ⊢; have HR1:=zh hr1;have HF1:=zh hf1;have HG:=zh hg;clear hr1 hf1 hs1 hg;go_wp2_with fail
 go_at_call 8
 refine (set_ok HR1.out (.inl ⟨rfl,rfl⟩) [97,32,98,32,32,99] (by decide) (by decide) awR1 (by rfl)).mono ?_;rintro e w2 ⟨rfl,hr2,hf2⟩;have HR2:=zh hr2;have HF2:Hid (Fr [] w w2):=zh (HF1.out.trans' hf2 (fun k hk=>by simp at hk;subst hk;exact .inr (Nat.le_of_eq HG.out)));clear hr2 hf2 HR1 HF1;go_wp2_with fail
 go_at_call 19
 refine (count_any HR2.out).mono ?_;rintro e w3 ⟨rfl,rfl⟩;have e3:(awR1.l.length:Int)=3:=by rfl
 rw [e3];clear e3;go_wp2_with fail
 go_at_call 10
 refine (put_ok HR2.out 5 (by omega) (by omega) (by decide) [101] (by decide) awR2 (by rfl)).mono ?_;rintro e w4 ⟨rfl,hr4,hf4⟩;have HR4:=zh hr4;have HF4:Hid (Fr [] w w4):=zh (HF2.out.trans' hf4 (fun k hk=>by simp at hk;subst hk;exact .inr (Nat.le_of_eq HG.out)));clear hr4 hf4 HR2 HF2;go_wp2_with fail
 go_at_call 20
 refine (get_any HR4.out 0).mono ?_;rintro e w5 ⟨rfl,rfl⟩;have e4:(⟨(getM awR2.text awR2.l 0).toArray⟩:ByteArray)=⟨#[97,32,98,32,99,32,32,101]⟩:=by rfl
 rw [e4];clear e4;go_wp2_with fail
 go_at_call 19
 refine (count_any HR4.out).mono ?_;rintro e w5 ⟨rfl,rfl⟩;have e5:(awR2.l.length:Int)=5:=by rfl
 rw [e5];clear e5;go_wp2_with fail
 go_at_call 20
 refine (get_any HR4.out 3).mono ?_;rintro e w5 ⟨rfl,rfl⟩;have e6:(⟨(getM awR2.text awR2.l 3).toArray⟩:ByteArray)=⟨#[99]⟩:=by rfl
 rw [e6];clear e6;go_wp2_with fail
 go_ret
 exact ⟨rfl,HF4.out⟩
def wrongN (n:Int):Prop:=n < 0 ∨ 1000 < n
def wrongC (n:Int):Int:=if n < 0 then 1 else 5
theorem made_out {w:World} {r:Nat} (n:Int) (hn:wrongN n) :
    Calls prog 24 #[.pointer (some ⟨r,0,none⟩),.int .i64 n] w fun e w'=>e = .returned (.tuple #[.slice none 0 0,errV (wrongC n)])/\w=w':=by
 by_cases h0:n < 0
 ·have t0:decide (n < 0)=true:=decide_eq_true h0;have e1:wrongC n=1:=if_pos h0;rw [e1];unfold errV;clear hn e1;go_enter func24,ntmps24
  go_wp2_with fail
  go_ret2
  exact ⟨rfl,rfl⟩
 have t0:decide (n < 0)=false:=decide_eq_false h0;have t1:decide ((1000:Int) < n)=true:=decide_eq_true (by rcases hn with h | h <;> omega)
 have e1:wrongC n=5:=if_neg h0;rw [e1];unfold errV;clear hn e1 h0;go_enter func24,ntmps24
 go_wp2_with fail
 go_ret2
 exact ⟨rfl,rfl⟩
theorem resize_out {w:World} {r:Nat} {x:Rc} (h:RcM w r x) (n:Int) (hn:wrongN n) :
    Calls prog 12 #[.pointer (some ⟨r,0,none⟩),.int .i64 n] w fun e w'=>e = .returned (errV (wrongC n))/\w=w':=by
 have HN:=zh hn;clear h hn;go_enter func12,ntmps12
 go_wp2_with fail
 go_at_call 24
 refine (made_out n HN.out).mono ?_;rintro e w2 ⟨rfl,rfl⟩;unfold errV;go_wp2_with fail
 go_ret
 exact ⟨rfl,rfl⟩
theorem put_out {w:World} {r:Nat} {x:Rc} (h:RcM w r x) (hl:x.l.length <= 1000) (n:Int) (hn:wrongN n) (s:ByteArray) :
    Calls prog 10 #[.pointer (some ⟨r,0,none⟩),.int .i64 n,.string s] w fun e w'=>e = .returned (errV (wrongC n))/\w=w':=by
 obtain ⟨v,h⟩:=h;obtain ⟨A,cap,hv,hl1,hl2,-, -⟩:=OwnL.val h.2;subst hv;obtain ⟨-, -, -, -, -, d5⟩:=rc_cells h.1;have t0:(n == 0)=false:=beq_eq_false_iff_ne.2 (by rcases hn with h | h <;> omega)
 by_cases h0:n < 0
 ·have t1:decide ((0:Int) < n)=false:=decide_eq_false (by omega);have HN:=zh hn;clear h hn d5 h0;go_enter func10,ntmps10
  go_wp2_with fail
  go_at_call 24
  refine (made_out n HN.out).mono ?_;rintro e w2 ⟨rfl,rfl⟩;unfold errV;go_wp2_with fail
  go_ret
  exact ⟨rfl,rfl⟩
 have t1:decide ((0:Int) < n)=true:=decide_eq_true (by rcases hn with h | h <;> omega)
 have HM:Hid (max n (x.l.length:Int)=n):=zh (by rcases hn with h | h <;> omega)
 have HN:=zh hn;clear h hn h0;go_enter func10,ntmps10
 go_wp2_with (refine wpList_max rfl (.tmp 18) (.tmp 23) _ rfl .i64 _ _ _ (by rfl) (by rfl) HM.out ?_)
 go_at_call 24
 refine (made_out n HN.out).mono ?_;rintro e w2 ⟨rfl,rfl⟩;unfold errV;go_wp2_with fail
 go_ret
 exact ⟨rfl,rfl⟩
theorem put_zero {w:World} {r:Nat} {x:Rc} (h:RcM w r x) (hk:SepOk w x) (text:List UInt8) (ht:text.length <= 500) :
    Calls prog 10 #[.pointer (some ⟨r,0,none⟩),.int .i64 0,.string ⟨text.toArray⟩] w (SetPost w r x text):=by
 have H:=zh h;have HK:=zh hk;clear h hk;go_enter func10,ntmps10
 go_wp2_with fail
 go_at_call 8
 refine (set_any H.out HK.out text ht).mono ?_;intro e w2 hp;have HP:=zh hp;rcases hp with ⟨-, rfl,-⟩ | ⟨-, -, rfl,-⟩ | ⟨-, -, rfl,-⟩
 all_goals
  try unfold errV at HP ⊢
  go_wp2_with fail
  go_ret
  exact HP.out
end Go.Proofs.YtfofechcccodeaaGreatDoor.F
namespace Go.Proofs.YtfofechcccodeaaGreatDoor
open Go.RowKit
set_option linter.unusedVariables false
set_option linter.unusedSimpArgs false
section
variable {P:Program} {ops:Array Oper} {rest:List Oper} {o:Oper} {a:Act} {w:World} {Q:Exit->Act->World->Prop}
theorem zero_of_ {T:TypeId} {Z:List Value} {n:Nat} (hz:(P.info? T).map (fun i=>(i.zero,i.size))=some (some (.agg Z.toArray),n)) :
    (∀ w,(zeroValue T).run P w = .ok (.agg Z.toArray) w)/\(P.info? T).map (·.size)=some n:=by
 cases hq:P.info? T with
 | none=>simp [hq] at hz
 | some i=>
  simp [hq] at hz;exact ⟨fun w=>by simp [zeroValue,typeInfo,hq,hz.1],by simp [hz.2]⟩
theorem wpList_alloc_bk (hgd:o.guard=none) (T:TypeId) (ho:o.op = .alloc T) (Z:List Value) (n:Nat) (hz:(P.info? T).map (fun i=>(i.zero,i.size))=some (some (.agg Z.toArray),n))
    (h:∀ w',Bk w' w.heap.size T Z.toArray->Fr [] w w'->wpList P ops Q rest (a.put o.dst (.pointer (some ⟨w.heap.size,0,none⟩))) w'):wpList P ops Q (o :: rest) a w:=by
 refine wpList_plain hgd fun K hK=>?_;obtain ⟨h1,-⟩:=zero_of_ hz;have h2:=hK _ _ (h _ (Bk.new w T Z.toArray) ((Fr.refl [] w).alloc _));unfold Oper.wp execOp;simp only [ho,Instr.alloc,newVar,newRow,h1,Sem.run_bind,Sem.run_pure,Result.andThen_ok];exact h2
theorem wpList_store_bk (hgd:o.guard=none) (T:TypeId) (x y:Operand) (ho:o.op = .store T x y) (g:Nat) (C:List Value) (hx:a.eval x = .pointer (some ⟨g,0,none⟩)) (hy:a.eval y = .agg C.toArray)
    (t:TypeId) (old:Array Value) (hg:Bk w g t old) (hi:(P.info? T).map (·.size)=some C.length) (hold:old.size=C.length) (h1:∀ v ∈ C,v.oneCell'=true)
    (h:∀ w',Bk w' g t C.toArray->Fr [g] w w'->wpList P ops Q rest (a.put o.dst undef) w'):wpList P ops Q (o :: rest) a w:=by
 refine wpList_store_row hgd T x y ho g C.toArray hx hy t old hg (by simpa using hi) (by simpa using hold) (all_oneCell_toArray h1) (h _ (setRow_heap w g old C.toArray t (0,0) hg) ?_);refine ⟨rfl,rfl,rfl,by simp,fun k hk hn=>?_⟩;exact setRow_other w g k C.toArray (by simpa using hn)
theorem wpList_store_bkA (hgd:o.guard=none) (T:TypeId) (x y:Operand) (ho:o.op = .store T x y) (g:Nat) (C:Array Value) (hx:a.eval x = .pointer (some ⟨g,0,none⟩)) (hy:a.eval y = .agg C)
    (t:TypeId) (old:Array Value) (hg:Bk w g t old) (hi:(P.info? T).map (·.size)=some C.toList.length) (hold:old.size=C.toList.length) (h1:∀ v ∈ C.toList,v.oneCell'=true)
    (h:∀ w',Bk w' g t C->Fr [g] w w'->wpList P ops Q rest (a.put o.dst undef) w'):wpList P ops Q (o :: rest) a w:=
 wpList_store_bk hgd T x y ho g C.toList hx (by simpa using hy) t old hg hi hold h1 (fun w' hb hf=>h w' (by simpa using hb) hf)
theorem wpList_load_bk (hgd:o.guard=none) (T:TypeId) (x:Operand) (ho:o.op = .load T x) (g off:Nat) (hx:a.eval x = .pointer (some ⟨g,off,none⟩)) (C:List Value) (d:TypeDesc)
    (t:TypeId) (cs:Array Value) (hg:Bk w g t cs) (hc:∀ j u,C[j]?=some u->cs[off+j]?=some u) (hu:P.underlying T=some d) (hd:d.isRow=true) (hi:(P.info? T).map (·.size)=some C.length)
    (h:wpList P ops Q rest (a.put o.dst (.agg C.toArray)) w):wpList P ops Q (o :: rest) a w:=
 wpList_load_mid hgd T x ho g off hx C d (fun j v hv=>hg.cell_ (hc j v hv)) hu hd hi h
theorem wpList_build_ (hgd:o.guard=none) (T:TypeId) (parts:Array (Nat × Operand)) (ho:o.op = .build T parts) (C:List Value) (hb:P.built T (parts.map fun (i,x)=>(i,a.eval x)).toList=some C.toArray)
    (h:wpList P ops Q rest (a.put o.dst (.agg C.toArray)) w):wpList P ops Q (o :: rest) a w:=
 wpList_build hgd T parts ho (by rw [hb];rfl) (by rw [hb];exact h)
theorem wpList_build1 (hgd:o.guard=none) (T:TypeId) (i0:Nat) (x0:Operand) (ho:o.op = .build T #[(i0,x0)]) (v0:Value) (e0:a.eval x0=v0) (C:List Value) (hb:P.built T [(i0,v0)]=some C.toArray)
    (h:wpList P ops Q rest (a.put o.dst (.agg C.toArray)) w):wpList P ops Q (o :: rest) a w:=
 wpList_build_ hgd T #[(i0,x0)] ho C (by simpa [e0] using hb) h
theorem wpList_build2 (hgd:o.guard=none) (T:TypeId) (i0 i1:Nat) (x0 x1:Operand) (ho:o.op = .build T #[(i0,x0),(i1,x1)]) (v0 v1:Value) (e0:a.eval x0=v0) (e1:a.eval x1=v1) (C:List Value) (hb:P.built T [(i0,v0),(i1,v1)]=some C.toArray)
    (h:wpList P ops Q rest (a.put o.dst (.agg C.toArray)) w):wpList P ops Q (o :: rest) a w:=
 wpList_build_ hgd T #[(i0,x0),(i1,x1)] ho C (by simpa [e0,e1] using hb) h
theorem wpList_build4 (hgd:o.guard=none) (T:TypeId) (i0 i1 i2 i3:Nat) (x0 x1 x2 x3:Operand) (ho:o.op = .build T #[(i0,x0),(i1,x1),(i2,x2),(i3,x3)]) (v0 v1 v2 v3:Value) (e0:a.eval x0=v0) (e1:a.eval x1=v1) (e2:a.eval x2=v2) (e3:a.eval x3=v3) (C:List Value) (hb:P.built T [(i0,v0),(i1,v1),(i2,v2),(i3,v3)]=some C.toArray)
    (h:wpList P ops Q rest (a.put o.dst (.agg C.toArray)) w):wpList P ops Q (o :: rest) a w:=
 wpList_build_ hgd T #[(i0,x0),(i1,x1),(i2,x2),(i3,x3)] ho C (by simpa [e0,e1,e2,e3] using hb) h
theorem wpList_slice1 (hgd:o.guard=none) (T e:TypeId) (x:Operand) (ho:o.op = .buildSlice T 1 #[(0,x)]) (C:List Value) (hx:a.eval x = .agg C.toArray) (Z:Value) (hu:P.underlying T=some (.slice e))
    (hz:(P.info? e).map (fun i=>(i.zero,i.size))=some (some Z,C.length)) (h0:0 < C.length) (h1:C.length <= 100000)
    (h:∀ w',Bk w' w.heap.size e C.toArray->Fr [] w w'->wpList P ops Q rest (a.put o.dst (.slice (some ⟨w.heap.size,0,none⟩) 1 1)) w'):wpList P ops Q (o :: rest) a w:=by
 cases hq:P.info? e with
 | none=>simp [hq] at hz
 | some ie=>
  simp [hq] at hz;refine wpList_buildSlice hgd T e 1 _ ho C.toArray ie Z hu hq hz.1 (by rw [hz.2];omega) (by rw [hz.2];omega) ?_ (h _ (Bk.new w e C.toArray) ((Fr.refl [] w).alloc _));simp only [List.map_toArray,List.map_cons,List.map_nil,hx];rw [hz.2];obtain ⟨r,hr,hsz,hk⟩:=Go.Great.fill_dense h0 [.agg C.toArray] 0 ((Array.range (1 * C.length)).map fun j=>Z.cells[j % Z.cells.size]!) (by intro v hv;simp at hv;subst hv;simp [Value.cells]) (by simp);simp only [List.zipIdx_cons,List.zipIdx_nil,List.map_cons,List.map_nil] at hr;rw [hr]
  congr 1
  apply Array.ext_getElem?
  intro k;rw [hk k];by_cases hkl:k < C.length
  ·rw [if_pos (by simp;omega)];have e:k / C.length=0:=Nat.div_eq_of_lt hkl;simp [e,Value.cells,Nat.mod_eq_of_lt hkl]
  rw [if_neg (by simp;omega)];rw [Array.getElem?_eq_none (by simp;omega),Array.getElem?_eq_none (by simp;omega)]
end
/-! What a struct's value is. -/
def splice (C:List Value) (off:Nat) (v:List Value):List Value:=C.take off ++ v ++ C.drop (off+v.length)
theorem fill_step (pl:Nat->Option (Nat × Nat)) (C:List Value) (i off:Nat) (v:Value) (rest:List (Nat × Value)) (hp:pl i=some (off,v.cells.size)) (hs:off+v.cells.size <= C.length) :
    Instr.fill pl C.toArray ((i,v) :: rest)=Instr.fill pl (splice C off v.cells.toList).toArray rest:=by
 have e:(Array.foldl (fun cs (x:Value × Nat)=>cs.setIfInBounds (off+x.2) x.1) C.toArray v.cells.zipIdx)=(splice C off v.cells.toList).toArray:=by
  obtain ⟨g1,g2⟩:=Go.Great.foldl_set off v.cells.toList 0 C.toArray
  have e1:(Array.foldl (fun cs (x:Value × Nat)=>cs.setIfInBounds (off+x.2) x.1) C.toArray v.cells.zipIdx)=(v.cells.toList.zipIdx 0).foldl (fun cs (x:Value × Nat)=>cs.setIfInBounds (off+x.2) x.1) C.toArray:=by
   rw [<-Array.foldl_toList,Array.toList_zipIdx]
  rw [e1]
  apply Array.ext_getElem?
  intro k;rw [g2 k];unfold splice;simp only [List.getElem?_toArray,List.size_toArray,Array.length_toList,Nat.add_zero];by_cases h1:k < off
  ·rw [if_neg (by omega),List.append_assoc,List.getElem?_append_left (by simp;omega),List.getElem?_take,if_pos h1]
  by_cases h2:k < off+v.cells.size
  ·rw [if_pos ⟨by omega,h2,by omega⟩,List.append_assoc,List.getElem?_append_right (by simp;omega),List.getElem?_append_left (by simp;omega)]
   congr 1
   simp;omega
  rw [if_neg (by omega),List.getElem?_append_right (by simp;omega),List.getElem?_drop]
  congr 1
  simp;omega
 rw [Instr.fill];simp only [hp];rw [if_neg (by simp;omega)];exact congrArg (fun c=>Instr.fill pl c rest) e
theorem fill_nil (pl:Nat->Option (Nat × Nat)) (C:List Value):Instr.fill pl C.toArray []=some C.toArray:=by unfold Instr.fill;rfl
def structOf (P:Program) (T:TypeId):Option (Value × List (Nat × Nat)):=
 match P.info? T,P.underlying T with
 | some it,some (.struct fields)=>match it.zero,fields.toList.mapM (fun f=>(P.info? f.type).map fun i=>(f.offset,i.size)) with
  | some z,some pl=>some (z,pl)
  | _,_=>none
 | _,_=>none
theorem built_of {P:Program} {T:TypeId} {Z:List Value} {pl:List (Nat × Nat)} (h:structOf P T=some (.agg Z.toArray,pl)) (parts:List (Nat × Value)):P.built T parts=Instr.fill (pl.toArray[·]?) Z.toArray parts:=by
 unfold structOf at h;unfold Program.built
 cases hi:P.info? T with
 | none=>simp [hi] at h
 | some it=>
  cases hu:P.underlying T with
  | none=>simp [hi,hu] at h
  | some d=>
   cases d <;> try (simp [hi,hu] at h;done)
   case struct fields=>
    cases hz:it.zero with
    | none=>simp [hi,hu,hz] at h
    | some z=>
     cases hp:fields.toList.mapM (fun f=>(P.info? f.type).map fun i=>(f.offset,i.size)) with
     | none=>simp [hi,hu,hz,hp] at h
     | some pl'=>
      simp only [hi,hu,hz,hp] at h
      injection h with h;injection h with h1 h2
      subst h1 h2;simp only [hz,hp,Value.cells]
end Go.Proofs.YtfofechcccodeaaGreatDoor
namespace Go.Proofs.YtfofechcccodeaaGreatDoor
open Go.RowKit Go.Proofs.Tryz
set_option linter.unusedVariables false
set_option linter.unusedSimpArgs false
def bitsV (s:S4):List Value:=(List.range 256).map fun c => .bool (s.mem c)
theorem bitsV_len (s:S4):(bitsV s).length=256:=by simp [bitsV]
theorem bitsV_get (s:S4) {c:Nat} (h:c < 256):(bitsV s)[c]?=some (.bool (s.mem c)):=by simp [bitsV,h]
theorem bitsV_one (s:S4):∀ v ∈ bitsV s,v.oneCell'=true:=by
 intro v hv;simp [bitsV] at hv;obtain ⟨c,-, rfl⟩:=hv;rfl
def partC (k:Int) (s:S4) (mn mx:Int) (L:Value):List Value := .int .i64 k :: (bitsV s ++ [.int .i64 mn,.int .i64 mx,L])
theorem partC_len (k:Int) (s:S4) (mn mx:Int) (L:Value):(partC k s mn mx L).length=260:=by simp [partC,bitsV_len]
theorem partC_one (k:Int) (s:S4) (mn mx:Int) {L:Value} (hL:L.oneCell'=true):∀ v ∈ partC k s mn mx L,v.oneCell'=true:=by
 intro v hv;simp only [partC,List.mem_cons,List.mem_append,List.not_mem_nil,or_false] at hv;rcases hv with rfl | hv | rfl | rfl | rfl
 ·rfl
 ·exact bitsV_one s v hv
 ·rfl
 ·rfl
 exact hL
theorem partC_k (k:Int) (s:S4) (mn mx:Int) (L:Value):(partC k s mn mx L)[0]?=some (.int .i64 k):=rfl
theorem partC_set (k:Int) (s:S4) (mn mx:Int) (L:Value) {c:Nat} (h:c < 256):(partC k s mn mx L)[1+c]?=some (.bool (s.mem c)):=by
 unfold partC;rw [Nat.add_comm 1 c,List.getElem?_cons_succ,List.getElem?_append_left (by rw [bitsV_len];exact h),bitsV_get s h]
theorem partC_tail (k:Int) (s:S4) (mn mx:Int) (L:Value) (j:Nat):(partC k s mn mx L)[257+j]?=[Value.int .i64 mn,.int .i64 mx,L][j]?:=by
 unfold partC;rw [show 257+j=(256+j)+1 by omega,List.getElem?_cons_succ,List.getElem?_append_right (by rw [bitsV_len];omega),bitsV_len,Nat.add_sub_cancel_left]
theorem partC_mn (k:Int) (s:S4) (mn mx:Int) (L:Value):(partC k s mn mx L)[257]?=some (.int .i64 mn):=partC_tail k s mn mx L 0
theorem partC_mx (k:Int) (s:S4) (mn mx:Int) (L:Value):(partC k s mn mx L)[258]?=some (.int .i64 mx):=partC_tail k s mn mx L 1
theorem partC_l (k:Int) (s:S4) (mn mx:Int) (L:Value):(partC k s mn mx L)[259]?=some L:=partC_tail k s mn mx L 2
def zeroPC:List Value:=partC 0 S4.empty 0 0 (.slice none 0 0)
def gotC (p:List Value) (n e at_:Int):List Value:=p ++ [.int .i64 n,.int .i64 e,.int .i64 at_]
theorem gotC_len {p:List Value} (h:p.length=260) (n e at_:Int):(gotC p n e at_).length=263:=by simp [gotC,h]
theorem gotC_one {p:List Value} (h:∀ v ∈ p,v.oneCell'=true) (n e at_:Int):∀ v ∈ gotC p n e at_,v.oneCell'=true:=by
 intro v hv;simp only [gotC,List.mem_cons,List.mem_append,List.not_mem_nil,or_false] at hv;rcases hv with hv | rfl | rfl | rfl
 ·exact h v hv
 all_goals rfl
theorem gotC_p {p:List Value} (n e at_:Int) {j:Nat} {u:Value} (hj:p[j]?=some u):(gotC p n e at_)[j]?=some u:=by
 unfold gotC;rw [List.getElem?_append_left (List.getElem?_eq_some_iff.1 hj).1,hj]
theorem gotC_tail {p:List Value} (h:p.length=260) (n e at_:Int) (j:Nat):(gotC p n e at_)[260+j]?=[Value.int .i64 n,.int .i64 e,.int .i64 at_][j]?:=by
 unfold gotC;rw [List.getElem?_append_right (by omega)]
 congr 1
 omega
theorem gotC_n {p:List Value} (h:p.length=260) (n e at_:Int):(gotC p n e at_)[260]?=some (.int .i64 n):=gotC_tail h n e at_ 0
theorem gotC_e {p:List Value} (h:p.length=260) (n e at_:Int):(gotC p n e at_)[261]?=some (.int .i64 e):=gotC_tail h n e at_ 1
theorem gotC_at {p:List Value} (h:p.length=260) (n e at_:Int):(gotC p n e at_)[262]?=some (.int .i64 at_):=gotC_tail h n e at_ 2
/-! The reference's answer to a bracket expression. -/
def brgC (s:S4) (n e at_:Int):List Value:=bitsV s ++ [.int .i64 n,.int .i64 e,.int .i64 at_]
theorem brgC_len (s:S4) (n e at_:Int):(brgC s n e at_).length=259:=by simp [brgC,bitsV_len]
theorem brgC_one (s:S4) (n e at_:Int):∀ v ∈ brgC s n e at_,v.oneCell'=true:=by
 intro v hv;simp only [brgC,List.mem_cons,List.mem_append,List.not_mem_nil,or_false] at hv;rcases hv with hv | rfl | rfl | rfl
 ·exact bitsV_one s v hv
 all_goals rfl
theorem brgC_s (s:S4) (n e at_:Int) {j:Nat} {u:Value} (hj:(bitsV s)[j]?=some u):(brgC s n e at_)[j]?=some u:=by
 unfold brgC;rw [List.getElem?_append_left (List.getElem?_eq_some_iff.1 hj).1,hj]
theorem brgC_tail (s:S4) (n e at_:Int) (j:Nat):(brgC s n e at_)[256+j]?=[Value.int .i64 n,.int .i64 e,.int .i64 at_][j]?:=by
 unfold brgC;rw [List.getElem?_append_right (by rw [bitsV_len];omega),bitsV_len,Nat.add_sub_cancel_left]
theorem brgC_n (s:S4) (n e at_:Int):(brgC s n e at_)[256]?=some (.int .i64 n):=brgC_tail s n e at_ 0
theorem brgC_e (s:S4) (n e at_:Int):(brgC s n e at_)[257]?=some (.int .i64 e):=brgC_tail s n e at_ 1
theorem brgC_at (s:S4) (n e at_:Int):(brgC s n e at_)[258]?=some (.int .i64 at_):=brgC_tail s n e at_ 2
/-! What the types are. -/
theorem rp_zero:(prog.info? 69).map (fun i=>(i.zero,i.size))=some (some (.agg zeroPC.toArray),260):=by kernel_rfl
theorem rp_bytes:(prog.info? 69).map (·.bytes)=some 304:=by kernel_rfl
theorem rg_zero:(prog.info? 71).map (fun i=>(i.zero,i.size))=some (some (.agg (gotC zeroPC 0 0 0).toArray),263):=by kernel_rfl
theorem rs_zero:(prog.info? 66).map (fun i=>(i.zero,i.size))=some (some (.agg (bitsV S4.empty).toArray),256):=by kernel_rfl
theorem rb_zero:(prog.info? 208).map (fun i=>(i.zero,i.size))=some (some (.agg (brgC S4.empty 0 0 0).toArray),259):=by kernel_rfl
theorem rp_struct:structOf prog 69=some (.agg zeroPC.toArray,[(0,1),(1,256),(257,1),(258,1),(259,1)]):=by kernel_rfl
theorem rg_struct:structOf prog 71=some (.agg (gotC zeroPC 0 0 0).toArray,[(0,260),(260,1),(261,1),(262,1)]):=by kernel_rfl
theorem rb_struct:structOf prog 208=some (.agg (brgC S4.empty 0 0 0).toArray,[(0,256),(256,1),(257,1),(258,1)]):=by kernel_rfl
theorem rp_size:(prog.info? 69).map (·.size)=some 260:=(zero_of_ rp_zero).2
theorem rg_size:(prog.info? 71).map (·.size)=some 263:=(zero_of_ rg_zero).2
theorem rs_size:(prog.info? 66).map (·.size)=some 256:=(zero_of_ rs_zero).2
theorem rb_size:(prog.info? 208).map (·.size)=some 259:=(zero_of_ rb_zero).2
/-! How they are put together. -/
theorem splice_put {C:List Value} {i:Nat} {v:Value} (h:i < C.length):splice C i [v]=C.set i v:=by
 unfold splice;rw [List.set_eq_take_append_cons_drop,if_pos h];simp
section
variable {X:List Value}
theorem gput (p:List Value) (hp:p.length=260) (n e q:Int):splice (gotC zeroPC n e q) 0 p=gotC p n e q:=by
 unfold splice gotC;rw [hp,List.take_zero,List.nil_append,Nat.zero_add,List.drop_append_of_le_length (by simp [zeroPC,partC_len]),List.drop_of_length_le (by simp [zeroPC,partC_len]),List.nil_append]
theorem zeroPC_len:zeroPC.length=260:=partC_len _ _ _ _ _
theorem gput_n {p:List Value} (hp:p.length=260) (n n' e q:Int):splice (gotC p n e q) 260 [.int .i64 n']=gotC p n' e q:=by
 rw [splice_put (by rw [gotC_len hp];omega)];unfold gotC;rw [List.set_append_right _ _ (by omega),hp];rfl
theorem gput_e {p:List Value} (hp:p.length=260) (n e e' q:Int):splice (gotC p n e q) 261 [.int .i64 e']=gotC p n e' q:=by
 rw [splice_put (by rw [gotC_len hp];omega)];unfold gotC;rw [List.set_append_right _ _ (by omega),hp];rfl
theorem gput_q {p:List Value} (hp:p.length=260) (n e q q':Int):splice (gotC p n e q) 262 [.int .i64 q']=gotC p n e q':=by
 rw [splice_put (by rw [gotC_len hp];omega)];unfold gotC;rw [List.set_append_right _ _ (by omega),hp];rfl
theorem built_pn {p:List Value} (hp:p.length=260) (n:Int):prog.built 71 [(0,.agg p.toArray),(1,.int .i64 n)]=some (gotC p n 0 0).toArray:=by
 rw [built_of rg_struct,fill_step _ _ 0 0 _ _ (by simp [Value.cells,hp]) (by simp [Value.cells,hp,gotC_len zeroPC_len])];simp only [Value.cells,List.toList_toArray];rw [gput p hp,fill_step _ _ 1 260 _ _ (by simp [Value.cells]) (by simp [Value.cells,gotC_len hp])];simp only [Value.cells,List.toList_toArray];rw [gput_n hp,fill_nil]
theorem built_n (n:Int):prog.built 71 [(1,.int .i64 n)]=some (gotC zeroPC n 0 0).toArray:=by
 rw [built_of rg_struct,fill_step _ _ 1 260 _ _ (by simp [Value.cells]) (by simp [Value.cells,gotC_len zeroPC_len])];simp only [Value.cells,List.toList_toArray];rw [gput_n zeroPC_len,fill_nil]
theorem built_e (e:Int):prog.built 71 [(2,.int .i64 e)]=some (gotC zeroPC 0 e 0).toArray:=by
 rw [built_of rg_struct,fill_step _ _ 2 261 _ _ (by simp [Value.cells]) (by simp [Value.cells,gotC_len zeroPC_len])];simp only [Value.cells,List.toList_toArray];rw [gput_e zeroPC_len,fill_nil]
theorem built_eq_ (e q:Int):prog.built 71 [(2,.int .i64 e),(3,.int .i64 q)]=some (gotC zeroPC 0 e q).toArray:=by
 rw [built_of rg_struct,fill_step _ _ 2 261 _ _ (by simp [Value.cells]) (by simp [Value.cells,gotC_len zeroPC_len])];simp only [Value.cells,List.toList_toArray];rw [gput_e zeroPC_len,fill_step _ _ 3 262 _ _ (by simp [Value.cells]) (by simp [Value.cells,gotC_len zeroPC_len])];simp only [Value.cells,List.toList_toArray];rw [gput_q zeroPC_len,fill_nil]
theorem pput_k (k k':Int) (s:S4) (mn mx:Int) (L:Value):splice (partC k s mn mx L) 0 [.int .i64 k']=partC k' s mn mx L:=by
 rw [splice_put (by rw [partC_len];omega)];rfl
theorem pput_s (k:Int) (s s':S4) (mn mx:Int) (L:Value):splice (partC k s mn mx L) 1 (bitsV s')=partC k s' mn mx L:=by
 unfold splice partC;rw [bitsV_len,List.take_succ_cons,List.take_zero,show 1+256=256+1 by omega,List.drop_succ_cons,List.drop_append_of_le_length (by rw [bitsV_len];omega),List.drop_of_length_le (by rw [bitsV_len];omega),List.nil_append];rfl
theorem pput_tail (k:Int) (s:S4) (mn mx:Int) (L:Value) (j:Nat) (v:Value) (hj:j < 3):splice (partC k s mn mx L) (257+j) [v] = .int .i64 k :: (bitsV s ++ [Value.int .i64 mn,.int .i64 mx,L].set j v):=by
 rw [splice_put (by rw [partC_len];omega)];unfold partC;rw [show 257+j=(256+j)+1 by omega,List.set_cons_succ,List.set_append_right _ _ (by rw [bitsV_len];omega),bitsV_len,Nat.add_sub_cancel_left]
theorem pput_mn (k:Int) (s:S4) (mn mn' mx:Int) (L:Value):splice (partC k s mn mx L) 257 [.int .i64 mn']=partC k s mn' mx L:=pput_tail k s mn mx L 0 _ (by omega)
theorem pput_mx (k:Int) (s:S4) (mn mx mx':Int) (L:Value):splice (partC k s mn mx L) 258 [.int .i64 mx']=partC k s mn mx' L:=pput_tail k s mn mx L 1 _ (by omega)
theorem pput_l (k:Int) (s:S4) (mn mx:Int) (L L':Value):splice (partC k s mn mx L) 259 [L']=partC k s mn mx L':=pput_tail k s mn mx L 2 _ (by omega)
theorem built_k (k:Int):prog.built 69 [(0,.int .i64 k)]=some (partC k S4.empty 0 0 (.slice none 0 0)).toArray:=by
 rw [built_of rp_struct];unfold zeroPC;rw [fill_step _ _ 0 0 _ _ (by simp [Value.cells]) (by simp [Value.cells,partC_len])];simp only [Value.cells,List.toList_toArray];rw [pput_k,fill_nil]
theorem built_ks (k:Int) (s:S4):prog.built 69 [(0,.int .i64 k),(1,.agg (bitsV s).toArray)]=some (partC k s 0 0 (.slice none 0 0)).toArray:=by
 rw [built_of rp_struct];unfold zeroPC;rw [fill_step _ _ 0 0 _ _ (by simp [Value.cells]) (by simp [Value.cells,partC_len])];simp only [Value.cells,List.toList_toArray];rw [pput_k,fill_step _ _ 1 1 _ _ (by simp [Value.cells,bitsV_len]) (by simp [Value.cells,partC_len,bitsV_len])];simp only [Value.cells,List.toList_toArray];rw [pput_s,fill_nil]
theorem built_kl (k:Int) (A:Option Addr) (n c:Nat):prog.built 69 [(0,.int .i64 k),(4,.slice A n c)]=some (partC k S4.empty 0 0 (.slice A n c)).toArray:=by
 rw [built_of rp_struct];unfold zeroPC;rw [fill_step _ _ 0 0 _ _ (by simp [Value.cells]) (by simp [Value.cells,partC_len])];simp only [Value.cells,List.toList_toArray];rw [pput_k,fill_step _ _ 4 259 _ _ (by simp [Value.cells]) (by simp [Value.cells,partC_len])];simp only [Value.cells,List.toList_toArray];rw [pput_l,fill_nil]
theorem built_kml (k mn mx:Int) (A:Option Addr) (n c:Nat):prog.built 69 [(0,.int .i64 k),(2,.int .i64 mn),(3,.int .i64 mx),(4,.slice A n c)]=some (partC k S4.empty mn mx (.slice A n c)).toArray:=by
 rw [built_of rp_struct];unfold zeroPC;rw [fill_step _ _ 0 0 _ _ (by simp [Value.cells]) (by simp [Value.cells,partC_len])];simp only [Value.cells,List.toList_toArray];rw [pput_k,fill_step _ _ 2 257 _ _ (by simp [Value.cells]) (by simp [Value.cells,partC_len])];simp only [Value.cells,List.toList_toArray];rw [pput_mn,fill_step _ _ 3 258 _ _ (by simp [Value.cells]) (by simp [Value.cells,partC_len])];simp only [Value.cells,List.toList_toArray];rw [pput_mx,fill_step _ _ 4 259 _ _ (by simp [Value.cells]) (by simp [Value.cells,partC_len])];simp only [Value.cells,List.toList_toArray];rw [pput_l,fill_nil]
/-! The bracket's answer. -/
theorem bput (s:S4) (n e q:Int):splice (brgC S4.empty n e q) 0 (bitsV s)=brgC s n e q:=by
 unfold splice brgC;rw [bitsV_len,List.take_zero,List.nil_append,Nat.zero_add,List.drop_append_of_le_length (by rw [bitsV_len];omega),List.drop_of_length_le (by rw [bitsV_len];omega),List.nil_append]
theorem bput_tail (s:S4) (n e q:Int) (j:Nat) (v:Value) (hj:j < 3):splice (brgC s n e q) (256+j) [v]=bitsV s ++ [Value.int .i64 n,.int .i64 e,.int .i64 q].set j v:=by
 rw [splice_put (by rw [brgC_len];omega)];unfold brgC;rw [List.set_append_right _ _ (by rw [bitsV_len];omega),bitsV_len,Nat.add_sub_cancel_left]
theorem bput_n (s:S4) (n n' e q:Int):splice (brgC s n e q) 256 [.int .i64 n']=brgC s n' e q:=bput_tail s n e q 0 _ (by omega)
theorem bput_e (s:S4) (n e e' q:Int):splice (brgC s n e q) 257 [.int .i64 e']=brgC s n e' q:=bput_tail s n e q 1 _ (by omega)
theorem bput_q (s:S4) (n e q q':Int):splice (brgC s n e q) 258 [.int .i64 q']=brgC s n e q':=bput_tail s n e q 2 _ (by omega)
theorem bbuilt_eq (e q:Int):prog.built 208 [(2,.int .i64 e),(3,.int .i64 q)]=some (brgC S4.empty 0 e q).toArray:=by
 rw [built_of rb_struct,fill_step _ _ 2 257 _ _ (by simp [Value.cells]) (by simp [Value.cells,brgC_len])];simp only [Value.cells,List.toList_toArray];rw [bput_e,fill_step _ _ 3 258 _ _ (by simp [Value.cells]) (by simp [Value.cells,brgC_len])];simp only [Value.cells,List.toList_toArray];rw [bput_q,fill_nil]
theorem bbuilt_sn (s:S4) (n:Int):prog.built 208 [(0,.agg (bitsV s).toArray),(1,.int .i64 n)]=some (brgC s n 0 0).toArray:=by
 rw [built_of rb_struct,fill_step _ _ 0 0 _ _ (by simp [Value.cells,bitsV_len]) (by simp [Value.cells,brgC_len,bitsV_len])];simp only [Value.cells,List.toList_toArray];rw [bput,fill_step _ _ 1 256 _ _ (by simp [Value.cells]) (by simp [Value.cells,brgC_len])];simp only [Value.cells,List.toList_toArray];rw [bput_n,fill_nil]
end
end Go.Proofs.YtfofechcccodeaaGreatDoor
