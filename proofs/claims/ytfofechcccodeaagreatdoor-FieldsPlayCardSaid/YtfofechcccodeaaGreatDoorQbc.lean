/-
  Small texts in one (Fi2). No conditions.
-/
import Derived.Test.YtfofechcccodeaaGreatDoorQbb
namespace Go.Proofs.YtfofechcccodeaaGreatDoor
open Go.RowKit Go.Shelf Go.Proofs.Tryz
set_option linter.unusedVariables false
set_option linter.unusedSimpArgs false
set_option maxRecDepth 100000
set_option maxHeartbeats 1000000
theorem u8parts:∃ i,prog.info? 5=some i/\i.zero=some (.int .u8 0)/\i.size=1/\i.bytes=1:=info_parts (by kernel_rfl)
def ClonePost (w:World) (bs:List UInt8) (e:Ending) (w':World):Prop:=∃ A c,e = .returned (.slice A bs.length c)/\Bytes w' A bs/\bs.length <= c/\c <= maxLen/\(A=none->c=0)/\Fr [] w w'/\∀ a,A=some a->w.heap.size <= a.block/\a.block < w'.heap.size
theorem nil_eq (w:World):(binOp .eql 64 (.slice none 0 0) (.slice none 0 0)).run prog w = .ok (.bool true) w:=by kernel_rfl
theorem nil_ne (a:Addr) (n c:Nat) (w:World):(binOp .eql 64 (.slice (some a) n c) (.slice none 0 0)).run prog w = .ok (.bool false) w:=by kernel_rfl
theorem clone_any {w:World} {A:Option Addr} {bs:List UInt8} {c:Nat} (h:Bytes w A bs) (hA:A=none->c=0) (hc:bs.length <= c) (hl:bs.length <= 1000000000):Calls prog 50 #[.slice A bs.length c] w (ClonePost w bs):=by
 obtain ⟨i0,hi0,hz0,hz1,hz2⟩:=u8parts
 cases A with
 | none=>
  have h0:bs.length=0:=by have:=hA rfl;omega
  obtain rfl:bs=[]:=List.eq_nil_of_length_eq_zero h0;obtain rfl:c=0:=hA rfl;simp only [List.length_nil];clear h hA;have q:=nil_eq;go_enter func50,ntmps50
  go_wp2_with fail
  go_ret
  exact ⟨none,0,rfl,.inl rfl,by simp,by simp,fun _=>rfl,Fr.refl _ _,by simp⟩
 | some a=>
  have HB:=zh h;clear h hA;have q:=nil_ne;by_cases hbe:bs=[]
  ·subst hbe;simp only [List.length_nil];go_enter func50,ntmps50
   go_wp2_with fail
   go_ret
   exact ⟨some ⟨w.heap.size,0,none⟩,0,rfl,.inl rfl,by simp,by simp,(fun h=>by cases h),(Fr.refl [] w).alloc _,fun a ha=>by injection ha with ha;subst ha;simp⟩
  go_enter func50,ntmps50
  go_wp2_with (at_builtin;refine wpList_append_full rfl (.tmp 5) (.tmp 6) 64 rfl 5 i0 _ underlying64 hi0 hz0 hz1 rfl (some ⟨w.heap.size,0,none⟩) (some a) 0 bs.length c (by first | rfl | simp [Act.eval]) (by first | rfl | simp [Act.eval]) [] (byteVals bs) (.inl rfl) rfl (At.alloc HB.out _) (byteVals_length _) (fun h=>by cases h) (by rw [hz2];omega) (by unfold maxLen;omega) ?_;intro A5 c5 w5 hat hle hmx hnil hfr hwh;have HAT:=zh hat;have HF5:=zh hfr;have HNIL:=zh hnil;have HWH:=zh hwh;clear hat hfr hnil hwh)
  go_ret
  have hat:=HAT.out;rw [List.nil_append] at hat
  have hF:Fr [] w w5:=((Fr.refl [] w).alloc _).trans HF5.out;refine ⟨A5,c5,by simp,hat,by omega,hmx,HNIL.out,hF,fun a ha=>⟨?_,?_⟩⟩
  ·rcases HWH.out with ⟨-, h⟩ | h
   ·rw [h] at ha;injection ha with ha;subst ha;simp
   rw [h] at ha;injection ha with ha;subst ha;simp
  rcases hat with h | ⟨a',h1,h2,-⟩
  ·exact absurd h (by cases bs <;> simp_all [byteVals])
  rw [h1] at ha;injection ha with ha;subst ha;exact h2
def FindsPost (w:World) (fb:Nat) (tx:List UInt8) (e:Ending) (w':World):Prop:=∃ fbx kbx A3 c3,e = .returned (.func (.func 63) #[] #[.pointer (some ⟨fbx,0,none⟩),.pointer (some ⟨kbx,0,none⟩)])/\w'.cell? ⟨fbx,0,none⟩=some (.pointer (some ⟨fb,0,none⟩))/\w'.cell? ⟨kbx,0,none⟩=some (.slice A3 tx.length c3) /\
 Bytes w' A3 tx/\tx.length <= c3/\(∀ a,A3=some a->a.block < w'.heap.size)/\Fr [] w w'/\w.heap.size <= kbx
theorem Finds_any {w:World} {fb:Nat} {A:Option Addr} {tx:List UInt8} {c:Nat} (h:Bytes w A tx) (hA:A=none->c=0) (hc:tx.length <= c) (hl:tx.length <= 10000) :
    Calls prog 49 #[.pointer (some ⟨fb,0,none⟩),.slice A tx.length c] w (FindsPost w fb tx):=by
 obtain ⟨n,hn⟩:∃ n,n=tx.length:=⟨_,rfl⟩;have hfa:Fr [] w (w.alloc (.cells #[.pointer (some ⟨fb,0,none⟩)] 50)):=(Fr.refl [] w).alloc _;have HC:=zh (clone_any (h.fr hfa (by simp)) hA hc (by omega));have HN:=zh hn;rw [<-hn] at HC ⊢; clear h hn hc hfa;go_enter func49,ntmps49
 go_wp2_with fail
 refine HC.out.mono ?_;rintro e w1 ⟨A3,c3,rfl,hb,hle,hmx,hnil,hf,hbd⟩;have hc0:w1.cell? ⟨w.heap.size,0,none⟩=some (.pointer (some ⟨fb,0,none⟩)):=((Bk.new w 50 #[.pointer (some ⟨fb,0,none⟩)]).fr hf (by simp)).cell_ (i:=0) rfl;have hsz:=hf.size;simp at hsz;have HB:=zh hb;have HLE:=zh hle;have HF:=zh hf;have HBD:=zh hbd;have HC0:=zh hc0;clear hb hle hmx hf hbd HC hc0 hnil;go_wp2_with fail
 go_ret
 have hf1:Fr [] w (w1.alloc (.cells #[.slice A3 tx.length c3] 64)):=(((Fr.refl [] w).alloc _).trans HF.out).alloc _;have hf2:Fr [] w1 (w1.alloc (.cells #[.slice A3 tx.length c3] 64)):=(Fr.refl [] w1).alloc _;exact ⟨w.heap.size,w1.heap.size,A3,c3,rfl,(hf2.cell (World.block_lt_of_cell? _ _ HC0.out) (by simp)).trans HC0.out,(Bk.new w1 64 #[.slice A3 tx.length c3]).cell_ (i:=0) rfl,HB.out.fr hf2 (by simp),HLE.out,fun a ha=>Nat.lt_of_lt_of_le (HBD.out a ha).2 hf2.size,hf1,by omega⟩
def bodyPostN (P:Program) (fn:Func) (R:Ending->World->Prop):Exit->Act->World->Prop
 | .normal,a,w=>bodyPostM Fence.wide 5 P fn R .normal a w
 | .ret,a,w=>bodyPostM Fence.wide 5 P fn R .ret a w
 | .outgrown,a,w=>bodyPostM Fence.wide 5 P fn R .outgrown a w
 | _,_,_=>False
theorem calls_marks {P:Program} {f:FuncId} {fn:Func} {c:Code} {args:Array Value} {w:World} {R:Ending->World->Prop} (hf:P.funcs[f]?=some fn) (hb:fn.body=some c)
    (h:c.wp P (bodyPostN P fn R) { tmps:=args ++ Array.replicate (fn.ntmps - args.size) undef,defers:=[] } w):Calls P f args w R:=
 callsIn_wide.1 (callsIn_of_wp_marks (F:=Fence.wide) (n:=5) hf hb trivial (wpIn_wide.2 (wp_mono h fun e a w hq=>by cases e <;> first | exact hq.elim | exact hq)) rfl)
def rangePostF (B:Nat) (St:List Nat) (I:World->Prop) (Ix:Code->World->Prop) (W2:World):Exit->Act->World->Prop
 | .normal,_,W3=>(∀ b ∈ St,W3.heap[b]?=W2.heap[b]?)/\KB B W2 W3/\I W3
 | .ret,_,W3=>(∀ b ∈ St,W3.heap[b]?=W2.heap[b]?)/\Ix .ret W3
 | .exit id,_,W3=>(∀ b ∈ St,W3.heap[b]?=W2.heap[b]?)/\Ix (.exit id) W3
 | _,_,_=>False
theorem fr_put {W:World} {l:Nat} (o:Obj):Fr [l] W (W.putObj l o):=⟨rfl,rfl,rfl,by simp [World.putObj],fun k hk hn=>World.putObj_heap_other (by simpa using hn)⟩
theorem KB.obj {B:Nat} {w:World} {l:Nat} {o o':Obj} (h:w.heap[l]?=some o) (ho:∀ cs t f,o ≠ .cells cs t f):KB B w (w.putObj l o'):=by
 refine ⟨fun g cs hg=>?_,fun A bs _ hb=>?_⟩
 ·have hne:l ≠ g:=by
   rintro rfl;have hg':w.heap[l]?=some (.cells cs 142 (0,0)):=hg;rw [h] at hg';injection hg' with hg';exact ho _ _ _ hg'
  exact (World.putObj_heap_other hne.symm).trans hg
 rcases hb with e | ⟨p,h1,h2,h3⟩
 ·exact .inl e
 cases bs with
 | nil=>exact .inl rfl
 | cons y r=>
  have hB:Bytes w A (y :: r) := .inr ⟨p,h1,h2,h3⟩
  have hne:p.block ≠ l:=by
   intro e;have hc:=h3 0 (.int .u8 (y.toNat:Int)) rfl;have e0:p.add 0=p:=by simp [Addr.add]
   rw [e0] at hc;unfold World.cell? at hc;rw [e,h] at hc
   cases o <;> first | (cases hc;done) | exact ho _ _ _ rfl
  exact bytes_same hB (fun q hq=>by rw [h1] at hq;injection hq with hq;subst hq;exact World.putObj_heap_other hne)
theorem wp_rangeFinds {g:Operand} {ps:Array Tmp} {assign body:Code} {Q:Exit->Act->World->Prop} {a:Act} {w:World} {fbx kbx fb lo0:Nat} {L:List Sp} {A2:Option Addr} {tx:List UInt8} {c2:Nat}
    (hg:a.eval g = .func (.func 63) #[] #[.pointer (some ⟨fbx,0,none⟩),.pointer (some ⟨kbx,0,none⟩)]) (hps:ps.size=2)
    (hfb:w.cell? ⟨fbx,0,none⟩=some (.pointer (some ⟨fb,0,none⟩))) (hkb:w.cell? ⟨kbx,0,none⟩=some (.slice A2 tx.length c2))
    (hF:FinderAt w lo0 fb L) (ht:Bytes w A2 tx) (htc:tx.length <= c2) (htl:∀ a,A2=some a->a.block < w.heap.size) (h0L:0 < L.length) (hL:L.length <= 5000) (hok:ProgOk L) (htx:tx.length <= 10000)
    (I:List Nat->Nat->World->Prop) (Ix:List Nat->Code->World->Prop)
    (hI0:∀ St W',Fr [] w W'->(∀ b ∈ St,w.heap.size <= b/\b < W'.heap.size)->I St 0 W')
    (hfr:∀ St St' k W1 W2,I St k W1->Fr St W1 W2->(∀ b ∈ St',b ∈ St ∨ W1.heap.size <= b)->I St' k W2) (hfx:∀ St c W1 W2,Ix St c W1->Fr St W1 W2->Ix St c W2)
    (hround:∀ (St:List Nat) (l k:Nat) (x:Nat × Nat) (W:World),l ∈ St->(∀ b ∈ St,w.heap.size <= b/\b < W.heap.size)->w.heap.size+2 <= W.heap.size->(findsS L tx)[k]?=some x->I St k W ->
     assign.wpIn (Fence.wide.inRound l) 2 prog (Exit.then (fun a1 W1=>Fr [] W W1/\∀ W2,Fr [l] W1 W2->body.wpIn (Fence.wide.inRound l) 2 prog (rangePostF (w.heap.size+2) (kbx :: St) (I St (k+1)) (Ix St) W2) a1 W2) (fun _ _ _=>False))
      { tmps:=(ps.zip #[.int .i64 (x.1:Int),.int .i64 (x.2:Int)]).foldl (fun t (p,v)=>t.setIfInBounds p v) a.tmps,defers:=[] } W)
    (hdone:∀ (D:Nat) (St:List Nat) (W:World),D ∈ St->(∀ b ∈ St,w.heap.size <= b)->I St (findsS L tx).length W->W.heap[D]?=some (.deferred (some []))->w.heap.size+2 <= W.heap.size->Q .normal { a with defers:={ target := .collected D,args:=#[] } :: a.defers } W)
    (hstop:∀ (D:Nat) (c:Code) (St:List Nat) (W:World),D ∈ St->(∀ b ∈ St,w.heap.size <= b)->Ix St c W->W.heap[D]?=some (.deferred (some []))->c.wp prog Q { a with defers:={ target := .collected D,args:=#[] } :: a.defers } W) :
    (Code.rangeFunc g ps assign body).wp prog Q a w:=by
 refine (wpIn_wide (n:=4)).1 (wpIn_rangeFunc fun fn hfn=>?_);obtain ⟨rec,hrec⟩:∃ rec:LoopState->Option Code->Loop,rec=fun st pe=>{ state:=st,pending:=pe,fn,tmps:=a.tmps,params:=ps,assign,body,defers:=w.heap.size }:=⟨_,rfl⟩;obtain ⟨D,hD⟩:∃ D,D=w.heap.size:=⟨_,rfl⟩;obtain ⟨l,hl⟩:∃ l,l=w.heap.size+1:=⟨_,rfl⟩;obtain ⟨W1,hW1⟩:∃ W1,W1=(w.alloc (.deferred (some []))).alloc (.loop (rec .ready none)):=⟨_,rfl⟩;have hf1:Fr [] w W1:=by rw [hW1];exact ((Fr.refl [] w).alloc _).alloc _
 have hsz1:W1.heap.size=w.heap.size+2:=by rw [hW1];simp
 have hL1:W1.heap[l]?=some (.loop (rec .ready none)):=by
  rw [hW1,hl];have:=heap_alloc_new (w.alloc (.deferred (some []))) (.loop (rec .ready none));rwa [World.size_alloc] at this
 have hD1:W1.heap[D]?=some (.deferred (some [])):=by
  rw [hW1,hD];exact (Below.heap_alloc _ _ _ (by simp)).trans (heap_alloc_new w _)
 have hDl:D ≠ l:=by omega
 have hkl:kbx < w.heap.size:=World.block_lt_of_cell? w _ hkb;have hfl:fbx < w.heap.size:=World.block_lt_of_cell? w _ hfb;obtain ⟨pA,pc,hp1,hp2⟩:=hF;have hF1:FinderAt W1 lo0 fb L:=⟨pA,pc,hp1.fr hf1 (by simp),own_keep hp2 (KeepB.of_nil hf1)⟩
 refine ⟨l,[{ target := .collected D,args:=#[] }],W1,{ target := .fn (.func 63) #[.pointer (some ⟨fbx,0,none⟩),.pointer (some ⟨kbx,0,none⟩)],args:=#[.func (.yield l) #[] #[]] },W1,63,
  #[.func (.yield l) #[] #[]] ++ #[.pointer (some ⟨fbx,0,none⟩),.pointer (some ⟨kbx,0,none⟩)],W1,?_,?_,?_,?_,?_,?_⟩
 ·rw [hW1,hrec,hl,hD];exact run_enterLoop_outer _ _ _ _ _
 ·simp only [resolve,hg];simp [go_sem]
 ·intro f' hf';trivial
 ·have eg:=enters_of func63 (by kernel_rfl) rfl;simp [invoke,go_sem,eg]
 ·intro h;cases h
 have hcall:=finds1_in (l:=l) (fbx:=fbx) (kbx:=kbx) (W:=W1) ((hf1.cell (p:=⟨fbx,0,none⟩) hfl (by simp)).trans hfb) ((hf1.cell (p:=⟨kbx,0,none⟩) hkl (by simp)).trans hkb) hF1 (ht.fr hf1 (by simp)) htc (fun a ha=>Nat.lt_of_lt_of_le (htl a ha) hf1.size) h0L hL hok htx
  (fun bl k W=>I (D :: l :: bl) k W/\W.heap[l]?=some (.loop (rec .ready none))/\W.heap[D]?=some (.deferred (some [])))
  (fun W=>∃ c St,Ix (D :: l :: St) c W/\W.heap[l]?=some (.loop (rec .done (some c)))/\W.heap[D]?=some (.deferred (some []))/\∀ b ∈ St,W1.heap.size <= b)
  (fun bl W' hf hb=>⟨hI0 _ W' (hf1.trans hf) (fun b hbm=>by
      have hs:=hf.size;rcases List.mem_cons.1 hbm with rfl | hbm
      ·exact ⟨by omega,by omega⟩
      rcases List.mem_cons.1 hbm with rfl | hbm
      ·exact ⟨by omega,by omega⟩
      have:=hb b hbm;exact ⟨by omega,this.2⟩),(hf.block l (by omega) (by simp)).trans hL1,(hf.block D (by omega) (by simp)).trans hD1⟩)
  (fun bl bl' k Wa Wb hbl hj hf hbl'=>⟨hfr _ _ _ _ _ hj.1 (hf.mono (fun b hb=>by simp [hb])) (fun b hb=>by
      rcases List.mem_cons.1 hb with rfl | hb
      ·exact .inl (by simp)
      rcases List.mem_cons.1 hb with rfl | hb
      ·exact .inl (by simp)
      rcases hbl' b hb with h | h
      ·exact .inl (by simp [h])
      exact .inr h),
   (hf.block l (Array.getElem?_eq_some_iff.1 hj.2.1).1 (fun hm=>by have:=hbl l hm;omega)).trans hj.2.1,(hf.block D (Array.getElem?_eq_some_iff.1 hj.2.2).1 (fun hm=>by have:=hbl D hm;omega)).trans hj.2.2⟩) ?_
 ·refine CallsIn.mono hcall ?_;rintro e W2 ⟨⟨v,rfl⟩,(⟨bl,hbl,hi,hl2,hd2⟩ | ⟨c,St,hi,hl2,hd2,hSt⟩)⟩
  ·refine ⟨none,_,by have h:=run_endLoop (P:=prog) hl2 (by rw [hrec];simp);rw [hrec] at h;exact h,hdone D (D :: l :: bl) _ (by simp) (fun b hb=>by
    rcases List.mem_cons.1 hb with rfl | hb
    ·omega
    rcases List.mem_cons.1 hb with rfl | hb
    ·omega
    have:=hbl b hb;omega) (hfr _ _ _ _ _ hi ((fr_put (l:=l) _).mono (by simp)) (fun b hb => .inl hb)) ((World.putObj_heap_other hDl).trans hd2) (by have:=(Array.getElem?_eq_some_iff.1 hl2).1;simp [World.putObj];omega)⟩
  refine ⟨some c,_,by have h:=run_endLoop (P:=prog) hl2 (by rw [hrec];simp);rw [hrec] at h;exact h,wpIn_wide.2 (hstop D c (D :: l :: St) _ (by simp) (fun b hb=>by
   rcases List.mem_cons.1 hb with rfl | hb
   ·omega
   rcases List.mem_cons.1 hb with rfl | hb
   ·omega
   have:=hSt b hb;omega) (hfx _ _ _ _ hi ((fr_put (l:=l) _).mono (by simp))) ((World.putObj_heap_other hDl).trans hd2))⟩
 rintro bl k x Wr hbl hx ⟨hi,hlr,hdr⟩;have hy:=run_yield (P:=prog) (args:=#[.int .i64 (x.1:Int),.int .i64 (x.2:Int)]) hlr (by rw [hrec];exact hps.symm);rw [hrec] at hy;have hltr:=(Array.getElem?_eq_some_iff.1 hlr).1;have hltD:=(Array.getElem?_eq_some_iff.1 hdr).1
 have hSt:∀ b ∈ (D :: l :: bl),w.heap.size <= b/\b < Wr.heap.size:=fun b hb=>by
  rcases List.mem_cons.1 hb with rfl | hb
  ·exact ⟨by omega,by omega⟩
  rcases List.mem_cons.1 hb with rfl | hb
  ·exact ⟨by omega,by omega⟩
  have:=hbl b hb;exact ⟨by omega,this.2⟩
 have hkr:kbx < Wr.heap.size:=by omega
 refine ⟨fn,_,assign,body,hy,roundIn_of_wpIn hfn (wpIn_mono (hround (D :: l :: bl) l k x Wr (by simp) hSt (by omega) hx hi) ?_)⟩;rintro e a1 Wa h
 cases e with
 | normal=>
  obtain ⟨hfa,hbody⟩:=h;have hla:Wa.heap[l]?=some (.loop (rec .ready none)):=(hfa.block l hltr (by simp)).trans hlr;have hda:Wa.heap[D]?=some (.deferred (some [])):=(hfa.block D (Array.getElem?_eq_some_iff.1 hdr).1 (by simp)).trans hdr;have hlta:=(Array.getElem?_eq_some_iff.1 hla).1;refine ⟨_,run_beginRound hla (by rw [hrec]),wpIn_mono (hbody _ (fr_put _)) ?_⟩
  have fin:∀ (jump:Option Code) (W3:World),(∀ b ∈ kbx :: D :: l :: bl,W3.heap[b]?=(Wa.putObj l (.loop { rec .ready none with state := .busy })).heap[b]?) ->
      (Instr.endRound l jump).run prog W3 = .ok (.bool jump.isNone) (W3.putObj l (.loop (rec (if jump.isNone then .ready else .done) jump))) /\
      (W3.putObj l (.loop (rec (if jump.isNone then .ready else .done) jump))).heap[l]?=some (.loop (rec (if jump.isNone then .ready else .done) jump)) /\
      (W3.putObj l (.loop (rec (if jump.isNone then .ready else .done) jump))).heap[D]?=some (.deferred (some [])) /\
      (∀ b ∈ kbx :: bl,(W3.putObj l (.loop (rec (if jump.isNone then .ready else .done) jump))).heap[b]?=Wr.heap[b]?)/\W3.heap[l]?=some (.loop { rec .ready none with state := .busy }):=fun jump W3 hst=>by
   have hl3:W3.heap[l]?=some (.loop { rec .ready none with state := .busy }):=(hst l (by simp)).trans (World.putObj_heap_same hlta);have hd3:W3.heap[D]?=some (.deferred (some [])):=(hst D (by simp)).trans ((World.putObj_heap_other hDl).trans hda);have hr:=run_endRound (P:=prog) jump hl3;rw [hrec] at hr ⊢; refine ⟨hr,World.putObj_heap_same (Array.getElem?_eq_some_iff.1 hl3).1,(World.putObj_heap_other hDl).trans hd3,fun b hb=>?_,by rw [<-hrec];exact hl3⟩
   have hbl':b ≠ l/\b < Wr.heap.size:=by
    rcases List.mem_cons.1 hb with rfl | hb
    ·exact ⟨by omega,hkr⟩
    have:=hbl b hb;exact ⟨by omega,this.2⟩
   have hb3:W3.heap[b]?=Wr.heap[b]?:=(hst b (by
    rcases List.mem_cons.1 hb with rfl | hb
    ·simp
    simp [hb])).trans ((World.putObj_heap_other hbl'.1).trans (hfa.block b hbl'.2 (by simp)))
   exact (World.putObj_heap_other hbl'.1).trans hb3
  rintro e a3 W3 hp
  cases e with
  | normal=>
   obtain ⟨hst,hkb3,hi3⟩:=hp;obtain ⟨hr,h1,h2,h3,h4⟩:=fin none W3 hst;have hkbA:KB W1.heap.size Wr Wa:=KB.of_nil hfa;have hkbB:KB W1.heap.size Wa (Wa.putObj l (.loop { rec .ready none with state := .busy })):=KB.obj hla (fun _ _ _=>by simp);have hkbC:KB W1.heap.size W3 (W3.putObj l (.loop (rec (if (none:Option Code).isNone then .ready else .done) none))):=KB.obj h4 (fun _ _ _=>by simp);exact ⟨_,_,hr,.inl ⟨rfl,⟨hfr _ _ _ _ _ hi3 ((fr_put (l:=l) _).mono (by simp)) (fun b hb => .inl hb),h1,h2⟩,h3,hkbA.trans (hkbB.trans (KB.trans (by rw [hsz1];exact hkb3) hkbC))⟩⟩
  | ret=>
   obtain ⟨hst,hi3⟩:=hp;obtain ⟨hr,h1,h2,h3,h4⟩:=fin (some .ret) W3 hst;exact ⟨_,_,hr,.inr ⟨rfl,.ret,bl,hfx _ _ _ _ hi3 ((fr_put (l:=l) _).mono (by simp)),h1,h2,fun b hb=>(hbl b hb).1⟩⟩
  | exit id=>
   obtain ⟨hst,hi3⟩:=hp;obtain ⟨hr,h1,h2,h3,h4⟩:=fin (some (.exit id)) W3 hst;exact ⟨_,_,hr,.inr ⟨rfl,.exit id,bl,hfx _ _ _ _ hi3 ((fr_put (l:=l) _).mono (by simp)),h1,h2,fun b hb=>(hbl b hb).1⟩⟩
  | goto t=>exact hp.elim
  | panic ch=>exact hp.elim
  | outgrown=>exact hp.elim
 | ret=>exact h
 | exit id=>exact h
 | goto t=>exact h
 | panic ch=>exact h
 | outgrown=>exact h
end Go.Proofs.YtfofechcccodeaaGreatDoor
