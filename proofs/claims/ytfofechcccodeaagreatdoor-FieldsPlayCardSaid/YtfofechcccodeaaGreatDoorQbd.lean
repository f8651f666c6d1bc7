/-
  Small texts in one (Fi3). No conditions.
-/
import Derived.Test.YtfofechcccodeaaGreatDoorQbc
import Derived.Test.YtfofechcccodeaaGreatDoorQaf
namespace Go.Proofs.YtfofechcccodeaaGreatDoor
open Go.RowKit Go.Shelf Go.Proofs.Tryz
attribute [local go_sem] Oper.semAt_some
set_option linter.unusedVariables false
set_option linter.unusedSimpArgs false
set_option maxRecDepth 100000
set_option maxHeartbeats 8000000
section
variable {P:Program}
theorem op_inRound {o:Oper} {a:Act} {w:World} {K:Act->World->Prop} {Q:Exit->Act->World->Prop} (l m:Nat) (hd:∀ c,o.op ≠ .defer c) (h:o.wp P a w K Q):o.wpIn (Fence.wide.inRound l) m P a w K Q:=by
 unfold Oper.wp at h;refine ⟨fun _ _=>trivial,?_⟩;rw [Oper.semAt_eq _ _ _ hd]
 generalize (execOp a.eval o).run P w=r at h ⊢
 cases r with
 | ok x w'=>
  cases x with
  | value v=>exact h
  | skip=>exact h
  | defer d=>exact h
  | enter f args=>
   refine ⟨fun h=>(by cases h),CallsIn.inRound l (callsIn_wide.2 (Calls.mono h fun e w'' he=>?_))⟩
   cases e <;> exact he
  | row row args=>
   refine ⟨fun h=>(by cases h),fun c cs _=>?_⟩;obtain ⟨v,w'',r,s⟩:=h c cs;exact ⟨v,w'',r,stepsIn_wide.2 s⟩
  | _=>exact h.elim
 | halt x w'=>cases x <;> exact h
def noDefer (l:List Oper):Bool:=l.all fun o=>match o.op with
 | .defer _=>false
 | _=>true
theorem noDefer_spec {l:List Oper} (h:noDefer l=true) {i:Nat} {o:Oper} (ho:l.toArray[i]?=some o):∀ c,o.op ≠ .defer c:=by
 intro c hc;unfold noDefer at h;rw [List.all_eq_true] at h
 have hm:o ∈ l:=by
  rw [List.getElem?_toArray] at ho;exact List.mem_of_getElem? ho
 have:=h o hm;rw [hc] at this
 cases this
theorem wpAny_inRound {md:Region.Mode} {l:List Oper} {Q:Exit->Act->World->Prop} (rl m:Nat) (hd:noDefer l=true) (hq:∀ a w,¬ Q .outgrown a w):∀ (n:Nat) (listed:Array Bool) (a:Act) (w:World),
    wpAny P md l.toArray Q n listed a w->wpAnyIn (Fence.wide.inRound rl) m P md l.toArray Q n listed a w
 | 0,_,_,_,h=>h
 | n+1,listed,a,w,h=>by
  refine ⟨h.1,fun i hi=>?_⟩;have h2:=h.2 i hi;unfold wpOp at h2;unfold wpOpIn
  cases ho:l.toArray[i]? with
  | none=>rw [ho] at h2;exact wpAny_inRound rl m hd hq n _ a w h2
  | some o=>
   rw [ho] at h2;dsimp only at h2 ⊢; split at h2
   ·rename_i hw
    rw [if_pos hw];rcases h2 with h2 | ⟨-, a',w',h2⟩
    ·exact Oper.wpIn_mono (fun a w h=>wpAny_inRound rl m hd hq n _ a w h) (op_inRound rl m (noDefer_spec hd ho) h2)
    exact absurd h2 (hq a' w')
   rename_i hw
   rw [if_neg hw];exact ⟨fun _ _=>trivial,wpAny_inRound rl m hd hq n _ _ w h2⟩
theorem wpIn_region_F_ {G:World->World->Prop} {S:World->Prop} {F:Nat->Bool} {id rl m:Nat} {a:Act} {w:World} {Q:Exit->Act->World->Prop} {l:List Oper} (su:Setup P l Q G S) (hm:P.follows .mixedOrders=true) (hd:noDefer l=true) (hq:∀ a w,¬ Q .outgrown a w)
    (h:Setup P l Q G S->wpAnyF P .any l.toArray Q G S F l.length (Array.replicate l.length false) a w.drew):(Code.region id l.toArray true).wpIn (Fence.wide.inRound rl) m P Q a w:=by
 refine wpIn_region_any hm (wpAny_inRound rl m hd hq _ _ _ _ (wpAnyF.any (G:=G) (S:=S) (F:=F) su.r _ _ _ _ ?_));have e:l.toArray.size=l.length:=by simp
 rw [e];exact h su
variable {Q:Exit->Act->World->Prop} {md:Region.Mode} {G:World->World->Prop} {S:World->Prop} {F:Nat->Bool} {l r:List Oper} {o:Oper} {i n:Nat} {listed:Array Bool} {a:Act} {w:World}
theorem F_cut2 (t:TypeId) (x ol oh:Operand) (su:Setup P l Q G S) (ho:l.drop i=o :: r) (hop:o.op = .slice t x (some ol) (some oh) none) (e:TypeId) (ti:TypeInfo) (ht:P.underlying t=some (.slice e)) (hi:P.info? e=some ti) (hs:ti.size=1)
    (A:Option Addr) (len c lo h:Nat) (hxv:a.eval x = .slice A len c) (hl:a.eval ol = .int .i64 (lo:Int)) (hh:a.eval oh = .int .i64 (h:Int)) (h0:lo <= h) (h1:h <= len) (h2:len <= c)
    (hB:((Region.ready md l.toArray listed).contains i && Region.free md l.toArray listed i && waits md l.toArray F i)=true) (hS:S w) (hw:Region.wanted o (yielded l.toArray a.tmps)=true)
    (hr:wpAnyF P md l.toArray Q G S F n (listed.setIfInBounds i true) (a.put o.dst (.slice (if c=lo then A else A.map (·.add (lo * 1))) (h - lo) (c - lo))) w):wpAnyF P md l.toArray Q G S F (n+1) listed a w:=by
 refine F_val su ho hB hS hw (fun w' _=>?_) hr
 have hrun:(Instr.sliceAt t (a.eval x) (some (a.eval ol)) (some (a.eval oh)) none).run P w' = .ok (.slice (if c=lo then A else A.map (·.add (lo * 1))) (h - lo) (c - lo)) w':=by
  rw [hxv,hl,hh];have hb:=run_bounds_ (P:=P) len c (some (.int .i64 (lo:Int))) (some (.int .i64 (h:Int))) none lo h c w' (.inr rfl) (.inr rfl) (.inl ⟨rfl,rfl⟩) h0 (Nat.le_trans h1 h2) (Nat.le_refl _);simp [Instr.sliceAt,Instr.slice,run_underlying ht,sizeOf,typeInfo,hi,hs,hb]
 unfold execOp;simp only [hop,Option.map_none,Option.map_some,hrun,Sem.run_bind,Result.andThen_ok,Sem.run_pure]
theorem F_cut1 (t:TypeId) (x ol:Operand) (su:Setup P l Q G S) (ho:l.drop i=o :: r) (hop:o.op = .slice t x (some ol) none none) (e:TypeId) (ti:TypeInfo) (ht:P.underlying t=some (.slice e)) (hi:P.info? e=some ti) (hs:ti.size=1)
    (A:Option Addr) (len c lo:Nat) (hxv:a.eval x = .slice A len c) (hl:a.eval ol = .int .i64 (lo:Int)) (h0:lo <= len) (h2:len <= c)
    (hB:((Region.ready md l.toArray listed).contains i && Region.free md l.toArray listed i && waits md l.toArray F i)=true) (hS:S w) (hw:Region.wanted o (yielded l.toArray a.tmps)=true)
    (hr:wpAnyF P md l.toArray Q G S F n (listed.setIfInBounds i true) (a.put o.dst (.slice (if c=lo then A else A.map (·.add (lo * 1))) (len - lo) (c - lo))) w):wpAnyF P md l.toArray Q G S F (n+1) listed a w:=by
 refine F_val su ho hB hS hw (fun w' _=>?_) hr
 have hrun:(Instr.sliceAt t (a.eval x) (some (a.eval ol)) none none).run P w' = .ok (.slice (if c=lo then A else A.map (·.add (lo * 1))) (len - lo) (c - lo)) w':=by
  rw [hxv,hl];have hb:=run_bounds_ (P:=P) len c (some (.int .i64 (lo:Int))) none none lo len c w' (.inr rfl) (.inl ⟨rfl,rfl,rfl⟩) (.inl ⟨rfl,rfl⟩) h0 h2 (Nat.le_refl _);simp [Instr.sliceAt,Instr.slice,run_underlying ht,sizeOf,typeInfo,hi,hs,hb]
 unfold execOp;simp only [hop,Option.map_none,Option.map_some,hrun,Sem.run_bind,Result.andThen_ok,Sem.run_pure]
theorem wp_call_ {o:Oper} {a:Act} {w:World} {K:Act->World->Prop} {f:FuncId} {args:Array Value} {R:Value->World->Prop} (hr:(execOp a.eval o).run P w = .ok (.enter f args) w) (hc:Calls P f args w fun e w'=>∃ v,e = .returned v/\R v w') (hK:∀ v w',R v w'->K (a.put o.dst v) w'):o.wp P a w K Q:=by
 unfold Oper.wp;rw [hr,Oper.upon_enter];exact hc.mono fun e w' ⟨v,he,h⟩=>by subst he;exact hK v w' h
end
theorem cut_bytes {w:World} {A:Option Addr} {bs:List UInt8} {c lo h:Nat} (hb:Bytes w A bs) (h0:lo <= h) (h1:h <= bs.length) (h2:bs.length <= c) (hA:A=none->c=0) :
    Bytes w (if c=lo then A else A.map (·.add (lo * 1))) ((bs.drop lo).take (h - lo))/\((if c=lo then A else A.map (·.add (lo * 1)))=none->c - lo=0):=by
 refine ⟨?_,?_⟩
 ·by_cases e:c=lo
  ·have:h - lo=0:=by omega
   rw [this];exact .inl (by simp [byteVals])
  rw [if_neg e,Nat.mul_one];have:=(At.cut hb (k:=lo) (cap:=c) (by rw [byteVals_length];exact h2)).take (h - lo);rw [if_neg e] at this
  simpa [Bytes,byteVals,List.map_take,List.map_drop] using this
 intro hX;split at hX
 ·omega
 have:A=none:=by simpa using hX
 have:=hA this;omega
def PartsV (w:World) (K:Nat->Prop) (es:List Value) (ps:List (List UInt8)):Prop:=
 ∀ (i:Nat) (p:List UInt8),ps[i]?=some p->∃ (A:Option Addr) (c:Nat),es[i]?=some (Value.slice A p.length c)/\Bytes w A p/\p.length <= c/\(A=none->c=0)/\∀ a:Addr,A=some a->K a.block/\a.block < w.heap.size
theorem PartsV.fr {w w':World} {K K':Nat->Prop} {es:List Value} {ps:List (List UInt8)} {l:List Nat} (h:PartsV w K es ps) (hf:Fr l w w') (hK:∀ b,K b->b < w.heap.size->b ∉ l/\K' b):PartsV w' K' es ps:=by
 intro i p hp;obtain ⟨A,c,h1,h2,h3,h4,h5⟩:=h i p hp;exact ⟨A,c,h1,h2.fr hf (fun a ha _ hm=>(hK _ (h5 a ha).1 (h5 a ha).2).1 hm),h3,h4,fun a ha=>⟨(hK _ (h5 a ha).1 (h5 a ha).2).2,Nat.lt_of_lt_of_le (h5 a ha).2 hf.size⟩⟩
theorem PartsV.snoc {w:World} {K:Nat->Prop} {es:List Value} {ps:List (List UInt8)} (h:PartsV w K es ps) (hl:es.length=ps.length) {A:Option Addr} {p:List UInt8} {c:Nat} (h2:Bytes w A p) (h3:p.length <= c) (h4:A=none->c=0) (h5:∀ a,A=some a->K a.block/\a.block < w.heap.size) :
    PartsV w K (es ++ [.slice A p.length c]) (ps ++ [p]):=by
 intro i q hq;rcases Nat.lt_or_ge i ps.length with hi | hi
 ·rw [List.getElem?_append_left hi] at hq;obtain ⟨A',c',g1,g2⟩:=h i q hq;exact ⟨A',c',by rw [List.getElem?_append_left (by omega)];exact g1,g2⟩
 rw [List.getElem?_append_right hi] at hq
 have hi':i=ps.length:=by
  have:=(List.getElem?_eq_some_iff.1 hq).1;simp at this;omega
 subst hi';simp at hq;subst hq;exact ⟨A,c,by rw [<-hl,List.getElem?_append_right (Nat.le_refl _)];simp,h2,h3,h4,h5⟩
theorem bytesParts:∃ i,prog.info? 64=some i/\i.zero=some (.slice none 0 0)/\i.size=1/\i.bytes=24:=info_parts (by kernel_rfl)
structure SpI (w0:World) (lbx bbx:Nat) (tx:List UInt8) (FL:List (Nat × Nat)) (St:List Nat) (k:Nat) (W:World) (LA:Option Addr) (lc:Nat) (es:List Value) (ps:List (List UInt8)) (beh:Nat):Prop where
 fr:Fr [lbx,bbx] w0 W
 st:∀ b ∈ St,w0.heap.size <= b
 lb:Bk W lbx 80 #[.slice LA ps.length lc]
 bb:Bk W bbx 3 #[.int .i64 (beh:Int)]
 own:W.ownsRow (w0.heap.size+2) 64 1 (.slice LA ps.length lc) ps.length es
 nst:∀ b,(Value.slice LA ps.length lc).ownBlock=some b->b ∉ St
 pts:PartsV W (fun b=>w0.heap.size <= b/\b ∉ St/\(Value.slice LA ps.length lc).ownBlock ≠ some b) es ps
 spl:splitF tx FL 0=ps ++ splitF tx (FL.drop k) beh
 ord:∀ q ∈ FL.drop k,beh <= q.1
 ble:beh <= tx.length
 pl:ps.length <= k
theorem SpI.far {w0:World} {lbx bbx:Nat} {tx:List UInt8} {FL:List (Nat × Nat)} {St St':List Nat} {k:Nat} {W W':World} {LA:Option Addr} {lc:Nat} {es:List Value} {ps:List (List UInt8)} {beh:Nat}
    (h:SpI w0 lbx bbx tx FL St k W LA lc es ps beh) (hl:lbx < w0.heap.size) (hb:bbx < w0.heap.size) (hf:Fr St W W') (hS:∀ b ∈ St',b ∈ St ∨ W.heap.size <= b):SpI w0 lbx bbx tx FL St' k W' LA lc es ps beh:=by
 have hsz:=h.fr.size;refine ⟨h.fr.trans' hf (fun b hb => .inr (h.st b hb)),fun b hb=>?_,h.lb.fr hf (fun hm=>by have:=h.st _ hm;omega),h.bb.fr hf (fun hm=>by have:=h.st _ hm;omega),own_fr h.own hf h.nst,fun b hb hm=>?_,h.pts.fr hf (fun b hb hlt=>⟨hb.2.1,hb.1,fun hm=>?_,hb.2.2⟩),h.spl,h.ord,h.ble,h.pl⟩
 ·rcases hS b hb with e | e
  ·exact h.st b e
  omega
 ·rcases hS b hm with e | e
  ·exact h.nst b hb e
  obtain ⟨-, cur,hc⟩:=own_base h.own b hb;have:=hc.lt;omega
 rcases hS b hm with e | e
 ·exact hb.2.1 e
 omega
theorem own_snoc_block {v' v:Value} {wa:World} {b:Nat} (hat:v'.ownBlock=v.ownBlock ∨ v'.ownBlock=some wa.heap.size) (h:v'.ownBlock=some b):v.ownBlock=some b ∨ b=wa.heap.size:=by
 rcases hat with e | e
 ·exact .inl (by rw [<-e];exact h)
 rw [e] at h;injection h with h;exact .inr h.symm
theorem SpI.more {w0:World} {lbx bbx:Nat} {tx:List UInt8} {FL:List (Nat × Nat)} {St:List Nat} {k:Nat} {w6 w4:World} {LA:Option Addr} {lc:Nat} {es:List Value} {ps:List (List UInt8)} {beh:Nat}
    (h:SpI w0 lbx bbx tx FL St k w6 LA lc es ps beh) (hl:lbx < w0.heap.size) (hb:bbx < w0.heap.size) {A:Option Addr} {p:List UInt8} {c:Nat} (h2:Bytes w6 A p) (h3:p.length <= c) (h4:A=none->c=0)
    (h5:∀ a,A=some a->w0.heap.size <= a.block/\a.block < w6.heap.size/\a.block ∉ St/\(Value.slice LA ps.length lc).ownBlock ≠ some a.block) (hSt:∀ b ∈ St,b < w6.heap.size) (o:Obj) {A4:Option Addr} {c4:Nat}
    (hown:w4.ownsRow (w0.heap.size+2) 64 1 (.slice A4 (ps.length+1) c4) (ps.length+1) (es ++ [.slice A p.length c])) (hgr:(w6.alloc o).grownBy w4 (Value.slice LA ps.length lc).ownBlock)
    (hat:(Value.slice A4 (ps.length+1) c4).ownBlock=(Value.slice LA ps.length lc).ownBlock ∨ (Value.slice A4 (ps.length+1) c4).ownBlock=some (w6.alloc o).heap.size) :
    Fr (lbx :: bbx :: (Value.slice LA ps.length lc).ownBlock.toList) w6 w4/\Fr [lbx,bbx] w0 w4/\Bk w4 lbx 80 #[.slice LA ps.length lc]/\Bk w4 bbx 3 #[.int .i64 (beh:Int)] /\
    (∀ b,(Value.slice A4 (ps.length+1) c4).ownBlock=some b->b ∉ St/\w0.heap.size+2 <= b)/\PartsV w4 (fun b=>w0.heap.size <= b/\b ∉ St/\(Value.slice A4 (ps.length+1) c4).ownBlock ≠ some b) (es ++ [.slice A p.length c]) (ps ++ [p]):=by
 have hfa:Fr [] w6 (w6.alloc o):=(Fr.refl [] w6).alloc o
 have hrow:∀ g,(Value.slice LA ps.length lc).ownBlock=some g->g ∉ St/\w0.heap.size+2 <= g/\g < w6.heap.size:=fun g hg=>by
  obtain ⟨h1,cur,hc⟩:=own_base h.own g hg;exact ⟨h.nst g hg,h1,hc.lt⟩
 have hsa:(w6.alloc o).heap.size=w6.heap.size+1:=by simp
 have hs0:=h.fr.size;have f1:Fr (Value.slice LA ps.length lc).ownBlock.toList w6 w4:=hfa.nil_.grown hgr (fun g hg => .inl (by simp [hg]));refine ⟨f1.mono (fun b hb=>by simp [hb]),(h.fr.alloc o).grown hgr (fun g hg => .inr (by have:=hrow g hg;omega)),(h.lb.fr hfa (by simp)).grown hgr (fun e=>by have:=hrow lbx e.symm;omega),(h.bb.fr hfa (by simp)).grown hgr (fun e=>by have:=hrow bbx e.symm;omega),fun b hb=>?_,?_⟩
 ·rcases own_snoc_block hat hb with e | e
  ·exact ⟨(hrow b e).1,(hrow b e).2.1⟩
  rw [hsa] at e
  exact ⟨fun hm=>by have:=hSt b hm;omega,by
   have h7:=(own_base hown b hb).1
   exact h7⟩
 have hlen:es.length=ps.length:=by have:=h.own.1;simpa using this
 refine (h.pts.snoc hlen h2 h3 h4 (fun a ha=>⟨⟨(h5 a ha).1,(h5 a ha).2.2.1,(h5 a ha).2.2.2⟩,(h5 a ha).2.1⟩)).fr f1 (fun b hb hlt=>⟨fun hm=>hb.2.2 (by simpa using hm),hb.1,hb.2.1,fun e=>?_⟩);rcases own_snoc_block hat e with e | e
 ·exact hb.2.2 e
 rw [hsa] at e;omega
theorem SpI.round {w0:World} {lbx bbx:Nat} {tx:List UInt8} {FL:List (Nat × Nat)} {St:List Nat} {k:Nat} {W2 w6 w4:World} {LA:Option Addr} {lc:Nat} {es:List Value} {ps:List (List UInt8)} {beh:Nat} {kbx:Nat}
    (h0:SpI w0 lbx bbx tx FL St k W2 LA lc es ps beh) (hf:Fr [] W2 w6) (hl:lbx < w0.heap.size) (hb:bbx < w0.heap.size) (hne:lbx ≠ bbx) (hk:kbx < w0.heap.size) (hkl:kbx ≠ lbx) (hkb:kbx ≠ bbx) {A:Option Addr} {p:List UInt8} {c:Nat} (h2:Bytes w6 A p) (h3:p.length <= c) (h4:A=none->c=0)
    (h5:∀ a,A=some a->W2.heap.size <= a.block/\a.block < w6.heap.size) (hSt:∀ b ∈ St,b < W2.heap.size) (o:Obj) {A4:Option Addr} {c4:Nat}
    (hown:w4.ownsRow (w0.heap.size+2) 64 1 (.slice A4 (ps.length+1) c4) (ps.length+1) (es ++ [.slice A p.length c])) (hgr:(w6.alloc o).grownBy w4 (Value.slice LA ps.length lc).ownBlock)
    (hat:(Value.slice A4 (ps.length+1) c4).ownBlock=(Value.slice LA ps.length lc).ownBlock ∨ (Value.slice A4 (ps.length+1) c4).ownBlock=some (w6.alloc o).heap.size)
    {e:Nat} (hspl:splitF tx FL 0=ps ++ p :: splitF tx (FL.drop (k+1)) e) (hord:∀ q ∈ FL.drop (k+1),e <= q.1) (hbe:e <= tx.length) :
    (∀ b ∈ kbx :: St,((w4.setCell ⟨lbx,0,none⟩ (.slice A4 (ps.length+1) c4)).setCell ⟨bbx,0,none⟩ (.int .i64 (e:Int))).heap[b]?=W2.heap[b]?) /\
    KB (w0.heap.size+2) W2 ((w4.setCell ⟨lbx,0,none⟩ (.slice A4 (ps.length+1) c4)).setCell ⟨bbx,0,none⟩ (.int .i64 (e:Int))) /\
    SpI w0 lbx bbx tx FL St (k+1) ((w4.setCell ⟨lbx,0,none⟩ (.slice A4 (ps.length+1) c4)).setCell ⟨bbx,0,none⟩ (.int .i64 (e:Int))) A4 c4 (es ++ [.slice A p.length c]) (ps ++ [p]) e:=by
 have h6:=h0.far hl hb (hf.nil_ (l:=St)) (fun b hb => .inl hb);have hsz:=hf.size;have hs0:=h0.fr.size
 have hrow:∀ g,(Value.slice LA ps.length lc).ownBlock=some g->g ∉ St/\w0.heap.size+2 <= g/\g < W2.heap.size/\∃ cur,Bk W2 g 64 cur:=fun g hg=>by
  obtain ⟨h1,cur,hc⟩:=own_base h0.own g hg;exact ⟨h0.nst g hg,h1,hc.lt,cur,hc⟩
 obtain ⟨m1,m2,m3,m4,m5,m6⟩:=h6.more hl hb h2 h3 h4 (fun a ha=>⟨by have:=(h5 a ha).1;omega,(h5 a ha).2,fun hm=>by have:=hSt _ hm;have:=(h5 a ha).1;omega,fun e=>by have:=(hrow _ e).2.2.1;have:=(h5 a ha).1;omega⟩) (fun b hb=>by have:=hSt b hb;omega) o hown hgr hat
 have c1:Fr (lbx :: bbx :: (Value.slice LA ps.length lc).ownBlock.toList) W2 ((w4.setCell ⟨lbx,0,none⟩ (.slice A4 (ps.length+1) c4)).setCell ⟨bbx,0,none⟩ (.int .i64 (e:Int))):=((hf.nil_.trans m1).setCell (.inl (by simp)) _).setCell (.inl (by simp)) _;have c2:Fr [lbx,bbx] w4 ((w4.setCell ⟨lbx,0,none⟩ (.slice A4 (ps.length+1) c4)).setCell ⟨bbx,0,none⟩ (.int .i64 (e:Int))):=((Fr.refl _ w4).setCell (.inl (by simp)) _).setCell (.inl (by simp)) _;have hps:(ps ++ [p]).length=ps.length+1:=by simp
 refine ⟨fun b hb'=>?_,KB.of_fr c1 (fun x hx=>?_),?_⟩
 ·have hlt:b < W2.heap.size/\b ∉ (lbx :: bbx :: (Value.slice LA ps.length lc).ownBlock.toList):=by
   rcases List.mem_cons.1 hb' with rfl | hb'
   ·refine ⟨by omega,fun hm=>?_⟩;rcases List.mem_cons.1 hm with e | hm
    ·exact hkl e
    rcases List.mem_cons.1 hm with e | hm
    ·exact hkb e
    have:=(hrow b (by simpa using hm)).2.1;omega
   refine ⟨hSt b hb',fun hm=>?_⟩;have:=h0.st b hb';rcases List.mem_cons.1 hm with e | hm
   ·omega
   rcases List.mem_cons.1 hm with e | hm
   ·omega
   exact (hrow b (by simpa using hm)).1 hb'
  exact c1.block b hlt.1 hlt.2
 ·rcases List.mem_cons.1 hx with rfl | hx
  ·exact ⟨_,_,h0.lb,by decide,.inr (fun i y=>by rcases i with _ | i <;> simp)⟩
  rcases List.mem_cons.1 hx with rfl | hx
  ·exact ⟨_,_,h0.bb,by decide,.inr (fun i y=>by rcases i with _ | i <;> simp)⟩
  obtain ⟨-, g2,-, cur,g3⟩:=hrow x (by simpa using hx);exact ⟨_,cur,g3,by decide,.inl g2⟩
 refine ⟨m2.trans c2,h0.st,?_,?_,?_,?_,?_,?_,hord,hbe,by rw [hps];have:=h0.pl;omega⟩
 ·rw [hps];exact (m3.put 0 _).fr ((Fr.refl [bbx] _).setCell (.inl (by simp)) _) (by simpa using hne)
 ·exact (m4.fr ((Fr.refl [lbx] _).setCell (.inl (by simp)) _) (by simpa using hne.symm)).put 0 _
 ·rw [hps];exact own_fr hown c2 (fun b hb' hm=>by have:=(m5 b hb').2;simp at hm;omega)
 ·rw [hps];exact fun b hb'=>(m5 b hb').1
 ·rw [hps];exact m6.fr c2 (fun b hb' _=>⟨fun hm=>by have:=hb'.1;simp at hm;omega,hb'⟩)
 rw [hspl];simp
def SplitPost (w:World) (ps:List (List UInt8)) (e:Ending) (w':World):Prop:=
 ∃ LA lc es,e = .returned (.slice LA ps.length lc)/\w'.ownsRow w.heap.size 64 1 (.slice LA ps.length lc) ps.length es/\PartsV w' (fun b=>w.heap.size <= b) es ps/\Fr [] w w'
theorem Split_any {w:World} {lo0 fb:Nat} {L:List Sp} {A2:Option Addr} {tx:List UInt8} {c2:Nat} (h:FinderAt w lo0 fb L) (ht:Bytes w A2 tx) (hA:A2=none->c2=0) (htc:tx.length <= c2) (h0:0 < L.length) (hL:L.length <= 5000)
    (hok:ProgOk L) (htx:tx.length <= 10000) :
    Calls prog 33 #[.pointer (some ⟨fb,0,none⟩),.slice A2 tx.length c2] w (SplitPost w (splitS L tx)):=by
 by_cases hte:tx=[]
 ·subst hte;clear h ht;go_enter func33,ntmps33
  go_wp2_with fail
  go_ret
  exact ⟨none,0,[],rfl,⟨by simp [splitS],.inl ⟨rfl,rfl⟩⟩,fun i p hp=>(by simp [splitS] at hp),(Fr.refl [] w).alloc _⟩
 obtain ⟨n,hn⟩:∃ n,n=tx.length:=⟨_,rfl⟩;obtain ⟨SP,hSP⟩:∃ SP,SP=splitS L tx:=⟨_,rfl⟩;rw [<-hSP]
 have hn0:0 < n:=by
  rw [hn]
  cases tx with
  | nil=>exact absurd rfl hte
  | cons x y=>simp
 rw [<-hn];have hne:((n:Int) == 0)=false:=by simp;omega
 have H:=zh h;have HT:=zh ht;have HSP:=zh hSP;have HN:=zh hn;have HOK:=zh hok;have HTE:=zh hte;clear h ht hSP hn hok hte;refine calls_marks func33 rfl ?_;simp only [ntmps33,List.size_toArray,List.length_cons,List.length_nil,Nat.reduceAdd,Nat.reduceSub,Array.replicate_succ,Array.replicate_zero,List.push_toArray,List.append_toArray,List.nil_append,List.cons_append];go_wp2_with fail
 obtain ⟨wb,hwb⟩:∃ wb,wb=((w.alloc (.cells #[.slice A2 n c2] 64)).alloc (.cells #[.slice none 0 0] 80)).alloc (.cells #[.int .i64 0] 3):=⟨_,rfl⟩;have hfb0:Fr [] w wb:=by rw [hwb];exact ((((Fr.refl [] w).alloc _).alloc _).alloc _)
 have hszb:wb.heap.size=w.heap.size+3:=by rw [hwb];simp
 have ht0:Bk wb w.heap.size 64 #[.slice A2 n c2]:=by rw [hwb];exact ((Bk.new w _ _).alloc _).alloc _
 have hl0:Bk wb (w.heap.size+1) 80 #[.slice none 0 0]:=by
  rw [hwb];have:=Bk.new (w.alloc (.cells #[.slice A2 n c2] 64)) 80 #[.slice none 0 0];rw [World.size_alloc] at this;exact this.alloc _
 have hb0:Bk wb (w.heap.size+1+1) 3 #[.int .i64 0]:=by
  rw [hwb];have:=Bk.new ((w.alloc (.cells #[.slice A2 n c2] 64)).alloc (.cells #[.slice none 0 0] 80)) 3 #[.int .i64 0];rw [World.size_alloc,World.size_alloc] at this;exact this
 rw [<-hwb];obtain ⟨tbx,htb⟩:∃ tbx,tbx=w.heap.size:=⟨_,rfl⟩;obtain ⟨lbx,hlb⟩:∃ lbx,lbx=w.heap.size+1:=⟨_,rfl⟩;obtain ⟨bbx,hbb⟩:∃ bbx,bbx=w.heap.size+1+1:=⟨_,rfl⟩;rw [<-hbb,<-hlb,<-htb];rw [<-hbb] at hb0;rw [<-hlb] at hl0;rw [<-htb] at ht0;have HF0:=zh hfb0;have HB0:=zh hb0;have HL0:=zh hl0;have HT0:=zh ht0;have HTB:=zh htb;have HLB:=zh hlb;have HBB:=zh hbb;have HSZ:=zh hszb;have hfa:=Finds_any (fb:=fb) (HT.out.fr HF0.out (by simp)) hA htc htx;rw [<-HN.out] at hfa;have HFA:=zh hfa;clear hfb0 hb0 hl0 ht0 htb hlb hbb hszb hwb hfa;refine HFA.out.mono ?_;rintro e w5 ⟨fbx,kbx,A3,c3,rfl,hfbx,hkbx,hb3,hle3,hbd3,hf3,hkl⟩;have HFBX:=zh hfbx;have HKBX:=zh hkbx;have HB3:=zh hb3;have HLE3:=zh hle3;have HBD3:=zh hbd3;have HF3:=zh hf3;have HKL:=zh hkl;have HT5:=zh (HT0.out.fr hf3 (by simp));have HL5:=zh (HL0.out.fr hf3 (by simp));have HB5:=zh (HB0.out.fr hf3 (by simp))
 have HFI5:Hid (FinderAt w5 lo0 fb L):=zh (by
  obtain ⟨pA,pc,hp1,hp2⟩:=H.out;have hff:=HF0.out.trans hf3
  exact ⟨pA,pc,hp1.fr hff (by simp),own_keep hp2 (KeepB.of_nil hff)⟩)
 have HT5b:Hid (Bytes w5 A2 tx):=zh (HT.out.fr (HF0.out.trans hf3) (by simp));have hs5:=hf3.size;have hlbl:=HL5.out.lt;have hbbl:=HB5.out.lt;have HF05:Hid (Fr [] w w5):=zh (HF0.out.trans hf3);have hkb5:=World.block_lt_of_cell? _ _ hkbx;dsimp only at hkb5;have hord:=findsS_ord (tx:=tx) HOK.out h0;have HORD:=zh hord;clear hfbx hkbx hb3 hle3 hbd3 hf3 hkl HFA HT0 HL0 HB0 hord;go_wp2_with fail
 refine wp_rangeFinds (fbx:=fbx) (kbx:=kbx) (fb:=fb) (lo0:=lo0) (L:=L) (A2:=A3) (tx:=tx) (c2:=c3) rfl rfl HFBX.out HKBX.out HFI5.out HB3.out HLE3.out HBD3.out h0 hL HOK.out htx
  (fun St k W=>∃ LA lc es ps beh,SpI w5 lbx bbx tx (findsS L tx) St k W LA lc es ps beh) (fun _ _ _=>False) ?hI0 ?hfr (fun _ _ _ _ h _=>h.elim) ?round ?done (fun _ _ _ _ _ _ h _=>h.elim)
 case hI0=>
  intro St W' hf hSt;exact ⟨none,0,[],[],0,hf.nil_,fun b hb=>(hSt b hb).1,HL5.out.fr hf (by simp),HB5.out.fr hf (by simp),⟨by simp,.inl ⟨rfl,rfl⟩⟩,fun b hb=>(by simp [Value.ownBlock] at hb),fun i p hp=>(by simp at hp),by simp,fun q hq=>Nat.zero_le _,Nat.zero_le _,Nat.zero_le _⟩
 case hfr=>
  rintro St St' k W1 W2 ⟨LA,lc,es,ps,beh,h1⟩ hf hS;exact ⟨LA,lc,es,ps,beh,h1.far hlbl hbbl hf hS⟩
 case round=>
  rintro St l k ⟨s,e⟩ W hl hSt hW2 hx ⟨LA,lc,es,ps,beh,h1⟩;dsimp only;obtain ⟨k1,k2,k3,k4,k5⟩:=split_round HORD.out.2.1 HORD.out.1 hx h1.ord;dsimp only at k1 k2 k3 k4 k5;gi_wp2;refine ⟨Fr.refl [] W,fun W2 hf2=>?_⟩;have h2:=h1.far hlbl hbbl (hf2.mono (by simp;exact .inl hl)) (fun b hb => .inl hb);have hSt2:∀ b ∈ St,b < W2.heap.size:=fun b hb=>Nat.lt_of_lt_of_le (hSt b hb).2 hf2.size;have hkl2:k <= 10002:=by have:=(List.getElem?_eq_some_iff.1 hx).1;have:=HORD.out.2.2;omega
  have hW3:w5.heap.size+2 <= W2.heap.size:=Nat.le_trans hW2 hf2.size;have H2:=zh h2;have HST2:=zh hSt2;have K4:=zh k4;have K5:=zh k5;have HX:=zh hx;clear h1 h2 hSt hSt2 hf2 k4 k5 hx hW2 hl;have hd:=drop_cons_of HX.out;have hspl:=H2.out.spl;rw [hd,splitF] at hspl;dsimp only at hspl;rcases Nat.lt_or_ge s e with hse | hse
  ·have hseI:(s:Int) < (e:Int):=by omega
   rw [if_pos hse] at hspl;have HSPL:=zh hspl;clear hspl hd;gi_wp2;obtain ⟨m,hm⟩:∃ m,m=ps.length:=⟨_,rfl⟩;have HM:=zh hm;clear hm;obtain ⟨i0,hi0,hz0,hz1,hz2⟩:=u8parts;obtain ⟨i1,hi1,hy0,hy1,hy2⟩:=bytesParts;obtain ⟨wd,hwd⟩:∃ wd,wd=W2.drew:=⟨_,rfl⟩;have hfd:Fr [] W2 wd:=by rw [hwd];exact (Fr.refl [] W2).drew
   have hid_:=H2.out.far hlbl hbbl (hfd.nil_ (l:=St)) (fun b hb => .inl hb);have htd:Bk wd tbx 64 #[.slice A2 n c2]:=HT5.out.fr hid_.fr (by have:=HTB.out;have:=HLB.out;have:=HBB.out;simp;omega)
   obtain ⟨ad,had,hadl⟩:∃ ad,A2=some ad/\ad.block < w.heap.size:=by
    rcases HT.out with h | ⟨a',h1,h2,-⟩
    ·exact absurd h (by have:=HTE.out;cases tx <;> simp_all [byteVals])
    exact ⟨a',h1,h2⟩
   have hbyd:Bytes wd A2 tx:=HT5b.out.fr hid_.fr (fun a ha _ hm=>by
    rw [had] at ha;injection ha with ha;subst ha;have:=HLB.out;have:=HBB.out
    simp at hm;omega)
   have HS:Hid (wd.cell? ⟨lbx,0,none⟩=some (.slice LA m lc)/\wd.cell? ⟨tbx,0,none⟩=some (.slice A2 n c2)/\wd.cell? ⟨bbx,0,none⟩=some (.int .i64 (beh:Int))):=zh ⟨by rw [HM.out];exact hid_.lb.cell_ (i:=0) rfl,htd.cell_ (i:=0) rfl,hid_.bb.cell_ (i:=0) rfl⟩;have hmb:m <= 10002:=by have:=hid_.pl;have:=HM.out;have:=HORD.out.2.2;omega
   have HID:=zh hid_;have HBYD:=zh hbyd;have HFD:=zh hfd;have HTD:=zh htd;clear hid_ hbyd hfd htd had hadl;refine wpIn_region_F_ (G:=fun a b=>a=b) (F:=fun i=>i == 8) (S:=fun V=>V.cell? ⟨lbx,0,none⟩=some (.slice LA m lc)/\V.cell? ⟨tbx,0,none⟩=some (.slice A2 n c2)/\V.cell? ⟨bbx,0,none⟩=some (.int .i64 (beh:Int))) ⟨fun _=>rfl,fun a b c h k=>h.trans k,fun a b h k=>k ▸ h,by kernel_rfl,fun _ _ d _ _ h=>by cases d <;> exact h⟩ (by kernel_rfl) (by kernel_rfl) (fun _ _ h=>h) fun su=>?_
   have SU:=zh su;rw [<-hwd];clear su hwd;refine F_v 0 (.slice LA m lc) SU.out HS.out (fun W hS=>?_) ?_
   ·obtain ⟨t0,t1,t2⟩:=hS;go_simp;first | done | rfl | omega | (exact IntWalk.i64_in _ (by omega)) | (simp <;> omega)
   simp only [PU];refine F_v 1 (.slice A2 n c2) SU.out HS.out (fun W hS=>?_) ?_
   ·obtain ⟨t0,t1,t2⟩:=hS;go_simp;first | done | rfl | omega | (exact IntWalk.i64_in _ (by omega)) | (simp <;> omega)
   simp only [PU];refine F_v 2 (.int .i64 (beh:Int)) SU.out HS.out (fun W hS=>?_) ?_
   ·obtain ⟨t0,t1,t2⟩:=hS;go_simp;first | done | rfl | omega | (exact IntWalk.i64_in _ (by omega)) | (simp <;> omega)
   simp only [PU];refine F_m 3 SU.out HS.out ?_;simp only [PE];refine F_cut2 (i:=4) 64 (.tmp 21) (.tmp 22) (.tmp 23) SU.out rfl rfl 5 i0 underlying64 hi0 hz1 A2 n c2 beh s (by first | rfl | simp [Act.eval]) (by first | rfl | simp [Act.eval]) (by first | rfl | simp [Act.eval]) k1 (by have:=HN.out;omega) (by have:=HN.out;omega) (by kernel_rfl) HS.out rfl ?_;simp only [PU];obtain ⟨p,hp⟩:∃ p,p=(tx.drop beh).take (s - beh):=⟨_,rfl⟩;have hcut:=cut_bytes (lo:=beh) (h:=s) (c:=c2) HBYD.out k1 (by omega) htc hA;rw [<-hp] at hcut;have hpl:p.length=s - beh:=by rw [hp];simp;omega
   obtain ⟨X,hX⟩:∃ X,X=(if c2=beh then A2 else A2.map (·.add (beh * 1))):=⟨_,rfl⟩;rw [<-hX] at hcut ⊢; have hclo:=clone_any (w:=wd) (A:=X) (bs:=p) (c:=c2 - beh) hcut.1 hcut.2 (by rw [hpl];have:=HN.out;omega) (by rw [hpl];have:=HN.out;omega);rw [show p.length=s - beh from hpl] at hclo;have HCLO:=zh hclo;have HP:=zh hp;have HPL:=zh hpl;clear hcut hX hp hpl hclo;refine wpAnyF_all (rs:=[5]) (by kernel_rfl) (by simp) (fun w' hG=>?_);obtain rfl:=hG;refine allF.head rfl rfl (fun K6 hK6=>?_) allF.nil;refine wp_call_ (f:=50) (args:=#[.slice X (s - beh) (c2 - beh)]) (R:=fun v w'=>∃ A c,v = .slice A (s - beh) c/\Bytes w' A p/\p.length <= c/\(A=none->c=0)/\Fr [] wd w'/\∀ a,A=some a->wd.heap.size <= a.block/\a.block < w'.heap.size) (by go_simp;first | done | rfl) ?_ ?_
   ·refine HCLO.out.mono ?_;rintro e w' ⟨A,c,he,g1,g2,g3,g4,g5,g6⟩;exact ⟨_,he,A,c,by rw [HPL.out],g1,g2,g4,g5,g6⟩
   rintro v w6 ⟨CA,cc,rfl,hcb,hcl,hcn,hcf,hcd⟩;have HS6:Hid (w6.cell? ⟨lbx,0,none⟩=some (.slice LA m lc)/\w6.cell? ⟨tbx,0,none⟩=some (.slice A2 n c2)/\w6.cell? ⟨bbx,0,none⟩=some (.int .i64 (beh:Int))):=zh ⟨(hcf.cell (World.block_lt_of_cell? _ _ HS.out.1) (by simp)).trans HS.out.1,(hcf.cell (World.block_lt_of_cell? _ _ HS.out.2.1) (by simp)).trans HS.out.2.1,(hcf.cell (World.block_lt_of_cell? _ _ HS.out.2.2) (by simp)).trans HS.out.2.2⟩;have hsz6:=hcf.size;have HCB:=zh hcb;have HCL:=zh hcl;have HCN:=zh hcn;have HCF:=zh hcf;have HCD:=zh hcd;refine hK6.out _ _ (.inr HS6.out) ?_;clear hK6 K6 hcb hcl hcn hcf hcd HCLO
   try simp only [PU]
   refine wpAnyF_all (rs:=[6]) (by kernel_rfl) (by simp) (fun w' hG=>?_);obtain rfl:=hG;refine allF.head rfl rfl (fun K7 hK7=>?_) allF.nil;go_simp;have hfa6:Fr [] w6 (w6.alloc (.cells #[.slice CA (s - beh) cc] 64)):=(Fr.refl [] w6).alloc _;have HS7:Hid ((w6.alloc (.cells #[.slice CA (s - beh) cc] 64)).cell? ⟨lbx,0,none⟩=some (.slice LA m lc)/\(w6.alloc (.cells #[.slice CA (s - beh) cc] 64)).cell? ⟨tbx,0,none⟩=some (.slice A2 n c2)/\(w6.alloc (.cells #[.slice CA (s - beh) cc] 64)).cell? ⟨bbx,0,none⟩=some (.int .i64 (beh:Int))):=zh ⟨(hfa6.cell (World.block_lt_of_cell? _ _ HS6.out.1) (by simp)).trans HS6.out.1,(hfa6.cell (World.block_lt_of_cell? _ _ HS6.out.2.1) (by simp)).trans HS6.out.2.1,(hfa6.cell (World.block_lt_of_cell? _ _ HS6.out.2.2) (by simp)).trans HS6.out.2.2⟩;refine hK7.out _ _ (.inr HS7.out) ?_;clear hK7 K7 hfa6
   try simp only [PU]
   refine wpAnyF_all (rs:=[7]) (by kernel_rfl) (by simp) (fun w' hG=>?_);obtain rfl:=hG;refine allF.head rfl rfl (fun K8 hK8=>?_) allF.nil;refine wp_append_R (.tmp 20) (.tmp 26) 80 rfl (w5.heap.size+2) 64 i1 _ 1 24 underlying80 hi1 hy0 hy1 hy2 rfl (by omega) (.slice LA m lc) m es (by first | rfl | simp [Act.eval]) (by have h:=(HID.out.far hlbl hbbl (HCF.out.nil_ (l:=St)) (fun b hb => .inl hb)).own;rw [<-HM.out] at h;exact own_rebase (own_keep h (KeepB.of_nil ((Fr.refl [] w6).alloc _))) (fun g hg=>by have:=(own_base h g hg).1;omega)) ⟨w6.heap.size,0,none⟩ 1 1 [.slice CA (s - beh) cc] (by first | rfl | simp [Act.eval]) rfl (one_new_ w6 64 _) (by simp [Value.oneCell']) (by unfold maxLen;omega) (by omega) (by have:=HID.out.fr.size;have:=HFD.out.size;simp;omega) ?_;intro v' w8 hown8 hgr8 hat8;obtain ⟨A8,c8,rfl⟩:=own_any hown8
   have hro8:∀ g,(Value.slice LA m lc).ownBlock=some g->w5.heap.size <= g:=fun g hg=>by
    have h:=HID.out.own;rw [<-HM.out] at h;have:=(own_base h g hg).1;omega
   have hfg8:=((Fr.refl (Value.slice LA m lc).ownBlock.toList (w6.alloc (.cells #[.slice CA (s - beh) cc] 64))).grown hgr8 (fun g hg => .inl (by simp [hg])));have hcg:∀ (b:Nat) u,b < w5.heap.size->(w6.alloc (.cells #[.slice CA (s - beh) cc] 64)).cell? ⟨b,0,none⟩=some u->w8.cell? ⟨b,0,none⟩=some u:=fun b u hb hu=>(hfg8.cell (World.block_lt_of_cell? _ _ hu) (fun hm=>by have:=hro8 b (by simpa using hm);omega)).trans hu;have HS8:Hid (w8.cell? ⟨lbx,0,none⟩=some (.slice LA m lc)/\w8.cell? ⟨tbx,0,none⟩=some (.slice A2 n c2)/\w8.cell? ⟨bbx,0,none⟩=some (.int .i64 (beh:Int))):=zh ⟨hcg _ _ hlbl HS7.out.1,hcg _ _ HT5.out.lt HS7.out.2.1,hcg _ _ hbbl HS7.out.2.2⟩
   have hbk8:Bk w8 lbx 80 #[.slice LA m lc]/\Bk w8 bbx 3 #[.int .i64 (beh:Int)]:=by
    have h6:=HID.out.far hlbl hbbl (HCF.out.nil_ (l:=St)) (fun b hb => .inl hb);have hl6:=h6.lb.fr ((Fr.refl [] w6).alloc (.cells #[.slice CA (s - beh) cc] 64)) (by simp);have hb6:=h6.bb.fr ((Fr.refl [] w6).alloc (.cells #[.slice CA (s - beh) cc] 64)) (by simp);rw [<-HM.out] at hl6;exact ⟨hl6.grown hgr8 (fun e=>by have:=hro8 lbx e.symm;omega),hb6.grown hgr8 (fun e=>by have:=hro8 bbx e.symm;omega)⟩
   have zf1:=hbk8.1.frozen 0;have zf2:=hbk8.2.frozen 0;have zl1:=hbk8.1.lt;have zl2:=hbk8.2.lt;clear hro8 hfg8 hcg hbk8;rw [HM.out] at hown8 hgr8 hat8;rw [<-HPL.out] at hown8 hgr8 hat8;have hres:=SpI.round (W2:=W2) (w6:=w6) (w4:=w8) (kbx:=kbx) (e:=e) H2.out (HFD.out.trans HCF.out) hlbl hbbl (by have:=HLB.out;have:=HBB.out;omega) hkb5 (by have:=HKL.out;have:=HLB.out;have:=HSZ.out;omega) (by have:=HKL.out;have:=HBB.out;have:=HSZ.out;omega) HCB.out HCL.out HCN.out (fun a ha=>⟨Nat.le_trans HFD.out.size (HCD.out a ha).1,(HCD.out a ha).2⟩) HST2.out _ hown8 hgr8 hat8 (by rw [HSPL.out,HP.out]) K4.out k3;rw [<-HM.out] at hres;have z1:=HS8.out.1;have z2:=HS8.out.2.2;have hlb9:lbx ≠ bbx:=by have:=HLB.out;have:=HBB.out;omega
   have HRES:=zh hres;refine hK8.out _ _ (.inr HS8.out) ?_;clear hK8 K8 hown8 hgr8 hat8 hres;simp only [PU];refine wpAnyF_all (rs:=[8]) (by kernel_rfl) (by simp) (fun w' hG=>?_);obtain rfl:=hG;refine allF.head rfl rfl (fun K9 hK9=>?_) allF.nil;go_simp;refine hK9.out _ _ (.inl rfl) ?_;clear hK9 K9;refine wpAnyF_done (by kernel_rfl) (fun w' hG=>?_);obtain rfl:=hG;clear SU HS HS6 HS7 HS8;gi_wp2;exact ⟨HRES.out.1,HRES.out.2.1,_,_,_,_,_,HRES.out.2.2⟩
  have hseI:¬ ((s:Int) < (e:Int)):=by omega
  rw [if_neg (by omega)] at hspl;have HSPL:=zh hspl;clear hspl hd;gi_wp2;exact ⟨fun b hb=>rfl,KB.refl _ _,LA,lc,es,ps,beh,{ H2.out with spl:=HSPL.out,ord:=K5.out,pl:=Nat.le_succ_of_le H2.out.pl }⟩
 case done=>
  rintro D St wq hD hSt ⟨LA,lc,es,ps,beh,h1⟩ hd hW3;obtain ⟨S1,hS1⟩:∃ S1:List Nat,S1=[D]:=⟨_,rfl⟩;have h2:=h1.far hlbl hbbl (Fr.refl St wq) (St':=S1) (fun b hb => .inl (by rw [hS1] at hb;simp at hb;rw [hb];exact hD));have hdl:=(Array.getElem?_eq_some_iff.1 hd).1;have hd5:=hSt D hD;have hsp:=h2.spl;rw [List.drop_length,splitF] at hsp;have hspS:SP=ps ++ [tx.drop beh]:=by rw [HSP.out,splitS,if_neg HTE.out,hsp]
  have H8:=zh h2;have HDD:=zh hd;have HS1:=zh hS1;have HSPS:=zh hspS;clear h1 h2 hd hSt hD hS1 hsp hspS;go_upto_region 11 with fail
  obtain ⟨m,hm⟩:∃ m,m=ps.length:=⟨_,rfl⟩;have HM:=zh hm;clear hm;obtain ⟨i0,hi0,hz0,hz1,hz2⟩:=u8parts;obtain ⟨i1,hi1,hy0,hy1,hy2⟩:=bytesParts;obtain ⟨wd,hwd⟩:∃ wd,wd=wq.drew:=⟨_,rfl⟩;have hfd:Fr [] wq wd:=by rw [hwd];exact (Fr.refl [] wq).drew
  have hid_:=H8.out.far hlbl hbbl (hfd.nil_ (l:=S1)) (fun b hb => .inl hb);have htd:Bk wd tbx 64 #[.slice A2 n c2]:=HT5.out.fr hid_.fr (by have:=HTB.out;have:=HLB.out;have:=HBB.out;simp;omega)
  obtain ⟨ad,had,hadl⟩:∃ ad,A2=some ad/\ad.block < w.heap.size:=by
   rcases HT.out with h | ⟨a',h1,h2,-⟩
   ·exact absurd h (by have:=HTE.out;cases tx <;> simp_all [byteVals])
   exact ⟨a',h1,h2⟩
  have hbyd:Bytes wd A2 tx:=HT5b.out.fr hid_.fr (fun a ha _ hm=>by
   rw [had] at ha;injection ha with ha;subst ha;have:=HLB.out;have:=HBB.out
   simp at hm;omega)
  have HS:Hid (wd.cell? ⟨lbx,0,none⟩=some (.slice LA m lc)/\wd.cell? ⟨tbx,0,none⟩=some (.slice A2 n c2)/\wd.cell? ⟨bbx,0,none⟩=some (.int .i64 (beh:Int))):=zh ⟨by rw [HM.out];exact hid_.lb.cell_ (i:=0) rfl,htd.cell_ (i:=0) rfl,hid_.bb.cell_ (i:=0) rfl⟩;have hmb:m <= 10002:=by have:=hid_.pl;have:=HM.out;have:=HORD.out.2.2;omega
  have HID:=zh hid_;have HBYD:=zh hbyd;have HFD:=zh hfd;have HTD:=zh htd;clear hid_ hbyd hfd htd had hadl;refine wp_region_F_ (G:=fun a b=>a=b) (F:=fun i=>i == 8) (S:=fun V=>V.cell? ⟨lbx,0,none⟩=some (.slice LA m lc)/\V.cell? ⟨tbx,0,none⟩=some (.slice A2 n c2)/\V.cell? ⟨bbx,0,none⟩=some (.int .i64 (beh:Int))) ⟨fun _=>rfl,fun a b c h k=>h.trans k,fun a b h k=>k ▸ h,by kernel_rfl,fun _ _ d _ _ h=>by cases d <;> exact h⟩ (by kernel_rfl) fun su=>?_
  have SU:=zh su;rw [<-hwd];clear su hwd;refine F_v 0 (.slice LA m lc) SU.out HS.out (fun W hS=>?_) ?_
  ·obtain ⟨t0,t1,t2⟩:=hS;go_simp;first | done | rfl | omega | (exact IntWalk.i64_in _ (by omega)) | (simp <;> omega)
  simp only [PU];refine F_v 1 (.slice A2 n c2) SU.out HS.out (fun W hS=>?_) ?_
  ·obtain ⟨t0,t1,t2⟩:=hS;go_simp;first | done | rfl | omega | (exact IntWalk.i64_in _ (by omega)) | (simp <;> omega)
  simp only [PU];refine F_v 2 (.int .i64 (beh:Int)) SU.out HS.out (fun W hS=>?_) ?_
  ·obtain ⟨t0,t1,t2⟩:=hS;go_simp;first | done | rfl | omega | (exact IntWalk.i64_in _ (by omega)) | (simp <;> omega)
  simp only [PU];refine F_cut1 (i:=3) 64 (.tmp 30) (.tmp 31) SU.out rfl rfl 5 i0 underlying64 hi0 hz1 A2 n c2 beh (by first | rfl | simp [Act.eval]) (by first | rfl | simp [Act.eval]) (by have:=HN.out;have:=HID.out.ble;omega) (by have:=HN.out;omega) (by kernel_rfl) HS.out rfl ?_;simp only [PU];obtain ⟨p,hp⟩:∃ p,p=(tx.drop beh).take (n - beh):=⟨_,rfl⟩;have hcut:=cut_bytes (lo:=beh) (h:=n) (c:=c2) HBYD.out (by have:=HN.out;have:=HID.out.ble;omega) (by have:=HN.out;omega) htc hA;rw [<-hp] at hcut;have hpl:p.length=n - beh:=by rw [hp];simp;have:=HN.out;omega
  obtain ⟨X,hX⟩:∃ X,X=(if c2=beh then A2 else A2.map (·.add (beh * 1))):=⟨_,rfl⟩;rw [<-hX] at hcut ⊢; have hclo:=clone_any (w:=wd) (A:=X) (bs:=p) (c:=c2 - beh) hcut.1 hcut.2 (by rw [hpl];have:=HN.out;omega) (by rw [hpl];have:=HN.out;omega);rw [show p.length=n - beh from hpl] at hclo;have HCLO:=zh hclo;have HP:=zh hp;have HPL:=zh hpl;clear hcut hX hp hpl hclo;refine wpAnyF_all (rs:=[4]) (by kernel_rfl) (by simp) (fun w' hG=>?_);obtain rfl:=hG;refine allF.head rfl rfl (fun K6 hK6=>?_) allF.nil;refine wp_call_ (f:=50) (args:=#[.slice X (n - beh) (c2 - beh)]) (R:=fun v w'=>∃ A c,v = .slice A (n - beh) c/\Bytes w' A p/\p.length <= c/\(A=none->c=0)/\Fr [] wd w'/\∀ a,A=some a->wd.heap.size <= a.block/\a.block < w'.heap.size) (by go_simp;first | done | rfl) ?_ ?_
  ·refine HCLO.out.mono ?_;rintro e w' ⟨A,c,he,g1,g2,g3,g4,g5,g6⟩;exact ⟨_,he,A,c,by rw [HPL.out],g1,g2,g4,g5,g6⟩
  rintro v w6 ⟨CA,cc,rfl,hcb,hcl,hcn,hcf,hcd⟩;have HS6:Hid (w6.cell? ⟨lbx,0,none⟩=some (.slice LA m lc)/\w6.cell? ⟨tbx,0,none⟩=some (.slice A2 n c2)/\w6.cell? ⟨bbx,0,none⟩=some (.int .i64 (beh:Int))):=zh ⟨(hcf.cell (World.block_lt_of_cell? _ _ HS.out.1) (by simp)).trans HS.out.1,(hcf.cell (World.block_lt_of_cell? _ _ HS.out.2.1) (by simp)).trans HS.out.2.1,(hcf.cell (World.block_lt_of_cell? _ _ HS.out.2.2) (by simp)).trans HS.out.2.2⟩;have hsz6:=hcf.size;have HCB:=zh hcb;have HCL:=zh hcl;have HCN:=zh hcn;have HCF:=zh hcf;have HCD:=zh hcd;refine hK6.out _ _ (.inr HS6.out) ?_;clear hK6 K6 hcb hcl hcn hcf hcd HCLO
  try simp only [PU]
  refine wpAnyF_all (rs:=[5]) (by kernel_rfl) (by simp) (fun w' hG=>?_);obtain rfl:=hG;refine allF.head rfl rfl (fun K7 hK7=>?_) allF.nil;go_simp;have hfa6:Fr [] w6 (w6.alloc (.cells #[.slice CA (n - beh) cc] 64)):=(Fr.refl [] w6).alloc _;have HS7:Hid ((w6.alloc (.cells #[.slice CA (n - beh) cc] 64)).cell? ⟨lbx,0,none⟩=some (.slice LA m lc)/\(w6.alloc (.cells #[.slice CA (n - beh) cc] 64)).cell? ⟨tbx,0,none⟩=some (.slice A2 n c2)/\(w6.alloc (.cells #[.slice CA (n - beh) cc] 64)).cell? ⟨bbx,0,none⟩=some (.int .i64 (beh:Int))):=zh ⟨(hfa6.cell (World.block_lt_of_cell? _ _ HS6.out.1) (by simp)).trans HS6.out.1,(hfa6.cell (World.block_lt_of_cell? _ _ HS6.out.2.1) (by simp)).trans HS6.out.2.1,(hfa6.cell (World.block_lt_of_cell? _ _ HS6.out.2.2) (by simp)).trans HS6.out.2.2⟩;refine hK7.out _ _ (.inr HS7.out) ?_;clear hK7 K7 hfa6
  try simp only [PU]
  refine wpAnyF_all (rs:=[6]) (by kernel_rfl) (by simp) (fun w' hG=>?_);obtain rfl:=hG;refine allF.head rfl rfl (fun K8 hK8=>?_) allF.nil;refine wp_append_R (.tmp 29) (.tmp 34) 80 rfl (w5.heap.size+2) 64 i1 _ 1 24 underlying80 hi1 hy0 hy1 hy2 rfl (by omega) (.slice LA m lc) m es (by first | rfl | simp [Act.eval]) (by have h:=(HID.out.far hlbl hbbl (HCF.out.nil_ (l:=S1)) (fun b hb => .inl hb)).own;rw [<-HM.out] at h;exact own_rebase (own_keep h (KeepB.of_nil ((Fr.refl [] w6).alloc _))) (fun g hg=>by have:=(own_base h g hg).1;omega)) ⟨w6.heap.size,0,none⟩ 1 1 [.slice CA (n - beh) cc] (by first | rfl | simp [Act.eval]) rfl (one_new_ w6 64 _) (by simp [Value.oneCell']) (by unfold maxLen;omega) (by omega) (by have:=HID.out.fr.size;have:=HFD.out.size;simp;omega) ?_;intro v' w8 hown8 hgr8 hat8;obtain ⟨A8,c8,rfl⟩:=own_any hown8
  have hro8:∀ g,(Value.slice LA m lc).ownBlock=some g->w5.heap.size <= g:=fun g hg=>by
   have h:=HID.out.own;rw [<-HM.out] at h;have:=(own_base h g hg).1;omega
  have hfg8:=((Fr.refl (Value.slice LA m lc).ownBlock.toList (w6.alloc (.cells #[.slice CA (n - beh) cc] 64))).grown hgr8 (fun g hg => .inl (by simp [hg])));have hcg:∀ (b:Nat) u,b < w5.heap.size->(w6.alloc (.cells #[.slice CA (n - beh) cc] 64)).cell? ⟨b,0,none⟩=some u->w8.cell? ⟨b,0,none⟩=some u:=fun b u hb hu=>(hfg8.cell (World.block_lt_of_cell? _ _ hu) (fun hm=>by have:=hro8 b (by simpa using hm);omega)).trans hu;have HS8:Hid (w8.cell? ⟨lbx,0,none⟩=some (.slice LA m lc)/\w8.cell? ⟨tbx,0,none⟩=some (.slice A2 n c2)/\w8.cell? ⟨bbx,0,none⟩=some (.int .i64 (beh:Int))):=zh ⟨hcg _ _ hlbl HS7.out.1,hcg _ _ HT5.out.lt HS7.out.2.1,hcg _ _ hbbl HS7.out.2.2⟩
  have hbk8:Bk w8 lbx 80 #[.slice LA m lc]/\Bk w8 bbx 3 #[.int .i64 (beh:Int)]:=by
   have h6:=HID.out.far hlbl hbbl (HCF.out.nil_ (l:=S1)) (fun b hb => .inl hb);have hl6:=h6.lb.fr ((Fr.refl [] w6).alloc (.cells #[.slice CA (n - beh) cc] 64)) (by simp);have hb6:=h6.bb.fr ((Fr.refl [] w6).alloc (.cells #[.slice CA (n - beh) cc] 64)) (by simp);rw [<-HM.out] at hl6;exact ⟨hl6.grown hgr8 (fun e=>by have:=hro8 lbx e.symm;omega),hb6.grown hgr8 (fun e=>by have:=hro8 bbx e.symm;omega)⟩
  have zf1:=hbk8.1.frozen 0;have zf2:=hbk8.2.frozen 0;have zl1:=hbk8.1.lt;have zl2:=hbk8.2.lt;clear hro8 hfg8 hcg hbk8;rw [HM.out] at hown8 hgr8 hat8;rw [<-HPL.out] at hown8 hgr8 hat8;have h6:=HID.out.far hlbl hbbl (HCF.out.nil_ (l:=S1)) (fun b hb => .inl hb);have hmore:=h6.more (A:=CA) (p:=p) (c:=cc) (w4:=w8) hlbl hbbl HCB.out HCL.out HCN.out (fun a ha=>⟨by have:=(HCD.out a ha).1;have:=HFD.out.size;omega,(HCD.out a ha).2,fun hm=>by rw [HS1.out] at hm;have:=(HCD.out a ha).1;have:=HFD.out.size;simp at hm;omega,fun e=>by have:=(own_base HID.out.own _ e).2.elim fun cur hc=>hc.lt;have:=(HCD.out a ha).1;omega⟩) (fun b hb=>by rw [HS1.out] at hb;have:=HFD.out.size;simp at hb;omega) _ hown8 hgr8 hat8;obtain ⟨m1,m2,m3,m4,m5,m6⟩:=hmore;have hp2:p=tx.drop beh:=by rw [HP.out];exact List.take_of_length_le (by have:=HN.out;simp;omega)
  have hfin:SplitPost w SP (.returned (.slice A8 (ps.length+1) c8)) (w8.putObj D (.deferred none)):=by
   have hpl:(ps ++ [p]).length=ps.length+1:=by simp
   have hs5:=HF05.out.size;have hlw:w.heap.size <= lbx/\w.heap.size <= bbx:=by have:=HLB.out;have:=HBB.out;omega
   refine ⟨A8,c8,es ++ [.slice CA p.length cc],?_,?_,?_,?_⟩
   ·rw [HSPS.out,<-hp2,hpl]
   ·rw [HSPS.out,<-hp2,hpl];exact own_rebase (own_fr hown8 (fr_put (l:=D) _) (fun b hb hm=>by simp at hm;subst hm;exact (m5 b hb).1 (by rw [HS1.out];simp))) (fun b hb=>by have:=(m5 b hb).2;omega)
   ·rw [HSPS.out,<-hp2];exact m6.fr (fr_put (l:=D) _) (fun b hb _=>⟨fun hm=>by simp at hm;subst hm;exact hb.2.1 (by rw [HS1.out];simp),by have:=hb.1;omega⟩)
   exact ((HF05.out.trans' m2 (fun b hb => .inr (by simp at hb;omega))).trans' (fr_put (l:=D) _) (fun b hb => .inr (by simp at hb;omega)))
  have hd8:w8.heap[D]?=some (.deferred (some [])):=by
   have e1:wd.heap[D]?=some (.deferred (some [])):=(HFD.out.block D hdl (by simp)).trans HDD.out;have e2:=(HCF.out.block D (Array.getElem?_eq_some_iff.1 e1).1 (by simp)).trans e1;refine (m1.block D (Array.getElem?_eq_some_iff.1 e2).1 (fun hm=>?_)).trans e2;rcases List.mem_cons.1 hm with e | hm
   ·omega
   rcases List.mem_cons.1 hm with e | hm
   ·omega
   exact h6.nst D (by simpa using hm) (by rw [HS1.out];simp)
  have HFIN:=zh hfin;have HD8:=zh hd8;refine hK8.out _ _ (.inr HS8.out) ?_;rw [<-HM.out] at HFIN;clear hK8 K8 hown8 hgr8 hat8 m1 m2 m3 m4 m5 m6 hp2 hfin hd8 h6
  try simp only [PU]
  refine wpAnyF_all (rs:=[7]) (by kernel_rfl) (by simp) (fun w' hG=>?_);obtain rfl:=hG;refine allF.head rfl rfl (fun K9 hK9=>?_) allF.nil;go_simp;refine hK9.out _ _ (.inr HS8.out) ?_;clear hK9 K9;refine wpAnyF_done (by kernel_rfl) (fun w' hG=>?_);obtain rfl:=hG;clear SU HS HS6 HS7 HS8;go_wp2_with fail
  refine ⟨by simp,.inl ⟨_,_,rfl,run_takeDeferred HD8.out,⟨.slice A8 (m+1) c8,?_,HFIN.out⟩⟩⟩;simp [results,results33,go_sem]
end Go.Proofs.YtfofechcccodeaaGreatDoor
