/-
  Small texts in one (Mb2). No conditions.
-/
import Derived.Test.YtfofechcccodeaaGreatDoorQac
import Derived.Test.YtfofechcccodeaaGreatDoorQad
import Derived.Test.YtfofechcccodeaaGreatDoorQaa
import Derived.Test.YtfofechcccodeaaGreatDoorQak
namespace Go.Proofs.YtfofechcccodeaaGreatDoor
open Go.RowKit Go.ChangeMaps
set_option linter.unusedVariables false
set_option linter.unusedSimpArgs false
def intsV (l:List Nat):List Value:=l.map fun k:Nat=>Value.int .i64 (k:Int)
def thV (l:List (Nat × Nat)):List Value:=l.flatMap fun t:Nat × Nat=>[.int .i64 (t.1:Int),.int .i64 (t.2:Int)]
theorem thV_append (a b:List (Nat × Nat)):thV (a ++ b)=thV a ++ thV b:=by simp [thV]
theorem thV_get (a:List (Nat × Nat)) (i:Nat) (t:Nat × Nat) (h:a[i]?=some t):(thV a)[i * 2]?=some (.int .i64 (t.1:Int))/\(thV a)[i * 2+1]?=some (.int .i64 (t.2:Int)):=by
 induction a generalizing i with
 | nil=>simp at h
 | cons x r ih=>
  cases i with
  | zero=>simp at h;subst h;simp [thV]
  | succ i=>
   have:=ih i (by simpa using h);have e:(i+1) * 2=i * 2+2:=by omega
   rw [e]
   simpa [thV] using this
def srBlocks (sb:Nat) (nowv nextv seenv todov:Value):List Nat:=sb :: (nowv.ownBlock.toList ++ (nextv.ownBlock.toList ++ (seenv.ownBlock.toList ++ todov.ownBlock.toList)))
structure SrM (lo:Nat) (w:World) (sb:Nat) (L:List Sp) (tx:List UInt8) (opn:Bool) (now:List (Nat × Nat)) (todo:List Nat) (stamp:Nat) (s:Sr)
    (A:Option Addr) (c:Nat) (A2:Option Addr) (c2:Nat) (nowv nextv seenv todov:Value) (xs:List Nat) (st en:Int):Prop where
 lo_:lo <= sb
 tlo:∀ a,A2=some a->a.block < lo
 blk:Bk w sb 167 #[.slice A L.length c,.slice A2 tx.length c2,.bool opn,nowv,nextv,.int .i64 (stamp:Int),seenv,todov,.int .i64 st,.int .i64 en,.bool s.fd.isSome]
 prog:w.ownsRow 0 142 7 (.slice A L.length c) L.length (L.flatMap Sp.cells)
 text:Bytes w A2 tx
 textc:tx.length <= c2
 now_:w.ownsRow lo 199 2 nowv now.length (thV now)
 next_:w.ownsRow lo 199 2 nextv s.next.length (thV s.next)
 seen_:w.ownsRow lo 3 1 seenv L.length (intsV xs)
 todo_:w.ownsRow lo 3 1 todov todo.length (intsV todo.reverse)
 d1:∀ b,nowv.ownBlock=some b->nextv.ownBlock ≠ some b
 d2:∀ b,seenv.ownBlock=some b->todov.ownBlock ≠ some b
 len:xs.length=L.length
 le:∀ x ∈ xs,x <= stamp
 vis:s.vis=xs.map (· == stamp)
 fd:∀ q,s.fd=some q->st=(q.1:Int)/\en=(q.2:Int)
def SrAt (lo:Nat) (w:World) (sb:Nat) (l:List Nat) (L:List Sp) (tx:List UInt8) (opn:Bool) (P:Value × List (Nat × Nat)) (todo:List Nat) (stamp:Nat) (s:Sr):Prop:=
 ∃ A c A2 c2 nextv seenv todov xs st en,l=srBlocks sb P.1 nextv seenv todov/\SrM lo w sb L tx opn P.2 todo stamp s A c A2 c2 P.1 nextv seenv todov xs st en
def SrOut (lo:Nat) (w:World) (sb:Nat) (l:List Nat) (L:List Sp) (tx:List UInt8) (opn:Bool) (P:Value × List (Nat × Nat)) (todo:List Nat) (stamp:Nat) (s:Sr) (w':World):Prop:=
 ∃ l',SrAt lo w' sb l' L tx opn P todo stamp s/\Fr l w w'/\∀ b ∈ l',b ∈ l ∨ w.heap.size <= b
theorem SrOut.trans {lo:Nat} {w w1 w2:World} {sb:Nat} {l:List Nat} {L:List Sp} {tx:List UInt8} {opn:Bool} {P P2:Value × List (Nat × Nat)} {todo todo2:List Nat} {stamp stamp2:Nat} {s s2:Sr}
    (h:SrOut lo w sb l L tx opn P todo stamp s w1) (k:∀ l1,SrAt lo w1 sb l1 L tx opn P todo stamp s->SrOut lo w1 sb l1 L tx opn P2 todo2 stamp2 s2 w2):SrOut lo w sb l L tx opn P2 todo2 stamp2 s2 w2:=by
 obtain ⟨l1,h1,h2,h3⟩:=h;obtain ⟨l2,k1,k2,k3⟩:=k l1 h1;refine ⟨l2,k1,h2.trans' k2 h3,fun b hb=>?_⟩;rcases k3 b hb with hb | hb
 ·exact h3 b hb
 exact .inr (Nat.le_trans h2.size hb)
theorem srb_mem {sb:Nat} {nowv nextv seenv todov:Value} {b:Nat}:b ∈ srBlocks sb nowv nextv seenv todov ↔ b=sb ∨ nowv.ownBlock=some b ∨ nextv.ownBlock=some b ∨ seenv.ownBlock=some b ∨ todov.ownBlock=some b:=by
 simp [srBlocks]
section
variable {lo:Nat} {w:World} {sb:Nat} {L:List Sp} {tx:List UInt8} {opn:Bool} {now:List (Nat × Nat)} {todo:List Nat} {stamp:Nat} {s:Sr}
    {A:Option Addr} {c:Nat} {A2:Option Addr} {c2:Nat} {nowv nextv seenv todov:Value} {xs:List Nat} {st en:Int}
theorem KeepB.put_ {cs:Array Value} (hb:Bk w sb 167 cs) {t:TypeId} (ht:t ≠ 167) (i:Nat) (u:Value):KeepB t w (w.setCell ⟨sb,i,none⟩ u):=
 fun b cs' hb'=>hb'.far (p:=⟨sb,i,none⟩) (hb'.ne_ hb ht) u
theorem SrM.rows (h:SrM lo w sb L tx opn now todo stamp s A c A2 c2 nowv nextv seenv todov xs st en) (i:Nat) (u:Value) :
    (w.setCell ⟨sb,i,none⟩ u).ownsRow 0 142 7 (.slice A L.length c) L.length (L.flatMap Sp.cells)/\Bytes (w.setCell ⟨sb,i,none⟩ u) A2 tx /\
    (w.setCell ⟨sb,i,none⟩ u).ownsRow lo 199 2 nowv now.length (thV now)/\(w.setCell ⟨sb,i,none⟩ u).ownsRow lo 199 2 nextv s.next.length (thV s.next) /\
    (w.setCell ⟨sb,i,none⟩ u).ownsRow lo 3 1 seenv L.length (intsV xs)/\(w.setCell ⟨sb,i,none⟩ u).ownsRow lo 3 1 todov todo.length (intsV todo.reverse):=
 ⟨own_keep h.prog (KeepB.put_ h.blk (by decide) i u),h.text.fr ((Fr.refl [sb] w).setCell (.inl (by simp)) _) (fun a ha _ hm=>by have h1:=h.tlo a ha;have h2:=h.lo_;simp at hm;omega),
  own_keep h.now_ (KeepB.put_ h.blk (by decide) i u),own_keep h.next_ (KeepB.put_ h.blk (by decide) i u),own_keep h.seen_ (KeepB.put_ h.blk (by decide) i u),own_keep h.todo_ (KeepB.put_ h.blk (by decide) i u)⟩
theorem SrM.nil_ {w':World} (h:SrM lo w sb L tx opn now todo stamp s A c A2 c2 nowv nextv seenv todov xs st en) (hf:Fr [] w w'):SrM lo w' sb L tx opn now todo stamp s A c A2 c2 nowv nextv seenv todov xs st en:=
 { h with
   blk:=h.blk.fr hf (by simp),prog:=own_keep h.prog (KeepB.of_nil hf),text:=h.text.fr hf (by simp),now_:=own_keep h.now_ (KeepB.of_nil hf),next_:=own_keep h.next_ (KeepB.of_nil hf)
   seen_:=own_keep h.seen_ (KeepB.of_nil hf),todo_:=own_keep h.todo_ (KeepB.of_nil hf) }
theorem SrM.stamp1 (h:SrM lo w sb L tx opn now todo stamp s A c A2 c2 nowv nextv seenv todov xs st en) :
    SrM lo (w.setCell ⟨sb,5,none⟩ (.int .i64 ((stamp+1:Nat):Int))) sb L tx opn now todo (stamp+1) { s with vis:=List.replicate L.length false } A c A2 c2 nowv nextv seenv todov xs st en:=by
 obtain ⟨r1,r2,r3,r4,r5,r6⟩:=h.rows 5 (.int .i64 ((stamp+1:Nat):Int))
 exact { h with
  blk:=h.blk.put 5 _,prog:=r1,text:=r2,now_:=r3,next_:=r4,seen_:=r5,todo_:=r6
  le:=fun x hx=>Nat.le_succ_of_le (h.le x hx)
  vis:=by
   show List.replicate L.length false=_;rw [<-h.len]
   symm
   rw [List.eq_replicate_iff];refine ⟨by simp,fun b hb=>?_⟩;obtain ⟨x,hx,rfl⟩:=List.mem_map.1 hb;have:=h.le x hx
   simp;omega }
theorem SrM.find3 (h:SrM lo w sb L tx opn now todo stamp s A c A2 c2 nowv nextv seenv todov xs st en) (a b:Nat) :
    SrM lo (((w.setCell ⟨sb,8,none⟩ (.int .i64 (a:Int))).setCell ⟨sb,9,none⟩ (.int .i64 (b:Int))).setCell ⟨sb,10,none⟩ (.bool true)) sb L tx opn now todo stamp { s with fd:=some (a,b) } A c A2 c2 nowv nextv seenv todov xs (a:Int) (b:Int):=by
 have k0:=h.blk;have k1:=k0.put 8 (.int .i64 (a:Int));have k2:=k1.put 9 (.int .i64 (b:Int));have k3:=k2.put 10 (.bool true)
 have keep:∀ t,t ≠ 167->KeepB t w (((w.setCell ⟨sb,8,none⟩ (.int .i64 (a:Int))).setCell ⟨sb,9,none⟩ (.int .i64 (b:Int))).setCell ⟨sb,10,none⟩ (.bool true)):=fun t ht b' cs' hb'=>
  KeepB.put_ k2 ht 10 _ _ _ (KeepB.put_ k1 ht 9 _ _ _ (KeepB.put_ k0 ht 8 _ _ _ hb'))
 exact { h with
  blk:=k3,prog:=own_keep h.prog (keep _ (by decide))
  text:=h.text.fr ((((Fr.refl [sb] w).setCell (.inl (by simp)) _).setCell (.inl (by simp)) _).setCell (.inl (by simp)) _) (fun a ha _ hm=>by have h1:=h.tlo a ha;have h2:=h.lo_;simp at hm;omega)
  now_:=own_keep h.now_ (keep _ (by decide)),next_:=own_keep h.next_ (keep _ (by decide)),seen_:=own_keep h.seen_ (keep _ (by decide)),todo_:=own_keep h.todo_ (keep _ (by decide))
  fd:=fun q hq=>by cases hq;exact ⟨rfl,rfl⟩ }
theorem own_take {w:World} {base n cap sz:Nat} {A:Option Addr} {e:TypeId} {l:List Value} (h:w.ownsRow base e sz (.slice A n cap) n l) {m:Nat} (hm:m <= n) (hA:A ≠ none):w.ownsRow base e sz (.slice A m cap) m (l.take (m * sz)):=by
 obtain ⟨h1,⟨h2,h3⟩ | ⟨g,cap',cur,h2,h0,hb,h3,h4,h5,h6⟩⟩:=h
 ·injection h2 with h2;exact absurd h2 hA
 injection h2 with h2 _ h2'
 subst h2 h2';have hmul:m * sz <= n * sz:=Nat.mul_le_mul_right _ hm;refine ⟨by rw [List.length_take];omega,.inr ⟨g,cap,cur,rfl,h0,hb,by omega,h4,h5,?_⟩⟩;rw [<-h6,List.take_take,Nat.min_eq_left hmul]
theorem SrM.todo1 (h:SrM lo w sb L tx opn now todo stamp s A c A2 c2 nowv nextv seenv todov xs st en) {w1:World} {todo':List Nat} {v':Value} (row:Option Nat)
    (hb:Bk w1 sb 167 #[.slice A L.length c,.slice A2 tx.length c2,.bool opn,nowv,nextv,.int .i64 (stamp:Int),seenv,todov,.int .i64 st,.int .i64 en,.bool s.fd.isSome])
    (hp:w1.ownsRow 0 142 7 (.slice A L.length c) L.length (L.flatMap Sp.cells)) (ht:Bytes w1 A2 tx) (hn:w1.ownsRow lo 199 2 nowv now.length (thV now)) (hx:w1.ownsRow lo 199 2 nextv s.next.length (thV s.next))
    (hs:w1.ownsRow lo 3 1 seenv L.length (intsV xs)) (hd:∀ b,seenv.ownBlock=some b->v'.ownBlock ≠ some b)
    (hown:w1.ownsRow lo 3 1 v' todo'.length (intsV todo'.reverse)) :
    SrM lo (w1.setCell ⟨sb,7,none⟩ v') sb L tx opn now todo' stamp s A c A2 c2 nowv nextv seenv v' xs st en:=by
 have keep:∀ t,t ≠ 167->KeepB t w1 (w1.setCell ⟨sb,7,none⟩ v'):=fun t ht=>KeepB.put_ hb ht 7 v'
 exact { lo_:=h.lo_,tlo:=h.tlo,textc:=h.textc,d1:=h.d1,len:=h.len,le:=h.le,vis:=h.vis,fd:=h.fd
         blk:=hb.put 7 v',prog:=own_keep hp (keep _ (by decide))
         text:=ht.fr ((Fr.refl [sb] w1).setCell (.inl (by simp)) _) (fun a ha _ hm=>by have h1:=h.tlo a ha;have h2:=h.lo_;simp at hm;omega)
         now_:=own_keep hn (keep _ (by decide)),next_:=own_keep hx (keep _ (by decide)),seen_:=own_keep hs (keep _ (by decide))
         todo_:=own_keep hown (keep _ (by decide)),d2:=hd }
theorem KeepB.grow {wa w4:World} {row:Option Nat} {t t':TypeId} (hg:wa.grownBy w4 row) (hr:∀ g,row=some g->∃ cur,Bk wa g t' cur) (ht:t ≠ t'):KeepB t wa w4:=
 fun b cs hb=>hb.grown hg (fun e=>by obtain ⟨cur,hc⟩:=hr b e.symm;exact hb.ne_ hc ht rfl)
theorem own_apart {wa w4:World} {row:Option Nat} {base n sz:Nat} {v:Value} {e:TypeId} {l:List Value} (h:wa.ownsRow base e sz v n l) (hg:wa.grownBy w4 row) (hd:∀ b,v.ownBlock=some b->row ≠ some b):w4.ownsRow base e sz v n l:=by
 obtain ⟨h1,h2 | ⟨b',cap',cur,h2,h0,hb',h6⟩⟩:=h
 ·exact ⟨h1,.inl h2⟩
 exact ⟨h1,.inr ⟨b',cap',cur,h2,h0,Bk.grown hb' hg (fun e=>hd b' (by rw [h2];rfl) e.symm),h6⟩⟩
theorem text_grown {wa w4:World} {row:Option Nat} (h:Bytes wa A2 tx) (hg:wa.grownBy w4 row) (htl:∀ a,A2=some a->a.block < lo) (hr:∀ g,row=some g->lo <= g):Bytes w4 A2 tx:=
 h.fr ((Fr.refl row.toList wa).grown hg (fun g e => .inl (by simp [e]))) (fun a ha _ hm=>by
  have h1:=htl a ha;have h2:=hr a.block (by simpa using hm)
  omega)
theorem SrM.push (h:SrM lo w sb L tx opn now todo stamp s A c A2 c2 nowv nextv seenv todov xs st en) {wa w4:World} {v':Value} {todo':List Nat} (hf:Fr [] w wa)
    (hown:w4.ownsRow lo 3 1 v' todo'.length (intsV todo'.reverse)) (hgr:wa.grownBy w4 todov.ownBlock) (hat:v'.ownBlock=todov.ownBlock ∨ v'.ownBlock=some wa.heap.size) :
    SrOut lo w sb (srBlocks sb nowv nextv seenv todov) L tx opn (nowv,now) todo' stamp s (w4.setCell ⟨sb,7,none⟩ v'):=by
 have ha:=h.nil_ hf;have hrow:∀ g,todov.ownBlock=some g->lo <= g/\∃ cur,Bk wa g 3 cur:=own_base ha.todo_
 have hd:∀ b,seenv.ownBlock=some b->v'.ownBlock ≠ some b:=by
  intro b hb e;rcases hat with k | k
  ·exact h.d2 b hb (by rw [<-k];exact e)
  obtain ⟨-, cur,hc⟩:=own_base ha.seen_ b hb;rw [k] at e;injection e with e;have:=hc.lt;omega
 have hsb:∀ g,todov.ownBlock=some g->g ≠ sb:=fun g hg e=>by
  obtain ⟨-, cur,hc⟩:=hrow g hg;exact ha.blk.ne_ hc (by decide) e.symm
 refine ⟨srBlocks sb nowv nextv seenv v',⟨A,c,A2,c2,nextv,seenv,v',xs,st,en,rfl,SrM.todo1 h none (ha.blk.grown hgr (fun e=>hsb sb e.symm rfl)) (own_keep ha.prog (KeepB.grow hgr (fun g hg=>(hrow g hg).2) (by decide))) (text_grown ha.text hgr ha.tlo (fun g hg=>(hrow g hg).1)) (own_keep ha.now_ (KeepB.grow hgr (fun g hg=>(hrow g hg).2) (by decide))) (own_keep ha.next_ (KeepB.grow hgr (fun g hg=>(hrow g hg).2) (by decide))) (own_apart ha.seen_ hgr (fun b hb e=>h.d2 b hb e)) hd hown⟩,?_,?_⟩
 ·exact (hf.nil_.grown hgr (fun g hg => .inl (srb_mem.2 (by simp [hg])))).setCell (.inl (by simp [srBlocks])) _
 intro b hb;have hsz:=hf.size;rcases srb_mem.1 hb with e | e | e | e | e
 ·exact .inl (srb_mem.2 (by simp [e]))
 ·exact .inl (srb_mem.2 (by simp [e]))
 ·exact .inl (srb_mem.2 (by simp [e]))
 ·exact .inl (srb_mem.2 (by simp [e]))
 rcases hat with k | k
 ·exact .inl (srb_mem.2 (by rw [<-k];simp [e]))
 rw [k] at e;injection e with e;exact .inr (by omega)
theorem SrM.puts (h:SrM lo w sb L tx opn now todo stamp s A c A2 c2 nowv nextv seenv todov xs st en) {wa w4:World} {v':Value} {k b0:Nat} (hf:Fr [] w wa)
    (hown:w4.ownsRow lo 199 2 v' (s.next.length+1) (thV s.next ++ [.int .i64 (k:Int),.int .i64 (b0:Int)])) (hgr:wa.grownBy w4 nextv.ownBlock) (hat:v'.ownBlock=nextv.ownBlock ∨ v'.ownBlock=some wa.heap.size) :
    SrOut lo w sb (srBlocks sb nowv nextv seenv todov) L tx opn (nowv,now) todo stamp (s.put k b0) (w4.setCell ⟨sb,4,none⟩ v'):=by
 have ha:=h.nil_ hf;have hrow:∀ g,nextv.ownBlock=some g->lo <= g/\∃ cur,Bk wa g 199 cur:=own_base ha.next_
 have hd:∀ b,nowv.ownBlock=some b->v'.ownBlock ≠ some b:=by
  intro b hb e;rcases hat with k | k
  ·exact h.d1 b hb (by rw [<-k];exact e)
  obtain ⟨-, cur,hc⟩:=own_base ha.now_ b hb;rw [k] at e;injection e with e;have:=hc.lt;omega
 have hsb:∀ g,nextv.ownBlock=some g->g ≠ sb:=fun g hg e=>by
  obtain ⟨-, cur,hc⟩:=hrow g hg;exact ha.blk.ne_ hc (by decide) e.symm
 have hb4:=ha.blk.grown hgr (fun e=>hsb sb e.symm rfl);have keep:∀ t,t ≠ 167->KeepB t w4 (w4.setCell ⟨sb,4,none⟩ v'):=fun t ht=>KeepB.put_ hb4 ht 4 v'
 refine ⟨srBlocks sb nowv v' seenv todov,⟨A,c,A2,c2,v',seenv,todov,xs,st,en,rfl,
  { lo_:=h.lo_,tlo:=h.tlo,textc:=h.textc,d1:=hd,d2:=h.d2,len:=h.len,le:=h.le,vis:=h.vis,fd:=h.fd
    blk:=hb4.put 4 v'
    prog:=own_keep (own_keep ha.prog (KeepB.grow hgr (fun g hg=>(hrow g hg).2) (by decide))) (keep _ (by decide))
    text:=(text_grown ha.text hgr ha.tlo (fun g hg=>(hrow g hg).1)).fr ((Fr.refl [sb] w4).setCell (.inl (by simp)) _) (fun a ha _ hm=>by have h1:=h.tlo a ha;have h2:=h.lo_;simp at hm;omega)
    now_:=own_keep (own_apart ha.now_ hgr (fun b hb e=>h.d1 b hb e)) (keep _ (by decide))
    next_:=by
     have e1:(s.put k b0).next=s.next ++ [(k,b0)]:=rfl;rw [e1,List.length_append,thV_append];exact own_keep hown (keep _ (by decide))
    seen_:=own_keep (own_keep ha.seen_ (KeepB.grow hgr (fun g hg=>(hrow g hg).2) (by decide))) (keep _ (by decide))
    todo_:=own_keep (own_keep ha.todo_ (KeepB.grow hgr (fun g hg=>(hrow g hg).2) (by decide))) (keep _ (by decide)) }⟩,?_,?_⟩
 ·exact (hf.nil_.grown hgr (fun g hg => .inl (srb_mem.2 (by simp [hg])))).setCell (.inl (by simp [srBlocks])) _
 intro b hb;have hsz:=hf.size;rcases srb_mem.1 hb with e | e | e | e | e
 ·exact .inl (srb_mem.2 (by simp [e]))
 ·exact .inl (srb_mem.2 (by simp [e]))
 ·rcases hat with k | k
  ·exact .inl (srb_mem.2 (by rw [<-k];simp [e]))
  rw [k] at e;injection e with e;exact .inr (by omega)
 ·exact .inl (srb_mem.2 (by simp [e]))
 exact .inl (srb_mem.2 (by simp [e]))
theorem SrM.blk7 (h:SrM lo w sb L tx opn now todo stamp s A c A2 c2 nowv nextv seenv todov xs st en) {wa w4:World} (hf:Fr [] w wa) (hgr:wa.grownBy w4 todov.ownBlock) :
    Bk w4 sb 167 #[.slice A L.length c,.slice A2 tx.length c2,.bool opn,nowv,nextv,.int .i64 (stamp:Int),seenv,todov,.int .i64 st,.int .i64 en,.bool s.fd.isSome]:=
 (h.nil_ hf).blk.grown hgr (fun e=>by
  obtain ⟨-, cur,hc⟩:=own_base (h.nil_ hf).todo_ sb e.symm
  exact (h.nil_ hf).blk.ne_ hc (by decide) rfl)
theorem SrM.blk4 (h:SrM lo w sb L tx opn now todo stamp s A c A2 c2 nowv nextv seenv todov xs st en) {wa w4:World} (hf:Fr [] w wa) (hgr:wa.grownBy w4 nextv.ownBlock) :
    Bk w4 sb 167 #[.slice A L.length c,.slice A2 tx.length c2,.bool opn,nowv,nextv,.int .i64 (stamp:Int),seenv,todov,.int .i64 st,.int .i64 en,.bool s.fd.isSome]:=
 (h.nil_ hf).blk.grown hgr (fun e=>by
  obtain ⟨-, cur,hc⟩:=own_base (h.nil_ hf).next_ sb e.symm
  exact (h.nil_ hf).blk.ne_ hc (by decide) rfl)
theorem SrM.see1 {SB cs k:Nat} (h:SrM lo w sb L tx opn now todo stamp s A c A2 c2 nowv nextv (.slice (some ⟨SB,0,none⟩) L.length cs) todov xs st en) (hk:k < L.length) :
    SrM lo (w.setCell ⟨SB,k,none⟩ (.int .i64 (stamp:Int))) sb L tx opn now todo stamp (s.see k) A c A2 c2 nowv nextv (.slice (some ⟨SB,0,none⟩) L.length cs) todov (xs.set k stamp) st en /\
    Fr (srBlocks sb nowv nextv (.slice (some ⟨SB,0,none⟩) L.length cs) todov) w (w.setCell ⟨SB,k,none⟩ (.int .i64 (stamp:Int))):=by
 obtain ⟨hlo,cur,hc⟩:=own_base h.seen_ SB rfl;have keep:∀ t,t ≠ 3->KeepB t w (w.setCell ⟨SB,k,none⟩ (.int .i64 (stamp:Int))):=fun t ht b cs' hb'=>hb'.far (p:=⟨SB,k,none⟩) (hb'.ne_ hc ht) _;have hset:=own_set h.seen_ k (.int .i64 (stamp:Int))
 refine ⟨{ lo_:=h.lo_,tlo:=h.tlo,textc:=h.textc,d1:=h.d1,d2:=h.d2,fd:=h.fd
           blk:=h.blk.far (p:=⟨SB,k,none⟩) (h.blk.ne_ hc (by decide)) _
           prog:=own_keep h.prog (keep _ (by decide))
           text:=h.text.fr ((Fr.refl [SB] w).setCell (.inl (by simp)) _) (fun a ha _ hm=>by have h1:=h.tlo a ha;simp at hm;omega)
           now_:=own_keep h.now_ (keep _ (by decide)),next_:=own_keep h.next_ (keep _ (by decide))
           seen_:=by rw [intsV,List.map_set];exact hset
           todo_:=by
            obtain ⟨h1,h2 | ⟨b',cap',cur',h2,h0,hb',h6⟩⟩:=h.todo_
            ·exact ⟨h1,.inl h2⟩
            have hb'':Bk w b' 3 cur':=hb';exact ⟨h1,.inr ⟨b',cap',cur',h2,h0,hb''.far (p:=⟨SB,k,none⟩) (fun e=>h.d2 SB rfl (by rw [h2];show some b'=some SB;rw [e])) _,h6⟩⟩
           len:=by rw [List.length_set];exact h.len
           le:=fun x hx=>by
            rcases List.mem_or_eq_of_mem_set hx with h1 | h1
            ·exact h.le x h1
            omega
           vis:=by
            show s.vis.set k true=_
            rw [h.vis,List.map_set];simp },?_⟩
 exact (Fr.refl _ w).setCell (.inl (by simp [srBlocks,Value.ownBlock])) _
def todoW (w:World) (sb:Nat):Nat:=match w.cell? ⟨sb,7,none⟩ with | some (.slice _ n _)=>n | _=>0
def unseenW (w:World) (sb n:Nat):Nat:=match w.cell? ⟨sb,5,none⟩,w.cell? ⟨sb,6,none⟩ with
 | some (.int _ st),some (.slice (some p) _ _)=>((List.range n).filter fun k=>match w.cell? ⟨p.block,k,none⟩ with | some (.int _ x) => !(x == st) | _=>false).length
 | _,_=>0
theorem filter_range (l:List Nat) (f:Nat->Bool):((List.range l.length).filter fun k=>f (l.getD k 0)).length=(l.filter f).length:=by
 have e:l=(List.range l.length).map fun k=>l.getD k 0:=by
  apply List.ext_getElem
  ·simp
  intro i h1 h2;simp [List.getD_eq_getElem?_getD,List.getElem?_eq_getElem h1]
 conv=>rhs;rw [e]
 rw [List.filter_map,List.length_map];rfl
theorem SrM.todoW (h:SrM lo w sb L tx opn now todo stamp s A c A2 c2 nowv nextv seenv todov xs st en):todoW w sb=todo.length:=by
 unfold Go.Proofs.YtfofechcccodeaaGreatDoor.todoW;have e7:w.cell? ⟨sb,7,none⟩=some todov:=h.blk.cell_ rfl;rw [e7];obtain ⟨h1,⟨h2,h3⟩ | ⟨b',cap',cur',h2,h0,hb',h6⟩⟩:=h.todo_
 ·rw [h2];exact h3.symm
 rw [h2]
theorem SrM.unseenW {SB cs:Nat} (h:SrM lo w sb L tx opn now todo stamp s A c A2 c2 nowv nextv (.slice (some ⟨SB,0,none⟩) L.length cs) todov xs st en):unseenW w sb L.length=unseen s.vis:=by
 unfold Go.Proofs.YtfofechcccodeaaGreatDoor.unseenW;have e5:w.cell? ⟨sb,5,none⟩=some (.int .i64 (stamp:Int)):=h.blk.cell_ rfl;have e6:w.cell? ⟨sb,6,none⟩=some (.slice (some ⟨SB,0,none⟩) L.length cs):=h.blk.cell_ rfl;rw [e5,e6];simp only;rw [unseen,h.vis,List.filter_map,List.length_map,<-filter_range xs ((fun x => !x) ∘ fun x=>x == stamp),h.len]
 congr 1
 apply List.filter_congr
 intro k hk;have hk':k < xs.length:=by rw [h.len];simpa using hk
 have hx:(intsV xs)[k]?=some (.int .i64 ((xs.getD k 0:Nat):Int)):=by
  rw [intsV,List.getElem?_map,List.getD_eq_getElem?_getD,List.getElem?_eq_getElem hk'];rfl
 obtain ⟨b,hb,-, -, hc⟩:=own_cells h.seen_ (by intro e;rw [e] at hx;cases hx)
 injection hb with hb;injection hb with hb
 subst hb;rw [hc k _ hx];simp only [Function.comp];rw [Bool.eq_iff_iff];simp;omega
end
end Go.Proofs.YtfofechcccodeaaGreatDoor
