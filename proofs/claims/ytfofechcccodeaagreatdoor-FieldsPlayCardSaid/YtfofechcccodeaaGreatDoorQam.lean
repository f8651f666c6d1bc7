/-
  Small texts in one (Mb3). No conditions.
-/
import Derived.Test.YtfofechcccodeaaGreatDoorQal
import Derived.StillTailTactics
namespace Go.Proofs.YtfofechcccodeaaGreatDoor
open Go.RowKit Go.ChangeMaps Go.Proofs.Tryz
set_option linter.unusedVariables false
set_option linter.unusedSimpArgs false
set_option maxRecDepth 100000
set_option maxHeartbeats 16000000
theorem own_any {w:World} {base n sz:Nat} {v:Value} {e:TypeId} {xs:List Value} (h:w.ownsRow base e sz v n xs):∃ A c,v = .slice A n c:=by
 obtain ⟨h1,⟨h2,h3⟩ | ⟨b',cap',cur,h2,-⟩⟩:=h
 ·exact ⟨none,0,by rw [h2,h3]⟩
 exact ⟨_,_,h2⟩
theorem own_form2 {w:World} {base n sz:Nat} {v:Value} {e:TypeId} {xs:List Value} (h:w.ownsRow base e sz v n xs) (hn:0 < n):∃ g c,v = .slice (some ⟨g,0,none⟩) n c:=by
 obtain ⟨h1,⟨h2,h3⟩ | ⟨b',cap',cur,h2,-⟩⟩:=h
 ·omega
 exact ⟨_,_,h2⟩
theorem two_new (w:World) (t:TypeId) (a b:Value):∀ j u,[a,b][j]?=some u->(w.alloc (.cells #[a,b] t)).cell? ((⟨w.heap.size,0,none⟩:Addr).add j)=some u:=by
 intro j u hu;have hb:=Bk.new w t #[a,b];have hadd:(⟨w.heap.size,0,none⟩:Addr).add j=⟨w.heap.size,j,none⟩:=by unfold Addr.add;split <;> simp_all
 rw [hadd,hb.cell]
 simpa using hu
theorem thParts:∃ i,prog.info? 199=some i/\i.zero=some (.agg #[.int .i64 0,.int .i64 0])/\i.size=2/\i.bytes=16:=info_parts (by kernel_rfl)
theorem SrOut.mk_ {lo:Nat} {w w':World} {sb:Nat} {l:List Nat} {L:List Sp} {tx:List UInt8} {opn:Bool} {P:Value × List (Nat × Nat)} {todo:List Nat} {stamp:Nat} {s:Sr}
    {A:Option Addr} {c:Nat} {A2:Option Addr} {c2:Nat} {nextv seenv todov:Value} {xs:List Nat} {st en:Int}
    (h:SrM lo w' sb L tx opn P.2 todo stamp s A c A2 c2 P.1 nextv seenv todov xs st en) (hf:Fr l w w') (hb:∀ b ∈ srBlocks sb P.1 nextv seenv todov,b ∈ l ∨ w.heap.size <= b):SrOut lo w sb l L tx opn P todo stamp s w':=
 ⟨_,⟨A,c,A2,c2,nextv,seenv,todov,xs,st,en,rfl,h⟩,hf,hb⟩
theorem SrOut.on {lo:Nat} {w w1 w2:World} {sb:Nat} {l l1:List Nat} {L:List Sp} {tx:List UInt8} {opn:Bool} {P:Value × List (Nat × Nat)} {todo:List Nat} {stamp:Nat} {s:Sr}
    (h:SrOut lo w1 sb l1 L tx opn P todo stamp s w2) (hf:Fr l w w1) (hb:∀ b ∈ l1,b ∈ l ∨ w.heap.size <= b):SrOut lo w sb l L tx opn P todo stamp s w2:=by
 obtain ⟨l2,h1,h2,h3⟩:=h;refine ⟨l2,h1,hf.trans' h2 hb,fun b hb2=>?_⟩;rcases h3 b hb2 with h4 | h4
 ·exact hb b h4
 exact .inr (Nat.le_trans hf.size h4)
theorem SrOut.meas {lo:Nat} {w w':World} {sb:Nat} {l:List Nat} {L:List Sp} {tx:List UInt8} {opn:Bool} {P:Value × List (Nat × Nat)} {todo:List Nat} {stamp:Nat} {s:Sr}
    (h:SrOut lo w sb l L tx opn P todo stamp s w') (hL:0 < L.length):todoW w' sb+2 * unseenW w' sb L.length=todo.length+2 * unseen s.vis:=by
 obtain ⟨l',⟨A,c,A2,c2,xv,sv,tv,ys,s0,en,-, hm⟩,-⟩:=h;obtain ⟨SB,cs,rfl⟩:=own_form2 hm.seen_ hL;rw [hm.todoW,hm.unseenW]
theorem SrOut.vlen {lo:Nat} {w w':World} {sb:Nat} {l:List Nat} {L:List Sp} {tx:List UInt8} {opn:Bool} {P:Value × List (Nat × Nat)} {todo:List Nat} {stamp:Nat} {s:Sr}
    (h:SrOut lo w sb l L tx opn P todo stamp s w'):s.vis.length=L.length:=by
 obtain ⟨l',⟨A,c,A2,c2,xv,sv,tv,ys,s0,en,-, hm⟩,-⟩:=h;rw [hm.vis,List.length_map,hm.len]
theorem metS_next_len (x:Sp) (n:Nat) (opn:Bool) (st a k:Nat) (s:Sr):(metS x n opn st a k s).next.length <= s.next.length+1:=by
 unfold metS
 (repeat' split) <;> first | (simp [Sr.put];done) | (unfold Sr.hit; (repeat' split) <;> simp)
section
variable {lo:Nat} {w:World} {sb:Nat} {L:List Sp} {tx:List UInt8} {opn:Bool} {now:List (Nat × Nat)} {todo:List Nat} {stamp:Nat} {s:Sr}
    {A:Option Addr} {c:Nat} {A2:Option Addr} {c2:Nat} {nowv nextv seenv todov:Value} {xs:List Nat} {st en:Int}
theorem SrM.puts2 (h:SrM lo w sb L tx opn now todo stamp s A c A2 c2 nowv nextv seenv todov xs st en) {wa w4:World} {v':Value} {k b0:Nat} (hf:Fr [] w wa)
    (hown:w4.ownsRow lo 199 2 v' (s.next.length+1) (thV s.next ++ [.int .i64 (k:Int),.int .i64 (b0:Int)])) (hgr:wa.grownBy w4 nextv.ownBlock) (hat:v'.ownBlock=nextv.ownBlock ∨ v'.ownBlock=some wa.heap.size) :
    SrM lo (w4.setCell ⟨sb,4,none⟩ v') sb L tx opn now todo stamp (s.put k b0) A c A2 c2 nowv v' seenv todov xs st en/\Fr (srBlocks sb nowv nextv seenv todov) w (w4.setCell ⟨sb,4,none⟩ v')/\∀ b ∈ srBlocks sb nowv v' seenv todov,b ∈ srBlocks sb nowv nextv seenv todov ∨ w.heap.size <= b:=by
 have ha:=h.nil_ hf;have hrow:∀ g,nextv.ownBlock=some g->lo <= g/\∃ cur,Bk wa g 199 cur:=own_base ha.next_
 have hd:∀ b,nowv.ownBlock=some b->v'.ownBlock ≠ some b:=by
  intro b hb e;rcases hat with k | k
  ·exact h.d1 b hb (by rw [<-k];exact e)
  obtain ⟨-, cur,hc⟩:=own_base ha.now_ b hb;rw [k] at e;injection e with e;have:=hc.lt;omega
 have hsb:∀ g,nextv.ownBlock=some g->g ≠ sb:=fun g hg e=>by
  obtain ⟨-, cur,hc⟩:=hrow g hg;exact ha.blk.ne_ hc (by decide) e.symm
 have hb4:=ha.blk.grown hgr (fun e=>hsb sb e.symm rfl);have keep:∀ t,t ≠ 167->KeepB t w4 (w4.setCell ⟨sb,4,none⟩ v'):=fun t ht=>KeepB.put_ hb4 ht 4 v'
 refine ⟨
  { lo_:=h.lo_,tlo:=h.tlo,textc:=h.textc,d1:=hd,d2:=h.d2,len:=h.len,le:=h.le,vis:=h.vis,fd:=h.fd
    blk:=hb4.put 4 v'
    prog:=own_keep (own_keep ha.prog (KeepB.grow hgr (fun g hg=>(hrow g hg).2) (by decide))) (keep _ (by decide))
    text:=(text_grown ha.text hgr ha.tlo (fun g hg=>(hrow g hg).1)).fr ((Fr.refl [sb] w4).setCell (.inl (by simp)) _) (fun a ha _ hm=>by have h1:=h.tlo a ha;have h2:=h.lo_;simp at hm;omega)
    now_:=own_keep (own_apart ha.now_ hgr (fun b hb e=>h.d1 b hb e)) (keep _ (by decide))
    next_:=by
     have e1:(s.put k b0).next=s.next ++ [(k,b0)]:=rfl;rw [e1,List.length_append,thV_append];exact own_keep hown (keep _ (by decide))
    seen_:=own_keep (own_keep ha.seen_ (KeepB.grow hgr (fun g hg=>(hrow g hg).2) (by decide))) (keep _ (by decide))
    todo_:=own_keep (own_keep ha.todo_ (KeepB.grow hgr (fun g hg=>(hrow g hg).2) (by decide))) (keep _ (by decide)) },?_,?_⟩
 ·exact (hf.nil_.grown hgr (fun g hg => .inl (srb_mem.2 (by simp [hg])))).setCell (.inl (by simp [srBlocks])) _
 intro b hb;have hsz:=hf.size;rcases srb_mem.1 hb with e | e | e | e | e
 ·exact .inl (srb_mem.2 (by simp [e]))
 ·exact .inl (srb_mem.2 (by simp [e]))
 ·rcases hat with k | k
  ·exact .inl (srb_mem.2 (by rw [<-k];simp [e]))
  rw [k] at e;injection e with e;exact .inr (by omega)
 ·exact .inl (srb_mem.2 (by simp [e]))
 exact .inl (srb_mem.2 (by simp [e]))
theorem prog_xy {w:World} {L:List Sp} {AB c k1 X Y:Nat} (h:w.ownsRow 0 142 7 (.slice (some ⟨AB,0,none⟩) L.length c) L.length (L.flatMap Sp.cells)) (hk:k1 < L.length) (hX:(spAt L k1).x=(X:Int)) (hY:(spAt L k1).y=(Y:Int)) :
    w.cell? ⟨AB,k1 * 7+5,none⟩=some (.int .i64 (X:Int))/\w.cell? ⟨AB,k1 * 7+6,none⟩=some (.int .i64 (Y:Int)):=by
 have hget:=spAt_get hk;have hne:L.flatMap Sp.cells ≠ []:=fun e=>by have h7:=flat_len sp_len L;rw [e] at h7;simp at h7;omega
 obtain ⟨AB',hAB,-, -, hcl⟩:=own_cells h hne
 injection hAB with hAB;injection hAB with hAB
 subst hAB;exact ⟨hcl (k1 * 7+5) _ ((flat_at sp_len _ 5 (by omega) L k1 hget).trans (by rw [<-hX];rfl)),hcl (k1 * 7+6) _ ((flat_at sp_len _ 6 (by omega) L k1 hget).trans (by rw [<-hY];rfl))⟩
theorem SrM.xy {AB k1 X Y:Nat} (h:SrM lo w sb L tx opn now todo stamp s (some ⟨AB,0,none⟩) c A2 c2 nowv nextv seenv todov xs st en) (hk:k1 < L.length) (hX:(spAt L k1).x=(X:Int)) (hY:(spAt L k1).y=(Y:Int)) :
    w.cell? ⟨sb,7,none⟩=some todov/\w.cell? ⟨AB,k1 * 7+5,none⟩=some (.int .i64 (X:Int))/\w.cell? ⟨AB,k1 * 7+6,none⟩=some (.int .i64 (Y:Int)):=⟨h.blk.cell_ rfl,prog_xy h.prog hk hX hY⟩
theorem SrM.xy4 {AB k1 X Y:Nat} (h:SrM lo w sb L tx opn now todo stamp s (some ⟨AB,0,none⟩) c A2 c2 nowv nextv seenv todov xs st en) {wa w4:World} (hf:Fr [] w wa) (hgr:wa.grownBy w4 todov.ownBlock) (hk:k1 < L.length) (hX:(spAt L k1).x=(X:Int)) (hY:(spAt L k1).y=(Y:Int)) :
    w4.cell? ⟨sb,7,none⟩=some todov/\w4.cell? ⟨AB,k1 * 7+5,none⟩=some (.int .i64 (X:Int))/\w4.cell? ⟨AB,k1 * 7+6,none⟩=some (.int .i64 (Y:Int)):=
 ⟨(h.blk7 hf hgr).cell_ rfl,prog_xy (own_keep (h.nil_ hf).prog (KeepB.grow hgr (fun g hg=>(own_base (h.nil_ hf).todo_ g hg).2) (by decide))) hk hX hY⟩
theorem intsV_push1 (X:Nat) (r:List Nat):intsV (X :: r).reverse=intsV r.reverse ++ [.int .i64 (X:Int)]:=by simp [intsV]
theorem intsV_push2 (X Y:Nat) (r:List Nat):intsV (X :: Y :: r).reverse=intsV r.reverse ++ [.int .i64 (Y:Int),.int .i64 (X:Int)]:=by simp [intsV]
end
def StRel (lo:Nat) (w0:World) (sb:Nat) (l:List Nat) (L:List Sp) (tx:List UInt8) (opn:Bool) (P:Value × List (Nat × Nat)) (stamp st a:Nat) (R:Sr) (wr:World):Prop:=
 ∃ f td s1,SrOut lo w0 sb l L tx opn P td stamp s1 wr/\td.length+2 * unseen s1.vis < f/\f <= 2 * L.length+2/\(∀ j ∈ td,j < L.length)/\s1.next.length+unseen s1.vis <= L.length/\standF L tx.length opn st a f td s1=R
theorem StRel.skip {lo:Nat} {w wr w':World} {sb:Nat} {l:List Nat} {L:List Sp} {tx:List UInt8} {opn:Bool} {P:Value × List (Nat × Nat)} {stamp st a f k1:Nat} {r:List Nat} {R s1:Sr}
    (hm:todoW wr sb+2 * unseenW wr sb L.length=(r.length+1)+2 * unseen s1.vis) (hst:standF L tx.length opn st a (f+1) (k1 :: r) s1=R) (hf:(k1 :: r).length+2 * unseen s1.vis < f+1) (hf2:f+1 <= 2 * L.length+2)
    (htd:∀ j ∈ k1 :: r,j < L.length) (hnx:s1.next.length+unseen s1.vis <= L.length) (hv:s1.vis.getD k1 false=true) (hL:0 < L.length) (h:SrOut lo w sb l L tx opn P r stamp s1 w') :
    StRel lo w sb l L tx opn P stamp st a R w'/\todoW w' sb+2 * unseenW w' sb L.length < todoW wr sb+2 * unseenW wr sb L.length:=by
 refine ⟨⟨f,r,s1,h,by simp at hf;omega,by omega,fun j hj=>htd j (by simp [hj]),hnx,?_⟩,by rw [hm,h.meas hL];omega⟩;rw [standF,if_pos hv] at hst;exact hst
theorem StRel.next {lo:Nat} {w wr w':World} {sb:Nat} {l:List Nat} {L:List Sp} {tx:List UInt8} {opn:Bool} {P:Value × List (Nat × Nat)} {stamp st a f k1:Nat} {r td:List Nat} {R s1 s2:Sr}
    (hm:todoW wr sb+2 * unseenW wr sb L.length=(r.length+1)+2 * unseen s1.vis) (hst:standF L tx.length opn st a (f+1) (k1 :: r) s1=R) (hf:(k1 :: r).length+2 * unseen s1.vis < f+1) (hf2:f+1 <= 2 * L.length+2)
    (htd:∀ j ∈ k1 :: r,j < L.length) (hnx:s1.next.length+unseen s1.vis <= L.length) (hv:s1.vis.getD k1 false=false) (hvl:s1.vis.length=L.length) (hok:ProgOk L)
    (h1:metT (spAt L k1) tx.length opn a ++ r=td) (h2:metS (spAt L k1) tx.length opn st a k1 (s1.see k1)=s2) (h:SrOut lo w sb l L tx opn P td stamp s2 w') :
    StRel lo w sb l L tx opn P stamp st a R w'/\todoW w' sb+2 * unseenW w' sb L.length < todoW wr sb+2 * unseenW wr sb L.length:=by
 have hk:k1 < L.length:=htd k1 (by simp);have e1:=metT_len (spAt L k1) tx.length opn a;have e2:s2.vis=s1.vis.set k1 true:=by rw [<-h2,metS_vis];rfl
 have e3:=unseen_set (v:=s1.vis) (k:=k1) (by rw [hvl];exact hk) hv;have e4:=metS_next_len (spAt L k1) tx.length opn st a k1 (s1.see k1);rw [h2] at e4;have e5:(s1.see k1).next=s1.next:=rfl;rw [e5] at e4;have e6:td.length <= 2+r.length:=by rw [<-h1,List.length_append];omega
 rw [List.length_cons] at hf;refine ⟨⟨f,td,s2,h,by rw [e2];omega,by omega,fun j hj=>?_,by rw [e2];omega,?_⟩,?_⟩
 ·rw [<-h1] at hj;rcases List.mem_append.1 hj with hj | hj
  ·exact metT_ok hok hk _ _ _ j hj
  exact htd j (by simp [hj])
 ·rw [standF,if_neg (by rw [hv];simp),h1,h2] at hst;exact hst
 rw [hm,h.meas (by omega),e2];omega
theorem stand_any {lo:Nat} {w:World} {sb:Nat} {l:List Nat} {L:List Sp} {tx:List UInt8} {opn:Bool} {P:Value × List (Nat × Nat)} {stamp st a k:Nat} {s:Sr}
    (h:SrAt lo w sb l L tx opn P [] stamp s) (hok:ProgOk L) (hk:k < L.length) (hL:L.length <= 5000) (ha:a <= tx.length) (htx:tx.length <= 100000) (hst:st <= 100000) (hstamp:stamp <= 1000000000000) (hnx:s.next.length+unseen s.vis <= L.length) :
    Calls prog 96 #[.pointer (some ⟨sb,0,none⟩),.int .i64 (k:Int),.int .i64 (st:Int),.int .i64 (a:Int)] w fun e w'=>e = .returned (.tuple #[])/\SrOut lo w sb l L tx opn P [] stamp (standS L tx.length opn k st a s) w':=by
 obtain ⟨R,hR⟩:∃ R,R=standS L tx.length opn k st a s:=⟨_,rfl⟩;rw [<-hR];obtain ⟨A,c,A2,c2,nextv,seenv,todov,xs,s0,en,hl,hm⟩:=h;obtain ⟨i0,hi0,hz0,hz1,hz2⟩:=intParts;obtain ⟨At,ct,rfl⟩:=own_any hm.todo_;have hlt:=hm.blk.lt;have c7:w.cell? ⟨sb,7,none⟩=some (.slice At 0 ct):=hm.blk.cell_ rfl;have f7:=hm.blk.frozen 7;have hlo:lo <= w.heap.size:=Nat.le_trans hm.lo_ (Nat.le_of_lt hlt);have HM:=zh hm;have HOK:=zh hok;have HR:=zh hR;have HLB:=zh hl;clear hm hok hR hl;go_enter func96,ntmps96
 go_wp2_with (at_builtin;refine wpList_append_R rfl (.tmp 14) (.tmp 16) 165 rfl lo 3 i0 _ 1 8 underlying165 hi0 hz0 hz1 hz2 rfl (by omega) (.slice At 0 ct) 0 _ (by first | rfl | simp [Act.eval]) (own_keep HM.out.todo_ (KeepB.of_nil ((Fr.refl [] w).alloc _))) ⟨w.heap.size,0,none⟩ 1 1 [.int .i64 (k:Int)] (by first | rfl | simp [Act.eval]) rfl (one_new_ w 3 _) (by simp [Value.oneCell']) (by unfold maxLen;omega) (by omega) (by simp;omega) ?_;intro v' w4 hown4 hgr hat4;obtain ⟨A4,c4,rfl⟩:=own_any hown4;have hb4:=HM.out.blk7 ((Fr.refl [] w).alloc _) hgr;have d7:w4.cell? ⟨sb,7,none⟩=some (.slice At 0 ct):=hb4.cell_ rfl;have g7:=hb4.frozen 7;have hlt4:=hb4.lt;have HGR:=zh hgr;have HOWN4:=zh hown4;have HAT:=zh hat4;clear hown4 hgr hat4 hb4)
 have hout:=HM.out.push ((Fr.refl [] w).alloc _) (todo':=[k]) HOWN4.out HGR.out HAT.out;obtain ⟨w5,hw5⟩:∃ w5,w5=w4.setCell ⟨sb,7,none⟩ (.slice A4 (0+1) c4):=⟨_,rfl⟩;rw [<-HLB.out] at hout;have hout':SrOut lo w sb l L tx opn P [k] stamp s w5:=by rw [hw5];exact hout
 have HOUT:=zh hout';have hw5':w4.setCell ⟨sb,7,none⟩ (.slice A4 1 c4)=w5:=hw5.symm;rw [hw5'];clear hout hout' hw5 hw5' HLB HOWN4 HGR HAT d7 g7 hlt4 c7 f7 HM
 go_loopw [8] (fun v wr=>StRel lo w sb l L tx opn P stamp st a R wr) (fun v wr=>todoW wr sb+2 * unseenW wr sb L.length)
 case atStart=>exact ⟨2 * L.length+2,[k],s,HOUT.out,by simp;omega,Nat.le_refl _,by simp;exact hk,hnx,HR.out.symm⟩
 case round=>
  unfold StRel at hrel;obtain ⟨f,td,s1,hout,hf,hf2,htd,hnx1,hst1⟩:=hrel;obtain ⟨l1,⟨A',c',A2',c2',xv,sv,tv,ys,s0',en',hl1,hm⟩,hfr,hl1b⟩:=hout;obtain ⟨SB,cs,rfl⟩:=own_form2 hm.seen_ (by omega);obtain ⟨T,ct',rfl⟩:=own_any hm.todo_;have c7:wr.cell? ⟨sb,7,none⟩=some (.slice T td.length ct'):=hm.blk.cell_ rfl;obtain ⟨f,rfl⟩:∃ f0,f=f0+1:=⟨f - 1,by omega⟩;rcases td with _ | ⟨k1,r⟩
  ·have hRs:s1=R:=hst1;have HOUT2:Hid (SrOut lo w sb l L tx opn P [] stamp R wr):=zh ⟨l1,⟨A',c',A2',c2',xv,_,_,ys,s0',en',hl1,by rw [<-hRs];exact hm⟩,hfr,hl1b⟩;clear hm hfr hl1b hl1 hst1 HOUT;have c7':wr.cell? ⟨sb,7,none⟩=some (.slice T 0 ct'):=c7;clear c7;go_wp2_with fail
   go_end0
   exact ⟨rfl,HOUT2.out⟩
  obtain ⟨n,hn⟩:∃ n,n=r.length:=⟨_,rfl⟩;have HM:=zh hm;have HST:=zh hst1;have HN:=zh hn;have c7':wr.cell? ⟨sb,7,none⟩=some (.slice T (n+1) ct'):=by rw [hn];exact c7
  have hk1:k1 < L.length:=htd k1 (by simp);have hxs:(intsV (k1 :: r).reverse)[n]?=some (.int .i64 (k1:Int)):=by rw [hn];simp [intsV]
  obtain ⟨TB,hTB,-, -, hcell⟩:=own_cells hm.todo_ (by intro e;rw [e] at hxs;cases hxs);subst hTB;have ck:=hcell n _ hxs;have hnb:n+1 <= 20000:=by simp at hf;omega
  clear hm hst1 hn c7 hxs hcell HOUT;go_wp2_with fail
  refine wp_region_M_ (G:=fun a b=>a=b) (S:=fun W=>W=wr.drew) ⟨fun _=>rfl,fun a b c h k=>h.trans k,fun a b h k=>k ▸ h,by kernel_rfl,fun _ _ d _ _ h=>by cases d <;> exact h⟩ (by kernel_rfl) fun su=>?_
  have SU:=zh su;have HS:Hid (wr.drew=wr.drew):=zh rfl;clear su;refine M_m 0 SU.out HS.out ?_;simp only [PE];refine M_v 1 ?_ SU.out HS.out (fun W hS=>?_) ?_;rotate_left
  ·obtain rfl:=hS;go_simp;first | done | rfl | omega | (exact IntWalk.i64_in _ (by omega)) | (simp <;> omega)
  simp only [PU];refine M_v 2 ?_ SU.out HS.out (fun W hS=>?_) ?_;rotate_left
  ·obtain rfl:=hS;go_simp;first | done | rfl | omega | (exact IntWalk.i64_in _ (by omega)) | (simp <;> omega)
  simp only [PU];refine M_v 3 (.slice (some ⟨TB,0,none⟩) (n+1) ct') SU.out HS.out (fun W hS=>?_) ?_
  ·obtain rfl:=hS;go_simp;first | done | rfl | omega | (exact IntWalk.i64_in _ (by omega)) | (simp <;> omega)
  simp only [PU];refine M_m 4 SU.out HS.out ?_;simp only [PE];refine M_v 5 ?_ SU.out HS.out (fun W hS=>?_) ?_;rotate_left
  ·obtain rfl:=hS;go_simp;first | done | rfl | omega | (exact IntWalk.i64_in _ (by omega)) | (simp <;> omega)
  simp only [PU];refine M_v 6 ?_ SU.out HS.out (fun W hS=>?_) ?_;rotate_left
  ·obtain rfl:=hS;go_simp;first | done | rfl | omega | (exact IntWalk.i64_in _ (by omega)) | (simp <;> omega)
  simp only [PU];refine M_v 7 (.slice (some ⟨TB,0,none⟩) (n+1) ct') SU.out HS.out (fun W hS=>?_) ?_
  ·obtain rfl:=hS;go_simp;first | done | rfl | omega | (exact IntWalk.i64_in _ (by omega)) | (simp <;> omega)
  simp only [PU];refine M_v 8 (.int .i64 ((n:Int)+1)) SU.out HS.out (fun W hS=>?_) ?_
  ·obtain rfl:=hS;go_simp;first | done | rfl | omega | (exact IntWalk.i64_in _ (by omega)) | (simp <;> omega)
  simp only [PU];refine M_v 9 (.int .i64 (n:Int)) SU.out HS.out (fun W hS=>?_) ?_
  ·obtain rfl:=hS;go_simp;first | done | rfl | omega | (exact IntWalk.i64_in _ (by omega)) | (simp <;> omega)
  simp only [PU];refine M_v 10 (.pointer (some ⟨TB,n,none⟩)) SU.out HS.out (fun W hS=>?_) ?_
  ·obtain rfl:=hS;go_simp;first | done | rfl | omega | (exact IntWalk.i64_in _ (by omega)) | (simp <;> omega)
  simp only [PU];refine M_v 11 (.int .i64 (k1:Int)) SU.out HS.out (fun W hS=>?_) ?_
  ·obtain rfl:=hS;go_simp;first | done | rfl | omega | (exact IntWalk.i64_in _ (by omega)) | (simp <;> omega)
  simp only [PU];refine M_v 12 ?_ SU.out HS.out (fun W hS=>?_) ?_;rotate_left
  ·obtain rfl:=hS;go_simp;first | done | rfl | omega | (exact IntWalk.i64_in _ (by omega)) | (simp <;> omega)
  simp only [PU];refine wpAnyM_done (by kernel_rfl) (fun w' hG=>?_);obtain rfl:=hG
  have hcp:n+1 <= ct':=by
   obtain ⟨-, ⟨h2,h3⟩ | ⟨g,cap',cur,h2,h0,hb,h3,h4,h5,h6⟩⟩:=HM.out.todo_
   ·cases h2
   injection h2 with _ _ h2;subst h2;rw [HN.out];simpa using h3
  obtain ⟨wp,hwp⟩:∃ wp,wp=wr.drew:=⟨_,rfl⟩;rw [<-hwp];have hmp:=HM.out.nil_ ((Fr.refl [] wr).drew);rw [<-hwp] at hmp;have hfp:Fr l w wp:=by rw [hwp];exact hfr.drew
  have p7:wp.cell? ⟨sb,7,none⟩=some (.slice (some ⟨TB,0,none⟩) (n+1) ct'):=by rw [hwp];exact c7'
  have f7':=hmp.blk.frozen 7;have hlt':=hmp.blk.lt;have hme:todoW wr sb+2 * unseenW wr sb L.length=(r.length+1)+2 * unseen s1.vis:=by rw [HM.out.todoW,HM.out.unseenW];simp
  have HMP:=zh hmp;have HFP:=zh hfp;have HME:=zh hme;clear hme;clear hmp hfp HM hfr c7' ck hwp
  have hwr : IntKind.i64.wrap (n : Int) = (n : Int) := by have h9 : (n : Int) + 1 - 1 = (n : Int) := by omega
                                                          exact IntWalk.i64_in _ (by omega)
  have hc1:n <= ct':=by omega
  have hc2:(n:Int) <= (ct':Int):=by omega
  have hc3:¬ (ct' < n):=by omega
  go_upto_region 3 with fail
  go_still_tail 14,(by kernel_rfl)
  change wpList _ _ _ _ _ wp.drew
  obtain ⟨wq,hwq⟩:∃ wq,wq=wp.drew:=⟨_,rfl⟩;rw [<-hwq];have hmq:=HMP.out.nil_ ((Fr.refl [] wp).drew);rw [<-hwq] at hmq;have hfq:Fr l w wq:=by rw [hwq];exact HFP.out.drew
  have q7:wq.cell? ⟨sb,7,none⟩=some (.slice (some ⟨TB,0,none⟩) (n+1) ct'):=by rw [hwq];exact p7
  have qf7:=hmq.blk.frozen 7;have hltq:=hmq.blk.lt;have HMQ:=zh hmq;have HFQ:=zh hfq;clear hmq hfq HMP HFP p7 f7' hlt' hwq;go_wp2_with fail
  have htk:(HMQ.out.todo_:_)=HMQ.out.todo_:=rfl
  have hown6:wq.ownsRow lo 3 1 (.slice (some ⟨TB,0,none⟩) n ct') r.length (intsV r.reverse):=by
   have h:=own_take (m:=n) HMQ.out.todo_ (by simp;have:=HN.out;omega) (by simp);have e:(intsV (k1 :: r).reverse).take (n * 1)=intsV r.reverse:=by rw [HN.out];simp [intsV]
   rw [e] at h;rw [<-HN.out];exact h
  clear htk;have hm6:=SrM.todo1 HMQ.out (todo':=r) (v' := .slice (some ⟨TB,0,none⟩) n ct') none HMQ.out.blk HMQ.out.prog HMQ.out.text HMQ.out.now_ HMQ.out.next_ HMQ.out.seen_ (fun b hb e=>HMQ.out.d2 b hb e) hown6;obtain ⟨wx,hwx⟩:∃ wx,wx=wq.setCell ⟨sb,7,none⟩ (.slice (some ⟨TB,0,none⟩) n ct'):=⟨_,rfl⟩;rw [<-hwx];rw [<-hwx] at hm6;have hfx:Fr l w wx:=by rw [hwx];exact HFQ.out.setCell (hl1b sb (by rw [hl1];simp [srBlocks])) _
  have hb6:∀ b ∈ srBlocks sb P.1 xv (.slice (some ⟨SB,0,none⟩) L.length cs) (.slice (some ⟨TB,0,none⟩) n ct'),b ∈ l ∨ w.heap.size <= b:=fun b hb=>hl1b b (by rw [hl1];exact hb);obtain ⟨y,hy⟩:∃ y,ys[k1]?=some y:=⟨ys[k1]'(by rw [hm6.len];exact hk1),List.getElem?_eq_getElem _⟩;have hky:(intsV ys)[k1]?=some (.int .i64 (y:Int)):=by rw [intsV,List.getElem?_map,hy];rfl
  obtain ⟨SB',hSB,hSBl,hSBf,hcl⟩:=own_cells hm6.seen_ (by intro e;rw [e] at hky;cases hky)
  injection hSB with hSB;injection hSB with hSB
  subst hSB;have x6:wx.cell? ⟨sb,6,none⟩=some (.slice (some ⟨SB,0,none⟩) L.length cs):=hm6.blk.cell_ rfl;have x5:wx.cell? ⟨sb,5,none⟩=some (.int .i64 (stamp:Int)):=hm6.blk.cell_ rfl;have xk:=hcl k1 _ hky;have hvis:s1.vis.getD k1 false=(y == stamp):=by rw [hm6.vis,List.getD_eq_getElem?_getD,List.getElem?_map,hy];rfl
  obtain ⟨bt,hbt⟩:∃ bt:Bool,bt=(y == stamp):=⟨_,rfl⟩;rw [<-hbt] at hvis;have hlen:(k1:Int) < (L.length:Int):=by omega
  have hte:((y:Int) == (stamp:Int))=bt:=by rw [hbt,Bool.eq_iff_iff];simp;omega
  have HM6:=zh hm6;have HF6:=zh hfx;have HB6:=zh hb6;have HVI:=zh hvis;clear hm6 hfx hb6 hvis hy hky hcl hSBl hSBf hbt hown6 HMQ HFQ q7 qf7 hltq hwx hl1b hl1;refine wp_region_M_ (G:=fun a b=>a=b) (S:=fun W=>W=wx.drew) ⟨fun _=>rfl,fun a b c h k=>h.trans k,fun a b h k=>k ▸ h,by kernel_rfl,fun _ _ d _ _ h=>by cases d <;> exact h⟩ (by kernel_rfl) fun su=>?_
  have SU:=zh su;have HS:Hid (wx.drew=wx.drew):=zh rfl;clear su;refine M_m 0 SU.out HS.out ?_;simp only [PE];refine M_v 1 ?_ SU.out HS.out (fun W hS=>?_) ?_;rotate_left
  ·obtain rfl:=hS;go_simp;first | done | rfl | omega | (exact IntWalk.i64_in _ (by omega)) | (simp <;> omega)
  simp only [PU];refine M_v 2 ?_ SU.out HS.out (fun W hS=>?_) ?_;rotate_left
  ·obtain rfl:=hS;go_simp;first | done | rfl | omega | (exact IntWalk.i64_in _ (by omega)) | (simp <;> omega)
  simp only [PU];refine M_v 3 (.slice (some ⟨SB,0,none⟩) L.length cs) SU.out HS.out (fun W hS=>?_) ?_
  ·obtain rfl:=hS;go_simp;first | done | rfl | omega | (exact IntWalk.i64_in _ (by omega)) | (simp <;> omega)
  simp only [PU];refine M_m 4 SU.out HS.out ?_;simp only [PE];refine M_v 5 (.pointer (some ⟨SB,k1,none⟩)) SU.out HS.out (fun W hS=>?_) ?_
  ·obtain rfl:=hS;go_simp;first | done | rfl | omega | (exact IntWalk.i64_in _ (by omega)) | (simp <;> omega)
  simp only [PU];refine M_v 6 (.int .i64 (y:Int)) SU.out HS.out (fun W hS=>?_) ?_
  ·obtain rfl:=hS;go_simp;first | done | rfl | omega | (exact IntWalk.i64_in _ (by omega)) | (simp <;> omega)
  simp only [PU];refine M_m 7 SU.out HS.out ?_;simp only [PE];refine M_v 8 ?_ SU.out HS.out (fun W hS=>?_) ?_;rotate_left
  ·obtain rfl:=hS;go_simp;first | done | rfl | omega | (exact IntWalk.i64_in _ (by omega)) | (simp <;> omega)
  simp only [PU];refine M_v 9 ?_ SU.out HS.out (fun W hS=>?_) ?_;rotate_left
  ·obtain rfl:=hS;go_simp;first | done | rfl | omega | (exact IntWalk.i64_in _ (by omega)) | (simp <;> omega)
  simp only [PU];refine M_v 10 (.int .i64 (stamp:Int)) SU.out HS.out (fun W hS=>?_) ?_
  ·obtain rfl:=hS;go_simp;first | done | rfl | omega | (exact IntWalk.i64_in _ (by omega)) | (simp <;> omega)
  simp only [PU];refine M_v 11 (.bool bt) SU.out HS.out (fun W hS=>?_) ?_
  ·obtain rfl:=hS;go_simp;first | done | rfl | omega | (exact IntWalk.i64_in _ (by omega)) | (simp <;> omega)
  simp only [PU];refine wpAnyM_done (by kernel_rfl) (fun w' hG=>?_);obtain rfl:=hG;obtain ⟨wz,hwz⟩:∃ wz,wz=wx.drew:=⟨_,rfl⟩;rw [<-hwz];have hmz:=HM6.out.nil_ ((Fr.refl [] wx).drew);rw [<-hwz] at hmz;have hfz:Fr l w wz:=by rw [hwz];exact HF6.out.drew
  have HMZ:=zh hmz;have HFZ:=zh hfz;clear hmz hfz hwz HM6 HF6 x6 x5 xk SU HS hte;have hL0:0 < L.length:=by omega
  cases bt with
  | true=>
   go_wp2_with fail
   go_roundw
   case rel=>exact (StRel.skip HME.out HST.out hf hf2 htd hnx1 HVI.out hL0 (SrOut.mk_ HMZ.out HFZ.out HB6.out)).1
   case measure=>exact (StRel.skip HME.out HST.out hf hf2 htd hnx1 HVI.out hL0 (SrOut.mk_ HMZ.out HFZ.out HB6.out)).2
  | false=>
   go_upto_region 5 with fail
   obtain ⟨wd,hwd⟩:∃ wd,wd=wz.drew:=⟨_,rfl⟩;have hmd:=HMZ.out.nil_ ((Fr.refl [] wz).drew);rw [<-hwd] at hmd;have hfd:Fr l w wd:=by rw [hwd];exact HFZ.out.drew
   have z6:wd.cell? ⟨sb,6,none⟩=some (.slice (some ⟨SB,0,none⟩) L.length cs):=hmd.blk.cell_ rfl;have z5:wd.cell? ⟨sb,5,none⟩=some (.int .i64 (stamp:Int)):=hmd.blk.cell_ rfl;obtain ⟨-, curS,hcS⟩:=own_base hmd.seen_ SB rfl;have zf:=hcS.frozen k1
   have zk:∃ u,wd.cell? ⟨SB,k1,none⟩=some u:=by
    obtain ⟨y,hy⟩:∃ y,(intsV ys)[k1]?=some y:=⟨(intsV ys)[k1]'(by rw [intsV,List.length_map,hmd.len];exact hk1),List.getElem?_eq_getElem _⟩;obtain ⟨SB',hSB,hSBl,hSBf,hcl⟩:=own_cells hmd.seen_ (by intro e;rw [e] at hy;cases hy)
    injection hSB with hSB;injection hSB with hSB
    subst hSB;exact ⟨y,hcl k1 _ hy⟩
   obtain ⟨uk,zk⟩:=zk;have zl:=hcS.lt;have HMD:=zh hmd;have HFD:=zh hfd;clear hmd hfd hcS HMZ HFZ;refine wp_region_F_ (G:=fun a b=>a=b) (F:=fun i=>i == 10) (S:=fun W=>W=wd) ⟨fun _=>rfl,fun a b c h k=>h.trans k,fun a b h k=>k ▸ h,by kernel_rfl,fun _ _ d _ _ h=>by cases d <;> exact h⟩ (by kernel_rfl) fun su=>?_
   have SU:=zh su;rw [<-hwd];have HS:Hid (wd=wd):=zh rfl;clear su hwd;refine F_m 0 SU.out HS.out ?_;simp only [PE];refine F_v 1 ?_ SU.out HS.out (fun W hS=>?_) ?_;rotate_left
   ·obtain rfl:=hS;go_simp;first | done | rfl | omega | (exact IntWalk.i64_in _ (by omega)) | (simp <;> omega)
   simp only [PU];refine F_v 2 ?_ SU.out HS.out (fun W hS=>?_) ?_;rotate_left
   ·obtain rfl:=hS;go_simp;first | done | rfl | omega | (exact IntWalk.i64_in _ (by omega)) | (simp <;> omega)
   simp only [PU];refine F_v 3 (.slice (some ⟨SB,0,none⟩) L.length cs) SU.out HS.out (fun W hS=>?_) ?_
   ·obtain rfl:=hS;go_simp;first | done | rfl | omega | (exact IntWalk.i64_in _ (by omega)) | (simp <;> omega)
   simp only [PU];refine F_m 4 SU.out HS.out ?_;simp only [PE];refine F_m 5 SU.out HS.out ?_;simp only [PE];refine F_v 6 ?_ SU.out HS.out (fun W hS=>?_) ?_;rotate_left
   ·obtain rfl:=hS;go_simp;first | done | rfl | omega | (exact IntWalk.i64_in _ (by omega)) | (simp <;> omega)
   simp only [PU];refine F_v 7 ?_ SU.out HS.out (fun W hS=>?_) ?_;rotate_left
   ·obtain rfl:=hS;go_simp;first | done | rfl | omega | (exact IntWalk.i64_in _ (by omega)) | (simp <;> omega)
   simp only [PU];refine F_v 8 (.int .i64 (stamp:Int)) SU.out HS.out (fun W hS=>?_) ?_
   ·obtain rfl:=hS;go_simp;first | done | rfl | omega | (exact IntWalk.i64_in _ (by omega)) | (simp <;> omega)
   simp only [PU];refine F_v 9 (.pointer (some ⟨SB,k1,none⟩)) SU.out HS.out (fun W hS=>?_) ?_
   ·obtain rfl:=hS;go_simp;first | done | rfl | omega | (exact IntWalk.i64_in _ (by omega)) | (simp <;> omega)
   simp only [PU];refine wpAnyF_all (rs:=[10]) (by kernel_rfl) (by simp) (fun w' hG=>?_);obtain rfl:=hG;refine allF.head rfl rfl (fun K9 hK9=>?_) allF.nil;go_simp;refine hK9.out _ _ (.inl rfl) ?_;clear hK9 K9;refine wpAnyF_done (by kernel_rfl) (fun w' hG=>?_);obtain rfl:=hG;obtain ⟨hmy,-⟩:=HMD.out.see1 hk1;have hfy:=HFD.out.setCell (p:=⟨SB,k1,none⟩) (HB6.out SB (by simp [srBlocks,Value.ownBlock])) (.int .i64 (stamp:Int));obtain ⟨wy,hwy⟩:∃ wy,wy=wd.setCell ⟨SB,k1,none⟩ (.int .i64 (stamp:Int)):=⟨_,rfl⟩;rw [<-hwy] at hmy hfy ⊢; have HMY:=zh hmy;have HFY:=zh hfy;clear hmy hfy hwy SU HS HMD HFD z6 z5 zf zk zl;obtain ⟨XA,xc,rfl⟩:=own_any HMY.out.next_;obtain ⟨sp,hsp⟩:∃ sp,sp=spAt L k1:=⟨_,rfl⟩;have hget:L[k1]?=some sp:=by rw [hsp];exact spAt_get hk1
   obtain ⟨⟨hk0,hk4⟩,⟨hx0,hx1⟩,⟨hy0,hy1⟩,-⟩:=HOK.out.at_ hk1;rw [<-hsp] at hk0 hk4 hx0 hx1 hy0 hy1;obtain ⟨X,hX⟩:∃ X:Nat,sp.x=(X:Int):=⟨sp.x.toNat,by omega⟩;obtain ⟨Y,hY⟩:∃ Y:Nat,sp.y=(Y:Int):=⟨sp.y.toNat,by omega⟩;have hXt:sp.x.toNat=X:=by omega
   have hYt:sp.y.toNat=Y:=by omega
   have hne:L.flatMap Sp.cells ≠ []:=fun e=>by have h7:=flat_len sp_len L;rw [e] at h7;simp at h7;omega
   obtain ⟨AB,hAB,-, -, hcl⟩:=own_cells HMY.out.prog hne;subst hAB;have p0:wy.cell? ⟨AB,k1 * 7,none⟩=some (.int .i64 sp.k):=hcl (k1 * 7) _ (by have h:=flat_at sp_len sp 0 (by omega) L k1 hget;rw [Nat.add_zero] at h;rw [h];rfl);have p5:wy.cell? ⟨AB,k1 * 7+5,none⟩=some (.int .i64 (X:Int)):=hcl (k1 * 7+5) _ ((flat_at sp_len sp 5 (by omega) L k1 hget).trans (by rw [<-hX];rfl));have p6:wy.cell? ⟨AB,k1 * 7+6,none⟩=some (.int .i64 (Y:Int)):=hcl (k1 * 7+6) _ ((flat_at sp_len sp 6 (by omega) L k1 hget).trans (by rw [<-hY];rfl));obtain ⟨N,hN⟩:∃ N,N=s1.next.length:=⟨_,rfl⟩;have hmN:=HMY.out;have eN:(s1.see k1).next.length=N:=hN.symm;rw [eN] at hmN;have HMY:=zh hmN;have hbN:=HB6.out;rw [eN] at hbN;have HB6:=zh hbN;clear hmN eN hbN;have y0:wy.cell? ⟨sb,0,none⟩=some (.slice (some ⟨AB,0,none⟩) L.length c'):=HMY.out.blk.cell_ rfl;have y1:wy.cell? ⟨sb,1,none⟩=some (.slice A2' tx.length c2'):=HMY.out.blk.cell_ rfl;have y2:wy.cell? ⟨sb,2,none⟩=some (.bool opn):=HMY.out.blk.cell_ rfl;have y4:wy.cell? ⟨sb,4,none⟩=some (.slice XA N xc):=HMY.out.blk.cell_ rfl;have y7:wy.cell? ⟨sb,7,none⟩=some (.slice (some ⟨TB,0,none⟩) n ct'):=HMY.out.blk.cell_ rfl;have y8:wy.cell? ⟨sb,8,none⟩=some (.int .i64 s0'):=HMY.out.blk.cell_ rfl;have y9:wy.cell? ⟨sb,9,none⟩=some (.int .i64 en'):=HMY.out.blk.cell_ rfl;have y10:wy.cell? ⟨sb,10,none⟩=some (.bool s1.fd.isSome):=HMY.out.blk.cell_ rfl;have g4:=HMY.out.blk.frozen 4;have g7:=HMY.out.blk.frozen 7;have hlty:=HMY.out.blk.lt;have hvl:s1.vis.length=L.length:=by have:=(SrOut.mk_ HMY.out HFY.out (fun b hb=>HB6.out b hb)).vlen;simpa [Sr.see] using this
   have hNb:N <= 5000:=by omega
   have hsz:lo <= wy.heap.size:=by have:=HFY.out.size;omega
   have HXX:Hid ((spAt L k1).x=(X:Int)):=zh (by rw [<-hsp];exact hX);have HYY:Hid ((spAt L k1).y=(Y:Int)):=zh (by rw [<-hsp];exact hY);have hnb2:n <= 20000:=by omega
   have HSP:=zh hsp;have HX:=zh hXt;have HY:=zh hYt;have HNN:=zh hN;have HVL:=zh hvl;obtain ⟨i1,hi1,hy1',hy2',hy3'⟩:=thParts;have hkk:sp.k=0 ∨ sp.k=1 ∨ sp.k=2 ∨ sp.k=3 ∨ sp.k=4:=by omega
   clear hsp hget hk0 hk4 hx0 hx1 hy0 hy1 hX hY hXt hYt hne hcl hN hvl;rcases hkk with hk | hk | hk | hk | hk
   ·rw [hk] at p0;have HK:=zh hk;clear hk
    as_aux_lemma=>
     have HT:Hid (metT (spAt L k1) tx.length opn a ++ r=r):=zh (by rw [<-HSP.out];simp [metT,HK.out]);have HS2:Hid (metS (spAt L k1) tx.length opn st a k1 (s1.see k1)=(s1.see k1).put k1 st):=zh (by rw [<-HSP.out];simp [metS,HK.out]);go_wp2_with (at_builtin;refine wpList_append_R rfl (.tmp 191) (.tmp 195) 164 rfl lo 199 i1 _ 2 16 underlying164 hi1 hy1' hy2' hy3' rfl (by omega) (.slice XA N xc) N (thV s1.next) (by first | rfl | simp [Act.eval]) (by have h:=HMY.out.next_;have e:(s1.see k1).next.length=N:=HNN.out.symm;rw [e] at h;exact own_keep h (KeepB.of_nil ((Fr.refl [] wy).alloc _))) ⟨wy.heap.size,0,none⟩ 1 1 [.int .i64 (k1:Int),.int .i64 (st:Int)] (by first | rfl | simp [Act.eval]) rfl (two_new wy 199 _ _) (by simp [Value.oneCell']) (by unfold maxLen;omega) (by omega) (by simp;omega) ?_;intro v' w4 hown4 hgr hat4;obtain ⟨A4,c4,rfl⟩:=own_any hown4;have hb4:=HMY.out.blk4 ((Fr.refl [] wy).alloc _) hgr;have d4:w4.cell? ⟨sb,4,none⟩=some (.slice XA N xc):=hb4.cell_ rfl;have d4g:=hb4.frozen 4;have hlt4:=hb4.lt;have HGR:=zh hgr;have HOWN4:=zh hown4;have HAT:=zh hat4;clear hown4 hgr hat4 hb4)
     have HO:Hid (SrOut lo w sb l L tx opn P r stamp ((s1.see k1).put k1 st) (w4.setCell ⟨sb,4,none⟩ (.slice A4 (N+1) c4))):=zh ((HMY.out.puts ((Fr.refl [] wy).alloc _) (by have h:=HOWN4.out;have e:(s1.see k1).next.length=N:=HNN.out.symm;rw [e];exact h) HGR.out HAT.out).on HFY.out HB6.out);go_roundw
     case rel=>exact (StRel.next HME.out HST.out hf hf2 htd hnx1 HVI.out HVL.out HOK.out HT.out HS2.out HO.out).1
     case measure=>exact (StRel.next HME.out HST.out hf hf2 htd hnx1 HVI.out HVL.out HOK.out HT.out HS2.out HO.out).2
   ·rw [hk] at p0;have HK:=zh hk;clear hk
    as_aux_lemma=>
     have HT:Hid (metT (spAt L k1) tx.length opn a ++ r=X :: Y :: r):=zh (by rw [<-HSP.out];simp [metT,HK.out,HX.out,HY.out]);have HS2:Hid (metS (spAt L k1) tx.length opn st a k1 (s1.see k1)=s1.see k1):=zh (by rw [<-HSP.out];simp [metS,HK.out]);go_upto_region 9 with fail
     refine wp_region_F_ (G:=fun a b=>a=b) (F:=fun i=>i == 17) (S:=fun W=>W.cell? ⟨sb,7,none⟩=some (.slice (some ⟨TB,0,none⟩) n ct')/\W.cell? ⟨AB,k1 * 7+5,none⟩=some (.int .i64 (X:Int))/\W.cell? ⟨AB,k1 * 7+6,none⟩=some (.int .i64 (Y:Int))) ⟨fun _=>rfl,fun a b c h k=>h.trans k,fun a b h k=>k ▸ h,by kernel_rfl,fun _ _ d _ _ h=>by cases d <;> exact h⟩ (by kernel_rfl) fun su=>?_
     have SU:=zh su;obtain ⟨wd,hwd⟩:∃ wd,wd=wy.drew:=⟨_,rfl⟩;rw [<-hwd];have hmd:=HMY.out.nil_ ((Fr.refl [] wy).drew);rw [<-hwd] at hmd;have hfd:Fr l w wd:=by rw [hwd];exact HFY.out.drew
     have HMD:=zh hmd;have HFD:=zh hfd;have HS:=zh (HMD.out.xy hk1 HXX.out HYY.out);have hlod:lo <= wd.heap.size:=by rw [hwd];exact hsz
     clear su hwd hmd hfd;refine F_m 0 SU.out HS.out ?_;simp only [PE];refine F_m 1 SU.out HS.out ?_;simp only [PE];refine F_v 2 ?_ SU.out HS.out (fun W hS=>?_) ?_;rotate_left
     ·obtain ⟨t7,t5,t6⟩:=hS;go_simp;first | done | rfl | omega | (exact IntWalk.i64_in _ (by omega)) | (simp <;> omega)
     simp only [PU];refine F_v 3 ?_ SU.out HS.out (fun W hS=>?_) ?_;rotate_left
     ·obtain ⟨t7,t5,t6⟩:=hS;go_simp;first | done | rfl | omega | (exact IntWalk.i64_in _ (by omega)) | (simp <;> omega)
     simp only [PU];refine F_v 4 (.slice (some ⟨TB,0,none⟩) n ct') SU.out HS.out (fun W hS=>?_) ?_
     ·obtain ⟨t7,t5,t6⟩:=hS;go_simp;first | done | rfl | omega | (exact IntWalk.i64_in _ (by omega)) | (simp <;> omega)
     simp only [PU];refine F_m 5 SU.out HS.out ?_;simp only [PE];refine F_v 6 ?_ SU.out HS.out (fun W hS=>?_) ?_;rotate_left
     ·obtain ⟨t7,t5,t6⟩:=hS;go_simp;first | done | rfl | omega | (exact IntWalk.i64_in _ (by omega)) | (simp <;> omega)
     simp only [PU];refine F_v 7 ?_ SU.out HS.out (fun W hS=>?_) ?_;rotate_left
     ·obtain ⟨t7,t5,t6⟩:=hS;go_simp;first | done | rfl | omega | (exact IntWalk.i64_in _ (by omega)) | (simp <;> omega)
     simp only [PU];refine F_v 8 (.int .i64 (Y:Int)) SU.out HS.out (fun W hS=>?_) ?_
     ·obtain ⟨t7,t5,t6⟩:=hS;go_simp;first | done | rfl | omega | (exact IntWalk.i64_in _ (by omega)) | (simp <;> omega)
     simp only [PU];refine F_m 9 SU.out HS.out ?_;simp only [PE];refine F_v 10 ?_ SU.out HS.out (fun W hS=>?_) ?_;rotate_left
     ·obtain ⟨t7,t5,t6⟩:=hS;go_simp;first | done | rfl | omega | (exact IntWalk.i64_in _ (by omega)) | (simp <;> omega)
     simp only [PU];refine F_v 11 ?_ SU.out HS.out (fun W hS=>?_) ?_;rotate_left
     ·obtain ⟨t7,t5,t6⟩:=hS;go_simp;first | done | rfl | omega | (exact IntWalk.i64_in _ (by omega)) | (simp <;> omega)
     simp only [PU];refine F_v 12 (.int .i64 (X:Int)) SU.out HS.out (fun W hS=>?_) ?_
     ·obtain ⟨t7,t5,t6⟩:=hS;go_simp;first | done | rfl | omega | (exact IntWalk.i64_in _ (by omega)) | (simp <;> omega)
     simp only [PU];refine wpAnyF_all (rs:=[13]) (by kernel_rfl) (by simp) (fun w' hG=>?_);obtain rfl:=hG;refine allF.head rfl rfl (fun K6 hK6=>?_) allF.nil;go_simp;refine hK6.out _ _ (.inr ((HMD.out.nil_ ((Fr.refl [] wd).alloc _)).xy hk1 HXX.out HYY.out)) ?_;clear hK6 K6;refine wpAnyF_all (rs:=[14]) (by kernel_rfl) (by simp) (fun w' hG=>?_);obtain rfl:=hG;refine allF.head rfl rfl (fun K7 hK7=>?_) allF.nil;refine wp_append_R (.tmp 90) (.tmp 99) 165 rfl lo 3 i0 _ 1 8 underlying165 hi0 hz0 hz1 hz2 rfl (by omega) (.slice (some ⟨TB,0,none⟩) n ct') n (intsV r.reverse) (by first | rfl | simp [Act.eval]) (by have h:=HMD.out.todo_;rw [<-HN.out] at h;exact own_keep h (KeepB.of_nil ((Fr.refl [] wd).alloc _))) ⟨wd.heap.size,0,none⟩ 2 2 [.int .i64 (Y:Int),.int .i64 (X:Int)] (by first | rfl | simp [Act.eval]) rfl (two_new wd 3 _ _) (by simp [Value.oneCell']) (by unfold maxLen;omega) (by omega) (by simp;omega) ?_;intro v' w4 hown4 hgr hat4;obtain ⟨A4,c4,rfl⟩:=own_any hown4;have HS4:=zh (HMD.out.xy4 ((Fr.refl [] wd).alloc _) hgr hk1 HXX.out HYY.out);have hb4:=HMD.out.blk7 ((Fr.refl [] wd).alloc _) hgr;have d7:=HS4.out.1;have dg7:=hb4.frozen 7;have hlt4:=hb4.lt;have elen:(X :: Y :: r).length=n+2:=by rw [HN.out];rfl
     have hown5:w4.ownsRow lo 3 1 (.slice A4 (n+2) c4) (X :: Y :: r).length (intsV (X :: Y :: r).reverse):=by rw [intsV_push2,elen];exact hown4
     have HO:Hid (SrOut lo w sb l L tx opn P (X :: Y :: r) stamp (s1.see k1) (w4.setCell ⟨sb,7,none⟩ (.slice A4 (n+2) c4))):=zh ((HMD.out.push (todo':=X :: Y :: r) ((Fr.refl [] wd).alloc _) hown5 hgr hat4).on HFD.out HB6.out);clear elen hown5;clear hown4 hgr hat4 hb4;refine hK7.out _ _ (.inr HS4.out) ?_;clear hK7 K7;simp only [PU];refine wpAnyF_all (rs:=[15]) (by kernel_rfl) (by simp) (fun w' hG=>?_);obtain rfl:=hG;refine allF.head rfl rfl (fun K9 hK9=>?_) allF.nil;go_simp;refine hK9.out _ _ (.inr HS4.out) ?_;clear hK9 K9;refine wpAnyF_all (rs:=[16]) (by kernel_rfl) (by simp) (fun w' hG=>?_);obtain rfl:=hG;refine allF.head rfl rfl (fun K9 hK9=>?_) allF.nil;go_simp;refine hK9.out _ _ (.inr HS4.out) ?_;clear hK9 K9;refine wpAnyF_all (rs:=[17]) (by kernel_rfl) (by simp) (fun w' hG=>?_);obtain rfl:=hG;refine allF.head rfl rfl (fun K9 hK9=>?_) allF.nil;go_simp;refine hK9.out _ _ (.inl rfl) ?_;clear hK9 K9;refine wpAnyF_done (by kernel_rfl) (fun w' hG=>?_);obtain rfl:=hG;clear SU HS HS4 d7 dg7 hlt4;go_wp2_with fail
     go_roundw
     case rel=>exact (StRel.next HME.out HST.out hf hf2 htd hnx1 HVI.out HVL.out HOK.out HT.out HS2.out HO.out).1
     case measure=>exact (StRel.next HME.out HST.out hf hf2 htd hnx1 HVI.out HVL.out HOK.out HT.out HS2.out HO.out).2
   ·rw [hk] at p0;have HK:=zh hk;clear hk
    as_aux_lemma=>
     by_cases hwt:opn=true/\a=tx.length
     ·as_aux_lemma=>
       obtain ⟨hop,hal⟩:=hwt;rw [hop] at y2;have HBO:=zh hop;clear hop;have hq1:((a:Int) == (tx.length:Int))=true:=by simp;omega
       by_cases ha0:a=0
       ·as_aux_lemma=>
         have hq0:((a:Int) == 0)=true:=by simp;omega
         have HT:Hid (metT (spAt L k1) tx.length opn a ++ r=X :: r):=zh (by rw [<-HSP.out];simp [metT,HK.out,HX.out,HY.out,ha0,<-hal,HBO.out]);have HS2:Hid (metS (spAt L k1) tx.length opn st a k1 (s1.see k1)=(s1.see k1).put k1 st):=zh (by rw [<-HSP.out];simp [metS,HK.out,ha0,<-hal,HBO.out]);clear hal ha0;go_upto_region 14 with (at_builtin;refine wpList_append_R rfl (.tmp 122) (.tmp 126) 164 rfl lo 199 i1 _ 2 16 underlying164 hi1 hy1' hy2' hy3' rfl (by omega) (.slice XA N xc) N (thV s1.next) (by first | rfl | simp [Act.eval]) (by have h:=HMY.out.next_;have e:(s1.see k1).next.length=N:=HNN.out.symm;rw [e] at h;exact own_keep h (KeepB.of_nil ((Fr.refl [] wy).alloc _))) ⟨wy.heap.size,0,none⟩ 1 1 [.int .i64 (k1:Int),.int .i64 (st:Int)] (by first | rfl | simp [Act.eval]) rfl (two_new wy 199 _ _) (by simp [Value.oneCell']) (by unfold maxLen;omega) (by omega) (by simp;omega) ?_;intro v' w4 hown4 hgr hat4;obtain ⟨A4,c4,rfl⟩:=own_any hown4;have hb4:=HMY.out.blk4 ((Fr.refl [] wy).alloc _) hgr;have d4:w4.cell? ⟨sb,4,none⟩=some (.slice XA N xc):=hb4.cell_ rfl;have d4g:=hb4.frozen 4;have hlt4:=hb4.lt;have HGR:=zh hgr;have HOWN4:=zh hown4;have HAT:=zh hat4;clear hown4 hgr hat4 hb4)
         have hpm:=HMY.out.puts2 (v' := .slice A4 (N+1) c4) (k:=k1) (b0:=st) ((Fr.refl [] wy).alloc _) (by have h:=HOWN4.out;have e:(s1.see k1).next.length=N:=HNN.out.symm;rw [e];exact h) HGR.out HAT.out;obtain ⟨w5,hw5⟩:∃ w5,w5=w4.setCell ⟨sb,4,none⟩ (.slice A4 (N+1) c4):=⟨_,rfl⟩;rw [<-hw5];rw [<-hw5] at hpm;have HM5:=zh hpm.1;have HF5:Hid (Fr l w w5):=zh (HFY.out.trans' hpm.2.1 HB6.out)
         have HB5:Hid (∀ b ∈ srBlocks sb P.1 (.slice A4 (N+1) c4) (.slice (some ⟨SB,0,none⟩) L.length cs) (.slice (some ⟨TB,0,none⟩) n ct'),b ∈ l ∨ w.heap.size <= b):=zh (fun b hb=>by
          rcases hpm.2.2 b hb with h | h
          ·exact HB6.out b h
          exact .inr (Nat.le_trans HFY.out.size h))
         have hsz5:lo <= w5.heap.size:=by have:=HF5.out.size;omega
         have x7:w5.cell? ⟨sb,7,none⟩=some (.slice (some ⟨TB,0,none⟩) n ct'):=HM5.out.blk.cell_ rfl;have hlt5:=HM5.out.blk.lt;clear hpm hw5 d4 d4g hlt4 HGR HOWN4 HAT;refine wp_region_F_ (G:=fun a b=>a=b) (F:=fun i=>i == 13) (S:=fun W=>W.cell? ⟨sb,7,none⟩=some (.slice (some ⟨TB,0,none⟩) n ct')/\W.cell? ⟨AB,k1 * 7+5,none⟩=some (.int .i64 (X:Int))/\W.cell? ⟨AB,k1 * 7+6,none⟩=some (.int .i64 (Y:Int))) ⟨fun _=>rfl,fun a b c h k=>h.trans k,fun a b h k=>k ▸ h,by kernel_rfl,fun _ _ d _ _ h=>by cases d <;> exact h⟩ (by kernel_rfl) fun su=>?_
         have SU:=zh su;obtain ⟨wd,hwd⟩:∃ wd,wd=w5.drew:=⟨_,rfl⟩;rw [<-hwd];have hmd:=HM5.out.nil_ ((Fr.refl [] w5).drew);rw [<-hwd] at hmd;have hfd:Fr l w wd:=by rw [hwd];exact HF5.out.drew
         have HMD:=zh hmd;have HFD:=zh hfd;have HS:=zh (HMD.out.xy hk1 HXX.out HYY.out);have hlod:lo <= wd.heap.size:=by rw [hwd];exact hsz5
         clear su hwd hmd hfd;refine F_m 0 SU.out HS.out ?_;simp only [PE];refine F_m 1 SU.out HS.out ?_;simp only [PE];refine F_v 2 ?_ SU.out HS.out (fun W hS=>?_) ?_;rotate_left
         ·obtain ⟨t7,t5,t6⟩:=hS;go_simp;first | done | rfl | omega | (exact IntWalk.i64_in _ (by omega)) | (simp <;> omega)
         simp only [PU];refine F_v 3 ?_ SU.out HS.out (fun W hS=>?_) ?_;rotate_left
         ·obtain ⟨t7,t5,t6⟩:=hS;go_simp;first | done | rfl | omega | (exact IntWalk.i64_in _ (by omega)) | (simp <;> omega)
         simp only [PU];refine F_v 4 (.slice (some ⟨TB,0,none⟩) n ct') SU.out HS.out (fun W hS=>?_) ?_
         ·obtain ⟨t7,t5,t6⟩:=hS;go_simp;first | done | rfl | omega | (exact IntWalk.i64_in _ (by omega)) | (simp <;> omega)
         simp only [PU];refine F_m 5 SU.out HS.out ?_;simp only [PE];refine F_v 6 ?_ SU.out HS.out (fun W hS=>?_) ?_;rotate_left
         ·obtain ⟨t7,t5,t6⟩:=hS;go_simp;first | done | rfl | omega | (exact IntWalk.i64_in _ (by omega)) | (simp <;> omega)
         simp only [PU];refine F_v 7 ?_ SU.out HS.out (fun W hS=>?_) ?_;rotate_left
         ·obtain ⟨t7,t5,t6⟩:=hS;go_simp;first | done | rfl | omega | (exact IntWalk.i64_in _ (by omega)) | (simp <;> omega)
         simp only [PU];refine F_v 8 (.int .i64 (X:Int)) SU.out HS.out (fun W hS=>?_) ?_
         ·obtain ⟨t7,t5,t6⟩:=hS;go_simp;first | done | rfl | omega | (exact IntWalk.i64_in _ (by omega)) | (simp <;> omega)
         simp only [PU];refine wpAnyF_all (rs:=[9]) (by kernel_rfl) (by simp) (fun w' hG=>?_);obtain rfl:=hG;refine allF.head rfl rfl (fun K6 hK6=>?_) allF.nil;go_simp;refine hK6.out _ _ (.inr ((HMD.out.nil_ ((Fr.refl [] wd).alloc _)).xy hk1 HXX.out HYY.out)) ?_;clear hK6 K6;refine wpAnyF_all (rs:=[10]) (by kernel_rfl) (by simp) (fun w' hG=>?_);obtain rfl:=hG;refine allF.head rfl rfl (fun K7 hK7=>?_) allF.nil;refine wp_append_R (.tmp 136) (.tmp 141) 165 rfl lo 3 i0 _ 1 8 underlying165 hi0 hz0 hz1 hz2 rfl (by omega) (.slice (some ⟨TB,0,none⟩) n ct') n (intsV r.reverse) (by first | rfl | simp [Act.eval]) (by have h:=HMD.out.todo_;rw [<-HN.out] at h;exact own_keep h (KeepB.of_nil ((Fr.refl [] wd).alloc _))) ⟨wd.heap.size,0,none⟩ 1 1 [.int .i64 (X:Int)] (by first | rfl | simp [Act.eval]) rfl (one_new_ wd 3 _) (by simp [Value.oneCell']) (by unfold maxLen;omega) (by omega) (by simp;omega) ?_;intro v' w4 hown4 hgr hat4;obtain ⟨A4,c4,rfl⟩:=own_any hown4;have HS4:=zh (HMD.out.xy4 ((Fr.refl [] wd).alloc _) hgr hk1 HXX.out HYY.out);have hb4:=HMD.out.blk7 ((Fr.refl [] wd).alloc _) hgr;have d7:=HS4.out.1;have dg7:=hb4.frozen 7;have hlt4:=hb4.lt;have elen:(X :: r).length=n+1:=by rw [HN.out];rfl
         have hown5:w4.ownsRow lo 3 1 (.slice A4 (n+1) c4) (X :: r).length (intsV (X :: r).reverse):=by rw [intsV_push1,elen];exact hown4
         have HO:Hid (SrOut lo w sb l L tx opn P (X :: r) stamp ((s1.see k1).put k1 st) (w4.setCell ⟨sb,7,none⟩ (.slice A4 (n+1) c4))):=zh ((HMD.out.push (todo':=X :: r) ((Fr.refl [] wd).alloc _) hown5 hgr hat4).on HFD.out HB5.out);clear elen hown5;clear hown4 hgr hat4 hb4;refine hK7.out _ _ (.inr HS4.out) ?_;clear hK7 K7;simp only [PU];refine wpAnyF_all (rs:=[11]) (by kernel_rfl) (by simp) (fun w' hG=>?_);obtain rfl:=hG;refine allF.head rfl rfl (fun K9 hK9=>?_) allF.nil;go_simp;refine hK9.out _ _ (.inr HS4.out) ?_;clear hK9 K9;refine wpAnyF_all (rs:=[12]) (by kernel_rfl) (by simp) (fun w' hG=>?_);obtain rfl:=hG;refine allF.head rfl rfl (fun K9 hK9=>?_) allF.nil;go_simp;refine hK9.out _ _ (.inr HS4.out) ?_;clear hK9 K9;refine wpAnyF_all (rs:=[13]) (by kernel_rfl) (by simp) (fun w' hG=>?_);obtain rfl:=hG;refine allF.head rfl rfl (fun K9 hK9=>?_) allF.nil;go_simp;refine hK9.out _ _ (.inl rfl) ?_;clear hK9 K9;refine wpAnyF_done (by kernel_rfl) (fun w' hG=>?_);obtain rfl:=hG;clear SU HS HS4 d7 dg7 hlt4;go_wp2_with fail
         go_roundw
         case rel=>exact (StRel.next HME.out HST.out hf hf2 htd hnx1 HVI.out HVL.out HOK.out HT.out HS2.out HO.out).1
         case measure=>exact (StRel.next HME.out HST.out hf hf2 htd hnx1 HVI.out HVL.out HOK.out HT.out HS2.out HO.out).2
       as_aux_lemma=>
        have hq0:((a:Int) == 0)=false:=by simp;omega
        have HT:Hid (metT (spAt L k1) tx.length opn a ++ r=r):=zh (by rw [<-HSP.out];simp [metT,HK.out,HX.out,HY.out,ha0,<-hal,HBO.out]);have HS2:Hid (metS (spAt L k1) tx.length opn st a k1 (s1.see k1)=(s1.see k1).put k1 st):=zh (by rw [<-HSP.out];simp [metS,HK.out,ha0,<-hal,HBO.out]);clear hal ha0;go_wp2_with (at_builtin;refine wpList_append_R rfl (.tmp 122) (.tmp 126) 164 rfl lo 199 i1 _ 2 16 underlying164 hi1 hy1' hy2' hy3' rfl (by omega) (.slice XA N xc) N (thV s1.next) (by first | rfl | simp [Act.eval]) (by have h:=HMY.out.next_;have e:(s1.see k1).next.length=N:=HNN.out.symm;rw [e] at h;exact own_keep h (KeepB.of_nil ((Fr.refl [] wy).alloc _))) ⟨wy.heap.size,0,none⟩ 1 1 [.int .i64 (k1:Int),.int .i64 (st:Int)] (by first | rfl | simp [Act.eval]) rfl (two_new wy 199 _ _) (by simp [Value.oneCell']) (by unfold maxLen;omega) (by omega) (by simp;omega) ?_;intro v' w4 hown4 hgr hat4;obtain ⟨A4,c4,rfl⟩:=own_any hown4;have hb4:=HMY.out.blk4 ((Fr.refl [] wy).alloc _) hgr;have d4:w4.cell? ⟨sb,4,none⟩=some (.slice XA N xc):=hb4.cell_ rfl;have d4g:=hb4.frozen 4;have hlt4:=hb4.lt;have HGR:=zh hgr;have HOWN4:=zh hown4;have HAT:=zh hat4;clear hown4 hgr hat4 hb4)
        have HO:Hid (SrOut lo w sb l L tx opn P r stamp ((s1.see k1).put k1 st) (w4.setCell ⟨sb,4,none⟩ (.slice A4 (N+1) c4))):=zh ((HMY.out.puts ((Fr.refl [] wy).alloc _) (by have h:=HOWN4.out;have e:(s1.see k1).next.length=N:=HNN.out.symm;rw [e];exact h) HGR.out HAT.out).on HFY.out HB6.out);go_roundw
        case rel=>exact (StRel.next HME.out HST.out hf hf2 htd hnx1 HVI.out HVL.out HOK.out HT.out HS2.out HO.out).1
        case measure=>exact (StRel.next HME.out HST.out hf hf2 htd hnx1 HVI.out HVL.out HOK.out HT.out HS2.out HO.out).2
     as_aux_lemma=>
      have HWT:=zh hwt;have HS2:Hid (metS (spAt L k1) tx.length opn st a k1 (s1.see k1)=s1.see k1):=zh (by rw [<-HSP.out];simp [metS,HK.out];intro e1 e2;exact absurd ⟨e1,e2⟩ hwt)
      have hq2:(if opn=true then ((a:Int) == (tx.length:Int)) else false)=false:=by
       by_cases e:opn=true
       ·have:a ≠ tx.length:=fun e2=>hwt ⟨e,e2⟩;rw [if_pos e];simp;omega
       rw [if_neg e]
      obtain ⟨bo,hbo⟩:∃ bo,bo=opn:=⟨_,rfl⟩;rw [<-hbo] at y2 hq2;have HBO:=zh hbo;clear hbo hwt;by_cases ha0:a=0
      ·as_aux_lemma=>
        have hq0:((a:Int) == 0)=true:=by simp;omega
        have HT:Hid (metT (spAt L k1) tx.length opn a ++ r=X :: r):=zh (by rw [<-HSP.out];simp [metT,HK.out,HX.out,HY.out,ha0]);have HAA:=zh ha0;clear ha0
        cases bo with
        | false=>
         go_upto_region 14 with fail
         refine wp_region_F_ (G:=fun a b=>a=b) (F:=fun i=>i == 13) (S:=fun W=>W.cell? ⟨sb,7,none⟩=some (.slice (some ⟨TB,0,none⟩) n ct')/\W.cell? ⟨AB,k1 * 7+5,none⟩=some (.int .i64 (X:Int))/\W.cell? ⟨AB,k1 * 7+6,none⟩=some (.int .i64 (Y:Int))) ⟨fun _=>rfl,fun a b c h k=>h.trans k,fun a b h k=>k ▸ h,by kernel_rfl,fun _ _ d _ _ h=>by cases d <;> exact h⟩ (by kernel_rfl) fun su=>?_
         have SU:=zh su;obtain ⟨wd,hwd⟩:∃ wd,wd=wy.drew:=⟨_,rfl⟩;rw [<-hwd];have hmd:=HMY.out.nil_ ((Fr.refl [] wy).drew);rw [<-hwd] at hmd;have hfd:Fr l w wd:=by rw [hwd];exact HFY.out.drew
         have HMD:=zh hmd;have HFD:=zh hfd;have HS:=zh (HMD.out.xy hk1 HXX.out HYY.out);have hlod:lo <= wd.heap.size:=by rw [hwd];exact hsz
         clear su hwd hmd hfd;refine F_m 0 SU.out HS.out ?_;simp only [PE];refine F_m 1 SU.out HS.out ?_;simp only [PE];refine F_v 2 ?_ SU.out HS.out (fun W hS=>?_) ?_;rotate_left
         ·obtain ⟨t7,t5,t6⟩:=hS;go_simp;first | done | rfl | omega | (exact IntWalk.i64_in _ (by omega)) | (simp <;> omega)
         simp only [PU];refine F_v 3 ?_ SU.out HS.out (fun W hS=>?_) ?_;rotate_left
         ·obtain ⟨t7,t5,t6⟩:=hS;go_simp;first | done | rfl | omega | (exact IntWalk.i64_in _ (by omega)) | (simp <;> omega)
         simp only [PU];refine F_v 4 (.slice (some ⟨TB,0,none⟩) n ct') SU.out HS.out (fun W hS=>?_) ?_
         ·obtain ⟨t7,t5,t6⟩:=hS;go_simp;first | done | rfl | omega | (exact IntWalk.i64_in _ (by omega)) | (simp <;> omega)
         simp only [PU];refine F_m 5 SU.out HS.out ?_;simp only [PE];refine F_v 6 ?_ SU.out HS.out (fun W hS=>?_) ?_;rotate_left
         ·obtain ⟨t7,t5,t6⟩:=hS;go_simp;first | done | rfl | omega | (exact IntWalk.i64_in _ (by omega)) | (simp <;> omega)
         simp only [PU];refine F_v 7 ?_ SU.out HS.out (fun W hS=>?_) ?_;rotate_left
         ·obtain ⟨t7,t5,t6⟩:=hS;go_simp;first | done | rfl | omega | (exact IntWalk.i64_in _ (by omega)) | (simp <;> omega)
         simp only [PU];refine F_v 8 (.int .i64 (X:Int)) SU.out HS.out (fun W hS=>?_) ?_
         ·obtain ⟨t7,t5,t6⟩:=hS;go_simp;first | done | rfl | omega | (exact IntWalk.i64_in _ (by omega)) | (simp <;> omega)
         simp only [PU];refine wpAnyF_all (rs:=[9]) (by kernel_rfl) (by simp) (fun w' hG=>?_);obtain rfl:=hG;refine allF.head rfl rfl (fun K6 hK6=>?_) allF.nil;go_simp;refine hK6.out _ _ (.inr ((HMD.out.nil_ ((Fr.refl [] wd).alloc _)).xy hk1 HXX.out HYY.out)) ?_;clear hK6 K6;refine wpAnyF_all (rs:=[10]) (by kernel_rfl) (by simp) (fun w' hG=>?_);obtain rfl:=hG;refine allF.head rfl rfl (fun K7 hK7=>?_) allF.nil;refine wp_append_R (.tmp 136) (.tmp 141) 165 rfl lo 3 i0 _ 1 8 underlying165 hi0 hz0 hz1 hz2 rfl (by omega) (.slice (some ⟨TB,0,none⟩) n ct') n (intsV r.reverse) (by first | rfl | simp [Act.eval]) (by have h:=HMD.out.todo_;rw [<-HN.out] at h;exact own_keep h (KeepB.of_nil ((Fr.refl [] wd).alloc _))) ⟨wd.heap.size,0,none⟩ 1 1 [.int .i64 (X:Int)] (by first | rfl | simp [Act.eval]) rfl (one_new_ wd 3 _) (by simp [Value.oneCell']) (by unfold maxLen;omega) (by omega) (by simp;omega) ?_;intro v' w4 hown4 hgr hat4;obtain ⟨A4,c4,rfl⟩:=own_any hown4;have HS4:=zh (HMD.out.xy4 ((Fr.refl [] wd).alloc _) hgr hk1 HXX.out HYY.out);have hb4:=HMD.out.blk7 ((Fr.refl [] wd).alloc _) hgr;have d7:=HS4.out.1;have dg7:=hb4.frozen 7;have hlt4:=hb4.lt;have elen:(X :: r).length=n+1:=by rw [HN.out];rfl
         have hown5:w4.ownsRow lo 3 1 (.slice A4 (n+1) c4) (X :: r).length (intsV (X :: r).reverse):=by rw [intsV_push1,elen];exact hown4
         have HO:Hid (SrOut lo w sb l L tx opn P (X :: r) stamp (s1.see k1) (w4.setCell ⟨sb,7,none⟩ (.slice A4 (n+1) c4))):=zh ((HMD.out.push (todo':=X :: r) ((Fr.refl [] wd).alloc _) hown5 hgr hat4).on HFD.out HB6.out);clear elen hown5;clear hown4 hgr hat4 hb4;refine hK7.out _ _ (.inr HS4.out) ?_;clear hK7 K7;simp only [PU];refine wpAnyF_all (rs:=[11]) (by kernel_rfl) (by simp) (fun w' hG=>?_);obtain rfl:=hG;refine allF.head rfl rfl (fun K9 hK9=>?_) allF.nil;go_simp;refine hK9.out _ _ (.inr HS4.out) ?_;clear hK9 K9;refine wpAnyF_all (rs:=[12]) (by kernel_rfl) (by simp) (fun w' hG=>?_);obtain rfl:=hG;refine allF.head rfl rfl (fun K9 hK9=>?_) allF.nil;go_simp;refine hK9.out _ _ (.inr HS4.out) ?_;clear hK9 K9;refine wpAnyF_all (rs:=[13]) (by kernel_rfl) (by simp) (fun w' hG=>?_);obtain rfl:=hG;refine allF.head rfl rfl (fun K9 hK9=>?_) allF.nil;go_simp;refine hK9.out _ _ (.inl rfl) ?_;clear hK9 K9;refine wpAnyF_done (by kernel_rfl) (fun w' hG=>?_);obtain rfl:=hG;clear SU HS HS4 d7 dg7 hlt4;go_wp2_with fail
         go_roundw
         case rel=>exact (StRel.next HME.out HST.out hf hf2 htd hnx1 HVI.out HVL.out HOK.out HT.out HS2.out HO.out).1
         case measure=>exact (StRel.next HME.out HST.out hf hf2 htd hnx1 HVI.out HVL.out HOK.out HT.out HS2.out HO.out).2
        | true=>
         have hq1:((a:Int) == (tx.length:Int))=false:=by simpa using hq2
         clear hq2;go_upto_region 14 with fail
         refine wp_region_F_ (G:=fun a b=>a=b) (F:=fun i=>i == 13) (S:=fun W=>W.cell? ⟨sb,7,none⟩=some (.slice (some ⟨TB,0,none⟩) n ct')/\W.cell? ⟨AB,k1 * 7+5,none⟩=some (.int .i64 (X:Int))/\W.cell? ⟨AB,k1 * 7+6,none⟩=some (.int .i64 (Y:Int))) ⟨fun _=>rfl,fun a b c h k=>h.trans k,fun a b h k=>k ▸ h,by kernel_rfl,fun _ _ d _ _ h=>by cases d <;> exact h⟩ (by kernel_rfl) fun su=>?_
         have SU:=zh su;obtain ⟨wd,hwd⟩:∃ wd,wd=wy.drew:=⟨_,rfl⟩;rw [<-hwd];have hmd:=HMY.out.nil_ ((Fr.refl [] wy).drew);rw [<-hwd] at hmd;have hfd:Fr l w wd:=by rw [hwd];exact HFY.out.drew
         have HMD:=zh hmd;have HFD:=zh hfd;have HS:=zh (HMD.out.xy hk1 HXX.out HYY.out);have hlod:lo <= wd.heap.size:=by rw [hwd];exact hsz
         clear su hwd hmd hfd;refine F_m 0 SU.out HS.out ?_;simp only [PE];refine F_m 1 SU.out HS.out ?_;simp only [PE];refine F_v 2 ?_ SU.out HS.out (fun W hS=>?_) ?_;rotate_left
         ·obtain ⟨t7,t5,t6⟩:=hS;go_simp;first | done | rfl | omega | (exact IntWalk.i64_in _ (by omega)) | (simp <;> omega)
         simp only [PU];refine F_v 3 ?_ SU.out HS.out (fun W hS=>?_) ?_;rotate_left
         ·obtain ⟨t7,t5,t6⟩:=hS;go_simp;first | done | rfl | omega | (exact IntWalk.i64_in _ (by omega)) | (simp <;> omega)
         simp only [PU];refine F_v 4 (.slice (some ⟨TB,0,none⟩) n ct') SU.out HS.out (fun W hS=>?_) ?_
         ·obtain ⟨t7,t5,t6⟩:=hS;go_simp;first | done | rfl | omega | (exact IntWalk.i64_in _ (by omega)) | (simp <;> omega)
         simp only [PU];refine F_m 5 SU.out HS.out ?_;simp only [PE];refine F_v 6 ?_ SU.out HS.out (fun W hS=>?_) ?_;rotate_left
         ·obtain ⟨t7,t5,t6⟩:=hS;go_simp;first | done | rfl | omega | (exact IntWalk.i64_in _ (by omega)) | (simp <;> omega)
         simp only [PU];refine F_v 7 ?_ SU.out HS.out (fun W hS=>?_) ?_;rotate_left
         ·obtain ⟨t7,t5,t6⟩:=hS;go_simp;first | done | rfl | omega | (exact IntWalk.i64_in _ (by omega)) | (simp <;> omega)
         simp only [PU];refine F_v 8 (.int .i64 (X:Int)) SU.out HS.out (fun W hS=>?_) ?_
         ·obtain ⟨t7,t5,t6⟩:=hS;go_simp;first | done | rfl | omega | (exact IntWalk.i64_in _ (by omega)) | (simp <;> omega)
         simp only [PU];refine wpAnyF_all (rs:=[9]) (by kernel_rfl) (by simp) (fun w' hG=>?_);obtain rfl:=hG;refine allF.head rfl rfl (fun K6 hK6=>?_) allF.nil;go_simp;refine hK6.out _ _ (.inr ((HMD.out.nil_ ((Fr.refl [] wd).alloc _)).xy hk1 HXX.out HYY.out)) ?_;clear hK6 K6;refine wpAnyF_all (rs:=[10]) (by kernel_rfl) (by simp) (fun w' hG=>?_);obtain rfl:=hG;refine allF.head rfl rfl (fun K7 hK7=>?_) allF.nil;refine wp_append_R (.tmp 136) (.tmp 141) 165 rfl lo 3 i0 _ 1 8 underlying165 hi0 hz0 hz1 hz2 rfl (by omega) (.slice (some ⟨TB,0,none⟩) n ct') n (intsV r.reverse) (by first | rfl | simp [Act.eval]) (by have h:=HMD.out.todo_;rw [<-HN.out] at h;exact own_keep h (KeepB.of_nil ((Fr.refl [] wd).alloc _))) ⟨wd.heap.size,0,none⟩ 1 1 [.int .i64 (X:Int)] (by first | rfl | simp [Act.eval]) rfl (one_new_ wd 3 _) (by simp [Value.oneCell']) (by unfold maxLen;omega) (by omega) (by simp;omega) ?_;intro v' w4 hown4 hgr hat4;obtain ⟨A4,c4,rfl⟩:=own_any hown4;have HS4:=zh (HMD.out.xy4 ((Fr.refl [] wd).alloc _) hgr hk1 HXX.out HYY.out);have hb4:=HMD.out.blk7 ((Fr.refl [] wd).alloc _) hgr;have d7:=HS4.out.1;have dg7:=hb4.frozen 7;have hlt4:=hb4.lt;have elen:(X :: r).length=n+1:=by rw [HN.out];rfl
         have hown5:w4.ownsRow lo 3 1 (.slice A4 (n+1) c4) (X :: r).length (intsV (X :: r).reverse):=by rw [intsV_push1,elen];exact hown4
         have HO:Hid (SrOut lo w sb l L tx opn P (X :: r) stamp (s1.see k1) (w4.setCell ⟨sb,7,none⟩ (.slice A4 (n+1) c4))):=zh ((HMD.out.push (todo':=X :: r) ((Fr.refl [] wd).alloc _) hown5 hgr hat4).on HFD.out HB6.out);clear elen hown5;clear hown4 hgr hat4 hb4;refine hK7.out _ _ (.inr HS4.out) ?_;clear hK7 K7;simp only [PU];refine wpAnyF_all (rs:=[11]) (by kernel_rfl) (by simp) (fun w' hG=>?_);obtain rfl:=hG;refine allF.head rfl rfl (fun K9 hK9=>?_) allF.nil;go_simp;refine hK9.out _ _ (.inr HS4.out) ?_;clear hK9 K9;refine wpAnyF_all (rs:=[12]) (by kernel_rfl) (by simp) (fun w' hG=>?_);obtain rfl:=hG;refine allF.head rfl rfl (fun K9 hK9=>?_) allF.nil;go_simp;refine hK9.out _ _ (.inr HS4.out) ?_;clear hK9 K9;refine wpAnyF_all (rs:=[13]) (by kernel_rfl) (by simp) (fun w' hG=>?_);obtain rfl:=hG;refine allF.head rfl rfl (fun K9 hK9=>?_) allF.nil;go_simp;refine hK9.out _ _ (.inl rfl) ?_;clear hK9 K9;refine wpAnyF_done (by kernel_rfl) (fun w' hG=>?_);obtain rfl:=hG;clear SU HS HS4 d7 dg7 hlt4;go_wp2_with fail
         go_roundw
         case rel=>exact (StRel.next HME.out HST.out hf hf2 htd hnx1 HVI.out HVL.out HOK.out HT.out HS2.out HO.out).1
         case measure=>exact (StRel.next HME.out HST.out hf hf2 htd hnx1 HVI.out HVL.out HOK.out HT.out HS2.out HO.out).2
      as_aux_lemma=>
       have hq0:((a:Int) == 0)=false:=by simp;omega
       have HT:Hid (metT (spAt L k1) tx.length opn a ++ r=r):=zh (by rw [<-HSP.out];simp [metT,HK.out,HX.out,HY.out,ha0]);have HAA:=zh ha0;clear ha0
       cases bo with
       | false=>
        go_wp2_with fail
        have HO:Hid (SrOut lo w sb l L tx opn P r stamp (s1.see k1) wy):=zh (SrOut.mk_ HMY.out HFY.out HB6.out);go_roundw
        case rel=>exact (StRel.next HME.out HST.out hf hf2 htd hnx1 HVI.out HVL.out HOK.out HT.out HS2.out HO.out).1
        case measure=>exact (StRel.next HME.out HST.out hf hf2 htd hnx1 HVI.out HVL.out HOK.out HT.out HS2.out HO.out).2
       | true=>
        have hq1:((a:Int) == (tx.length:Int))=false:=by simpa using hq2
        clear hq2;go_wp2_with fail
        have HO:Hid (SrOut lo w sb l L tx opn P r stamp (s1.see k1) wy):=zh (SrOut.mk_ HMY.out HFY.out HB6.out);go_roundw
        case rel=>exact (StRel.next HME.out HST.out hf hf2 htd hnx1 HVI.out HVL.out HOK.out HT.out HS2.out HO.out).1
        case measure=>exact (StRel.next HME.out HST.out hf hf2 htd hnx1 HVI.out HVL.out HOK.out HT.out HS2.out HO.out).2
   ·rw [hk] at p0;have HK:=zh hk;clear hk
    as_aux_lemma=>
     by_cases hal:a < tx.length
     ·as_aux_lemma=>
       have hq1:((a:Int) < (tx.length:Int)):=by omega
       have HT:Hid (metT (spAt L k1) tx.length opn a ++ r=r):=zh (by rw [<-HSP.out];simp [metT,HK.out,HX.out,HY.out,hal]);have HS2:Hid (metS (spAt L k1) tx.length opn st a k1 (s1.see k1)=s1.see k1):=zh (by rw [<-HSP.out];simp [metS,HK.out,hal]);go_wp2_with fail
       have HO:Hid (SrOut lo w sb l L tx opn P r stamp (s1.see k1) wy):=zh (SrOut.mk_ HMY.out HFY.out HB6.out);go_roundw
       case rel=>exact (StRel.next HME.out HST.out hf hf2 htd hnx1 HVI.out HVL.out HOK.out HT.out HS2.out HO.out).1
       case measure=>exact (StRel.next HME.out HST.out hf hf2 htd hnx1 HVI.out HVL.out HOK.out HT.out HS2.out HO.out).2
     as_aux_lemma=>
      have hq1:¬ ((a:Int) < (tx.length:Int)):=by omega
      obtain ⟨bo,hbo⟩:∃ bo,bo=opn:=⟨_,rfl⟩;rw [<-hbo] at y2;have HBO:=zh hbo.symm;clear hbo
      cases bo with
      | true=>
       have HT:Hid (metT (spAt L k1) tx.length opn a ++ r=r):=zh (by rw [<-HSP.out];simp [metT,HK.out,HX.out,HY.out,hal,HBO.out]);have HS2:Hid (metS (spAt L k1) tx.length opn st a k1 (s1.see k1)=(s1.see k1).put k1 st):=zh (by rw [<-HSP.out];simp [metS,HK.out,hal,HBO.out]);go_wp2_with (at_builtin;refine wpList_append_R rfl (.tmp 177) (.tmp 181) 164 rfl lo 199 i1 _ 2 16 underlying164 hi1 hy1' hy2' hy3' rfl (by omega) (.slice XA N xc) N (thV s1.next) (by first | rfl | simp [Act.eval]) (by have h:=HMY.out.next_;have e:(s1.see k1).next.length=N:=HNN.out.symm;rw [e] at h;exact own_keep h (KeepB.of_nil ((Fr.refl [] wy).alloc _))) ⟨wy.heap.size,0,none⟩ 1 1 [.int .i64 (k1:Int),.int .i64 (st:Int)] (by first | rfl | simp [Act.eval]) rfl (two_new wy 199 _ _) (by simp [Value.oneCell']) (by unfold maxLen;omega) (by omega) (by simp;omega) ?_;intro v' w4 hown4 hgr hat4;obtain ⟨A4,c4,rfl⟩:=own_any hown4;have hb4:=HMY.out.blk4 ((Fr.refl [] wy).alloc _) hgr;have d4:w4.cell? ⟨sb,4,none⟩=some (.slice XA N xc):=hb4.cell_ rfl;have d4g:=hb4.frozen 4;have hlt4:=hb4.lt;have HGR:=zh hgr;have HOWN4:=zh hown4;have HAT:=zh hat4;clear hown4 hgr hat4 hb4)
       have HO:Hid (SrOut lo w sb l L tx opn P r stamp ((s1.see k1).put k1 st) (w4.setCell ⟨sb,4,none⟩ (.slice A4 (N+1) c4))):=zh ((HMY.out.puts ((Fr.refl [] wy).alloc _) (by have h:=HOWN4.out;have e:(s1.see k1).next.length=N:=HNN.out.symm;rw [e];exact h) HGR.out HAT.out).on HFY.out HB6.out);go_roundw
       case rel=>exact (StRel.next HME.out HST.out hf hf2 htd hnx1 HVI.out HVL.out HOK.out HT.out HS2.out HO.out).1
       case measure=>exact (StRel.next HME.out HST.out hf hf2 htd hnx1 HVI.out HVL.out HOK.out HT.out HS2.out HO.out).2
      | false=>
       have HT:Hid (metT (spAt L k1) tx.length opn a ++ r=X :: r):=zh (by rw [<-HSP.out];simp [metT,HK.out,HX.out,HY.out,hal,HBO.out]);have HS2:Hid (metS (spAt L k1) tx.length opn st a k1 (s1.see k1)=s1.see k1):=zh (by rw [<-HSP.out];simp [metS,HK.out,hal,HBO.out]);go_upto_region 16 with fail
       refine wp_region_F_ (G:=fun a b=>a=b) (F:=fun i=>i == 13) (S:=fun W=>W.cell? ⟨sb,7,none⟩=some (.slice (some ⟨TB,0,none⟩) n ct')/\W.cell? ⟨AB,k1 * 7+5,none⟩=some (.int .i64 (X:Int))/\W.cell? ⟨AB,k1 * 7+6,none⟩=some (.int .i64 (Y:Int))) ⟨fun _=>rfl,fun a b c h k=>h.trans k,fun a b h k=>k ▸ h,by kernel_rfl,fun _ _ d _ _ h=>by cases d <;> exact h⟩ (by kernel_rfl) fun su=>?_
       have SU:=zh su;obtain ⟨wd,hwd⟩:∃ wd,wd=wy.drew:=⟨_,rfl⟩;rw [<-hwd];have hmd:=HMY.out.nil_ ((Fr.refl [] wy).drew);rw [<-hwd] at hmd;have hfd:Fr l w wd:=by rw [hwd];exact HFY.out.drew
       have HMD:=zh hmd;have HFD:=zh hfd;have HS:=zh (HMD.out.xy hk1 HXX.out HYY.out);have hlod:lo <= wd.heap.size:=by rw [hwd];exact hsz
       clear su hwd hmd hfd;refine F_m 0 SU.out HS.out ?_;simp only [PE];refine F_m 1 SU.out HS.out ?_;simp only [PE];refine F_v 2 ?_ SU.out HS.out (fun W hS=>?_) ?_;rotate_left
       ·obtain ⟨t7,t5,t6⟩:=hS;go_simp;first | done | rfl | omega | (exact IntWalk.i64_in _ (by omega)) | (simp <;> omega)
       simp only [PU];refine F_v 3 ?_ SU.out HS.out (fun W hS=>?_) ?_;rotate_left
       ·obtain ⟨t7,t5,t6⟩:=hS;go_simp;first | done | rfl | omega | (exact IntWalk.i64_in _ (by omega)) | (simp <;> omega)
       simp only [PU];refine F_v 4 (.slice (some ⟨TB,0,none⟩) n ct') SU.out HS.out (fun W hS=>?_) ?_
       ·obtain ⟨t7,t5,t6⟩:=hS;go_simp;first | done | rfl | omega | (exact IntWalk.i64_in _ (by omega)) | (simp <;> omega)
       simp only [PU];refine F_m 5 SU.out HS.out ?_;simp only [PE];refine F_v 6 ?_ SU.out HS.out (fun W hS=>?_) ?_;rotate_left
       ·obtain ⟨t7,t5,t6⟩:=hS;go_simp;first | done | rfl | omega | (exact IntWalk.i64_in _ (by omega)) | (simp <;> omega)
       simp only [PU];refine F_v 7 ?_ SU.out HS.out (fun W hS=>?_) ?_;rotate_left
       ·obtain ⟨t7,t5,t6⟩:=hS;go_simp;first | done | rfl | omega | (exact IntWalk.i64_in _ (by omega)) | (simp <;> omega)
       simp only [PU];refine F_v 8 (.int .i64 (X:Int)) SU.out HS.out (fun W hS=>?_) ?_
       ·obtain ⟨t7,t5,t6⟩:=hS;go_simp;first | done | rfl | omega | (exact IntWalk.i64_in _ (by omega)) | (simp <;> omega)
       simp only [PU];refine wpAnyF_all (rs:=[9]) (by kernel_rfl) (by simp) (fun w' hG=>?_);obtain rfl:=hG;refine allF.head rfl rfl (fun K6 hK6=>?_) allF.nil;go_simp;refine hK6.out _ _ (.inr ((HMD.out.nil_ ((Fr.refl [] wd).alloc _)).xy hk1 HXX.out HYY.out)) ?_;clear hK6 K6;refine wpAnyF_all (rs:=[10]) (by kernel_rfl) (by simp) (fun w' hG=>?_);obtain rfl:=hG;refine allF.head rfl rfl (fun K7 hK7=>?_) allF.nil;refine wp_append_R (.tmp 151) (.tmp 156) 165 rfl lo 3 i0 _ 1 8 underlying165 hi0 hz0 hz1 hz2 rfl (by omega) (.slice (some ⟨TB,0,none⟩) n ct') n (intsV r.reverse) (by first | rfl | simp [Act.eval]) (by have h:=HMD.out.todo_;rw [<-HN.out] at h;exact own_keep h (KeepB.of_nil ((Fr.refl [] wd).alloc _))) ⟨wd.heap.size,0,none⟩ 1 1 [.int .i64 (X:Int)] (by first | rfl | simp [Act.eval]) rfl (one_new_ wd 3 _) (by simp [Value.oneCell']) (by unfold maxLen;omega) (by omega) (by simp;omega) ?_;intro v' w4 hown4 hgr hat4;obtain ⟨A4,c4,rfl⟩:=own_any hown4;have HS4:=zh (HMD.out.xy4 ((Fr.refl [] wd).alloc _) hgr hk1 HXX.out HYY.out);have hb4:=HMD.out.blk7 ((Fr.refl [] wd).alloc _) hgr;have d7:=HS4.out.1;have dg7:=hb4.frozen 7;have hlt4:=hb4.lt;have elen:(X :: r).length=n+1:=by rw [HN.out];rfl
       have hown5:w4.ownsRow lo 3 1 (.slice A4 (n+1) c4) (X :: r).length (intsV (X :: r).reverse):=by rw [intsV_push1,elen];exact hown4
       have HO:Hid (SrOut lo w sb l L tx opn P (X :: r) stamp (s1.see k1) (w4.setCell ⟨sb,7,none⟩ (.slice A4 (n+1) c4))):=zh ((HMD.out.push (todo':=X :: r) ((Fr.refl [] wd).alloc _) hown5 hgr hat4).on HFD.out HB6.out);clear elen hown5;clear hown4 hgr hat4 hb4;refine hK7.out _ _ (.inr HS4.out) ?_;clear hK7 K7;simp only [PU];refine wpAnyF_all (rs:=[11]) (by kernel_rfl) (by simp) (fun w' hG=>?_);obtain rfl:=hG;refine allF.head rfl rfl (fun K9 hK9=>?_) allF.nil;go_simp;refine hK9.out _ _ (.inr HS4.out) ?_;clear hK9 K9;refine wpAnyF_all (rs:=[12]) (by kernel_rfl) (by simp) (fun w' hG=>?_);obtain rfl:=hG;refine allF.head rfl rfl (fun K9 hK9=>?_) allF.nil;go_simp;refine hK9.out _ _ (.inr HS4.out) ?_;clear hK9 K9;refine wpAnyF_all (rs:=[13]) (by kernel_rfl) (by simp) (fun w' hG=>?_);obtain rfl:=hG;refine allF.head rfl rfl (fun K9 hK9=>?_) allF.nil;go_simp;refine hK9.out _ _ (.inl rfl) ?_;clear hK9 K9;refine wpAnyF_done (by kernel_rfl) (fun w' hG=>?_);obtain rfl:=hG;clear SU HS HS4 d7 dg7 hlt4;go_wp2_with fail
       go_roundw
       case rel=>exact (StRel.next HME.out HST.out hf hf2 htd hnx1 HVI.out HVL.out HOK.out HT.out HS2.out HO.out).1
       case measure=>exact (StRel.next HME.out HST.out hf hf2 htd hnx1 HVI.out HVL.out HOK.out HT.out HS2.out HO.out).2
   rw [hk] at p0;have HK:=zh hk;clear hk
   as_aux_lemma=>
    obtain ⟨fd1,hfd1⟩:∃ fd1,s1.fd=fd1:=⟨_,rfl⟩;have HFD1:=zh hfd1;rw [hfd1] at y10;have hfq:=HMY.out.fd;have e2:(s1.see k1).fd=s1.fd:=rfl;rw [e2,hfd1] at hfq;clear hfd1 e2
    cases fd1 with
    | none=>
     have y10':wy.cell? ⟨sb,10,none⟩=some (.bool false):=y10;clear y10;have HT:Hid (metT (spAt L k1) tx.length opn a ++ r=r):=zh (by rw [<-HSP.out];simp [metT,HK.out])
     have HS2:Hid (metS (spAt L k1) tx.length opn st a k1 (s1.see k1)={ (s1.see k1) with fd:=some (st,a) }):=zh (by
      have e1:metS (spAt L k1) tx.length opn st a k1 (s1.see k1)=(s1.see k1).hit st a:=by rw [<-HSP.out];simp [metS,HK.out]
      have e2:(s1.see k1).fd=s1.fd:=rfl
      rw [e1];unfold Sr.hit;rw [e2,HFD1.out])
     have g8:=HMY.out.blk.frozen 8;have g9:=HMY.out.blk.frozen 9;have g10:=HMY.out.blk.frozen 10;go_wp2_with fail
     have HO:Hid (SrOut lo w sb l L tx opn P r stamp { (s1.see k1) with fd:=some (st,a) } (((wy.setCell ⟨sb,8,none⟩ (.int .i64 (st:Int))).setCell ⟨sb,9,none⟩ (.int .i64 (a:Int))).setCell ⟨sb,10,none⟩ (.bool true))):=zh (SrOut.mk_ (HMY.out.find3 st a) (((HFY.out.setCell (HB6.out sb (by simp [srBlocks])) _).setCell (HB6.out sb (by simp [srBlocks])) _).setCell (HB6.out sb (by simp [srBlocks])) _) HB6.out);go_roundw
     case rel=>exact (StRel.next HME.out HST.out hf hf2 htd hnx1 HVI.out HVL.out HOK.out HT.out HS2.out HO.out).1
     case measure=>exact (StRel.next HME.out HST.out hf hf2 htd hnx1 HVI.out HVL.out HOK.out HT.out HS2.out HO.out).2
    | some q=>
     have y10':wy.cell? ⟨sb,10,none⟩=some (.bool true):=y10;clear y10;obtain ⟨hq1,-⟩:=hfq q rfl;subst hq1;by_cases hsq:st <= q.1
     ·as_aux_lemma=>
       have hsq':(st:Int) <= (q.1:Int):=by omega
       have HT:Hid (metT (spAt L k1) tx.length opn a ++ r=r):=zh (by rw [<-HSP.out];simp [metT,HK.out])
       have HS2:Hid (metS (spAt L k1) tx.length opn st a k1 (s1.see k1)={ (s1.see k1) with fd:=some (st,a) }):=zh (by
        have e1:metS (spAt L k1) tx.length opn st a k1 (s1.see k1)=(s1.see k1).hit st a:=by rw [<-HSP.out];simp [metS,HK.out]
        have e2:(s1.see k1).fd=s1.fd:=rfl
        rw [e1];unfold Sr.hit;rw [e2,HFD1.out];simp <;> omega)
       have g8:=HMY.out.blk.frozen 8;have g9:=HMY.out.blk.frozen 9;have g10:=HMY.out.blk.frozen 10;go_wp2_with fail
       have HO:Hid (SrOut lo w sb l L tx opn P r stamp { (s1.see k1) with fd:=some (st,a) } (((wy.setCell ⟨sb,8,none⟩ (.int .i64 (st:Int))).setCell ⟨sb,9,none⟩ (.int .i64 (a:Int))).setCell ⟨sb,10,none⟩ (.bool true))):=zh (SrOut.mk_ (HMY.out.find3 st a) (((HFY.out.setCell (HB6.out sb (by simp [srBlocks])) _).setCell (HB6.out sb (by simp [srBlocks])) _).setCell (HB6.out sb (by simp [srBlocks])) _) HB6.out);go_roundw
       case rel=>exact (StRel.next HME.out HST.out hf hf2 htd hnx1 HVI.out HVL.out HOK.out HT.out HS2.out HO.out).1
       case measure=>exact (StRel.next HME.out HST.out hf hf2 htd hnx1 HVI.out HVL.out HOK.out HT.out HS2.out HO.out).2
     as_aux_lemma=>
      have hsq':¬ ((st:Int) <= (q.1:Int)):=by omega
      have HT:Hid (metT (spAt L k1) tx.length opn a ++ r=r):=zh (by rw [<-HSP.out];simp [metT,HK.out])
      have HS2:Hid (metS (spAt L k1) tx.length opn st a k1 (s1.see k1)=s1.see k1):=zh (by
       have e1:metS (spAt L k1) tx.length opn st a k1 (s1.see k1)=(s1.see k1).hit st a:=by rw [<-HSP.out];simp [metS,HK.out]
       have e2:(s1.see k1).fd=s1.fd:=rfl
       rw [e1];unfold Sr.hit;rw [e2,HFD1.out];simp <;> omega)
      go_wp2_with fail
      have HO:Hid (SrOut lo w sb l L tx opn P r stamp (s1.see k1) wy):=zh (SrOut.mk_ HMY.out HFY.out HB6.out);go_roundw
      case rel=>exact (StRel.next HME.out HST.out hf hf2 htd hnx1 HVI.out HVL.out HOK.out HT.out HS2.out HO.out).1
      case measure=>exact (StRel.next HME.out HST.out hf hf2 htd hnx1 HVI.out HVL.out HOK.out HT.out HS2.out HO.out).2
end Go.Proofs.YtfofechcccodeaaGreatDoor
