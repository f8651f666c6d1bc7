/-
  Small texts in one (Mb4). No conditions.
-/
import Derived.Test.YtfofechcccodeaaGreatDoorQam
import Derived.Test.YtfofechcccodeaaGreatDoorQan
import Derived.Test.YtfofechcccodeaaGreatDoorQao
import Derived.StillTailTactics
import Derived.Deep.CutRange
namespace Go.Proofs.YtfofechcccodeaaGreatDoor
open Go.RowKit Go.ChangeMaps Go.Proofs.Tryz
set_option linter.unusedVariables false
set_option linter.unusedSimpArgs false
set_option maxRecDepth 100000
set_option maxHeartbeats 16000000
theorem own_zero {w:World} {base n cap sz:Nat} {A:Option Addr} {e:TypeId} {l:List Value} (h:w.ownsRow base e sz (.slice A n cap) n l):w.ownsRow base e sz (.slice A 0 cap) 0 []:=by
 obtain ⟨h1,⟨h2,h3⟩ | ⟨g,cap',cur,h2,h0,hb,h3,h4,h5,h6⟩⟩:=h
 ·injection h2 with h2 h2a h2b
  subst h2 h2b;exact ⟨by simp,.inl ⟨rfl,rfl⟩⟩
 injection h2 with h2 _ h2'
 subst h2 h2';exact ⟨by simp,.inr ⟨g,cap,cur,rfl,h0,hb,by omega,h4,h5,by simp⟩⟩
theorem own_room {w:World} {base n cap sz:Nat} {A:Option Addr} {e:TypeId} {l:List Value} (h:w.ownsRow base e sz (.slice A n cap) n l):n <= cap/\(A=none->cap=0):=by
 obtain ⟨h1,⟨h2,h3⟩ | ⟨g,cap',cur,h2,h0,hb,h3,h4,h5,h6⟩⟩:=h
 ·injection h2 with h2 h2a h2b
  exact ⟨by omega,fun _=>h2b⟩
 injection h2 with h2 _ h2'
 subst h2 h2';exact ⟨h3,fun e=>by cases e⟩
section
variable {lo:Nat} {w:World} {sb:Nat} {L:List Sp} {tx:List UInt8} {opn:Bool} {now:List (Nat × Nat)} {todo:List Nat} {stamp:Nat} {s:Sr}
    {A:Option Addr} {c:Nat} {A2:Option Addr} {c2:Nat} {nowv nextv seenv todov:Value} {xs:List Nat} {st en:Int}
theorem SrM.turn (h:SrM lo w sb L tx opn now todo stamp s A c A2 c2 nowv nextv seenv todov xs st en) {nowv' nextv':Value} {now' next':List (Nat × Nat)} {fd':Option (Nat × Nat)} (hfd:∀ q,fd'=some q->st=(q.1:Int)/\en=(q.2:Int)) {w':World}
    (hb:Bk w' sb 167 #[.slice A L.length c,.slice A2 tx.length c2,.bool opn,nowv',nextv',.int .i64 (stamp:Int),seenv,todov,.int .i64 st,.int .i64 en,.bool fd'.isSome])
    (hk:∀ t,t ≠ 167->KeepB t w w') (hf:Fr [sb] w w')
    (h1:w.ownsRow lo 199 2 nowv' now'.length (thV now')) (h2:w.ownsRow lo 199 2 nextv' next'.length (thV next')) (hd:∀ b,nowv'.ownBlock=some b->nextv'.ownBlock ≠ some b) :
    SrM lo w' sb L tx opn now' todo stamp ⟨next',s.vis,fd'⟩ A c A2 c2 nowv' nextv' seenv todov xs st en:=
 { lo_:=h.lo_,tlo:=h.tlo,textc:=h.textc,d1:=hd,d2:=h.d2,len:=h.len,le:=h.le,vis:=h.vis,fd:=hfd
   blk:=hb,prog:=own_keep h.prog (hk _ (by decide))
   text:=h.text.fr hf (fun a ha _ hm=>by have h1:=h.tlo a ha;have h2:=h.lo_;simp at hm;omega)
   now_:=own_keep h1 (hk _ (by decide)),next_:=own_keep h2 (hk _ (by decide)),seen_:=own_keep h.seen_ (hk _ (by decide)),todo_:=own_keep h.todo_ (hk _ (by decide)) }
theorem SrM.reset {NA XA:Option Addr} {nc xc:Nat} (h:SrM lo w sb L tx opn now todo stamp s A c A2 c2 (.slice NA now.length nc) (.slice XA s.next.length xc) seenv todov xs st en) :
    SrM lo (((w.setCell ⟨sb,3,none⟩ (.slice NA 0 nc)).setCell ⟨sb,4,none⟩ (.slice XA 0 xc)).setCell ⟨sb,10,none⟩ (.bool false)) sb L tx opn [] todo stamp ⟨[],s.vis,none⟩ A c A2 c2 (.slice NA 0 nc) (.slice XA 0 xc) seenv todov xs st en:=by
 have k0:=h.blk;have k1:=k0.put 3 (.slice NA 0 nc);have k2:=k1.put 4 (.slice XA 0 xc);have k3:=k2.put 10 (.bool false)
 have hd:∀ b,(Value.slice NA 0 nc).ownBlock=some b->(Value.slice XA 0 xc).ownBlock ≠ some b:=by
  intro b hb;have:=h.d1 b (by cases NA <;> first | (simp [Value.ownBlock] at hb;done) | exact hb)
  cases XA <;> first | (simp [Value.ownBlock];done) | exact this
 exact h.turn (fun q hq=>by cases hq) k3 (fun t ht b' cs' hb'=>KeepB.put_ k2 ht 10 _ _ _ (KeepB.put_ k1 ht 4 _ _ _ (KeepB.put_ k0 ht 3 _ _ _ hb'))) ((((Fr.refl [sb] w).setCell (.inl (by simp)) _).setCell (.inl (by simp)) _).setCell (.inl (by simp)) _) (own_zero h.now_) (own_zero h.next_) hd
theorem SrM.swap {NA XA:Option Addr} {nc xc:Nat} (h:SrM lo w sb L tx opn now todo stamp s A c A2 c2 (.slice NA now.length nc) (.slice XA s.next.length xc) seenv todov xs st en) :
    SrM lo ((w.setCell ⟨sb,3,none⟩ (.slice XA s.next.length xc)).setCell ⟨sb,4,none⟩ (.slice NA 0 nc)) sb L tx opn s.next todo stamp ⟨[],s.vis,s.fd⟩ A c A2 c2 (.slice XA s.next.length xc) (.slice NA 0 nc) seenv todov xs st en:=by
 have k0:=h.blk;have k1:=k0.put 3 (.slice XA s.next.length xc);have k2:=k1.put 4 (.slice NA 0 nc)
 have hd:∀ b,(Value.slice XA s.next.length xc).ownBlock=some b->(Value.slice NA 0 nc).ownBlock ≠ some b:=by
  intro b hb e;exact h.d1 b (by cases NA <;> first | (simp [Value.ownBlock] at e;done) | exact e) hb
 exact h.turn h.fd k2 (fun t ht b' cs' hb'=>KeepB.put_ k1 ht 4 _ _ _ (KeepB.put_ k0 ht 3 _ _ _ hb')) (((Fr.refl [sb] w).setCell (.inl (by simp)) _).setCell (.inl (by simp)) _) h.next_ (own_zero h.now_) hd
end
def RunPost (lo:Nat) (w:World) (sb:Nat) (l:List Nat) (L:List Sp) (tx:List UInt8) (opn:Bool) (stamp:Nat) (r:List (Nat × Nat) × Option (Nat × Nat)) (e:Ending) (w':World):Prop:=
 e = .returned (.tuple #[])/\∃ P s stamp',SrOut lo w sb l L tx opn P [] stamp' s w'/\P.2=r.1/\s.fd=r.2/\stamp' <= stamp+tx.length+2/\s.next=[]
def RuRel (lo:Nat) (w0:World) (sb:Nat) (l:List Nat) (L:List Sp) (tx:List UInt8) (opn there:Bool) (from_ stamp a:Nat) (R:List (Nat × Nat) × Option (Nat × Nat)) (wr:World):Prop:=
 from_ <= a/\a <= tx.length/\∃ f P sN stamp',tx.length < a+f/\SrOut lo w0 sb l L tx opn P [] stamp' sN wr/\stamp'=stamp+1+(a - from_)/\sN.next.length+unseen sN.vis <= L.length/\(∀ t ∈ sN.next,t.1 < L.length/\t.2 <= a)/\runF L tx opn there from_ f a sN=R
def RuMid (lo:Nat) (w0:World) (sb:Nat) (l:List Nat) (L:List Sp) (tx:List UInt8) (opn:Bool) (stamp a:Nat) (s1:Sr) (wr:World):Prop:=
 ∃ P,SrOut lo w0 sb l L tx opn P [] stamp s1 wr
def FeRel (lo:Nat) (w0:World) (sb:Nat) (l:List Nat) (L:List Sp) (tx:List UInt8) (opn:Bool) (P:Value × List (Nat × Nat)) (stamp a c i:Nat) (R:Sr) (wr:World):Prop:=
 ∃ sc,SrOut lo w0 sb l L tx opn P [] stamp sc wr/\sc.next.length+unseen sc.vis <= L.length/\(∀ t ∈ sc.next,t.1 < L.length/\t.2 <= a)/\feedS L tx.length opn c (a+1) (P.2.drop i) sc=R
theorem kdone {b:Bool} {p:Prop} (h1:b=true) (h:b=false):p:=by rw [h1] at h;cases h
def begS (L:List Sp) (tx:List UInt8) (opn there:Bool) (from_ a:Nat) (s:Sr):Sr:=if a=from_ ∨ (there=false/\s.fd=none) then standS L tx.length opn 0 a a s else s
theorem runF_succ (L:List Sp) (tx:List UInt8) (opn there:Bool) (from_ f a:Nat) (s:Sr):runF L tx opn there from_ (f+1) a s =
    if a=tx.length ∨ ((begS L tx opn there from_ a s).next=[]/\(there=true ∨ (begS L tx opn there from_ a s).fd ≠ none)) then ((begS L tx opn there from_ a s).next,(begS L tx opn there from_ a s).fd)
    else runF L tx opn there from_ f (a+1) (feedS L tx.length opn (tx.getD a 0).toNat (a+1) (begS L tx opn there from_ a s).next (bareS L (begS L tx opn there from_ a s).fd)):=rfl
theorem text_byte {w:World} {A:Option Addr} {tx:List UInt8} (h:Bytes w A tx) {a:Nat} (ha:a < tx.length):∃ ad,A=some ad/\w.cell? (ad.add a)=some (.int .u8 ((tx.getD a 0).toNat:Int)):=by
 rcases h with h | ⟨ad,h1,-, h3⟩
 ·cases tx with
  | nil=>simp at ha
  | cons b r=>simp [byteVals] at h
 refine ⟨ad,h1,h3 a _ ?_⟩;unfold byteVals;rw [List.getElem?_map,List.getElem?_eq_getElem ha,List.getD_eq_getElem?_getD,List.getElem?_eq_getElem ha];rfl
theorem set_cells {w:World} {L:List Sp} {AB c k1:Nat} (h:w.ownsRow 0 142 7 (.slice (some ⟨AB,0,none⟩) L.length c) L.length (L.flatMap Sp.cells)) (hok:ProgOk L) (hk:k1 < L.length) :
    w.cell? ⟨AB,k1 * 7+1,none⟩=some (.int .u64 ((spAt L k1).set4.a:Int))/\w.cell? ⟨AB,k1 * 7+2,none⟩=some (.int .u64 ((spAt L k1).set4.b:Int))/\w.cell? ⟨AB,k1 * 7+3,none⟩=some (.int .u64 ((spAt L k1).set4.c:Int))/\w.cell? ⟨AB,k1 * 7+4,none⟩=some (.int .u64 ((spAt L k1).set4.d:Int)) /\
    w.cell? ⟨AB,k1 * 7+5,none⟩=some (.int .i64 ((spAt L k1).x.toNat:Int)):=by
 have hget:=spAt_get hk;obtain ⟨-, ⟨x0,-⟩,-, ⟨z0,z1,z2,z3⟩,-⟩:=hok.at_ hk;have hne:L.flatMap Sp.cells ≠ []:=fun e=>by have h7:=flat_len sp_len L;rw [e] at h7;simp at h7;omega
 obtain ⟨AB',hAB,-, -, hcl⟩:=own_cells h hne
 injection hAB with hAB;injection hAB with hAB
 subst hAB;refine ⟨hcl _ _ ((flat_at sp_len _ 1 (by omega) L k1 hget).trans ?_),hcl _ _ ((flat_at sp_len _ 2 (by omega) L k1 hget).trans ?_),hcl _ _ ((flat_at sp_len _ 3 (by omega) L k1 hget).trans ?_),hcl _ _ ((flat_at sp_len _ 4 (by omega) L k1 hget).trans ?_),hcl _ _ ((flat_at sp_len _ 5 (by omega) L k1 hget).trans ?_)⟩
 ·show some (Value.int .u64 (spAt L k1).s0)=some (.int .u64 (((spAt L k1).s0.toNat:Nat):Int));rw [Int.toNat_of_nonneg z0]
 ·show some (Value.int .u64 (spAt L k1).s1)=some (.int .u64 (((spAt L k1).s1.toNat:Nat):Int));rw [Int.toNat_of_nonneg z1]
 ·show some (Value.int .u64 (spAt L k1).s2)=some (.int .u64 (((spAt L k1).s2.toNat:Nat):Int));rw [Int.toNat_of_nonneg z2]
 ·show some (Value.int .u64 (spAt L k1).s3)=some (.int .u64 (((spAt L k1).s3.toNat:Nat):Int));rw [Int.toNat_of_nonneg z3]
 show some (Value.int .i64 (spAt L k1).x)=some (.int .i64 (((spAt L k1).x.toNat:Nat):Int));rw [Int.toNat_of_nonneg x0]
theorem own_th {w:World} {base n c:Nat} {v:Option Addr} {e:TypeId} {now:List (Nat × Nat)} (h:w.ownsRow base e 2 (.slice v n c) n (thV now)) {i:Nat} {t:Nat × Nat} (ht:now[i]?=some t) :
    ∃ b,v=some ⟨b,0,none⟩/\w.cell? ⟨b,i * 2,none⟩=some (.int .i64 (t.1:Int))/\w.cell? ⟨b,i * 2+1,none⟩=some (.int .i64 (t.2:Int)):=by
 obtain ⟨h1,h2⟩:=thV_get now i t ht;obtain ⟨b,hb,-, -, hc⟩:=own_cells h (fun e=>by rw [e] at h1;cases h1);exact ⟨b,hb,hc _ _ h1,hc _ _ h2⟩
theorem run_any {lo:Nat} {w:World} {sb:Nat} {l:List Nat} {L:List Sp} {tx:List UInt8} {opn there:Bool} {P0:Value × List (Nat × Nat)} {stamp from_:Nat} {s0:Sr}
    (h:SrAt lo w sb l L tx opn P0 [] stamp s0) (hok:ProgOk L) (h0:0 < L.length) (hL:L.length <= 5000) (hfr:from_ <= tx.length) (htx:tx.length <= 10000) (hstamp:stamp+tx.length+2 <= 1000000000000) (hnx:s0.next.length <= 5000) :
    Calls prog 80 #[.pointer (some ⟨sb,0,none⟩),.int .i64 (from_:Int),.bool there] w (RunPost lo w sb l L tx opn stamp (runS L tx opn there from_)):=by
 obtain ⟨R,hR⟩:∃ R,R=runS L tx opn there from_:=⟨_,rfl⟩;rw [<-hR];obtain ⟨nowv,now⟩:=P0;obtain ⟨A,c,A2,c2,nextv,seenv,todov,xs,st0,en,hl,hm⟩:=h;dsimp only at hl hm;obtain ⟨NA,nc,rfl⟩:=own_any hm.now_;obtain ⟨XA,xc,rfl⟩:=own_any hm.next_;obtain ⟨nN,hnN⟩:∃ n,n=now.length:=⟨_,rfl⟩;obtain ⟨xN,hxN⟩:∃ n,n=s0.next.length:=⟨_,rfl⟩;have hlt:=hm.blk.lt;have hlo:lo <= w.heap.size:=Nat.le_trans hm.lo_ (Nat.le_of_lt hlt);have hHS:w.cell? ⟨sb,3,none⟩=some (.slice NA nN nc)/\w.cell? ⟨sb,4,none⟩=some (.slice XA xN xc):=⟨by rw [hnN];exact hm.blk.cell_ rfl,by rw [hxN];exact hm.blk.cell_ rfl⟩;obtain ⟨r1,r2⟩:=own_room hm.now_;obtain ⟨r3,r4⟩:=own_room hm.next_;rw [<-hnN] at r1;rw [<-hxN] at r3;have f3:=hm.blk.frozen 3;have f4:=hm.blk.frozen 4;have f10:=hm.blk.frozen 10;have f5:=hm.blk.frozen 5;have HM:=zh hm;have HOK:=zh hok;have HR:=zh hR;have HLB:=zh hl;have HNN:=zh hnN;have HXN:=zh hxN;have HH:=zh hHS;clear hm hok hR hl hnN hxN hHS;go_enter func80,ntmps80
 go_upto_region 0 with fail
 refine wp_region_K_ (G:=fun a b=>a=b) (S:=fun W=>W.cell? ⟨sb,3,none⟩=some (.slice NA nN nc)/\W.cell? ⟨sb,4,none⟩=some (.slice XA xN xc)) 15 ⟨fun _=>rfl,fun a b c h k=>h.trans k,fun a b h k=>k ▸ h,by kernel_rfl,fun _ _ d _ _ h=>by cases d <;> exact h⟩ (by kernel_rfl) fun su=>?_
 have SU:=zh su;clear su;obtain ⟨wz,hwz⟩:∃ wz,wz=w.drew:=⟨_,rfl⟩;rw [<-hwz];have hmz:=HM.out.nil_ ((Fr.refl [] w).drew);rw [<-hwz] at hmz;have hfz:Fr [] w wz:=by rw [hwz];exact (Fr.refl [] w).drew
 have HS:Hid (wz.cell? ⟨sb,3,none⟩=some (.slice NA nN nc)/\wz.cell? ⟨sb,4,none⟩=some (.slice XA xN xc)):=zh (by rw [hwz];exact HH.out);have hltz:=hmz.blk.lt;have fz3:=hmz.blk.frozen 3;have fz4:=hmz.blk.frozen 4;have fz10:=hmz.blk.frozen 10;have cz3:=HS.out.1;have cz4:=HS.out.2;have cz10:wz.cell? ⟨sb,10,none⟩=some (.bool s0.fd.isSome):=hmz.blk.cell_ rfl;have HMZ:=zh hmz;have HFZ:=zh hfz;clear hmz hfz hwz HM HH f3 f4 f10 f5;refine K_move (i:=0) _ SU.out rfl rfl (by kernel_rfl) (fun _=>HS.out) rfl ?_;simp only [PE];refine K_move (i:=1) _ SU.out rfl rfl (by kernel_rfl) (fun _=>HS.out) rfl ?_;simp only [PE];refine K_move (i:=2) _ SU.out rfl rfl (by kernel_rfl) (fun _=>HS.out) rfl ?_;simp only [PE];refine K_move (i:=3) _ SU.out rfl rfl (by kernel_rfl) (fun _=>HS.out) rfl ?_;simp only [PE];refine K_val (i:=4) (v:=?_) SU.out rfl (by kernel_rfl) (fun _=>HS.out) rfl (fun W=>?_) ?_;rotate_left
 ·go_simp;first | done | rfl | omega | (exact IntWalk.i64_in _ (by omega)) | (simp <;> omega)
 simp only [PU];refine K_val (i:=5) (v:=?_) SU.out rfl (by kernel_rfl) (fun _=>HS.out) rfl (fun W=>?_) ?_;rotate_left
 ·go_simp;first | done | rfl | omega | (exact IntWalk.i64_in _ (by omega)) | (simp <;> omega)
 simp only [PU];refine K_load (i:=6) (v := .slice NA nN nc) SU.out rfl (by kernel_rfl) HS.out rfl (fun W hS=>?_) ?_
 ·obtain ⟨t3,t4⟩:=hS;go_simp;first | done | rfl | omega | (exact IntWalk.i64_in _ (by omega)) | (simp <;> omega)
 simp only [PU];refine K_val (i:=7) (v := .slice NA 0 nc) SU.out rfl (by kernel_rfl) (fun _=>HS.out) rfl (fun W=>?_) ?_
 ·go_simp;first | done | rfl | omega | (exact IntWalk.i64_in _ (by omega)) | (simp <;> omega)
 simp only [PU];refine K_move (i:=8) _ SU.out rfl rfl (by kernel_rfl) (fun _=>HS.out) rfl ?_;simp only [PE];refine K_val (i:=9) (v:=?_) SU.out rfl (by kernel_rfl) (fun _=>HS.out) rfl (fun W=>?_) ?_;rotate_left
 ·go_simp;first | done | rfl | omega | (exact IntWalk.i64_in _ (by omega)) | (simp <;> omega)
 simp only [PU];refine K_val (i:=10) (v:=?_) SU.out rfl (by kernel_rfl) (fun _=>HS.out) rfl (fun W=>?_) ?_;rotate_left
 ·go_simp;first | done | rfl | omega | (exact IntWalk.i64_in _ (by omega)) | (simp <;> omega)
 simp only [PU];refine K_load (i:=11) (v := .slice XA xN xc) SU.out rfl (by kernel_rfl) HS.out rfl (fun W hS=>?_) ?_
 ·obtain ⟨t3,t4⟩:=hS;go_simp;first | done | rfl | omega | (exact IntWalk.i64_in _ (by omega)) | (simp <;> omega)
 simp only [PU];refine K_val (i:=12) (v := .slice XA 0 xc) SU.out rfl (by kernel_rfl) (fun _=>HS.out) rfl (fun W=>?_) ?_
 ·go_simp;first | done | rfl | omega | (exact IntWalk.i64_in _ (by omega)) | (simp <;> omega)
 simp only [PU];refine K_val (i:=13) (v:=?_) SU.out rfl (by kernel_rfl) (fun _=>HS.out) rfl (fun W=>?_) ?_;rotate_left
 ·go_simp;first | done | rfl | omega | (exact IntWalk.i64_in _ (by omega)) | (simp <;> omega)
 simp only [PU];refine K_val (i:=14) (v:=?_) SU.out rfl (by kernel_rfl) (fun _=>HS.out) rfl (fun W=>?_) ?_;rotate_left
 ·go_simp;first | done | rfl | omega | (exact IntWalk.i64_in _ (by omega)) | (simp <;> omega)
 simp only [PU];refine wpAnyK_one (i:=15) (by kernel_rfl) rfl rfl (fun w' hG K' hK'=>?_);obtain rfl:=hG;go_simp;refine hK'.out _ _ (fun h=>kdone (by kernel_rfl) h) ?_;clear hK' K';refine K_val (i:=16) (v:=?_) SU.out rfl (by kernel_rfl) (fun h=>kdone (by kernel_rfl) h) rfl (fun W=>?_) ?_;rotate_left
 ·go_simp;first | done | rfl | omega | (exact IntWalk.i64_in _ (by omega)) | (simp <;> omega)
 simp only [PU];refine K_val (i:=17) (v:=?_) SU.out rfl (by kernel_rfl) (fun h=>kdone (by kernel_rfl) h) rfl (fun W=>?_) ?_;rotate_left
 ·go_simp;first | done | rfl | omega | (exact IntWalk.i64_in _ (by omega)) | (simp <;> omega)
 simp only [PU];refine wpAnyK_one (i:=18) (by kernel_rfl) rfl rfl (fun w' hG K' hK'=>?_);obtain rfl:=hG;go_simp;refine hK'.out _ _ (fun h=>kdone (by kernel_rfl) h) ?_;clear hK' K';refine K_val (i:=19) (v:=?_) SU.out rfl (by kernel_rfl) (fun h=>kdone (by kernel_rfl) h) rfl (fun W=>?_) ?_;rotate_left
 ·go_simp;first | done | rfl | omega | (exact IntWalk.i64_in _ (by omega)) | (simp <;> omega)
 simp only [PU];refine K_val (i:=20) (v:=?_) SU.out rfl (by kernel_rfl) (fun h=>kdone (by kernel_rfl) h) rfl (fun W=>?_) ?_;rotate_left
 ·go_simp;first | done | rfl | omega | (exact IntWalk.i64_in _ (by omega)) | (simp <;> omega)
 simp only [PU];refine wpAnyK_one (i:=21) (by kernel_rfl) rfl rfl (fun w' hG K' hK'=>?_);obtain rfl:=hG;go_simp;refine hK'.out _ _ (fun h=>kdone (by kernel_rfl) h) ?_;clear hK' K';refine wpAnyK_done (by kernel_rfl) (fun w' hG=>?_);obtain rfl:=hG;have hma:=HMZ.out.reset;obtain ⟨wa,hwa⟩:∃ wa,wa=(((wz.setCell ⟨sb,3,none⟩ (.slice NA 0 nc)).setCell ⟨sb,4,none⟩ (.slice XA 0 xc)).setCell ⟨sb,10,none⟩ (.bool false)):=⟨_,rfl⟩;have hfa:Fr l w wa:=by rw [hwa];exact (((HFZ.out.nil_ (l:=l)).setCell (.inl (by rw [HLB.out];simp [srBlocks])) _).setCell (.inl (by rw [HLB.out];simp [srBlocks])) _).setCell (.inl (by rw [HLB.out];simp [srBlocks])) _
 rw [<-hwa] at hma ⊢; have ca5:wa.cell? ⟨sb,5,none⟩=some (.int .i64 (stamp:Int)):=hma.blk.cell_ rfl;have fa5:=hma.blk.frozen 5;have hlta:=hma.blk.lt;have hwr:IntKind.i64.wrap ((stamp:Int)+1)=(stamp:Int)+1:=IntWalk.i64_in _ (by omega);have hmb:=hma.stamp1;rw [show (((stamp+1:Nat)):Int)=(stamp:Int)+1 by omega] at hmb;have hfb:Fr l w (wa.setCell ⟨sb,5,none⟩ (.int .i64 ((stamp:Int)+1))):=hfa.setCell (.inl (by rw [HLB.out];simp [srBlocks])) _
 have hob:SrOut lo w sb l L tx opn (.slice NA 0 nc,[]) [] (stamp+1) (bareS L none) (wa.setCell ⟨sb,5,none⟩ (.int .i64 ((stamp:Int)+1))):=SrOut.mk_ hmb hfb (fun b hb => .inl (by
  rw [HLB.out];have e1:(Value.slice NA 0 nc).ownBlock=(Value.slice NA now.length nc).ownBlock:=by cases NA <;> rfl
  have e2:(Value.slice XA 0 xc).ownBlock=(Value.slice XA s0.next.length xc).ownBlock:=by cases XA <;> rfl
  have hb':=srb_mem.1 hb;dsimp only at hb';rw [e1,e2] at hb'
  exact srb_mem.2 hb'))
 have HOB:=zh hob;clear hma hfa hwa hmb hfb hob HMZ HFZ HS SU cz3 cz4 cz10 fz3 fz4 fz10 hltz;go_wp2_with fail
 clear ca5 fa5 hlta hwr;have hOB:=HOB.out;obtain ⟨wb,hwb⟩:∃ wb,wb=wa.setCell ⟨sb,5,none⟩ (.int .i64 ((stamp:Int)+1)):=⟨_,rfl⟩;rw [<-hwb] at hOB ⊢; have HOB:=zh hOB;clear hwb hOB
 go_loopw [6] (fun v6 wr=>∃ a:Nat,v6 = .int .i64 (a:Int)/\RuRel lo w sb l L tx opn there from_ stamp a R wr) (fun v6 wr=>((tx.length:Int)+1 - intOf v6).toNat)
 case atStart=>exact ⟨from_,rfl,Nat.le_refl _,hfr,tx.length - from_+1,_,_,_,by omega,HOB.out,by omega,(bareS_nx none).1,(fun t ht=>by cases ht),HR.out.symm⟩
 case round=>
  obtain ⟨a,rfl,hfa,hal,f,P,sN,sp,hf,hout,hsp,hnx1,hin,hrun⟩:=hrel;obtain ⟨f,rfl⟩:∃ f0,f=f0+1:=⟨f - 1,by omega⟩;rw [runF_succ] at hrun;obtain ⟨s1,hs1⟩:∃ s1,s1=begS L tx opn there from_ a sN:=⟨_,rfl⟩;rw [<-hs1] at hrun;obtain ⟨B1,hB1⟩:∃ B1,B1=decide (a=from_ ∨ (there=false/\sN.fd=none)):=⟨_,rfl⟩;obtain ⟨l1,⟨A1,c1,A21,c21,xv1,sv1,tv1,ys1,s01,en1,hl1,hm1⟩,hfr1,hl1b⟩:=hout;have c10:wr.cell? ⟨sb,10,none⟩=some (.bool sN.fd.isSome):=hm1.blk.cell_ rfl;have hltr:=hm1.blk.lt;have HRUN:=zh hrun;have HS1:=zh hs1;have HB1:=zh hB1;have HM1:=zh hm1;have HF1:=zh hfr1;have HIN:=zh hin;have HL1:=zh hl1;have HL1B:=zh hl1b;have HSP:=zh hsp;have HNX1:=zh hnx1;clear hrun hs1 hB1 hm1 hfr1 hin hl1 hl1b hsp hnx1 HOB HR;go_upto_region 4 with fail
  go_cut [53] from 40 to 54 (fun v53 wx=>v53 = .bool B1/\wx=wr)
  case first=>
   by_cases ha0:a=from_
   ·have ha1:((a:Int) == (from_:Int))=true:=by simp;omega
    have HA:=zh ha0;clear ha0;go_wp2_with fail
    go_meet
    case rel=>exact ⟨by rw [HB1.out];simp [HA.out],rfl⟩
   have ha1:((a:Int) == (from_:Int))=false:=by simp;omega
   have HA:=zh ha0;clear ha0
   cases there with
   | true=>
    go_wp2_with fail
    go_meet
    case rel=>exact ⟨by rw [HB1.out];simp [HA.out],rfl⟩
   | false=>
    obtain ⟨fd,hfd⟩:∃ fd,sN.fd=fd:=⟨_,rfl⟩;rw [hfd] at c10;have HFD:=zh hfd;clear hfd
    cases fd with
    | none=>
     have c10':wr.cell? ⟨sb,10,none⟩=some (.bool false):=c10;clear c10;go_wp2_with fail
     go_meet
     case rel=>exact ⟨by rw [HB1.out];simp [HA.out,HFD.out],rfl⟩
    | some q=>
     have c10':wr.cell? ⟨sb,10,none⟩=some (.bool true):=c10;clear c10;go_wp2_with fail
     go_meet
     case rel=>exact ⟨by rw [HB1.out];simp [HA.out,HFD.out],rfl⟩
  case rest=>
   obtain ⟨rfl,rfl⟩:=hcut;have hsin:SrAt lo wc sb l1 L tx opn P [] sp sN:=⟨A1,c1,A21,c21,xv1,sv1,tv1,ys1,s01,en1,HL1.out,HM1.out⟩;have hsb:sp <= 1000000000000:=by have:=HSP.out;omega
   cases B1
   case' true=>
    have hb1:a=from_ ∨ (there=false/\sN.fd=none):=by have:=HB1.out;simpa using this
    have he1:s1=standS L tx.length opn 0 a a sN:=by rw [HS1.out];unfold begS;rw [if_pos hb1]
    have HST:=zh (stand_any hsin HOK.out h0 hL hal (by omega) (by omega:a <= 100000) hsb HNX1.out);have HE1:=zh he1;have HNX2:=zh (standS_nx (opn:=opn) (n:=tx.length) (st:=a) (a:=a) HOK.out h0 (by rw [HM1.out.vis,List.length_map];exact HM1.out.len) HNX1.out);have HIN2:=zh (standS_in (opn:=opn) (n:=tx.length) (st:=a) (a:=a) (M:=a) HOK.out (Nat.le_refl _) h0 HIN.out);clear hb1 he1 hsin c10;go_wp2_with fail
    go_at_call 96
    refine HST.out.mono ?_;rintro e wm ⟨rfl,hout⟩;have HO1:Hid (SrOut lo w sb l L tx opn P [] sp s1 wm):=zh (by rw [HE1.out];exact hout.on HF1.out HL1B.out);have hnx2:s1.next.length+unseen s1.vis <= L.length:=by rw [HE1.out];exact HNX2.out.1
    have hin2:∀ t ∈ s1.next,t.1 < L.length/\t.2 <= a:=by rw [HE1.out];exact HIN2.out
    have HN2:=zh hnx2;have HI2:=zh hin2;clear hout hnx2 hin2 HST HE1 HNX2 HIN2 HM1 HF1 HL1 HL1B HNX1 HIN HS1 HB1;go_upto_region 6 with fail
   case' false=>
    have hb1:¬ (a=from_ ∨ (there=false/\sN.fd=none)):=by have:=HB1.out;simpa using this
    have he1:s1=sN:=by rw [HS1.out];unfold begS;rw [if_neg hb1]
    subst he1;have HO1:Hid (SrOut lo w sb l L tx opn P [] sp s1 wc):=zh (SrOut.mk_ HM1.out HF1.out (by rw [<-HL1.out];exact HL1B.out));have HN2:=HNX1;have HI2:=HIN;clear hb1 hsin c10 HM1 HF1 HL1 HL1B HNX1 HIN HS1 HB1;go_upto_region 6 with fail
    revert HO1
    generalize wc=wm
    intro HO1
   all_goals
    obtain ⟨nowv1,now1⟩:=P;obtain ⟨l2,⟨A2a,c2a,A2t,c2t,xv2,sv2,tv2,ys2,s02,en2,hl2,hm2⟩,hf2,hl2b⟩:=HO1.out;dsimp only at hl2 hm2;obtain ⟨NB,nd,rfl⟩:=own_any hm2.now_;obtain ⟨XB,xd,rfl⟩:=own_any hm2.next_;obtain ⟨nn,hnn⟩:∃ n,n=now1.length:=⟨_,rfl⟩;obtain ⟨xn,hxn⟩:∃ n,n=s1.next.length:=⟨_,rfl⟩;obtain ⟨q1,q2⟩:=own_room hm2.now_;obtain ⟨q3,q4⟩:=own_room hm2.next_;rw [<-hnn] at q1;rw [<-hxn] at q3;obtain ⟨wz,hwz⟩:∃ wz,wz=wm.drew:=⟨_,rfl⟩;have hmz:=hm2.nil_ ((Fr.refl [] wm).drew);rw [<-hwz] at hmz;have hfz:Fr l w wz:=by rw [hwz];exact hf2.drew
    have HS:Hid (wz.cell? ⟨sb,4,none⟩=some (.slice XB xn xd)/\wz.cell? ⟨sb,3,none⟩=some (.slice NB nn nd)):=zh ⟨by rw [hxn];exact hmz.blk.cell_ rfl,by rw [hnn];exact hmz.blk.cell_ rfl⟩;have hltz:=hmz.blk.lt;have fz3:=hmz.blk.frozen 3;have fz4:=hmz.blk.frozen 4;have cz3:=HS.out.2;have cz4:=HS.out.1;have HMZ:=zh hmz;have HFZ:=zh hfz;have HL2B:=zh hl2b;have HL2:=zh hl2;have HWZ:=zh hwz;have HNN2:=zh hnn;have HXN2:=zh hxn;clear hmz hfz hm2 hf2 hl2 hl2b hwz hnn hxn HO1;refine wp_region_K_ (G:=fun a b=>a=b) (S:=fun W=>W.cell? ⟨sb,4,none⟩=some (.slice XB xn xd)/\W.cell? ⟨sb,3,none⟩=some (.slice NB nn nd)) 13 ⟨fun _=>rfl,fun a b c h k=>h.trans k,fun a b h k=>k ▸ h,by kernel_rfl,fun _ _ d _ _ h=>by cases d <;> exact h⟩ (by kernel_rfl) fun su=>?_
    have SU:=zh su;clear su;rw [<-HWZ.out];refine K_move (i:=0) _ SU.out rfl rfl (by kernel_rfl) (fun _=>HS.out) rfl ?_;simp only [PE];refine K_move (i:=1) _ SU.out rfl rfl (by kernel_rfl) (fun _=>HS.out) rfl ?_;simp only [PE];refine K_move (i:=2) _ SU.out rfl rfl (by kernel_rfl) (fun _=>HS.out) rfl ?_;simp only [PE];refine K_val (i:=3) (v:=?_) SU.out rfl (by kernel_rfl) (fun _=>HS.out) rfl (fun W=>?_) ?_;rotate_left
    ·go_simp;first | done | rfl | omega | (exact IntWalk.i64_in _ (by omega)) | (simp <;> omega)
    simp only [PU];refine K_val (i:=4) (v:=?_) SU.out rfl (by kernel_rfl) (fun _=>HS.out) rfl (fun W=>?_) ?_;rotate_left
    ·go_simp;first | done | rfl | omega | (exact IntWalk.i64_in _ (by omega)) | (simp <;> omega)
    simp only [PU];refine K_load (i:=5) (v := .slice XB xn xd) SU.out rfl (by kernel_rfl) HS.out rfl (fun W hS=>?_) ?_
    ·obtain ⟨t4,t3⟩:=hS;go_simp;first | done | rfl | omega | (exact IntWalk.i64_in _ (by omega)) | (simp <;> omega)
    simp only [PU];refine K_move (i:=6) _ SU.out rfl rfl (by kernel_rfl) (fun _=>HS.out) rfl ?_;simp only [PE];refine K_val (i:=7) (v:=?_) SU.out rfl (by kernel_rfl) (fun _=>HS.out) rfl (fun W=>?_) ?_;rotate_left
    ·go_simp;first | done | rfl | omega | (exact IntWalk.i64_in _ (by omega)) | (simp <;> omega)
    simp only [PU];refine K_val (i:=8) (v:=?_) SU.out rfl (by kernel_rfl) (fun _=>HS.out) rfl (fun W=>?_) ?_;rotate_left
    ·go_simp;first | done | rfl | omega | (exact IntWalk.i64_in _ (by omega)) | (simp <;> omega)
    simp only [PU];refine K_load (i:=9) (v := .slice NB nn nd) SU.out rfl (by kernel_rfl) HS.out rfl (fun W hS=>?_) ?_
    ·obtain ⟨t4,t3⟩:=hS;go_simp;first | done | rfl | omega | (exact IntWalk.i64_in _ (by omega)) | (simp <;> omega)
    simp only [PU];refine K_val (i:=10) (v := .slice NB 0 nd) SU.out rfl (by kernel_rfl) (fun _=>HS.out) rfl (fun W=>?_) ?_
    ·go_simp;first | done | rfl | omega | (exact IntWalk.i64_in _ (by omega)) | (simp <;> omega)
    simp only [PU];refine K_val (i:=11) (v:=?_) SU.out rfl (by kernel_rfl) (fun _=>HS.out) rfl (fun W=>?_) ?_;rotate_left
    ·go_simp;first | done | rfl | omega | (exact IntWalk.i64_in _ (by omega)) | (simp <;> omega)
    simp only [PU];refine K_val (i:=12) (v:=?_) SU.out rfl (by kernel_rfl) (fun _=>HS.out) rfl (fun W=>?_) ?_;rotate_left
    ·go_simp;first | done | rfl | omega | (exact IntWalk.i64_in _ (by omega)) | (simp <;> omega)
    simp only [PU];refine wpAnyK_one (i:=13) (by kernel_rfl) rfl rfl (fun w' hG K' hK'=>?_);obtain rfl:=hG;go_simp;refine hK'.out _ _ (fun h=>kdone (by kernel_rfl) h) ?_;clear hK' K';refine K_val (i:=14) (v:=?_) SU.out rfl (by kernel_rfl) (fun h=>kdone (by kernel_rfl) h) rfl (fun W=>?_) ?_;rotate_left
    ·go_simp;first | done | rfl | omega | (exact IntWalk.i64_in _ (by omega)) | (simp <;> omega)
    simp only [PU];refine K_val (i:=15) (v:=?_) SU.out rfl (by kernel_rfl) (fun h=>kdone (by kernel_rfl) h) rfl (fun W=>?_) ?_;rotate_left
    ·go_simp;first | done | rfl | omega | (exact IntWalk.i64_in _ (by omega)) | (simp <;> omega)
    simp only [PU];refine wpAnyK_one (i:=16) (by kernel_rfl) rfl rfl (fun w' hG K' hK'=>?_);obtain rfl:=hG;go_simp;refine hK'.out _ _ (fun h=>kdone (by kernel_rfl) h) ?_;clear hK' K';refine wpAnyK_done (by kernel_rfl) (fun w' hG=>?_);obtain rfl:=hG;have hmn:=HMZ.out.swap;have hfn:Fr l w ((wz.setCell ⟨sb,3,none⟩ (.slice XB xn xd)).setCell ⟨sb,4,none⟩ (.slice NB 0 nd)):=(HFZ.out.setCell (HL2B.out sb (by rw [HL2.out];simp [srBlocks])) _).setCell (HL2B.out sb (by rw [HL2.out];simp [srBlocks])) _
    have hbn:∀ b ∈ srBlocks sb (.slice XB xn xd) (.slice NB 0 nd) sv2 tv2,b ∈ l ∨ w.heap.size <= b:=fun b hb=>HL2B.out b (by
     rw [HL2.out];have e1:(Value.slice NB 0 nd).ownBlock=(Value.slice NB now1.length nd).ownBlock:=by cases NB <;> rfl
     have e2:(Value.slice XB xn xd).ownBlock=(Value.slice XB s1.next.length xd).ownBlock:=by cases XB <;> rfl
     have hb':=srb_mem.1 hb;rw [e1,e2] at hb';refine srb_mem.2 ?_;rcases hb' with h | h | h | h | h
     ·exact .inl h
     ·exact .inr (.inr (.inl h))
     ·exact .inr (.inl h)
     ·exact .inr (.inr (.inr (.inl h)))
     exact .inr (.inr (.inr (.inr h))))
    rw [<-HXN2.out] at hmn;obtain ⟨wn,hwn⟩:∃ wn,wn=(wz.setCell ⟨sb,3,none⟩ (.slice XB xn xd)).setCell ⟨sb,4,none⟩ (.slice NB 0 nd):=⟨_,rfl⟩;rw [<-hwn] at hmn hfn ⊢; obtain ⟨B2,hB2⟩:∃ B2,B2=decide (a=tx.length ∨ (s1.next=[]/\(there=true ∨ s1.fd ≠ none))):=⟨_,rfl⟩;have n1:wn.cell? ⟨sb,1,none⟩=some (.slice A2t tx.length c2t):=hmn.blk.cell_ rfl;have n3:wn.cell? ⟨sb,3,none⟩=some (.slice XB xn xd):=hmn.blk.cell_ rfl;have n5:wn.cell? ⟨sb,5,none⟩=some (.int .i64 (sp:Int)):=hmn.blk.cell_ rfl;have n10:wn.cell? ⟨sb,10,none⟩=some (.bool s1.fd.isSome):=hmn.blk.cell_ rfl;have hltn:=hmn.blk.lt;have fn5:=hmn.blk.frozen 5;have HMN:=zh hmn;have HFN:=zh hfn;have HBN:=zh hbn;have HB2:=zh hB2;have hxb:xn <= 5000:=by have:=HN2.out;rw [HXN2.out];omega
    have hxe:(s1.next=[]) ↔ xn=0:=by rw [HXN2.out];exact List.length_eq_zero_iff.symm
    have HXE:=zh hxe;clear hmn hfn hbn hwn HMZ HFZ HL2B HL2 HWZ HNN2 HS SU cz3 cz4 fz3 fz4 hltz hB2 hxe;go_upto_region 7 with fail
    go_cut [96] from 73 to 97 (fun v96 wx=>v96 = .bool B2/\wx=wn)
    case first=>
     by_cases hal0:a=tx.length
     ·have hal1:((a:Int) == (tx.length:Int))=true:=by simp;omega
      have HA:=zh hal0;clear hal0;go_wp2_with fail
      go_meet
      case rel=>exact ⟨by rw [HB2.out];simp [HA.out],rfl⟩
     have hal1:((a:Int) == (tx.length:Int))=false:=by simp;omega
     have HA:=zh hal0;clear hal0;by_cases hx0:xn=0
     ·have hx1:((xn:Int) == 0)=true:=by simp;omega
      have HX:=zh hx0;clear hx0
      cases there with
      | true=>
       go_wp2_with fail
       go_meet
       case rel=>exact ⟨by rw [HB2.out];simp [HXE.out,HX.out],rfl⟩
      | false=>
       obtain ⟨fd,hfd⟩:∃ fd,s1.fd=fd:=⟨_,rfl⟩;rw [hfd] at n10;have HFD:=zh hfd;clear hfd
       cases fd with
       | none=>
        have n10':wn.cell? ⟨sb,10,none⟩=some (.bool false):=n10;clear n10;go_wp2_with fail
        go_meet
        case rel=>exact ⟨by rw [HB2.out];simp [HA.out,HFD.out],rfl⟩
       | some q=>
        have n10':wn.cell? ⟨sb,10,none⟩=some (.bool true):=n10;clear n10;go_wp2_with fail
        go_meet
        case rel=>exact ⟨by rw [HB2.out];simp [HXE.out,HX.out,HFD.out],rfl⟩
     have hx1:((xn:Int) == 0)=false:=by simp;omega
     have HX:=zh hx0;clear hx0;go_wp2_with fail
     go_meet
     case rel=>exact ⟨by rw [HB2.out];simp [HA.out,HXE.out,HX.out],rfl⟩
    case rest=>
     obtain ⟨rfl,rfl⟩:=hcut
     cases B2 with
     | true=>
      have hb2:a=tx.length ∨ (s1.next=[]/\(there=true ∨ s1.fd ≠ none)):=by have:=HB2.out;simpa using this
      have hres:R=(s1.next,s1.fd):=by have:=HRUN.out;rw [if_pos hb2] at this;exact this.symm
      have HRES:=zh hres;clear hb2 hres;go_wp2_with fail
      go_end0
      exact ⟨rfl,_,_,sp,SrOut.mk_ (P:=(.slice XB xn xd,s1.next)) HMN.out HFN.out HBN.out,by rw [HRES.out],by rw [HRES.out],by have:=HSP.out;omega,rfl⟩
     | false=>
      as_aux_lemma=>
       have hb2:¬ (a=tx.length ∨ (s1.next=[]/\(there=true ∨ s1.fd ≠ none))):=by have:=HB2.out;simpa using this
       have han:a < tx.length:=Nat.lt_of_le_of_ne hal (fun e=>hb2 (.inl e));have hres:=HRUN.out;rw [if_neg hb2] at hres;obtain ⟨cb,hcb⟩:∃ cb,cb=(tx.getD a 0).toNat:=⟨_,rfl⟩;have hcb256:cb < 256:=by rw [hcb];exact UInt8.toNat_lt _
       rw [<-hcb] at hres;obtain ⟨RES,hRES⟩:∃ RES,RES=feedS L tx.length opn cb (a+1) s1.next (bareS L s1.fd):=⟨_,rfl⟩;rw [<-hRES] at hres;have hwr5:IntKind.i64.wrap ((sp:Int)+1)=(sp:Int)+1:=IntWalk.i64_in _ (by have:=HSP.out;omega);have hmo:=HMN.out.stamp1;rw [show (((sp+1:Nat)):Int)=(sp:Int)+1 by omega] at hmo;have hfo:Fr l w (wc.setCell ⟨sb,5,none⟩ (.int .i64 ((sp:Int)+1))):=HFN.out.setCell (HBN.out sb (by simp [srBlocks])) _;have HMO:=zh hmo;have HFO:=zh hfo;have HCB:=zh hcb;have HRES:=zh hres;have HRE:=zh hRES;clear hb2 hres hcb hRES hmo hfo;go_upto_region 9 with fail
       clear n1 n3 n5 n10 fn5 hltn hwr5;have hMO:=HMO.out;have hFO:=HFO.out;obtain ⟨wo,hwo⟩:∃ wo,wo=wc.setCell ⟨sb,5,none⟩ (.int .i64 ((sp:Int)+1)):=⟨_,rfl⟩;rw [<-hwo] at hMO hFO ⊢; have HMO:=zh hMO;have HFO:=zh hFO;have o1:wo.cell? ⟨sb,1,none⟩=some (.slice A2t tx.length c2t):=hMO.blk.cell_ rfl;have o3:wo.cell? ⟨sb,3,none⟩=some (.slice XB xn xd):=hMO.blk.cell_ rfl;obtain ⟨ad,had,hbyte⟩:=text_byte hMO.text han;rw [<-HCB.out] at hbyte;subst had;have hanI:(a:Int) < (tx.length:Int):=by omega
       have hout0:SrOut lo w sb l L tx opn (.slice XB xn xd,s1.next) [] (sp+1) (bareS L s1.fd) wo:=SrOut.mk_ (P:=(.slice XB xn xd,s1.next)) hMO hFO HBN.out;have HOUT0:=zh hout0;clear hwo hMO hFO HMN HFN HMO HFO hout0 HBN;go_wp2_with fail
       clear o1 o3 hbyte
       go_loopw [116] (fun v116 wr=>∃ i:Nat,v116 = .int .i64 (i:Int)/\i <= xn/\FeRel lo w sb l L tx opn (.slice XB xn xd,s1.next) (sp+1) a cb i RES wr) (fun v116 _=>xn - (intOf v116).toNat)
       case atStart=>exact ⟨0,rfl,Nat.zero_le _,bareS L s1.fd,HOUT0.out,(bareS_nx _).1,(fun t ht=>by cases ht),HRE.out.symm⟩
       case round=>
        obtain ⟨i,rfl,hi,sc,hout,hnx,hin,hfe⟩:=hrel;obtain ⟨l3,⟨A3,c3,A23,c23,xv3,sv3,tv3,ys3,s03,en3,hl3,hm3⟩,hf3,hl3b⟩:=hout;dsimp only at hl3 hm3 hfe;have HFE:=zh hfe;have HIN3:=zh hin;have HM3:=zh hm3;have HF3:=zh hf3;have HL3:=zh hl3;have HL3B:=zh hl3b;have HNX3:=zh hnx;clear hfe hin hm3 hf3 hl3 hl3b hnx HOUT0;rcases Nat.lt_or_ge i xn with hix | hix
        ·as_aux_lemma=>
          have hlen:i < s1.next.length:=by rw [<-HXN2.out];exact hix
          obtain ⟨t,ht⟩:∃ t,s1.next[i]?=some t:=⟨s1.next[i]'hlen,List.getElem?_eq_getElem _⟩
          have hdr:s1.next.drop i=t :: s1.next.drop (i+1):=by
           rw [List.drop_eq_getElem_cons hlen];rw [List.getElem?_eq_getElem hlen] at ht;injection ht with ht;rw [ht]
          have hnow:=HM3.out.now_;rw [<-HXN2.out] at hnow;obtain ⟨BN,hBN,e0,e1⟩:=own_th hnow ht;subst hBN;obtain ⟨t1,t2⟩:=t;dsimp only at e0 e1;obtain ⟨ht1,ht2⟩:=HI2.out _ (List.mem_of_getElem? ht);dsimp only at ht1 ht2;have hixI:(i:Int) < (xn:Int):=by omega
          have hfe:=HFE.out;rw [hdr] at hfe;have HFE:=zh hfe;clear hlen ht hdr hnow hfe;go_upto_region 13 with fail
          obtain ⟨wt,hwt⟩:∃ wt,wt=wr.alloc (.cells #[.int .i64 (t1:Int),.int .i64 (t2:Int)] 199):=⟨_,rfl⟩;have hbt:Bk wt wr.heap.size 199 #[.int .i64 (t1:Int),.int .i64 (t2:Int)]:=by rw [hwt];exact Bk.new wr _ _
          have hmt:=HM3.out.nil_ ((Fr.refl [] wr).alloc (.cells #[.int .i64 (t1:Int),.int .i64 (t2:Int)] 199));have hft:Fr l w wt:=by rw [hwt];exact HF3.out.alloc _
          rw [<-hwt] at hmt ⊢; obtain ⟨b9,hb9⟩:∃ b9,b9=wr.heap.size:=⟨_,rfl⟩;rw [<-hb9] at hbt ⊢; have tc0:wt.cell? ⟨b9,0,none⟩=some (.int .i64 (t1:Int)):=hbt.cell_ (i:=0) rfl;have tc1:wt.cell? ⟨b9,1,none⟩=some (.int .i64 (t2:Int)):=hbt.cell_ (i:=1) rfl;have t10:wt.cell? ⟨sb,10,none⟩=some (.bool sc.fd.isSome):=hmt.blk.cell_ rfl;have t8:wt.cell? ⟨sb,8,none⟩=some (.int .i64 s03):=hmt.blk.cell_ rfl;have hqf:=hmt.fd;have HBT:=zh hbt;have HMT:=zh hmt;have HFT:=zh hft;have HB3:Hid (∀ b ∈ srBlocks sb (.slice (some ⟨BN,0,none⟩) xn xd) xv3 sv3 tv3,b ∈ l ∨ w.heap.size <= b):=zh (by rw [<-HL3.out];exact HL3B.out);clear hbt hmt hft hwt hb9 HM3 HF3 e0 e1 HL3 HL3B;obtain ⟨fd,hfd⟩:∃ fd,sc.fd=fd:=⟨_,rfl⟩;rw [hfd] at t10 hqf;have HFD:=zh hfd;clear hfd
          cases fd
          case' none=>
           have t10':wt.cell? ⟨sb,10,none⟩=some (.bool false):=t10;clear t10;refine wp_region_M_ (G:=fun a b=>a=b) (S:=fun W=>W=wt.drew) ⟨fun _=>rfl,fun a b c h k=>h.trans k,fun a b h k=>k ▸ h,by kernel_rfl,fun _ _ d _ _ h=>by cases d <;> exact h⟩ (by kernel_rfl) fun su=>?_
           have SU:=zh su;have HS:Hid (wt.drew=wt.drew):=zh rfl;clear su;refine M_m 0 SU.out HS.out ?_;simp only [PE];refine M_v 1 ?_ SU.out HS.out (fun W hS=>?_) ?_;rotate_left
           ·obtain rfl:=hS;go_simp;first | done | rfl | omega | (exact IntWalk.i64_in _ (by omega)) | (simp <;> omega)
           simp only [PU];refine M_v 2 ?_ SU.out HS.out (fun W hS=>?_) ?_;rotate_left
           ·obtain rfl:=hS;go_simp;first | done | rfl | omega | (exact IntWalk.i64_in _ (by omega)) | (simp <;> omega)
           simp only [PU];refine M_v 3 (.bool false) SU.out HS.out (fun W hS=>?_) ?_
           ·obtain rfl:=hS;go_simp;first | done | rfl | omega | (exact IntWalk.i64_in _ (by omega)) | (simp <;> omega)
           simp only [PU];refine M_m 4 SU.out HS.out ?_;simp only [PE];refine M_skip (i:=5) SU.out rfl (by kernel_rfl) HS.out rfl ?_;simp only [PU];refine M_skip (i:=6) SU.out rfl (by kernel_rfl) HS.out rfl ?_;simp only [PU];refine M_skip (i:=7) SU.out rfl (by kernel_rfl) HS.out rfl ?_;simp only [PU];refine M_skip (i:=8) SU.out rfl (by kernel_rfl) HS.out rfl ?_;simp only [PU];refine M_skip (i:=9) SU.out rfl (by kernel_rfl) HS.out rfl ?_;simp only [PU];refine M_skip (i:=10) SU.out rfl (by kernel_rfl) HS.out rfl ?_;simp only [PU];refine M_skip (i:=11) SU.out rfl (by kernel_rfl) HS.out rfl ?_;simp only [PU];refine M_v 12 (.bool false) SU.out HS.out (fun W hS=>?_) ?_
           ·obtain rfl:=hS;go_simp;first | done | rfl | omega | (exact IntWalk.i64_in _ (by omega)) | (simp <;> omega)
           simp only [PU];refine wpAnyM_done (by kernel_rfl) (fun w' hG=>?_);obtain rfl:=hG
          case' some q=>
           have t10':wt.cell? ⟨sb,10,none⟩=some (.bool true):=t10;clear t10;obtain ⟨hq1,-⟩:=hqf q rfl;subst hq1;clear hqf;rcases Nat.lt_or_ge q.1 t2 with hqt | hqt
           ·have hqt1:(q.1:Int) < (t2:Int):=by omega
            refine wp_region_M_ (G:=fun a b=>a=b) (S:=fun W=>W=wt.drew) ⟨fun _=>rfl,fun a b c h k=>h.trans k,fun a b h k=>k ▸ h,by kernel_rfl,fun _ _ d _ _ h=>by cases d <;> exact h⟩ (by kernel_rfl) fun su=>?_
            have SU:=zh su;have HS:Hid (wt.drew=wt.drew):=zh rfl;clear su;refine M_m 0 SU.out HS.out ?_;simp only [PE];refine M_v 1 ?_ SU.out HS.out (fun W hS=>?_) ?_;rotate_left
            ·obtain rfl:=hS;go_simp;first | done | rfl | omega | (exact IntWalk.i64_in _ (by omega)) | (simp <;> omega)
            simp only [PU];refine M_v 2 ?_ SU.out HS.out (fun W hS=>?_) ?_;rotate_left
            ·obtain rfl:=hS;go_simp;first | done | rfl | omega | (exact IntWalk.i64_in _ (by omega)) | (simp <;> omega)
            simp only [PU];refine M_v 3 (.bool true) SU.out HS.out (fun W hS=>?_) ?_
            ·obtain rfl:=hS;go_simp;first | done | rfl | omega | (exact IntWalk.i64_in _ (by omega)) | (simp <;> omega)
            simp only [PU];refine M_m 4 SU.out HS.out ?_;simp only [PE];refine M_v 5 ?_ SU.out HS.out (fun W hS=>?_) ?_;rotate_left
            ·obtain rfl:=hS;go_simp;first | done | rfl | omega | (exact IntWalk.i64_in _ (by omega)) | (simp <;> omega)
            simp only [PU];refine M_v 6 (.int .i64 (t2:Int)) SU.out HS.out (fun W hS=>?_) ?_
            ·obtain rfl:=hS;go_simp;first | done | rfl | omega | (exact IntWalk.i64_in _ (by omega)) | (simp <;> omega)
            simp only [PU];refine M_m 7 SU.out HS.out ?_;simp only [PE];refine M_v 8 ?_ SU.out HS.out (fun W hS=>?_) ?_;rotate_left
            ·obtain rfl:=hS;go_simp;first | done | rfl | omega | (exact IntWalk.i64_in _ (by omega)) | (simp <;> omega)
            simp only [PU];refine M_v 9 ?_ SU.out HS.out (fun W hS=>?_) ?_;rotate_left
            ·obtain rfl:=hS;go_simp;first | done | rfl | omega | (exact IntWalk.i64_in _ (by omega)) | (simp <;> omega)
            simp only [PU];refine M_v 10 (.int .i64 (q.1:Int)) SU.out HS.out (fun W hS=>?_) ?_
            ·obtain rfl:=hS;go_simp;first | done | rfl | omega | (exact IntWalk.i64_in _ (by omega)) | (simp <;> omega)
            simp only [PU];refine M_v 11 (.bool true) SU.out HS.out (fun W hS=>?_) ?_
            ·obtain rfl:=hS;go_simp;first | done | rfl | omega | (exact IntWalk.i64_in _ (by omega)) | (simp <;> omega)
            simp only [PU];refine M_v 12 (.bool true) SU.out HS.out (fun W hS=>?_) ?_
            ·obtain rfl:=hS;go_simp;first | done | rfl | omega | (exact IntWalk.i64_in _ (by omega)) | (simp <;> omega)
            simp only [PU];refine wpAnyM_done (by kernel_rfl) (fun w' hG=>?_);obtain rfl:=hG;have hfin:sc=RES:=by have:=HFE.out;rw [feedS_brk HFD.out hqt] at this;exact this
            obtain ⟨wu,hwu⟩:∃ wu,wu=wt.drew:=⟨_,rfl⟩;rw [<-hwu];have hmu:=HMT.out.nil_ ((Fr.refl [] wt).drew);rw [<-hwu] at hmu;have hfu:Fr l w wu:=by rw [hwu];exact HFT.out.drew
            have hbu:Bk wu b9 199 #[.int .i64 (t1:Int),.int .i64 (t2:Int)]:=by rw [hwu];exact HBT.out.drew
            have HMU:=zh hmu;have HFU:=zh hfu;have HBU:=zh hbu;clear hmu hfu hbu hwu HMT HFT HBT SU HS tc0 tc1 t8;have HOL:Hid (SrOut lo w sb l L tx opn (.slice (some ⟨BN,0,none⟩) xn xd,s1.next) [] (sp+1) sc wu):=zh (SrOut.mk_ (P:=(.slice (some ⟨BN,0,none⟩) xn xd,s1.next)) HMU.out HFU.out HB3.out);subst hfin;go_wp2_with fail
            go_roundw
            case rel=>exact ⟨a+1,by go_num,by omega,han,f,(.slice (some ⟨BN,0,none⟩) xn xd,s1.next),sc,sp+1,by omega,HOL.out,by have:=HSP.out;omega,HNX3.out,(fun t ht=>⟨(HIN3.out t ht).1,Nat.le_succ_of_le (HIN3.out t ht).2⟩),HRES.out⟩
            case measure=>simp [intOf] <;> omega
           have hqt1:¬ ((q.1:Int) < (t2:Int)):=by omega
           refine wp_region_M_ (G:=fun a b=>a=b) (S:=fun W=>W=wt.drew) ⟨fun _=>rfl,fun a b c h k=>h.trans k,fun a b h k=>k ▸ h,by kernel_rfl,fun _ _ d _ _ h=>by cases d <;> exact h⟩ (by kernel_rfl) fun su=>?_
           have SU:=zh su;have HS:Hid (wt.drew=wt.drew):=zh rfl;clear su;refine M_m 0 SU.out HS.out ?_;simp only [PE];refine M_v 1 ?_ SU.out HS.out (fun W hS=>?_) ?_;rotate_left
           ·obtain rfl:=hS;go_simp;first | done | rfl | omega | (exact IntWalk.i64_in _ (by omega)) | (simp <;> omega)
           simp only [PU];refine M_v 2 ?_ SU.out HS.out (fun W hS=>?_) ?_;rotate_left
           ·obtain rfl:=hS;go_simp;first | done | rfl | omega | (exact IntWalk.i64_in _ (by omega)) | (simp <;> omega)
           simp only [PU];refine M_v 3 (.bool true) SU.out HS.out (fun W hS=>?_) ?_
           ·obtain rfl:=hS;go_simp;first | done | rfl | omega | (exact IntWalk.i64_in _ (by omega)) | (simp <;> omega)
           simp only [PU];refine M_m 4 SU.out HS.out ?_;simp only [PE];refine M_v 5 ?_ SU.out HS.out (fun W hS=>?_) ?_;rotate_left
           ·obtain rfl:=hS;go_simp;first | done | rfl | omega | (exact IntWalk.i64_in _ (by omega)) | (simp <;> omega)
           simp only [PU];refine M_v 6 (.int .i64 (t2:Int)) SU.out HS.out (fun W hS=>?_) ?_
           ·obtain rfl:=hS;go_simp;first | done | rfl | omega | (exact IntWalk.i64_in _ (by omega)) | (simp <;> omega)
           simp only [PU];refine M_m 7 SU.out HS.out ?_;simp only [PE];refine M_v 8 ?_ SU.out HS.out (fun W hS=>?_) ?_;rotate_left
           ·obtain rfl:=hS;go_simp;first | done | rfl | omega | (exact IntWalk.i64_in _ (by omega)) | (simp <;> omega)
           simp only [PU];refine M_v 9 ?_ SU.out HS.out (fun W hS=>?_) ?_;rotate_left
           ·obtain rfl:=hS;go_simp;first | done | rfl | omega | (exact IntWalk.i64_in _ (by omega)) | (simp <;> omega)
           simp only [PU];refine M_v 10 (.int .i64 (q.1:Int)) SU.out HS.out (fun W hS=>?_) ?_
           ·obtain rfl:=hS;go_simp;first | done | rfl | omega | (exact IntWalk.i64_in _ (by omega)) | (simp <;> omega)
           simp only [PU];refine M_v 11 (.bool false) SU.out HS.out (fun W hS=>?_) ?_
           ·obtain rfl:=hS;go_simp;first | done | rfl | omega | (exact IntWalk.i64_in _ (by omega)) | (simp <;> omega)
           simp only [PU];refine M_v 12 (.bool false) SU.out HS.out (fun W hS=>?_) ?_
           ·obtain rfl:=hS;go_simp;first | done | rfl | omega | (exact IntWalk.i64_in _ (by omega)) | (simp <;> omega)
           simp only [PU];refine wpAnyM_done (by kernel_rfl) (fun w' hG=>?_);obtain rfl:=hG
          all_goals
           have hgo:=HFE.out;rw [feedS_go (by rintro ⟨q',h1,h2⟩;rw [HFD.out] at h1;first | (cases h1;done) | (injection h1 with h1;subst h1;omega))] at hgo
           have HGO:=zh hgo;clear hgo HFE;obtain ⟨wu,hwu⟩:∃ wu,wu=wt.drew:=⟨_,rfl⟩;rw [<-hwu];have hmu:=HMT.out.nil_ ((Fr.refl [] wt).drew);rw [<-hwu] at hmu;have hfu:Fr l w wu:=by rw [hwu];exact HFT.out.drew
           have hbu:Bk wu b9 199 #[.int .i64 (t1:Int),.int .i64 (t2:Int)]:=by rw [hwu];exact HBT.out.drew
           have HMU:=zh hmu;have HFU:=zh hfu;have HBU:=zh hbu;clear hmu hfu hbu hwu HMT HFT HBT SU HS tc0 tc1 t8;have hne:L.flatMap Sp.cells ≠ []:=fun e=>by have h7:=flat_len sp_len L;rw [e] at h7;simp at h7;omega
           obtain ⟨AB,hAB,-, -, -⟩:=own_cells HMU.out.prog hne;subst hAB;have u0:wu.cell? ⟨sb,0,none⟩=some (.slice (some ⟨AB,0,none⟩) L.length c3):=HMU.out.blk.cell_ rfl;have u9:wu.cell? ⟨b9,0,none⟩=some (.int .i64 (t1:Int)):=HBU.out.cell_ (i:=0) rfl;have ht1I:(t1:Int) < (L.length:Int):=by omega
           have hltu:=HMU.out.blk.lt;clear hne;go_upto_region 14 with fail
           refine wp_region_M_ (G:=fun a b=>a=b) (S:=fun W=>W=wu.drew) ⟨fun _=>rfl,fun a b c h k=>h.trans k,fun a b h k=>k ▸ h,by kernel_rfl,fun _ _ d _ _ h=>by cases d <;> exact h⟩ (by kernel_rfl) fun su=>?_
           have SU:=zh su;have HS:Hid (wu.drew=wu.drew):=zh rfl;clear su;refine M_m 0 SU.out HS.out ?_;simp only [PE];refine M_v 1 ?_ SU.out HS.out (fun W hS=>?_) ?_;rotate_left
           ·obtain rfl:=hS;go_simp;first | done | rfl | omega | (exact IntWalk.i64_in _ (by omega)) | (simp <;> omega)
           simp only [PU];refine M_v 2 ?_ SU.out HS.out (fun W hS=>?_) ?_;rotate_left
           ·obtain rfl:=hS;go_simp;first | done | rfl | omega | (exact IntWalk.i64_in _ (by omega)) | (simp <;> omega)
           simp only [PU];refine M_v 3 (.slice (some ⟨AB,0,none⟩) L.length c3) SU.out HS.out (fun W hS=>?_) ?_
           ·obtain rfl:=hS;go_simp;first | done | rfl | omega | (exact IntWalk.i64_in _ (by omega)) | (simp <;> omega)
           simp only [PU];refine M_v 4 ?_ SU.out HS.out (fun W hS=>?_) ?_;rotate_left
           ·obtain rfl:=hS;go_simp;first | done | rfl | omega | (exact IntWalk.i64_in _ (by omega)) | (simp <;> omega)
           simp only [PU];refine M_v 5 (.int .i64 (t1:Int)) SU.out HS.out (fun W hS=>?_) ?_
           ·obtain rfl:=hS;go_simp;first | done | rfl | omega | (exact IntWalk.i64_in _ (by omega)) | (simp <;> omega)
           simp only [PU];refine M_v 6 (.pointer (some ⟨AB,t1 * 7,none⟩)) SU.out HS.out (fun W hS=>?_) ?_
           ·obtain rfl:=hS;go_simp;first | done | rfl | omega | (exact IntWalk.i64_in _ (by omega)) | (simp <;> omega)
           simp only [PU];refine M_v 7 ?_ SU.out HS.out (fun W hS=>?_) ?_;rotate_left
           ·obtain rfl:=hS;go_simp;first | done | rfl | omega | (exact IntWalk.i64_in _ (by omega)) | (simp <;> omega)
           simp only [PU];refine wpAnyM_done (by kernel_rfl) (fun w' hG=>?_);obtain rfl:=hG;obtain ⟨wv,hwv⟩:∃ wv,wv=wu.drew:=⟨_,rfl⟩;rw [<-hwv];have hmv:=HMU.out.nil_ ((Fr.refl [] wu).drew);rw [<-hwv] at hmv;have hfv:Fr l w wv:=by rw [hwv];exact HFU.out.drew
           have hbv:Bk wv b9 199 #[.int .i64 (t1:Int),.int .i64 (t2:Int)]:=by rw [hwv];exact HBU.out.drew
           obtain ⟨v1,v2,v3,v4,-⟩:=set_cells hmv.prog HOK.out ht1;have hso:((spAt L t1).set4).ok:=(HOK.out.at_ ht1).2.2.2.2;obtain ⟨ST,hST⟩:∃ ST,ST=(spAt L t1).set4:=⟨_,rfl⟩;rw [<-hST] at v1 v2 v3 v4 hso;obtain ⟨mb,hmb⟩:∃ mb,mb=ST.mem cb:=⟨_,rfl⟩;have HMV:=zh hmv;have HFV:=zh hfv;have HBV:=zh hbv;have HSO:=zh hso;have HST:=zh hST;have HMB:=zh hmb;clear hmv hfv hbv hso hST hmb hwv HMU HFU HBU SU HS u0 u9 hltu;go_wp2_with fail
           go_at_call 97
           refine (has_any ST cb wv hcb256 HSO.out).mono ?_;rintro e wh ⟨rfl,hfh⟩;rw [<-HMB.out];have HMH:=zh (HMV.out.nil_ hfh);have HFH:Hid (Fr l w wh):=zh (HFV.out.trans hfh.nil_);have HBH:Hid (Bk wh b9 199 #[.int .i64 (t1:Int),.int .i64 (t2:Int)]):=zh (HBV.out.fr hfh (by simp));clear hfh v1 v2 v3 v4 HMV HFV HBV;have hmm:((spAt L t1).set4.mem cb)=mb:=by rw [<-HST.out,HMB.out]
           have HMM:=zh hmm;clear hmm
           cases mb with
           | false=>
            have hg2:=HGO.out;rw [if_neg (by rw [HMM.out];simp)] at hg2;have HG2:=zh hg2;have HOE:Hid (SrOut lo w sb l L tx opn (.slice (some ⟨BN,0,none⟩) xn xd,s1.next) [] (sp+1) sc wh):=zh (SrOut.mk_ (P:=(.slice (some ⟨BN,0,none⟩) xn xd,s1.next)) HMH.out HFH.out HB3.out);clear hg2;go_wp2_with fail
            go_roundw
            case rel=>exact ⟨i+1,by go_num,hix,sc,HOE.out,HNX3.out,HIN3.out,HG2.out⟩
            case measure=>simp [intOf] <;> omega
           | true=>
            have hg2:=HGO.out;rw [if_pos HMM.out] at hg2;have HG2:=zh hg2;clear hg2;go_upto_region 16 with fail
            obtain ⟨-, -, -, -, h5⟩:=set_cells HMH.out.prog HOK.out ht1;have h9:wh.cell? ⟨b9,1,none⟩=some (.int .i64 (t2:Int)):=HBH.out.cell_ (i:=1) rfl;obtain ⟨-, ⟨hx0,hx1⟩,-⟩:=HOK.out.at_ ht1;obtain ⟨X,hX⟩:∃ X,X=(spAt L t1).x.toNat:=⟨_,rfl⟩;have hXl:X < L.length:=by omega
            rw [<-hX] at h5;have hwra:IntKind.i64.wrap ((a:Int)+1)=(a:Int)+1:=IntWalk.i64_in _ (by omega);have HXX:=zh hX;clear hx0 hx1 hX;go_still_tail 9,(by kernel_rfl)
            change wpList _ _ _ _ _ wh.drew
            obtain ⟨ws,hws⟩:∃ ws,ws=wh.drew:=⟨_,rfl⟩;rw [<-hws];have hms:=HMH.out.nil_ ((Fr.refl [] wh).drew);rw [<-hws] at hms;have hfs:Fr l w ws:=by rw [hws];exact HFH.out.drew
            have hbs:Bk ws b9 199 #[.int .i64 (t1:Int),.int .i64 (t2:Int)]:=by rw [hws];exact HBH.out.drew
            have hst:=stand_any (lo:=lo) (w:=ws) (sb:=sb) (L:=L) (tx:=tx) (opn:=opn) (P:=(.slice (some ⟨BN,0,none⟩) xn xd,s1.next)) (stamp:=sp+1) (st:=t2) (a:=a+1) (k:=X) (s:=sc) ⟨_,_,_,_,_,_,_,_,_,_,rfl,hms⟩ HOK.out hXl hL han (by omega) (by omega) (by have:=HSP.out;omega) HNX3.out;rw [show (((a+1:Nat)):Int)=(a:Int)+1 by omega] at hst;have HSTD:=zh hst;have HFS:=zh hfs;have HV3:Hid (sc.vis.length=L.length):=zh (by rw [hms.vis,List.length_map];exact hms.len);clear hst hms hfs hbs hws h5 h9 HMH HFH HBH;go_wp2_with fail
            go_at_call 96
            refine HSTD.out.mono ?_;rintro e wk ⟨rfl,hout⟩;have HOE:Hid (SrOut lo w sb l L tx opn (.slice (some ⟨BN,0,none⟩) xn xd,s1.next) [] (sp+1) (standS L tx.length opn X t2 (a+1) sc) wk):=zh (hout.on HFS.out HB3.out);have HG3:Hid (feedS L tx.length opn cb (a+1) (s1.next.drop (i+1)) (standS L tx.length opn X t2 (a+1) sc)=RES):=zh (by rw [HXX.out];exact HG2.out);clear hout HSTD HG2;go_wp2_with fail
            go_roundw
            case rel=>exact ⟨i+1,by go_num,hix,_,HOE.out,(standS_nx HOK.out hXl HV3.out HNX3.out).1,(fun t ht=>standS_in HOK.out (by omega) hXl HIN3.out t ht),HG3.out⟩
            case measure=>simp [intOf] <;> omega
        have hie:i=xn:=by omega
        subst hie;have hdr:s1.next.drop i=[]:=List.drop_eq_nil_of_le (by rw [<-HXN2.out];omega);have hfe:=HFE.out;rw [hdr] at hfe;have hfin:sc=RES:=hfe;have HOL:Hid (SrOut lo w sb l L tx opn (.slice XB i xd,s1.next) [] (sp+1) sc wr):=zh (SrOut.mk_ (P:=(.slice XB i xd,s1.next)) HM3.out HF3.out (by rw [<-HL3.out];exact HL3B.out));subst hfin;clear hfe hdr;go_wp2_with fail
        go_roundw
        case rel=>exact ⟨a+1,by go_num,by omega,han,f,(.slice XB i xd,s1.next),sc,sp+1,by omega,HOL.out,by have:=HSP.out;omega,HNX3.out,(fun t ht=>⟨(HIN3.out t ht).1,Nat.le_succ_of_le (HIN3.out t ht).2⟩),HRES.out⟩
        case measure=>simp [intOf] <;> omega
end Go.Proofs.YtfofechcccodeaaGreatDoor
