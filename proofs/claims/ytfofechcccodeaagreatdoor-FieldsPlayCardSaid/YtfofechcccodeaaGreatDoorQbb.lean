/-
  Small texts in one (Fi1). No conditions.
-/
import Derived.RangeFuncNested
import Derived.RangeFuncBound
import Derived.RangeFuncCalls
import Derived.RangeFuncLeaves
import Derived.Shelf.Abstract
import Derived.Shelf.RegionOpen
import Derived.WalkKit
import Derived.OwnWalkIn
import Derived.TacticsInMore
import Derived.LoopNIn
import Derived.LoopIn
import Derived.Test.YtfofechcccodeaaGreatDoorQba
namespace Go.Proofs.YtfofechcccodeaaGreatDoor
open Go.RowKit Go.Shelf Go.Proofs.Tryz
attribute [local go_sem] Oper.semAt_some
set_option linter.unusedVariables false
set_option linter.unusedSimpArgs false
set_option maxRecDepth 100000
set_option maxHeartbeats 8000000
theorem own_same {w w':World} {base n sz:Nat} {v:Value} {e:TypeId} {xs:List Value} (h:w.ownsRow base e sz v n xs) (hs:∀ b,v.ownBlock=some b->w'.heap[b]?=w.heap[b]?):w'.ownsRow base e sz v n xs:=by
 obtain ⟨h1,h2 | ⟨b',cap',cur,h2,h0,hb',h6⟩⟩:=h
 ·exact ⟨h1,.inl h2⟩
 exact ⟨h1,.inr ⟨b',cap',cur,h2,h0,(hs b' (by rw [h2];rfl)).trans hb',h6⟩⟩
theorem blk_lt {w w':World} {b:Nat} (hs:w'.heap[b]?=w.heap[b]?) (h:b < w.heap.size):b < w'.heap.size:=by
 rcases Nat.lt_or_ge b w'.heap.size with h' | h'
 ·exact h'
 rw [Array.getElem?_eq_none h',Array.getElem?_eq_getElem h] at hs;cases hs
theorem bytes_same {w w':World} {A:Option Addr} {bs:List UInt8} (h:Bytes w A bs) (hs:∀ a,A=some a->w'.heap[a.block]?=w.heap[a.block]?):Bytes w' A bs:=by
 rcases h with h | ⟨a,h1,h2,h3⟩
 ·exact .inl h
 refine .inr ⟨a,h1,blk_lt (hs a h1) h2,fun j u hu=>?_⟩;have hb:(a.add j).block=a.block:=blk_add a j;exact (World.cell?_of_block (w:=w) (a:=a.add j) (by rw [hb];exact hs a h1)).trans (h3 j u hu)
theorem SrM.same {lo:Nat} {w w':World} {sb:Nat} {L:List Sp} {tx:List UInt8} {opn:Bool} {now:List (Nat × Nat)} {todo:List Nat} {stamp:Nat} {s:Sr}
    {A:Option Addr} {c:Nat} {A2:Option Addr} {c2:Nat} {nowv nextv seenv todov:Value} {xs:List Nat} {st en:Int} (h:SrM lo w sb L tx opn now todo stamp s A c A2 c2 nowv nextv seenv todov xs st en)
    (hs:∀ b ∈ srBlocks sb nowv nextv seenv todov,w'.heap[b]?=w.heap[b]?) (hp:∀ b,(Value.slice A L.length c).ownBlock=some b->w'.heap[b]?=w.heap[b]?) (ht:∀ a,A2=some a->w'.heap[a.block]?=w.heap[a.block]?) :
    SrM lo w' sb L tx opn now todo stamp s A c A2 c2 nowv nextv seenv todov xs st en:=
 { h with
   blk:=(hs sb (by simp [srBlocks])).trans h.blk,prog:=own_same h.prog hp,text:=bytes_same h.text ht
   now_:=own_same h.now_ (fun b hb=>hs b (srb_mem.2 (by simp [hb]))),next_:=own_same h.next_ (fun b hb=>hs b (srb_mem.2 (by simp [hb])))
   seen_:=own_same h.seen_ (fun b hb=>hs b (srb_mem.2 (by simp [hb]))),todo_:=own_same h.todo_ (fun b hb=>hs b (srb_mem.2 (by simp [hb]))) }
theorem SrM.lt {lo:Nat} {w:World} {sb:Nat} {L:List Sp} {tx:List UInt8} {opn:Bool} {now:List (Nat × Nat)} {todo:List Nat} {stamp:Nat} {s:Sr}
    {A:Option Addr} {c:Nat} {A2:Option Addr} {c2:Nat} {nowv nextv seenv todov:Value} {xs:List Nat} {st en:Int} (h:SrM lo w sb L tx opn now todo stamp s A c A2 c2 nowv nextv seenv todov xs st en) :
    ∀ b ∈ srBlocks sb nowv nextv seenv todov,b < w.heap.size:=by
 intro b hb;rcases srb_mem.1 hb with e | e | e | e | e
 ·rw [e];exact h.blk.lt
 ·obtain ⟨-, cur,hc⟩:=own_base h.now_ b e;exact hc.lt
 ·obtain ⟨-, cur,hc⟩:=own_base h.next_ b e;exact hc.lt
 ·obtain ⟨-, cur,hc⟩:=own_base h.seen_ b e;exact hc.lt
 obtain ⟨-, cur,hc⟩:=own_base h.todo_ b e;exact hc.lt
def KB (B:Nat) (w w':World):Prop:=KeepB 142 w w'/\∀ A bs,(∀ a,A=some a->a.block < B)->Bytes w A bs->Bytes w' A bs
theorem KB.refl (B:Nat) (w:World):KB B w w:=⟨fun _ _ h=>h,fun _ _ _ h=>h⟩
theorem KB.trans {B:Nat} {a b c:World} (h:KB B a b) (k:KB B b c):KB B a c:=⟨fun x y z=>k.1 x y (h.1 x y z),fun x y hB z=>k.2 x y hB (h.2 x y hB z)⟩
theorem KB.of_nil {B:Nat} {a b:World} (h:Fr [] a b):KB B a b:=⟨KeepB.of_nil h,fun A bs _ hb=>hb.fr h (by simp)⟩
theorem KB.of_fr {B:Nat} {a b:World} {l:List Nat} (h:Fr l a b) (hl:∀ x ∈ l,∃ (t:TypeId) (cs:Array Value),Bk a x t cs/\t ≠ 142/\(B <= x ∨ ∀ (i:Nat) (y:Int),cs[i]? ≠ some (Value.int .u8 y))):KB B a b:=by
 refine ⟨fun g cs hg=>hg.fr h (fun hm=>?_),fun A bs hB hb=>?_⟩
 ·obtain ⟨t,cs',h1,h2,-⟩:=hl g hm;exact h1.ne_ (g':=g) (t':=142) (cs':=cs) hg h2 rfl
 rcases hb with e | ⟨p,h1,h2,h3⟩
 ·exact .inl e
 cases bs with
 | nil=>exact .inl rfl
 | cons y r=>
  have hBy:Bytes a A (y :: r) := .inr ⟨p,h1,h2,h3⟩;refine hBy.fr h (fun q hq _ hm=>?_);rw [h1] at hq;injection hq with hq;subst hq;obtain ⟨t,cs',k1,-, k3⟩:=hl p.block hm;have hlt:=hB p h1;have hc:=h3 0 (.int .u8 (y.toNat:Int)) rfl;have e0:p.add 0=p:=by simp [Addr.add]
  rw [e0] at hc;unfold World.cell? at hc;unfold Bk at k1;rw [k1] at hc;dsimp only at hc;split at hc
  ·cases hc
  rcases k3 with k3 | k3
  ·omega
  exact k3 _ _ hc
def FiAt (lo:Nat) (w:World) (sb:Nat) (bl:List Nat) (L:List Sp) (tx:List UInt8) (stamp:Nat):Prop:=
 ∃ P s,SrAt lo w sb bl L tx false P [] stamp s/\s.next=[]
theorem FiAt.same {lo:Nat} {w w':World} {sb:Nat} {bl:List Nat} {L:List Sp} {tx:List UInt8} {stamp:Nat} (h:FiAt lo w sb bl L tx stamp) (hs:∀ b ∈ bl,w'.heap[b]?=w.heap[b]?) (hk:KB lo w w'):FiAt lo w' sb bl L tx stamp:=by
 obtain ⟨P,s,⟨A,c,A2,c2,nextv,seenv,todov,xs,st,en,rfl,hm⟩,hn⟩:=h
 exact ⟨P,s,⟨A,c,A2,c2,nextv,seenv,todov,xs,st,en,rfl,{ hm with
  blk:=(hs sb (by simp [srBlocks])).trans hm.blk,prog:=own_keep hm.prog hk.1,text:=hk.2 _ _ hm.tlo hm.text
  now_:=own_same hm.now_ (fun b hb=>hs b (srb_mem.2 (by simp [hb]))),next_:=own_same hm.next_ (fun b hb=>hs b (srb_mem.2 (by simp [hb])))
  seen_:=own_same hm.seen_ (fun b hb=>hs b (srb_mem.2 (by simp [hb]))),todo_:=own_same hm.todo_ (fun b hb=>hs b (srb_mem.2 (by simp [hb]))) }⟩,hn⟩
theorem FiAt.lt {lo:Nat} {w:World} {sb:Nat} {bl:List Nat} {L:List Sp} {tx:List UInt8} {stamp:Nat} (h:FiAt lo w sb bl L tx stamp):∀ b ∈ bl,b < w.heap.size:=by
 obtain ⟨P,s,⟨A,c,A2,c2,nextv,seenv,todov,xs,st,en,rfl,hm⟩,hn⟩:=h;intro b hb;rcases srb_mem.1 hb with e | e | e | e | e
 ·rw [e];exact hm.blk.lt
 ·obtain ⟨-, cur,hc⟩:=own_base hm.now_ b e;exact hc.lt
 ·obtain ⟨-, cur,hc⟩:=own_base hm.next_ b e;exact hc.lt
 ·obtain ⟨-, cur,hc⟩:=own_base hm.seen_ b e;exact hc.lt
 obtain ⟨-, cur,hc⟩:=own_base hm.todo_ b e;exact hc.lt
theorem FiAt.mem {lo:Nat} {w:World} {sb:Nat} {bl:List Nat} {L:List Sp} {tx:List UInt8} {stamp:Nat} (h:FiAt lo w sb bl L tx stamp):sb ∈ bl:=by
 obtain ⟨P,s,⟨A,c,A2,c2,nextv,seenv,todov,xs,st,en,rfl,hm⟩,hn⟩:=h;simp [srBlocks]
theorem FiAt.find {lo:Nat} {w:World} {sb:Nat} {bl:List Nat} {L:List Sp} {tx:List UInt8} {stamp a:Nat} (h:FiAt lo w sb bl L tx stamp) (hok:ProgOk L) (h0:0 < L.length) (hL:L.length <= 5000) (hfr:a <= tx.length) (htx:tx.length <= 10000) (hs:stamp+tx.length+2 <= 1000000000000) :
    Calls prog 65 #[.pointer (some ⟨sb,0,none⟩),.int .i64 (a:Int)] w fun e w'=>e = .returned (.bool (findS L tx a).isSome)/\∃ bl' stamp',FiAt lo w' sb bl' L tx stamp'/\stamp' <= stamp+tx.length+2/\Fr bl w w'/\(∀ b ∈ bl',b ∈ bl ∨ w.heap.size <= b) /\
     (∀ q,findS L tx a=some q->w'.cell? ⟨sb,8,none⟩=some (.int .i64 (q.1:Int))/\w'.cell? ⟨sb,9,none⟩=some (.int .i64 (q.2:Int))):=by
 obtain ⟨P,s,hsr,hn⟩:=h;refine (find_any hsr hok h0 hL hfr htx hs (by rw [hn];simp)).mono ?_;rintro e w' ⟨rfl,hp⟩;have hf:=hp.found;obtain ⟨-, P',s',stamp',⟨bl',h1,h2,h3⟩,-, -, h4,h5⟩:=hp;exact ⟨rfl,bl',stamp',⟨P',s',h1,h5⟩,h4,h2,h3,hf.2.1⟩
theorem finds1_in {W:World} {l fbx kbx fb lo0:Nat} {L:List Sp} {A2:Option Addr} {tx:List UInt8} {c2:Nat} (hfb:W.cell? ⟨fbx,0,none⟩=some (.pointer (some ⟨fb,0,none⟩))) (hkb:W.cell? ⟨kbx,0,none⟩=some (.slice A2 tx.length c2))
    (hF:FinderAt W lo0 fb L) (ht:Bytes W A2 tx) (htc:tx.length <= c2) (htl:∀ a,A2=some a->a.block < W.heap.size) (h0L:0 < L.length) (hL:L.length <= 5000) (hok:ProgOk L) (htx:tx.length <= 10000)
    (J:List Nat->Nat->World->Prop) (Jx:World->Prop)
    (h0:∀ bl W',Fr [] W W'->(∀ b ∈ bl,W.heap.size <= b/\b < W'.heap.size)->J bl 0 W')
    (hgrow:∀ bl bl' k W1 W2,(∀ b ∈ bl,W.heap.size <= b)->J bl k W1->Fr bl W1 W2->(∀ b ∈ bl',b ∈ bl ∨ W1.heap.size <= b)->J bl' k W2)
    (hY:∀ bl k (x:Nat × Nat) W1,(∀ b ∈ bl,W.heap.size <= b/\b < W1.heap.size)->(findsS L tx)[k]?=some x->J bl k W1->YieldAt Fence.wide 2 prog l #[.int .i64 (x.1:Int),.int .i64 (x.2:Int)] W1 fun e W'=>
     (e = .returned (.bool true)/\J bl (k+1) W'/\(∀ b ∈ kbx :: bl,W'.heap[b]?=W1.heap[b]?)/\KB W.heap.size W1 W') ∨ (e = .returned (.bool false)/\Jx W')) :
    CallsIn Fence.wide 3 prog 63 #[.func (.yield l) #[] #[],.pointer (some ⟨fbx,0,none⟩),.pointer (some ⟨kbx,0,none⟩)] W fun e W'=>(∃ v,e = .returned v) /\
     ((∃ bl,(∀ b ∈ bl,W.heap.size <= b)/\J bl (findsS L tx).length W') ∨ Jx W'):=by
 obtain ⟨FL,hFL⟩:∃ FL,FL=findsS L tx:=⟨_,rfl⟩;rw [<-hFL] at hY ⊢; have HFL:=zh hFL;clear hFL;have HNW:=zh (newSearch_any hF ht htc htl h0L hL);have H0:=zh h0;have HG:=zh hgrow;have HY:=zh hY;have hkl:kbx < W.heap.size:=World.block_lt_of_cell? W _ hkb;obtain ⟨n,hn⟩:∃ n,n=tx.length:=⟨_,rfl⟩;rw [<-hn] at hkb HNW htx;have HN:=zh hn;have HOK:=zh hok;clear hF ht h0 hgrow hY hn htc htl hok;refine callsIn_of_wp func63 rfl trivial ?_ rfl;simp only [ntmps63,List.size_toArray,List.length_cons,List.length_nil,Nat.reduceAdd,Nat.reduceSub,Array.replicate_succ,Array.replicate_zero,List.push_toArray,List.append_toArray,List.nil_append,List.cons_append];gi_wp2;refine ⟨trivial,?_⟩;refine (callsIn_wide.2 HNW.out).mono ?_;rintro e w1 ⟨sb,bl,P,s,rfl,hsr,hsn,hf1,hbl⟩;have hfi:FiAt W.heap.size w1 sb bl L tx 0:=⟨P,s,hsr,hsn⟩;have hj0:=H0.out bl w1 hf1 (fun b hb=>⟨hbl b hb,hfi.lt b hb⟩);have hk1:w1.cell? ⟨kbx,0,none⟩=some (.slice A2 n c2):=(hf1.cell hkl (by simp)).trans hkb;have hs1:=hf1.size;have HFI:=zh hfi;have HJ0:=zh hj0;have HK1:=zh hk1;have HBL:=zh hbl;clear hfi hj0 hk1 hbl hsr hsn hf1 hkb hfb HNW;gi_wp2
 gi_loopw [5,6] (fun v5 v6 wr=>∃ (last:Int) (a:Nat),v5 = .int .i64 last/\v6 = .int .i64 (a:Int)/\a <= n+1 /\ -1 <= last/\last <= n/\∃ f k bl stamp,n+2 <= a+f/\findsF L tx f a last=FL.drop k/\k <= FL.length/\FiAt W.heap.size wr sb bl L tx stamp/\stamp <= a * 20000/\J bl k wr/\wr.cell? ⟨kbx,0,none⟩=some (.slice A2 n c2)/\(∀ b ∈ bl,W.heap.size <= b)/\W.heap.size <= wr.heap.size) (fun _ v6 _=>n+2 - (intOf v6).toNat)
 case atStart=>exact ⟨-1,0,rfl,rfl,by omega,by omega,by omega,n+2,0,bl,0,by omega,by rw [HFL.out,HN.out];rfl,Nat.zero_le _,HFI.out,by omega,HJ0.out,HK1.out,HBL.out,hs1⟩
 case round=>
  obtain ⟨last,a,rfl,rfl,ha,hl1,hl2,f,k,bl2,stamp,hf,hfd,hkl2,hfi,hst,hj,hkc,hbl2,hsz⟩:=hrel;have HFD:=zh hfd;have HFI2:=zh hfi;have HJ:=zh hj;have HKC:=zh hkc;have HBL2:=zh hbl2;clear hfd hfi hj hbl2 HFI HJ0 HK1 HBL;obtain ⟨f,rfl⟩:∃ f0,f=f0+1:=⟨f - 1,by omega⟩;by_cases hla:a <= n
  ·have hlaI:(a:Int) <= (n:Int):=by omega
   have hfc:=HFI2.out.find (a:=a) HOK.out h0L hL (by rw [<-HN.out];exact hla) (by rw [<-HN.out];exact htx) (by rw [<-HN.out];omega);have HFC:=zh hfc;clear hfc;obtain ⟨r,hr⟩:∃ r,r=findS L tx a:=⟨_,rfl⟩;rw [<-hr] at HFC;have HR:=zh hr;clear hr;gi_wp2;refine ⟨trivial,?_⟩;refine (callsIn_wide.2 HFC.out).mono ?_;rintro e w2 ⟨rfl,bl3,stamp3,hfi3,hst3,hfr3,hbl3,hq3⟩;have hkc2:w2.cell? ⟨kbx,0,none⟩=some (.slice A2 n c2):=(hfr3.cell (World.block_lt_of_cell? _ _ hkc) (fun hm=>by have:=HBL2.out _ hm;dsimp only at this;omega)).trans hkc
   have hbl4:∀ b ∈ bl3,W.heap.size <= b:=fun b hb=>by
    rcases hbl3 b hb with h | h
    ·exact HBL2.out b h
    omega
   have hj3:J bl3 k w2:=HG.out _ _ _ _ _ HBL2.out HJ.out hfr3 hbl3;have hsz2:W.heap.size <= w2.heap.size:=Nat.le_trans hsz hfr3.size;have HFI3:=zh hfi3;have HBL4:=zh hbl4;have HJ3:=zh hj3;have HKC2:=zh hkc2;have HQ3:=zh hq3;rw [<-HN.out] at hst3;have hst4:stamp3 <= (a+1) * 20000:=by omega
   clear hfi3 hbl4 hj3 hq3 hbl3 hfr3 HFC HFI2 HBL2 HJ HKC hkc
   cases r with
   | none=>
    have hend:FL.drop k=[]:=by rw [<-HFD.out];exact findsF_none HR.out.symm
    have hkn:k=FL.length:=by have:=List.drop_eq_nil_iff.1 hend;omega
    have HKN:=zh hkn;clear hend hkn hkc2;simp only [Option.isSome_none];gi_wp2;go_end0
    exact ⟨⟨_,rfl⟩,.inl ⟨bl3,HBL4.out,by rw [<-HKN.out];exact HJ3.out⟩⟩
   | some q=>
    obtain ⟨k8,k9⟩:=HQ3.out q rfl;simp only [Option.isSome_some];gi_wp2;refine wpIn_wide.2 ?_;refine wp_region_M_ (G:=fun a b=>a=b) (S:=fun W=>W=w2.drew) ⟨fun _=>rfl,fun a b c h k=>h.trans k,fun a b h k=>k ▸ h,by kernel_rfl,fun _ _ d _ _ h=>by cases d <;> exact h⟩ (by kernel_rfl) fun su=>?_
    have SU:=zh su;have HS:Hid (w2.drew=w2.drew):=zh rfl;clear su;refine M_m 0 SU.out HS.out ?_;simp only [PE];refine M_v 1 ?_ SU.out HS.out (fun W hS=>?_) ?_;rotate_left
    ·obtain rfl:=hS;go_simp;first | done | rfl | omega | (exact IntWalk.i64_in _ (by omega)) | (simp <;> omega)
    simp only [PU];refine M_v 2 ?_ SU.out HS.out (fun W hS=>?_) ?_;rotate_left
    ·obtain rfl:=hS;go_simp;first | done | rfl | omega | (exact IntWalk.i64_in _ (by omega)) | (simp <;> omega)
    simp only [PU];refine M_v 3 (.int .i64 (q.1:Int)) SU.out HS.out (fun W hS=>?_) ?_
    ·obtain rfl:=hS;go_simp;first | done | rfl | omega | (exact IntWalk.i64_in _ (by omega)) | (simp <;> omega)
    simp only [PU];refine M_m 4 SU.out HS.out ?_;simp only [PE];refine M_v 5 ?_ SU.out HS.out (fun W hS=>?_) ?_;rotate_left
    ·obtain rfl:=hS;go_simp;first | done | rfl | omega | (exact IntWalk.i64_in _ (by omega)) | (simp <;> omega)
    simp only [PU];refine M_v 6 ?_ SU.out HS.out (fun W hS=>?_) ?_;rotate_left
    ·obtain rfl:=hS;go_simp;first | done | rfl | omega | (exact IntWalk.i64_in _ (by omega)) | (simp <;> omega)
    simp only [PU];refine M_v 7 (.int .i64 (q.2:Int)) SU.out HS.out (fun W hS=>?_) ?_
    ·obtain rfl:=hS;go_simp;first | done | rfl | omega | (exact IntWalk.i64_in _ (by omega)) | (simp <;> omega)
    simp only [PU];refine M_v 8 ?_ SU.out HS.out (fun W hS=>?_) ?_;rotate_left
    ·obtain rfl:=hS;go_simp;first | done | rfl | omega | (exact IntWalk.i64_in _ (by omega)) | (simp <;> omega)
    simp only [PU];refine M_v 9 ?_ SU.out HS.out (fun W hS=>?_) ?_;rotate_left
    ·obtain rfl:=hS;go_simp;first | done | rfl | omega | (exact IntWalk.i64_in _ (by omega)) | (simp <;> omega)
    simp only [PU];refine wpAnyM_done (by kernel_rfl) (fun w' hG=>?_);obtain rfl:=hG;obtain ⟨w3,hw3⟩:∃ w3,w3=w2.drew:=⟨_,rfl⟩;rw [<-hw3];have hf3:Fr [] w2 w3:=by rw [hw3];exact (Fr.refl [] w2).drew
    have HFI4:=zh (HFI3.out.same (w':=w3) (fun b hb=>by rw [hw3];rfl) (KB.of_nil hf3));have HJ4:Hid (J bl3 k w3):=zh (HG.out _ _ _ _ _ HBL4.out HJ3.out hf3.nil_ (fun b hb => .inl hb));have HKC4:Hid (w3.cell? ⟨kbx,0,none⟩=some (.slice A2 n c2)):=zh (by rw [hw3];exact HKC2.out);have hsz4:W.heap.size <= w3.heap.size:=Nat.le_trans hsz2 hf3.size;have hfs:=findS_some HOK.out h0L (by rw [<-HN.out];exact hla) HR.out.symm;have g1:=hfs.fr;have g2:=hfs.le;have g3:=hfs.len;rw [<-HN.out] at g3;clear hw3 hf3 hfs HFI3 HJ3 HKC2 hkc2 k8 k9 SU HS;rcases Nat.lt_or_ge q.1 q.2 with hlt | hlt
    ·as_aux_lemma=>
      have hqI:(q.1:Int) < (q.2:Int):=by omega
      have hq0:((q.2:Int) == (q.1:Int))=false:=by simp;omega
      have hem:q.1 < q.2 ∨ (q.1:Int) ≠ last := .inl hlt;have hfd:=HFD.out;rw [findsF_some (by rw [<-HN.out];exact hla) HR.out.symm,if_pos hem,if_neg (show ¬ q.2=q.1 by omega)] at hfd
      have hx:FL[k]?=some q:=by
       have h:=congrArg (fun l=>l[0]?) hfd;simp at h;exact h.symm
      have hfd2:findsF L tx f (q.2) (q.2:Int)=FL.drop (k+1):=by
       have h:=congrArg (fun l=>l.drop 1) hfd;simp at h;rw [h,Nat.add_comm]
      have hkl3:k+1 <= FL.length:=(List.getElem?_eq_some_iff.1 hx).1;obtain ⟨fn,tmps,assign,body,hy,hR⟩:=HY.out bl3 k q w3 (fun b hb=>⟨HBL4.out b hb,HFI4.out.lt b hb⟩) hx HJ4.out;have HYR:=zh hR;have HFD2:=zh hfd2;clear hfd hem hlt hx hfd2 hR;gi_wp2;refine HYR.out.mono ?_;rintro e W3 (⟨rfl,hJ3,hk3,hkb3⟩ | ⟨rfl,hJx3⟩)
      ·have HFI5:=zh (HFI4.out.same (fun b hb=>hk3 b (by simp [hb])) hkb3);have hsz5:W.heap.size <= W3.heap.size:=Nat.le_trans (HBL4.out _ HFI5.out.mem) (Nat.le_of_lt (HFI5.out.lt _ HFI5.out.mem));have HKC5:Hid (W3.cell? ⟨kbx,0,none⟩=some (.slice A2 n c2)):=zh ((World.cell?_of_block (w:=w3) (a:=⟨kbx,0,none⟩) (hk3 kbx (by simp))).trans HKC4.out);have HJ5:=zh hJ3;clear hJ3 hk3 hkb3 hy HYR;gi_wp2;go_roundw
       case rel=>exact ⟨(q.2:Int),q.2,rfl,by go_num,by omega,by omega,by omega,f,k+1,bl3,stamp3,by omega,HFD2.out,hkl3,HFI5.out,by omega,HJ5.out,HKC5.out,HBL4.out,hsz5⟩
       case measure=>simp [intOf] <;> omega
      have HJX:=zh hJx3;clear hJx3 hy HYR;gi_wp2;refine bodyPost_ret (results_none rfl _ _ _) rfl ?_;exact ⟨⟨_,rfl⟩,.inr HJX.out⟩
    by_cases hne:(q.1:Int) ≠ last
    ·as_aux_lemma=>
      have hqI:¬ ((q.1:Int) < (q.2:Int)):=by omega
      have hq0:((q.2:Int) == (q.1:Int))=true:=by simp;omega
      have hq1:((q.1:Int) != last)=true:=by simp;exact hne
      have hem:q.1 < q.2 ∨ (q.1:Int) ≠ last := .inr hne;have hfd:=HFD.out;rw [findsF_some (by rw [<-HN.out];exact hla) HR.out.symm,if_pos hem,if_pos (show q.2=q.1 by omega)] at hfd
      have hx:FL[k]?=some q:=by
       have h:=congrArg (fun l=>l[0]?) hfd;simp at h;exact h.symm
      have hfd2:findsF L tx f (q.2+1) (q.2:Int)=FL.drop (k+1):=by
       have h:=congrArg (fun l=>l.drop 1) hfd;simp at h;rw [h,Nat.add_comm]
      have hkl3:k+1 <= FL.length:=(List.getElem?_eq_some_iff.1 hx).1;obtain ⟨fn,tmps,assign,body,hy,hR⟩:=HY.out bl3 k q w3 (fun b hb=>⟨HBL4.out b hb,HFI4.out.lt b hb⟩) hx HJ4.out;have HYR:=zh hR;have HFD2:=zh hfd2;clear hfd hem hlt hx hfd2 hR;gi_wp2;refine HYR.out.mono ?_;rintro e W3 (⟨rfl,hJ3,hk3,hkb3⟩ | ⟨rfl,hJx3⟩)
      ·have HFI5:=zh (HFI4.out.same (fun b hb=>hk3 b (by simp [hb])) hkb3);have hsz5:W.heap.size <= W3.heap.size:=Nat.le_trans (HBL4.out _ HFI5.out.mem) (Nat.le_of_lt (HFI5.out.lt _ HFI5.out.mem));have HKC5:Hid (W3.cell? ⟨kbx,0,none⟩=some (.slice A2 n c2)):=zh ((World.cell?_of_block (w:=w3) (a:=⟨kbx,0,none⟩) (hk3 kbx (by simp))).trans HKC4.out);have HJ5:=zh hJ3;clear hJ3 hk3 hkb3 hy HYR;gi_wp2;go_roundw
       case rel=>exact ⟨(q.2:Int),q.2+1,rfl,by go_num,by omega,by omega,by omega,f,k+1,bl3,stamp3,by omega,HFD2.out,hkl3,HFI5.out,by omega,HJ5.out,HKC5.out,HBL4.out,hsz5⟩
       case measure=>simp [intOf] <;> omega
      have HJX:=zh hJx3;clear hJx3 hy HYR;gi_wp2;refine bodyPost_ret (results_none rfl _ _ _) rfl ?_;exact ⟨⟨_,rfl⟩,.inr HJX.out⟩
    as_aux_lemma=>
     have hqI:¬ ((q.1:Int) < (q.2:Int)):=by omega
     have hq0:((q.2:Int) == (q.1:Int))=true:=by simp;omega
     have hq1:((q.1:Int) != last)=false:=by simp;omega
     have hem:¬ (q.1 < q.2 ∨ (q.1:Int) ≠ last):=by omega
     have hfd:=HFD.out;rw [findsF_some (by rw [<-HN.out];exact hla) HR.out.symm,if_neg hem,List.nil_append,if_pos (show q.2=q.1 by omega)] at hfd;have HFD2:=zh hfd;clear hfd hem hne hlt;gi_wp2;refine ⟨(fun f hf=>by cases hf),?_⟩;gi_wp2;go_roundw
     case rel=>exact ⟨(q.2:Int),q.2+1,rfl,by go_num,by omega,by omega,by omega,f,k,bl3,stamp3,by omega,HFD2.out,hkl2,HFI4.out,by omega,HJ4.out,HKC4.out,HBL4.out,hsz4⟩
     case measure=>simp [intOf] <;> omega
  have hlaI:¬ ((a:Int) <= (n:Int)):=by omega
  have hend:FL.drop k=[]:=by rw [<-HFD.out];exact findsF_past (by rw [<-HN.out];exact hla)
  have hkn:k=FL.length:=by have:=List.drop_eq_nil_iff.1 hend;omega
  have HKN:=zh hkn;clear hend hkn;gi_wp2;refine ⟨trivial,?_⟩;gi_wp2;go_end0
  exact ⟨⟨_,rfl⟩,.inl ⟨bl2,HBL2.out,by rw [<-HKN.out];exact HJ.out⟩⟩
end Go.Proofs.YtfofechcccodeaaGreatDoor
