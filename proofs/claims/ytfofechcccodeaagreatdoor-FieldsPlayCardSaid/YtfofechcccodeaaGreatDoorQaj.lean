/-
  Small texts in one (Ly4, Ly5). No conditions.
-/
import Derived.Test.YtfofechcccodeaaGreatDoorQai
namespace Go.Proofs.YtfofechcccodeaaGreatDoor
open Go.RowKit Go.ChangeMaps Go.Proofs.Tryz
set_option linter.unusedVariables false
set_option linter.unusedSimpArgs false
set_option maxRecDepth 100000
set_option maxHeartbeats 4000000
theorem set_last {α : Type} (L:List α) (x y : α):(L ++ [x]).set L.length y=L ++ [y]:=by
 rw [List.set_append_right _ _ (Nat.le_refl _),Nat.sub_self];rfl
theorem jump_any {w:World} {gy mv:Nat} {l:List Nat} {L:List Sp} (h:LaySt w gy mv l L) (hL:L.length <= 100000) (tq:Nat) :
    Calls prog 89 #[.pointer (some ⟨gy,0,none⟩),.int .i64 (tq:Int)] w (LayPost w gy mv l (L ++ [Sp.fork tq tq]) (.int .i64 (L.length:Int))):=by
 have H:=zh h;clear h;go_enter func89,ntmps89
 go_wp2_with fail
 go_at_call 88
 refine (fork_any H.out hL).mono ?_;rintro e w1 ⟨rfl,hout⟩;have HOUT:=zh hout;obtain ⟨l1,h1,hf1,hl1⟩:=hout;obtain ⟨n,hn⟩:∃ n,n=L.length:=⟨_,rfl⟩;rw [<-hn] at hL ⊢; have hat:(L ++ [Sp.fork (L.length+1) 0])[n]?=some (Sp.fork (L.length+1) 0):=by rw [hn];simp
 have h1d:LaySt w1.drew gy mv l1 (L ++ [Sp.fork (L.length+1) 0]):=h1.fr_nil ((Fr.refl [] w1).drew);obtain ⟨B,cap,hlB,hgB,hc,hz,⟨u5,hu5⟩,hs5⟩:=lay_set h1d hat (j:=5) (.inl rfl) (tq:Int)
 have hat2:((L ++ [Sp.fork (L.length+1) 0]).set n ((Sp.fork (L.length+1) 0).put 5 tq))[n]?=some ((Sp.fork (L.length+1) 0).put 5 tq):=by
  rw [List.getElem?_set_self (by rw [hn];simp)]
 obtain ⟨B2,cap2,hlB2,-, hc2,hz2,⟨u6,hu6⟩,hs6⟩:=lay_set hs5 hat2 (j:=6) (.inr rfl) (tq:Int);have hBB:B2=B:=by rw [hlB] at hlB2;simpa using hlB2.symm
 subst hBB;have hlen:(L ++ [Sp.fork (L.length+1) 0]).length=n+1:=by rw [List.length_append,hn];rfl
 rw [hlen] at hc
 have hfin:((L ++ [Sp.fork (L.length+1) 0]).set n ((Sp.fork (L.length+1) 0).put 5 tq)).set n (((Sp.fork (L.length+1) 0).put 5 tq).put 6 tq)=L ++ [Sp.fork tq tq]:=by
  rw [hn,set_last,set_last];rfl
 rw [hfin] at hs6;have HS6:=zh hs6;have HFIN:=zh hfin;have HF1:=zh hf1;have HL1:=zh hl1;have HLB:=zh hlB;have HN:=zh hn;have hn1:(n:Int) < (n:Int)+1:=by omega
 have hn2:n < n+1:=by omega
 have hlB1:B2 < w1.heap.size:=by have:=h1.lt B2 (by rw [hlB];simp);exact this
 clear h1 hf1 hl1 hat h1d hs5 hat2 hs6 hlB hlB2 hlen hfin hn hc2;go_upto_region 2 with fail
 refine wp_region_M_ (G:=fun a b=>a=b) (S:=fun W=>W.cell? ⟨gy,1,none⟩=some (.slice (some ⟨B2,0,none⟩) (n+1) cap)) ⟨fun _=>rfl,fun a b c h k=>h.trans k,fun a b h k=>k ▸ h,by kernel_rfl,fun _ _ d _ _ h=>by cases d <;> exact h⟩ (by kernel_rfl) fun su=>?_
 have SU:=zh su;clear su;have hfd:Fr [] w1 w1.drew:=(Fr.refl [] w1).drew;have HFD:=zh hfd;clear hfd
 generalize w1.drew=wd at *
 have HS:=zh hc;refine M_m 0 SU.out HS.out ?_;simp only [PE];refine M_v 1 ?_ SU.out HS.out (fun W hS=>?_) ?_;rotate_left
 ·have hs1:=hS;go_simp;first | done | rfl | omega | (exact IntWalk.i64_in _ (by omega)) | (simp <;> omega)
 simp only [PU];refine M_v 2 ?_ SU.out HS.out (fun W hS=>?_) ?_;rotate_left
 ·have hs1:=hS;go_simp;first | done | rfl | omega | (exact IntWalk.i64_in _ (by omega)) | (simp <;> omega)
 simp only [PU];refine M_v 3 (.slice (some ⟨B2,0,none⟩) (n+1) cap) SU.out HS.out (fun W hS=>?_) ?_
 ·have hs1:=hS;go_simp;first | done | rfl | omega | (exact IntWalk.i64_in _ (by omega)) | (simp <;> omega)
 simp only [PU];refine M_m 4 SU.out HS.out ?_;simp only [PE];refine M_m 5 SU.out HS.out ?_;simp only [PE];refine M_v 6 ?_ SU.out HS.out (fun W hS=>?_) ?_;rotate_left
 ·have hs1:=hS;go_simp;first | done | rfl | omega | (exact IntWalk.i64_in _ (by omega)) | (simp <;> omega)
 simp only [PU];refine M_v 7 ?_ SU.out HS.out (fun W hS=>?_) ?_;rotate_left
 ·have hs1:=hS;go_simp;first | done | rfl | omega | (exact IntWalk.i64_in _ (by omega)) | (simp <;> omega)
 simp only [PU];refine M_v 8 (.slice (some ⟨B2,0,none⟩) (n+1) cap) SU.out HS.out (fun W hS=>?_) ?_
 ·have hs1:=hS;go_simp;first | done | rfl | omega | (exact IntWalk.i64_in _ (by omega)) | (simp <;> omega)
 simp only [PU];refine M_m 9 SU.out HS.out ?_;simp only [PE];refine M_m 10 SU.out HS.out ?_;simp only [PE];refine M_m 11 SU.out HS.out ?_;simp only [PE];refine M_v 12 (.pointer (some ⟨B2,n * 7,none⟩)) SU.out HS.out (fun W hS=>?_) ?_
 ·have hs1:=hS;go_simp;first | done | rfl | omega | (exact IntWalk.i64_in _ (by omega)) | (simp <;> omega)
 simp only [PU];refine M_v 13 (.pointer (some ⟨B2,n * 7+5,none⟩)) SU.out HS.out (fun W hS=>?_) ?_
 ·have hs1:=hS;go_simp;first | done | rfl | omega | (exact IntWalk.i64_in _ (by omega)) | (simp <;> omega)
 simp only [PU];refine wpAnyM_all (rs:=[14]) (by kernel_rfl) (by simp) (fun w' hG=>?_);obtain rfl:=hG;refine allM.head rfl rfl (fun K6 hK6=>?_) allM.nil;go_simp;refine hK6.out _ _ (by go_simp) ?_;clear hK6 K6;refine wpAnyM_all (rs:=[15]) (by kernel_rfl) (by simp) (fun w' hG=>?_);obtain rfl:=hG;refine allM.head rfl rfl (fun K6 hK6=>?_) allM.nil;go_simp;refine hK6.out _ _ (by go_simp) ?_;clear hK6 K6;refine wpAnyM_all (rs:=[16]) (by kernel_rfl) (by simp) (fun w' hG=>?_);obtain rfl:=hG;refine allM.head rfl rfl (fun K6 hK6=>?_) allM.nil;go_simp;refine hK6.out _ _ (by go_simp) ?_;clear hK6 K6;refine wpAnyM_all (rs:=[17]) (by kernel_rfl) (by simp) (fun w' hG=>?_);obtain rfl:=hG;refine allM.head rfl rfl (fun K6 hK6=>?_) allM.nil;go_simp;refine hK6.out _ _ (by go_simp) ?_;clear hK6 K6;refine wpAnyM_done (by kernel_rfl) (fun w' hG=>?_);obtain rfl:=hG;go_wp2_with fail
 go_ret
 have hfr:Fr l1 w1 ((wd.setCell ⟨B2,n * 7+5,none⟩ (.int .i64 (tq:Int))).setCell ⟨B2,n * 7+6,none⟩ (.int .i64 (tq:Int))):=by
  rw [HLB.out];exact ((HFD.out.nil_).setCell (.inl (by simp)) _).setCell (.inl (by simp)) _
 exact ⟨by rw [<-HN.out];rfl,l1,HS6.out,HF1.out.trans' hfr HL1.out,HL1.out⟩
end Go.Proofs.YtfofechcccodeaaGreatDoor
namespace Go.Proofs.YtfofechcccodeaaGreatDoor
open Go.RowKit Go.ChangeMaps
set_option linter.unusedVariables false
set_option linter.unusedSimpArgs false
def StL (w0:World) (gy mv:Nat) (l0:List Nat) (es:List (Ky × Ex)) (L:List Sp) (w:World):Prop:=LayOut w0 gy mv l0 L w/\MInv w mv es/\KeepT w0 w
theorem StL.start {w:World} {gy mv:Nat} {l:List Nat} {es:List (Ky × Ex)} {L:List Sp} (h:LaySt w gy mv l L) (hm:MInv w mv es):StL w gy mv l es L w:=
 ⟨LayOut.refl h (Fr.refl [] w),hm,KeepT.refl w⟩
theorem StL.nil_ {w0 w w1:World} {gy mv:Nat} {l0:List Nat} {es:List (Ky × Ex)} {L:List Sp} (h:StL w0 gy mv l0 es L w) (hf:Fr [] w w1):StL w0 gy mv l0 es L w1:=
 ⟨h.1.trans fun l1 h1=>LayOut.refl h1 hf,h.2.1.nil_ hf,h.2.2.trans (KeepT.of_nil hf)⟩
theorem StL.step {w0 w w1:World} {gy mv:Nat} {l0 l:List Nat} {es:List (Ky × Ex)} {L L':List Sp} (h:StL w0 gy mv l0 es L w) (hl:LaySt w gy mv l L) (hs:Fr l0 w0 w) (hb:∀ b ∈ l,b ∈ l0 ∨ w0.heap.size <= b) (k:LayOut w gy mv l L' w1):StL w0 gy mv l0 es L' w1:=by
 obtain ⟨h1,h2,h3⟩:=h;obtain ⟨l',k1,k2,k3⟩:=k;have hk:KeepT w w1:=KeepT.of_fr k2 hl.kind;have hmv:=h2.1;obtain ⟨arr,clock,hmb,-, -⟩:=hmv;refine ⟨⟨l',k1,hs.trans' k2 hb,fun b hb'=>?_⟩,h2.keep (k2.block mv h2.1.lt (fun hm=>hl.nomap hmb mv hm rfl)) hk,h3.trans hk⟩;rcases k3 b hb' with hb' | hb'
 ·exact hb b hb'
 exact .inr (Nat.le_trans hs.size hb')
theorem StL.grown {w0 w w1:World} {gy mv:Nat} {l0:List Nat} {es:List (Ky × Ex)} {L:List Sp} {row:Option Nat} (h:StL w0 gy mv l0 es L w) (hg:w.grownBy w1 row) (hr:∀ g,row=some g->w0.heap.size <= g/\∃ cur,Bk w g 3 cur):StL w0 gy mv l0 es L w1:=by
 obtain ⟨⟨l,h1,hf,hb⟩,h2,h3⟩:=h;have hfr:Fr row.toList w w1:=(Fr.refl row.toList w).grown hg (fun g e => .inl (by rw [e];simp))
 have hk:KeepT w w1:=KeepT.of_fr hfr (fun b hb' cs hc=>by
  have e:row=some b:=by simpa using hb'
  obtain ⟨cur,hcur⟩:=(hr b e).2
  exact hc.ne_ hcur (by decide) rfl)
 refine ⟨⟨l,h1.fr hfr (fun b hb' hm=>?_),hf.grown hg (fun g e => .inr (hr g e).1),hb⟩,h2.keep (hfr.block mv h2.1.lt (fun hm=>?_)) hk,h3.trans hk⟩
 ·have e:row=some b:=by simpa using hm
  obtain ⟨cur,hcur⟩:=(hr b e).2;exact h1.none_ hcur (by decide) (by decide) hb'
 have e:row=some mv:=by simpa using hm
 obtain ⟨cur,hcur⟩:=(hr mv e).2;exact h2.1.ne hcur rfl
theorem StL.set_ {w0 w:World} {gy mv:Nat} {l0:List Nat} {es:List (Ky × Ex)} {L:List Sp} (h:StL w0 gy mv l0 es L w) {i:Nat} {s:Sp} (hs:L[i]?=some s) {j:Nat} (hj:j=5 ∨ j=6) (v:Int) :
    ∃ B cap,gy ≠ B/\w.cell? ⟨gy,1,none⟩=some (.slice (some ⟨B,0,none⟩) L.length cap)/\w.frozen? ⟨B,i * 7+j,none⟩=false/\(∃ u,w.cell? ⟨B,i * 7+j,none⟩=some u)/\StL w0 gy mv l0 es (L.set i (s.put j v)) (w.setCell ⟨B,i * 7+j,none⟩ (.int .i64 v)) /\
     (∀ g t cs,Bk w g t cs->t ≠ 142->g ≠ B):=by
 obtain ⟨l,h1,hf,hb⟩:=id h.1;obtain ⟨B,cap,hlB,hgB,hc,hz,hu,hs'⟩:=lay_set h1 hs hj v
 have hBt:∃ cur,Bk w B 142 cur:=by
  obtain ⟨A,cap',hl',hbk,hr⟩:=h1;rw [hlB] at hl'
  injection hl' with _ hl'
  exact own_bk hr B (by
   cases ho:(Value.slice A L.length cap').ownBlock with
   | none=>rw [ho] at hl';cases hl'
   | some x=>rw [ho] at hl';simp at hl';rw [hl'])
 obtain ⟨cur,hcur⟩:=hBt;refine ⟨B,cap,hgB,hc,hz,hu,h.step h1 hf hb ⟨l,hs',(Fr.refl l w).setCell (.inl (by rw [hlB];simp)) _,fun b hb' => .inl hb'⟩,fun g t cs hg ht e=>?_⟩;subst e;exact hg.ne_ hcur ht rfl
/-! Lists. -/
theorem timesP_snoc (f:Nat->List Sp) (n:Nat):∀ k a,timesP f n (k+1) a=timesP f n k a ++ f (a+k * n)
 | 0,a=>by simp [timesP]
 | k+1,a=>by
  rw [timesP,timesP_snoc f n k (a+n),timesP,List.append_assoc,Nat.succ_mul];rw [show a+n+k * n=a+(k * n+n) by omega]
theorem maybeP_snoc (f:Nat->List Sp) (n all:Nat):∀ k a,maybeP f n all (k+1) a=maybeP f n all k a ++ Sp.fork (a+k * (n+1)+1) all :: f (a+k * (n+1)+1)
 | 0,a=>by simp [maybeP]
 | k+1,a=>by
  rw [maybeP,maybeP_snoc f n all k (a+1+n),maybeP,Nat.succ_mul];rw [show a+1+n+k * (n+1)+1=a+(k * (n+1)+(n+1))+1 by omega];simp
theorem layL_one (t:PT) (a:Nat):layL [t] a=layP t a:=by simp [layL]
theorem sizL_one (t:PT):sizL [t]=sizP t:=by simp [sizL]
theorem set_mid {α : Type} (L Q:List α) (x y : α):(L ++ x :: Q).set L.length y=L ++ y :: Q:=by
 rw [List.set_append_right _ _ (Nat.le_refl _),Nat.sub_self];rfl
theorem get_mid {α : Type} (L Q:List α) (x : α):(L ++ x :: Q)[L.length]?=some x:=by simp
end Go.Proofs.YtfofechcccodeaaGreatDoor
