/-
  Small texts in one (Ly1, Ly2, Ly3). No conditions.
-/
import Derived.Test.YtfofechcccodeaaGreatDoorQah
import Derived.Test.YtfofechcccodeaaGreatDoorQad
namespace Go.Proofs.YtfofechcccodeaaGreatDoor
open Go.RowKit Go.ChangeMaps Go.Proofs.Tryz
set_option linter.unusedVariables false
set_option linter.unusedSimpArgs false
set_option maxRecDepth 100000
set_option maxHeartbeats 4000000
theorem empty_any {w:World} {gy mv b o:Nat} {es:List (Ky × Ex)} {t:PT} (hy:w.cell? ⟨gy,0,none⟩=some (.map (some mv))) (hm:MInv w mv es) (hcov:CovP es t) (hc:CellsAt w b o t.cells) (hp:PMem w t) (hr:rightP t=true) (hcnt:cntP t <= 1199) :
    Calls prog 72 #[.pointer (some ⟨gy,0,none⟩),.pointer (some ⟨b,o,none⟩)] w fun e w'=>e = .returned (.bool (sizP t == 0))/\∃ q,w'=w.drewN q:=by
 have c0:w.cell? ⟨b,o,none⟩=some (.int .i64 t.k):=hc.cell (j:=0) rfl;have c7:=hc.cell (j:=7) rfl;rw [rightP_eq] at hr;rw [CovP_eq] at hcov;rw [PMem_eq] at hp;rw [cntP_eq] at hcnt;have hle:=cntL_len t.l;have hsz:=sizP_eq t;obtain ⟨r,hrr⟩:∃ r,r=(sizP t == 0):=⟨_,rfl⟩;obtain ⟨T,hT⟩:∃ T,T=t:=⟨_,rfl⟩;rw [<-hrr];rw [<-hT] at hrr;have HC:=zh hc;have HT:=zh hT;clear hc hT;obtain ⟨k,s0,s1,s2,s3,mn,mx,A,c,l⟩:=t;simp only [PT.k,PT.mn,PT.mx,PT.A,PT.c,PT.l,Bool.and_eq_true] at *; obtain ⟨hrk,hri⟩:=hr;by_cases hk0:k=0
 ·subst hk0;have hr2:r=true:=by rw [hrr,HT.out,hsz];rfl
  subst hr2;clear hrr hsz hrk hri hcov;have HP:=zh hp;have HM:=zh hm;clear hp hm;go_enter func72,ntmps72
  go_wp2_with fail
  go_ret
  exact ⟨rfl,0,rfl⟩
 by_cases hk1:k=1
 ·subst hk1;have hr2:r=false:=by rw [hrr,HT.out,hsz];rfl
  subst hr2;clear hrr hsz hrk hri hcov;have HP:=zh hp;have HM:=zh hm;clear hp hm;go_enter func72,ntmps72
  go_wp2_with fail
  go_ret
  exact ⟨rfl,0,rfl⟩
 by_cases hk5:k=5
 ·subst hk5;have hr2:r=false:=by rw [hrr,HT.out,hsz];rfl
  subst hr2;clear hrr hsz hrk hri hcov;have HP:=zh hp;have HM:=zh hm;clear hp hm;go_enter func72,ntmps72
  go_wp2_with fail
  go_ret
  exact ⟨rfl,0,rfl⟩
 by_cases hk6:k=6
 ·subst hk6;have hr2:r=false:=by rw [hrr,HT.out,hsz];rfl
  subst hr2;clear hrr hsz hrk hri hcov;have HP:=zh hp;have HM:=zh hm;clear hp hm;go_enter func72,ntmps72
  go_wp2_with fail
  go_ret
  exact ⟨rfl,0,rfl⟩
 have hin:k=2 ∨ k=3 ∨ k=4:=by
  by_cases h2:k=2
  ·exact .inl h2
  by_cases h3:k=3
  ·exact .inr (.inl h3)
  by_cases h4:k=4
  ·exact .inr (.inr h4)
  exfalso
  unfold rightK at hrk;rw [if_pos (by omega)] at hrk
  cases hrk
 have hinn:inner k=true:=inner_iff.2 hin;obtain ⟨hin1,hcl⟩:=hcov hinn;have hrl:rightL l=true:=by simpa [hinn] using hri
 clear hri hcov;obtain ⟨n,hn⟩:∃ n,n=l.length:=⟨_,rfl⟩;have hn2:n <= 1199:=by omega
 rw [<-hn] at c7;by_cases hl0:l=[]
 ·have hn0:n=0:=by rw [hn,hl0];rfl
  have hr2:r=true:=by
   rw [hrr,HT.out,hsz];rcases hin with rfl | rfl | rfl
   ·rw [hl0];rfl
   ·rw [hl0] at hrk;simp [rightK] at hrk
   rw [hl0] at hrk;simp [rightK] at hrk
  subst hr2 hn0;have HP:=zh hp;have HM:=zh hm;have HH:=zh hin1;have HN:=zh hn;clear hrr hsz hrk hp hm hin1 hcl hrl hn;rcases hin with rfl | rfl | rfl
  all_goals
   go_enter func72,ntmps72
   go_wp2_with fail
   go_ret
   exact ⟨rfl,0,rfl⟩
 obtain ⟨kb,ko,rfl,hg⟩:=hin1.resolve_left hl0
 have hnp:0 < n:=by
  rw [hn]
  cases l with
  | nil=>exact absurd rfl hl0
  | cons _ _=>simp
 have hn0:((n:Int) == 0)=false:=beq_eq_false_iff_ne.2 (by omega);have hn0':(n == 0)=false:=beq_eq_false_iff_ne.2 (by omega);obtain ⟨t0,ht0⟩:∃ t,l[0]?=some t:=⟨_,List.getElem?_eq_getElem (by omega)⟩;obtain ⟨⟨kb',ko',hA,hc0⟩,-⟩:=hp.get ht0;simp at hA;obtain ⟨rfl,rfl⟩:=hA;obtain ⟨ck,hck⟩:=hc0.bk;obtain ⟨x1,hx1⟩:∃ x1,x1=min 4001 (sizL l):=⟨_,rfl⟩;obtain ⟨x2,hx2⟩:∃ x2,x2=depL l:=⟨_,rfl⟩;have hx14:x1 <= 4001:=by omega
 have hex:exL l=(x1,x2):=by rw [hx1,hx2];rfl
 have hlook:∀ W:World,Fr [] w W->(Instr.lookup 133 (.map (some mv)) (.agg #[.pointer (some ⟨kb,ko,none⟩),.int .i64 (n:Int)]) false).run prog W =
     .ok (.agg #[.int .i64 (x1:Int),.int .i64 (x2:Int)]) W:=fun W hW=>by
  have h:=(hm.nil_ hW).1.look (kb,ko,n) (hck.fr hW (by simp)) false;rw [hn,hg,hex] at h;rw [hn];exact h
 have hsize:∀ W:World,Fr [] w W->Calls prog 87 #[.pointer (some ⟨b,o,none⟩),.int .i64 (x1:Int)] W fun e w'=>e = .returned (.int .i64 (sizN T x1))/\∃ q,w'=W.drewN q:=fun W hW=>
  size_any (by rw [HT.out];exact HC.out.keep (KeepT.of_nil hW)) (by rw [HT.out];exact hinn) (by rw [HT.out];exact hrk) (by rw [HT.out];show l.length <= 1200;omega) hx14
 obtain ⟨sn,hsn⟩:∃ sn,sn=sizN T x1:=⟨_,rfl⟩;rw [<-hsn] at hsize
 have hr3:r=((sn:Int) == 0):=by
  have h1:=sizN_sizP (t:=T) (by rw [HT.out];exact hinn) (by rw [HT.out];exact hrk);have h2:T.l=l:=by rw [HT.out];rfl
  rw [h2,<-hx1,<-hsn] at h1;rw [hrr,h1,Bool.eq_iff_iff];first | (simp <;> omega)
 have HR3:=zh hr3;have HLK:=zh hlook;have HSIZE:=zh hsize;have HP:=zh hp;have HM:=zh hm;have HNN:=zh hn;clear hrr hsz hrk hp hm hcl hrl hg hc0 ht0 hck hx1 hx2 hex hlook hsn hsize hr3 hl0 hn;rcases hin with rfl | rfl | rfl
 ·go_enter func72,ntmps72
  go_upto_region 9 with fail
  refine wp_region_M_ (G:=fun a b=>∃ q,b=World.drewN a q) (S:=fun W=>∃ q,W=World.drewN w q) ⟨fun _=>⟨0,rfl⟩,fun a b c ⟨q,h⟩ ⟨p,k⟩=>⟨q+p,by rw [k,h,World.drewN_drewN]⟩,fun a b ⟨q,h⟩ ⟨p,k⟩=>⟨q+p,by rw [k,h,World.drewN_drewN]⟩,by kernel_rfl,fun _ _ d _ _ h=>by cases d <;> exact h⟩ (by kernel_rfl) fun su=>?_
  have SU:=zh su;have HS:Hid (∃ q,World.drew w=World.drewN w q):=zh ⟨1,rfl⟩;clear su;refine M_m 0 SU.out HS.out ?_;simp only [PE];refine M_m 1 SU.out HS.out ?_;simp only [PE];refine M_v 2 ?_ SU.out HS.out (fun W hS=>?_) ?_;rotate_left
  ·obtain ⟨q,rfl⟩:=hS;go_simp;first | done | rfl | omega | (simp <;> omega)
  simp only [PU];refine M_v 3 ?_ SU.out HS.out (fun W hS=>?_) ?_;rotate_left
  ·obtain ⟨q,rfl⟩:=hS;go_simp;first | done | rfl | omega | (simp <;> omega)
  simp only [PU];refine M_v 4 (.map (some mv)) SU.out HS.out (fun W hS=>?_) ?_
  ·obtain ⟨q,rfl⟩:=hS;go_simp;first | done | rfl | omega | (simp <;> omega)
  simp only [PU];refine M_m 5 SU.out HS.out ?_;simp only [PE];refine M_v 6 ?_ SU.out HS.out (fun W hS=>?_) ?_;rotate_left
  ·obtain ⟨q,rfl⟩:=hS;go_simp;first | done | rfl | omega | (simp <;> omega)
  simp only [PU];refine M_v 7 ?_ SU.out HS.out (fun W hS=>?_) ?_;rotate_left
  ·obtain ⟨q,rfl⟩:=hS;go_simp;first | done | rfl | omega | (simp <;> omega)
  simp only [PU];refine M_v 8 (.slice (some ⟨kb,ko,none⟩) n c) SU.out HS.out (fun W hS=>?_) ?_
  ·obtain ⟨q,rfl⟩:=hS;go_simp;first | done | rfl | omega | (simp <;> omega)
  simp only [PU];refine M_v 9 (.pointer (some ⟨kb,ko,none⟩)) SU.out HS.out (fun W hS=>?_) ?_
  ·obtain ⟨q,rfl⟩:=hS;go_simp;first | done | rfl | omega | (simp <;> omega)
  simp only [PU];refine M_m 10 SU.out HS.out ?_;simp only [PE];refine M_v 11 ?_ SU.out HS.out (fun W hS=>?_) ?_;rotate_left
  ·obtain ⟨q,rfl⟩:=hS;go_simp;first | done | rfl | omega | (simp <;> omega)
  simp only [PU];refine M_v 12 ?_ SU.out HS.out (fun W hS=>?_) ?_;rotate_left
  ·obtain ⟨q,rfl⟩:=hS;go_simp;first | done | rfl | omega | (simp <;> omega)
  simp only [PU];refine M_v 13 (.slice (some ⟨kb,ko,none⟩) n c) SU.out HS.out (fun W hS=>?_) ?_
  ·obtain ⟨q,rfl⟩:=hS;go_simp;first | done | rfl | omega | (simp <;> omega)
  simp only [PU];refine M_v 14 (.int .i64 (n:Int)) SU.out HS.out (fun W hS=>?_) ?_
  ·obtain ⟨q,rfl⟩:=hS;go_simp;first | done | rfl | omega | (simp <;> omega)
  simp only [PU];refine M_v 15 (.agg #[.pointer (some ⟨kb,ko,none⟩),.int .i64 (n:Int)]) SU.out HS.out (fun W hS=>?_) ?_
  ·obtain ⟨q,rfl⟩:=hS;go_simp;first | done | rfl | omega | (simp <;> omega)
  simp only [PU];refine M_v 16 (.agg #[.int .i64 (x1:Int),.int .i64 (x2:Int)]) SU.out HS.out (fun W hS=>?_) ?_
  ·obtain ⟨q,rfl⟩:=hS;have hl:=HLK.out _ ((Fr.refl [] w).drewN q);simp [execOp,Act.eval,hl]
  simp only [PU];refine M_v 17 (.int .i64 (x1:Int)) SU.out HS.out (fun W hS=>?_) ?_
  ·obtain ⟨q,rfl⟩:=hS;go_simp;first | done | rfl | omega | (simp <;> omega)
  simp only [PU];refine M_call (i:=18) (v := .int .i64 (sn:Int)) SU.out rfl (by kernel_rfl) HS.out rfl (fun W hS=>HSIZE.out W (by obtain ⟨q,rfl⟩:=hS;exact (Fr.refl [] w).drewN q)) (fun W=>?_) ?_
  ·go_simp;first | done | rfl
  simp only [PU];refine M_v 19 (.bool ((sn:Int) == 0)) SU.out HS.out (fun W hS=>?_) ?_
  ·obtain ⟨q,rfl⟩:=hS;go_simp;first | done | rfl | omega | (simp <;> omega)
  simp only [PU];refine M_v 20 (.bool ((sn:Int) == 0)) SU.out HS.out (fun W hS=>?_) ?_
  ·obtain ⟨q,rfl⟩:=hS;go_simp;first | done | rfl | omega | (simp <;> omega)
  simp only [PU];refine wpAnyM_done (by kernel_rfl) (fun w' hG=>?_);obtain ⟨q,rfl⟩:=hG;go_wp2_with fail
  go_ret
  exact ⟨by rw [HR3.out];rfl,1+q,World.drewN_drew ..⟩
 ·go_enter func72,ntmps72
  go_upto_region 9 with fail
  refine wp_region_M_ (G:=fun a b=>∃ q,b=World.drewN a q) (S:=fun W=>∃ q,W=World.drewN w q) ⟨fun _=>⟨0,rfl⟩,fun a b c ⟨q,h⟩ ⟨p,k⟩=>⟨q+p,by rw [k,h,World.drewN_drewN]⟩,fun a b ⟨q,h⟩ ⟨p,k⟩=>⟨q+p,by rw [k,h,World.drewN_drewN]⟩,by kernel_rfl,fun _ _ d _ _ h=>by cases d <;> exact h⟩ (by kernel_rfl) fun su=>?_
  have SU:=zh su;have HS:Hid (∃ q,World.drew w=World.drewN w q):=zh ⟨1,rfl⟩;clear su;refine M_m 0 SU.out HS.out ?_;simp only [PE];refine M_m 1 SU.out HS.out ?_;simp only [PE];refine M_v 2 ?_ SU.out HS.out (fun W hS=>?_) ?_;rotate_left
  ·obtain ⟨q,rfl⟩:=hS;go_simp;first | done | rfl | omega | (simp <;> omega)
  simp only [PU];refine M_v 3 ?_ SU.out HS.out (fun W hS=>?_) ?_;rotate_left
  ·obtain ⟨q,rfl⟩:=hS;go_simp;first | done | rfl | omega | (simp <;> omega)
  simp only [PU];refine M_v 4 (.map (some mv)) SU.out HS.out (fun W hS=>?_) ?_
  ·obtain ⟨q,rfl⟩:=hS;go_simp;first | done | rfl | omega | (simp <;> omega)
  simp only [PU];refine M_m 5 SU.out HS.out ?_;simp only [PE];refine M_v 6 ?_ SU.out HS.out (fun W hS=>?_) ?_;rotate_left
  ·obtain ⟨q,rfl⟩:=hS;go_simp;first | done | rfl | omega | (simp <;> omega)
  simp only [PU];refine M_v 7 ?_ SU.out HS.out (fun W hS=>?_) ?_;rotate_left
  ·obtain ⟨q,rfl⟩:=hS;go_simp;first | done | rfl | omega | (simp <;> omega)
  simp only [PU];refine M_v 8 (.slice (some ⟨kb,ko,none⟩) n c) SU.out HS.out (fun W hS=>?_) ?_
  ·obtain ⟨q,rfl⟩:=hS;go_simp;first | done | rfl | omega | (simp <;> omega)
  simp only [PU];refine M_v 9 (.pointer (some ⟨kb,ko,none⟩)) SU.out HS.out (fun W hS=>?_) ?_
  ·obtain ⟨q,rfl⟩:=hS;go_simp;first | done | rfl | omega | (simp <;> omega)
  simp only [PU];refine M_m 10 SU.out HS.out ?_;simp only [PE];refine M_v 11 ?_ SU.out HS.out (fun W hS=>?_) ?_;rotate_left
  ·obtain ⟨q,rfl⟩:=hS;go_simp;first | done | rfl | omega | (simp <;> omega)
  simp only [PU];refine M_v 12 ?_ SU.out HS.out (fun W hS=>?_) ?_;rotate_left
  ·obtain ⟨q,rfl⟩:=hS;go_simp;first | done | rfl | omega | (simp <;> omega)
  simp only [PU];refine M_v 13 (.slice (some ⟨kb,ko,none⟩) n c) SU.out HS.out (fun W hS=>?_) ?_
  ·obtain ⟨q,rfl⟩:=hS;go_simp;first | done | rfl | omega | (simp <;> omega)
  simp only [PU];refine M_v 14 (.int .i64 (n:Int)) SU.out HS.out (fun W hS=>?_) ?_
  ·obtain ⟨q,rfl⟩:=hS;go_simp;first | done | rfl | omega | (simp <;> omega)
  simp only [PU];refine M_v 15 (.agg #[.pointer (some ⟨kb,ko,none⟩),.int .i64 (n:Int)]) SU.out HS.out (fun W hS=>?_) ?_
  ·obtain ⟨q,rfl⟩:=hS;go_simp;first | done | rfl | omega | (simp <;> omega)
  simp only [PU];refine M_v 16 (.agg #[.int .i64 (x1:Int),.int .i64 (x2:Int)]) SU.out HS.out (fun W hS=>?_) ?_
  ·obtain ⟨q,rfl⟩:=hS;have hl:=HLK.out _ ((Fr.refl [] w).drewN q);simp [execOp,Act.eval,hl]
  simp only [PU];refine M_v 17 (.int .i64 (x1:Int)) SU.out HS.out (fun W hS=>?_) ?_
  ·obtain ⟨q,rfl⟩:=hS;go_simp;first | done | rfl | omega | (simp <;> omega)
  simp only [PU];refine M_call (i:=18) (v := .int .i64 (sn:Int)) SU.out rfl (by kernel_rfl) HS.out rfl (fun W hS=>HSIZE.out W (by obtain ⟨q,rfl⟩:=hS;exact (Fr.refl [] w).drewN q)) (fun W=>?_) ?_
  ·go_simp;first | done | rfl
  simp only [PU];refine M_v 19 (.bool ((sn:Int) == 0)) SU.out HS.out (fun W hS=>?_) ?_
  ·obtain ⟨q,rfl⟩:=hS;go_simp;first | done | rfl | omega | (simp <;> omega)
  simp only [PU];refine M_v 20 (.bool ((sn:Int) == 0)) SU.out HS.out (fun W hS=>?_) ?_
  ·obtain ⟨q,rfl⟩:=hS;go_simp;first | done | rfl | omega | (simp <;> omega)
  simp only [PU];refine wpAnyM_done (by kernel_rfl) (fun w' hG=>?_);obtain ⟨q,rfl⟩:=hG;go_wp2_with fail
  go_ret
  exact ⟨by rw [HR3.out];rfl,1+q,World.drewN_drew ..⟩
 go_enter func72,ntmps72
 go_upto_region 9 with fail
 refine wp_region_M_ (G:=fun a b=>∃ q,b=World.drewN a q) (S:=fun W=>∃ q,W=World.drewN w q) ⟨fun _=>⟨0,rfl⟩,fun a b c ⟨q,h⟩ ⟨p,k⟩=>⟨q+p,by rw [k,h,World.drewN_drewN]⟩,fun a b ⟨q,h⟩ ⟨p,k⟩=>⟨q+p,by rw [k,h,World.drewN_drewN]⟩,by kernel_rfl,fun _ _ d _ _ h=>by cases d <;> exact h⟩ (by kernel_rfl) fun su=>?_
 have SU:=zh su;have HS:Hid (∃ q,World.drew w=World.drewN w q):=zh ⟨1,rfl⟩;clear su;refine M_m 0 SU.out HS.out ?_;simp only [PE];refine M_m 1 SU.out HS.out ?_;simp only [PE];refine M_v 2 ?_ SU.out HS.out (fun W hS=>?_) ?_;rotate_left
 ·obtain ⟨q,rfl⟩:=hS;go_simp;first | done | rfl | omega | (simp <;> omega)
 simp only [PU];refine M_v 3 ?_ SU.out HS.out (fun W hS=>?_) ?_;rotate_left
 ·obtain ⟨q,rfl⟩:=hS;go_simp;first | done | rfl | omega | (simp <;> omega)
 simp only [PU];refine M_v 4 (.map (some mv)) SU.out HS.out (fun W hS=>?_) ?_
 ·obtain ⟨q,rfl⟩:=hS;go_simp;first | done | rfl | omega | (simp <;> omega)
 simp only [PU];refine M_m 5 SU.out HS.out ?_;simp only [PE];refine M_v 6 ?_ SU.out HS.out (fun W hS=>?_) ?_;rotate_left
 ·obtain ⟨q,rfl⟩:=hS;go_simp;first | done | rfl | omega | (simp <;> omega)
 simp only [PU];refine M_v 7 ?_ SU.out HS.out (fun W hS=>?_) ?_;rotate_left
 ·obtain ⟨q,rfl⟩:=hS;go_simp;first | done | rfl | omega | (simp <;> omega)
 simp only [PU];refine M_v 8 (.slice (some ⟨kb,ko,none⟩) n c) SU.out HS.out (fun W hS=>?_) ?_
 ·obtain ⟨q,rfl⟩:=hS;go_simp;first | done | rfl | omega | (simp <;> omega)
 simp only [PU];refine M_v 9 (.pointer (some ⟨kb,ko,none⟩)) SU.out HS.out (fun W hS=>?_) ?_
 ·obtain ⟨q,rfl⟩:=hS;go_simp;first | done | rfl | omega | (simp <;> omega)
 simp only [PU];refine M_m 10 SU.out HS.out ?_;simp only [PE];refine M_v 11 ?_ SU.out HS.out (fun W hS=>?_) ?_;rotate_left
 ·obtain ⟨q,rfl⟩:=hS;go_simp;first | done | rfl | omega | (simp <;> omega)
 simp only [PU];refine M_v 12 ?_ SU.out HS.out (fun W hS=>?_) ?_;rotate_left
 ·obtain ⟨q,rfl⟩:=hS;go_simp;first | done | rfl | omega | (simp <;> omega)
 simp only [PU];refine M_v 13 (.slice (some ⟨kb,ko,none⟩) n c) SU.out HS.out (fun W hS=>?_) ?_
 ·obtain ⟨q,rfl⟩:=hS;go_simp;first | done | rfl | omega | (simp <;> omega)
 simp only [PU];refine M_v 14 (.int .i64 (n:Int)) SU.out HS.out (fun W hS=>?_) ?_
 ·obtain ⟨q,rfl⟩:=hS;go_simp;first | done | rfl | omega | (simp <;> omega)
 simp only [PU];refine M_v 15 (.agg #[.pointer (some ⟨kb,ko,none⟩),.int .i64 (n:Int)]) SU.out HS.out (fun W hS=>?_) ?_
 ·obtain ⟨q,rfl⟩:=hS;go_simp;first | done | rfl | omega | (simp <;> omega)
 simp only [PU];refine M_v 16 (.agg #[.int .i64 (x1:Int),.int .i64 (x2:Int)]) SU.out HS.out (fun W hS=>?_) ?_
 ·obtain ⟨q,rfl⟩:=hS;have hl:=HLK.out _ ((Fr.refl [] w).drewN q);simp [execOp,Act.eval,hl]
 simp only [PU];refine M_v 17 (.int .i64 (x1:Int)) SU.out HS.out (fun W hS=>?_) ?_
 ·obtain ⟨q,rfl⟩:=hS;go_simp;first | done | rfl | omega | (simp <;> omega)
 simp only [PU];refine M_call (i:=18) (v := .int .i64 (sn:Int)) SU.out rfl (by kernel_rfl) HS.out rfl (fun W hS=>HSIZE.out W (by obtain ⟨q,rfl⟩:=hS;exact (Fr.refl [] w).drewN q)) (fun W=>?_) ?_
 ·go_simp;first | done | rfl
 simp only [PU];refine M_v 19 (.bool ((sn:Int) == 0)) SU.out HS.out (fun W hS=>?_) ?_
 ·obtain ⟨q,rfl⟩:=hS;go_simp;first | done | rfl | omega | (simp <;> omega)
 simp only [PU];refine M_v 20 (.bool ((sn:Int) == 0)) SU.out HS.out (fun W hS=>?_) ?_
 ·obtain ⟨q,rfl⟩:=hS;go_simp;first | done | rfl | omega | (simp <;> omega)
 simp only [PU];refine wpAnyM_done (by kernel_rfl) (fun w' hG=>?_);obtain ⟨q,rfl⟩:=hG;go_wp2_with fail
 go_ret
 exact ⟨by rw [HR3.out];rfl,1+q,World.drewN_drew ..⟩
end Go.Proofs.YtfofechcccodeaaGreatDoor
namespace Go.Proofs.YtfofechcccodeaaGreatDoor
open Go.RowKit Go.ChangeMaps Go.Proofs.Tryz
set_option linter.unusedVariables false
set_option linter.unusedSimpArgs false
set_option maxRecDepth 100000
set_option maxHeartbeats 4000000
theorem sp_len (s:Sp):s.cells.length=7:=rfl
theorem stepParts:∃ i,prog.info? 142=some i/\i.zero=some (.agg #[.int .i64 0,.int .u64 0,.int .u64 0,.int .u64 0,.int .u64 0,.int .i64 0,.int .i64 0])/\i.size=7/\i.bytes=56:=info_parts (by kernel_rfl)
def LaySt (w:World) (gy mv:Nat) (l:List Nat) (L:List Sp):Prop:=
 ∃ A cap,l=gy :: (Value.slice A L.length cap).ownBlock.toList/\Bk w gy 139 #[.map (some mv),.slice A L.length cap]/\w.ownsRow 0 142 7 (.slice A L.length cap) L.length (L.flatMap Sp.cells)
theorem LaySt.lt {w:World} {gy mv:Nat} {l:List Nat} {L:List Sp} (h:LaySt w gy mv l L):∀ b ∈ l,b < w.heap.size:=by
 obtain ⟨A,cap,rfl,hb,hr⟩:=h;intro b hm;rcases List.mem_cons.1 hm with rfl | hm
 ·exact hb.lt
 obtain ⟨cur,hc⟩:=own_bk hr b (by simpa using hm);exact hc.lt
theorem LaySt.fr {w w':World} {gy mv:Nat} {l l':List Nat} {L:List Sp} (h:LaySt w gy mv l L) (hf:Fr l' w w') (hn:∀ b ∈ l,b ∉ l'):LaySt w' gy mv l L:=by
 obtain ⟨A,cap,rfl,hb,hr⟩:=h;exact ⟨A,cap,rfl,hb.fr hf (hn gy (by simp)),own_fr hr hf fun b hb=>hn b (by simp [hb])⟩
theorem LaySt.fr_nil {w w':World} {gy mv:Nat} {l:List Nat} {L:List Sp} (h:LaySt w gy mv l L) (hf:Fr [] w w'):LaySt w' gy mv l L:=h.fr hf (by simp)
theorem LaySt.kind {w:World} {gy mv:Nat} {l:List Nat} {L:List Sp} (h:LaySt w gy mv l L):∀ b ∈ l,∀ cs,¬ Bk w b 89 cs:=by
 obtain ⟨A,cap,rfl,hb,hr⟩:=h;intro b hm;rcases List.mem_cons.1 hm with rfl | hm
 ·exact hb.other_ (by decide)
 obtain ⟨cur,hc⟩:=own_bk hr b (by simpa using hm);exact hc.other_ (by decide)
theorem LaySt.nomap {w:World} {gy mv:Nat} {l:List Nat} {L:List Sp} (h:LaySt w gy mv l L) {g:Nat} {es:Array MapEntry} {c:Nat} (hg:w.heap[g]?=some (.map es c)):∀ b ∈ l,b ≠ g:=by
 obtain ⟨A,cap,rfl,hb,hr⟩:=h;intro b hm;rcases List.mem_cons.1 hm with rfl | hm
 ·exact bk_ne_map hb hg
 obtain ⟨cur,hc⟩:=own_bk hr b (by simpa using hm);exact bk_ne_map hc hg
theorem LaySt.none_ {w:World} {gy mv:Nat} {l:List Nat} {L:List Sp} (h:LaySt w gy mv l L) {g:Nat} {t:TypeId} {cs:Array Value} (hg:Bk w g t cs) (h1:t ≠ 139) (h2:t ≠ 142):g ∉ l:=by
 obtain ⟨A,cap,rfl,hb,hr⟩:=h;intro hm;rcases List.mem_cons.1 hm with rfl | hm
 ·exact hg.ne_ hb h1 rfl
 obtain ⟨cur,hc⟩:=own_bk hr g (by simpa using hm);exact hg.ne_ hc h2 rfl
def LayOut (w:World) (gy mv:Nat) (l:List Nat) (L':List Sp) (w':World):Prop:=∃ l',LaySt w' gy mv l' L'/\Fr l w w'/\∀ b ∈ l',b ∈ l ∨ w.heap.size <= b
def LayPost (w:World) (gy mv:Nat) (l:List Nat) (L':List Sp) (v:Value) (e:Ending) (w':World):Prop:=e = .returned v/\LayOut w gy mv l L' w'
theorem LayOut.trans {w w1 w2:World} {gy mv:Nat} {l:List Nat} {L1 L2:List Sp} (h:LayOut w gy mv l L1 w1) (k:∀ l1,LaySt w1 gy mv l1 L1->LayOut w1 gy mv l1 L2 w2):LayOut w gy mv l L2 w2:=by
 obtain ⟨l1,h1,h2,h3⟩:=h;obtain ⟨l2,k1,k2,k3⟩:=k l1 h1;refine ⟨l2,k1,h2.trans' k2 h3,fun b hb=>?_⟩;rcases k3 b hb with hb | hb
 ·exact h3 b hb
 exact .inr (Nat.le_trans h2.size hb)
theorem LayOut.refl {w w':World} {gy mv:Nat} {l:List Nat} {L:List Sp} (h:LaySt w gy mv l L) (hf:Fr [] w w'):LayOut w gy mv l L w':=⟨l,h.fr_nil hf,hf.nil_,fun b hb => .inl hb⟩
theorem seven_new (w:World) (t:TypeId) (a b c d e f g:Value):∀ j u,[a,b,c,d,e,f,g][j]?=some u->(w.alloc (.cells #[a,b,c,d,e,f,g] t)).cell? ((⟨w.heap.size,0,none⟩:Addr).add j)=some u:=by
 intro j u hu;have hb:=Bk.new w t #[a,b,c,d,e,f,g];have hadd:(⟨w.heap.size,0,none⟩:Addr).add j=⟨w.heap.size,j,none⟩:=by unfold Addr.add;split <;> simp_all
 rw [hadd,hb.cell]
 simpa using hu
theorem lay_snoc {w wa w4:World} {gy mv n cap:Nat} {A:Option Addr} {L:List Sp} {s:Sp} {v':Value} (hb:Bk w gy 139 #[.map (some mv),.slice A n cap]) (hr:w.ownsRow 0 142 7 (.slice A n cap) n (L.flatMap Sp.cells)) (hn:n=L.length)
    (hf:Fr [] w wa) (hown:w4.ownsRow 0 142 7 v' (n+1) (L.flatMap Sp.cells ++ s.cells)) (hgr:wa.grownBy w4 (Value.slice A n cap).ownBlock) (hat:v'.ownBlock=(Value.slice A n cap).ownBlock ∨ v'.ownBlock=some wa.heap.size) :
    ∃ A' cap',v' = .slice A' (n+1) cap'/\Bk w4 gy 139 #[.map (some mv),.slice A n cap]/\LayOut w gy mv (gy :: (Value.slice A n cap).ownBlock.toList) (L ++ [s]) (w4.setCell ⟨gy,1,none⟩ v'):=by
 obtain ⟨A',cap',rfl⟩:=own_form hown (by omega);have hne:=own_ne hr hb (by decide);have hba:=hb.fr hf (by simp);have hb4:=hba.grown hgr (fun e=>hne e.symm);have hln:(L ++ [s]).length=n+1:=by rw [List.length_append,hn];rfl
 have hbs:=hb4.put 1 (.slice A' (n+1) cap');have hne':(Value.slice A' (n+1) cap').ownBlock ≠ some gy:=own_ne hown hb4 (by decide);have hfr4:Fr (gy :: (Value.slice A n cap).ownBlock.toList) w w4:=hf.nil_.grown hgr (fun g hg => .inl (by rw [hg];simp));refine ⟨A',cap',rfl,hb4,gy :: (Value.slice A' (n+1) cap').ownBlock.toList,⟨A',cap',by rw [hln],by rw [hln];exact hbs,?_⟩,hfr4.setCell (.inl (by simp)) _,fun b hb'=>?_⟩
 ·rw [hln];have hfl:(L ++ [s]).flatMap Sp.cells=L.flatMap Sp.cells ++ s.cells:=by simp
  rw [hfl];exact own_fr hown ((Fr.refl [gy] w4).setCell (.inl (by simp)) _) (fun b hbb hm=>by simp at hm;subst hm;exact hne' hbb)
 rcases List.mem_cons.1 hb' with rfl | hb'
 ·exact .inl (by simp)
 rcases hat with h | h
 ·left;rw [<-h];exact List.mem_cons_of_mem _ hb'
 right
 have:=hf.size;rw [h] at hb';simp at hb';omega
theorem fork_any {w:World} {gy mv:Nat} {l:List Nat} {L:List Sp} (h:LaySt w gy mv l L) (hL:L.length <= 100000) :
    Calls prog 88 #[.pointer (some ⟨gy,0,none⟩)] w (LayPost w gy mv l (L ++ [Sp.fork (L.length+1) 0]) (.int .i64 (L.length:Int))):=by
 obtain ⟨A,cap,rfl,hb,hr⟩:=h;obtain ⟨i0,hi0,hz0,hz1,hz2⟩:=stepParts;obtain ⟨n,hn⟩:∃ n,n=L.length:=⟨_,rfl⟩;rw [<-hn] at hb hr ⊢ hL;have c1:=hb.cell_ (i:=1) rfl;have f1:=hb.frozen 1;have hlt:=hb.lt;have HB:=zh hb;have HR:=zh hr;have HN:=zh hn;have hownA:∀ O,(w.alloc O).ownsRow 0 142 7 (.slice A n cap) n (L.flatMap Sp.cells):=fun O=>own_fr hr ((Fr.refl [] w).alloc O) (by simp);have HOA:=zh hownA;clear hb hr hn hownA;go_enter func88,ntmps88
 go_wp2_with (at_builtin;refine wpList_append_R rfl (.tmp 13) (.tmp 17) 92 rfl 0 142 i0 _ 7 56 underlying92 hi0 hz0 hz1 hz2 rfl (by omega) (.slice A n cap) n (L.flatMap Sp.cells) (by first | rfl | simp [Act.eval]) (HOA.out _) ⟨w.heap.size,0,none⟩ 1 1 [.int .i64 1,.int .u64 0,.int .u64 0,.int .u64 0,.int .u64 0,.int .i64 ((n:Int)+1),.int .i64 0] (by first | rfl | simp [Act.eval]) rfl (seven_new w 142 _ _ _ _ _ _ _) (by simp [Value.oneCell']) (by unfold maxLen;omega) (by omega) (Nat.zero_le _) ?_;intro v' w4 hown4 hgr hat;obtain ⟨A',cap',rfl,hb4,hout⟩:=lay_snoc (s:=Sp.fork (n+1) 0) HB.out HR.out HN.out ((Fr.refl [] w).alloc _) hown4 hgr hat;have g1:=hb4.cell_ (i:=1) rfl;have k1:=hb4.frozen 1;have HOUT:=zh hout;clear hown4 hgr hat hb4 hout)
 go_ret
 exact ⟨rfl,HOUT.out⟩
end Go.Proofs.YtfofechcccodeaaGreatDoor
namespace Go.Proofs.YtfofechcccodeaaGreatDoor
open Go.RowKit Go.ChangeMaps Go.Proofs.Tryz
set_option linter.unusedVariables false
set_option linter.unusedSimpArgs false
set_option maxRecDepth 100000
set_option maxHeartbeats 4000000
theorem one_any {w:World} {gy mv:Nat} {l:List Nat} {L:List Sp} (h:LaySt w gy mv l L) (hL:L.length <= 100000) (k s0 s1 s2 s3:Int) :
    Calls prog 73 #[.pointer (some ⟨gy,0,none⟩),.int .i64 k,.agg #[.int .u64 s0,.int .u64 s1,.int .u64 s2,.int .u64 s3]] w (LayPost w gy mv l (L ++ [⟨k,s0,s1,s2,s3,(L.length:Int)+1,0⟩]) (.tuple #[])):=by
 obtain ⟨A,cap,rfl,hb,hr⟩:=h;obtain ⟨i0,hi0,hz0,hz1,hz2⟩:=stepParts;obtain ⟨n,hn⟩:∃ n,n=L.length:=⟨_,rfl⟩;rw [<-hn] at hb hr ⊢ hL;have HN:=zh hn;have HB:=zh hb;have HR:=zh hr;clear hn;go_enter func73,ntmps73
 go_upto_region 1 with fail
 obtain ⟨wb,hwb⟩:∃ wb,wb=w.alloc (.cells #[.int .u64 s0,.int .u64 s1,.int .u64 s2,.int .u64 s3] 86):=⟨_,rfl⟩;have hbx:Bk wb w.heap.size 86 #[.int .u64 s0,.int .u64 s1,.int .u64 s2,.int .u64 s3]:=by rw [hwb];exact Bk.new w _ _
 have hbb:Bk wb gy 139 #[.map (some mv),.slice A n cap]:=by rw [hwb];exact hb.alloc _
 have hfb:Fr [] w wb:=by rw [hwb];exact (Fr.refl [] w).alloc _
 have hrb:=own_fr hr hfb (by simp);rw [<-hwb];obtain ⟨bx,hbxe⟩:∃ bx,bx=w.heap.size:=⟨_,rfl⟩;rw [<-hbxe] at hbx ⊢; have HBX:=zh hbx;have HBB:=zh hbb;have HFB:=zh hfb;have HRB:=zh hrb;clear hb hr hbx hbb hfb hrb hwb hbxe;refine wp_region_F_ (G:=fun a b=>a=b) (F:=fun i=>i == 18) (S:=fun W=>W.cell? ⟨gy,1,none⟩=some (.slice A n cap)/\Bk W bx 86 #[.int .u64 s0,.int .u64 s1,.int .u64 s2,.int .u64 s3]) ⟨fun _=>rfl,fun a b c h k=>h.trans k,fun a b h k=>k ▸ h,by kernel_rfl,fun _ _ d _ _ h=>by cases d <;> exact h⟩ (by kernel_rfl) fun su=>?_
 have SU:=zh su;obtain ⟨wd,hwd⟩:∃ wd,wd=wb.drew:=⟨_,rfl⟩;rw [<-hwd];have HBD:Hid (Bk wd gy 139 #[.map (some mv),.slice A n cap]):=zh (by rw [hwd];exact HBB.out.drew);have HXD:Hid (Bk wd bx 86 #[.int .u64 s0,.int .u64 s1,.int .u64 s2,.int .u64 s3]):=zh (by rw [hwd];exact HBX.out.drew);have HRD:Hid (wd.ownsRow 0 142 7 (.slice A n cap) n (L.flatMap Sp.cells)):=zh (by rw [hwd];exact HRB.out);have HFD:Hid (Fr [] w wd):=zh (by rw [hwd];exact HFB.out.drew);have HS:Hid (wd.cell? ⟨gy,1,none⟩=some (.slice A n cap)/\Bk wd bx 86 #[.int .u64 s0,.int .u64 s1,.int .u64 s2,.int .u64 s3]):=zh ⟨HBD.out.cell_ (i:=1) rfl,HXD.out⟩;clear su hwd;refine F_m 0 SU.out HS.out ?_;simp only [PE];refine F_m 1 SU.out HS.out ?_;simp only [PE];refine F_v 2 ?_ SU.out HS.out (fun W hS=>?_) ?_;rotate_left
 ·obtain ⟨t0,t1⟩:=hS;have q0:=t1.cell_ (i:=0) rfl;have q1:=t1.cell_ (i:=1) rfl;have q2:=t1.cell_ (i:=2) rfl;have q3:=t1.cell_ (i:=3) rfl;go_simp;first | done | rfl | omega | (exact IntWalk.i64_in _ (by omega)) | (simp <;> omega)
 simp only [PU];refine F_v 3 ?_ SU.out HS.out (fun W hS=>?_) ?_;rotate_left
 ·obtain ⟨t0,t1⟩:=hS;have q0:=t1.cell_ (i:=0) rfl;have q1:=t1.cell_ (i:=1) rfl;have q2:=t1.cell_ (i:=2) rfl;have q3:=t1.cell_ (i:=3) rfl;go_simp;first | done | rfl | omega | (exact IntWalk.i64_in _ (by omega)) | (simp <;> omega)
 simp only [PU];refine F_v 4 (.slice A n cap) SU.out HS.out (fun W hS=>?_) ?_
 ·obtain ⟨t0,t1⟩:=hS;have q0:=t1.cell_ (i:=0) rfl;have q1:=t1.cell_ (i:=1) rfl;have q2:=t1.cell_ (i:=2) rfl;have q3:=t1.cell_ (i:=3) rfl;go_simp;first | done | rfl | omega | (exact IntWalk.i64_in _ (by omega)) | (simp <;> omega)
 simp only [PU];refine F_m 5 SU.out HS.out ?_;simp only [PE];refine F_v 6 (.agg #[.int .u64 s0,.int .u64 s1,.int .u64 s2,.int .u64 s3]) SU.out HS.out (fun W hS=>?_) ?_
 ·obtain ⟨t0,t1⟩:=hS;have q0:=t1.cell_ (i:=0) rfl;have q1:=t1.cell_ (i:=1) rfl;have q2:=t1.cell_ (i:=2) rfl;have q3:=t1.cell_ (i:=3) rfl;go_simp;first | done | rfl | omega | (exact IntWalk.i64_in _ (by omega)) | (simp <;> omega)
 simp only [PU];refine F_m 7 SU.out HS.out ?_;simp only [PE];refine F_v 8 ?_ SU.out HS.out (fun W hS=>?_) ?_;rotate_left
 ·obtain ⟨t0,t1⟩:=hS;have q0:=t1.cell_ (i:=0) rfl;have q1:=t1.cell_ (i:=1) rfl;have q2:=t1.cell_ (i:=2) rfl;have q3:=t1.cell_ (i:=3) rfl;go_simp;first | done | rfl | omega | (exact IntWalk.i64_in _ (by omega)) | (simp <;> omega)
 simp only [PU];refine F_v 9 ?_ SU.out HS.out (fun W hS=>?_) ?_;rotate_left
 ·obtain ⟨t0,t1⟩:=hS;have q0:=t1.cell_ (i:=0) rfl;have q1:=t1.cell_ (i:=1) rfl;have q2:=t1.cell_ (i:=2) rfl;have q3:=t1.cell_ (i:=3) rfl;go_simp;first | done | rfl | omega | (exact IntWalk.i64_in _ (by omega)) | (simp <;> omega)
 simp only [PU];refine F_v 10 (.slice A n cap) SU.out HS.out (fun W hS=>?_) ?_
 ·obtain ⟨t0,t1⟩:=hS;have q0:=t1.cell_ (i:=0) rfl;have q1:=t1.cell_ (i:=1) rfl;have q2:=t1.cell_ (i:=2) rfl;have q3:=t1.cell_ (i:=3) rfl;go_simp;first | done | rfl | omega | (exact IntWalk.i64_in _ (by omega)) | (simp <;> omega)
 simp only [PU];refine F_v 11 (.int .i64 (n:Int)) SU.out HS.out (fun W hS=>?_) ?_
 ·obtain ⟨t0,t1⟩:=hS;have q0:=t1.cell_ (i:=0) rfl;have q1:=t1.cell_ (i:=1) rfl;have q2:=t1.cell_ (i:=2) rfl;have q3:=t1.cell_ (i:=3) rfl;go_simp;first | done | rfl | omega | (exact IntWalk.i64_in _ (by omega)) | (simp <;> omega)
 simp only [PU];refine F_v 12 (.int .i64 ((n:Int)+1)) SU.out HS.out (fun W hS=>?_) ?_
 ·obtain ⟨t0,t1⟩:=hS;have q0:=t1.cell_ (i:=0) rfl;have q1:=t1.cell_ (i:=1) rfl;have q2:=t1.cell_ (i:=2) rfl;have q3:=t1.cell_ (i:=3) rfl;go_simp;first | done | rfl | omega | (exact IntWalk.i64_in _ (by omega)) | (simp <;> omega)
 simp only [PU];refine F_v 13 (.agg #[.int .i64 k,.int .u64 s0,.int .u64 s1,.int .u64 s2,.int .u64 s3,.int .i64 ((n:Int)+1),.int .i64 0]) SU.out HS.out (fun W hS=>?_) ?_
 ·obtain ⟨t0,t1⟩:=hS;have q0:=t1.cell_ (i:=0) rfl;have q1:=t1.cell_ (i:=1) rfl;have q2:=t1.cell_ (i:=2) rfl;have q3:=t1.cell_ (i:=3) rfl;go_simp;first | done | rfl | omega | (exact IntWalk.i64_in _ (by omega)) | (simp <;> omega)
 simp only [PU];refine wpAnyF_all (rs:=[14]) (by kernel_rfl) (by simp) (fun w' hG=>?_);obtain rfl:=hG;refine allF.head rfl rfl (fun K6 hK6=>?_) allF.nil;go_simp;obtain ⟨we,hwe⟩:∃ we,we=wd.alloc (.cells #[.int .i64 k,.int .u64 s0,.int .u64 s1,.int .u64 s2,.int .u64 s3,.int .i64 ((n:Int)+1),.int .i64 0] 142):=⟨_,rfl⟩;rw [<-hwe];have hBE:Bk we gy 139 #[.map (some mv),.slice A n cap]:=by rw [hwe];exact HBD.out.alloc _
 have hXE:Bk we bx 86 #[.int .u64 s0,.int .u64 s1,.int .u64 s2,.int .u64 s3]:=by rw [hwe];exact HXD.out.alloc _
 have hRE:we.ownsRow 0 142 7 (.slice A n cap) n (L.flatMap Sp.cells):=by rw [hwe];exact own_fr HRD.out ((Fr.refl [] wd).alloc _) (by simp)
 have hNE:∀ j u,[.int .i64 k,.int .u64 s0,.int .u64 s1,.int .u64 s2,.int .u64 s3,.int .i64 ((n:Int)+1),.int .i64 0][j]?=some u->we.cell? ((⟨wd.heap.size,0,none⟩:Addr).add j)=some u:=by rw [hwe];exact seven_new wd _ _ _ _ _ _ _ _
 have hFE:Fr [] w we:=by rw [hwe];exact HFD.out.alloc _
 have HBE:=zh hBE;have HXE:=zh hXE;have HRE:=zh hRE;have HNE:=zh hNE;have HFE:=zh hFE;refine hK6.out _ _ (.inr ⟨hBE.cell_ (i:=1) rfl,hXE⟩) ?_;clear hK6 K6 hwe hBE hXE hRE hNE hFE;refine wpAnyF_all (rs:=[15]) (by kernel_rfl) (by simp) (fun w' hG=>?_);obtain rfl:=hG;refine allF.head rfl rfl (fun K7 hK7=>?_) allF.nil;refine wp_append_R (.tmp 10) (.tmp 20) 92 rfl 0 142 i0 _ 7 56 underlying92 hi0 hz0 hz1 hz2 rfl (by omega) (.slice A n cap) n (L.flatMap Sp.cells) (by first | rfl | simp [Act.eval]) HRE.out ⟨wd.heap.size,0,none⟩ 1 1 [.int .i64 k,.int .u64 s0,.int .u64 s1,.int .u64 s2,.int .u64 s3,.int .i64 ((n:Int)+1),.int .i64 0] (by first | rfl | simp [Act.eval]) rfl HNE.out (by simp [Value.oneCell']) (by unfold maxLen;omega) (by omega) (Nat.zero_le _) ?_;intro v' w4 hown4 hgr hat
 have hx4:=HXE.out.grown hgr (fun e=>own_ne HRE.out HXE.out (by decide) e.symm);obtain ⟨A',cap',rfl,hb4,hout⟩:=lay_snoc (s:=⟨k,s0,s1,s2,s3,(n:Int)+1,0⟩) HB.out HR.out HN.out HFE.out hown4 hgr (hat.imp id (fun h=>by rw [h]));have HS4:Hid (w4.cell? ⟨gy,1,none⟩=some (.slice A n cap)/\Bk w4 bx 86 #[.int .u64 s0,.int .u64 s1,.int .u64 s2,.int .u64 s3]):=zh ⟨hb4.cell_ (i:=1) rfl,hx4⟩;have c1:=HS4.out.1;have f1:=hb4.frozen 1;have HOUT:=zh hout;refine hK7.out _ _ (.inr HS4.out) ?_;clear hown4 hgr hat hx4 hb4 hout hK7 K7;simp only [PU];refine wpAnyF_all (rs:=[16]) (by kernel_rfl) (by simp) (fun w' hG=>?_);obtain rfl:=hG;refine allF.head rfl rfl (fun K9 hK9=>?_) allF.nil;go_simp;refine hK9.out _ _ (.inr HS4.out) ?_;clear hK9 K9;refine wpAnyF_all (rs:=[17]) (by kernel_rfl) (by simp) (fun w' hG=>?_);obtain rfl:=hG;refine allF.head rfl rfl (fun K9 hK9=>?_) allF.nil;go_simp;refine hK9.out _ _ (.inr HS4.out) ?_;clear hK9 K9;refine wpAnyF_all (rs:=[18]) (by kernel_rfl) (by simp) (fun w' hG=>?_);obtain rfl:=hG;refine allF.head rfl rfl (fun K9 hK9=>?_) allF.nil;go_simp;refine hK9.out _ _ (.inl rfl) ?_;clear hK9 K9;refine wpAnyF_done (by kernel_rfl) (fun w' hG=>?_);obtain rfl:=hG;go_wp2_with fail
 go_end0
 exact ⟨rfl,HOUT.out⟩
def Sp.put (s:Sp) (j:Nat) (v:Int):Sp:=if j=5 then { s with x:=v } else { s with y:=v }
theorem lay_set {w:World} {gy mv:Nat} {l:List Nat} {L:List Sp} (h:LaySt w gy mv l L) {i:Nat} {s:Sp} (hs:L[i]?=some s) {j:Nat} (hj:j=5 ∨ j=6) (v:Int) :
    ∃ B cap,l=[gy,B]/\gy ≠ B/\w.cell? ⟨gy,1,none⟩=some (.slice (some ⟨B,0,none⟩) L.length cap)/\w.frozen? ⟨B,i * 7+j,none⟩=false/\(∃ u,w.cell? ⟨B,i * 7+j,none⟩=some u) /\
     LaySt (w.setCell ⟨B,i * 7+j,none⟩ (.int .i64 v)) gy mv l (L.set i (s.put j v)):=by
 obtain ⟨A,cap,rfl,hb,hr⟩:=h;have hi:i < L.length:=(List.getElem?_eq_some_iff.1 hs).1;have hfl:=flat_len sp_len L;have hne:L.flatMap Sp.cells ≠ []:=fun e=>by rw [e] at hfl;simp at hfl;omega
 obtain ⟨B,rfl,hB,hfz,hcl⟩:=own_cells hr hne;have hgB:gy ≠ B:=fun e=>own_ne hr hb (by decide) (by rw [e];rfl);have hj7:j < 7:=by omega
 have hat:=flat_at sp_len s j hj7 L i hs;refine ⟨B,cap,rfl,hgB,hb.cell_ (i:=1) rfl,hfz _,?_,some ⟨B,0,none⟩,cap,by rw [List.length_set],?_,?_⟩
 ·rcases hj with rfl | rfl
  ·exact ⟨_,hcl _ _ (hat.trans rfl)⟩
  exact ⟨_,hcl _ _ (hat.trans rfl)⟩
 ·rw [List.length_set];exact hb.far hgB _
 rw [List.length_set];have h1:=own_set hr (i * 7+j) (.int .i64 v);rw [flat_set sp_len s (s.put j v) j hj7 (.int .i64 v) (by rcases hj with rfl | rfl <;> rfl) L i hs] at h1
 exact h1
end Go.Proofs.YtfofechcccodeaaGreatDoor
