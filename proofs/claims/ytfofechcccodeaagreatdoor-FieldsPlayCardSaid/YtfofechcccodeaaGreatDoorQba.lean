/-
  Small texts in one (Er9, Ma2, Mb5, MbF). No conditions.
-/
import Derived.Test.YtfofechcccodeaaGreatDoorQaz
import Derived.Test.YtfofechcccodeaaGreatDoorQav
import Derived.OwnWalk
import Derived.Test.YtfofechcccodeaaGreatDoorQap
import Derived.Test.YtfofechcccodeaaGreatDoorQan
namespace Go.Proofs.YtfofechcccodeaaGreatDoor
open Go.RowKit Go.Proofs.Tryz
set_option linter.unusedVariables false
set_option linter.unusedSimpArgs false
set_option maxRecDepth 100000
set_option maxHeartbeats 8000000
def ParsePost (w:World) (r:Except (Nat × Nat) RT) (e:Ending) (w':World):Prop:=match r with
 | .error (p,code)=>∃ v,e = .returned (.tuple #[.agg zeroP,v])/\FaultV w' v p code/\Fr [] w w'
 | .ok t=>∃ p:PT,e = .returned (.tuple #[p.val,.nilIface])/\NewP w.heap.size w' t p/\Fr [] w w'
theorem ParsePost.err {w:World} {r:Except (Nat × Nat) RT} {e:Ending} {w':World} {p code:Nat} {v:Value} (hr:r = .error (p,code)) (h1:e = .returned (.tuple #[.agg zeroP,v])) (h2:FaultV w' v p code) (h3:Fr [] w w'):ParsePost w r e w':=by
 subst hr;exact ⟨v,h1,h2,h3⟩
theorem ParsePost.ok_ {w:World} {r:Except (Nat × Nat) RT} {e:Ending} {w':World} {t:RT} {p:PT} (hr:r = .ok t) (h1:e = .returned (.tuple #[p.val,.nilIface])) (h2:NewP w.heap.size w' t p) (h3:Fr [] w w'):ParsePost w r e w':=by
 subst hr;exact ⟨p,h1,h2,h3⟩
theorem parse_any {w:World} {A:Option Addr} {bs:List UInt8} {c:Nat} (h:Bytes w A bs) (hc:bs.length <= c) (hA:A=none->c=0) (hcm:c <= maxLen) (hg:GlobOk w) :
    Calls prog 39 #[.slice A bs.length c] w (ParsePost w (parseS bs)):=by
 obtain ⟨rb,hrb⟩:∃ rb,rb=w.heap.size:=⟨_,rfl⟩;have HRB:=zh hrb;obtain ⟨R,hR⟩:∃ R,R=parseS bs:=⟨_,rfl⟩;rw [<-hR];unfold parseS at hR;obtain ⟨L,hL⟩:∃ L,L=bs.length:=⟨_,rfl⟩;rw [<-hL] at hc hR ⊢; obtain ⟨F,hF⟩:∃ F,F=6 * L+5:=⟨_,rfl⟩;rw [<-hF] at hR;have HFU:=zh hF;clear hF;have HL:=zh hL
 have h0:1 < w.heap.size:=by
  obtain ⟨m,hm⟩:=hg;exact World.block_lt_of_cell? w _ hm
 have H0:=zh h0;unfold maxLen at hcm;by_cases hbig:1000 < L
 ·rw [if_pos hbig] at hR;have HR:=zh hR;have hd:decide (1000 < L)=true:=by simpa using hbig
  clear hR h hg hL h0;go_enter func39,ntmps39
  go_wp2_with fail
  go_at_call 55
  refine calls_gen1 fun W hW=>?_;have hfr1:Fr [] w W:=by rw [hW];exact (Fr.refl [] w).alloc _
  have hz1:Bk W rb 89 zeroP:=by rw [hW,hrb];exact Bk.new w _ _
  rw [<-hrb];clear hW hrb;refine (efault_any _ _ W).mono ?_;rintro e w2 ⟨v,rfl,hv,hf2⟩;have HV:=zh hv;have HZ2:=zh (hz1.fr hf2 (by simp));have HF2:=zh (hfr1.trans hf2);clear hv hf2 hz1 hfr1;obtain ⟨⟨k0,k1,k2,k3,k4,k5,k6,k7⟩,z0,z1,z2,z3,z4,z5,z6,z7,hrl⟩:=HZ2.out.eightc;go_wp2_with fail
  refine body_gen1 fun W' hW=>?_;refine bodyPost_ret (v := .tuple #[.agg zeroP,v]) (by simp [results,results39,go_sem,hW,k0,k1,k2,k3,k4,k5,k6,k7,hrl,zeroP]) rfl ?_;have hset:Fr [rb] w2 W':=by rw [hW];exact fr8 w2 rb _ _ _ _ _ _ _ _
  exact ParsePost.err HR.out rfl (HV.out.far8 HZ2.out hset) (HF2.out.trans' hset (by simp;have:=HRB.out;omega))
 rw [if_neg hbig] at hR;have HR:=zh hR;have HB:=zh h;have HG:=zh hg;have HA:=zh hA;have hd:decide (1000 < L)=false:=by simpa using hbig
 clear hR h hg hL hA;go_enter func39,ntmps39
 go_wp2_with fail
 go_at_call 56
 refine calls_gen1 fun W hW=>?_;have hfr1:Fr [] w W:=by rw [hW];exact ((Fr.refl [] w).alloc _).alloc _
 have hz1:Bk W rb 89 zeroP:=by rw [hW,hrb];exact (Bk.new w _ _).alloc _
 have hrd0:Bk W (w.heap.size+1) 130 #[.slice A L c,.int .i64 0,.int .i64 0]:=by
  rw [hW];have:=Bk.new (w.alloc (.cells zeroP 89)) 130 #[.slice A L c,.int .i64 0,.int .i64 0]
  simpa [zeroP] using this
 have hrd:Rdr W (w.heap.size+1) A c bs 0 0:=
  { blk:=by rw [<-HL.out];exact hrd0
    byt:=HB.out.fr_nil hfr1
    lt_:=fun hne a ha=>by
     rcases HB.out with hx | ⟨a',ha',hb',-⟩
     ·exfalso;apply hne;simpa [byteVals] using hx
     rw [ha] at ha';injection ha' with ha';subst ha';omega
    cap:=by rw [<-HL.out];exact hc
    nil:=HA.out
    capm:=by unfold maxLen;exact hcm
    len:=by rw [<-HL.out];omega
    at_:=Nat.zero_le _
    deep:=by omega
    glob:=HG.out.fr hfr1
    far:=by omega }
 rw [<-hrb] at hrd ⊢; have HRD:=zh hrd;have HZ:=zh hz1;have HF:=zh hfr1;clear hW hrb hrd0 hrd hz1 hfr1;refine ((read_ok F).1 W (rb+1) A c bs 0 0 HRD.out (by rw [<-HL.out,HFU.out];omega)).mono ?_;intro e w2 hp;rcases hX:exprF bs F 0 0 [] with ⟨p,code⟩ | ⟨t,j⟩
 ·rw [hX] at hp;have hr:=HR.out;rw [hX] at hr;have HR2:Hid (R = .error (p,code)):=zh hr;obtain ⟨v,rfl,⟨fg,rfl,hfb⟩,hf2⟩:=hp;have HV:=zh (show FaultV w2 _ (p:Int) (code:Int) from ⟨fg,rfl,hfb⟩);have HZ2:=zh (HZ.out.fr hf2 (by simp));have HF2:Hid (Fr [] w w2):=zh (HF.out.trans' hf2 (by simp;have:=HRB.out;omega));clear hfb hf2 hX hr HR;obtain ⟨⟨k0,k1,k2,k3,k4,k5,k6,k7⟩,z0,z1,z2,z3,z4,z5,z6,z7,hrl⟩:=HZ2.out.eightc;unfold zeroP;go_wp2_with fail
  refine body_gen1 fun W' hW=>?_;have hbW:Bk W' rb 89 zeroP:=by rw [hW];exact (HZ2.out.put8 _ _ _ _ _ _ _ _).put8 _ _ _ _ _ _ _ _
  obtain ⟨⟨m0,m1,m2,m3,m4,m5,m6,m7⟩,-⟩:=hbW.eightc;refine bodyPost_ret (v := .tuple #[.agg zeroP,.iface 74 (.pointer (some ⟨fg,0,none⟩))]) (by simp [results,results39,go_sem,m0,m1,m2,m3,m4,m5,m6,m7,zeroP]) rfl ?_;have hset:Fr [rb] w2 W':=by rw [hW];exact (fr8 w2 rb _ _ _ _ _ _ _ _).trans (fr8 _ rb _ _ _ _ _ _ _ _)
  exact ParsePost.err HR2.out rfl (HV.out.far8 HZ2.out hset) (HF2.out.trans' hset (by simp;have:=HRB.out;omega))
 rw [hX] at hp;have hr:=HR.out;rw [hX] at hr;obtain ⟨p,rfl,hn,hrd,hf2⟩:=hp;have HRD2:=zh hrd;have HZ2:=zh (HZ.out.fr hf2 (by simp));have HF2:Hid (Fr [] w w2):=zh (HF.out.trans' hf2 (by simp;have:=HRB.out;omega));have HN2:=zh hn;have HRR:Hid ((if j < L then .error (j,4) else .ok t)=R):=zh hr.symm;have hlo:rb < W.heap.size:=HZ.out.lt;have hjl:=HRD2.out.at_;rw [<-HL.out] at hjl;clear hn hrd hf2 hX hr HR;unfold PT.val;obtain ⟨qn,hqn⟩:∃ qn,qn=p.l.length:=⟨_,rfl⟩;rw [<-hqn];have HQN:=zh hqn;clear hqn;obtain ⟨-, c1,-, -, -⟩:=HRD2.out.cells;have hgl2:=HRD2.out.blk.lt;obtain ⟨⟨k0,k1,k2,k3,k4,k5,k6,k7⟩,z0,z1,z2,z3,z4,z5,z6,z7,hrl⟩:=HZ2.out.eightc;by_cases hj:j < L
 ·have hr:=HRR.out;rw [if_pos hj] at hr;have HR2:Hid (R = .error (j,4)):=zh hr.symm;have hdj:decide (j < L)=true:=by simpa using hj
  clear hr;go_wp2_with fail
  go_at_call 55
  refine calls_gen1 fun W3 hW=>?_;have hset:Fr [rb] w2 W3:=by rw [hW];exact fr8 w2 rb _ _ _ _ _ _ _ _
  have hz3:∃ x0 x1 x2 x3 x4 x5 x6 x7,Bk W3 rb 89 #[x0,x1,x2,x3,x4,x5,x6,x7]:=⟨_,_,_,_,_,_,_,_,by rw [hW];exact HZ2.out.put8 _ _ _ _ _ _ _ _⟩;obtain ⟨x0,x1,x2,x3,x4,x5,x6,x7,hz3⟩:=hz3;have HZ3:=zh hz3;have HF3:Hid (Fr [] w W3):=zh (HF2.out.trans' hset (by simp;have:=HRB.out;omega));clear hW hset hz3 k0 k1 k2 k3 k4 k5 k6 k7 z0 z1 z2 z3 z4 z5 z6 z7 hrl;refine (efault_any _ _ W3).mono ?_;rintro e w4 ⟨v,rfl,hv,hf4⟩;have HV:=zh hv;have HZ4:=zh (HZ3.out.fr hf4 (by simp));have HF4:=zh (HF3.out.trans hf4);clear hv hf4;obtain ⟨⟨k0,k1,k2,k3,k4,k5,k6,k7⟩,z0,z1,z2,z3,z4,z5,z6,z7,hrl⟩:=HZ4.out.eightc;go_wp2_with fail
  refine body_gen1 fun W' hW=>?_;refine bodyPost_ret (v := .tuple #[.agg zeroP,v]) (by simp [results,results39,go_sem,hW,k0,k1,k2,k3,k4,k5,k6,k7,hrl,zeroP]) rfl ?_;have hset:Fr [rb] w4 W':=by rw [hW];exact fr8 w4 rb _ _ _ _ _ _ _ _
  exact ParsePost.err HR2.out rfl (HV.out.far8 HZ4.out hset) (HF4.out.trans' hset (by simp;have:=HRB.out;omega))
 have hr:=HRR.out;rw [if_neg hj] at hr;have HR2:Hid (R = .ok t):=zh hr.symm;have hdj:decide (j < L)=false:=by simpa using hj
 clear hr;go_wp2_with fail
 refine body_gen1 fun W' hW=>?_;have hbW:Bk W' rb 89 #[.int .i64 p.k,.int .u64 p.s0,.int .u64 p.s1,.int .u64 p.s2,.int .u64 p.s3,.int .i64 p.mn,.int .i64 p.mx,.slice p.A qn p.c]:=by rw [hW];exact (HZ2.out.put8 _ _ _ _ _ _ _ _).put8 _ _ _ _ _ _ _ _
 obtain ⟨⟨m0,m1,m2,m3,m4,m5,m6,m7⟩,-⟩:=hbW.eightc;refine bodyPost_ret (v := .tuple #[p.val,.nilIface]) (by simp [results,results39,go_sem,m0,m1,m2,m3,m4,m5,m6,m7,PT.val,HQN.out]) rfl ?_;have hset:Fr [rb] w2 W':=by rw [hW];exact (fr8 w2 rb _ _ _ _ _ _ _ _).trans (fr8 _ rb _ _ _ _ _ _ _ _)
 exact ParsePost.ok_ HR2.out rfl ((HN2.out.fr hset (by simp;omega)).lower HF.out.size) (HF2.out.trans' hset (by simp;have:=HRB.out;omega))
end Go.Proofs.YtfofechcccodeaaGreatDoor
namespace Go.Proofs.YtfofechcccodeaaGreatDoor
open Go.RowKit Go.ChangeMaps Go.Proofs.Tryz
set_option linter.unusedVariables false
set_option linter.unusedSimpArgs false
set_option maxRecDepth 100000
set_option maxHeartbeats 8000000
def FinderAt (w:World) (lo fb:Nat) (L:List Sp):Prop:=∃ A cap,Bk w fb 96 #[.slice A L.length cap]/\w.ownsRow lo 142 7 (.slice A L.length cap) L.length (L.flatMap Sp.cells)
def NewPost (w:World) (r:Except (Nat × Nat) RT) (e:Ending) (w':World):Prop:=Fr [] w w'/\match r with
 | .error (p,code)=>∃ v,e = .returned (.tuple #[.pointer none,v])/\FaultV w' v p code
 | .ok t=>if 4000 <= sizP (toP t) then ∃ v,e = .returned (.tuple #[.pointer none,v])/\FaultV w' v 0 5
  else ∃ fb,e = .returned (.tuple #[.pointer (some ⟨fb,0,none⟩),.nilIface])/\w.heap.size <= fb/\FinderAt w' w.heap.size fb (progT t)
theorem NewPost.big {w w':World} {t:RT} {e:Ending} {v:Value} (hs:4000 <= sizP (toP t)) (he:e = .returned (.tuple #[.pointer none,v])) (hv:FaultV w' v 0 5) (hf:Fr [] w w'):NewPost w (.ok t) e w':=by
 refine ⟨hf,?_⟩;show if _ then _ else _;rw [if_pos hs];exact ⟨v,he,hv⟩
theorem NewPost.fin {w w':World} {t:RT} {e:Ending} {fb:Nat} (hs:sizP (toP t) < 4000) (he:e = .returned (.tuple #[.pointer (some ⟨fb,0,none⟩),.nilIface])) (hb:w.heap.size <= fb) (hv:FinderAt w' w.heap.size fb (progT t)) (hf:Fr [] w w'):NewPost w (.ok t) e w':=by
 refine ⟨hf,?_⟩;show if _ then _ else _;rw [if_neg (by omega)];exact ⟨fb,he,hb,hv⟩
theorem comp_read {w:World} {t:RT} {p:PT} {n:Nat} (hn:NewP n w t p) (hr:rightT t=true) (hc:cntT t <= 1199) :
    Calls prog 40 #[p.val] w fun e w'=>Fr [] w w'/\(4000 <= sizP (toP t)/\e = .returned (.tuple #[.slice none 0 0,.iface 55 (.int .i64 5)]) ∨
     sizP (toP t) < 4000/\∃ v,e = .returned (.tuple #[v,.nilIface])/\StepsNew w (progT t) v w'):=by
 refine (compile_all hn.mem (by rw [RepP.cnt t p hn.rep];exact hc)).mono ?_;rintro e w' ⟨hf,h⟩;rw [RepP.right t p hn.rep,hr,RepP.siz t p hn.rep,RepP.lay t p 0 hn.rep] at h;refine ⟨hf,?_⟩;rcases h with ⟨h1,-⟩ | ⟨-, h1,h2⟩ | ⟨-, h1,h2⟩
 ·cases h1
 ·exact .inl ⟨h1,h2⟩
 exact .inr ⟨h1,h2⟩
theorem new_any {w:World} {A:Option Addr} {bs:List UInt8} {c:Nat} (h:Bytes w A bs) (hl:bs.length <= 150) (hc:bs.length <= c) (hA:A=none->c=0) (hcm:c <= maxLen) (hg:GlobOk w) :
    Calls prog 27 #[.slice A bs.length c] w (NewPost w (parseS bs)):=by
 have hpar:=parse_any h hc hA hcm hg;obtain ⟨R,hR⟩:∃ R,R=parseS bs:=⟨_,rfl⟩;rw [<-hR] at hpar ⊢; obtain ⟨n,hn⟩:∃ n,n=bs.length:=⟨_,rfl⟩;rw [<-hn] at hl hpar ⊢; have HP:=zh hpar;have HR:=zh hR;have HN:=zh hn;clear h hpar hR hn hg;go_enter func27,ntmps27
 go_wp2_with fail
 go_at_call 39
 refine HP.out.mono ?_;intro e w1 hp;rcases R with ⟨p,code⟩ | t
 ·obtain ⟨v,rfl,⟨fg,rfl,hfb⟩,hf⟩:=hp;have HF:=zh hf;have HFB:=zh hfb;clear hf hfb;unfold zeroP;go_wp2_with fail
  go_ret2
  exact ⟨HF.out.alloc _,_,rfl,fg,rfl,HFB.out.fr ((Fr.refl [] w1).alloc _) (by simp)⟩
 obtain ⟨p,rfl,hn,hf⟩:=hp;obtain ⟨hrt,hct⟩:=parse_good HR.out.symm;have HF:=zh hf;have HNP:=zh hn;have HRT:=zh hrt;have HCT:Hid (cntT t <= 1199):=zh (by rw [<-HN.out] at hct;omega);clear hf hn hrt hct HP;unfold PT.val;go_wp2_with fail
 go_at_call 40
 refine (comp_read (HNP.out.fr_nil ((Fr.refl [] w1).alloc _)) HRT.out HCT.out).mono ?_;rintro e w2 ⟨hf2,⟨hs,rfl⟩ | ⟨hs,v,rfl,A',cap,rfl,hown⟩⟩
 ·have HF2:=zh ((HF.out.alloc _).trans hf2);clear hf2;go_wp2_with fail
  go_ret2
  exact NewPost.big hs rfl ⟨w2.heap.size,rfl,Bk.new _ _ _⟩ (HF2.out.alloc _)
 have HF2:=zh ((HF.out.alloc _).trans hf2);have HOWN:=zh hown;have hsz:w.heap.size <= w2.heap.size:=HF2.out.size;clear hf2 hown;go_wp2_with fail
 go_ret2
 refine NewPost.fin hs rfl hsz ⟨A',cap,Bk.new _ _ _,?_⟩ (HF2.out.alloc _);exact own_rebase (own_fr HOWN.out ((Fr.refl [] w2).alloc _) (by simp)) (fun g hg=>Nat.le_trans (by have h1:=HF.out.size;simp;omega) (own_base HOWN.out g hg).1)
end Go.Proofs.YtfofechcccodeaaGreatDoor
namespace Go.Proofs.YtfofechcccodeaaGreatDoor
open Go.RowKit Go.ChangeMaps Go.Proofs.Tryz
set_option linter.unusedVariables false
set_option linter.unusedSimpArgs false
set_option maxRecDepth 100000
set_option maxHeartbeats 8000000
theorem mk_ints (n:Nat) (hn:n <= 100000) (W:World):(Instr.makeSlice 165 (.int .i64 (n:Int)) (.int .i64 (n:Int))).run prog W = .ok (.slice (some ⟨W.heap.size,0,none⟩) n n) (W.alloc (.cells (intsV (List.replicate n 0)).toArray 3)):=by
 obtain ⟨i,hi,hz,hs,hb⟩:=intParts;have h:=run_make (P:=prog) (w:=W) 165 3 i _ underlying165 hi hz .i64 .i64 (n:Int) (n:Int) (by omega) (by omega) (by rw [hb];omega) (by omega);rw [hs] at h;have e1:Int.toNat (n:Int)=n:=by omega
 have e2:madeCells (Value.int .i64 0).cells (n * 1)=(intsV (List.replicate n 0)).toArray:=by
  have:=toList_madeCells_one (.int .i64 0) n;rw [Nat.mul_one]
  apply Array.ext'
  rw [show (Value.int .i64 0).cells=#[Value.int .i64 0] from rfl,this];simp [intsV]
 rw [e1,e2] at h;exact h
def NewSr (w:World) (L:List Sp) (tx:List UInt8) (e:Ending) (w':World):Prop:=
 ∃ sb l P s,e = .returned (.pointer (some ⟨sb,0,none⟩))/\SrAt w.heap.size w' sb l L tx false P [] 0 s/\s.next=[]/\Fr [] w w'/\∀ b ∈ l,w.heap.size <= b
theorem new_sr {w w1 w2:World} {A:Option Addr} {n c:Nat} {L:List Sp} {A2:Option Addr} {tx:List UInt8} {c2:Nat} (hn:n=L.length)
    (hp:w.ownsRow 0 142 7 (.slice A n c) L.length (L.flatMap Sp.cells)) (ht:Bytes w A2 tx) (htc:tx.length <= c2) (htl:∀ a,A2=some a->a.block < w.heap.size) (h0:0 < L.length) (hL:L.length <= 5000) (hf:Fr [] w w1)
    (hw2:w2=(w1.alloc (.cells (intsV (List.replicate n 0)).toArray 3)).alloc (.cells #[.slice A n c,.slice A2 tx.length c2,.bool false,.slice none 0 0,.slice none 0 0,.int .i64 0,.slice (some ⟨w1.heap.size,0,none⟩) n n,.slice none 0 0,.int .i64 0,.int .i64 0,.bool false] 167)) :
    NewSr w L tx (.returned (.pointer (some ⟨w1.heap.size+1,0,none⟩))) w2:=by
 subst hn;have hf2:Fr [] w w2:=by rw [hw2];exact (hf.alloc _).alloc _
 have hsz:=hf.size;have hb1:Bk w2 w1.heap.size 3 (intsV (List.replicate L.length 0)).toArray:=by rw [hw2];exact (Bk.new w1 _ _).alloc _
 have hb2:Bk w2 (w1.heap.size+1) 167 #[.slice A L.length c,.slice A2 tx.length c2,.bool false,.slice none 0 0,.slice none 0 0,.int .i64 0,.slice (some ⟨w1.heap.size,0,none⟩) L.length L.length,.slice none 0 0,.int .i64 0,.int .i64 0,.bool false]:=by
  rw [hw2];have:=Bk.new (w1.alloc (.cells (intsV (List.replicate L.length 0)).toArray 3)) 167 #[.slice A L.length c,.slice A2 tx.length c2,.bool false,.slice none 0 0,.slice none 0 0,.int .i64 0,.slice (some ⟨w1.heap.size,0,none⟩) L.length L.length,.slice none 0 0,.int .i64 0,.int .i64 0,.bool false];have e:(w1.alloc (.cells (intsV (List.replicate L.length 0)).toArray 3)).heap.size=w1.heap.size+1:=by simp
  rw [e] at this;exact this
 have hnil:∀ (t:TypeId) (sz:Nat),w2.ownsRow w.heap.size t sz (.slice none 0 0) 0 []:=fun t sz=>⟨by simp,.inl ⟨rfl,rfl⟩⟩;refine ⟨w1.heap.size+1,_,(.slice none 0 0,[]),⟨[],List.replicate L.length true,none⟩,rfl,⟨A,c,A2,c2,.slice none 0 0,.slice (some ⟨w1.heap.size,0,none⟩) L.length L.length,.slice none 0 0,List.replicate L.length 0,0,0,rfl,?_⟩,rfl,hf2,?_⟩
 ·exact { lo_:=by omega,tlo:=htl,blk:=hb2,prog:=own_keep hp (KeepB.of_nil hf2),text:=ht.fr hf2 (by simp),textc:=htc,now_:=hnil _ _,next_:=hnil _ _,todo_:=hnil _ _
          seen_:=⟨by simp [intsV],.inr ⟨w1.heap.size,L.length,_,rfl,by omega,hb1,Nat.le_refl _,by unfold maxLen;omega,by simp [intsV],by simp [intsV]⟩⟩
          d1:=fun b hb=>(by simp [Value.ownBlock] at hb),d2:=fun b hb=>(by simp [Value.ownBlock])
          len:=by simp,le:=fun x hx=>(by simp at hx;omega),vis:=by simp,fd:=fun q hq=>(by cases hq) }
 intro b hb;rcases srb_mem.1 hb with e | e | e | e | e
 ·omega
 ·simp [Value.ownBlock] at e
 ·simp [Value.ownBlock] at e
 ·simp [Value.ownBlock] at e;omega
 simp [Value.ownBlock] at e
theorem newSearch_any {w:World} {lo fb:Nat} {L:List Sp} {A2:Option Addr} {tx:List UInt8} {c2:Nat} (h:FinderAt w lo fb L) (ht:Bytes w A2 tx) (htc:tx.length <= c2) (htl:∀ a,A2=some a->a.block < w.heap.size) (h0:0 < L.length) (hL:L.length <= 5000) :
    Calls prog 64 #[.pointer (some ⟨fb,0,none⟩),.slice A2 tx.length c2] w (NewSr w L tx):=by
 obtain ⟨A,c,hb,hr⟩:=h;obtain ⟨n,hn⟩:∃ n,n=L.length:=⟨_,rfl⟩;obtain ⟨m,hm⟩:∃ m,m=tx.length:=⟨_,rfl⟩;have hmk:=mk_ints n (by omega);have hlt:=hb.lt;have c0:w.cell? ⟨fb,0,none⟩=some (.slice A n c):=by rw [hn];exact hb.cell_ rfl
 have hr0:w.ownsRow 0 142 7 (.slice A n c) L.length (L.flatMap Sp.cells):=by rw [hn];exact own_rebase hr (fun g hg=>Nat.zero_le _)
 have HR:=zh hr0;have HT:=zh ht;have HN:=zh hn;have HM:=zh hm;have HTC:=zh htc;rw [<-hm];clear hb hr hr0 ht hn hm htc;go_enter func64,ntmps64
 go_upto_region 1 with fail
 refine wp_region_F_ (G:=fun a b=>a=b) (F:=fun i=>i == 14) (S:=fun W=>W.cell? ⟨fb,0,none⟩=some (.slice A n c)) ⟨fun _=>rfl,fun a b c h k=>h.trans k,fun a b h k=>k ▸ h,by kernel_rfl,fun _ _ d _ _ h=>by cases d <;> exact h⟩ (by kernel_rfl) fun su=>?_
 have SU:=zh su;obtain ⟨wd,hwd⟩:∃ wd,wd=w.drew:=⟨_,rfl⟩;rw [<-hwd];have HS:Hid (wd.cell? ⟨fb,0,none⟩=some (.slice A n c)):=zh (by rw [hwd];exact c0);have hfd:Fr [] w wd:=by rw [hwd];exact (Fr.refl [] w).drew
 have HFD:=zh hfd;clear su hwd hfd c0;refine F_m 0 SU.out HS.out ?_;simp only [PE];refine F_v 1 ?_ SU.out HS.out (fun W hS=>?_) ?_;rotate_left
 ·have t0:=hS;go_simp;first | done | rfl | omega | (exact IntWalk.i64_in _ (by omega)) | (simp <;> omega)
 simp only [PU];refine F_v 2 ?_ SU.out HS.out (fun W hS=>?_) ?_;rotate_left
 ·have t0:=hS;go_simp;first | done | rfl | omega | (exact IntWalk.i64_in _ (by omega)) | (simp <;> omega)
 simp only [PU];refine F_v 3 (.slice A n c) SU.out HS.out (fun W hS=>?_) ?_
 ·have t0:=hS;go_simp;first | done | rfl | omega | (exact IntWalk.i64_in _ (by omega)) | (simp <;> omega)
 simp only [PU];refine F_m 4 SU.out HS.out ?_;simp only [PE];refine F_m 5 SU.out HS.out ?_;simp only [PE];refine F_v 6 ?_ SU.out HS.out (fun W hS=>?_) ?_;rotate_left
 ·have t0:=hS;go_simp;first | done | rfl | omega | (exact IntWalk.i64_in _ (by omega)) | (simp <;> omega)
 simp only [PU];refine F_v 7 ?_ SU.out HS.out (fun W hS=>?_) ?_;rotate_left
 ·have t0:=hS;go_simp;first | done | rfl | omega | (exact IntWalk.i64_in _ (by omega)) | (simp <;> omega)
 simp only [PU];refine F_v 8 (.slice A n c) SU.out HS.out (fun W hS=>?_) ?_
 ·have t0:=hS;go_simp;first | done | rfl | omega | (exact IntWalk.i64_in _ (by omega)) | (simp <;> omega)
 simp only [PU];refine F_v 9 (.int .i64 (n:Int)) SU.out HS.out (fun W hS=>?_) ?_
 ·have t0:=hS;go_simp;first | done | rfl | omega | (exact IntWalk.i64_in _ (by omega)) | (simp <;> omega)
 simp only [PU];refine wpAnyF_all (rs:=[10]) (by kernel_rfl) (by simp) (fun w' hG=>?_);obtain rfl:=hG;refine allF.head rfl rfl (fun K9 hK9=>?_) allF.nil;go_simp
 have hs1:(wd.alloc (.cells (intsV (List.replicate n 0)).toArray 3)).cell? ⟨fb,0,none⟩=some (.slice A n c):=by
  exact (((Fr.refl [] wd).alloc _).cell (World.block_lt_of_cell? wd _ HS.out) (by simp)).trans HS.out
 have HS1:=zh hs1;refine hK9.out _ _ (.inr hs1) ?_;clear hs1;clear hK9 K9;refine wpAnyF_all (rs:=[11]) (by kernel_rfl) (by simp) (fun w' hG=>?_);obtain rfl:=hG;refine allF.head rfl rfl (fun K9 hK9=>?_) allF.nil;go_simp;refine hK9.out _ _ (.inr HS1.out) ?_;clear hK9 K9;refine wpAnyF_all (rs:=[12]) (by kernel_rfl) (by simp) (fun w' hG=>?_);obtain rfl:=hG;refine allF.head rfl rfl (fun K9 hK9=>?_) allF.nil;go_simp;obtain ⟨w2,hw2⟩:∃ w2,w2=(wd.alloc (.cells (intsV (List.replicate n 0)).toArray 3)).alloc (.cells #[.slice A n c,.slice A2 m c2,.bool false,.slice none 0 0,.slice none 0 0,.int .i64 0,.slice (some ⟨wd.heap.size,0,none⟩) n n,.slice none 0 0,.int .i64 0,.int .i64 0,.bool false] 167):=⟨_,rfl⟩;rw [<-hw2];have hs2:w2.cell? ⟨fb,0,none⟩=some (.slice A n c):=by rw [hw2];exact (((Fr.refl [] _).alloc _).cell (World.block_lt_of_cell? _ _ HS1.out) (by simp)).trans HS1.out
 have HS2:=zh hs2;refine hK9.out _ _ (.inr hs2) ?_;have hnew:=new_sr (w2:=w2) HN.out HR.out HT.out HTC.out htl h0 hL HFD.out (by rw [hw2,HM.out]);have HNEW:=zh hnew;clear hs2 hnew hw2;clear hK9 K9;refine wpAnyF_all (rs:=[13]) (by kernel_rfl) (by simp) (fun w' hG=>?_);obtain rfl:=hG;refine allF.head rfl rfl (fun K9 hK9=>?_) allF.nil;go_simp;refine hK9.out _ _ (.inr HS2.out) ?_;clear hK9 K9;refine wpAnyF_done (by kernel_rfl) (fun w' hG=>?_);obtain rfl:=hG;go_wp2_with fail
 go_ret
 exact HNEW.out
def FindPost (lo:Nat) (w:World) (sb:Nat) (l:List Nat) (L:List Sp) (tx:List UInt8) (opn:Bool) (stamp from_:Nat) (e:Ending) (w':World):Prop:=
 e = .returned (.bool (runS L tx opn false from_).2.isSome)/\RunPost lo w sb l L tx opn stamp (runS L tx opn false from_) (.returned (.tuple #[])) w'
theorem RunPost.found {lo:Nat} {w:World} {sb:Nat} {l:List Nat} {L:List Sp} {tx:List UInt8} {opn:Bool} {stamp:Nat} {r:List (Nat × Nat) × Option (Nat × Nat)} {e:Ending} {w':World} (h:RunPost lo w sb l L tx opn stamp r e w') :
    w'.cell? ⟨sb,10,none⟩=some (.bool r.2.isSome)/\(∀ q,r.2=some q->w'.cell? ⟨sb,8,none⟩=some (.int .i64 (q.1:Int))/\w'.cell? ⟨sb,9,none⟩=some (.int .i64 (q.2:Int)))/\Fr l w w'/\sb < w'.heap.size:=by
 obtain ⟨-, P,s,stamp',⟨l',⟨A,c,A2,c2,xv,sv,tv,ys,s0,en,-, hm⟩,hf,-⟩,-, h2,-⟩:=h;rw [<-h2];refine ⟨hm.blk.cell_ rfl,fun q hq=>?_,hf,hm.blk.lt⟩;obtain ⟨e1,e2⟩:=hm.fd q hq;subst e1 e2;exact ⟨hm.blk.cell_ rfl,hm.blk.cell_ rfl⟩
theorem find_any {lo:Nat} {w:World} {sb:Nat} {l:List Nat} {L:List Sp} {tx:List UInt8} {opn:Bool} {P0:Value × List (Nat × Nat)} {stamp from_:Nat} {s0:Sr}
    (h:SrAt lo w sb l L tx opn P0 [] stamp s0) (hok:ProgOk L) (h0:0 < L.length) (hL:L.length <= 5000) (hfr:from_ <= tx.length) (htx:tx.length <= 10000) (hstamp:stamp+tx.length+2 <= 1000000000000) (hnx:s0.next.length <= 5000) :
    Calls prog 65 #[.pointer (some ⟨sb,0,none⟩),.int .i64 (from_:Int)] w (FindPost lo w sb l L tx opn stamp from_):=by
 have HRUN:=zh (run_any (there:=false) h hok h0 hL hfr htx hstamp hnx);obtain ⟨R,hR⟩:∃ R,R=runS L tx opn false from_:=⟨_,rfl⟩;unfold FindPost;rw [<-hR] at HRUN ⊢; clear hok hR h;go_enter func65,ntmps65
 go_wp2_with fail
 go_at_call 80
 refine HRUN.out.mono ?_;intro e w1 hp;have hf:=hp.found;obtain ⟨he,-⟩:=id hp;subst he;have c10:=hf.1;have hlt1:=hf.2.2.2;have HP:=zh hp;clear hp hf HRUN;go_wp2_with fail
 go_ret
 exact ⟨rfl,HP.out⟩
def found3 (r:Option (Nat × Nat)):Value:=match r with | some q => .tuple #[.int .i64 (q.1:Int),.int .i64 (q.2:Int),.bool true] | none => .tuple #[.int .i64 0,.int .i64 0,.bool false]
def tkF (n:Nat):Option (Nat × Nat)->Bool | some q=>q.2 == n | none=>false
end Go.Proofs.YtfofechcccodeaaGreatDoor
namespace Go.Proofs.YtfofechcccodeaaGreatDoor
set_option linter.unusedVariables false
set_option linter.unusedSimpArgs false
def findsF (L:List Sp) (tx:List UInt8):Nat->Nat->Int->List (Nat × Nat)
 | 0,_,_=>[]
 | f+1,from_,last=>if from_ <= tx.length then
     match findS L tx from_ with
     | none=>[]
     | some q=>(if q.1 < q.2 ∨ (q.1:Int) ≠ last then [q] else []) ++ findsF L tx f (if q.2=q.1 then q.2+1 else q.2) (q.2:Int)
  else []
def findsS (L:List Sp) (tx:List UInt8):List (Nat × Nat):=findsF L tx (tx.length+2) 0 (-1)
theorem findsF_none {L:List Sp} {tx:List UInt8} {f a:Nat} {last:Int} (h:findS L tx a=none):findsF L tx (f+1) a last=[]:=by
 rw [findsF];split
 ·rw [h]
 rfl
theorem findsF_past {L:List Sp} {tx:List UInt8} {f a:Nat} {last:Int} (h:¬ a <= tx.length):findsF L tx (f+1) a last=[]:=by
 rw [findsF,if_neg h]
theorem findsF_some {L:List Sp} {tx:List UInt8} {f a:Nat} {last:Int} {q:Nat × Nat} (ha:a <= tx.length) (h:findS L tx a=some q) :
    findsF L tx (f+1) a last=(if q.1 < q.2 ∨ (q.1:Int) ≠ last then [q] else []) ++ findsF L tx f (if q.2=q.1 then q.2+1 else q.2) (q.2:Int):=by
 rw [findsF,if_pos ha,h]
def splitF (tx:List UInt8):List (Nat × Nat)->Nat->List (List UInt8)
 | [],b=>[tx.drop b]
 | q :: r,b=>if q.1 < q.2 then ((tx.drop b).take (q.1 - b)) :: splitF tx r q.2 else splitF tx r b
def splitS (L:List Sp) (tx:List UInt8):List (List UInt8):=if tx=[] then [] else splitF tx (findsS L tx) 0
theorem findsF_ord {L:List Sp} {tx:List UInt8} (hok:ProgOk L) (h0:0 < L.length):∀ (f a:Nat) (last:Int),(∀ q ∈ findsF L tx f a last,a <= q.1/\q.1 <= q.2/\q.2 <= tx.length)/\(findsF L tx f a last).Pairwise (fun p q=>p.2 <= q.1)/\(findsF L tx f a last).length <= f
 | 0,a,last=>by simp [findsF]
 | f+1,a,last=>by
  by_cases ha:a <= tx.length
  ·cases hs:findS L tx a with
   | none=>rw [findsF_none hs];simp
   | some q=>
    have hf:=findS_some hok h0 ha hs;have g1:=hf.fr;have g2:=hf.le;have g3:=hf.len;obtain ⟨i1,i2,i3⟩:=findsF_ord hok h0 f (if q.2=q.1 then q.2+1 else q.2) (q.2:Int);have hge:q.2 <= (if q.2=q.1 then q.2+1 else q.2):=by split <;> omega
    rw [findsF_some ha hs];refine ⟨fun x hx=>?_,?_,?_⟩
    ·rcases List.mem_append.1 hx with hx | hx
     ·split at hx
      ·simp at hx;subst hx;exact ⟨g1,g2,g3⟩
      cases hx
     obtain ⟨j1,j2,j3⟩:=i1 x hx;exact ⟨by omega,j2,j3⟩
    ·rw [List.pairwise_append];refine ⟨by split <;> simp,i2,fun x hx y hy=>?_⟩
     split at hx
     ·simp at hx;subst hx;have:=(i1 y hy).1;omega
     cases hx
    rw [List.length_append];have:(if q.1 < q.2 ∨ (q.1:Int) ≠ last then [q] else []).length <= 1:=by split <;> simp
    omega
  rw [findsF_past ha];simp
theorem findsS_ord {L:List Sp} {tx:List UInt8} (hok:ProgOk L) (h0:0 < L.length):(∀ q ∈ findsS L tx,q.1 <= q.2/\q.2 <= tx.length)/\(findsS L tx).Pairwise (fun p q=>p.2 <= q.1)/\(findsS L tx).length <= tx.length+2:=by
 obtain ⟨h1,h2,h3⟩:=findsF_ord (tx:=tx) hok h0 (tx.length+2) 0 (-1);exact ⟨fun q hq=>(h1 q hq).2,h2,h3⟩
theorem drop_cons_of {α : Type} {l:List α} {k:Nat} {x : α} (h:l[k]?=some x):l.drop k=x :: l.drop (k+1):=by
 obtain ⟨h1,h2⟩:=List.getElem?_eq_some_iff.1 h;rw [List.drop_eq_getElem_cons h1,h2]
theorem split_round {FL:List (Nat × Nat)} {k:Nat} {x:Nat × Nat} {n b:Nat} (hp:FL.Pairwise (fun p q=>p.2 <= q.1)) (hn:∀ q ∈ FL,q.1 <= q.2/\q.2 <= n) (hx:FL[k]?=some x) (hb:∀ q ∈ FL.drop k,b <= q.1) :
    b <= x.1/\x.1 <= x.2/\x.2 <= n/\(∀ q ∈ FL.drop (k+1),x.2 <= q.1)/\(∀ q ∈ FL.drop (k+1),b <= q.1):=by
 have hd:=drop_cons_of hx;obtain ⟨h1,h2⟩:=hn x (List.mem_of_getElem? hx);have hpd:(FL.drop k).Pairwise (fun p q=>p.2 <= q.1):=hp.sublist (List.drop_sublist _ _);rw [hd] at hpd hb;exact ⟨hb x (by simp),h1,h2,(List.pairwise_cons.1 hpd).1,fun q hq=>hb q (by simp [hq])⟩
end Go.Proofs.YtfofechcccodeaaGreatDoor
