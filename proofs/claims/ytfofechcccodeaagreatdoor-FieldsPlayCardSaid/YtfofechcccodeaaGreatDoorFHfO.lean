/-
 The row and the card of 'FieldsPlay': for every input the law returns true, and each argument reads behind the call as it read before. Under the row's own condition alone (the listed variables hold what the program's text lays). (The frame is written by a program of the prover's.)
-/
import Derived.Test.YtfofechcccodeaaGreatDoorQby
import Derived.Test.YtfofechcccodeaaGreatDoorQbw
import Derived.Test.YtfofechcccodeaaGreatDoorTie
import Derived.Test.YtfofechcccodeaaGreatDoorCards
import Derived.SevenTiedAt
import Derived.HandedShaped
import Derived.ProofKit
import Derived.LaidMore
import Derived.LaidHandle
import Derived.OpenShut
import Derived.ShutString
import Derived.ChangeOld
import Derived.Below
import GoSem.PinnedTables
namespace Go.Proofs.YtfofechcccodeaaGreatDoor
open Go.ChangeShapes Go.WideShapes Go.ChangeAt Go.RowKit Go.Proofs.Tryz
set_option linter.unusedVariables false
namespace FFieldsPlay
theorem own:ownKnob prog.godebug=none:=by kernel_rfl
theorem laidOut:laidOutB prog=true:=by kernel_rfl
noncomputable def start (os:Os):World:=((World.doorLaid prog 400 os).setRow 2 (Go.Pinned.utf8FirstZ.map fun n:Nat=>Value.int .u8 n).toArray)
set_option maxRecDepth 100000 in
theorem start_met (os:Os):laidMetH prog Rows.fieldsPlayRow.laid ((start os).forCall (fun _ _=>0) ⟨#[],#[.slice none 0 0,.int .i64 0],[]⟩).memory:=
 laidMetH_of_parts3 (fuel:=8) (laidMet_of_run' 8 (by kernel_rfl) (by kernel_rfl)) (by kernel_rfl) (by kernel_rfl)
set_option maxRecDepth 100000 in
theorem lifted (os:Os) (started:os.Started) (H:Type) (enc:TypeId × Value->H) :
    ReturnsInHanded {} Tryz.checked os 3 .any (fun w args=>(Rows.fieldsPlaySpec.pre enc prog Tryz.f3 [] false w args/\laidMetH prog Rows.fieldsPlayRow.laid w)/\sizedMet enc prog Tryz.f3 (OpenSpec.ofChange Rows.fieldsPlaySpec) false w args) (Rows.fieldsPlaySpec.post enc prog Tryz.f3 false true false false):=by
 refine handed_door (C:=Tryz.checked) (X:=fun w=>laidMetH prog Rows.fieldsPlayRow.laid w) (fun _ _ hh h=>h.of_heap hh) own started (by kernel_rfl) func3
  (ChangeSpec.witness_shaped (enc:=enc) (C:=Tryz.checked) (os:=os) (X:=fun w _=>laidMetH prog Rows.fieldsPlayRow.laid w) false (start os) #[.slice none 0 0,.int .i64 0] 8 rfl (World.shaped_of_RefB (by kernel_rfl) (by kernel_rfl)) (by kernel_rfl) (by kernel_rfl) (by kernel_rfl) (start_met os)) ?_
 intro W base args ds gs before hval0 hW hsh hlaid;have hval:∀ (j:Nat) t v,Tryz.f3.params[j]?=some t->args[j]?=some v->Value.okWide prog W .any base t v:=hval0;have hW':=hW;obtain ⟨p,q,hA0,hV,rfl,hfz,hnd⟩:=hW;have hA:DataW.TrodAll enc prog W 0 (fun _=>true) true Tryz.f3.params.toList args.toList ds p:=hA0;rw [params3] at hA hval;obtain ⟨v0,vs0,d0,ds0,p0,q0,hargs,rfl,rfl,h0,r0⟩:=trodAll_cons hA;obtain ⟨v1,vs1,d1,ds1,p1,q1,rfl,rfl,rfl,h1,r1⟩:=trodAll_cons r0;obtain ⟨rfl,rfl,rfl⟩:=trodAll_nil r1;obtain rfl:args=#[v0,v1]:=by cases args;simp_all
 obtain ⟨rfl,rfl⟩:=trodVars_none hV;have lt0:∀ x ∈ p0,x.block < W.heap.size:=by obtain ⟨m,hm⟩:=h0;exact DataW.trod_lt m _ _ _ hm
 have lt1:∀ x ∈ p1,x.block < W.heap.size:=by obtain ⟨m,hm⟩:=h1;exact DataW.trod_lt m _ _ _ hm
 refine (fieldsPlay_open W base v0 d0 p0 v1 d1 p1 (hval 0 22 v0 rfl rfl) (hval 1 3 v1 rfl rfl) h0 h1 (Tryz.laysM185.s1_3 W hsh) hlaid).mono fun e W' ⟨he,bel⟩=>?_;subst he;exact ⟨_,rfl,_,_,_,[],_,[],hW',trodAll_mk1 (shut_bool underlying4 _),(trodAll_cons_mk (Below.trod laidOut (by kernel_rfl) (of_decide_eq_true (by kernel_rfl)) h0 bel lt0) (trodAll_cons_mk (Below.trod laidOut (by kernel_rfl) (of_decide_eq_true (by kernel_rfl)) h1 bel lt1) trodAll_mk0)),rfl,bel.frame _,fun h=>by cases h⟩
theorem over:Rows.FieldsPlaySaid:=
 OpenClaim.holds_of_wide 3 Tryz.f3 rfl rfl rfl rfl rfl rfl rfl ⟨rfl,rfl,rfl,rfl,rfl⟩ rfl rfl rfl rfl rfl (by kernel_rfl) func3 (by kernel_rfl)
  (of_decide_eq_true (by kernel_rfl)) (by unfold Func.isWrapper;first | (rw [if_pos (by decide +kernel)];kernel_rfl) | (rw [if_neg (by decide +kernel)];exact ⟨rfl,rfl⟩))
  (fun os started H enc _=>lifted os started H enc)
end FFieldsPlay
theorem fieldsPlay_proved:Rows.FieldsPlayCardSaid:=
 Claim7.holds_tied_plain_at .later [] [.data, .handle, .pinned] true (true, "e318c975067bd6ad241be286955421c6e77a17f1caabc5258847d8e72ee69155") true
  FFieldsPlay.over (fun _ h=>by cases h) (by kernel_rfl) (fun _ h=>by cases h) fieldsPlay_row_tie rfl ⟨rfl,rfl⟩ (by kernel_rfl) rfl
  (fun f fn hf hfn=>by
   obtain rfl : f = 3 := Option.some.inj ((show prog.funcNamed "fieldfare/fieldfarelaw11.FieldsPlay" = some 3 by kernel_rfl).symm.trans hf) |>.symm
   obtain rfl:fn=Tryz.f3:=(Option.some.inj (func3.symm.trans hfn)).symm
   exact ⟨by kernel_rfl,fun j t ht=>by
    rw [params3] at ht;have hm:t ∈ [22,3]:=by simpa using Array.mem_of_getElem? ht
    have hall:([22,3].all fun u => !prog.wantsStandIn u)=true:=by kernel_rfl
    exact (show prog.wantsStandIn t=false by simpa using List.all_eq_true.1 hall t hm)⟩)
  (by kernel_rfl)
end Go.Proofs.YtfofechcccodeaaGreatDoor
