/-
  Small texts in one (Esc, Index, Hf2, StV, Mb1). No conditions.
-/
import Derived.Test.YtfofechcccodeaaGreatDoorQab
import Derived.Test.YtfofechcccodeaaGreatDoorShelf
import Derived.Lib.IndexLaws
import Derived.Test.YtfofechcccodeaaGreatDoorQaa
namespace Go.Proofs.YtfofechcccodeaaGreatDoor
open Go.RowKit Go.Proofs.Tryz
set_option linter.unusedVariables false
set_option linter.unusedSimpArgs false
def escN (c:Nat):Nat:=if c=110 then 10 else if c=116 then 9 else if c=114 then 13 else if c=102 then 12 else if c=118 then 11 else if c=97 then 7 else if c=98 then 8 else c
theorem escN_lt {c:Nat} (h:c < 256):escN c < 256:=by unfold escN; (repeat' split) <;> omega
theorem esc_110 (w:World):Calls prog 118 #[.int .u8 110] w fun e w'=>e = .returned (.int .u8 10)/\w=w':=by
 go_enter func118,ntmps118
 go_wp2_with fail
 refine wp_loop_rounds 1 ?_;rw [rounds_succ];go_wp2_with fail
 go_ret
 exact ⟨rfl,rfl⟩
theorem esc_116 (w:World):Calls prog 118 #[.int .u8 116] w fun e w'=>e = .returned (.int .u8 9)/\w=w':=by
 go_enter func118,ntmps118
 go_wp2_with fail
 refine wp_loop_rounds 2 ?_;rw [rounds_succ];go_wp2_with fail
 rw [rounds_succ];go_wp2_with fail
 go_ret
 exact ⟨rfl,rfl⟩
theorem esc_114 (w:World):Calls prog 118 #[.int .u8 114] w fun e w'=>e = .returned (.int .u8 13)/\w=w':=by
 go_enter func118,ntmps118
 go_wp2_with fail
 refine wp_loop_rounds 3 ?_;rw [rounds_succ];go_wp2_with fail
 rw [rounds_succ];go_wp2_with fail
 rw [rounds_succ];go_wp2_with fail
 go_ret
 exact ⟨rfl,rfl⟩
theorem esc_102 (w:World):Calls prog 118 #[.int .u8 102] w fun e w'=>e = .returned (.int .u8 12)/\w=w':=by
 go_enter func118,ntmps118
 go_wp2_with fail
 refine wp_loop_rounds 4 ?_;rw [rounds_succ];go_wp2_with fail
 rw [rounds_succ];go_wp2_with fail
 rw [rounds_succ];go_wp2_with fail
 rw [rounds_succ];go_wp2_with fail
 go_ret
 exact ⟨rfl,rfl⟩
theorem esc_118 (w:World):Calls prog 118 #[.int .u8 118] w fun e w'=>e = .returned (.int .u8 11)/\w=w':=by
 go_enter func118,ntmps118
 go_wp2_with fail
 refine wp_loop_rounds 5 ?_;rw [rounds_succ];go_wp2_with fail
 rw [rounds_succ];go_wp2_with fail
 rw [rounds_succ];go_wp2_with fail
 rw [rounds_succ];go_wp2_with fail
 rw [rounds_succ];go_wp2_with fail
 go_ret
 exact ⟨rfl,rfl⟩
theorem esc_97 (w:World):Calls prog 118 #[.int .u8 97] w fun e w'=>e = .returned (.int .u8 7)/\w=w':=by
 go_enter func118,ntmps118
 go_wp2_with fail
 refine wp_loop_rounds 6 ?_;rw [rounds_succ];go_wp2_with fail
 rw [rounds_succ];go_wp2_with fail
 rw [rounds_succ];go_wp2_with fail
 rw [rounds_succ];go_wp2_with fail
 rw [rounds_succ];go_wp2_with fail
 rw [rounds_succ];go_wp2_with fail
 go_ret
 exact ⟨rfl,rfl⟩
theorem esc_98 (w:World):Calls prog 118 #[.int .u8 98] w fun e w'=>e = .returned (.int .u8 8)/\w=w':=by
 go_enter func118,ntmps118
 go_wp2_with fail
 refine wp_loop_rounds 7 ?_;rw [rounds_succ];go_wp2_with fail
 rw [rounds_succ];go_wp2_with fail
 rw [rounds_succ];go_wp2_with fail
 rw [rounds_succ];go_wp2_with fail
 rw [rounds_succ];go_wp2_with fail
 rw [rounds_succ];go_wp2_with fail
 rw [rounds_succ];go_wp2_with fail
 go_ret
 exact ⟨rfl,rfl⟩
theorem esc_any (c:Nat) (hc:c < 256) (w:World):Calls prog 118 #[.int .u8 (c:Int)] w fun e w'=>e = .returned (.int .u8 (escN c:Int))/\w=w':=by
 by_cases h110:c=110
 ·subst h110;exact esc_110 w
 by_cases h116:c=116
 ·subst h116;exact esc_116 w
 by_cases h114:c=114
 ·subst h114;exact esc_114 w
 by_cases h102:c=102
 ·subst h102;exact esc_102 w
 by_cases h118:c=118
 ·subst h118;exact esc_118 w
 by_cases h97:c=97
 ·subst h97;exact esc_97 w
 by_cases h98:c=98
 ·subst h98;exact esc_98 w
 have e110:((110:Int) == (c:Int))=false:=by simp;omega
 have e116:((116:Int) == (c:Int))=false:=by simp;omega
 have e114:((114:Int) == (c:Int))=false:=by simp;omega
 have e102:((102:Int) == (c:Int))=false:=by simp;omega
 have e118:((118:Int) == (c:Int))=false:=by simp;omega
 have e97:((97:Int) == (c:Int))=false:=by simp;omega
 have e98:((98:Int) == (c:Int))=false:=by simp;omega
 have he:escN c=c:=by unfold escN;simp [h110,h116,h114,h102,h118,h97,h98]
 rw [he];clear he h110 h116 h114 h102 h118 h97 h98;have i0:∀ W,(Instr.index 9 (.string ⟨#[110,116,114,102,118,97,98]⟩) (.int .i64 0)).run prog W = .ok (.int .u8 110) W:=fun _=>by kernel_rfl
 have i1:∀ W,(Instr.index 9 (.string ⟨#[110,116,114,102,118,97,98]⟩) (.int .i64 1)).run prog W = .ok (.int .u8 116) W:=fun _=>by kernel_rfl
 have i2:∀ W,(Instr.index 9 (.string ⟨#[110,116,114,102,118,97,98]⟩) (.int .i64 2)).run prog W = .ok (.int .u8 114) W:=fun _=>by kernel_rfl
 have i3:∀ W,(Instr.index 9 (.string ⟨#[110,116,114,102,118,97,98]⟩) (.int .i64 3)).run prog W = .ok (.int .u8 102) W:=fun _=>by kernel_rfl
 have i4:∀ W,(Instr.index 9 (.string ⟨#[110,116,114,102,118,97,98]⟩) (.int .i64 4)).run prog W = .ok (.int .u8 118) W:=fun _=>by kernel_rfl
 have i5:∀ W,(Instr.index 9 (.string ⟨#[110,116,114,102,118,97,98]⟩) (.int .i64 5)).run prog W = .ok (.int .u8 97) W:=fun _=>by kernel_rfl
 have i6:∀ W,(Instr.index 9 (.string ⟨#[110,116,114,102,118,97,98]⟩) (.int .i64 6)).run prog W = .ok (.int .u8 98) W:=fun _=>by kernel_rfl
 go_enter func118,ntmps118
 go_wp2_with fail
 refine wp_loop_rounds 8 ?_;rw [rounds_succ];go_wp2_with fail
 rw [rounds_succ];go_wp2_with fail
 rw [rounds_succ];go_wp2_with fail
 rw [rounds_succ];go_wp2_with fail
 rw [rounds_succ];go_wp2_with fail
 rw [rounds_succ];go_wp2_with fail
 rw [rounds_succ];go_wp2_with fail
 rw [rounds_succ];go_wp2_with fail
 go_ret
 exact ⟨rfl,rfl⟩
def FaultV (w:World) (v:Value) (at_ code:Int):Prop:=
 ∃ g,v = .iface 74 (.pointer (some ⟨g,0,none⟩))/\Bk w g 78 #[.int .i64 at_,.iface 55 (.int .i64 code)]
theorem FaultV.fr {w w':World} {v:Value} {p c:Int} (h:FaultV w v p c) (hf:Fr [] w w'):FaultV w' v p c:=by
 obtain ⟨g,h1,h2⟩:=h;exact ⟨g,h1,h2.fr hf (by simp)⟩
def FaultPost (w:World) (p c:Int) (e:Ending) (w':World):Prop:=∃ v,e = .returned v/\FaultV w' v p c/\Fr [] w w'
theorem fault_any (p c:Int) (w:World):Calls prog 125 #[.int .i64 p,.int .i64 c] w (FaultPost w p c):=by
 go_enter func125,ntmps125
 go_wp2_with fail
 go_ret
 exact ⟨_,rfl,⟨_,rfl,Bk.new _ _ _⟩,(Fr.refl _ _).alloc _⟩
def bn (bs:List UInt8) (i:Nat):Nat:=(bs.getD i 0).toNat
theorem bn_lt (bs:List UInt8) (i:Nat):bn bs i < 256:=(bs.getD i 0).toNat_lt
theorem byte_at {w:World} {A:Option Addr} {bs:List UInt8} (h:Bytes w A bs) {i:Nat} (hi:i < bs.length):∃ b off,A=some ⟨b,off,none⟩/\b < w.heap.size/\∀ j,j < bs.length->w.cell? ⟨b,off+j,none⟩=some (.int .u8 (bn bs j:Int)):=by
 have hj:∀ j,j < bs.length->(byteVals bs)[j]?=some (.int .u8 (bn bs j:Int)):=fun j hj=>by simp [byteVals,bn,hj]
 rcases h with h | ⟨a,rfl,hb,hc⟩
 ·exfalso
  have:bs=[]:=by simpa [byteVals] using h
  subst this;simp at hi
 obtain ⟨b,off,spot⟩:=a;have h0:=hc 0 _ (hj 0 (by omega))
 have hsp:spot=none:=by
  cases spot with
  | none=>rfl
  | some s=>
   exfalso
   have e0:(⟨b,off,some s⟩:Addr).add 0=⟨b,off,some s⟩:=by simp [Addr.add]
   rw [e0] at h0;unfold World.cell? at h0;split at h0
   ·simp at h0
   cases h0
 subst hsp;refine ⟨b,off,rfl,hb,fun j hjl=>?_⟩;have:=hc j _ (hj j hjl);have e:(⟨b,off,none⟩:Addr).add j=⟨b,off+j,none⟩:=by unfold Addr.add;split <;> simp_all
 rwa [e] at this
def opensS (bs:List UInt8) (i:Nat):Bool:=decide (i+1 < bs.length) && (((bn bs i:Int) == 91) && ((bn bs (i+1):Int) == 58))
theorem opens_any {w:World} {A:Option Addr} {bs:List UInt8} {c:Nat} (h:Bytes w A bs) (i:Nat) (hl:bs.length <= 1000000000) (hi:i <= 1000000000) :
    Calls prog 130 #[.slice A bs.length c,.int .i64 (i:Int)] w fun e w'=>e = .returned (.bool (opensS bs i))/\w=w':=by
 unfold opensS;by_cases h1:i+1 < bs.length
 ·obtain ⟨b,off,rfl,hb,hc⟩:=byte_at h (i:=i) (by omega);have c0:=hc i (by omega);have c1:=hc (i+1) h1;have b0:=bn_lt bs i;have b1:=bn_lt bs (i+1);clear hc h;have h1b:decide (i+1 < bs.length)=true:=by simpa using h1
  cases g1:((bn bs i:Int) == 91)
  ·go_enter func130,ntmps130
   go_wp2_with fail
   go_ret
   exact ⟨by simp [h1b],rfl⟩
  cases g2:((bn bs (i+1):Int) == 58)
  all_goals
   go_enter func130,ntmps130
   go_wp2_with fail
   go_ret
   exact ⟨by simp [h1b],rfl⟩
 clear h;go_enter func130,ntmps130
 go_wp2_with fail
 go_ret
 exact ⟨by simp [h1],rfl⟩
def singleS (bs:List UInt8) (i:Nat):Option (Nat × Nat):=
 if bs.length <= i then none else if bn bs i ≠ 92 then some (bn bs i,i+1) else if bs.length <= i+1 then none else some (escN (bn bs (i+1)),i+2)
def singleV (r:Option (Nat × Nat)) (i:Nat):Value:=match r with
 | none => .tuple #[.int .u8 0,.int .i64 (i:Int),.bool false]
 | some (c,n) => .tuple #[.int .u8 (c:Int),.int .i64 (n:Int),.bool true]
theorem single_any {w:World} {A:Option Addr} {bs:List UInt8} {c:Nat} (h:Bytes w A bs) (i:Nat) (hl:bs.length <= 1000000000) (hi:i <= 1000000000) :
    Calls prog 133 #[.slice A bs.length c,.int .i64 (i:Int)] w fun e w'=>e = .returned (singleV (singleS bs i) i)/\w=w':=by
 by_cases h1:bs.length <= i
 ·have hs:singleS bs i=none:=by unfold singleS;rw [if_pos h1]
  rw [hs];unfold singleV;clear hs h;go_enter func133,ntmps133
  go_wp2_with fail
  go_ret3
  exact ⟨rfl,rfl⟩
 obtain ⟨b,off,rfl,hb,hc⟩:=byte_at h (i:=i) (by omega);have c0:=hc i (by omega);have b0:=bn_lt bs i;clear h;by_cases g:bn bs i=92
 ·have g1:(!((bn bs i:Int) == 92))=false:=by simp [g]
  have g2:((bn bs i:Int) != 92)=false:=by simp [g]
  by_cases h2:bs.length <= i+1
  ·have hs:singleS bs i=none:=by unfold singleS;rw [if_neg h1,if_neg (by simpa using g),if_pos h2]
   rw [hs];unfold singleV;clear hs hc g;go_enter func133,ntmps133
   go_wp2_with fail
   go_ret3
   exact ⟨rfl,rfl⟩
  have hs:singleS bs i=some (escN (bn bs (i+1)),i+2):=by unfold singleS;rw [if_neg h1,if_neg (by simpa using g),if_neg h2]
  have c1:=hc (i+1) (by omega);have b1:=bn_lt bs (i+1);rw [hs];unfold singleV;clear hs hc g;go_enter func133,ntmps133
  go_wp2_with (go_at_call 118;refine (esc_any _ b1 _).mono ?_;rintro e w1 ⟨rfl,rfl⟩)
  go_ret3
  exact ⟨rfl,rfl⟩
 have g1:(!((bn bs i:Int) == 92))=true:=by simp;omega
 have g2:((bn bs i:Int) != 92)=true:=by simp;omega
 have hs:singleS bs i=some (bn bs i,i+1):=by unfold singleS;rw [if_neg h1,if_pos g]
 rw [hs];unfold singleV;clear hs hc g;go_enter func133,ntmps133
 go_wp2_with fail
 go_ret3
 exact ⟨rfl,rfl⟩
end Go.Proofs.YtfofechcccodeaaGreatDoor
namespace Go.Proofs.YtfofechcccodeaaGreatDoor
open Go.RowKit Go.Proofs.Tryz
set_option linter.unusedVariables false
set_option linter.unusedSimpArgs false
def GlobOk (w:World):Prop:=∃ m,w.cell? ⟨1,0,none⟩=some (.int .i64 m)
theorem GlobOk.fr {w w':World} (h:GlobOk w) (hf:Fr [] w w'):GlobOk w':=by
 obtain ⟨m,hm⟩:=h;exact ⟨m,(hf.cell (World.block_lt_of_cell? w _ hm) (by simp)).trans hm⟩
theorem nums_of (l:List UInt8):Lib.bytesOf (l.map fun b:UInt8=>(b.toNat:Int))=l:=by
 unfold Lib.bytesOf;rw [List.map_map]
 conv=>rhs;rw [<-List.map_id l]
 apply List.map_congr_left
 intro b _;simp
theorem nums_range (l:List UInt8):∀ x ∈ l.map (fun b:UInt8=>(b.toNat:Int)),0 <= x/\x < 256:=by
 intro x hx;obtain ⟨b,_,rfl⟩:=List.mem_map.1 hx;have:=b.toNat_lt;omega
theorem nums_cells {w:World} {a:Addr} {l:List UInt8} (h:Bytes w (some a) l):∀ i,i < l.length->w.cell? (a.add i)=some (.int .u8 ((l.map fun b:UInt8=>(b.toNat:Int)).getD i 0)):=by
 intro i hi;have e:(byteVals l)[i]?=some (.int .u8 ((l.map fun b:UInt8=>(b.toNat:Int)).getD i 0)):=by simp [byteVals,hi]
 exact At.cells h i _ e
theorem index_any {w:World} {A B:Option Addr} {bs sub:List UInt8} {c d:Nat} (h1:Bytes w A bs) (h2:Bytes w B sub) (hs:2 <= sub.length) (hs2:sub.length <= 1000) (hl:bs.length < 4294967281) (hc:bs.length <= c) (hg:GlobOk w) (n m:Nat) (hn:bs.length=n) (hm:sub.length=m) :
    Calls prog 131 #[.slice A n c,.slice B m d] w fun e w'=>e = .returned (.int .i64 (Lib.index bs sub))/\Fr [] w w':=by
 subst hn hm;by_cases hlt:bs.length < sub.length
 ·have e:Lib.index bs sub = -1:=Lib.index_long (by omega) (by rintro rfl;omega);rw [e];exact (Tryz.bytes_Index_longer A B bs.length c sub.length d w hs hlt (by omega)).mono fun e w' ⟨he,hw⟩=>⟨he,by rw [hw];exact Fr.refl _ _⟩
 obtain ⟨g,hg⟩:=hg
 obtain ⟨a,rfl⟩:∃ a,A=some a:=by
  rcases h1 with h | ⟨a,h,_⟩
  ·exfalso
   have:bs=[]:=by simpa [byteVals] using h
   subst this;apply hlt;simp;omega
  exact ⟨a,h⟩
 obtain ⟨b,rfl⟩:∃ b,B=some b:=by
  rcases h2 with h | ⟨b,h,_⟩
  ·exfalso
   have:sub=[]:=by simpa [byteVals] using h
   subst this;simp at hs
  exact ⟨b,h⟩
 have hx:=Tryz.bytes_Index_at a b bs.length c sub.length d (bs.map fun b:UInt8=>(b.toNat:Int)) (sub.map fun b:UInt8=>(b.toNat:Int)) g w (by simp) (by simp) (nums_range _) (nums_range _) (nums_cells h1) (nums_cells h2) hc hl (by omega) hg;rw [nums_of,nums_of] at hx;exact hx.mono fun e w' ⟨he,q,hw⟩=>⟨he,by rw [hw];exact (Fr.refl _ _).drewN q⟩
end Go.Proofs.YtfofechcccodeaaGreatDoor
namespace Go.Proofs.YtfofechcccodeaaGreatDoor.F
open Go.RowKit Go.Proofs.Tryz
set_option linter.unusedVariables false
set_option linter.unusedSimpArgs false
set_option maxRecDepth 100000
set_option maxHeartbeats 2000000
theorem GlobOk.far {w w':World} (h:GlobOk w) {l:List Nat} (hf:Fr l w w') (hl:1 ∉ l):GlobOk w':=by
 obtain ⟨m,hm⟩:=h;exact ⟨m,(hf.cell (World.block_lt_of_cell? w _ hm) hl).trans hm⟩
theorem strParts:∃ i,prog.info? 9=some i/\i.zero=some (.string ByteArray.empty)/\i.size=1/\i.bytes=16:=info_parts (by kernel_rfl)
theorem one_str (w:World) (x:Value):At (w.alloc (.cells #[x] 9)) (some ⟨w.heap.size,0,none⟩) [x]:=
 At.of_bk (n:=1) (xs:=[x]) (Bk.new w 9 #[x]) (by simp)
theorem joins_any {w:World} {A:Option Addr} {n c:Nat} {l:List (List UInt8)} (h:OwnL w (.slice A n c) l) (sep:List UInt8) (hn:l.length <= 140737488355328) (hl:(Lib.join l sep).length <= 140737488355328) :
    Calls prog 37 #[.slice A n c,.string ⟨sep.toArray⟩] w fun e w'=>e = .returned (.string ⟨(Lib.join l sep).toArray⟩)/\Fr [] w w':=by
 obtain ⟨A',cap,hv,h1,h2,h3⟩:=h
 injection hv with e1 e2 e3
 subst e1 e2 e3;rcases h3 with ⟨rfl,h3⟩ | ⟨g,off,cur,rfl,hg,h4,h5⟩
 ·rw [strVals_length] at h1;obtain rfl:l=[]:=List.eq_nil_of_length_eq_zero (by omega);subst h3;rw [Lib.join_nil];exact (Tryz.strings_Join_none none 0 ⟨sep.toArray⟩ w).mono fun e w' h=>⟨h.1,by rw [h.2];exact Fr.refl _ _⟩
 have hb:Bk w g 9 cur:=hg
 have e1:(l.map fun b:List UInt8=>(⟨b.toArray⟩:ByteArray)).map (·.data.toList)=l:=by
  rw [List.map_map]
  conv=>rhs;rw [<-List.map_id l]
  apply List.map_congr_left
  intro b _;simp
 have e2:(l.map fun b:List UInt8=>(⟨b.toArray⟩:ByteArray)).length=(strVals l).length:=by rw [List.length_map,strVals_length]
 have e3:(⟨sep.toArray⟩:ByteArray).data.toList=sep:=by simp
 have hc:∀ (j:Nat) x,(l.map fun b:List UInt8=>(⟨b.toArray⟩:ByteArray))[j]?=some x->w.cell? ⟨g,off+j,none⟩=some (.string x):=by
  intro j x hx;rw [hb.cell]
  have hj:j < l.length:=by
   rcases Nat.lt_or_ge j l.length with h | h
   ·exact h
   rw [List.getElem?_eq_none (by simpa using h)] at hx;cases hx
  have:=strVals_get l hj;rw [<-h5,strVals_length,List.getElem?_take,if_pos hj,List.getElem?_drop] at this;have hx2:x=⟨(l.getD j []).toArray⟩:=by simp [hj] at hx;simp [hj,hx]
  rw [hx2]
  simpa using this
 have:=Tryz.strings_Join g off c (l.map fun b:List UInt8=>(⟨b.toArray⟩:ByteArray)) ⟨sep.toArray⟩ w hc hb.lt (by simpa using hn) (by rw [e2];exact h1) (by rw [e1,e3];exact hl);rw [e1,e2,e3] at this;exact this.mono fun e w' h=>⟨h.1,Fr.of_below h.2⟩
theorem splitB_list (s sep:List UInt8) (k:Nat):((Lib.splitB ⟨sep.toArray⟩ 0 k ⟨s.toArray⟩).map Value.string)=strVals (Lib.splitK sep 0 k s):=by
 have h:=Lib.splitB_data ⟨sep.toArray⟩ 0 k ⟨s.toArray⟩;simp only at h
 have e:∀ l:List ByteArray,l.map Value.string=strVals (l.map (·.data.toList)):=by
  intro l
  induction l with
  | nil=>rfl
  | cons a r ih=>
   simp only [List.map_cons,strVals] at ih ⊢; rw [ih,<-ba_of]
 rw [e,h]
theorem countB_list (s sep:List UInt8):Lib.countB ⟨s.toArray⟩ ⟨sep.toArray⟩=Lib.count s sep:=by
 unfold Lib.countB;simp
theorem split_any {w:World} (hg:GlobOk w) (s:List UInt8) (c:UInt8) (hs:s.length < 4294967281) :
    Calls prog 48 #[.string ⟨s.toArray⟩,.string ⟨#[c]⟩] w fun e w'=>∃ v,e = .returned v/\OwnL w' v (cutG c s [])/\Fr [] w w':=by
 obtain ⟨m,hm⟩:=hg;have h:=Tryz.strings_Split ⟨s.toArray⟩ ⟨[c].toArray⟩ m w (by rw [ba_size];exact hs) hm (by rw [ba_size];simp);rw [countB_list,splitB_list,cutG_split c s.length s (Nat.le_refl _)] at h;refine h.mono fun e w' ⟨he,hw⟩=>⟨_,he,?_,by rw [hw];exact (Fr.refl _ _).alloc _⟩
 have hlen:(cutG c s []).length=Lib.count s [c]+1:=by
  have h1:=Lib.splitB_all ⟨[c].toArray⟩ (by rw [ba_size];simp) 0 (Lib.count s [c]) ⟨s.toArray⟩ (by rw [countB_list]);have h2:=congrArg List.length (splitB_list s [c] (Lib.count s [c]));rw [List.length_map,h1,strVals_length,cutG_split c s.length s (Nat.le_refl _)] at h2;exact h2.symm
 have hle:=cutG_len c s [];rw [hw];unfold OwnL;have hsz:(strVals (cutG c s [])).length=Lib.count s [c]+1:=by rw [strVals_length,hlen]
 exact ⟨_,_,by rw [hsz],by rw [hsz];exact Nat.le_refl _,by unfold maxLen;omega,.inr ⟨w.heap.size,0,_,rfl,Bk.new w _ _,by simp [hsz],by simp⟩⟩
theorem cut_any {w:World} (hg:GlobOk w) (s:List UInt8) (c:UInt8) (hs:s.length < 4294967281) :
    Calls prog 32 #[.string ⟨s.toArray⟩,.int .u8 (c.toNat:Int)] w fun e w'=>∃ v,e = .returned v/\OwnL w' v (cutM s c)/\Fr [] w w':=by
 unfold cutM;by_cases h0:s=[]
 ·subst h0;rw [if_pos rfl];go_enter func32,ntmps32
  go_wp2_with fail
  go_ret
  exact ⟨_,rfl,Own.nil_ _ _,Fr.refl _ _⟩
 rw [if_neg h0];have t0:(s == ([]:List UInt8))=false:=beq_eq_false_iff_ne.2 h0;have HG:=zh hg;clear hg;go_enter func32,ntmps32
 go_wp2_with (refine wpList_str rfl 64 9 (.tmp 9) rfl 5 underlying64 underlying5 underlying9 (some ⟨w.heap.size,0,none⟩) 1 1 (by rfl) [c] (At.of_bk (n:=1) (xs:=byteVals [c]) (Bk.new w 5 #[.int .u8 (c.toNat:Int)]) (by simp [byteVals])) rfl ?_)
 go_at_call 48
 have hf0:Fr [] w (w.alloc (.cells #[.int .u8 (c.toNat:Int)] 5)):=(Fr.refl _ _).alloc _;refine (split_any (HG.out.fr hf0) s c hs).mono ?_;rintro e w2 ⟨v,rfl,ho,hf⟩;have HO:=zh ho;have HF:=zh (hf0.trans hf);clear ho hf hf0;go_wp2_with fail
 go_ret
 exact ⟨v,rfl,HO.out,HF.out⟩
def SplRel (w0:World) (s:List UInt8) (v3 v4 v5:Value) (wr:World):Prop:=
 ∃ (i b:Nat) (l:List (List UInt8)),v4 = .int .i64 (b:Int)/\v5 = .int .i64 (i:Int)/\OwnL wr v3 l/\(∀ g,v3.ownBlock=some g->w0.heap.size <= g)/\Fr [] w0 wr/\i <= s.length+1/\b <= i/\l.length <= i /\
  (i <= s.length->l ++ splG (s.drop i) ((s.drop b).take (i - b))=splM s)/\(i=s.length+1->l=splM s)
theorem splG_next (s:List UInt8) (i b:Nat) (hi:i < s.length) (hb:b <= i) (hc:isBl (s.getD i 0)=false) (l:List (List UInt8)):l ++ splG (s.drop i) ((s.drop b).take (i - b))=l ++ splG (s.drop (i+1)) ((s.drop b).take (i+1 - b)):=by
 have e:s.drop i=s.getD i 0 :: s.drop (i+1):=by rw [List.getD_eq_getElem?_getD,List.getElem?_eq_getElem hi];simp
 have e2:(s.drop b).take (i+1 - b)=(s.drop b).take (i - b) ++ [s.getD i 0]:=by
  rw [show i+1 - b=i - b+1 by omega,List.take_add_one]
  congr 1
  rw [List.getElem?_drop,show b+(i - b)=i by omega,List.getElem?_eq_getElem hi,List.getD_eq_getElem?_getD,List.getElem?_eq_getElem hi];rfl
 rw [e2]
 conv=>lhs;rw [e,splG,if_neg (by rw [hc];simp)]
theorem splG_stop (s:List UInt8) (i b:Nat) (hi:i < s.length) (hc:isBl (s.getD i 0)=true):splG (s.drop i) ((s.drop b).take (i - b))=(if (s.drop b).take (i - b)=[] then [] else [(s.drop b).take (i - b)]) ++ splG (s.drop (i+1)) []:=by
 have e:s.drop i=s.getD i 0 :: s.drop (i+1):=by rw [List.getD_eq_getElem?_getD,List.getElem?_eq_getElem hi];simp
 conv=>lhs;rw [e]
 rw [splG,if_pos hc]
theorem idx_str (s:List UInt8) (i:Nat) (hi:i < s.length):∀ W,(Instr.index 9 (.string ⟨s.toArray⟩) (.int .i64 (i:Int))).run prog W = .ok (.int .u8 (((s.getD i 0).toNat:Nat):Int)) W:=by
 intro W;rw [run_index_string W 9 ⟨s.toArray⟩ .i64 (i:Int) underlying9,dif_pos ⟨by omega,by rw [ba_size];omega⟩]
 have e:((⟨s.toArray⟩:ByteArray)[(i:Int).toNat]'(by rw [ba_size];omega))=s.getD i 0:=by
  have e1:(i:Int).toNat=i:=by omega
  simp only [e1];rw [List.getD_eq_getElem?_getD,List.getElem?_eq_getElem hi];rfl
 rw [e]
theorem wsplit_any (w:World) (s:List UInt8) (hs:s.length <= 1000000000):Calls prog 31 #[.string ⟨s.toArray⟩] w fun e w'=>∃ v,e = .returned v/\OwnL w' v (splM s)/\Fr [] w w':=by
 obtain ⟨i0,hi0,hz0,hz1,hz2⟩:=strParts;go_enter func31,ntmps31
 go_wp2_with fail
 go_loopw [3,4,5] (SplRel w s) (fun _ _ v5 _=>s.length+1 - (intOf v5).toNat)
 case atStart=>exact ⟨0,0,[],rfl,rfl,Own.nil_ _ _,by simp [Value.ownBlock],Fr.refl _ _,by omega,by omega,by simp,fun _=>by simp [splM],fun h=>by omega⟩
 case round=>
  obtain ⟨i,b,l,rfl,rfl,ho,hfr,hf,hi,hb,hll,hq1,hq2⟩:=hrel;obtain ⟨A,cap,hv,hl1,hl2,-, -⟩:=OwnL.val ho;subst hv;have HFR:=zh hfr;clear hfr;have HO:=zh ho;have HF:=zh hf;have HQ1:=zh hq1;have HQ2:=zh hq2;clear ho hf hq1 hq2;unfold maxLen at hl2;by_cases hlt:i < s.length
  ·obtain ⟨m,hm⟩:∃ m,(s.getD i 0).toNat=m:=⟨_,rfl⟩;have hidx:=idx_str s i hlt;rw [hm] at hidx;by_cases hbl:isBl (s.getD i 0)=false
   ·have hne:m ≠ 9/\m ≠ 10/\m ≠ 32:=by
     subst hm;unfold isBl at hbl;simp only [Bool.or_eq_false_iff,beq_eq_false_iff_ne] at hbl;obtain ⟨⟨q1,q2⟩,q3⟩:=hbl;exact ⟨fun e=>q1 (UInt8.toNat_inj.1 e),fun e=>q2 (UInt8.toNat_inj.1 e),fun e=>q3 (UInt8.toNat_inj.1 e)⟩
    have t1:((m:Int) != 9)=true:=by simp;omega
    have t2:((m:Int) != 10)=true:=by simp;omega
    have t3:((m:Int) != 32)=true:=by simp;omega
    have HBL:=zh hbl;clear hbl hne hm;go_wp2_with fail
    go_roundw
    case rel=>exact ⟨i+1,b,l,rfl,by go_num,HO.out,HFR.out,HF.out,by omega,by omega,by omega,fun _=>by rw [<-splG_next s i b hlt hb HBL.out];exact HQ1.out (by omega),fun h=>by omega⟩
    case measure=>simp [intOf] <;> omega
   have hbl':isBl (s.getD i 0)=true:=by simpa using hbl
   have hne:m=9 ∨ m=10 ∨ m=32:=by
    subst hm;unfold isBl at hbl';simp only [Bool.or_eq_true,beq_iff_eq] at hbl';rcases hbl' with (q | q) | q <;> rw [q] <;> simp
   have HBL:=zh hbl';clear hbl hbl' hm;by_cases hib:b < i
   ·have hne2:(s.drop b).take (i - b) ≠ []:=by intro e;have:=congrArg List.length e;rw [List.length_take,List.length_drop] at this;simp at this;omega
    have HN2:=zh hne2;clear hne2;rcases hne with rfl | rfl | rfl
    all_goals
     go_wp2_with (at_builtin;refine wpList_append_OwnS rfl (.tmp 37) (.tmp 42) 27 rfl 9 i0 _ underlying27 hi0 hz0 hz1 rfl (.slice A l.length cap) (strVals l) l.length (strVals_length l) (by rfl) (Own.fr HO.out ((Fr.refl [] wr).alloc _) (by simp)) (some ⟨wr.heap.size,0,none⟩) 1 1 (by rfl) [.string ((⟨s.toArray⟩:ByteArray).extract b i)] (one_str wr _) rfl (by simp [Value.oneCell']) (by unfold maxLen;omega) (by rw [hz2];omega) ?_;intro A5 c5 w5 ho5 hg5 hl5;have HO5:=zh ho5;have HG5:=zh hg5;have HL5:=zh hl5;clear ho5 hg5 hl5)
     have hoL:OwnL w5 (.slice A5 (l.length+1) c5) (l ++ [(s.drop b).take (i - b)]):=by have:=HO5.out;rw [ba_extract] at this;unfold OwnL;rw [strVals_append];exact this
     have hfr5:Fr [] w w5:=(HF.out.trans ((Fr.refl [] wr).alloc _)).grown HG5.out (fun g hg => .inr (HFR.out g hg))
     have hnew:∀ g,(Value.slice A5 (l.length+1) c5).ownBlock=some g->w.heap.size <= g:=fun g hg=>by
      rcases HL5.out with e | e
      ·exact HFR.out g (by rw [<-e];exact hg)
      rw [hg] at e;injection e with e;have:=HF.out.size;simp at e;omega
     have HOL:=zh hoL;have HFR5:=zh hfr5;have HNEW:=zh hnew;clear hoL hfr5 hnew;go_wp2_with fail
     go_roundw
     case rel=>exact ⟨i+1,i+1,_,by go_num,by go_num,HOL.out,HNEW.out,HFR5.out,by omega,by omega,by simp;omega,fun h=>by
      have:=HQ1.out (by omega);rw [splG_stop s i b hlt HBL.out,if_neg HN2.out,<-List.append_assoc] at this
      simpa using this,fun h=>by omega⟩
     case measure=>simp [intOf] <;> omega
   obtain rfl:b=i:=by omega
   rcases hne with rfl | rfl | rfl
   all_goals
    go_wp2_with fail
    go_roundw
    case rel=>exact ⟨b+1,b+1,l,by go_num,by go_num,HO.out,HFR.out,HF.out,by omega,by omega,by omega,fun h=>by
     have:=HQ1.out (by omega);rw [splG_stop s b b hlt HBL.out] at this
     simpa using this,fun h=>by omega⟩
    case measure=>simp [intOf] <;> omega
  by_cases hend:i=s.length
  ·have hdr:s.drop i=[]:=List.drop_eq_nil_of_le (by omega);have hq:=HQ1.out (by omega);rw [hdr] at hq;by_cases hib:b < i
   ·have hne2:(s.drop b).take (i - b) ≠ []:=by intro e;have:=congrArg List.length e;rw [List.length_take,List.length_drop] at this;simp at this;omega
    rw [splG,if_neg hne2] at hq;have HQ:=zh hq;clear hq hne2 hdr;subst hend;go_wp2_with (at_builtin;refine wpList_append_OwnS rfl (.tmp 37) (.tmp 42) 27 rfl 9 i0 _ underlying27 hi0 hz0 hz1 rfl (.slice A l.length cap) (strVals l) l.length (strVals_length l) (by rfl) (Own.fr HO.out ((Fr.refl [] wr).alloc _) (by simp)) (some ⟨wr.heap.size,0,none⟩) 1 1 (by rfl) [.string ((⟨s.toArray⟩:ByteArray).extract b s.length)] (one_str wr _) rfl (by simp [Value.oneCell']) (by unfold maxLen;omega) (by rw [hz2];omega) ?_;intro A5 c5 w5 ho5 hg5 hl5;have HO5:=zh ho5;have HG5:=zh hg5;have HL5:=zh hl5;clear ho5 hg5 hl5)
    have hoL:OwnL w5 (.slice A5 (l.length+1) c5) (l ++ [(s.drop b).take (s.length - b)]):=by have:=HO5.out;rw [ba_extract] at this;unfold OwnL;rw [strVals_append];exact this
    have hfr5:Fr [] w w5:=(HF.out.trans ((Fr.refl [] wr).alloc _)).grown HG5.out (fun g hg => .inr (HFR.out g hg))
    have hnew:∀ g,(Value.slice A5 (l.length+1) c5).ownBlock=some g->w.heap.size <= g:=fun g hg=>by
     rcases HL5.out with e | e
     ·exact HFR.out g (by rw [<-e];exact hg)
     rw [hg] at e;injection e with e;have:=HF.out.size;simp at e;omega
    have HOL:=zh hoL;have HFR5:=zh hfr5;have HNEW:=zh hnew;clear hoL hfr5 hnew;go_wp2_with fail
    go_roundw
    case rel=>exact ⟨s.length+1,s.length+1,_,by go_num,by go_num,HOL.out,HNEW.out,HFR5.out,by omega,by omega,by simp;omega,fun h=>by omega,fun _=>HQ.out⟩
    case measure=>simp [intOf] <;> omega
   obtain rfl:b=i:=by omega
   have e0:(s.drop b).take (b - b)=[]:=by simp
   rw [e0,splG,if_pos rfl,List.append_nil] at hq;have HQ:=zh hq;clear hq hdr e0;subst hend;go_wp2_with fail
   go_roundw
   case rel=>exact ⟨s.length+1,s.length+1,l,by go_num,by go_num,HO.out,HFR.out,HF.out,by omega,by omega,by omega,fun h=>by omega,fun _=>HQ.out⟩
   case measure=>simp [intOf] <;> omega
  have hq:=HQ2.out (by omega);have hfin:OwnL wr (.slice A l.length cap) (splM s):=by rw [<-hq];exact HO.out
  have HFIN:=zh hfin;clear hq hfin;go_wp2_with fail
  go_ret
  exact ⟨_,rfl,HFIN.out,HF.out⟩
end Go.Proofs.YtfofechcccodeaaGreatDoor.F
namespace Go.Proofs.YtfofechcccodeaaGreatDoor
set_option linter.unusedVariables false
set_option linter.unusedSimpArgs false
structure Sp where
 k:Int
 s0:Int
 s1:Int
 s2:Int
 s3:Int
 x:Int
 y:Int
deriving DecidableEq,Inhabited
def Sp.none_ (s:Sp):Bool:=s.s0 == 0 && s.s1 == 0 && s.s2 == 0 && s.s3 == 0
def Sp.cells (s:Sp):List Value:=[.int .i64 s.k,.int .u64 s.s0,.int .u64 s.s1,.int .u64 s.s2,.int .u64 s.s3,.int .i64 s.x,.int .i64 s.y]
def okP (n:Int) (s:Sp):Bool:=
 if s.k ≠ 0/\s.none_=false then false
 else if s.k=4 then (s.x == 0 && s.y == 0)
 else if s.k=1 then (decide (0 <= s.x) && decide (s.x < n) && decide (0 <= s.y) && decide (s.y < n))
 else if s.k=0 ∨ s.k=2 ∨ s.k=3 then (decide (0 <= s.x) && decide (s.x < n) && s.y == 0)
 else false
def okR (n:Int) (s:Sp):Bool:=
 if s.k < 0 ∨ s.k > 4 ∨ (s.k ≠ 0/\s.none_=false) then false
 else if (if s.k=4 then s.x ≠ 0 else s.x < 0 ∨ s.x ≥ n) then false
 else if (s.k=1/\(s.y < 0 ∨ s.y ≥ n)) ∨ (s.k ≠ 1/\s.y ≠ 0) then false
 else true
def validF (ok:Sp->Bool) (found:Bool):List Sp->Bool
 | []=>found
 | s :: r=>if ok s=true then validF ok (found || s.k == 4) r else false
end Go.Proofs.YtfofechcccodeaaGreatDoor
namespace Go.Proofs.YtfofechcccodeaaGreatDoor
set_option linter.unusedVariables false
set_option linter.unusedSimpArgs false
structure Sr where
 next:List (Nat × Nat)
 vis:List Bool
 fd:Option (Nat × Nat)
def Sr.see (s:Sr) (k:Nat):Sr:={ s with vis:=s.vis.set k true }
def Sr.put (s:Sr) (k st:Nat):Sr:={ s with next:=s.next ++ [(k,st)] }
def Sr.hit (s:Sr) (st a:Nat):Sr:=match s.fd with
 | none=>{ s with fd:=some (st,a) }
 | some q=>if st <= q.1 then { s with fd:=some (st,a) } else s
def Sp.set4 (x:Sp):S4:=⟨x.s0.toNat,x.s1.toNat,x.s2.toNat,x.s3.toNat⟩
def metT (x:Sp) (n:Nat) (opn:Bool) (a:Nat):List Nat:=
 if x.k=1 then [x.x.toNat,x.y.toNat]
 else if x.k=2 then (if a=0 then [x.x.toNat] else [])
 else if x.k=3 then (if a < n then [] else if opn=true then [] else [x.x.toNat])
 else []
def metS (x:Sp) (n:Nat) (opn:Bool) (st a k:Nat) (s:Sr):Sr:=
 if x.k=1 then s
 else if x.k=2 then (if opn=true/\a=n then s.put k st else s)
 else if x.k=3 then (if a < n then s else if opn=true then s.put k st else s)
 else if x.k=0 then s.put k st
 else if x.k=4 then s.hit st a
 else s
def spAt (L:List Sp) (k:Nat):Sp:=L.getD k Sp.found0
where Sp.found0:Sp:=⟨4,0,0,0,0,0,0⟩
def standF (L:List Sp) (n:Nat) (opn:Bool) (st a:Nat):Nat->List Nat->Sr->Sr
 | 0,_,s=>s
 | f+1,[],s=>s
 | f+1,k :: r,s=>if s.vis.getD k false=true then standF L n opn st a f r s
  else standF L n opn st a f (metT (spAt L k) n opn a ++ r) (metS (spAt L k) n opn st a k (s.see k))
def standS (L:List Sp) (n:Nat) (opn:Bool) (k st a:Nat) (s:Sr):Sr:=standF L n opn st a (2 * L.length+2) [k] s
def feedS (L:List Sp) (n:Nat) (opn:Bool) (c a1:Nat):List (Nat × Nat)->Sr->Sr
 | [],s=>s
 | t :: r,s=>if (match s.fd with | some q=>decide (q.1 < t.2) | none=>false)=true then s
  else feedS L n opn c a1 r (if (spAt L t.1).set4.mem c=true then standS L n opn (spAt L t.1).x.toNat t.2 a1 s else s)
def bareS (L:List Sp) (fd:Option (Nat × Nat)):Sr:=⟨[],List.replicate L.length false,fd⟩
def runF (L:List Sp) (tx:List UInt8) (opn there:Bool) (from_:Nat):Nat->Nat->Sr->List (Nat × Nat) × Option (Nat × Nat)
 | 0,_,s=>(s.next,s.fd)
 | f+1,a,s=>
  let s1:=if a=from_ ∨ (there=false/\s.fd=none) then standS L tx.length opn 0 a a s else s
  if a=tx.length ∨ (s1.next=[]/\(there=true ∨ s1.fd ≠ none)) then (s1.next,s1.fd)
  else runF L tx opn there from_ f (a+1) (feedS L tx.length opn (tx.getD a 0).toNat (a+1) s1.next (bareS L s1.fd))
def runS (L:List Sp) (tx:List UInt8) (opn there:Bool) (from_:Nat):List (Nat × Nat) × Option (Nat × Nat):=
 runF L tx opn there from_ (tx.length - from_+1) from_ (bareS L none)
def findS (L:List Sp) (tx:List UInt8) (from_:Nat):Option (Nat × Nat):=(runS L tx false false from_).2
def unseen (v:List Bool):Nat:=(v.filter (!·)).length
theorem unseen_set {v:List Bool} {k:Nat} (hk:k < v.length) (h:v.getD k false=false):unseen (v.set k true)+1=unseen v:=by
 induction v generalizing k with
 | nil=>simp at hk
 | cons b r ih=>
  cases k with
  | zero=>
   simp at h;subst h;simp [unseen]
  | succ k=>
   simp at hk h;have:=ih hk (by simpa using h)
   cases b <;> simp [unseen] at this ⊢ <;> omega
theorem metT_len (x:Sp) (n:Nat) (opn:Bool) (a:Nat):(metT x n opn a).length <= 2:=by
 unfold metT
 (repeat' split) <;> simp
theorem metS_vis (x:Sp) (n:Nat) (opn:Bool) (st a k:Nat) (s:Sr):(metS x n opn st a k s).vis=s.vis:=by
 unfold metS
 (repeat' split) <;> first | rfl | (unfold Sr.hit; (repeat' split) <;> rfl)
def okSp (n:Nat) (s:Sp):Prop:=(0 <= s.k/\s.k <= 4)/\(0 <= s.x/\s.x < n)/\(0 <= s.y/\s.y < n)/\(0 <= s.s0/\0 <= s.s1/\0 <= s.s2/\0 <= s.s3)/\s.set4.ok
def ProgOk (L:List Sp):Prop:=∀ s ∈ L,okSp L.length s
theorem spAt_get {L:List Sp} {k:Nat} (h:k < L.length):L[k]?=some (spAt L k):=by
 unfold spAt;rw [List.getD_eq_getElem?_getD,List.getElem?_eq_getElem h];rfl
theorem ProgOk.at_ {L:List Sp} (h:ProgOk L) {k:Nat} (hk:k < L.length):okSp L.length (spAt L k):=h _ (List.mem_of_getElem? (spAt_get hk))
theorem metT_ok {L:List Sp} (h:ProgOk L) {k:Nat} (hk:k < L.length) (n:Nat) (opn:Bool) (a:Nat):∀ j ∈ metT (spAt L k) n opn a,j < L.length:=by
 obtain ⟨-, ⟨x0,x1⟩,⟨y0,y1⟩,-⟩:=h.at_ hk;intro j hj;unfold metT at hj
 (repeat' split at hj) <;> simp at hj <;> omega
end Go.Proofs.YtfofechcccodeaaGreatDoor
