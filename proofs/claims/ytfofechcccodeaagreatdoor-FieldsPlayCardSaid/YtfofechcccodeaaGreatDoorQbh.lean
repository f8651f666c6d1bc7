/-
  Small texts in one (Rf2). No conditions.
-/
import Derived.Test.YtfofechcccodeaaGreatDoorQbg
import Derived.Test.YtfofechcccodeaaGreatDoorQac
namespace Go.Proofs.YtfofechcccodeaaGreatDoor
open Go.RowKit Go.Proofs.Tryz
set_option linter.unusedVariables false
set_option linter.unusedSimpArgs false
def isS (bs:List UInt8) (i:Nat) (t:List UInt8):Bool:=decide (i+t.length <= bs.length) && ((bs.drop i).take t.length == t)
theorem str_at (bs:List UInt8) (i:Nat) (hi:i < bs.length) (W:World):(Instr.index 9 (.string ⟨bs.toArray⟩) (.int .i64 (i:Int))).run prog W = .ok (.int .u8 (bn bs i:Int)) W:=by
 have h:(⟨bs.toArray⟩:ByteArray)[i]?=some (bs.getD i 0):=by
  rw [getElem?_pos (⟨bs.toArray⟩:ByteArray) i (by rw [ba_size];exact hi)]
  congr 1
  show bs.toArray[i]=_;simp [List.getD_eq_getElem?_getD,List.getElem?_eq_getElem hi]
 unfold Instr.index;simp [asIntOf,run_underlying underlying9,h,bn]
theorem is_any (bs t:List UInt8) (i:Nat) (hl:bs.length <= 1000000000) (hi:i <= 1000000000) (ht:t.length <= 1000) (w:World):Calls prog 120 #[.string ⟨bs.toArray⟩,.int .i64 (i:Int),.string ⟨t.toArray⟩] w fun e w'=>e = .returned (.bool (isS bs i t))/\w=w':=by
 obtain ⟨S,hS⟩:∃ S,S=(⟨bs.toArray⟩:ByteArray):=⟨_,rfl⟩;obtain ⟨T,hT⟩:∃ T,T=(⟨t.toArray⟩:ByteArray):=⟨_,rfl⟩;obtain ⟨L,hL⟩:∃ L,L=bs.length:=⟨_,rfl⟩;obtain ⟨m,hm⟩:∃ m,m=t.length:=⟨_,rfl⟩;have hs1:S.size=L:=by rw [hS,hL];simp [ByteArray.size]
 have hs2:T.size=m:=by rw [hT,hm];simp [ByteArray.size]
 rw [<-hS,<-hT];rw [<-hL] at hl;rw [<-hm] at ht;have HS:=zh hS;have HT:=zh hT;have HL:=zh hL;have HM:=zh hm;clear hS hT hL hm;by_cases h1:i+m <= L
 ·have h1I:(i:Int) <= (L:Int) - (m:Int):=by omega
  go_enter func120,ntmps120
  go_wp2_with fail
  go_ret
  refine ⟨?_,rfl⟩;unfold isS;have:decide (i+t.length <= bs.length)=true:=by rw [<-HL.out,<-HM.out];simpa using h1
  rw [this,HS.out,HT.out,ba_extract,ByteArray.toList_mk,ByteArray.toList_mk,<-HM.out];simp
 have h1I:¬ (i:Int) <= (L:Int) - (m:Int):=by omega
 go_enter func120,ntmps120
 go_wp2_with fail
 go_ret
 refine ⟨?_,rfl⟩;unfold isS;have:decide (i+t.length <= bs.length)=false:=by rw [<-HL.out,<-HM.out];simpa using h1
 rw [this];rfl
theorem bn_ge {bs:List UInt8} {i:Nat} (h:bs.length <= i):bn bs i=0:=by
 unfold bn;simp [List.getD_eq_getElem?_getD,List.getElem?_eq_none h]
theorem bn_eq_get {bs:List UInt8} {i:Nat} (h:i < bs.length):bn bs i=(bs[i]'h).toNat:=by
 unfold bn;simp [List.getD_eq_getElem?_getD,List.getElem?_eq_getElem h]
theorem isS_one (bs:List UInt8) (i:Nat) (x:UInt8) (hx:0 < x.toNat):isS bs i [x]=decide (bn bs i=x.toNat):=by
 unfold isS;rcases Nat.lt_or_ge i bs.length with h | h
 ·rw [bn_eq_get h,List.drop_eq_getElem_cons h];have:decide (i + [x].length <= bs.length)=true:=by simp;omega
  rw [this,Bool.true_and,Bool.eq_iff_iff,beq_iff_eq,show [x].length=0+1 from rfl,List.take_succ_cons,List.take_zero,decide_eq_true_iff,UInt8.toNat_inj];exact ⟨fun h=>by injection h,fun h=>by rw [h]⟩
 have:decide (i + [x].length <= bs.length)=false:=by simp;omega
 rw [this,bn_ge h,Bool.false_and]
 symm;simp;omega
theorem isS_two (bs:List UInt8) (i:Nat) (x y:UInt8) (hx:0 < x.toNat) (hy:0 < y.toNat):isS bs i [x,y]=(decide (bn bs i=x.toNat) && decide (bn bs (i+1)=y.toNat)):=by
 unfold isS;rcases Nat.lt_or_ge (i+1) bs.length with h | h
 ·rw [bn_eq_get h,bn_eq_get (i:=i) (by omega),List.drop_eq_getElem_cons (by omega),List.drop_eq_getElem_cons h];have:decide (i + [x,y].length <= bs.length)=true:=by simp;omega
  rw [this,Bool.true_and,Bool.eq_iff_iff,beq_iff_eq,show [x,y].length=0+1+1 from rfl,List.take_succ_cons,List.take_succ_cons,List.take_zero,Bool.and_eq_true,decide_eq_true_iff,decide_eq_true_iff,UInt8.toNat_inj,UInt8.toNat_inj];exact ⟨fun h=>by injection h with h1 h2;injection h2 with h2;exact ⟨h1,h2⟩,fun h=>by rw [h.1,h.2]⟩
 have:decide (i + [x,y].length <= bs.length)=false:=by simp;omega
 rw [this,bn_ge h,Bool.false_and]
 symm;simp;omega
theorem isS_opens (bs:List UInt8) (i:Nat):isS bs i [91,58]=opensS bs i:=by
 rw [isS_two bs i 91 58 (by decide) (by decide)];unfold opensS;rw [Bool.eq_iff_iff];simp;constructor
 ·rintro ⟨h1,h2⟩;refine ⟨?_,by omega,by omega⟩;rcases Nat.lt_or_ge (i+1) bs.length with h | h
  ·exact h
  rw [bn_ge h] at h2;omega
 rintro ⟨-, h1,h2⟩;omega
/-! Escape. -/
theorem resc_any (c:Nat) (hc:c < 256) (w:World):Calls prog 106 #[.int .u8 (c:Int)] w fun e w'=>e = .returned (.int .u8 (escN c:Int))/\w=w':=by
 by_cases h:c=110 ∨ c=116 ∨ c=114 ∨ c=102 ∨ c=118 ∨ c=97 ∨ c=98
 ·rcases h with rfl | rfl | rfl | rfl | rfl | rfl | rfl
  all_goals
   go_enter func106,ntmps106
   go_wp2_with fail
   go_ret
   exact ⟨rfl,rfl⟩
 have e110:((c:Int) == 110)=false:=by simp;omega
 have e116:((c:Int) == 116)=false:=by simp;omega
 have e114:((c:Int) == 114)=false:=by simp;omega
 have e102:((c:Int) == 102)=false:=by simp;omega
 have e118:((c:Int) == 118)=false:=by simp;omega
 have e97:((c:Int) == 97)=false:=by simp;omega
 have e98:((c:Int) == 98)=false:=by simp;omega
 have he:escN c=c:=by unfold escN; (repeat' split) <;> omega
 rw [he];clear he h;go_enter func106,ntmps106
 go_wp2_with fail
 go_ret
 exact ⟨rfl,rfl⟩
/-! A byte or an escape. -/
def oneS (bs:List UInt8) (i:Nat):Nat × Nat:=match singleS bs i with
 | none=>(0,0)
 | some (c,n)=>(c,n - i)
theorem rone_any (bs:List UInt8) (i:Nat) (hl:bs.length <= 1000000000) (hi:i <= 1000000000) (w:World):Calls prog 122 #[.string ⟨bs.toArray⟩,.int .i64 (i:Int)] w fun e w'=>e = .returned (.tuple #[.int .u8 ((oneS bs i).1:Int),.int .i64 ((oneS bs i).2:Int)])/\w=w':=by
 obtain ⟨S,hS⟩:∃ S,S=(⟨bs.toArray⟩:ByteArray):=⟨_,rfl⟩;obtain ⟨L,hL⟩:∃ L,L=bs.length:=⟨_,rfl⟩;have hs1:S.size=L:=by rw [hS,hL];simp [ByteArray.size]
 have hix:∀ j,j < L->∀ W,(Instr.index 9 (.string S) (.int .i64 (j:Int))).run prog W = .ok (.int .u8 (bn bs j:Int)) W:=fun j hj W=>by rw [hS];exact str_at bs j (by omega) W
 have HR:Hid (oneS bs i=if L <= i then (0,0) else if bn bs i ≠ 92 then (bn bs i,1) else if L <= i+1 then (0,0) else (escN (bn bs (i+1)),2)):=zh (by
  unfold oneS singleS;rw [<-hL]
  (repeat' split) <;> first | rfl | (simp_all;done) | (simp_all;omega) | omega)
 rw [<-hS];rw [<-hL] at hl;clear hS hL;have HIX:=zh hix;clear hix;by_cases h1:L <= i
 ·rw [if_pos h1] at HR;rw [HR.out];clear HR;go_enter func122,ntmps122
  go_wp2_with fail
  go_ret2
  exact ⟨rfl,rfl⟩
 rw [if_neg h1] at HR;have i1:=HIX.out i (by omega);obtain ⟨x,hx⟩:∃ x,x=bn bs i:=⟨_,rfl⟩;have hxl:x < 256:=by rw [hx];exact bn_lt _ _
 rw [<-hx] at i1 HR;clear hx;by_cases h2:x=92
 ·rw [if_neg (by omega)] at HR;subst h2;by_cases h3:L <= i+1
  ·rw [if_pos h3] at HR;rw [HR.out];clear HR;go_enter func122,ntmps122
   go_wp2_with fail
   go_ret2
   exact ⟨rfl,rfl⟩
  rw [if_neg h3] at HR;have i2:=HIX.out (i+1) (by omega);obtain ⟨y,hy⟩:∃ y,y=bn bs (i+1):=⟨_,rfl⟩;have hyl:y < 256:=by rw [hy];exact bn_lt _ _
  rw [<-hy] at i2 HR;clear hy;rw [HR.out];clear HR;have e1:((i+1:Nat):Int)=(i:Int)+1:=by omega
  rw [e1] at i2;clear e1;go_enter func122,ntmps122
  go_wp2_with (go_at_call 106;refine (resc_any y hyl _).mono ?_;rintro e w1 ⟨rfl,rfl⟩)
  go_ret2
  exact ⟨rfl,rfl⟩
 have g1:((x:Int) != 92)=true:=by simp;omega
 rw [if_pos h2] at HR;rw [HR.out];clear HR;go_enter func122,ntmps122
 go_wp2_with fail
 go_ret2
 exact ⟨rfl,rfl⟩
end Go.Proofs.YtfofechcccodeaaGreatDoor
