/-
  Small texts in one (Member2). No conditions.
-/
import Derived.Test.YtfofechcccodeaaGreatDoorQaq
namespace Go.Proofs.YtfofechcccodeaaGreatDoor
open Go.RowKit Go.Proofs.Tryz
set_option linter.unusedVariables false
set_option linter.unusedSimpArgs false
set_option maxRecDepth 100000
set_option maxHeartbeats 4000000
theorem member_none {w:World} {A:Option Addr} {bs:List UInt8} {c:Nat} (h:Bytes w A bs) (i:Nat) (hl:bs.length <= 1000000000) (hi:i <= bs.length) (ho:opensS bs i=false) (hg:singleS bs i=none) :
    Calls prog 126 #[.slice A bs.length c,.int .i64 (i:Int)] w (MemberPost w (.error (bs.length,7))):=by
 have HB:=zh h;have HO:=zh ho;have HG:=zh hg;clear h ho hg;go_enter func126,ntmps126
 go_wp2_with fail
 go_at_call 130
 refine (opens_any (At.alloc HB.out _) i hl (by omega)).mono ?_;rintro e w1 ⟨rfl,rfl⟩;rw [HO.out];go_wp2_with fail
 go_at_call 133
 refine (single_any (At.alloc HB.out _) i hl (by omega)).mono ?_;rintro e w1 ⟨rfl,rfl⟩;rw [HG.out];unfold singleV;dsimp only;go_wp2_with fail
 go_at_call 125
 refine (fault_any _ _ _).mono ?_;rintro e w4 ⟨v4,rfl,hv4,hf4⟩;have HV4:=zh hv4;have HF4:=zh hf4;clear hv4 hf4;obtain ⟨⟨k0,k1,k2,k3⟩,z0,z1,z2,z3⟩:=S4.four (res_cells HF4.out);have hlt:=(res_cells HF4.out).lt;go_wp2_with fail
 refine bodyPost_ret (v := .tuple #[S4.empty.val,.int .i64 0,v4]) (by simp [results,results126,go_sem,k0,k1,k2,k3,S4.val,S4.empty]) rfl ?_;exact MemberPost.err rfl (HV4.out.four (res_cells HF4.out) _ _ _ _) (four_set (t:=0) _ _ _ _ (((Fr.refl [] w).alloc _).trans HF4.out) (Nat.le_refl _))
theorem member_end {w:World} {A:Option Addr} {bs:List UInt8} {c:Nat} (h:Bytes w A bs) (i:Nat) (hl:bs.length <= 1000000000) (hi:i <= bs.length) (ho:opensS bs i=false) {f nx:Nat} (hg:singleS bs i=some (f,nx)) (h1:bs.length <= nx+1) :
    Calls prog 126 #[.slice A bs.length c,.int .i64 (i:Int)] w (MemberPost w (.ok (S4.range f f,nx))):=by
 have hlt0:=singleS_lt hg;have HB:=zh h;have HO:=zh ho;have HG:=zh hg;clear h ho hg;go_enter func126,ntmps126
 go_wp2_with fail
 go_at_call 130
 refine (opens_any (At.alloc HB.out _) i hl (by omega)).mono ?_;rintro e w1 ⟨rfl,rfl⟩;rw [HO.out];go_wp2_with fail
 go_at_call 133
 refine (single_any (At.alloc HB.out _) i hl (by omega)).mono ?_;rintro e w1 ⟨rfl,rfl⟩;rw [HG.out];unfold singleV;dsimp only;go_wp2_with fail
 go_at_call 117
 refine (range_any f f _ (by omega) (by omega)).mono ?_;rintro e w4 ⟨rfl,hf4⟩;have HF4:=zh hf4;clear hf4;obtain ⟨⟨k0,k1,k2,k3⟩,z0,z1,z2,z3⟩:=S4.four (res_cells HF4.out);have hlt:=(res_cells HF4.out).lt;unfold S4.val;go_wp2_with fail
 refine bodyPost_ret (v := .tuple #[(S4.range f f).val,.int .i64 (nx:Int),.nilIface]) (by simp [results,results126,go_sem,k0,k1,k2,k3,S4.val]) rfl ?_;exact MemberPost.ok_ rfl (four_set (t:=0) _ _ _ _ (((Fr.refl [] w).alloc _).trans HF4.out) (Nat.le_refl _))
theorem member_nodash {w:World} {A:Option Addr} {bs:List UInt8} {c:Nat} (h:Bytes w A bs) (i:Nat) (hl:bs.length <= 1000000000) (hi:i <= bs.length) (ho:opensS bs i=false) {f nx:Nat} (hg:singleS bs i=some (f,nx)) (h1:nx+1 < bs.length) (h2:bn bs nx ≠ 45) :
    Calls prog 126 #[.slice A bs.length c,.int .i64 (i:Int)] w (MemberPost w (.ok (S4.range f f,nx))):=by
 have hlt0:=singleS_lt hg;obtain ⟨b,off,rfl,hb,hc⟩:=byte_at h (i:=nx) (by omega);have c0:=hc nx (by omega);have b0:=bn_lt bs nx;have g1:(!((bn bs nx:Int) == 45))=true:=by simp;omega
 have g2:((bn bs nx:Int) != 45)=true:=by simp;omega
 clear hc h2;have HB:=zh h;have HO:=zh ho;have HG:=zh hg;clear h ho hg;go_enter func126,ntmps126
 go_wp2_with fail
 go_at_call 130
 refine (opens_any (At.alloc HB.out _) i hl (by omega)).mono ?_;rintro e w1 ⟨rfl,rfl⟩;rw [HO.out];go_wp2_with fail
 go_at_call 133
 refine (single_any (At.alloc HB.out _) i hl (by omega)).mono ?_;rintro e w1 ⟨rfl,rfl⟩;rw [HG.out];unfold singleV;dsimp only;go_wp2_with fail
 go_at_call 117
 refine (range_any f f _ (by omega) (by omega)).mono ?_;rintro e w4 ⟨rfl,hf4⟩;have HF4:=zh hf4;clear hf4;obtain ⟨⟨k0,k1,k2,k3⟩,z0,z1,z2,z3⟩:=S4.four (res_cells HF4.out);have hlt:=(res_cells HF4.out).lt;unfold S4.val;go_wp2_with fail
 refine bodyPost_ret (v := .tuple #[(S4.range f f).val,.int .i64 (nx:Int),.nilIface]) (by simp [results,results126,go_sem,k0,k1,k2,k3,S4.val]) rfl ?_;exact MemberPost.ok_ rfl (four_set (t:=0) _ _ _ _ (((Fr.refl [] w).alloc _).trans HF4.out) (Nat.le_refl _))
theorem member_last {w:World} {A:Option Addr} {bs:List UInt8} {c:Nat} (h:Bytes w A bs) (i:Nat) (hl:bs.length <= 1000000000) (hi:i <= bs.length) (ho:opensS bs i=false) {f nx:Nat} (hg:singleS bs i=some (f,nx)) (h1:nx+1 < bs.length) (h2:bn bs nx=45) (h3:bn bs (nx+1)=93) :
    Calls prog 126 #[.slice A bs.length c,.int .i64 (i:Int)] w (MemberPost w (.ok (S4.range f f,nx))):=by
 have hlt0:=singleS_lt hg;obtain ⟨b,off,rfl,hb,hc⟩:=byte_at h (i:=nx) (by omega);have c0:=hc nx (by omega);have c1:=hc (nx+1) (by omega);rw [h2] at c0;rw [h3] at c1;clear hc h2 h3;have HB:=zh h;have HO:=zh ho;have HG:=zh hg;clear h ho hg;go_enter func126,ntmps126
 go_wp2_with fail
 go_at_call 130
 refine (opens_any (At.alloc HB.out _) i hl (by omega)).mono ?_;rintro e w1 ⟨rfl,rfl⟩;rw [HO.out];go_wp2_with fail
 go_at_call 133
 refine (single_any (At.alloc HB.out _) i hl (by omega)).mono ?_;rintro e w1 ⟨rfl,rfl⟩;rw [HG.out];unfold singleV;dsimp only;go_wp2_with fail
 go_at_call 117
 refine (range_any f f _ (by omega) (by omega)).mono ?_;rintro e w4 ⟨rfl,hf4⟩;have HF4:=zh hf4;clear hf4;obtain ⟨⟨k0,k1,k2,k3⟩,z0,z1,z2,z3⟩:=S4.four (res_cells HF4.out);have hlt:=(res_cells HF4.out).lt;unfold S4.val;go_wp2_with fail
 refine bodyPost_ret (v := .tuple #[(S4.range f f).val,.int .i64 (nx:Int),.nilIface]) (by simp [results,results126,go_sem,k0,k1,k2,k3,S4.val]) rfl ?_;exact MemberPost.ok_ rfl (four_set (t:=0) _ _ _ _ (((Fr.refl [] w).alloc _).trans HF4.out) (Nat.le_refl _))
theorem member_opens2 {w:World} {A:Option Addr} {bs:List UInt8} {c:Nat} (h:Bytes w A bs) (i:Nat) (hl:bs.length <= 1000000000) (hi:i <= bs.length) (ho:opensS bs i=false) {f nx:Nat} (hg:singleS bs i=some (f,nx)) (h1:nx+1 < bs.length) (h2:bn bs nx=45) (h3:bn bs (nx+1) ≠ 93) (ho2:opensS bs (nx+1)=true) :
    Calls prog 126 #[.slice A bs.length c,.int .i64 (i:Int)] w (MemberPost w (.error (i,4))):=by
 have hlt0:=singleS_lt hg;obtain ⟨b,off,rfl,hb,hc⟩:=byte_at h (i:=nx) (by omega);have c0:=hc nx (by omega);have c1:=hc (nx+1) (by omega);rw [h2] at c0;have b1:=bn_lt bs (nx+1);have g1:((bn bs (nx+1):Int) == 93)=false:=by simp;omega
 clear hc h2 h3;have HB:=zh h;have HO:=zh ho;have HG:=zh hg;clear h ho hg;have HO2:=zh ho2;clear ho2;go_enter func126,ntmps126
 go_wp2_with fail
 go_at_call 130
 refine (opens_any (At.alloc HB.out _) i hl (by omega)).mono ?_;rintro e w1 ⟨rfl,rfl⟩;rw [HO.out];go_wp2_with fail
 go_at_call 133
 refine (single_any (At.alloc HB.out _) i hl (by omega)).mono ?_;rintro e w1 ⟨rfl,rfl⟩;rw [HG.out];unfold singleV;dsimp only;go_wp2_with fail
 go_at_call 130
 refine (opens_any (At.alloc HB.out _) (nx+1) hl (by omega)).mono ?_;rintro e w1 ⟨rfl,rfl⟩;rw [HO2.out];go_wp2_with fail
 go_at_call 125
 refine (fault_any _ _ _).mono ?_;rintro e w4 ⟨v4,rfl,hv4,hf4⟩;have HV4:=zh hv4;have HF4:=zh hf4;clear hv4 hf4;obtain ⟨⟨k0,k1,k2,k3⟩,z0,z1,z2,z3⟩:=S4.four (res_cells HF4.out);have hlt:=(res_cells HF4.out).lt;go_wp2_with fail
 refine bodyPost_ret (v := .tuple #[S4.empty.val,.int .i64 0,v4]) (by simp [results,results126,go_sem,k0,k1,k2,k3,S4.val,S4.empty]) rfl ?_;exact MemberPost.err rfl (HV4.out.four (res_cells HF4.out) _ _ _ _) (four_set (t:=0) _ _ _ _ (((Fr.refl [] w).alloc _).trans HF4.out) (Nat.le_refl _))
theorem member_none2 {w:World} {A:Option Addr} {bs:List UInt8} {c:Nat} (h:Bytes w A bs) (i:Nat) (hl:bs.length <= 1000000000) (hi:i <= bs.length) (ho:opensS bs i=false) {f nx:Nat} (hg:singleS bs i=some (f,nx)) (h1:nx+1 < bs.length) (h2:bn bs nx=45) (h3:bn bs (nx+1) ≠ 93) (ho2:opensS bs (nx+1)=false) (hg2:singleS bs (nx+1)=none) :
    Calls prog 126 #[.slice A bs.length c,.int .i64 (i:Int)] w (MemberPost w (.error (bs.length,7))):=by
 have hlt0:=singleS_lt hg;obtain ⟨b,off,rfl,hb,hc⟩:=byte_at h (i:=nx) (by omega);have c0:=hc nx (by omega);have c1:=hc (nx+1) (by omega);rw [h2] at c0;have b1:=bn_lt bs (nx+1);have g1:((bn bs (nx+1):Int) == 93)=false:=by simp;omega
 clear hc h2 h3;have HB:=zh h;have HO:=zh ho;have HG:=zh hg;clear h ho hg;have HO2:=zh ho2;have HG2:=zh hg2;clear ho2 hg2;go_enter func126,ntmps126
 go_wp2_with fail
 go_at_call 130
 refine (opens_any (At.alloc HB.out _) i hl (by omega)).mono ?_;rintro e w1 ⟨rfl,rfl⟩;rw [HO.out];go_wp2_with fail
 go_at_call 133
 refine (single_any (At.alloc HB.out _) i hl (by omega)).mono ?_;rintro e w1 ⟨rfl,rfl⟩;rw [HG.out];unfold singleV;dsimp only;go_wp2_with fail
 go_at_call 130
 refine (opens_any (At.alloc HB.out _) (nx+1) hl (by omega)).mono ?_;rintro e w1 ⟨rfl,rfl⟩;rw [HO2.out];go_wp2_with fail
 go_at_call 133
 refine (single_any (At.alloc HB.out _) (nx+1) hl (by omega)).mono ?_;rintro e w1 ⟨rfl,rfl⟩;rw [HG2.out];unfold singleV;dsimp only;go_wp2_with fail
 go_at_call 125
 refine (fault_any _ _ _).mono ?_;rintro e w4 ⟨v4,rfl,hv4,hf4⟩;have HV4:=zh hv4;have HF4:=zh hf4;clear hv4 hf4;obtain ⟨⟨k0,k1,k2,k3⟩,z0,z1,z2,z3⟩:=S4.four (res_cells HF4.out);have hlt:=(res_cells HF4.out).lt;go_wp2_with fail
 refine bodyPost_ret (v := .tuple #[S4.empty.val,.int .i64 0,v4]) (by simp [results,results126,go_sem,k0,k1,k2,k3,S4.val,S4.empty]) rfl ?_;exact MemberPost.err rfl (HV4.out.four (res_cells HF4.out) _ _ _ _) (four_set (t:=0) _ _ _ _ (((Fr.refl [] w).alloc _).trans HF4.out) (Nat.le_refl _))
theorem member_less {w:World} {A:Option Addr} {bs:List UInt8} {c:Nat} (h:Bytes w A bs) (i:Nat) (hl:bs.length <= 1000000000) (hi:i <= bs.length) (ho:opensS bs i=false) {f nx:Nat} (hg:singleS bs i=some (f,nx)) (h1:nx+1 < bs.length) (h2:bn bs nx=45) (h3:bn bs (nx+1) ≠ 93) (ho2:opensS bs (nx+1)=false) {t nx2:Nat} (hg2:singleS bs (nx+1)=some (t,nx2)) (hlt2:t < f) :
    Calls prog 126 #[.slice A bs.length c,.int .i64 (i:Int)] w (MemberPost w (.error (i,4))):=by
 have hlt0:=singleS_lt hg;obtain ⟨b,off,rfl,hb,hc⟩:=byte_at h (i:=nx) (by omega);have c0:=hc nx (by omega);have c1:=hc (nx+1) (by omega);rw [h2] at c0;have b1:=bn_lt bs (nx+1);have g1:((bn bs (nx+1):Int) == 93)=false:=by simp;omega
 clear hc h2 h3;have HB:=zh h;have HO:=zh ho;have HG:=zh hg;clear h ho hg;have hlt1:=singleS_lt hg2;have HO2:=zh ho2;have HG2:=zh hg2;clear ho2 hg2;go_enter func126,ntmps126
 go_wp2_with fail
 go_at_call 130
 refine (opens_any (At.alloc HB.out _) i hl (by omega)).mono ?_;rintro e w1 ⟨rfl,rfl⟩;rw [HO.out];go_wp2_with fail
 go_at_call 133
 refine (single_any (At.alloc HB.out _) i hl (by omega)).mono ?_;rintro e w1 ⟨rfl,rfl⟩;rw [HG.out];unfold singleV;dsimp only;go_wp2_with fail
 go_at_call 130
 refine (opens_any (At.alloc HB.out _) (nx+1) hl (by omega)).mono ?_;rintro e w1 ⟨rfl,rfl⟩;rw [HO2.out];go_wp2_with fail
 go_at_call 133
 refine (single_any (At.alloc HB.out _) (nx+1) hl (by omega)).mono ?_;rintro e w1 ⟨rfl,rfl⟩;rw [HG2.out];unfold singleV;dsimp only;go_wp2_with fail
 go_at_call 125
 refine (fault_any _ _ _).mono ?_;rintro e w4 ⟨v4,rfl,hv4,hf4⟩;have HV4:=zh hv4;have HF4:=zh hf4;clear hv4 hf4;obtain ⟨⟨k0,k1,k2,k3⟩,z0,z1,z2,z3⟩:=S4.four (res_cells HF4.out);have hlt:=(res_cells HF4.out).lt;go_wp2_with fail
 refine bodyPost_ret (v := .tuple #[S4.empty.val,.int .i64 0,v4]) (by simp [results,results126,go_sem,k0,k1,k2,k3,S4.val,S4.empty]) rfl ?_;exact MemberPost.err rfl (HV4.out.four (res_cells HF4.out) _ _ _ _) (four_set (t:=0) _ _ _ _ (((Fr.refl [] w).alloc _).trans HF4.out) (Nat.le_refl _))
theorem member_range {w:World} {A:Option Addr} {bs:List UInt8} {c:Nat} (h:Bytes w A bs) (i:Nat) (hl:bs.length <= 1000000000) (hi:i <= bs.length) (ho:opensS bs i=false) {f nx:Nat} (hg:singleS bs i=some (f,nx)) (h1:nx+1 < bs.length) (h2:bn bs nx=45) (h3:bn bs (nx+1) ≠ 93) (ho2:opensS bs (nx+1)=false) {t nx2:Nat} (hg2:singleS bs (nx+1)=some (t,nx2)) (hlt2:f <= t) :
    Calls prog 126 #[.slice A bs.length c,.int .i64 (i:Int)] w (MemberPost w (.ok (S4.range f t,nx2))):=by
 have hlt0:=singleS_lt hg;obtain ⟨b,off,rfl,hb,hc⟩:=byte_at h (i:=nx) (by omega);have c0:=hc nx (by omega);have c1:=hc (nx+1) (by omega);rw [h2] at c0;have b1:=bn_lt bs (nx+1);have g1:((bn bs (nx+1):Int) == 93)=false:=by simp;omega
 clear hc h2 h3;have HB:=zh h;have HO:=zh ho;have HG:=zh hg;clear h ho hg;have hlt1:=singleS_lt hg2;have HO2:=zh ho2;have HG2:=zh hg2;clear ho2 hg2;go_enter func126,ntmps126
 go_wp2_with fail
 go_at_call 130
 refine (opens_any (At.alloc HB.out _) i hl (by omega)).mono ?_;rintro e w1 ⟨rfl,rfl⟩;rw [HO.out];go_wp2_with fail
 go_at_call 133
 refine (single_any (At.alloc HB.out _) i hl (by omega)).mono ?_;rintro e w1 ⟨rfl,rfl⟩;rw [HG.out];unfold singleV;dsimp only;go_wp2_with fail
 go_at_call 130
 refine (opens_any (At.alloc HB.out _) (nx+1) hl (by omega)).mono ?_;rintro e w1 ⟨rfl,rfl⟩;rw [HO2.out];go_wp2_with fail
 go_at_call 133
 refine (single_any (At.alloc HB.out _) (nx+1) hl (by omega)).mono ?_;rintro e w1 ⟨rfl,rfl⟩;rw [HG2.out];unfold singleV;dsimp only;go_wp2_with fail
 go_at_call 117
 refine (range_any f t _ (by omega) (by omega)).mono ?_;rintro e w4 ⟨rfl,hf4⟩;have HF4:=zh hf4;clear hf4;obtain ⟨⟨k0,k1,k2,k3⟩,z0,z1,z2,z3⟩:=S4.four (res_cells HF4.out);have hlt:=(res_cells HF4.out).lt;unfold S4.val;go_wp2_with fail
 refine bodyPost_ret (v := .tuple #[(S4.range f t).val,.int .i64 (nx2:Int),.nilIface]) (by simp [results,results126,go_sem,k0,k1,k2,k3,S4.val]) rfl ?_;exact MemberPost.ok_ rfl (four_set (t:=0) _ _ _ _ (((Fr.refl [] w).alloc _).trans HF4.out) (Nat.le_refl _))
theorem member_any {w:World} {A:Option Addr} {bs:List UInt8} {c:Nat} (h:Bytes w A bs) (i:Nat) (hl:bs.length <= 1000000000) (hi:i <= bs.length) (hc:bs.length <= c) (hA:A=none->c=0) (hcm:c <= maxLen) (hg:GlobOk w) :
    Calls prog 126 #[.slice A bs.length c,.int .i64 (i:Int)] w (MemberPost w (memberS bs i)):=by
 cases ho:opensS bs i with
 | true=>exact member_class h i hl hi hc hA hcm hg ho
 | false=>
  unfold memberS;rw [if_neg (by simp [ho])]
  cases hs:singleS bs i with
  | none=>exact member_none h i hl hi ho hs
  | some p=>
   obtain ⟨f,nx⟩:=p;dsimp only;by_cases h1:bs.length <= nx+1
   ·rw [if_pos (.inl h1)];exact member_end h i hl hi ho hs h1
   by_cases h2:bn bs nx=45
   ·by_cases h3:bn bs (nx+1)=93
    ·rw [if_pos (.inr (.inr h3))];exact member_last h i hl hi ho hs (by omega) h2 h3
    rw [if_neg (by simp [h1,h2,h3])]
    cases ho2:opensS bs (nx+1) with
    | true=>rw [if_pos rfl];exact member_opens2 h i hl hi ho hs (by omega) h2 h3 ho2
    | false=>
     rw [if_neg (by simp)]
     cases hs2:singleS bs (nx+1) with
     | none=>exact member_none2 h i hl hi ho hs (by omega) h2 h3 ho2 hs2
     | some q=>
      obtain ⟨t,nx2⟩:=q;dsimp only;by_cases h4:t < f
      ·rw [if_pos h4];exact member_less h i hl hi ho hs (by omega) h2 h3 ho2 hs2 h4
      rw [if_neg h4];exact member_range h i hl hi ho hs (by omega) h2 h3 ho2 hs2 (by omega)
   rw [if_pos (.inr (.inl h2))];exact member_nodash h i hl hi ho hs (by omega) h2
end Go.Proofs.YtfofechcccodeaaGreatDoor
