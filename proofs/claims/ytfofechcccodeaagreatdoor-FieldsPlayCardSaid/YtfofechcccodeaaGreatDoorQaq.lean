/-
  Small texts in one (Class, Class2, Member). No conditions.
-/
import Derived.Test.YtfofechcccodeaaGreatDoorQac
import Derived.Deep.RegionWith
namespace Go.Proofs.YtfofechcccodeaaGreatDoor
open Go.RowKit Go.Proofs.Tryz
set_option linter.unusedVariables false
set_option linter.unusedSimpArgs false
def S4.both (a b c d:Nat):S4:=(S4.range a b).or (S4.range c d)
theorem S4.both_ok (a b c d:Nat):(S4.both a b c d).ok:=S4.or_ok (S4.range_ok _ _) (S4.range_ok _ _)
theorem four_set {w0 w:World} {g:Nat} {t:TypeId} (a b c d:Value) (h:Fr [] w0 w) (hg:w0.heap.size <= g):Fr [] w0 ((((w.setCell ⟨g,0,none⟩ a).setCell ⟨g,1,none⟩ b).setCell ⟨g,2,none⟩ c).setCell ⟨g,3,none⟩ d):=
 (((h.setCell (.inr hg) _).setCell (.inr hg) _).setCell (.inr hg) _).setCell (.inr hg) _
theorem both_any (a b c d:Nat) (w:World) (ha:a < 256) (hb:b < 256) (hc:c < 256) (hd:d < 256) :
    Calls prog 138 #[.int .u8 (a:Int),.int .u8 (b:Int),.int .u8 (c:Int),.int .u8 (d:Int)] w fun e w'=>e = .returned (S4.both a b c d).val/\Fr [] w w':=by
 go_enter func138,ntmps138
 go_wp2_with fail
 refine (range_any a b _ ha hb).mono ?_;rintro e w1 ⟨rfl,hf1⟩;go_wp2_with fail
 refine (range_any c d _ hc hd).mono ?_;rintro e w2 ⟨rfl,hf2⟩;go_wp2_with fail
 refine (or_any _ _ _ (S4.range_ok _ _) (S4.range_ok _ _)).mono ?_;rintro e w3 ⟨rfl,hf3⟩;have hf:Fr [] (w.alloc (.cells S4.empty.cells 86)) w3:=(hf1.trans hf2).trans hf3;have hk:Bk w3 w.heap.size 86 S4.empty.cells:=(Bk.new w _ _).fr hf (by simp);have hw:Fr [] w w3:=((Fr.refl [] w).alloc _).trans hf;obtain ⟨⟨k0,k1,k2,k3⟩,z0,z1,z2,z3⟩:=S4.four hk
 generalize hR:(S4.range a b).or (S4.range c d)=R at *
 have HW:=zh hw;have HR:=zh hR;clear hf hk hw hf1 hf2 hf3 hR;unfold S4.val;go_wp2_with fail
 exact bodyPost_ret (v:=R.val) (by simp [results,results138,go_sem,k0,k1,k2,k3,S4.val]) rfl ⟨by rw [<-HR.out];rfl,four_set (t:=0) _ _ _ _ HW.out (Nat.le_refl _)⟩
theorem class_xdigit (w:World):Calls prog 132 #[.string ⟨#[120,100,105,103,105,116]⟩] w fun e w'=>e = .returned (.tuple #[(S4.or (S4.range 48 57) (S4.both 65 70 97 102)).val,.bool true])/\Fr [] w w':=by
 go_enter func132,ntmps132
 go_wp2_with fail
 refine (range_any 48 57 _ (by omega) (by omega)).mono ?_;rintro e w2 ⟨rfl,hf2⟩;go_wp2_with fail
 refine (both_any 65 70 97 102 _ (by omega) (by omega) (by omega) (by omega)).mono ?_;rintro e w3 ⟨rfl,hf3⟩;go_wp2_with fail
 refine (or_any _ _ _ (S4.range_ok _ _) (S4.both_ok _ _ _ _)).mono ?_;rintro e w1 ⟨rfl,hf1⟩;have hf:=(hf2.trans hf3).trans hf1;clear hf1 hf2 hf3;have hk:Bk w1 w.heap.size 86 S4.empty.cells:=(Bk.new w _ _).fr hf (by simp);have hw:Fr [] w w1:=((Fr.refl [] w).alloc _).trans hf;obtain ⟨⟨k0,k1,k2,k3⟩,z0,z1,z2,z3⟩:=S4.four hk
 generalize hR:(S4.or (S4.range 48 57) (S4.both 65 70 97 102))=R at *
 have HW:=zh hw;have HR:=zh hR;clear hf hk hw hR;unfold S4.val;go_wp2_with fail
 exact bodyPost_ret (v := .tuple #[R.val,.bool true]) (by simp [results,results132,go_sem,k0,k1,k2,k3,S4.val]) rfl ⟨by rw [<-HR.out],four_set (t:=0) _ _ _ _ HW.out (Nat.le_refl _)⟩
theorem class_digit (w:World):Calls prog 132 #[.string ⟨#[100,105,103,105,116]⟩] w fun e w'=>e = .returned (.tuple #[(S4.range 48 57).val,.bool true])/\Fr [] w w':=by
 go_enter func132,ntmps132
 go_wp2_with fail
 refine (range_any 48 57 _ (by omega) (by omega)).mono ?_;rintro e w1 ⟨rfl,hf⟩;have hk:Bk w1 w.heap.size 86 S4.empty.cells:=(Bk.new w _ _).fr hf (by simp);have hw:Fr [] w w1:=((Fr.refl [] w).alloc _).trans hf;obtain ⟨⟨k0,k1,k2,k3⟩,z0,z1,z2,z3⟩:=S4.four hk
 generalize hR:(S4.range 48 57)=R at *
 have HW:=zh hw;have HR:=zh hR;clear hf hk hw hR;unfold S4.val;go_wp2_with fail
 exact bodyPost_ret (v := .tuple #[R.val,.bool true]) (by simp [results,results132,go_sem,k0,k1,k2,k3,S4.val]) rfl ⟨by rw [<-HR.out],four_set (t:=0) _ _ _ _ HW.out (Nat.le_refl _)⟩
theorem class_upper (w:World):Calls prog 132 #[.string ⟨#[117,112,112,101,114]⟩] w fun e w'=>e = .returned (.tuple #[(S4.range 65 90).val,.bool true])/\Fr [] w w':=by
 go_enter func132,ntmps132
 go_wp2_with fail
 refine (range_any 65 90 _ (by omega) (by omega)).mono ?_;rintro e w1 ⟨rfl,hf⟩;have hk:Bk w1 w.heap.size 86 S4.empty.cells:=(Bk.new w _ _).fr hf (by simp);have hw:Fr [] w w1:=((Fr.refl [] w).alloc _).trans hf;obtain ⟨⟨k0,k1,k2,k3⟩,z0,z1,z2,z3⟩:=S4.four hk
 generalize hR:(S4.range 65 90)=R at *
 have HW:=zh hw;have HR:=zh hR;clear hf hk hw hR;unfold S4.val;go_wp2_with fail
 exact bodyPost_ret (v := .tuple #[R.val,.bool true]) (by simp [results,results132,go_sem,k0,k1,k2,k3,S4.val]) rfl ⟨by rw [<-HR.out],four_set (t:=0) _ _ _ _ HW.out (Nat.le_refl _)⟩
theorem class_lower (w:World):Calls prog 132 #[.string ⟨#[108,111,119,101,114]⟩] w fun e w'=>e = .returned (.tuple #[(S4.range 97 122).val,.bool true])/\Fr [] w w':=by
 go_enter func132,ntmps132
 go_wp2_with fail
 refine (range_any 97 122 _ (by omega) (by omega)).mono ?_;rintro e w1 ⟨rfl,hf⟩;have hk:Bk w1 w.heap.size 86 S4.empty.cells:=(Bk.new w _ _).fr hf (by simp);have hw:Fr [] w w1:=((Fr.refl [] w).alloc _).trans hf;obtain ⟨⟨k0,k1,k2,k3⟩,z0,z1,z2,z3⟩:=S4.four hk
 generalize hR:(S4.range 97 122)=R at *
 have HW:=zh hw;have HR:=zh hR;clear hf hk hw hR;unfold S4.val;go_wp2_with fail
 exact bodyPost_ret (v := .tuple #[R.val,.bool true]) (by simp [results,results132,go_sem,k0,k1,k2,k3,S4.val]) rfl ⟨by rw [<-HR.out],four_set (t:=0) _ _ _ _ HW.out (Nat.le_refl _)⟩
theorem class_space (w:World):Calls prog 132 #[.string ⟨#[115,112,97,99,101]⟩] w fun e w'=>e = .returned (.tuple #[(S4.both 9 13 32 32).val,.bool true])/\Fr [] w w':=by
 go_enter func132,ntmps132
 go_wp2_with fail
 refine (both_any 9 13 32 32 _ (by omega) (by omega) (by omega) (by omega)).mono ?_;rintro e w1 ⟨rfl,hf⟩;have hk:Bk w1 w.heap.size 86 S4.empty.cells:=(Bk.new w _ _).fr hf (by simp);have hw:Fr [] w w1:=((Fr.refl [] w).alloc _).trans hf;obtain ⟨⟨k0,k1,k2,k3⟩,z0,z1,z2,z3⟩:=S4.four hk
 generalize hR:(S4.both 9 13 32 32)=R at *
 have HW:=zh hw;have HR:=zh hR;clear hf hk hw hR;unfold S4.val;go_wp2_with fail
 exact bodyPost_ret (v := .tuple #[R.val,.bool true]) (by simp [results,results132,go_sem,k0,k1,k2,k3,S4.val]) rfl ⟨by rw [<-HR.out],four_set (t:=0) _ _ _ _ HW.out (Nat.le_refl _)⟩
theorem class_blank (w:World):Calls prog 132 #[.string ⟨#[98,108,97,110,107]⟩] w fun e w'=>e = .returned (.tuple #[(S4.both 9 9 32 32).val,.bool true])/\Fr [] w w':=by
 go_enter func132,ntmps132
 go_wp2_with fail
 refine (both_any 9 9 32 32 _ (by omega) (by omega) (by omega) (by omega)).mono ?_;rintro e w1 ⟨rfl,hf⟩;have hk:Bk w1 w.heap.size 86 S4.empty.cells:=(Bk.new w _ _).fr hf (by simp);have hw:Fr [] w w1:=((Fr.refl [] w).alloc _).trans hf;obtain ⟨⟨k0,k1,k2,k3⟩,z0,z1,z2,z3⟩:=S4.four hk
 generalize hR:(S4.both 9 9 32 32)=R at *
 have HW:=zh hw;have HR:=zh hR;clear hf hk hw hR;unfold S4.val;go_wp2_with fail
 exact bodyPost_ret (v := .tuple #[R.val,.bool true]) (by simp [results,results132,go_sem,k0,k1,k2,k3,S4.val]) rfl ⟨by rw [<-HR.out],four_set (t:=0) _ _ _ _ HW.out (Nat.le_refl _)⟩
theorem class_print (w:World):Calls prog 132 #[.string ⟨#[112,114,105,110,116]⟩] w fun e w'=>e = .returned (.tuple #[(S4.range 32 126).val,.bool true])/\Fr [] w w':=by
 go_enter func132,ntmps132
 go_wp2_with fail
 refine (range_any 32 126 _ (by omega) (by omega)).mono ?_;rintro e w1 ⟨rfl,hf⟩;have hk:Bk w1 w.heap.size 86 S4.empty.cells:=(Bk.new w _ _).fr hf (by simp);have hw:Fr [] w w1:=((Fr.refl [] w).alloc _).trans hf;obtain ⟨⟨k0,k1,k2,k3⟩,z0,z1,z2,z3⟩:=S4.four hk
 generalize hR:(S4.range 32 126)=R at *
 have HW:=zh hw;have HR:=zh hR;clear hf hk hw hR;unfold S4.val;go_wp2_with fail
 exact bodyPost_ret (v := .tuple #[R.val,.bool true]) (by simp [results,results132,go_sem,k0,k1,k2,k3,S4.val]) rfl ⟨by rw [<-HR.out],four_set (t:=0) _ _ _ _ HW.out (Nat.le_refl _)⟩
theorem class_graph (w:World):Calls prog 132 #[.string ⟨#[103,114,97,112,104]⟩] w fun e w'=>e = .returned (.tuple #[(S4.range 33 126).val,.bool true])/\Fr [] w w':=by
 go_enter func132,ntmps132
 go_wp2_with fail
 refine (range_any 33 126 _ (by omega) (by omega)).mono ?_;rintro e w1 ⟨rfl,hf⟩;have hk:Bk w1 w.heap.size 86 S4.empty.cells:=(Bk.new w _ _).fr hf (by simp);have hw:Fr [] w w1:=((Fr.refl [] w).alloc _).trans hf;obtain ⟨⟨k0,k1,k2,k3⟩,z0,z1,z2,z3⟩:=S4.four hk
 generalize hR:(S4.range 33 126)=R at *
 have HW:=zh hw;have HR:=zh hR;clear hf hk hw hR;unfold S4.val;go_wp2_with fail
 exact bodyPost_ret (v := .tuple #[R.val,.bool true]) (by simp [results,results132,go_sem,k0,k1,k2,k3,S4.val]) rfl ⟨by rw [<-HR.out],four_set (t:=0) _ _ _ _ HW.out (Nat.le_refl _)⟩
theorem class_cntrl (w:World):Calls prog 132 #[.string ⟨#[99,110,116,114,108]⟩] w fun e w'=>e = .returned (.tuple #[(S4.both 0 31 127 127).val,.bool true])/\Fr [] w w':=by
 go_enter func132,ntmps132
 go_wp2_with fail
 refine (both_any 0 31 127 127 _ (by omega) (by omega) (by omega) (by omega)).mono ?_;rintro e w1 ⟨rfl,hf⟩;have hk:Bk w1 w.heap.size 86 S4.empty.cells:=(Bk.new w _ _).fr hf (by simp);have hw:Fr [] w w1:=((Fr.refl [] w).alloc _).trans hf;obtain ⟨⟨k0,k1,k2,k3⟩,z0,z1,z2,z3⟩:=S4.four hk
 generalize hR:(S4.both 0 31 127 127)=R at *
 have HW:=zh hw;have HR:=zh hR;clear hf hk hw hR;unfold S4.val;go_wp2_with fail
 exact bodyPost_ret (v := .tuple #[R.val,.bool true]) (by simp [results,results132,go_sem,k0,k1,k2,k3,S4.val]) rfl ⟨by rw [<-HR.out],four_set (t:=0) _ _ _ _ HW.out (Nat.le_refl _)⟩
end Go.Proofs.YtfofechcccodeaaGreatDoor
namespace Go.Proofs.YtfofechcccodeaaGreatDoor
open Go.RowKit Go.Proofs.Tryz
set_option linter.unusedVariables false
set_option linter.unusedSimpArgs false
set_option maxHeartbeats 2000000
theorem code_gen {P:Program} {c:Code} {Q:Exit->Act->World->Prop} {a:Act} {w:World} (h:∀ W,W=w->c.wp P Q a W):c.wp P Q a w:=h w rfl
theorem class_alpha (w:World):Calls prog 132 #[.string ⟨#[97,108,112,104,97]⟩] w fun e w'=>e = .returned (.tuple #[(S4.or S4.empty (S4.both 65 90 97 122)).val,.bool true])/\Fr [] w w':=by
 go_enter func132,ntmps132
 go_wp2_with fail
 refine code_gen fun W hW=>?_;have hk:Bk W w.heap.size 86 S4.empty.cells:=by rw [hW];exact Bk.new w _ _
 have hf:Fr [] w W:=by rw [hW];exact (Fr.refl [] w).alloc _
 obtain ⟨⟨k0,k1,k2,k3⟩,z0,z1,z2,z3⟩:=S4.four hk;have HK:=zh hk;have HF:=zh hf;clear hk hf hW
 go_region_with (first
  | (go_at_call 138;refine (both_any 65 90 97 122 _ (by omega) (by omega) (by omega) (by omega)).mono ?_;rintro e w2 ⟨rfl,hf2⟩;have HK2:=zh (HK.out.fr (Fr.trans ((Fr.refl [] W).drew) hf2) (by simp));have HF2:=zh (HF.out.trans (Fr.trans ((Fr.refl [] W).drew) hf2));obtain ⟨⟨j0,j1,j2,j3⟩,y0,y1,y2,y3⟩:=S4.four HK2.out;clear hf2)
  | (go_at_call 127;refine (or_any S4.empty (S4.both 65 90 97 122) _ S4.empty_ok (S4.both_ok _ _ _ _)).mono ?_;rintro e w3 ⟨rfl,hf3⟩;have HK3:=zh (HK2.out.fr hf3 (by simp));have HF3:=zh (HF2.out.trans hf3);obtain ⟨⟨l0,l1,l2,l3⟩,x0,x1,x2,x3⟩:=S4.four HK3.out;clear hf3;unfold S4.val))
 all_goals go_wp2_with fail
 all_goals exact bodyPost_ret (v := .tuple #[(S4.or S4.empty (S4.both 65 90 97 122)).val,.bool true]) (by simp [results,results132,go_sem,l0,l1,l2,l3,S4.val]) rfl ⟨rfl,four_set (t:=0) _ _ _ _ HF3.out (Nat.le_refl _)⟩
theorem class_alnum (w:World):Calls prog 132 #[.string ⟨#[97,108,110,117,109]⟩] w fun e w'=>e = .returned (.tuple #[(S4.or (S4.range 48 57) (S4.both 65 90 97 122)).val,.bool true])/\Fr [] w w':=by
 go_enter func132,ntmps132
 go_wp2_with fail
 refine (range_any 48 57 _ (by omega) (by omega)).mono ?_;rintro e w1 ⟨rfl,hf1⟩;have hk1:Bk w1 w.heap.size 86 S4.empty.cells:=(Bk.new w _ _).fr hf1 (by simp);have hw1:Fr [] w w1:=((Fr.refl [] w).alloc _).trans hf1;have hlt:=hk1.lt;obtain ⟨⟨k0,k1,k2,k3⟩,z0,z1,z2,z3⟩:=S4.four hk1;have HK1:=zh hk1;have HW1:=zh hw1;clear hk1 hw1 hf1;unfold S4.val;go_wp2_with fail
 refine code_gen fun W hW=>?_;have hk:Bk W w.heap.size 86 (S4.range 48 57).cells:=by rw [hW];exact (((HK1.out.put 0 _).put 1 _).put 2 _).put 3 _
 have hf:Fr [] w W:=by rw [hW];exact four_set (t:=0) _ _ _ _ HW1.out (Nat.le_refl _)
 clear k0 k1 k2 k3 z0 z1 z2 z3;obtain ⟨⟨k0,k1,k2,k3⟩,z0,z1,z2,z3⟩:=S4.four hk;have HK:=zh hk;have HF:=zh hf;clear hk hf hW
 go_region_with (first
  | (go_at_call 138;refine (both_any 65 90 97 122 _ (by omega) (by omega) (by omega) (by omega)).mono ?_;rintro e w2 ⟨rfl,hf2⟩;have HK2:=zh (HK.out.fr (Fr.trans ((Fr.refl [] W).drew) hf2) (by simp));have HF2:=zh (HF.out.trans (Fr.trans ((Fr.refl [] W).drew) hf2));obtain ⟨⟨j0,j1,j2,j3⟩,y0,y1,y2,y3⟩:=S4.four HK2.out;clear hf2)
  | (go_at_call 127;refine (or_any (S4.range 48 57) (S4.both 65 90 97 122) _ (S4.range_ok _ _) (S4.both_ok _ _ _ _)).mono ?_;rintro e w3 ⟨rfl,hf3⟩;have HK3:=zh (HK2.out.fr hf3 (by simp));have HF3:=zh (HF2.out.trans hf3);obtain ⟨⟨l0,l1,l2,l3⟩,x0,x1,x2,x3⟩:=S4.four HK3.out;clear hf3;unfold S4.val))
 all_goals go_wp2_with fail
 all_goals exact bodyPost_ret (v := .tuple #[(S4.or (S4.range 48 57) (S4.both 65 90 97 122)).val,.bool true]) (by simp [results,results132,go_sem,l0,l1,l2,l3,S4.val]) rfl ⟨rfl,four_set (t:=0) _ _ _ _ HF3.out (Nat.le_refl _)⟩
theorem class_punct (w:World):Calls prog 132 #[.string ⟨#[112,117,110,99,116]⟩] w fun e w'=>e = .returned (.tuple #[(S4.not (S4.or (S4.not (S4.range 33 126)) (S4.or (S4.range 48 57) (S4.both 65 90 97 122)))).val,.bool true])/\Fr [] w w':=by
 go_enter func132,ntmps132
 go_wp2_with fail
 refine (class_alnum _).mono ?_;rintro e w1 ⟨rfl,hf1⟩;have hk1:Bk w1 w.heap.size 86 S4.empty.cells:=(Bk.new w _ _).fr hf1 (by simp);have hw1:Fr [] w w1:=((Fr.refl [] w).alloc _).trans hf1;have hlt:=hk1.lt;obtain ⟨⟨k0,k1,k2,k3⟩,z0,z1,z2,z3⟩:=S4.four hk1;have HK1:=zh hk1;have HW1:=zh hw1;clear hk1 hw1 hf1
 generalize hR:S4.or (S4.range 48 57) (S4.both 65 90 97 122)=R at *
 have hRok:R.ok:=by rw [<-hR];exact S4.or_ok (S4.range_ok _ _) (S4.both_ok _ _ _ _)
 have HR:=zh hR;have HRO:=zh hRok;clear hR hRok;unfold S4.val;go_wp2_with fail
 refine code_gen fun W hW=>?_;have hka:Bk W w.heap.size 86 S4.empty.cells:=by rw [hW];exact HK1.out.alloc _
 have hkb:Bk W w1.heap.size 86 R.cells:=by rw [hW];exact Bk.new w1 _ _
 have hf:Fr [] w W:=by rw [hW];exact HW1.out.alloc _
 have hlt2:=hkb.lt;clear k0 k1 k2 k3 z0 z1 z2 z3;obtain ⟨⟨k0,k1,k2,k3⟩,-⟩:=S4.four hkb;have HKA:=zh hka;have HKB:=zh hkb;have HF:=zh hf;clear hka hkb hf hW
 go_region_with (first
  | (go_at_call 117;refine (range_any 33 126 _ (by omega) (by omega)).mono ?_;rintro e w2 ⟨rfl,hf2⟩;have HF2:=zh (Fr.trans ((Fr.refl [] W).drew) hf2);obtain ⟨⟨j0,j1,j2,j3⟩,-⟩:=S4.four (HKB.out.fr HF2.out (by simp));clear hf2)
  | (go_at_call 128; ((with_reducible refine (not_any (S4.range 33 126) _ (S4.range_ok _ _)).mono ?_);rintro e w3 ⟨rfl,hf3⟩;have HF3:=zh (HF2.out.trans hf3);obtain ⟨⟨l0,l1,l2,l3⟩,-⟩:=S4.four (HKB.out.fr HF3.out (by simp));clear hf3))
  | (go_at_call 127;refine (or_any (S4.not (S4.range 33 126)) R _ (S4.not_ok _) HRO.out).mono ?_;rintro e w4 ⟨rfl,hf4⟩;have HF4:=zh (HF3.out.trans hf4);clear hf4)
  | (go_at_call 128; ((with_reducible refine (not_any (S4.or (S4.not (S4.range 33 126)) R) _ (S4.or_ok (S4.not_ok _) HRO.out)).mono ?_);rintro e w5 ⟨rfl,hf5⟩;have HF5:=zh (HF4.out.trans hf5);obtain ⟨⟨m0,m1,m2,m3⟩,y0,y1,y2,y3⟩:=S4.four (HKA.out.fr HF5.out (by simp));clear hf5;unfold S4.val)))
 all_goals go_wp2_with fail
 all_goals exact bodyPost_ret (v := .tuple #[(S4.not (S4.or (S4.not (S4.range 33 126)) R)).val,.bool true]) (by simp [results,results132,go_sem,m0,m1,m2,m3,S4.val]) rfl ⟨by rw [<-HR.out],four_set (t:=0) _ _ _ _ (HF.out.trans HF5.out) (Nat.le_refl _)⟩
def classS (l:List UInt8):Option S4:=
 if l=[120,100,105,103,105,116] then some (S4.or (S4.range 48 57) (S4.both 65 70 97 102))
 else if l=[112,117,110,99,116] then some (S4.not (S4.or (S4.not (S4.range 33 126)) (S4.or (S4.range 48 57) (S4.both 65 90 97 122))))
 else if l=[97,108,110,117,109] then some (S4.or (S4.range 48 57) (S4.both 65 90 97 122))
 else if l=[97,108,112,104,97] then some (S4.or S4.empty (S4.both 65 90 97 122))
 else if l=[100,105,103,105,116] then some (S4.range 48 57)
 else if l=[117,112,112,101,114] then some (S4.range 65 90)
 else if l=[108,111,119,101,114] then some (S4.range 97 122)
 else if l=[115,112,97,99,101] then some (S4.both 9 13 32 32)
 else if l=[98,108,97,110,107] then some (S4.both 9 9 32 32)
 else if l=[112,114,105,110,116] then some (S4.range 32 126)
 else if l=[103,114,97,112,104] then some (S4.range 33 126)
 else if l=[99,110,116,114,108] then some (S4.both 0 31 127 127)
 else none
def classV (r:Option S4):Value:=match r with
 | some R => .tuple #[R.val,.bool true]
 | none => .tuple #[S4.empty.val,.bool false]
theorem class_any (l:List UInt8) (hl:l.length <= 1000000000) (w:World):Calls prog 132 #[.string ⟨l.toArray⟩] w fun e w'=>e = .returned (classV (classS l))/\Fr [] w w':=by
 unfold classS;by_cases h_xdigit:l=[120,100,105,103,105,116]
 ·rw [if_pos h_xdigit];subst h_xdigit;exact class_xdigit w
 rw [if_neg h_xdigit];by_cases h_punct:l=[112,117,110,99,116]
 ·rw [if_pos h_punct];subst h_punct;exact class_punct w
 rw [if_neg h_punct];by_cases h_alnum:l=[97,108,110,117,109]
 ·rw [if_pos h_alnum];subst h_alnum;exact class_alnum w
 rw [if_neg h_alnum];by_cases h_alpha:l=[97,108,112,104,97]
 ·rw [if_pos h_alpha];subst h_alpha;exact class_alpha w
 rw [if_neg h_alpha];by_cases h_digit:l=[100,105,103,105,116]
 ·rw [if_pos h_digit];subst h_digit;exact class_digit w
 rw [if_neg h_digit];by_cases h_upper:l=[117,112,112,101,114]
 ·rw [if_pos h_upper];subst h_upper;exact class_upper w
 rw [if_neg h_upper];by_cases h_lower:l=[108,111,119,101,114]
 ·rw [if_pos h_lower];subst h_lower;exact class_lower w
 rw [if_neg h_lower];by_cases h_space:l=[115,112,97,99,101]
 ·rw [if_pos h_space];subst h_space;exact class_space w
 rw [if_neg h_space];by_cases h_blank:l=[98,108,97,110,107]
 ·rw [if_pos h_blank];subst h_blank;exact class_blank w
 rw [if_neg h_blank];by_cases h_print:l=[112,114,105,110,116]
 ·rw [if_pos h_print];subst h_print;exact class_print w
 rw [if_neg h_print];by_cases h_graph:l=[103,114,97,112,104]
 ·rw [if_pos h_graph];subst h_graph;exact class_graph w
 rw [if_neg h_graph];by_cases h_cntrl:l=[99,110,116,114,108]
 ·rw [if_pos h_cntrl];subst h_cntrl;exact class_cntrl w
 rw [if_neg h_cntrl];unfold classV;have e_xdigit:(l == [120,100,105,103,105,116])=false:=by simpa using h_xdigit
 have e_punct:(l == [112,117,110,99,116])=false:=by simpa using h_punct
 have e_alnum:(l == [97,108,110,117,109])=false:=by simpa using h_alnum
 have e_alpha:(l == [97,108,112,104,97])=false:=by simpa using h_alpha
 have e_digit:(l == [100,105,103,105,116])=false:=by simpa using h_digit
 have e_upper:(l == [117,112,112,101,114])=false:=by simpa using h_upper
 have e_lower:(l == [108,111,119,101,114])=false:=by simpa using h_lower
 have e_space:(l == [115,112,97,99,101])=false:=by simpa using h_space
 have e_blank:(l == [98,108,97,110,107])=false:=by simpa using h_blank
 have e_print:(l == [112,114,105,110,116])=false:=by simpa using h_print
 have e_graph:(l == [103,114,97,112,104])=false:=by simpa using h_graph
 have e_cntrl:(l == [99,110,116,114,108])=false:=by simpa using h_cntrl
 clear h_xdigit h_punct h_alnum h_alpha h_digit h_upper h_lower h_space h_blank h_print h_graph h_cntrl;go_enter func132,ntmps132
 go_wp2_with fail
 exact bodyPost_ret (v := .tuple #[S4.empty.val,.bool false]) (by simp [results,results132,go_sem,S4.val,S4.empty]) rfl ⟨rfl,(Fr.refl _ _).alloc _⟩
end Go.Proofs.YtfofechcccodeaaGreatDoor
namespace Go.Proofs.YtfofechcccodeaaGreatDoor
open Go.RowKit Go.Proofs.Tryz
set_option linter.unusedVariables false
set_option linter.unusedSimpArgs false
set_option maxRecDepth 100000
set_option maxHeartbeats 4000000
def memberS (bs:List UInt8) (i:Nat):Except (Nat × Nat) (S4 × Nat):=
 if opensS bs i=true then
  if Lib.index (bs.drop (i+2)) [58,93] < 0 then .error (bs.length,7)
  else match classS ((bs.drop (i+2)).take (Lib.index (bs.drop (i+2)) [58,93]).toNat) with
   | none => .error (i,8)
   | some R => .ok (R,i+2+(Lib.index (bs.drop (i+2)) [58,93]).toNat+2)
 else match singleS bs i with
  | none => .error (bs.length,7)
  | some (f,nx)=>
   if bs.length <= nx+1 ∨ bn bs nx ≠ 45 ∨ bn bs (nx+1)=93 then .ok (S4.range f f,nx)
   else if opensS bs (nx+1)=true then .error (i,4)
   else match singleS bs (nx+1) with
    | none => .error (bs.length,7)
    | some (t,nx2)=>if t < f then .error (i,4) else .ok (S4.range f t,nx2)
def MemberPost (w:World) (r:Except (Nat × Nat) (S4 × Nat)) (e:Ending) (w':World):Prop:=match r with
 | .ok (R,n)=>e = .returned (.tuple #[R.val,.int .i64 (n:Int),.nilIface])/\Fr [] w w'
 | .error (p,c)=>∃ v,e = .returned (.tuple #[S4.empty.val,.int .i64 0,v])/\FaultV w' v p c/\Fr [] w w'
theorem MemberPost.err {w w':World} {e:Ending} {p c:Nat} {v:Value} (h1:e = .returned (.tuple #[S4.empty.val,.int .i64 0,v])) (h2:FaultV w' v p c) (h3:Fr [] w w'):MemberPost w (.error (p,c)) e w':=by
 unfold MemberPost;exact ⟨v,h1,h2,h3⟩
theorem MemberPost.ok_ {w w':World} {e:Ending} {R:S4} {n:Nat} (h1:e = .returned (.tuple #[R.val,.int .i64 (n:Int),.nilIface])) (h3:Fr [] w w'):MemberPost w (.ok (R,n)) e w':=by
 unfold MemberPost;exact ⟨h1,h3⟩
theorem classS_ok (l:List UInt8) (R:S4) (h:classS l=some R):R.ok:=by
 unfold classS at h;by_cases h_xdigit:l=[120,100,105,103,105,116]
 ·rw [if_pos h_xdigit] at h;injection h with h;subst h;first | exact S4.range_ok _ _ | exact S4.both_ok _ _ _ _ | exact S4.not_ok _ | exact S4.or_ok (S4.range_ok _ _) (S4.both_ok _ _ _ _) | exact S4.or_ok S4.empty_ok (S4.both_ok _ _ _ _)
 rw [if_neg h_xdigit] at h;by_cases h_punct:l=[112,117,110,99,116]
 ·rw [if_pos h_punct] at h;injection h with h;subst h;first | exact S4.range_ok _ _ | exact S4.both_ok _ _ _ _ | exact S4.not_ok _ | exact S4.or_ok (S4.range_ok _ _) (S4.both_ok _ _ _ _) | exact S4.or_ok S4.empty_ok (S4.both_ok _ _ _ _)
 rw [if_neg h_punct] at h;by_cases h_alnum:l=[97,108,110,117,109]
 ·rw [if_pos h_alnum] at h;injection h with h;subst h;first | exact S4.range_ok _ _ | exact S4.both_ok _ _ _ _ | exact S4.not_ok _ | exact S4.or_ok (S4.range_ok _ _) (S4.both_ok _ _ _ _) | exact S4.or_ok S4.empty_ok (S4.both_ok _ _ _ _)
 rw [if_neg h_alnum] at h;by_cases h_alpha:l=[97,108,112,104,97]
 ·rw [if_pos h_alpha] at h;injection h with h;subst h;first | exact S4.range_ok _ _ | exact S4.both_ok _ _ _ _ | exact S4.not_ok _ | exact S4.or_ok (S4.range_ok _ _) (S4.both_ok _ _ _ _) | exact S4.or_ok S4.empty_ok (S4.both_ok _ _ _ _)
 rw [if_neg h_alpha] at h;by_cases h_digit:l=[100,105,103,105,116]
 ·rw [if_pos h_digit] at h;injection h with h;subst h;first | exact S4.range_ok _ _ | exact S4.both_ok _ _ _ _ | exact S4.not_ok _ | exact S4.or_ok (S4.range_ok _ _) (S4.both_ok _ _ _ _) | exact S4.or_ok S4.empty_ok (S4.both_ok _ _ _ _)
 rw [if_neg h_digit] at h;by_cases h_upper:l=[117,112,112,101,114]
 ·rw [if_pos h_upper] at h;injection h with h;subst h;first | exact S4.range_ok _ _ | exact S4.both_ok _ _ _ _ | exact S4.not_ok _ | exact S4.or_ok (S4.range_ok _ _) (S4.both_ok _ _ _ _) | exact S4.or_ok S4.empty_ok (S4.both_ok _ _ _ _)
 rw [if_neg h_upper] at h;by_cases h_lower:l=[108,111,119,101,114]
 ·rw [if_pos h_lower] at h;injection h with h;subst h;first | exact S4.range_ok _ _ | exact S4.both_ok _ _ _ _ | exact S4.not_ok _ | exact S4.or_ok (S4.range_ok _ _) (S4.both_ok _ _ _ _) | exact S4.or_ok S4.empty_ok (S4.both_ok _ _ _ _)
 rw [if_neg h_lower] at h;by_cases h_space:l=[115,112,97,99,101]
 ·rw [if_pos h_space] at h;injection h with h;subst h;first | exact S4.range_ok _ _ | exact S4.both_ok _ _ _ _ | exact S4.not_ok _ | exact S4.or_ok (S4.range_ok _ _) (S4.both_ok _ _ _ _) | exact S4.or_ok S4.empty_ok (S4.both_ok _ _ _ _)
 rw [if_neg h_space] at h;by_cases h_blank:l=[98,108,97,110,107]
 ·rw [if_pos h_blank] at h;injection h with h;subst h;first | exact S4.range_ok _ _ | exact S4.both_ok _ _ _ _ | exact S4.not_ok _ | exact S4.or_ok (S4.range_ok _ _) (S4.both_ok _ _ _ _) | exact S4.or_ok S4.empty_ok (S4.both_ok _ _ _ _)
 rw [if_neg h_blank] at h;by_cases h_print:l=[112,114,105,110,116]
 ·rw [if_pos h_print] at h;injection h with h;subst h;first | exact S4.range_ok _ _ | exact S4.both_ok _ _ _ _ | exact S4.not_ok _ | exact S4.or_ok (S4.range_ok _ _) (S4.both_ok _ _ _ _) | exact S4.or_ok S4.empty_ok (S4.both_ok _ _ _ _)
 rw [if_neg h_print] at h;by_cases h_graph:l=[103,114,97,112,104]
 ·rw [if_pos h_graph] at h;injection h with h;subst h;first | exact S4.range_ok _ _ | exact S4.both_ok _ _ _ _ | exact S4.not_ok _ | exact S4.or_ok (S4.range_ok _ _) (S4.both_ok _ _ _ _) | exact S4.or_ok S4.empty_ok (S4.both_ok _ _ _ _)
 rw [if_neg h_graph] at h;by_cases h_cntrl:l=[99,110,116,114,108]
 ·rw [if_pos h_cntrl] at h;injection h with h;subst h;first | exact S4.range_ok _ _ | exact S4.both_ok _ _ _ _ | exact S4.not_ok _ | exact S4.or_ok (S4.range_ok _ _) (S4.both_ok _ _ _ _) | exact S4.or_ok S4.empty_ok (S4.both_ok _ _ _ _)
 rw [if_neg h_cntrl] at h
 cases h
theorem singleS_lt {bs:List UInt8} {i f n:Nat} (h:singleS bs i=some (f,n)):f < 256/\n <= i+2/\i < n/\n <= bs.length:=by
 unfold singleS at h;split at h
 ·cases h
 split at h
 ·injection h with h;injection h with h1 h2;subst h1 h2
  exact ⟨bn_lt _ _,by omega,by omega,by omega⟩
 split at h
 ·cases h
 injection h with h;injection h with h1 h2;subst h1 h2
 exact ⟨escN_lt (bn_lt _ _),by omega,by omega,by omega⟩
theorem index_bd (bs sub:List UInt8) : -1 <= Lib.index bs sub/\Lib.index bs sub <= bs.length:=by
 induction bs with
 | nil=>unfold Lib.index;split <;> simp
 | cons b l ih=>
  unfold Lib.index;split
  ·simp;omega
  split
  ·simp;omega
  simp at *; omega
theorem sep_at (w:World) (o:Obj):At ((w.alloc o).alloc (.cells #[.int .u8 58,.int .u8 93] 5)) (some ⟨w.heap.size+1,0,none⟩) (byteVals [58,93]):=by
 have h:=Bk.new (w.alloc o) 5 #[.int .u8 58,.int .u8 93];have e:(w.alloc o).heap.size=w.heap.size+1:=by simp only [World.size_alloc]
 rw [e] at h;exact At.of_bk (n:=2) h (by simp [byteVals])
theorem FaultV.four {w:World} {v:Value} {p c:Int} {g:Nat} {cs:Array Value} (h:FaultV w v p c) (hk:Bk w g 86 cs) (x0 x1 x2 x3:Value):FaultV ((((w.setCell ⟨g,0,none⟩ x0).setCell ⟨g,1,none⟩ x1).setCell ⟨g,2,none⟩ x2).setCell ⟨g,3,none⟩ x3) v p c:=by
 obtain ⟨f,h1,h2⟩:=h;have hne:f ≠ g:=h2.ne_ hk (by decide);exact ⟨f,h1,(((h2.far hne _).far hne _).far hne _).far hne _⟩
theorem ret_bk {w:World} {g:Nat} {t:TypeId} (h:Bk w g t S4.empty.cells) (R:S4) (o:Obj) :
    Bk (((((w.setCell ⟨g,0,none⟩ (.int .u64 (R.a:Int))).setCell ⟨g,1,none⟩ (.int .u64 (R.b:Int))).setCell ⟨g,2,none⟩ (.int .u64 (R.c:Int))).setCell ⟨g,3,none⟩ (.int .u64 (R.d:Int))).alloc o) g t R.cells:=
 ((((h.put 0 _).put 1 _).put 2 _).put 3 _).alloc o
theorem res_cells {w w1:World} {t:TypeId} (hf:Fr [] (w.alloc (.cells S4.empty.cells t)) w1):Bk w1 w.heap.size t S4.empty.cells:=(Bk.new w _ _).fr hf (by simp)
theorem member_class {w:World} {A:Option Addr} {bs:List UInt8} {c:Nat} (h:Bytes w A bs) (i:Nat) (hl:bs.length <= 1000000000) (hi:i <= bs.length) (hc:bs.length <= c) (hA:A=none->c=0) (hcm:c <= maxLen) (hg:GlobOk w) (ho:opensS bs i=true) :
    Calls prog 126 #[.slice A bs.length c,.int .i64 (i:Int)] w (MemberPost w (memberS bs i)):=by
 have hi2:i+2 <= bs.length:=by unfold opensS at ho;simp at ho;omega
 obtain ⟨hb1,hb2⟩:=index_bd (bs.drop (i+2)) [58,93];have hdl:(bs.drop (i+2)).length=bs.length - (i+2):=by simp
 obtain ⟨i0,hi0,hz1⟩:∃ i0,prog.info? 5=some i0/\i0.size=1:=by
  obtain ⟨i0,h1,_,h2,_⟩:∃ i,prog.info? 5=some i/\i.zero=some (.int .u8 0)/\i.size=1/\i.bytes=1:=info_parts (by kernel_rfl);exact ⟨i0,h1,h2⟩
 have hcut:∀ W X,At W X (((byteVals bs).drop (i+2)).take (bs.length - (i+2)))->Bytes W X (bs.drop (i+2)):=fun W X hX=>by
  have e:((byteVals bs).drop (i+2)).take (bs.length - (i+2))=byteVals (bs.drop (i+2)):=by
   rw [List.take_of_length_le (by rw [List.length_drop,byteVals_length];omega),byteVals,byteVals,List.map_drop]
  rwa [e] at hX
 unfold maxLen at hcm
 have hs0:memberS bs i=if Lib.index (bs.drop (i+2)) [58,93] < 0 then .error (bs.length,7) else match classS ((bs.drop (i+2)).take (Lib.index (bs.drop (i+2)) [58,93]).toNat) with
     | none => .error (i,8)
     | some R => .ok (R,i+2+(Lib.index (bs.drop (i+2)) [58,93]).toNat+2):=by unfold memberS;rw [if_pos ho]
 generalize hr:memberS bs i=r at *
 have HC:=zh hcut;have HO:=zh ho;have HS:=zh hs0;have HD:=zh hdl;clear hcut ho hs0 hdl;have HB:=zh h;clear h
 generalize hix:Lib.index (bs.drop (i+2)) [58,93]=ix at *
 have HIX:=zh hix;clear hix;go_enter func126,ntmps126
 go_wp2_with fail
 refine (opens_any (At.alloc HB.out _) i hl (by omega)).mono ?_;rintro e w1 ⟨rfl,rfl⟩;rw [HO.out];have hF0:Fr [] w (w.alloc (.cells S4.empty.cells 86)):=(Fr.refl [] w).alloc _;have HF0:=zh hF0;clear hF0
 go_wp2_with (first
  | (refine wpList_cut rfl 64 (.tmp 16) (some (.tmp 18)) none none rfl 5 i0 underlying64 hi0 hz1 A bs.length c rfl (byteVals bs) (At.fr_nil HB.out HF0.out) (byteVals_length _) hc hA (i+2) bs.length c (.inr (by first | rfl | simp [Act.eval])) (.inl ⟨rfl,rfl,rfl⟩) (.inl ⟨rfl,rfl⟩) (by omega) (by omega) (by omega) (by omega) ?_;intro X hX hX0 hX1;have HX:=zh (HC.out _ X hX);clear hX hX0 hX1)
  | (refine wpList_same rfl 64 (.tmp 20) rfl 5 underlying64 underlying5 ⟨w.heap.size+1,0,none⟩ 2 2 (by first | rfl | simp [Act.eval]) (byteVals [58,93]) (sep_at w _) ?_;intro w2 hS hF2;have HS2:=zh hS;have HF2:=zh (((Fr.refl [] (w.alloc (.cells S4.empty.cells 86))).alloc _).trans' hF2 (by simp));clear hS hF2))
 go_at_call 131
 refine (index_any (At.fr_nil HX.out HF2.out) HS2.out (by simp) (by simp) (by rw [HD.out];omega) (by rw [HD.out];omega) (hg.fr (HF0.out.trans HF2.out)) _ _ HD.out rfl).mono ?_;rintro e w3 ⟨rfl,hf3⟩;rw [HIX.out];have HF3:=zh (HF2.out.trans hf3);clear hf3;by_cases hneg:ix < 0
 ·go_wp2_with (go_at_call 125;refine (fault_any _ _ _).mono ?_;rintro e w4 ⟨v4,rfl,hv4,hf4⟩;have HV4:=zh hv4;have HF4:=zh (HF3.out.trans hf4);clear hv4 hf4;obtain ⟨⟨k0,k1,k2,k3⟩,z0,z1,z2,z3⟩:=S4.four (res_cells HF4.out);have hlt:=(res_cells HF4.out).lt)
  refine bodyPost_ret (v := .tuple #[S4.empty.val,.int .i64 0,v4]) (by simp [results,results126,go_sem,k0,k1,k2,k3,S4.val,S4.empty]) rfl ?_;obtain rfl:r = .error (bs.length,7):=by rw [HS.out,if_pos hneg]
  exact MemberPost.err rfl (HV4.out.four (res_cells HF4.out) _ _ _ _) (four_set (t:=0) _ _ _ _ (HF0.out.trans HF4.out) (Nat.le_refl _))
 obtain ⟨k,rfl⟩:=Int.eq_ofNat_of_zero_le (by omega:0 <= ix);have hk2:i+2+k <= bs.length:=by rw [HD.out] at hb2;omega
 generalize hl2:(bs.drop (i+2)).take k=l at *
 have hll:l.length=k:=by rw [<-hl2,List.length_take,HD.out];omega
 have hcut2:∀ W X,At W X (((byteVals bs).drop (i+2)).take (i+2+k - (i+2)))->At W X (byteVals l):=fun W X hX=>by
  have e:((byteVals bs).drop (i+2)).take (i+2+k - (i+2))=byteVals l:=by
   rw [<-hl2,byteVals,byteVals,List.map_take,List.map_drop]
   congr 1;omega
  rwa [e] at hX
 have HC2:=zh hcut2;clear hcut2;have HL2:=zh hl2;clear hl2
 cases hcl:classS l with
 | none=>
  have HCL:=zh hcl
  go_wp2_with (first
   | (refine wpList_cut rfl 64 (.tmp 30) (some (.tmp 32)) (some (.tmp 36)) none rfl 5 i0 underlying64 hi0 hz1 A bs.length c rfl (byteVals bs) (At.fr_nil HB.out (HF0.out.trans HF3.out)) (byteVals_length _) hc hA (i+2) (i+2+k) c (.inr (by first | rfl | simp [Act.eval])) (.inr (by first | rfl | simp [Act.eval])) (.inl ⟨rfl,rfl⟩) (by omega) (by omega) (by omega) (by omega) ?_;intro X2 hX hX0 hX1;have HX2:=zh (HC2.out _ X2 hX);clear hX hX0 hX1)
   | (refine wpList_str rfl 64 9 (.tmp 37) rfl 5 underlying64 underlying5 underlying9 X2 (i+2+k - (i+2)) (c - (i+2)) (by first | rfl | simp [Act.eval]) l HX2.out (by omega) ?_)
   | (go_at_call 132;refine (class_any l (by omega) _).mono ?_;rintro e w4 ⟨rfl,hf4⟩;rw [HCL.out];unfold classV S4.val S4.empty;have HF4:=zh (HF3.out.trans hf4);clear hf4)
   | (go_at_call 125;refine (fault_any _ _ _).mono ?_;rintro e w5 ⟨v5,rfl,hv5,hf5⟩;have HV5:=zh hv5;have HF5:=zh (HF4.out.trans (((Fr.refl [] w4).alloc _).trans hf5));clear hv5 hf5;obtain ⟨⟨k0,k1,k2,k3⟩,z0,z1,z2,z3⟩:=S4.four (res_cells HF5.out);have hlt:=(res_cells HF5.out).lt))
  refine bodyPost_ret (v := .tuple #[S4.empty.val,.int .i64 0,v5]) (by simp [results,results126,go_sem,k0,k1,k2,k3,S4.val,S4.empty]) rfl ?_;obtain rfl:r = .error (i,8):=by rw [HS.out,if_neg (by omega),Int.toNat_natCast,HL2.out,hcl]
  exact MemberPost.err rfl (HV5.out.four (res_cells HF5.out) _ _ _ _) (four_set (t:=0) _ _ _ _ (HF0.out.trans HF5.out) (Nat.le_refl _))
 | some R=>
  have HCL:=zh hcl
  go_wp2_with (first
   | (refine wpList_cut rfl 64 (.tmp 30) (some (.tmp 32)) (some (.tmp 36)) none rfl 5 i0 underlying64 hi0 hz1 A bs.length c rfl (byteVals bs) (At.fr_nil HB.out (HF0.out.trans HF3.out)) (byteVals_length _) hc hA (i+2) (i+2+k) c (.inr (by first | rfl | simp [Act.eval])) (.inr (by first | rfl | simp [Act.eval])) (.inl ⟨rfl,rfl⟩) (by omega) (by omega) (by omega) (by omega) ?_;intro X2 hX hX0 hX1;have HX2:=zh (HC2.out _ X2 hX);clear hX hX0 hX1)
   | (refine wpList_str rfl 64 9 (.tmp 37) rfl 5 underlying64 underlying5 underlying9 X2 (i+2+k - (i+2)) (c - (i+2)) (by first | rfl | simp [Act.eval]) l HX2.out (by omega) ?_)
   | (go_at_call 132;refine (class_any l (by omega) _).mono ?_;rintro e w4 ⟨rfl,hf4⟩;rw [HCL.out];unfold classV S4.val;have HF4:=zh (HF3.out.trans hf4);clear hf4;obtain ⟨⟨k0,k1,k2,k3⟩,z0,z1,z2,z3⟩:=S4.four (res_cells HF4.out);have hlt:=(res_cells HF4.out).lt))
  obtain ⟨⟨j0,j1,j2,j3⟩,_⟩:=S4.four (ret_bk (res_cells HF4.out) R (.cells #[.int .u64 (R.a:Int),.int .u64 (R.b:Int),.int .u64 (R.c:Int),.int .u64 (R.d:Int)] 86));refine bodyPost_ret (v := .tuple #[R.val,.int .i64 ((i+2+k+2:Nat):Int),.nilIface]) (by simp [results,results126,go_sem,j0,j1,j2,j3,S4.val]) rfl ?_;obtain rfl:r = .ok (R,i+2+k+2):=by rw [HS.out,if_neg (by omega),Int.toNat_natCast,HL2.out,hcl]
  exact MemberPost.ok_ rfl ((four_set (t:=0) _ _ _ _ (HF0.out.trans HF4.out) (Nat.le_refl _)).alloc _)
end Go.Proofs.YtfofechcccodeaaGreatDoor
