/-
 RfA, RfR, RfT: several small texts in one. No conditions.
-/
import Derived.Test.YteofhjegaaoglaaGreatGn
import Derived.Test.YteofhjegaaoglaaGreatGp
import Derived.Test.YteofhjegaaoglaaGreatErR
namespace Go.Proofs.YteofhjegaaoglaaGreat
open Go.RowKit
set_option linter.unusedVariables false
set_option linter.unusedSimpArgs false
theorem partC_put (k : Int) (s s' : S4) (mn mx : Int) (X : Value) {c : Nat} (hc : c < 256) (h : ∀ x, x < 256 → s'.mem x = (s.mem x || decide (x = c))) : (partC k s mn mx X).toArray.setIfInBounds (1 + c) (.bool true) = (partC k s' mn mx X).toArray := by
 have e : (bitsV s).set c (.bool true) = bitsV s' := by
  rw [← bitsF_mem, ← bitsF_mem, bitsF_set _ hc]; refine bitsF_ext fun x hx => ?_; rw [h x hx]; by_cases hx2 : x = c <;> simp [hx2]
 have e2 : (partC k s mn mx X).set (1 + c) (.bool true) = partC k s' mn mx X := by
  unfold partC; rw [Nat.add_comm 1 c, List.set_cons_succ, List.set_append_left _ _ (by rw [bitsV_len]; exact hc), e]
 rw [← e2]; simp
set_option maxRecDepth 100000 in
set_option maxHeartbeats 4000000 in
theorem single_any_ (c : Nat) (hc : c < 256) (w : World) : Calls Tryz.prog 67 #[.int .u8 (c : Int)] w fun e w' => e = .returned (.agg (partC 1 (S4.range c c) 0 0 (.slice none 0 0)).toArray) ∧ Fr [] w w' := by
 obtain ⟨rb, hrb⟩ : ∃ rb, rb = w.heap.size := ⟨_, rfl⟩; have HRB := zh hrb; go_enter Tryz.func67, Tryz.ntmps67
 go_upto_region 1 with (refine wpList_alloc_bk rfl 33 rfl zeroPC 260 rp_zero ?_; intro wA0 hzA hfA; have HFA0 := zh hfA; have HZA0 : Hid (Bk wA0 rb 33 zeroPC.toArray) := zh (by rw [HRB.out]; exact hzA); clear hzA hfA)
 rw [← hrb]; clear hrb
 go_upto_region 2 with (first
  | (refine wpList_build1 rfl 33 0 _ rfl (.int .i64 1) rfl (partC 1 S4.empty 0 0 (.slice none 0 0)) (built_k _) ?_)
  | (refine wpList_alloc_bk rfl 33 rfl zeroPC 260 rp_zero ?_; intro wA1 hzA hfA; have HZA1 := zh hzA; have HFA1 := zh hfA; have HZ1 := zh (HZA0.out.fr hfA (by simp)); clear hzA hfA)
  | (refine wpList_store_bk rfl 33 _ _ rfl wA0.heap.size (partC 1 S4.empty 0 0 (.slice none 0 0)) rfl rfl _ _ HZA1.out (by rw [partC_len]; exact rp_size) (by rw [partC_len, List.size_toArray, zeroPC_len]) (partC_one _ _ _ _ (by rfl)) ?_; intro wS hzS hfS; have HZS := zh hzS; have HFS := zh hfS; have HZ2 := zh (HZ1.out.fr hfS (by simp; have := HZA0.out.lt; omega)); clear hzS hfS))
 obtain ⟨g, hg⟩ : ∃ g, g = wA0.heap.size := ⟨_, rfl⟩; rw [← hg]; have HGB : Hid (Bk wS g 33 (partC 1 S4.empty 0 0 (.slice none 0 0)).toArray) := zh (by rw [hg]; exact HZS.out); have HFW : Hid (Fr [] w wS) := zh ((HFA0.out.trans HFA1.out).trans' HFS.out (by simp; have := HFA0.out.size; omega)); have hgw : w.heap.size ≤ g := by rw [hg]; exact HFA0.out.size
 have hrg : rb < g := by rw [hg]; exact HZA0.out.lt
 have hcell := HGB.out.cellL (partC_set 1 S4.empty 0 0 (.slice none 0 0) hc); have hfz := HGB.out.frozen (1 + c); clear hg; go_upto_region 3 with fail
 refine code_gen1 fun W hW => ?_
 have HB9 : Hid (Bk W g 33 (partC 1 (S4.range c c) 0 0 (.slice none 0 0)).toArray) := zh (by
  have := HGB.out.put (1 + c) (.bool true); rw [partC_put 1 S4.empty (S4.range c c) 0 0 _ hc (fun x hx => by rw [S4.mem_empty, S4.mem_range c c x hc hc hx, Bool.false_or, Bool.eq_iff_iff]; simp; omega)] at this
  rw [hW]; exact this)
 have HZ9 : Hid (Bk W rb 33 zeroPC.toArray) := zh (by rw [hW]; exact HZ2.out.far (by intro e; simp at e; omega) _); have HF9 : Hid (Fr [] w W) := zh (by rw [hW]; exact HFW.out.setCell (.inr hgw) _); clear hW hcell hfz
 go_wp2_with (first
  | (refine wpList_load_bk rfl 33 _ rfl g 0 rfl (partC 1 (S4.range c c) 0 0 (.slice none 0 0)) _ _ _ HB9.out (by intro j u hj; rw [Nat.zero_add, List.getElem?_toArray]; exact hj) Tryz.underlying33 rfl (by rw [partC_len]; exact rp_size) ?_)
  | (refine wpList_store_bk rfl 33 _ _ rfl rb (partC 1 (S4.range c c) 0 0 (.slice none 0 0)) rfl rfl _ _ HZ9.out (by rw [partC_len]; exact rp_size) (by rw [partC_len, List.size_toArray, zeroPC_len]) (partC_one _ _ _ _ (by rfl)) ?_; intro wT hzS hfS; have HZT := zh hzS; have HFT := zh hfS; clear hzS hfS))
 refine ret_row_ (p := 2) (T := 33) rfl rb _ _ rfl HZT.out Tryz.underlying33 rfl (by rw [partC_len]; exact rp_size) rfl ?_; exact ⟨rfl, HF9.out.trans' HFT.out (by simp; have := HRB.out; omega)⟩
set_option maxRecDepth 100000 in
set_option maxHeartbeats 16000000 in
theorem ratom_of (f : Nat) (hE : RExprOk f) : RAtomOk (f + 1) := by
 intro w bs i d hl hi hd hf; obtain ⟨S, hS⟩ : ∃ S, S = (⟨bs.toArray⟩ : ByteArray) := ⟨_, rfl⟩; obtain ⟨L, hL⟩ : ∃ L, L = bs.length := ⟨_, rfl⟩; have hs1 : S.size = L := by rw [hS, hL]; simp [ByteArray.size]
 have HIX : Hid (∀ j : Nat, j < L → ∀ W, (Instr.index 9 (.string S) (.int .i64 (j : Int))).run Tryz.prog W = .ok (.int .u8 (bn bs j : Int)) W) := zh (fun j hj W => by rw [hS]; exact str_at bs j (by omega) W); have HSD : Hid (S = (⟨bs.toArray⟩ : ByteArray)) := zh hS; have HL : Hid (L = bs.length) := zh hL; obtain ⟨R, hR⟩ : ∃ R, R = atomF bs (f + 1) d i := ⟨_, rfl⟩; obtain ⟨rb, hrb⟩ : ∃ rb, rb = w.heap.size := ⟨_, rfl⟩; have HRB := zh hrb; have HR := zh hR; rw [← hS, ← hR]; rw [← hL] at hl hi hf; clear hS hR hL
 have hEx : ∀ W : World, d < 64 → Calls Tryz.prog 17 #[.string S, .int .i64 ((i : Int) + 1), .int .i64 ((d : Int) + 1)] W (RPost W (exprF bs f (d + 1) (i + 1) [])) := fun W h => by
  have := hE W bs (i + 1) (d + 1) (by have := HL.out; omega) (by have := HL.out; omega) (by omega) (by have := HL.out; omega); rw [HSD.out, show (i : Int) + 1 = ((i + 1 : Nat) : Int) by omega, show (d : Int) + 1 = ((d + 1 : Nat) : Int) by omega]; exact this
 have HEX := zh hEx; have HBRK : Hid (bn bs i = 91 → ∀ W : World, Calls Tryz.prog 66 #[.string S, .int .i64 (i : Int)] W (BPost W (bracketS bs i))) := zh (fun h W => by rw [HSD.out]; exact rbracket_any bs i (by have := HL.out; omega) (by have := HL.out; omega) h W); have ix := HIX.out i hi; have hRR := HR.out; rw [atomF] at hRR; have HRX := zh hRR; have hxl := bn_lt bs i; obtain ⟨x, hx⟩ : ∃ x, x = bn bs i := ⟨_, rfl⟩; have HX := zh hx; rw [← hx] at ix hxl; have HPL : Hid (x ≠ 40 → R = plainS bs i) := zh (fun h => by rw [HRX.out, if_neg (by rw [← HX.out]; exact h)]); clear hE hEx HR hRR hx; go_enter Tryz.func53, Tryz.ntmps53
 go_upto_region 1 with (first
  | (refine wpList_alloc_bk rfl 35 rfl (gotC zeroPC 0 0 0) 263 rg_zero ?_; intro wA0 hzA hfA; have HFA0 := zh hfA; have HZA0 : Hid (Bk wA0 rb 35 (gotC zeroPC 0 0 0).toArray) := zh (by rw [HRB.out]; exact hzA); clear hzA hfA))
 rw [← hrb]; clear hrb; by_cases h40 : x = 40
 ·subst h40; by_cases hd64 : d = 64
  ·subst hd64; have HR2 : Hid (R = .error (i, 6)) := zh (by rw [HRX.out, if_pos HX.out.symm, if_pos rfl])
   go_wp2_with (first
    | (refine wpList_build2 rfl 35 2 3 _ _ rfl (.int .i64 6) (.int .i64 (i : Int)) rfl rfl (gotC zeroPC 0 6 (i : Int)) (built_eq_ _ _) ?_)
    | (refine wpList_store_bk rfl 35 _ _ rfl rb (gotC zeroPC 0 6 (i : Int)) rfl rfl _ _ HZA0.out (by rw [gotC_len zeroPC_len]; exact rg_size) (by rw [gotC_len zeroPC_len, List.size_toArray, gotC_len zeroPC_len]) (gotC_one zeroPC_one _ _ _) ?_; intro wS9 hzS hfS; have HZS9 := zh hzS; have HFS9 := zh hfS; clear hzS hfS))
   refine ret_row_ (p := 6) (T := 35) rfl rb _ _ rfl HZS9.out Tryz.underlying35 rfl (by rw [gotC_len zeroPC_len]; exact rg_size) rfl ?_; exact RPost.err (i := i) (c := 6) HR2.out (by first | (simp; done) | rfl) (HFA0.out.trans' HFS9.out (by simp; have := HRB.out; omega))
  ·have hdlt : d < 64 := by omega
   have hdI : ((d : Int) == 64) = false := by simp; omega
   have hcall := fun W => HEX.out W hdlt; have hRR := HRX.out; rw [if_pos HX.out.symm, if_neg hd64] at hRR; have hle := (readF_le bs f).1 (d + 1) (i + 1) []; rcases hY : exprF bs f (d + 1) (i + 1) [] with ⟨q, code⟩ | ⟨t, j⟩
   ·have hc0 : 0 < code := (read_code bs f).1 _ _ _ _ _ hY; rw [hY] at hcall hRR; have HR2 : Hid (R = .error (q, code)) := zh hRR; have HCL : Hid (∀ W, Calls Tryz.prog 17 #[.string S, .int .i64 ((i : Int) + 1), .int .i64 ((d : Int) + 1)] W fun e w' => e = .returned (.agg (gotC zeroPC 0 (code : Int) (q : Int)).toArray) ∧ Fr [] W w') := zh hcall; have hcI : ((code : Int) != 0) = true := by simp; omega
    clear hcall hRR hY hle HRX HPL HBRK HEX
    go_upto_region 6 with (first
     | (go_at_call 17; refine (HCL.out _).mono ?_; rintro e w2 ⟨rfl, hf2⟩; have HF2 := zh (HFA0.out.trans hf2); have HZ2 := zh (HZA0.out.fr hf2 (by simp)); clear hf2)
     | (refine wpList_alloc_bk rfl 35 rfl (gotC zeroPC 0 0 0) 263 rg_zero ?_; intro wA1 hzA hfA; have HZA1 := zh hzA; have HF3 := zh (HF2.out.trans hfA); have HZ3 := zh (HZ2.out.fr hfA (by simp)); clear hzA hfA)
     | (refine wpList_store_bk rfl 35 _ _ rfl w2.heap.size (gotC zeroPC 0 (code : Int) (q : Int)) rfl rfl _ _ HZA1.out (by rw [gotC_len zeroPC_len]; exact rg_size) (by rw [gotC_len zeroPC_len, List.size_toArray, gotC_len zeroPC_len]) (gotC_one zeroPC_one _ _ _) ?_; intro wS1 hzS hfS; have HZS1 := zh hzS; have HF4 : Hid (Fr [] w wS1) := zh (HF3.out.trans' hfS (by simp; have := HF2.out.size; omega)); have HFS1 := zh hfS; have HZ4 := zh (HZ3.out.fr hfS (by simp; have := HZ2.out.lt; omega)); have c261 := hzS.cellL (gotC_e zeroPC_len _ _ _); have c260 := hzS.cellL (gotC_n zeroPC_len _ _ _); clear hzS hfS))
    go_wp2_with (first
     | (refine wpList_load_bk rfl 35 _ rfl w2.heap.size 0 rfl (gotC zeroPC 0 (code : Int) (q : Int)) _ _ _ HZS1.out (by intro j u hj; simpa using hj) Tryz.underlying35 rfl (by rw [gotC_len zeroPC_len]; exact rg_size) ?_)
     | (refine wpList_store_bk rfl 35 _ _ rfl rb (gotC zeroPC 0 (code : Int) (q : Int)) rfl rfl _ _ HZ4.out (by rw [gotC_len zeroPC_len]; exact rg_size) (by rw [gotC_len zeroPC_len, List.size_toArray, gotC_len zeroPC_len]) (gotC_one zeroPC_one _ _ _) ?_; intro wS9 hzS hfS; have HZS9 := zh hzS; have HFS9 := zh hfS; clear hzS hfS))
    refine ret_row_ (p := 6) (T := 35) rfl rb _ _ rfl HZS9.out Tryz.underlying35 rfl (by rw [gotC_len zeroPC_len]; exact rg_size) rfl ?_; exact RPost.err HR2.out rfl (HF4.out.trans' HFS9.out (by simp; have := HRB.out; omega))
   ·have hjb := hle t j (by have := HL.out; omega) hY; have hend := (read_end bs f).1 _ _ _ _ _ hY; rw [hY] at hcall hRR; have HRC : Hid (R = closeT bs (.ok (t, j))) := zh hRR; have HCL : Hid (∀ W, Calls Tryz.prog 17 #[.string S, .int .i64 ((i : Int) + 1), .int .i64 ((d : Int) + 1)] W (RPost W (.ok (t, j)))) := zh hcall; clear hcall hRR hY hle HRX HPL HBRK HEX
    go_upto_region 8 with (first
     | (go_at_call 17; refine (HCL.out _).mono ?_; rintro e w2 ⟨p, rfl, hn, hf2⟩; have HN2 := zh hn; have HF2 := zh (HFA0.out.trans hf2); have HZ2 := zh (HZA0.out.fr hf2 (by simp)); clear hf2 hn)
     | (refine wpList_alloc_bk rfl 35 rfl (gotC zeroPC 0 0 0) 263 rg_zero ?_; intro wA1 hzA hfA; have HZA1 := zh hzA; have HF3 := zh (HF2.out.trans hfA); have HZ3 := zh (HZ2.out.fr hfA (by simp)); have HN3 := zh (HN2.out.fr_nil hfA); clear hzA hfA)
     | (refine wpList_store_bk rfl 35 _ _ rfl w2.heap.size (gotC p.rcells (j : Int) 0 0) rfl rfl _ _ HZA1.out (by rw [gotC_len (rcells_len p)]; exact rg_size) (by rw [gotC_len (rcells_len p), List.size_toArray, gotC_len zeroPC_len]) (gotC_one (rcells_one p) _ _ _) ?_; intro wS1 hzS hfS; have HZS1 := zh hzS; have HF4 : Hid (Fr [] w wS1) := zh (HF3.out.trans' hfS (by simp; have := HF2.out.size; omega)); have HFS1 := zh hfS; have HZ4 := zh (HZ3.out.fr hfS (by simp; have := HZ2.out.lt; omega)); have c261 := hzS.cellL (gotC_e (rcells_len p) _ _ _); have c260 := hzS.cellL (gotC_n (rcells_len p) _ _ _); clear hzS hfS))
    have HN4 : Hid (NewR w2.heap.size wS1 t p ∨ True) := zh (.inr trivial); have HN5 : Hid (NewR w.heap.size wS1 t p) := zh ((HN3.out.fr HFS1.out (by simp; right; intro hm; have := (HN2.out.new _ hm).2; omega)).lower HFA0.out.size); by_cases hjL : L ≤ j
    ·have hjI : (L : Int) ≤ (j : Int) := by omega
     have HR2 : Hid (R = .error (bs.length, 7)) := zh (by rw [HRC.out]; unfold closeT; simp only []; rw [if_neg (by rw [bn_ge (by have := HL.out; omega)]; omega)])
     go_wp2_with (first
      | (refine wpList_build2 rfl 35 2 3 _ _ rfl (.int .i64 7) (.int .i64 (L : Int)) rfl rfl (gotC zeroPC 0 7 (L : Int)) (built_eq_ _ _) ?_)
      | (refine wpList_store_bk rfl 35 _ _ rfl rb (gotC zeroPC 0 7 (L : Int)) rfl rfl _ _ HZ4.out (by rw [gotC_len zeroPC_len]; exact rg_size) (by rw [gotC_len zeroPC_len, List.size_toArray, gotC_len zeroPC_len]) (gotC_one zeroPC_one _ _ _) ?_; intro wS9 hzS hfS; have HZS9 := zh hzS; have HFS9 := zh hfS; clear hzS hfS))
     refine ret_row_ (p := 6) (T := 35) rfl rb _ _ rfl HZS9.out Tryz.underlying35 rfl (by rw [gotC_len zeroPC_len]; exact rg_size) rfl ?_; exact RPost.err (i := bs.length) (c := 7) HR2.out (by rw [← HL.out]; first | (simp; done) | rfl) (HF4.out.trans' HFS9.out (by simp; have := HRB.out; omega))
    ·have hjI : ¬ ((L : Int) ≤ (j : Int)) := by omega
     have HR2 : Hid (R = .ok (t, j + 1)) := zh (by rw [HRC.out]; unfold closeT; simp only []; rw [if_pos (by have := HL.out; rcases hend with h | h <;> omega)])
     go_wp2_with (first
      | (refine wpList_load_bk rfl 33 _ rfl w2.heap.size 0 rfl (p.rcells) _ _ _ HZS1.out (by intro j u hj; rw [Nat.zero_add, List.getElem?_toArray]; exact gotC_p _ _ _ hj) Tryz.underlying33 rfl (by rw [rcells_len]; exact rp_size) ?_)
      | (refine wpList_build2 rfl 35 0 1 _ _ rfl (.agg p.rcells.toArray) (.int .i64 ((j : Int) + 1)) rfl rfl (gotC p.rcells ((j : Int) + 1) 0 0) (built_pn (rcells_len p) _) ?_)
      | (refine wpList_store_bk rfl 35 _ _ rfl rb (gotC p.rcells ((j : Int) + 1) 0 0) rfl rfl _ _ HZ4.out (by rw [gotC_len (rcells_len p)]; exact rg_size) (by rw [gotC_len (rcells_len p), List.size_toArray, gotC_len zeroPC_len]) (gotC_one (rcells_one p) _ _ _) ?_; intro wS9 hzS hfS; have HZS9 := zh hzS; have HFS9 := zh hfS; clear hzS hfS))
     refine ret_row_ (p := 6) (T := 35) rfl rb _ _ rfl HZS9.out Tryz.underlying35 rfl (by rw [gotC_len (rcells_len p)]; exact rg_size) rfl ?_; exact RPost.ok_ HR2.out (by first | rfl | (simp; done)) (HN5.out.fr HFS9.out (by simp; right; intro hm; have h1 := (HN2.out.new _ hm).1; have := HZA0.out.lt; omega)) (HF4.out.trans' HFS9.out (by simp; have := HRB.out; omega))
 have t40 : ((x : Int) == 40) = false := by simp; omega
 have HP2 : Hid (R = plainS bs i) := zh (HPL.out h40); clear HEX HPL HRX h40; by_cases h91 : x = 91
 ·subst h91; have hcall := HBRK.out HX.out.symm
  have HP3 : Hid (R = setR (bracketS bs i) i) := zh (by
   rw [HP2.out]; unfold plainS; rw [← HX.out]; simp)
  rcases hY : bracketS bs i with ⟨q, code⟩ | ⟨Sx, n⟩
  ·have hc0 : 0 < code := bracket_code hY; have HR2 : Hid (R = .error (q, code)) := zh (by rw [HP3.out, hY]; rfl); rw [hY] at hcall; have HCL : Hid (∀ W : World, Calls Tryz.prog 66 #[.string S, .int .i64 (i : Int)] W fun e w' => e = .returned (.agg (brgC S4.empty 0 (code : Int) (q : Int)).toArray) ∧ Fr [] W w') := zh hcall; have hcI : ((code : Int) != 0) = true := by simp; omega
   clear hcall hY HP2 HP3 HBRK
   go_upto_region 13 with (first
    | (go_at_call 66; refine (HCL.out _).mono ?_; rintro e w2 ⟨rfl, hf2⟩; have HF2 := zh (HFA0.out.trans hf2); have HZ2 := zh (HZA0.out.fr hf2 (by simp)); clear hf2)
    | (refine wpList_alloc_bk rfl 155 rfl (brgC S4.empty 0 0 0) 259 rb_zero ?_; intro wA1 hzA hfA; have HZA1 := zh hzA; have HF3 := zh (HF2.out.trans hfA); have HZ3 := zh (HZ2.out.fr hfA (by simp)); clear hzA hfA)
    | (refine wpList_store_bk rfl 155 _ _ rfl w2.heap.size (brgC S4.empty 0 (code : Int) (q : Int)) rfl rfl _ _ HZA1.out (by rw [brgC_len]; exact rb_size) (by rw [brgC_len, List.size_toArray, brgC_len]) (brgC_one _ _ _ _) ?_; intro wS1 hzS hfS; have HZS1 := zh hzS; have HF4 : Hid (Fr [] w wS1) := zh (HF3.out.trans' hfS (by simp; have := HF2.out.size; omega)); have HZ4 := zh (HZ3.out.fr hfS (by simp; have := HZ2.out.lt; omega)); have c257 := hzS.cellL (brgC_e _ _ _ _); have c258 := hzS.cellL (brgC_at _ _ _ _); have c256 := hzS.cellL (brgC_n _ _ _ _); clear hzS hfS))
   go_wp2_with (first
    | (refine wpList_build2 rfl 35 2 3 _ _ rfl (.int .i64 (code : Int)) (.int .i64 (q : Int)) rfl rfl (gotC zeroPC 0 (code : Int) (q : Int)) (built_eq_ _ _) ?_)
    | (refine wpList_store_bk rfl 35 _ _ rfl rb (gotC zeroPC 0 (code : Int) (q : Int)) rfl rfl _ _ HZ4.out (by rw [gotC_len zeroPC_len]; exact rg_size) (by rw [gotC_len zeroPC_len, List.size_toArray, gotC_len zeroPC_len]) (gotC_one zeroPC_one _ _ _) ?_; intro wS9 hzS hfS; have HZS9 := zh hzS; have HFS9 := zh hfS; clear hzS hfS))
   refine ret_row_ (p := 6) (T := 35) rfl rb _ _ rfl HZS9.out Tryz.underlying35 rfl (by rw [gotC_len zeroPC_len]; exact rg_size) rfl ?_; exact RPost.err HR2.out rfl (HF4.out.trans' HFS9.out (by simp; have := HRB.out; omega))
  ·have HR2 : Hid (R = .ok (tSet Sx, i + n)) := zh (by rw [HP3.out, hY]; rfl); have hnl := bracketS_le (by have := HL.out; omega) hY; rw [hY] at hcall; have HCL : Hid (∀ W : World, Calls Tryz.prog 66 #[.string S, .int .i64 (i : Int)] W fun e w' => e = .returned (.agg (brgC Sx (n : Int) 0 0).toArray) ∧ Fr [] W w') := zh hcall; have hnL : i + n ≤ L := by have := HL.out; omega
   clear hcall hY HP2 HP3 HBRK hnl
   go_upto_region 13 with (first
    | (go_at_call 66; refine (HCL.out _).mono ?_; rintro e w2 ⟨rfl, hf2⟩; have HF2 := zh (HFA0.out.trans hf2); have HZ2 := zh (HZA0.out.fr hf2 (by simp)); clear hf2)
    | (refine wpList_alloc_bk rfl 155 rfl (brgC S4.empty 0 0 0) 259 rb_zero ?_; intro wA1 hzA hfA; have HZA1 := zh hzA; have HF3 := zh (HF2.out.trans hfA); have HZ3 := zh (HZ2.out.fr hfA (by simp)); clear hzA hfA)
    | (refine wpList_store_bk rfl 155 _ _ rfl w2.heap.size (brgC Sx (n : Int) 0 0) rfl rfl _ _ HZA1.out (by rw [brgC_len]; exact rb_size) (by rw [brgC_len, List.size_toArray, brgC_len]) (brgC_one _ _ _ _) ?_; intro wS1 hzS hfS; have HZS1 := zh hzS; have HF4 : Hid (Fr [] w wS1) := zh (HF3.out.trans' hfS (by simp; have := HF2.out.size; omega)); have HZ4 := zh (HZ3.out.fr hfS (by simp; have := HZ2.out.lt; omega)); have c257 := hzS.cellL (brgC_e _ _ _ _); have c258 := hzS.cellL (brgC_at _ _ _ _); have c256 := hzS.cellL (brgC_n _ _ _ _); clear hzS hfS))
   go_wp2_with (first
    | (refine wpList_load_bk rfl 30 _ rfl w2.heap.size 0 rfl (bitsV Sx) _ _ _ HZS1.out (by intro j u hj; rw [Nat.zero_add, List.getElem?_toArray]; exact brgC_s _ _ _ _ hj) Tryz.underlying30 rfl (by rw [bitsV_len]; exact rs_size) ?_)
    | (refine wpList_build2 rfl 33 0 1 _ _ rfl (.int .i64 1) (.agg (bitsV Sx).toArray) rfl rfl (partC 1 Sx 0 0 (.slice none 0 0)) (built_ks _ _) ?_)
    | (refine wpList_build2 rfl 35 0 1 _ _ rfl (.agg (partC 1 Sx 0 0 (.slice none 0 0)).toArray) (.int .i64 ((i : Int) + (n : Int))) rfl rfl (gotC (partC 1 Sx 0 0 (.slice none 0 0)) ((i : Int) + (n : Int)) 0 0) (built_pn (partC_len _ _ _ _ _) _) ?_)
    | (refine wpList_store_bk rfl 35 _ _ rfl rb (gotC (partC 1 Sx 0 0 (.slice none 0 0)) ((i : Int) + (n : Int)) 0 0) rfl rfl _ _ HZ4.out (by rw [gotC_len (partC_len _ _ _ _ _)]; exact rg_size) (by rw [gotC_len (partC_len _ _ _ _ _), List.size_toArray, gotC_len zeroPC_len]) (gotC_one (partC_one _ _ _ _ (by rfl)) _ _ _) ?_; intro wS9 hzS hfS; have HZS9 := zh hzS; have HFS9 := zh hfS; clear hzS hfS))
   refine ret_row_ (p := 6) (T := 35) rfl rb _ _ rfl HZS9.out Tryz.underlying35 rfl (by rw [gotC_len (partC_len _ _ _ _ _)]; exact rg_size) rfl ?_; exact RPost.ok_ (p := rleafP 1 Sx) HR2.out (by rw [rleafP_cells]; first | rfl | (simp; done)) (rleafP_new _ _ _ _) (HF4.out.trans' HFS9.out (by simp; have := HRB.out; omega))
 have t91 : ((x : Int) == 91) = false := by simp; omega
 clear HBRK; by_cases h46 : x = 46
 ·subst h46; have HR2 : Hid (R = .ok (tSet (S4.range 0 255), i + 1)) := zh (by rw [HP2.out]; unfold plainS; rw [← HX.out]; simp); clear HP2 t40 t91 h91
  go_upto_region 18 with (first
   | (refine wpList_build1 rfl 33 0 _ rfl (.int .i64 1) rfl (partC 1 S4.empty 0 0 (.slice none 0 0)) (built_k _) ?_)
   | (refine wpList_alloc_bk rfl 33 rfl zeroPC 260 rp_zero ?_; intro wA1 hzA hfA; have HZA1 := zh hzA; have HF3 := zh (HFA0.out.trans hfA); have HZ3 := zh (HZA0.out.fr hfA (by simp)); clear hzA hfA)
   | (refine wpList_store_bk rfl 33 _ _ rfl wA0.heap.size (partC 1 S4.empty 0 0 (.slice none 0 0)) rfl rfl _ _ HZA1.out (by rw [partC_len]; exact rp_size) (by rw [partC_len, List.size_toArray, zeroPC_len]) (partC_one _ _ _ _ (by rfl)) ?_; intro wS hzS hfS; have HZS := zh hzS; have HFS : Hid (Fr [] w wS) := zh (HF3.out.trans' hfS (by simp; have := HFA0.out.size; omega)); have HZ4 := zh (HZ3.out.fr hfS (by simp; have := HZA0.out.lt; omega)); clear hzS hfS))
  obtain ⟨g, hg⟩ : ∃ g, g = wA0.heap.size := ⟨_, rfl⟩; rw [← hg]; have HGB : Hid (Bk wS g 33 (partC 1 S4.empty 0 0 (.slice none 0 0)).toArray) := zh (by rw [hg]; exact HZS.out); have hrg : rb < g := by rw [hg]; exact HZA0.out.lt
  have HGW : Hid (w.heap.size ≤ g) := zh (by rw [hg]; exact HFA0.out.size); clear hg; go_wp2_with fail
  go_loopw [10] (fun v10 wr => ∃ c : Nat, v10 = .int .i64 (c : Int) ∧ c ≤ 256 ∧ Bk wr g 33 (partC 1 (S4.span 0 c) 0 0 (.slice none 0 0)).toArray ∧ Bk wr rb 35 (gotC zeroPC 0 0 0).toArray ∧ Fr [] w wr) (fun v10 _ => 257 - (intOf v10).toNat)
  case atStart => exact ⟨0, rfl, by omega, HGB.out, HZ4.out, HFS.out⟩
  case round =>
   obtain ⟨c, rfl, hc, h1, h2, h3⟩ := hrel; by_cases hlt : c < 256
   ·have hltI : (c : Int) < 256 := by omega
    have hcell := h1.cellL (partC_set 1 (S4.span 0 c) 0 0 (.slice none 0 0) hlt); have hfz := h1.frozen (1 + c)
    have hfin : ∀ W, W = wr.setCell ⟨g, 1 + c, none⟩ (.bool true) → Bk W g 33 (partC 1 (S4.span 0 (c + 1)) 0 0 (.slice none 0 0)).toArray ∧ Bk W rb 35 (gotC zeroPC 0 0 0).toArray ∧ Fr [] w W := fun W hW => by
     subst hW; refine ⟨?_, h2.far (by intro e; simp at e; omega) _, h3.setCell (.inr HGW.out) _⟩; have := h1.put (1 + c) (.bool true); rw [partC_put 1 (S4.span 0 c) (S4.span 0 (c + 1)) 0 0 _ hlt (fun x hx => by rw [S4.mem_span 0 (c + 1) x (by omega) hx, S4.mem_span 0 c x (by omega) hx, Bool.eq_iff_iff]; simp; omega)] at this; exact this
    have HFIN := zh hfin; clear hfin h1 h2 h3 HGB HZ4 HFS; go_wp2_with fail
    go_roundw
    case rel => exact ⟨c + 1, by go_num, by omega, HFIN.out _ (by first | rfl | simp)⟩
    case measure => first | (simp [intOf]; done) | (simp [intOf]; omega)
   ·obtain rfl : c = 256 := by omega
    have H1 : Hid (Bk wr g 33 (partC 1 (S4.range 0 255) 0 0 (.slice none 0 0)).toArray) := zh h1; have H2 := zh h2; have H3 := zh h3; clear h1 h2 h3 HGB HZ4 HFS
    go_wp2_with (first
     | (refine wpList_load_bk rfl 33 _ rfl g 0 rfl (partC 1 (S4.range 0 255) 0 0 (.slice none 0 0)) _ _ _ H1.out (by intro j u hj; rw [Nat.zero_add, List.getElem?_toArray]; exact hj) Tryz.underlying33 rfl (by rw [partC_len]; exact rp_size) ?_)
     | (refine wpList_build2 rfl 35 0 1 _ _ rfl (.agg (partC 1 (S4.range 0 255) 0 0 (.slice none 0 0)).toArray) (.int .i64 ((i : Int) + 1)) rfl rfl (gotC (partC 1 (S4.range 0 255) 0 0 (.slice none 0 0)) ((i : Int) + 1) 0 0) (built_pn (partC_len _ _ _ _ _) _) ?_)
     | (refine wpList_store_bk rfl 35 _ _ rfl rb (gotC (partC 1 (S4.range 0 255) 0 0 (.slice none 0 0)) ((i : Int) + 1) 0 0) rfl rfl _ _ H2.out (by rw [gotC_len (partC_len _ _ _ _ _)]; exact rg_size) (by rw [gotC_len (partC_len _ _ _ _ _), List.size_toArray, gotC_len zeroPC_len]) (gotC_one (partC_one _ _ _ _ (by rfl)) _ _ _) ?_; intro wS9 hzS hfS; have HZS9 := zh hzS; have HFS9 := zh hfS; clear hzS hfS))
    refine ret_row_ (p := 6) (T := 35) rfl rb _ _ rfl HZS9.out Tryz.underlying35 rfl (by rw [gotC_len (partC_len _ _ _ _ _)]; exact rg_size) rfl ?_; exact RPost.ok_ (p := rleafP 1 (S4.range 0 255)) HR2.out (by rw [rleafP_cells]; first | rfl | (simp; done)) (rleafP_new _ _ _ _) (H3.out.trans' HFS9.out (by simp; have := HRB.out; omega))
 have t46 : ((x : Int) == 46) = false := by simp; omega
 by_cases h94 : x = 94
 ·subst h94; have HR2 : Hid (R = .ok (.mk 5 S4.empty 0 0 [], i + 1)) := zh (by rw [HP2.out]; unfold plainS; rw [← HX.out]; simp); clear HP2
  go_wp2_with (first
   | (refine wpList_build1 rfl 33 0 _ rfl (.int .i64 5) rfl (partC 5 S4.empty 0 0 (.slice none 0 0)) (built_k _) ?_)
   | (refine wpList_build2 rfl 35 0 1 _ _ rfl (.agg (partC 5 S4.empty 0 0 (.slice none 0 0)).toArray) (.int .i64 ((i : Int) + 1)) rfl rfl (gotC (partC 5 S4.empty 0 0 (.slice none 0 0)) ((i : Int) + 1) 0 0) (built_pn (partC_len _ _ _ _ _) _) ?_)
   | (refine wpList_store_bk rfl 35 _ _ rfl rb (gotC (partC 5 S4.empty 0 0 (.slice none 0 0)) ((i : Int) + 1) 0 0) rfl rfl _ _ HZA0.out (by rw [gotC_len (partC_len _ _ _ _ _)]; exact rg_size) (by rw [gotC_len (partC_len _ _ _ _ _), List.size_toArray, gotC_len zeroPC_len]) (gotC_one (partC_one _ _ _ _ (by rfl)) _ _ _) ?_; intro wS9 hzS hfS; have HZS9 := zh hzS; have HFS9 := zh hfS; clear hzS hfS))
  refine ret_row_ (p := 6) (T := 35) rfl rb _ _ rfl HZS9.out Tryz.underlying35 rfl (by rw [gotC_len (partC_len _ _ _ _ _)]; exact rg_size) rfl ?_; exact RPost.ok_ (p := rleafP 5 S4.empty) HR2.out (by rw [rleafP_cells]; first | rfl | (simp; done)) (rleafP_new _ _ _ _) (HFA0.out.trans' HFS9.out (by simp; have := HRB.out; omega))
 have t94 : ((x : Int) == 94) = false := by simp; omega
 by_cases h36 : x = 36
 ·subst h36; have HR2 : Hid (R = .ok (.mk 6 S4.empty 0 0 [], i + 1)) := zh (by rw [HP2.out]; unfold plainS; rw [← HX.out]; simp); clear HP2
  go_wp2_with (first
   | (refine wpList_build1 rfl 33 0 _ rfl (.int .i64 6) rfl (partC 6 S4.empty 0 0 (.slice none 0 0)) (built_k _) ?_)
   | (refine wpList_build2 rfl 35 0 1 _ _ rfl (.agg (partC 6 S4.empty 0 0 (.slice none 0 0)).toArray) (.int .i64 ((i : Int) + 1)) rfl rfl (gotC (partC 6 S4.empty 0 0 (.slice none 0 0)) ((i : Int) + 1) 0 0) (built_pn (partC_len _ _ _ _ _) _) ?_)
   | (refine wpList_store_bk rfl 35 _ _ rfl rb (gotC (partC 6 S4.empty 0 0 (.slice none 0 0)) ((i : Int) + 1) 0 0) rfl rfl _ _ HZA0.out (by rw [gotC_len (partC_len _ _ _ _ _)]; exact rg_size) (by rw [gotC_len (partC_len _ _ _ _ _), List.size_toArray, gotC_len zeroPC_len]) (gotC_one (partC_one _ _ _ _ (by rfl)) _ _ _) ?_; intro wS9 hzS hfS; have HZS9 := zh hzS; have HFS9 := zh hfS; clear hzS hfS))
  refine ret_row_ (p := 6) (T := 35) rfl rb _ _ rfl HZS9.out Tryz.underlying35 rfl (by rw [gotC_len (partC_len _ _ _ _ _)]; exact rg_size) rfl ?_; exact RPost.ok_ (p := rleafP 6 S4.empty) HR2.out (by rw [rleafP_cells]; first | rfl | (simp; done)) (rleafP_new _ _ _ _) (HFA0.out.trans' HFS9.out (by simp; have := HRB.out; omega))
 have t36 : ((x : Int) == 36) = false := by simp; omega
 by_cases h92 : x = 92
 ·subst h92; by_cases hiL : L ≤ i + 1
  ·have hiI : (L : Int) ≤ (i : Int) + 1 := by omega
   have HR2 : Hid (R = .error (bs.length, 7)) := zh (by rw [HP2.out]; unfold plainS; rw [← HX.out]; simp; have := HL.out; omega); clear HP2
   go_wp2_with (first
    | (refine wpList_build2 rfl 35 2 3 _ _ rfl (.int .i64 7) (.int .i64 (L : Int)) rfl rfl (gotC zeroPC 0 7 (L : Int)) (built_eq_ _ _) ?_)
    | (refine wpList_store_bk rfl 35 _ _ rfl rb (gotC zeroPC 0 7 (L : Int)) rfl rfl _ _ HZA0.out (by rw [gotC_len zeroPC_len]; exact rg_size) (by rw [gotC_len zeroPC_len, List.size_toArray, gotC_len zeroPC_len]) (gotC_one zeroPC_one _ _ _) ?_; intro wS9 hzS hfS; have HZS9 := zh hzS; have HFS9 := zh hfS; clear hzS hfS))
   refine ret_row_ (p := 6) (T := 35) rfl rb _ _ rfl HZS9.out Tryz.underlying35 rfl (by rw [gotC_len zeroPC_len]; exact rg_size) rfl ?_; exact RPost.err (i := bs.length) (c := 7) HR2.out (by rw [← HL.out]; first | (simp; done) | rfl) (HFA0.out.trans' HFS9.out (by simp; have := HRB.out; omega))
  ·have hiI : ¬ ((L : Int) ≤ (i : Int) + 1) := by omega
   have hiI2 : (i : Int) + 1 < (L : Int) := by omega
   have iy := HIX.out (i + 1) (by omega); have hyl := bn_lt bs (i + 1); obtain ⟨y, hy⟩ : ∃ y, y = bn bs (i + 1) := ⟨_, rfl⟩; rw [← hy, show ((i + 1 : Nat) : Int) = (i : Int) + 1 by omega] at iy; rw [← hy] at hyl
   have HR2 : Hid (R = .ok (tSet (S4.range (escN y) (escN y)), i + 2)) := zh (by
    rw [HP2.out]; unfold plainS; rw [← HX.out, ← hy]; simp; have := HL.out; omega)
   have hel := escN_lt hyl; clear HP2 hy; go_upto_region 30 with fail
   go_wp2_with (first
    | (go_at_call 68; refine (resc_any y hyl _).mono ?_; rintro e w1 ⟨rfl, rfl⟩)
    | (go_at_call 67; refine (single_any_ (escN y) hel _).mono ?_; rintro e w2 ⟨rfl, hf2⟩; have HF2 := zh (HFA0.out.trans hf2); have HZ2 := zh (HZA0.out.fr hf2 (by simp)); clear hf2)
    | (refine wpList_build2 rfl 35 0 1 _ _ rfl (.agg (partC 1 (S4.range (escN y) (escN y)) 0 0 (.slice none 0 0)).toArray) (.int .i64 ((i : Int) + 2)) rfl rfl (gotC (partC 1 (S4.range (escN y) (escN y)) 0 0 (.slice none 0 0)) ((i : Int) + 2) 0 0) (built_pn (partC_len _ _ _ _ _) _) ?_)
    | (refine wpList_store_bk rfl 35 _ _ rfl rb (gotC (partC 1 (S4.range (escN y) (escN y)) 0 0 (.slice none 0 0)) ((i : Int) + 2) 0 0) rfl rfl _ _ HZ2.out (by rw [gotC_len (partC_len _ _ _ _ _)]; exact rg_size) (by rw [gotC_len (partC_len _ _ _ _ _), List.size_toArray, gotC_len zeroPC_len]) (gotC_one (partC_one _ _ _ _ (by rfl)) _ _ _) ?_; intro wS9 hzS hfS; have HZS9 := zh hzS; have HFS9 := zh hfS; clear hzS hfS))
   refine ret_row_ (p := 6) (T := 35) rfl rb _ _ rfl HZS9.out Tryz.underlying35 rfl (by rw [gotC_len (partC_len _ _ _ _ _)]; exact rg_size) rfl ?_; exact RPost.ok_ (p := rleafP 1 (S4.range (escN y) (escN y))) HR2.out (by rw [rleafP_cells]; first | rfl | (simp; done)) (rleafP_new _ _ _ _) (HF2.out.trans' HFS9.out (by simp; have := HRB.out; omega))
 have t92 : ((x : Int) == 92) = false := by simp; omega
 by_cases h42 : x = 42
 ·subst h42; have HR2 : Hid (R = .error (i, 4)) := zh (by rw [HP2.out]; unfold plainS; rw [← HX.out]; simp); clear HP2
  go_wp2_with (first
   | (refine wpList_build2 rfl 35 2 3 _ _ rfl (.int .i64 4) (.int .i64 (i : Int)) rfl rfl (gotC zeroPC 0 4 (i : Int)) (built_eq_ _ _) ?_)
   | (refine wpList_store_bk rfl 35 _ _ rfl rb (gotC zeroPC 0 4 (i : Int)) rfl rfl _ _ HZA0.out (by rw [gotC_len zeroPC_len]; exact rg_size) (by rw [gotC_len zeroPC_len, List.size_toArray, gotC_len zeroPC_len]) (gotC_one zeroPC_one _ _ _) ?_; intro wS9 hzS hfS; have HZS9 := zh hzS; have HFS9 := zh hfS; clear hzS hfS))
  refine ret_row_ (p := 6) (T := 35) rfl rb _ _ rfl HZS9.out Tryz.underlying35 rfl (by rw [gotC_len zeroPC_len]; exact rg_size) rfl ?_; exact RPost.err (i := i) (c := 4) HR2.out (by first | (simp; done) | rfl) (HFA0.out.trans' HFS9.out (by simp; have := HRB.out; omega))
 have t42 : ((x : Int) == 42) = false := by simp; omega
 by_cases h43 : x = 43
 ·subst h43; have HR2 : Hid (R = .error (i, 4)) := zh (by rw [HP2.out]; unfold plainS; rw [← HX.out]; simp); clear HP2
  go_wp2_with (first
   | (refine wpList_build2 rfl 35 2 3 _ _ rfl (.int .i64 4) (.int .i64 (i : Int)) rfl rfl (gotC zeroPC 0 4 (i : Int)) (built_eq_ _ _) ?_)
   | (refine wpList_store_bk rfl 35 _ _ rfl rb (gotC zeroPC 0 4 (i : Int)) rfl rfl _ _ HZA0.out (by rw [gotC_len zeroPC_len]; exact rg_size) (by rw [gotC_len zeroPC_len, List.size_toArray, gotC_len zeroPC_len]) (gotC_one zeroPC_one _ _ _) ?_; intro wS9 hzS hfS; have HZS9 := zh hzS; have HFS9 := zh hfS; clear hzS hfS))
  refine ret_row_ (p := 6) (T := 35) rfl rb _ _ rfl HZS9.out Tryz.underlying35 rfl (by rw [gotC_len zeroPC_len]; exact rg_size) rfl ?_; exact RPost.err (i := i) (c := 4) HR2.out (by first | (simp; done) | rfl) (HFA0.out.trans' HFS9.out (by simp; have := HRB.out; omega))
 have t43 : ((x : Int) == 43) = false := by simp; omega
 by_cases h63 : x = 63
 ·subst h63; have HR2 : Hid (R = .error (i, 4)) := zh (by rw [HP2.out]; unfold plainS; rw [← HX.out]; simp); clear HP2
  go_wp2_with (first
   | (refine wpList_build2 rfl 35 2 3 _ _ rfl (.int .i64 4) (.int .i64 (i : Int)) rfl rfl (gotC zeroPC 0 4 (i : Int)) (built_eq_ _ _) ?_)
   | (refine wpList_store_bk rfl 35 _ _ rfl rb (gotC zeroPC 0 4 (i : Int)) rfl rfl _ _ HZA0.out (by rw [gotC_len zeroPC_len]; exact rg_size) (by rw [gotC_len zeroPC_len, List.size_toArray, gotC_len zeroPC_len]) (gotC_one zeroPC_one _ _ _) ?_; intro wS9 hzS hfS; have HZS9 := zh hzS; have HFS9 := zh hfS; clear hzS hfS))
  refine ret_row_ (p := 6) (T := 35) rfl rb _ _ rfl HZS9.out Tryz.underlying35 rfl (by rw [gotC_len zeroPC_len]; exact rg_size) rfl ?_; exact RPost.err (i := i) (c := 4) HR2.out (by first | (simp; done) | rfl) (HFA0.out.trans' HFS9.out (by simp; have := HRB.out; omega))
 have t63 : ((x : Int) == 63) = false := by simp; omega
 have HR2 : Hid (R = .ok (tSet (S4.range x x), i + 1)) := zh (by
  rw [HP2.out]; unfold plainS; rw [← HX.out, if_neg (by omega), if_neg (by omega), if_neg (by omega), if_neg (by omega), if_neg (by omega), if_neg (by omega)])
 clear HP2
 go_wp2_with (first
  | (go_at_call 67; refine (single_any_ (x) hxl _).mono ?_; rintro e w2 ⟨rfl, hf2⟩; have HF2 := zh (HFA0.out.trans hf2); have HZ2 := zh (HZA0.out.fr hf2 (by simp)); clear hf2)
  | (refine wpList_build2 rfl 35 0 1 _ _ rfl (.agg (partC 1 (S4.range x x) 0 0 (.slice none 0 0)).toArray) (.int .i64 ((i : Int) + 1)) rfl rfl (gotC (partC 1 (S4.range x x) 0 0 (.slice none 0 0)) ((i : Int) + 1) 0 0) (built_pn (partC_len _ _ _ _ _) _) ?_)
  | (refine wpList_store_bk rfl 35 _ _ rfl rb (gotC (partC 1 (S4.range x x) 0 0 (.slice none 0 0)) ((i : Int) + 1) 0 0) rfl rfl _ _ HZ2.out (by rw [gotC_len (partC_len _ _ _ _ _)]; exact rg_size) (by rw [gotC_len (partC_len _ _ _ _ _), List.size_toArray, gotC_len zeroPC_len]) (gotC_one (partC_one _ _ _ _ (by rfl)) _ _ _) ?_; intro wS9 hzS hfS; have HZS9 := zh hzS; have HFS9 := zh hfS; clear hzS hfS))
 refine ret_row_ (p := 6) (T := 35) rfl rb _ _ rfl HZS9.out Tryz.underlying35 rfl (by rw [gotC_len (partC_len _ _ _ _ _)]; exact rg_size) rfl ?_; exact RPost.ok_ (p := rleafP 1 (S4.range x x)) HR2.out (by rw [rleafP_cells]; first | rfl | (simp; done)) (rleafP_new _ _ _ _) (HF2.out.trans' HFS9.out (by simp; have := HRB.out; omega))
end Go.Proofs.YteofhjegaaoglaaGreat
namespace Go.Proofs.YteofhjegaaoglaaGreat
open Go.RowKit
set_option linter.unusedVariables false
set_option linter.unusedSimpArgs false
theorem rread_ok : ∀ f : Nat, RExprOk f ∧ RBranchOk f ∧ RPieceOk f ∧ RAtomOk f := by
 intro f
 induction f using Nat.strongRecOn with
 | _ f ih =>
  have ha : RAtomOk f := by
   rcases f with _ | f
   ·intro w bs i d hl hi hd hf; omega
   ·exact ratom_of f (ih f (by omega)).1
  have hp : RPieceOk f := by
   rcases f with _ | f
   ·intro w bs i d hl hi hd hf; omega
   ·exact rpiece_of f (ih f (by omega)).2.2.2
  exact ⟨rexpression_of f (fun k hk => (ih k hk).2.1), rbranch_of f (fun k hk => (ih k hk).2.2.1), hp, ha⟩
def RPPost (w : World) (r : Except (Nat × Nat) RT) (e : Ending) (w' : World) : Prop := Fr [] w w' ∧ match r with
 | .ok t => ∃ (p : PT) (j : Nat), e = .returned (.agg (gotC p.rcells (j : Int) 0 0).toArray) ∧ NewR w.heap.size w' t p
 | .error (i, c) => 0 < c ∧ e = .returned (.agg (gotC zeroPC 0 (c : Int) (i : Int)).toArray)
theorem RPPost.err {w w' : World} {r : Except (Nat × Nat) RT} {e : Ending} {i c : Nat} (hr : r = .error (i, c)) (hc : 0 < c) (he : e = .returned (.agg (gotC zeroPC 0 (c : Int) (i : Int)).toArray)) (hf : Fr [] w w') : RPPost w r e w' := by
 subst hr; exact ⟨hf, hc, he⟩
theorem RPPost.ok_ {w w' : World} {r : Except (Nat × Nat) RT} {e : Ending} {t : RT} {p : PT} {j : Nat} (hr : r = .ok t) (he : e = .returned (.agg (gotC p.rcells (j : Int) 0 0).toArray)) (hn : NewR w.heap.size w' t p) (hf : Fr [] w w') : RPPost w r e w' := by
 subst hr; exact ⟨hf, p, j, he, hn⟩
set_option maxRecDepth 100000 in
set_option maxHeartbeats 16000000 in
theorem rparse_any (bs : List UInt8) (w : World) : Calls Tryz.prog 7 #[.string ⟨bs.toArray⟩] w (RPPost w (parseS bs)) := by
 obtain ⟨S, hS⟩ : ∃ S, S = (⟨bs.toArray⟩ : ByteArray) := ⟨_, rfl⟩; obtain ⟨L, hL⟩ : ∃ L, L = bs.length := ⟨_, rfl⟩; have hs1 : S.size = L := by rw [hS, hL]; simp [ByteArray.size]
 have HSD : Hid (S = (⟨bs.toArray⟩ : ByteArray)) := zh hS; have HL : Hid (L = bs.length) := zh hL; obtain ⟨R, hR⟩ : ∃ R, R = parseS bs := ⟨_, rfl⟩; obtain ⟨rb, hrb⟩ : ∃ rb, rb = w.heap.size := ⟨_, rfl⟩; have HRB := zh hrb; have HR := zh hR; rw [← hS, ← hR]; clear hS hR hL; go_enter Tryz.func7, Tryz.ntmps7
 go_upto_region 1 with (first
  | (refine wpList_alloc_bk rfl 35 rfl (gotC zeroPC 0 0 0) 263 rg_zero ?_; intro wA0 hzA hfA; have HFA0 := zh hfA; have HZA0 : Hid (Bk wA0 rb 35 (gotC zeroPC 0 0 0).toArray) := zh (by rw [HRB.out]; exact hzA); clear hzA hfA))
 rw [← hrb]; clear hrb; by_cases h1000 : 1000 < L
 ·have hI : (1000 : Int) < (L : Int) := by omega
  have HR2 : Hid (R = .error (0, 5)) := zh (by rw [HR.out]; unfold parseS; rw [if_pos (by have := HL.out; omega)])
  go_wp2_with (first
   | (refine wpList_build1 rfl 35 2 _ rfl (.int .i64 5) rfl (gotC zeroPC 0 5 0) (built_e _) ?_)
   | (refine wpList_store_bk rfl 35 _ _ rfl rb (gotC zeroPC 0 5 0) rfl rfl _ _ HZA0.out (by rw [gotC_len zeroPC_len]; exact rg_size) (by rw [gotC_len zeroPC_len, List.size_toArray, gotC_len zeroPC_len]) (gotC_one zeroPC_one _ _ _) ?_; intro wS9 hzS hfS; have HZS9 := zh hzS; have HFS9 := zh hfS; clear hzS hfS))
  refine ret_row_ (p := 2) (T := 35) rfl rb _ _ rfl HZS9.out Tryz.underlying35 rfl (by rw [gotC_len zeroPC_len]; exact rg_size) rfl ?_; exact RPPost.err (i := 0) (c := 5) HR2.out (by omega) (by first | (simp; done) | rfl) (HFA0.out.trans' HFS9.out (by simp; have := HRB.out; omega))
 have hI : ¬ ((1000 : Int) < (L : Int)) := by omega
 have hRR := HR.out; unfold parseS at hRR; rw [if_neg (by have := HL.out; omega)] at hRR
 have hcall : ∀ W : World, Calls Tryz.prog 17 #[.string S, .int .i64 0, .int .i64 0] W (RPost W (exprF bs (6 * bs.length + 5) 0 0 [])) := fun W => by
  have := (rread_ok (6 * bs.length + 5)).1 W bs 0 0 (by have := HL.out; omega) (by omega) (by omega) (by omega); rw [HSD.out]; have e : (0 : Int) = ((0 : Nat) : Int) := rfl; rw [e]; exact this
 have hle := (readF_le bs (6 * bs.length + 5)).1 0 0 []; have hcd := (read_code bs (6 * bs.length + 5)).1 0 0 []; clear HR; rcases hY : exprF bs (6 * bs.length + 5) 0 0 [] with ⟨q, code⟩ | ⟨t, j⟩
 ·have hc0 : 0 < code := hcd _ _ hY; rw [hY] at hcall hRR; have HR2 : Hid (R = .error (q, code)) := zh hRR; have HCL : Hid (∀ W, Calls Tryz.prog 17 #[.string S, .int .i64 0, .int .i64 0] W fun e w' => e = .returned (.agg (gotC zeroPC 0 (code : Int) (q : Int)).toArray) ∧ Fr [] W w') := zh hcall; have hcI : ((code : Int) == 0) = false := by simp; omega
  have HC0 := zh hc0; clear hcall hRR hY hle hcd hc0
  go_upto_region 4 with (first
   | (go_at_call 17; refine (HCL.out _).mono ?_; rintro e w2 ⟨rfl, hf2⟩; have HF2 := zh (HFA0.out.trans hf2); have HZ2 := zh (HZA0.out.fr hf2 (by simp)); clear hf2)
   | (refine wpList_alloc_bk rfl 35 rfl (gotC zeroPC 0 0 0) 263 rg_zero ?_; intro wA1 hzA hfA; have HZA1 := zh hzA; have HF3 := zh (HF2.out.trans hfA); have HZ3 := zh (HZ2.out.fr hfA (by simp)); clear hzA hfA)
   | (refine wpList_store_bk rfl 35 _ _ rfl w2.heap.size (gotC zeroPC 0 (code : Int) (q : Int)) rfl rfl _ _ HZA1.out (by rw [gotC_len zeroPC_len]; exact rg_size) (by rw [gotC_len zeroPC_len, List.size_toArray, gotC_len zeroPC_len]) (gotC_one zeroPC_one _ _ _) ?_; intro wS1 hzS hfS; have HZS1 := zh hzS; have HF4 : Hid (Fr [] w wS1) := zh (HF3.out.trans' hfS (by simp; have := HF2.out.size; omega)); have HFS1 := zh hfS; have HZ4 := zh (HZ3.out.fr hfS (by simp; have := HZ2.out.lt; omega)); have c261 := hzS.cellL (gotC_e zeroPC_len _ _ _); have c260 := hzS.cellL (gotC_n zeroPC_len _ _ _); clear hzS hfS))
  go_wp2_with (first
   | (refine wpList_load_bk rfl 35 _ rfl w2.heap.size 0 rfl (gotC zeroPC 0 (code : Int) (q : Int)) _ _ _ HZS1.out (by intro j u hj; simpa using hj) Tryz.underlying35 rfl (by rw [gotC_len zeroPC_len]; exact rg_size) ?_)
   | (refine wpList_store_bk rfl 35 _ _ rfl rb (gotC zeroPC 0 (code : Int) (q : Int)) rfl rfl _ _ HZ4.out (by rw [gotC_len zeroPC_len]; exact rg_size) (by rw [gotC_len zeroPC_len, List.size_toArray, gotC_len zeroPC_len]) (gotC_one zeroPC_one _ _ _) ?_; intro wS9 hzS hfS; have HZS9 := zh hzS; have HFS9 := zh hfS; clear hzS hfS))
  refine ret_row_ (p := 2) (T := 35) rfl rb _ _ rfl HZS9.out Tryz.underlying35 rfl (by rw [gotC_len zeroPC_len]; exact rg_size) rfl ?_; exact RPPost.err HR2.out HC0.out rfl (HF4.out.trans' HFS9.out (by simp; have := HRB.out; omega))
 ·have hjb := hle t j (by omega) hY; rw [hY] at hcall hRR; have HCL : Hid (∀ W, Calls Tryz.prog 17 #[.string S, .int .i64 0, .int .i64 0] W (RPost W (.ok (t, j)))) := zh hcall; have HRC : Hid (R = if j < bs.length then .error (j, 4) else .ok t) := zh hRR; clear hcall hRR hY hle hcd
  go_upto_region 4 with (first
   | (go_at_call 17; refine (HCL.out _).mono ?_; rintro e w2 ⟨p, rfl, hn, hf2⟩; have HN2 := zh hn; have HF2 := zh (HFA0.out.trans hf2); have HZ2 := zh (HZA0.out.fr hf2 (by simp)); clear hf2 hn)
   | (refine wpList_alloc_bk rfl 35 rfl (gotC zeroPC 0 0 0) 263 rg_zero ?_; intro wA1 hzA hfA; have HZA1 := zh hzA; have HF3 := zh (HF2.out.trans hfA); have HZ3 := zh (HZ2.out.fr hfA (by simp)); have HN3 := zh (HN2.out.fr_nil hfA); clear hzA hfA)
   | (refine wpList_store_bk rfl 35 _ _ rfl w2.heap.size (gotC p.rcells (j : Int) 0 0) rfl rfl _ _ HZA1.out (by rw [gotC_len (rcells_len p)]; exact rg_size) (by rw [gotC_len (rcells_len p), List.size_toArray, gotC_len zeroPC_len]) (gotC_one (rcells_one p) _ _ _) ?_; intro wS1 hzS hfS; have HZS1 := zh hzS; have HF4 : Hid (Fr [] w wS1) := zh (HF3.out.trans' hfS (by simp; have := HF2.out.size; omega)); have HFS1 := zh hfS; have HZ4 := zh (HZ3.out.fr hfS (by simp; have := HZ2.out.lt; omega)); have c261 := hzS.cellL (gotC_e (rcells_len p) _ _ _); have c260 := hzS.cellL (gotC_n (rcells_len p) _ _ _); clear hzS hfS))
  have HN5 : Hid (NewR w.heap.size wS1 t p) := zh ((HN3.out.fr HFS1.out (by simp; right; intro hm; have := (HN2.out.new _ hm).2; omega)).lower HFA0.out.size); by_cases hjL : j < L
  ·have hjI : (j : Int) < (L : Int) := by omega
   have HR2 : Hid (R = .error (j, 4)) := zh (by rw [HRC.out, if_pos (by have := HL.out; omega)])
   go_wp2_with (first
    | (refine wpList_build2 rfl 35 2 3 _ _ rfl (.int .i64 4) (.int .i64 (j : Int)) rfl rfl (gotC zeroPC 0 4 (j : Int)) (built_eq_ _ _) ?_)
    | (refine wpList_store_bk rfl 35 _ _ rfl rb (gotC zeroPC 0 4 (j : Int)) rfl rfl _ _ HZ4.out (by rw [gotC_len zeroPC_len]; exact rg_size) (by rw [gotC_len zeroPC_len, List.size_toArray, gotC_len zeroPC_len]) (gotC_one zeroPC_one _ _ _) ?_; intro wS9 hzS hfS; have HZS9 := zh hzS; have HFS9 := zh hfS; clear hzS hfS))
   refine ret_row_ (p := 2) (T := 35) rfl rb _ _ rfl HZS9.out Tryz.underlying35 rfl (by rw [gotC_len zeroPC_len]; exact rg_size) rfl ?_; exact RPPost.err (i := j) (c := 4) HR2.out (by omega) (by first | (simp; done) | rfl) (HF4.out.trans' HFS9.out (by simp; have := HRB.out; omega))
  ·have hjI : ¬ ((j : Int) < (L : Int)) := by omega
   have HR2 : Hid (R = .ok t) := zh (by rw [HRC.out, if_neg (by have := HL.out; omega)])
   go_wp2_with (first
    | (refine wpList_load_bk rfl 35 _ rfl w2.heap.size 0 rfl (gotC p.rcells (j : Int) 0 0) _ _ _ HZS1.out (by intro j u hj; simpa using hj) Tryz.underlying35 rfl (by rw [gotC_len (rcells_len p)]; exact rg_size) ?_)
    | (refine wpList_store_bk rfl 35 _ _ rfl rb (gotC p.rcells (j : Int) 0 0) rfl rfl _ _ HZ4.out (by rw [gotC_len (rcells_len p)]; exact rg_size) (by rw [gotC_len (rcells_len p), List.size_toArray, gotC_len zeroPC_len]) (gotC_one (rcells_one p) _ _ _) ?_; intro wS9 hzS hfS; have HZS9 := zh hzS; have HFS9 := zh hfS; clear hzS hfS))
   refine ret_row_ (p := 2) (T := 35) rfl rb _ _ rfl HZS9.out Tryz.underlying35 rfl (by rw [gotC_len (rcells_len p)]; exact rg_size) rfl ?_; exact RPPost.ok_ HR2.out rfl (HN5.out.fr HFS9.out (by simp; right; intro hm; have h1 := (HN2.out.new _ hm).1; have := HZA0.out.lt; omega)) (HF4.out.trans' HFS9.out (by simp; have := HRB.out; omega))
end Go.Proofs.YteofhjegaaoglaaGreat
namespace Go.Proofs.YteofhjegaaoglaaGreat
open Go.RowKit
set_option linter.unusedVariables false
set_option linter.unusedSimpArgs false
theorem wpList_box_bk {P : Program} {ops : Array Oper} {rest : List Oper} {o : Oper} {a : Act} {w : World} {Q : Exit → Act → World → Prop} (hgd : o.guard = none) (T : TypeId) (x : Operand) (ho : o.op = .box T x) (C : List Value) (hx : a.eval x = .agg C.toArray)
    (h : ∀ w', Bk w' w.heap.size T C.toArray → Fr [] w w' → wpList P ops Q rest (a.put o.dst (.pointer (some ⟨w.heap.size, 0, none⟩))) w') : wpList P ops Q (o :: rest) a w := by
 refine wpList_plain hgd fun K hK => ?_; have h2 := hK _ _ (h _ (Bk.new w T C.toArray) ((Fr.refl [] w).alloc _)); unfold Oper.wp execOp; simp only [ho, hx, Sem.run_bind, Instr.box, newVar, newRow, run_newObj_alloc, Sem.run_pure, Result.andThen_ok, Value.cells]; exact h2
theorem cntL_ge : ∀ (l : List PT), l.length ≤ cntL l
 | [] => by simp
 | a :: r => by have := cntL_ge r; have h : 1 ≤ cntP a := (by rw [cntP_eq]; omega); rw [cntL]; simp; omega
theorem cntL_child : ∀ (l : List PT) (q : PT), q ∈ l → cntP q ≤ cntL l
 | [], q, h => by cases h
 | a :: r, q, h => by
  rw [cntL]; rcases List.mem_cons.1 h with rfl | h
  ·omega
  ·have := cntL_child r q h; omega
theorem child_size {p q : PT} (h : q ∈ p.l) : cntP q < cntP p := by
 rw [cntP_eq p]; have := cntL_child p.l q h; omega
theorem len_cnt (p : PT) : p.l.length < cntP p := by rw [cntP_eq]; have := cntL_ge p.l; omega
theorem RPMem.fr_nil {w w' : World} {p : PT} (h : RPMem w p) (hf : Fr [] w w') : RPMem w' p := RPMem.fr_ hf p (fun b _ => by simp) h
theorem RPMem.child {w : World} {p q : PT} {i : Nat} (h : RPMem w p) (hq : p.l[i]? = some q) : (∃ b off, p.A = some ⟨b, off, none⟩ ∧ RCellsAt w b (off + i * 260) q.rcells) ∧ RPMem w q := by
 rw [RPMem_eq] at h; have := RLMem.get h hq
 simpa using this
set_option maxRecDepth 100000 in
set_option maxHeartbeats 16000000 in
theorem times_any : ∀ (n : Nat) (p : PT), cntP p < n → cntP p ≤ 5000 → ∀ w : World, RPMem w p → Calls Tryz.prog 8 #[.agg p.rcells.toArray] w fun e w' => (∃ k : Int, e = .returned (.int .i64 k)) ∧ Fr [] w w' := by
 intro n
 induction n with
 | zero => intro p h; omega
 | succ n ih =>
  intro p hp h5 w hm; have HIH := zh ih; have HM := zh hm; obtain ⟨m, hmm⟩ : ∃ m, m = p.l.length := ⟨_, rfl⟩; have HMM := zh hmm; have hlen : m ≤ 5000 := by have := len_cnt p; omega
  clear ih hm hmm; go_enter Tryz.func8, Tryz.ntmps8
  go_wp2_with (refine wpList_box_bk rfl 33 _ rfl p.rcells rfl ?_; intro w1 hz hf1; have HZ := zh hz; have HF := zh hf1; clear hz hf1)
  obtain ⟨g, hg⟩ : ∃ g, g = w.heap.size := ⟨_, rfl⟩; rw [← hg]; have HG1 : Hid (Bk w1 g 33 p.rcells.toArray) := zh (by rw [hg]; exact HZ.out); have HGW := zh hg; clear hg HZ
  go_loopw [3, 4] (fun v3 v4 wr => ∃ (k : Int) (i : Nat), v3 = .int .i64 k ∧ v4 = .int .i64 (i : Int) ∧ i ≤ m ∧ Bk wr g 33 p.rcells.toArray ∧ Fr [] w wr) (fun _ v4 _ => m + 1 - (intOf v4).toNat)
  case atStart => exact ⟨1, 0, rfl, rfl, by omega, HG1.out, HF.out⟩
  case round =>
   obtain ⟨k, i, rfl, rfl, him, hb, hf⟩ := hrel; have c0 := hb.cellL (partC_k p.k p.rset p.mn p.mx (.slice p.A p.l.length p.c)); have c257 := hb.cellL (partC_mn p.k p.rset p.mn p.mx (.slice p.A p.l.length p.c)); have c258 := hb.cellL (partC_mx p.k p.rset p.mn p.mx (.slice p.A p.l.length p.c)); have c259 := hb.cellL (partC_l p.k p.rset p.mn p.mx (.slice p.A p.l.length p.c)); rw [← HMM.out] at c259; have HB := zh hb; have HFR := zh hf; clear hb hf HG1 HF; by_cases hlt : i < m
   ·have hltI : (i : Int) < (m : Int) := by omega
    by_cases hk : k < 3000
    ·obtain ⟨q, hq⟩ : ∃ q, p.l[i]? = some q := ⟨_, List.getElem?_eq_getElem (by have := HMM.out; omega)⟩; obtain ⟨⟨b, off, hA, hcs⟩, hmq⟩ := (HM.out.fr_nil HFR.out).child hq; rw [hA] at c259; have HCS := zh hcs; have hqm : q ∈ p.l := List.mem_of_getElem? hq; have HCL : Hid (∀ W, Fr [] wr W → Calls Tryz.prog 8 #[.agg q.rcells.toArray] W fun e w' => (∃ k : Int, e = .returned (.int .i64 k)) ∧ Fr [] W w') := zh (fun W hW => HIH.out q (by have := child_size hqm; omega) (by have := child_size hqm; omega) W (hmq.fr_nil hW)); clear hA hcs hmq hq hqm
     go_upto_region 6 with (first
      | (refine wpList_load_mid rfl 33 _ rfl b (off + i * 260) rfl q.rcells _ (fun j v hv => HCS.out.cell hv) Tryz.underlying33 rfl (by rw [rcells_len]; exact rp_size) ?_)
      | (go_at_call 8; refine (HCL.out _ (Fr.refl _ _)).mono ?_; rintro e w3 ⟨⟨kk, rfl⟩, hf3⟩; have HF3 := zh (HFR.out.trans hf3); have HB3 := zh (HB.out.fr hf3 (by simp)); clear hf3))
     have d0 := HB3.out.cellL (partC_k p.k p.rset p.mn p.mx (.slice p.A p.l.length p.c)); have d257 := HB3.out.cellL (partC_mn p.k p.rset p.mn p.mx (.slice p.A p.l.length p.c)); have d258 := HB3.out.cellL (partC_mx p.k p.rset p.mn p.mx (.slice p.A p.l.length p.c)); by_cases hk4 : p.k = 4
     ·have t4 : (p.k == 4) = true := by simpa using hk4
      have HK4 := zh hk4; clear hk4; go_wp2_with fail
      go_roundw
      case rel => exact ⟨_, i + 1, rfl, by go_num, by omega, HB3.out, HF3.out⟩
      case measure => first | (simp [intOf]; done) | (simp [intOf]; omega)
     ·have t4 : (p.k == 4) = false := by simpa using hk4
      clear hk4; go_wp2_with fail
      go_roundw
      case rel => exact ⟨_, i + 1, rfl, by go_num, by omega, HB3.out, HF3.out⟩
      case measure => first | (simp [intOf]; done) | (simp [intOf]; omega)
    ·by_cases hk2 : 3000 < k
     ·go_wp2_with fail
      go_ret
      exact ⟨⟨_, rfl⟩, HFR.out⟩
     ·go_wp2_with fail
      go_ret
      exact ⟨⟨_, rfl⟩, HFR.out⟩
   ·have hltI : ¬ ((i : Int) < (m : Int)) := by omega
    by_cases hk2 : 3000 < k
    ·go_wp2_with fail
     go_ret
     exact ⟨⟨_, rfl⟩, HFR.out⟩
    ·go_wp2_with fail
     go_ret
     exact ⟨⟨_, rfl⟩, HFR.out⟩
end Go.Proofs.YteofhjegaaoglaaGreat
