/-
 WrP, WdB, Wr1, Wr2: several small texts in one. No conditions.
-/
import Derived.Test.YteofhjegaaoglaaGreatGwC
import Derived.Test.YteofhjegaaoglaaGreatWd9
import Derived.Test.YteofhjegaaoglaaGreatGzA
import Derived.Test.YteofhjegaaoglaaGreatGzC
import Derived.Test.YteofhjegaaoglaaGreatGzB
import Derived.Test.YteofhjegaaoglaaGreatGzE
import Derived.Deep.MidRow
namespace Go.Proofs.YteofhjegaaoglaaGreat
set_option linter.unusedVariables false
set_option linter.unusedSimpArgs false
theorem tkb_len (fd : List UInt8) : ∀ T : List (Option UInt8), (T.flatMap (tkB fd)).length ≤ T.length * (fd.length + 1)
 | [] => by simp
 | none :: r => by
  have := tkb_len fd r; rw [List.flatMap_cons, List.length_append, List.length_cons, Nat.succ_mul]; simp only [tkB]; omega
 | some c :: r => by
  have := tkb_len fd r; rw [List.flatMap_cons, List.length_append, List.length_cons, Nat.succ_mul]; simp only [tkB, List.length_cons, List.length_nil]; omega
theorem become_len (w fd : List UInt8) : (becomeM (piecesM w) fd).length ≤ w.length * (fd.length + 1) := by
 rw [become_tok]; exact Nat.le_trans (tkb_len fd _) (Nat.mul_le_mul_right _ (tokM_len w))
theorem repl_len {w s : List UInt8} : ∀ (FL : List (Nat × Nat)) (b : Nat), b ≤ s.length → (∀ q ∈ FL, q.1 ≤ q.2 ∧ q.2 ≤ s.length) → (∀ q ∈ FL, b ≤ q.1) → FL.Pairwise (fun p q => p.2 ≤ q.1) → (replF (piecesM w) s FL b).length ≤ w.length * ((s.length - b) + FL.length) + (s.length - b)
 | [], b, hb, _, _, _ => by rw [replF, List.length_drop]; omega
 | q :: r, b, hb, hq, ho, hp => by
  obtain ⟨h1, h2⟩ := hq q (by simp); have h3 := ho q (by simp); obtain ⟨h4, h5⟩ := List.pairwise_cons.1 hp; have ih := repl_len (w := w) r q.2 h2 (fun x hx => hq x (by simp [hx])) h4 h5; have hb2 := become_len w ((s.drop q.1).take (q.2 - q.1)); have hl : ((s.drop q.1).take (q.2 - q.1)).length = q.2 - q.1 := by rw [List.length_take, List.length_drop]; omega
  rw [hl] at hb2; have hl2 : ((s.drop b).take (q.1 - b)).length = q.1 - b := by rw [List.length_take, List.length_drop]; omega
  rw [replF, List.length_append, List.length_append, hl2, List.length_cons]
  have hm : w.length * (q.2 - q.1 + 1) + w.length * (s.length - q.2 + r.length) ≤ w.length * (s.length - b + (r.length + 1)) := by
   rw [← Nat.mul_add]; exact Nat.mul_le_mul_left _ (by omega)
  omega
theorem tok_at_amp {wd : List UInt8} {i : Nat} (h : wd[i]? = some 38) : tokM (wd.drop i) = none :: tokM (wd.drop (i + 1)) := by
 obtain ⟨h1, h2⟩ := List.getElem?_eq_some_iff.1 h; rw [List.drop_eq_getElem_cons h1, h2, tok_amp]
theorem tok_at_esc {wd : List UInt8} {i : Nat} {d : UInt8} (h : wd[i]? = some 92) (h' : wd[i + 1]? = some d) (hd : d = 92 ∨ d = 38) : tokM (wd.drop i) = some d :: tokM (wd.drop (i + 2)) := by
 obtain ⟨h1, h2⟩ := List.getElem?_eq_some_iff.1 h; obtain ⟨h3, h4⟩ := List.getElem?_eq_some_iff.1 h'; rw [List.drop_eq_getElem_cons h1, h2, List.drop_eq_getElem_cons h3, h4, tok_esc d _ hd]
theorem tok_at_one {wd : List UInt8} {i : Nat} {c : UInt8} (h : wd[i]? = some c) (hc : c ≠ 38) (hn : ¬ (c = 92 ∧ (wd[i + 1]? = some 92 ∨ wd[i + 1]? = some 38))) : tokM (wd.drop i) = some c :: tokM (wd.drop (i + 1)) := by
 obtain ⟨h1, h2⟩ := List.getElem?_eq_some_iff.1 h; rw [List.drop_eq_getElem_cons h1, h2]; refine tok_one c _ hc (fun hh => hn ⟨hh.1, ?_⟩); rw [List.getElem?_drop] at hh
 simpa using hh.2
end Go.Proofs.YteofhjegaaoglaaGreat
namespace Go.Proofs.YteofhjegaaoglaaGreat
open Go.RowKit
set_option linter.unusedVariables false
set_option linter.unusedSimpArgs false
def AwakeOk : Prop := ∀ w : World, GlobOk w → Calls Tryz.prog 4 #[] w fun e w' => e = .returned (.bool true) ∧ Fr [] w w'
theorem ex7_out : replF (piecesM [91, 38, 93]) [104, 101, 108, 108, 111] [(2, 4)] 0 = [104, 101, 91, 108, 108, 93, 111] := by kernel_rfl
theorem ex7_s1 : subM [104, 101, 108, 108, 111] 2 3 false = [101, 108, 108] := by kernel_rfl
theorem ex7_s2 : subM [104, 101, 108, 108, 111] (-1) 3 false = [104] := by kernel_rfl
theorem ex7_ix : Lib.index [104, 101, 108, 108, 111] [108, 111] = 3 := by kernel_rfl
set_option maxRecDepth 100000 in
set_option maxHeartbeats 4000000 in
theorem awake_ok : AwakeOk := by
 intro w hg; obtain ⟨LA, hLA⟩ : ∃ LA, LA = progT (tOf [108, 43]) := ⟨_, rfl⟩; have hfa := ex7_find; have hga := ex7_af; rw [← hLA] at hfa hga
 have HRP : Hid (∀ (W : World) (lo fb : Nat), FinderAt W lo fb LA → Calls Tryz.prog 5 #[.pointer (some ⟨fb, 0, none⟩), .string ⟨#[91, 38, 93]⟩, .string ⟨#[104, 101, 108, 108, 111]⟩, .bool false] W fun e w' => e = .returned (.tuple #[.string ⟨#[104, 101, 91, 108, 108, 93, 111]⟩, .int .i64 1, .nilIface]) ∧ Fr [] W w') := zh (fun W lo fb hF => by
  have h := replace_any hF hga [91, 38, 93] [104, 101, 108, 108, 111] false (by decide) (by decide) [(2, 4)] (by rw [hfa]; rfl) [104, 101, 91, 108, 108, 93, 111] ex7_out.symm (by decide); refine h.mono fun e w' hp => ?_; obtain ⟨rfl, hf⟩ := hp
  exact ⟨rfl, hf⟩)
 obtain ⟨sb, hsb⟩ : ∃ sb : Int → ByteArray, ∀ a, sb a = ⟨(subM [104, 101, 108, 108, 111] a 3 false).toArray⟩ := ⟨fun a => ⟨(subM [104, 101, 108, 108, 111] a 3 false).toArray⟩, fun a => rfl⟩
 have HSB : Hid (∀ (W : World) (a : Int), (-1000 ≤ a ∧ a ≤ 1000) → Calls Tryz.prog 11 #[.string ⟨#[104, 101, 108, 108, 111]⟩, .int .i64 a, .int .i64 3, .bool false] W fun e w' => e = .returned (.string (sb a)) ∧ W = w') := zh (fun W a ha => by
  rw [hsb]
  exact substr_any W [104, 101, 108, 108, 111] a 3 (by omega) (by omega) (by decide) false)
 have q1 : sb 2 = ⟨#[101, 108, 108]⟩ := by rw [hsb, ex7_s1]
 have q2 : sb (-1) = ⟨#[104]⟩ := by rw [hsb, ex7_s2]
 clear hsb
 have HIX : Hid (∀ W : World, GlobOk W → Calls Tryz.prog 12 #[.string ⟨#[104, 101, 108, 108, 111]⟩, .string ⟨#[108, 111]⟩] W fun e w' => e = .returned (.int .i64 4) ∧ w' = W) := zh (fun W hg => by
  have h := widx_any W [104, 101, 108, 108, 111] [108, 111] (by decide) hg; rw [ex7_ix] at h; refine h.mono fun e w' hp => ?_; obtain ⟨rfl, hf⟩ := hp
  exact ⟨rfl, hf⟩)
 have HG := zh hg; have HLA := zh hLA; clear hg hLA hfa hga; go_enter Tryz.func4, Tryz.ntmps4
 go_upto_region 2 with (first | (refine wpList_same rfl 22 (.tmp 7) rfl 5 Tryz.underlying22 Tryz.underlying5 ⟨w.heap.size, 0, none⟩ 2 2 (by first | rfl | (simp [Act.eval]; done)) (byteVals [108, 43]) (bytes_new w [108, 43]) ?_; intro v1 hS hF; have HS1 := zh hS; have HV1 : Hid (Fr [] w v1) := zh (((Fr.refl [] w).alloc (.cells (byteVals [108, 43]).toArray 5)).trans' hF (by simp)); clear hS hF) | (go_at_call 9; refine (new_at 2 rfl _ ex7_a ex7_as HS1.out (by omega) (Nat.le_refl _) (by intro h; cases h) (by decide) (HG.out.fr HV1.out)).mono ?_; rintro e w1 ⟨fa, rfl, hn, hf⟩; rw [← HLA.out] at hn; have HN1 := zh hn; have HX1 := zh (HV1.out.trans hf); clear hn hf))
 go_upto_region 5 with (go_at_call 5; refine (HRP.out _ _ _ HN1.out).mono ?_; rintro e w2 ⟨rfl, hf⟩; have HX2 := zh (HX1.out.trans hf); clear hf)
 go_wp2_with (first
  | (go_at_call 12; refine (HIX.out _ (HG.out.fr HX2.out)).mono ?_; rintro e w3 ⟨rfl, rfl⟩)
  | (go_at_call 11; refine (HSB.out _ _ (by omega)).mono ?_; rintro e w3 ⟨rfl, rfl⟩; simp only [q1, q2]))
 go_ret
 exact ⟨rfl, HX2.out⟩
end Go.Proofs.YteofhjegaaoglaaGreat
namespace Go.Proofs.YteofhjegaaoglaaGreat
open Go.RowKit Go.Shelf
set_option linter.unusedVariables false
set_option linter.unusedSimpArgs false
theorem str_iz {s : List UInt8} {i : Nat} {c : UInt8} (h : s[i]? = some c) (W : World) : (Instr.index 9 (.string ⟨s.toArray⟩) (.int .i64 (i : Int))).run Tryz.prog W = .ok (.int .u8 (c.toNat : Int)) W := by
 obtain ⟨h1, h2⟩ := List.getElem?_eq_some_iff.1 h
 have h3 : (⟨s.toArray⟩ : ByteArray)[i]? = some c := by
  rw [getElem?_pos (⟨s.toArray⟩ : ByteArray) i (by simpa [ByteArray.size] using h1)]
  congr 1
 unfold Instr.index; simp [asIntOf, run_underlying Tryz.underlying9, h3]
theorem ext_iz {s : List UInt8} {i : Nat} {x : UInt8} (h : s[i]? = some x) : (⟨s.toArray⟩ : ByteArray).extract i (i + 1) = ⟨[x].toArray⟩ := by
 obtain ⟨h1, h2⟩ := List.getElem?_eq_some_iff.1 h; rw [ba_extract, List.drop_eq_getElem_cons h1, h2, Nat.add_sub_cancel_left]; rfl
theorem catz {a b c o : List UInt8} (h : a ++ b ++ c = o) (ho : o.length ≤ 65536) : a.length + b.length ≤ 65536 := by
 rw [← h] at ho; simp at ho; omega
def BcRel (w : World) (wd fd TOT : List UInt8) (v5 v6 : Value) (wr : World) : Prop := ∃ (i : Nat) (tx : List UInt8), v6 = .int .i64 (i : Int) ∧ v5 = .string ⟨tx.toArray⟩ ∧ i ≤ wd.length ∧ tx ++ (tokM (wd.drop i)).flatMap (tkB fd) = TOT ∧ wr = w
set_option maxRecDepth 100000 in
set_option maxHeartbeats 8000000 in
theorem rbecome_any (w : World) (wd fd : List UInt8) (hw : wd.length ≤ 1000) (hf : fd.length ≤ 1000) :
    Calls Tryz.prog 21 #[.string ⟨wd.toArray⟩, .string ⟨fd.toArray⟩] w fun e w' => e = .returned (.string ⟨(becomeM (piecesM wd) fd).toArray⟩) ∧ w = w' := by
 obtain ⟨TOT, hT⟩ : ∃ T, T = becomeM (piecesM wd) fd := ⟨_, rfl⟩; have htot : (tokM wd).flatMap (tkB fd) = TOT := by rw [hT, become_tok]
 have htl : TOT.length ≤ 2000000 := by
  have h1 := become_len wd fd; rw [← hT] at h1; have h2 : wd.length * (fd.length + 1) ≤ 1000 * 1001 := Nat.mul_le_mul hw (by omega); omega
 rw [← hT]; obtain ⟨S, hS⟩ : ∃ S, S = (⟨wd.toArray⟩ : ByteArray) := ⟨_, rfl⟩; obtain ⟨F, hF⟩ : ∃ F, F = (⟨fd.toArray⟩ : ByteArray) := ⟨_, rfl⟩; obtain ⟨n, hn⟩ : ∃ n, n = wd.length := ⟨_, rfl⟩; have hs1 : S.size = n := by rw [hS, hn]; simp [ByteArray.size]
 have hf1 : F.size ≤ 1000 := by rw [hF]; simpa [ByteArray.size] using hf
 have hidx0 : ∀ (i : Nat) (x : UInt8), wd[i]? = some x → ∀ W, (Instr.index 9 (.string S) (.int .i64 (i : Int))).run Tryz.prog W = .ok (.int .u8 ((x.toNat : Nat) : Int)) W := fun i x h W => by rw [hS]; exact str_iz h W
 have hext0 : ∀ (i : Nat) (x : UInt8), wd[i]? = some x → S.extract i (i + 1) = ⟨[x].toArray⟩ := fun i x h => by rw [hS]; exact ext_iz h
 rw [← hS, ← hF]; rw [← hn] at hw; have HFD := zh hF; have HN := zh hn; have HIX := zh hidx0; have HEX := zh hext0; have HTL := zh htl; have HTOT := zh htot; clear hS hF hn hidx0 hext0 htl htot hT hf; go_enter Tryz.func21, Tryz.ntmps21
 go_upto_region 3 with fail
 go_loopw [5, 6] (fun v5 v6 wr => BcRel w wd fd TOT v5 v6 wr) (fun _ v6 _ => n + 1 - (intOf v6).toNat)
 case atStart => exact ⟨0, [], rfl, rfl, Nat.zero_le _, by rw [List.drop_zero, HTOT.out]; rfl, rfl⟩
 case round =>
  obtain ⟨i, tx, rfl, rfl, hi, htx, rfl⟩ := hrel; have hin0 : i ≤ n := by rw [HN.out]; exact hi
  clear hi; obtain ⟨O, hO⟩ : ∃ O, O = (⟨tx.toArray⟩ : ByteArray) := ⟨_, rfl⟩
  have hos : O.size ≤ 2000000 := by
   have h1 : tx.length ≤ TOT.length := by rw [← htx, List.length_append]; omega
   have := HTL.out; rw [hO]; simp [ByteArray.size]; omega
  have HOS := zh hO; have HTX := zh htx; rw [← hO]; clear hO htx; rcases Nat.lt_or_ge i n with hin | hin
  ·have hinI : (i : Int) < (n : Int) := by omega
   obtain ⟨x, hx⟩ : ∃ x, wd[i]? = some x := ⟨_, List.getElem?_eq_getElem (by have := HN.out; omega)⟩; have hidx := HIX.out i x hx; have hext := HEX.out i x hx; obtain ⟨m, hm⟩ : ∃ m, x.toNat = m := ⟨_, rfl⟩; rw [hm] at hidx; obtain ⟨E, hE⟩ : ∃ E, E = (⟨[x].toArray⟩ : ByteArray) := ⟨_, rfl⟩; rw [← hE] at hext; have hes : E.size = 1 := by rw [hE]; rfl
   have hnov : ¬ 9223372036854775807 < O.size + E.size := by omega
   have hnovF : ¬ 9223372036854775807 < O.size + F.size := by omega
   have htx := HTX.out
   -- one byte as it is
   have hone : x ≠ 38 → ¬ (x = 92 ∧ (wd[i + 1]? = some 92 ∨ wd[i + 1]? = some 38)) → (tx ++ [x]) ++ (tokM (wd.drop (i + 1))).flatMap (tkB fd) = TOT := fun h1 h2 => by
    rw [tok_at_one hx h1 h2] at htx; rw [← htx]; simp [tkB]
   have hcatE : O ++ E = (⟨(tx ++ [x]).toArray⟩ : ByteArray) := by rw [HOS.out, hE, ba_append]
   have HONE := zh hone; have HCE := zh hcatE; have HX := zh hx; have HM := zh hm; by_cases h92 : x = 92
   ·have hm92 : m = 92 := by rw [← hm, h92]; rfl
    by_cases hi1 : i + 1 < n
    ·have hi1I : (i : Int) + 1 < (n : Int) := by omega
     obtain ⟨y, hy⟩ : ∃ y, wd[i + 1]? = some y := ⟨_, List.getElem?_eq_getElem (by have := HN.out; omega)⟩; have hidy := HIX.out (i + 1) y hy; have hexy := HEX.out (i + 1) y hy; rw [show ((i + 1 : Nat) : Int) = (i : Int) + 1 by omega] at hidy; obtain ⟨k, hk⟩ : ∃ k, y.toNat = k := ⟨_, rfl⟩; rw [hk] at hidy; obtain ⟨Y, hY⟩ : ∃ Y, Y = (⟨[y].toArray⟩ : ByteArray) := ⟨_, rfl⟩; rw [← hY] at hexy; have hys : Y.size = 1 := by rw [hY]; rfl
     have hnovY : ¬ 9223372036854775807 < O.size + Y.size := by omega
     by_cases hyy : y = 92 ∨ y = 38
     ·have hk2 : k = 92 ∨ k = 38 := by rcases hyy with h | h <;> rw [← hk, h] <;> simp
      have hcat : O ++ Y = (⟨(tx ++ [y]).toArray⟩ : ByteArray) := by rw [HOS.out, hY, ba_append]
      have hst : (tx ++ [y]) ++ (tokM (wd.drop (i + 2))).flatMap (tkB fd) = TOT := by
       rw [h92] at hx; rw [tok_at_esc hx hy hyy] at htx; rw [← htx]; simp [tkB]
      have HCAT := zh hcat; have HST := zh hst; subst hm92; clear hcat hst htx hone hcatE hx hm hy hk hY hyy h92 hE hext hes hnov hnovF HONE HCE HX HM; rcases hk2 with rfl | rfl
      all_goals
       go_wp2_with fail
       go_roundw
       case rel => exact ⟨i + 2, _, by go_num, by rw [HCAT.out], by have := HN.out; omega, HST.out, rfl⟩
       case measure => first | (simp [intOf]; done) | (simp [intOf]; omega)
     ·have hk2 : k ≠ 92 ∧ k ≠ 38 := ⟨fun e => hyy (.inl (UInt8.toNat_inj.1 (by rw [hk, e]; rfl))), fun e => hyy (.inr (UInt8.toNat_inj.1 (by rw [hk, e]; rfl)))⟩; have t1 : ((k : Int) == 92) = false := beq_eq_false_iff_ne.2 (by omega); have t2 : ((k : Int) == 38) = false := beq_eq_false_iff_ne.2 (by omega); have HST := zh (hone (by rw [h92]; decide) (fun h => hyy (by rw [hy] at h; simpa using h.2))); subst hm92; clear htx hone hcatE hx hm hy hk hY hyy h92 hE hexy hys hnovY hnovF HONE HX HM hk2; go_wp2_with fail
      go_roundw
      case rel => exact ⟨i + 1, _, by go_num, by rw [HCE.out], by have := HN.out; omega, HST.out, rfl⟩
      case measure => first | (simp [intOf]; done) | (simp [intOf]; omega)
    ·have hi1I : ¬ ((i : Int) + 1 < (n : Int)) := by omega
     have hno : wd[i + 1]? = none := List.getElem?_eq_none (by have := HN.out; omega); have HST := zh (hone (by rw [h92]; decide) (fun h => by rw [hno] at h; simp at h)); subst hm92; clear htx hone hcatE hx hm h92 hE hnovF HONE HX HM hno; go_wp2_with fail
     go_roundw
     case rel => exact ⟨i + 1, _, by go_num, by rw [HCE.out], by have := HN.out; omega, HST.out, rfl⟩
     case measure => first | (simp [intOf]; done) | (simp [intOf]; omega)
   ·have hm92 : m ≠ 92 := fun e => h92 (UInt8.toNat_inj.1 (by rw [hm, e]; rfl)); have t1 : ((m : Int) == 92) = false := beq_eq_false_iff_ne.2 (by omega); by_cases h38 : x = 38
    ·have hm38 : m = 38 := by rw [← hm, h38]; rfl
     have hcat : O ++ F = (⟨(tx ++ fd).toArray⟩ : ByteArray) := by rw [HOS.out, HFD.out, ba_append]
     have hst : (tx ++ fd) ++ (tokM (wd.drop (i + 1))).flatMap (tkB fd) = TOT := by
      rw [h38] at hx; rw [tok_at_amp hx] at htx; rw [← htx]; simp [tkB]
     have HCAT := zh hcat; have HST := zh hst; subst hm38; clear hcat hst htx hone hcatE hx hm h92 h38 hE hext hes hnov HONE HCE HX HM t1 hm92; go_wp2_with fail
     go_roundw
     case rel => exact ⟨i + 1, _, by go_num, by rw [HCAT.out], by have := HN.out; omega, HST.out, rfl⟩
     case measure => first | (simp [intOf]; done) | (simp [intOf]; omega)
    ·have hm38 : m ≠ 38 := fun e => h38 (UInt8.toNat_inj.1 (by rw [hm, e]; rfl)); have t2 : ((m : Int) == 38) = false := beq_eq_false_iff_ne.2 (by omega); have HST := zh (hone h38 (fun h => h92 h.1)); clear htx hone hcatE hx hm h92 h38 hE hnovF HONE HX HM hm92 hm38; go_wp2_with fail
     go_roundw
     case rel => exact ⟨i + 1, _, by go_num, by rw [HCE.out], by have := HN.out; omega, HST.out, rfl⟩
     case measure => first | (simp [intOf]; done) | (simp [intOf]; omega)
  ·have hinI : ¬ ((i : Int) < (n : Int)) := by omega
   have hdr : wd.drop i = [] := List.drop_of_length_le (by rw [← HN.out]; exact hin); have htx := HTX.out; rw [hdr] at htx; have hOT : O = ⟨TOT.toArray⟩ := by rw [HOS.out, ← htx]; simp [tokM]
   have HOT := zh hOT; clear hOT htx hdr; go_wp2_with fail
   go_ret
   exact ⟨by (rw [HOT.out]; first | done | rfl), rfl⟩
set_option maxRecDepth 100000 in
set_option maxHeartbeats 4000000 in
theorem replace_nil (w : World) (WD S : ByteArray) (all : Bool) : Calls Tryz.prog 5 #[.pointer none, .string WD, .string S, .bool all] w fun e w' => e = .returned (.tuple #[.string ⟨#[]⟩, .int .i64 0, .iface 46 (.int .i64 1)]) ∧ Fr [] w w' := by
 refine calls_marks Tryz.func5 rfl ?_; simp only [Tryz.ntmps5, List.size_toArray, List.length_cons, List.length_nil, Nat.reduceAdd, Nat.reduceSub, Array.replicate_succ, Array.replicate_zero, List.push_toArray, List.append_toArray, List.nil_append, List.cons_append]; go_upto_region 1 with fail
 obtain ⟨b9, h9⟩ : ∃ x, x = w.heap.size + 1 + 1 := ⟨_, rfl⟩; obtain ⟨w3, hw3⟩ : ∃ w3, w3 = ((w.alloc (.cells #[.string S] 9)).alloc (.cells #[.bool all] 4)).alloc (.cells #[.int .i64 0] 3) := ⟨_, rfl⟩
 have k9 : Bk w3 b9 3 #[.int .i64 0] := by
  have h := Bk.new ((w.alloc (.cells #[.string S] 9)).alloc (.cells #[.bool all] 4)) 3 #[.int .i64 0]; rw [World.size_alloc, World.size_alloc] at h; rw [hw3, h9]; exact h
 have hf : Fr [] w w3 := by rw [hw3]; exact (((Fr.refl [] w).alloc _).alloc _).alloc _
 rw [← hw3, ← h9]; have HB : Hid (w.heap.size ≤ b9) := zh (by omega); have HF := zh hf; have HK := zh k9; have c9 : w3.cell? ⟨b9, 0, none⟩ = some (.int .i64 0) := k9.cell_ (i := 0) rfl; have z9 := k9.frozen 0; clear hf k9 hw3 h9; go_wp2_with fail
 have rc : (w3.setCell ⟨b9, 0, none⟩ (.int .i64 0)).cell? ⟨b9, 0, none⟩ = some (.int .i64 0) := (HK.out.put 0 (.int .i64 0)).cell_ (i := 0) rfl; refine ⟨.tuple #[.string ⟨#[]⟩, .int .i64 0, .iface 46 (.int .i64 1)], ?_, rfl, HF.out.setCell (.inr (by have := HB.out; show w.heap.size ≤ b9; omega)) _⟩; simp [results, Tryz.results5, go_sem, rc]
def RrRel (w0 : World) (ps : List (List UInt8 × Nat)) (s OUT : List UInt8) (FLA : List (Nat × Nat)) (v12 v13 v14 v15 : Value) (wr : World) : Prop := ∃ (i b : Nat) (tx : List UInt8), v15 = .int .i64 (i : Int) ∧ v14 = .int .i64 (i : Int) ∧ v13 = .int .i64 (b : Int) ∧ v12 = .string ⟨tx.toArray⟩ ∧ i ≤ FLA.length ∧ b ≤ s.length ∧
 tx ++ replF ps s (FLA.drop i) b = OUT ∧ (∀ q, FLA[i]? = some q → b ≤ q.1) ∧ Fr [] w0 wr
set_option maxRecDepth 100000 in
set_option maxHeartbeats 16000000 in
theorem rreplace_any {w : World} {L : List Sp} {C : List Value} (hC : C.length = 260) (hd : FdL L) (wd s : List UInt8) (all : Bool) (hwl : wd.length ≤ 1000) (hsl : s.length ≤ 500) (FLA : List (Nat × Nat)) (hFLA : FLA = if all then findsS L s else (findsS L s).take 1) (OUT : List UInt8) (hOUT : OUT = replF (piecesM wd) s FLA 0) (hout : OUT.length ≤ 65536)
    (hF : ∀ W, Fr [] w W → Calls Tryz.prog 20 #[.agg C.toArray, .string ⟨s.toArray⟩] W fun e w' => ∃ (A : Option Addr) (c : Nat), e = .returned (.slice A (findsS L s).length c) ∧ w'.ownsRow W.heap.size 79 3 (.slice A (findsS L s).length c) (findsS L s).length ((findsS L s).flatMap fcell) ∧ Fr [] W w') :
    Calls Tryz.prog 10 #[.agg C.toArray, .string ⟨wd.toArray⟩, .string ⟨s.toArray⟩, .bool all] w fun e w' => e = .returned (.tuple #[.string ⟨OUT.toArray⟩, .int .i64 (FLA.length : Int), .int .i64 0]) ∧ Fr [] w w' := by
 have hord := findsS_ord (tx := s) hd.1 hd.2.1; obtain ⟨FL, hFL⟩ : ∃ FL, FL = findsS L s := ⟨_, rfl⟩; rw [← hFL] at hord hF hFLA; obtain ⟨m, hm⟩ : ∃ m, m = FL.length := ⟨_, rfl⟩; rw [← hm] at hF; obtain ⟨ps, hps⟩ : ∃ ps, ps = piecesM wd := ⟨_, rfl⟩; rw [← hps] at hOUT; obtain ⟨fn, hfn⟩ : ∃ fn, fn = FLA.length := ⟨_, rfl⟩; obtain ⟨S, hS⟩ : ∃ S, S = (⟨s.toArray⟩ : ByteArray) := ⟨_, rfl⟩; obtain ⟨WD, hWD⟩ : ∃ S, S = (⟨wd.toArray⟩ : ByteArray) := ⟨_, rfl⟩; obtain ⟨M, hM⟩ : ∃ M, M = s.length := ⟨_, rfl⟩; have hs1 : S.size = M := by rw [hS, hM]; simp [ByteArray.size]
 have hBC : ∀ (W : World) (fd : List UInt8) (X : ByteArray), fd.length ≤ 500 → X = ⟨fd.toArray⟩ → Calls Tryz.prog 21 #[.string WD, .string X] W fun e w' => e = .returned (.string ⟨(becomeM ps fd).toArray⟩) ∧ W = w' := fun W fd X h1 h2 => by
  rw [hWD, h2, hps]; exact rbecome_any W wd fd hwl (by omega)
 have hmb : m ≤ 502 := by have := hord.2.2; omega
 have hfm : fn ≤ m := by rw [hfn, hm, hFLA]; split <;> simp <;> omega
 rw [← hS] at hF ⊢; rw [← hWD, ← hfn]; rw [← hM] at hsl; have HF := zh hF; have HM := zh hM; have HMF := zh hm; have HFN := zh hfn; have HFLA := zh hFLA; have HOUT := zh hOUT; have HOL := zh hout; have HORD := zh hord; have HS := zh hS; have HBC := zh hBC; obtain ⟨g, hg⟩ : ∃ g, g = w.heap.size := ⟨_, rfl⟩; have HGE := zh hg; clear hF hM hm hfn hFLA hOUT hout hord hS hBC hg hFL hps hWD hwl hd; go_enter Tryz.func10, Tryz.ntmps10
 go_upto_region 1 with (refine wpList_box_bk rfl 33 _ rfl C rfl ?_; intro w1 hz hf1; have HZ := zh hz; have HF1 := zh hf1; clear hz hf1)
 rw [← HGE.out]; have hz : Bk w1 g 33 C.toArray := by rw [HGE.out]; exact HZ.out
 have HZ := zh hz; clear hz
 go_upto_region 2 with (first
  | (refine wpList_load_bk rfl 33 _ rfl g 0 rfl C _ _ _ HZ.out (by intro j u hj; rw [Nat.zero_add, List.getElem?_toArray]; exact hj) Tryz.underlying33 rfl (by rw [hC]; exact rp_size) ?_)
  | (go_at_call 20; refine (HF.out w1 HF1.out).mono ?_; rintro e w2 ⟨FA, fc, rfl, hfo, hf⟩; have HFO := zh hfo; have HF2 := zh (HF1.out.trans hf); clear hfo hf))
 go_upto_region 6 with fail
 go_loopw [12, 13, 14, 15] (fun v12 v13 v14 v15 wr => RrRel w2 ps s OUT FLA v12 v13 v14 v15 wr) (fun _ _ _ v15 _ => fn + 1 - (intOf v15).toNat)
 case atStart => exact ⟨0, 0, [], rfl, rfl, rfl, rfl, Nat.zero_le _, Nat.zero_le _, by rw [List.drop_zero, HOUT.out]; rfl, fun _ _ => Nat.zero_le _, Fr.refl _ _⟩
 case round =>
  obtain ⟨i, b, tx, rfl, rfl, rfl, rfl, hi, hbM, htx, hbq, hfr⟩ := hrel; have hifn : i ≤ fn := by rw [HFN.out]; exact hi
  have hbM' : b ≤ M := by rw [HM.out]; exact hbM
  obtain ⟨O, hO⟩ : ∃ O, O = (⟨tx.toArray⟩ : ByteArray) := ⟨_, rfl⟩
  have hos : O.size ≤ 65536 := by
   have h1 : tx.length ≤ OUT.length := by rw [← htx, List.length_append]; omega
   have := HOL.out; rw [hO]; simp [ByteArray.size]; omega
  have HO := zh hO; have HTX := zh htx; have HBQ := zh hbq; have HFR := zh hfr; rw [← hO]; clear hO htx hbq hfr hi hbM; rcases Nat.lt_or_ge i fn with hin | hin
  ·have hinI : (i : Int) < (m : Int) := by omega
   obtain ⟨q, hq⟩ : ∃ q, FLA[i]? = some q := ⟨_, List.getElem?_eq_getElem (by rw [← HFN.out]; exact hin)⟩; have hqF := fla_get' HFLA.out hq; obtain ⟨x1, x2⟩ := q; obtain ⟨ho1, ho2⟩ := HORD.out.1 (x1, x2) (List.mem_of_getElem? hqF); have hbx := HBQ.out _ hq; have hst := repl_step hq HTX.out; dsimp only at ho1 ho2 hbx hst; have hx2 : x2 ≤ M := by rw [HM.out]; exact ho2
   have hnx : ∀ r, FLA[i + 1]? = some r → x2 ≤ r.1 := fun r hr => fla_next HORD.out.2.1 hqF (fla_get' HFLA.out hr); have hln := cat_len2 hst HOL.out; have hln2 : (tx ++ (s.drop b).take (x1 - b)).length + (becomeM ps ((s.drop x1).take (x2 - x1))).length ≤ 65536 := catz hst HOL.out; obtain ⟨wz, hwz⟩ : ∃ wz, wz = wr.drew := ⟨_, rfl⟩; have hfz : Fr [] w2 wz := by rw [hwz]; exact HFR.out.drew
   obtain ⟨FB, rfl, -, -, hcl⟩ := own_cells (own_keep HFO.out (KeepB.of_nil hfz)) (fun h0 => by
    have h1 := flat_len fcell_len FL; rw [h0] at h1
    have := HMF.out; simp at h1; omega)
   have e0 := hcl (i * 3 + 0) _ (flat_at fcell_len _ 0 (by omega) FL i hqF); have e1 := hcl (i * 3 + 1) _ (flat_at fcell_len _ 1 (by omega) FL i hqF); rw [Nat.add_zero] at e0; obtain ⟨T1, hT1⟩ : ∃ T1, S.extract b x1 = T1 := ⟨_, rfl⟩; obtain ⟨T2, hT2⟩ : ∃ T2, S.extract x1 x2 = T2 := ⟨_, rfl⟩; have hT1b : T1 = ⟨((s.drop b).take (x1 - b)).toArray⟩ := by rw [← hT1, HS.out, ba_extract]
   have hT2b : T2 = ⟨((s.drop x1).take (x2 - x1)).toArray⟩ := by rw [← hT2, HS.out, ba_extract]
   obtain ⟨fd, hfd⟩ : ∃ fd, fd = (s.drop x1).take (x2 - x1) := ⟨_, rfl⟩; have hfdl : fd.length ≤ 500 := by rw [hfd, List.length_take]; omega
   rw [← hfd] at hT2b hst hln2; obtain ⟨BC, hBC⟩ : ∃ BC, BC = (⟨(becomeM ps fd).toArray⟩ : ByteArray) := ⟨_, rfl⟩; obtain ⟨O1, hO1⟩ : ∃ O1, O ++ T1 = O1 := ⟨_, rfl⟩; have hO1b : O1 = ⟨(tx ++ (s.drop b).take (x1 - b)).toArray⟩ := by rw [← hO1, HO.out, hT1b, ba_append]
   have hcat : O1 ++ BC = ⟨(tx ++ (s.drop b).take (x1 - b) ++ becomeM ps fd).toArray⟩ := by rw [hO1b, hBC, ba_append]
   have hn1 : ¬ 9223372036854775807 < O.size + T1.size := by
    have : T1.size = ((s.drop b).take (x1 - b)).length := by rw [hT1b]; simp [ByteArray.size]
    omega
   have hn2 : ¬ 9223372036854775807 < O1.size + BC.size := by
    have h1 : O1.size = (tx ++ (s.drop b).take (x1 - b)).length := by rw [hO1b]; simp [ByteArray.size]
    have h2 : BC.size = (becomeM ps fd).length := by rw [hBC]; simp [ByteArray.size]
    omega
   have HCL : Hid (∀ W, Calls Tryz.prog 21 #[.string WD, .string T2] W fun e w' => e = .returned (.string BC) ∧ W = w') := zh (fun W => by rw [hBC]; exact HBC.out W fd T2 hfdl hT2b); have hq1I : (b : Int) ≤ (x1 : Int) := by omega
   have hq2I : (x1 : Int) ≤ (M : Int) := by omega
   have hq3I : (x1 : Int) ≤ (x2 : Int) := by omega
   have hq4I : (x2 : Int) ≤ (M : Int) := by omega
   have HCAT := zh hcat; have HST := zh hst; have HNX := zh hnx; have HFZ := zh hfz
   have hc0 : all = true ∨ all = false ∧ i = 0 := by
    cases hall : all with
    | true => exact .inl rfl
    | false =>
     refine .inr ⟨rfl, ?_⟩; have h1 : fn ≤ 1 := by rw [HFN.out, HFLA.out, hall]; simp; omega
     omega
   clear hq hqF ho1 ho2 hbx hst hnx hln hln2 hcl hT1b hT2b hfd hfdl hBC hO1b hcat hfz; rcases hc0 with rfl | ⟨rfl, rfl⟩
   ·go_upto_region 8 with fail
    refine wp_region_M_ (G := fun a b => a = b) (S := fun W => W = wr.drew) ⟨fun _ => rfl, fun a b c h k => h.trans k, fun a b h k => k ▸ h, by kernel_rfl, fun _ _ d _ _ h => by cases d <;> exact h⟩ (by kernel_rfl) fun su => ?_
    have SU := zh su; rw [← hwz]; have HSz : Hid (wz = wz) := zh rfl; rw [← hwz] at SU; clear su hwz; refine M_move (i := 0) _ SU.out rfl rfl (by kernel_rfl) HSz.out rfl ?_; simp only [Act.put, Act.eval, PE]; refine M_move (i := 1) _ SU.out rfl rfl (by kernel_rfl) HSz.out rfl ?_; simp only [Act.put, Act.eval, PE]; refine M_move (i := 2) _ SU.out rfl rfl (by kernel_rfl) HSz.out rfl ?_; simp only [Act.put, Act.eval, PE]; refine M_move (i := 3) _ SU.out rfl rfl (by kernel_rfl) HSz.out rfl ?_; simp only [Act.put, Act.eval, PE]; refine M_move (i := 4) _ SU.out rfl rfl (by kernel_rfl) HSz.out rfl ?_; simp only [Act.put, Act.eval, PE]; refine M_val (i := 5) (v := .pointer (some ⟨FB, i * 3, none⟩)) SU.out rfl (by kernel_rfl) HSz.out rfl (fun W hS => ?_) ?_
    ·obtain rfl := hS; go_simp
     try (first | done | rfl | omega | (exact IntWalk.i64_in _ (by omega)) | (simp; done) | (simp; omega))
    simp only [Act.put, PU]; refine M_val (i := 6) (v := .pointer (some ⟨FB, i * 3, none⟩)) SU.out rfl (by kernel_rfl) HSz.out rfl (fun W hS => ?_) ?_
    ·obtain rfl := hS; go_simp
     try (first | done | rfl | omega | (exact IntWalk.i64_in _ (by omega)) | (simp; done) | (simp; omega))
    simp only [Act.put, PU]; refine M_val (i := 7) (v := .int .i64 (x1 : Int)) SU.out rfl (by kernel_rfl) HSz.out rfl (fun W hS => ?_) ?_
    ·obtain rfl := hS; go_simp
     try (first | done | rfl | omega | (exact IntWalk.i64_in _ (by omega)) | (simp; done) | (simp; omega))
    simp only [Act.put, PU]; refine M_val (i := 8) (v := .string T1) SU.out rfl (by kernel_rfl) HSz.out rfl (fun W hS => ?_) ?_
    ·obtain rfl := hS; go_simp
     try (first | done | rfl | omega | (exact IntWalk.i64_in _ (by omega)) | (simp; done) | (simp; omega))
    simp only [Act.put, PU]; refine M_val (i := 9) (v := .string O1) SU.out rfl (by kernel_rfl) HSz.out rfl (fun W hS => ?_) ?_
    ·obtain rfl := hS; go_simp
     try (first | done | rfl | omega | (exact IntWalk.i64_in _ (by omega)) | (simp; done) | (simp; omega))
    simp only [Act.put, PU]; refine M_move (i := 10) _ SU.out rfl rfl (by kernel_rfl) HSz.out rfl ?_; simp only [Act.put, Act.eval, PE]; refine M_move (i := 11) _ SU.out rfl rfl (by kernel_rfl) HSz.out rfl ?_; simp only [Act.put, Act.eval, PE]; refine M_move (i := 12) _ SU.out rfl rfl (by kernel_rfl) HSz.out rfl ?_; simp only [Act.put, Act.eval, PE]; refine M_move (i := 13) _ SU.out rfl rfl (by kernel_rfl) HSz.out rfl ?_; simp only [Act.put, Act.eval, PE]; refine M_val (i := 14) (v := .pointer (some ⟨FB, i * 3, none⟩)) SU.out rfl (by kernel_rfl) HSz.out rfl (fun W hS => ?_) ?_
    ·obtain rfl := hS; go_simp
     try (first | done | rfl | omega | (exact IntWalk.i64_in _ (by omega)) | (simp; done) | (simp; omega))
    simp only [Act.put, PU]; refine M_val (i := 15) (v := .pointer (some ⟨FB, i * 3, none⟩)) SU.out rfl (by kernel_rfl) HSz.out rfl (fun W hS => ?_) ?_
    ·obtain rfl := hS; go_simp
     try (first | done | rfl | omega | (exact IntWalk.i64_in _ (by omega)) | (simp; done) | (simp; omega))
    simp only [Act.put, PU]; refine M_val (i := 16) (v := .int .i64 (x1 : Int)) SU.out rfl (by kernel_rfl) HSz.out rfl (fun W hS => ?_) ?_
    ·obtain rfl := hS; go_simp
     try (first | done | rfl | omega | (exact IntWalk.i64_in _ (by omega)) | (simp; done) | (simp; omega))
    simp only [Act.put, PU]; refine M_move (i := 17) _ SU.out rfl rfl (by kernel_rfl) HSz.out rfl ?_; simp only [Act.put, Act.eval, PE]; refine M_move (i := 18) _ SU.out rfl rfl (by kernel_rfl) HSz.out rfl ?_; simp only [Act.put, Act.eval, PE]; refine M_val (i := 19) (v := .pointer (some ⟨FB, i * 3, none⟩)) SU.out rfl (by kernel_rfl) HSz.out rfl (fun W hS => ?_) ?_
    ·obtain rfl := hS; go_simp
     try (first | done | rfl | omega | (exact IntWalk.i64_in _ (by omega)) | (simp; done) | (simp; omega))
    simp only [Act.put, PU]; refine M_val (i := 20) (v := .pointer (some ⟨FB, i * 3 + 1, none⟩)) SU.out rfl (by kernel_rfl) HSz.out rfl (fun W hS => ?_) ?_
    ·obtain rfl := hS; go_simp
     try (first | done | rfl | omega | (exact IntWalk.i64_in _ (by omega)) | (simp; done) | (simp; omega))
    simp only [Act.put, PU]; refine M_val (i := 21) (v := .int .i64 (x2 : Int)) SU.out rfl (by kernel_rfl) HSz.out rfl (fun W hS => ?_) ?_
    ·obtain rfl := hS; go_simp
     try (first | done | rfl | omega | (exact IntWalk.i64_in _ (by omega)) | (simp; done) | (simp; omega))
    simp only [Act.put, PU]; refine M_val (i := 22) (v := .string T2) SU.out rfl (by kernel_rfl) HSz.out rfl (fun W hS => ?_) ?_
    ·obtain rfl := hS; go_simp
     try (first | done | rfl | omega | (exact IntWalk.i64_in _ (by omega)) | (simp; done) | (simp; omega))
    simp only [Act.put, PU]; refine M_call (i := 23) (v := .string BC) SU.out rfl (by kernel_rfl) HSz.out rfl (fun V hS => (HCL.out V).mono fun e w' h => ?_) (fun V => ?_) ?_
    ·obtain ⟨h1, h2⟩ := h; exact ⟨h1, h2⟩
    ·go_simp
    simp only [Act.put, PU]; refine M_val (i := 24) (v := .string (O1 ++ BC)) SU.out rfl (by kernel_rfl) HSz.out rfl (fun W hS => ?_) ?_
    ·obtain rfl := hS; go_simp
     try (first | done | rfl | omega | (exact IntWalk.i64_in _ (by omega)) | (simp; done) | (simp; omega))
    simp only [Act.put, PU]; refine M_val (i := 25) (v := .string (O1 ++ BC)) SU.out rfl (by kernel_rfl) HSz.out rfl (fun W hS => ?_) ?_
    ·obtain rfl := hS; go_simp
     try (first | done | rfl | omega | (exact IntWalk.i64_in _ (by omega)) | (simp; done) | (simp; omega))
    simp only [Act.put, PU]; refine wpAnyM_done (by kernel_rfl) (fun w' hG => ?_); obtain rfl := hG; go_wp2_with fail
    go_roundw
    case rel => exact ⟨i + 1, x2, _, by first | go_num | rfl, by first | go_num | rfl, rfl, by rw [HCAT.out], by have := HFN.out; omega, by have := HM.out; omega, by simpa using HST.out, by simpa using HNX.out, HFZ.out⟩
    case measure => first | (simp [intOf]; done) | (simp [intOf]; omega)
   ·go_upto_region 8 with fail
    refine wp_region_M_ (G := fun a b => a = b) (S := fun W => W = wr.drew) ⟨fun _ => rfl, fun a b c h k => h.trans k, fun a b h k => k ▸ h, by kernel_rfl, fun _ _ d _ _ h => by cases d <;> exact h⟩ (by kernel_rfl) fun su => ?_
    have SU := zh su; rw [← hwz]; have HSz : Hid (wz = wz) := zh rfl; rw [← hwz] at SU; clear su hwz; refine M_move (i := 0) _ SU.out rfl rfl (by kernel_rfl) HSz.out rfl ?_; simp only [Act.put, Act.eval, PE]; refine M_move (i := 1) _ SU.out rfl rfl (by kernel_rfl) HSz.out rfl ?_; simp only [Act.put, Act.eval, PE]; refine M_move (i := 2) _ SU.out rfl rfl (by kernel_rfl) HSz.out rfl ?_; simp only [Act.put, Act.eval, PE]; refine M_move (i := 3) _ SU.out rfl rfl (by kernel_rfl) HSz.out rfl ?_; simp only [Act.put, Act.eval, PE]; refine M_move (i := 4) _ SU.out rfl rfl (by kernel_rfl) HSz.out rfl ?_; simp only [Act.put, Act.eval, PE]; refine M_val (i := 5) (v := .pointer (some ⟨FB, 0 * 3, none⟩)) SU.out rfl (by kernel_rfl) HSz.out rfl (fun W hS => ?_) ?_
    ·obtain rfl := hS; go_simp
     try (first | done | rfl | omega | (exact IntWalk.i64_in _ (by omega)) | (simp; done) | (simp; omega))
    simp only [Act.put, PU]; refine M_val (i := 6) (v := .pointer (some ⟨FB, 0 * 3, none⟩)) SU.out rfl (by kernel_rfl) HSz.out rfl (fun W hS => ?_) ?_
    ·obtain rfl := hS; go_simp
     try (first | done | rfl | omega | (exact IntWalk.i64_in _ (by omega)) | (simp; done) | (simp; omega))
    simp only [Act.put, PU]; refine M_val (i := 7) (v := .int .i64 (x1 : Int)) SU.out rfl (by kernel_rfl) HSz.out rfl (fun W hS => ?_) ?_
    ·obtain rfl := hS; go_simp
     try (first | done | rfl | omega | (exact IntWalk.i64_in _ (by omega)) | (simp; done) | (simp; omega))
    simp only [Act.put, PU]; refine M_val (i := 8) (v := .string T1) SU.out rfl (by kernel_rfl) HSz.out rfl (fun W hS => ?_) ?_
    ·obtain rfl := hS; go_simp
     try (first | done | rfl | omega | (exact IntWalk.i64_in _ (by omega)) | (simp; done) | (simp; omega))
    simp only [Act.put, PU]; refine M_val (i := 9) (v := .string O1) SU.out rfl (by kernel_rfl) HSz.out rfl (fun W hS => ?_) ?_
    ·obtain rfl := hS; go_simp
     try (first | done | rfl | omega | (exact IntWalk.i64_in _ (by omega)) | (simp; done) | (simp; omega))
    simp only [Act.put, PU]; refine M_move (i := 10) _ SU.out rfl rfl (by kernel_rfl) HSz.out rfl ?_; simp only [Act.put, Act.eval, PE]; refine M_move (i := 11) _ SU.out rfl rfl (by kernel_rfl) HSz.out rfl ?_; simp only [Act.put, Act.eval, PE]; refine M_move (i := 12) _ SU.out rfl rfl (by kernel_rfl) HSz.out rfl ?_; simp only [Act.put, Act.eval, PE]; refine M_move (i := 13) _ SU.out rfl rfl (by kernel_rfl) HSz.out rfl ?_; simp only [Act.put, Act.eval, PE]; refine M_val (i := 14) (v := .pointer (some ⟨FB, 0 * 3, none⟩)) SU.out rfl (by kernel_rfl) HSz.out rfl (fun W hS => ?_) ?_
    ·obtain rfl := hS; go_simp
     try (first | done | rfl | omega | (exact IntWalk.i64_in _ (by omega)) | (simp; done) | (simp; omega))
    simp only [Act.put, PU]; refine M_val (i := 15) (v := .pointer (some ⟨FB, 0 * 3, none⟩)) SU.out rfl (by kernel_rfl) HSz.out rfl (fun W hS => ?_) ?_
    ·obtain rfl := hS; go_simp
     try (first | done | rfl | omega | (exact IntWalk.i64_in _ (by omega)) | (simp; done) | (simp; omega))
    simp only [Act.put, PU]; refine M_val (i := 16) (v := .int .i64 (x1 : Int)) SU.out rfl (by kernel_rfl) HSz.out rfl (fun W hS => ?_) ?_
    ·obtain rfl := hS; go_simp
     try (first | done | rfl | omega | (exact IntWalk.i64_in _ (by omega)) | (simp; done) | (simp; omega))
    simp only [Act.put, PU]; refine M_move (i := 17) _ SU.out rfl rfl (by kernel_rfl) HSz.out rfl ?_; simp only [Act.put, Act.eval, PE]; refine M_move (i := 18) _ SU.out rfl rfl (by kernel_rfl) HSz.out rfl ?_; simp only [Act.put, Act.eval, PE]; refine M_val (i := 19) (v := .pointer (some ⟨FB, 0 * 3, none⟩)) SU.out rfl (by kernel_rfl) HSz.out rfl (fun W hS => ?_) ?_
    ·obtain rfl := hS; go_simp
     try (first | done | rfl | omega | (exact IntWalk.i64_in _ (by omega)) | (simp; done) | (simp; omega))
    simp only [Act.put, PU]; refine M_val (i := 20) (v := .pointer (some ⟨FB, 0 * 3 + 1, none⟩)) SU.out rfl (by kernel_rfl) HSz.out rfl (fun W hS => ?_) ?_
    ·obtain rfl := hS; go_simp
     try (first | done | rfl | omega | (exact IntWalk.i64_in _ (by omega)) | (simp; done) | (simp; omega))
    simp only [Act.put, PU]; refine M_val (i := 21) (v := .int .i64 (x2 : Int)) SU.out rfl (by kernel_rfl) HSz.out rfl (fun W hS => ?_) ?_
    ·obtain rfl := hS; go_simp
     try (first | done | rfl | omega | (exact IntWalk.i64_in _ (by omega)) | (simp; done) | (simp; omega))
    simp only [Act.put, PU]; refine M_val (i := 22) (v := .string T2) SU.out rfl (by kernel_rfl) HSz.out rfl (fun W hS => ?_) ?_
    ·obtain rfl := hS; go_simp
     try (first | done | rfl | omega | (exact IntWalk.i64_in _ (by omega)) | (simp; done) | (simp; omega))
    simp only [Act.put, PU]; refine M_call (i := 23) (v := .string BC) SU.out rfl (by kernel_rfl) HSz.out rfl (fun V hS => (HCL.out V).mono fun e w' h => ?_) (fun V => ?_) ?_
    ·obtain ⟨h1, h2⟩ := h; exact ⟨h1, h2⟩
    ·go_simp
    simp only [Act.put, PU]; refine M_val (i := 24) (v := .string (O1 ++ BC)) SU.out rfl (by kernel_rfl) HSz.out rfl (fun W hS => ?_) ?_
    ·obtain rfl := hS; go_simp
     try (first | done | rfl | omega | (exact IntWalk.i64_in _ (by omega)) | (simp; done) | (simp; omega))
    simp only [Act.put, PU]; refine M_val (i := 25) (v := .string (O1 ++ BC)) SU.out rfl (by kernel_rfl) HSz.out rfl (fun W hS => ?_) ?_
    ·obtain rfl := hS; go_simp
     try (first | done | rfl | omega | (exact IntWalk.i64_in _ (by omega)) | (simp; done) | (simp; omega))
    simp only [Act.put, PU]; refine wpAnyM_done (by kernel_rfl) (fun w' hG => ?_); obtain rfl := hG; go_wp2_with fail
    go_roundw
    case rel => exact ⟨0 + 1, x2, _, by first | go_num | rfl, by first | go_num | rfl, rfl, by rw [HCAT.out], by have := HFN.out; omega, by have := HM.out; omega, by simpa using HST.out, by simpa using HNX.out, HFZ.out⟩
    case measure => first | (simp [intOf]; done) | (simp [intOf]; omega)
  ·have hend : i = fn := by omega
   have hdr : FLA.drop i = [] := List.drop_of_length_le (by rw [← HFN.out]; exact hin); obtain ⟨T3, hT3⟩ : ∃ T3, S.extract b M = T3 := ⟨_, rfl⟩; have htx := HTX.out; rw [hdr, replF] at htx
   have hT3b : T3 = ⟨(s.drop b).toArray⟩ := by
    rw [← hT3, HS.out, ba_extract, List.take_of_length_le (by rw [List.length_drop, ← HM.out]; exact Nat.le_refl _)]
   have hcat : O ++ T3 = ⟨OUT.toArray⟩ := by rw [HO.out, hT3b, ba_append, htx]
   have hts : T3.size ≤ 500 := by rw [hT3b]; simp [ByteArray.size]; have := HM.out; omega
   have hnov : ¬ 9223372036854775807 < O.size + T3.size := by omega
   obtain ⟨P, hP⟩ : ∃ P, O ++ T3 = P := ⟨_, rfl⟩; have hPs : P.size ≤ 65536 := by rw [← hP, hcat]; have := HOL.out; simpa [ByteArray.size] using this
   have hPI : ¬ ((65536 : Int) < (P.size : Int)) := by omega
   have HPO : Hid (P = ⟨OUT.toArray⟩) := zh (by rw [← hP, hcat]); have hq1I : (b : Int) ≤ (M : Int) := by omega
   have hc0 : (all = true ∧ ¬ ((i : Int) < (m : Int))) ∨ (all = false ∧ ¬ ((i : Int) < (m : Int))) ∨ (all = false ∧ (i : Int) < (m : Int) ∧ ((i : Int) == 0) = false) := by
    have h1 := HFN.out; have h2 := HMF.out; rw [HFLA.out] at h1
    cases all with
    | true => simp at h1; exact .inl ⟨rfl, by omega⟩
    | false =>
     simp at h1; rcases Nat.lt_or_ge i m with h3 | h3
     ·exact .inr (.inr ⟨rfl, by omega, beq_eq_false_iff_ne.2 (by omega)⟩)
     ·exact .inr (.inl ⟨rfl, by omega⟩)
   have HEND := zh hend; clear htx hT3b hcat hts hdr hend; rcases hc0 with ⟨rfl, hinI⟩ | ⟨rfl, hinI⟩ | ⟨rfl, hinI, h0I⟩
   all_goals
    go_wp2_with fail
    go_ret3
    refine ⟨?_, HF2.out.trans HFR.out⟩; rw [HPO.out, ← HEND.out]; first | done | rfl
end Go.Proofs.YteofhjegaaoglaaGreat
namespace Go.Proofs.YteofhjegaaoglaaGreat
open Go.RowKit
set_option linter.unusedVariables false
set_option linter.unusedSimpArgs false
theorem wpList_load_midG {P : Program} {ops : Array Oper} {rest : List Oper} {op : Oper} {a : Act} {w : World} {Q : Exit → Act → World → Prop} (hgd : Region.wanted op (yielded ops a.tmps) = true) (ty : TypeId) (x : Operand) (ho : op.op = .load ty x)
    (b o : Nat) (hx : a.eval x = .pointer (some ⟨b, o, none⟩)) (cs : List Value) (d : TypeDesc) (hc : w.rangeAt b o cs)
    (hu : P.underlying ty = some d) (hd : d.isRow = true) (hi : (P.info? ty).map (·.size) = some cs.length)
    (h : wpList P ops Q rest (a.put op.dst (.agg cs.toArray)) w) : wpList P ops Q (op :: rest) a w :=
 wpList_wanted hgd fun K hKK => wp_load_mid ty x ho b o hx cs d hc hu hd hi (hKK _ _ h)
theorem beqz (a : ByteArray) : (a == a) = true := by
 cases a with
 | mk d => show (d == d) = true; exact beq_self_eq_true d
theorem out_len {L : List Sp} (hd : FdL L) (wd s : List UInt8) (all : Bool) (hw : wd.length ≤ 60) (hs : s.length ≤ 60) : (replF (piecesM wd) s (if all then findsS L s else (findsS L s).take 1) 0).length ≤ 65536 := by
 obtain ⟨o1, o2, o3⟩ := findsS_ord (tx := s) hd.1 hd.2.1
 have key : ∀ FL : List (Nat × Nat), (∀ q ∈ FL, q ∈ findsS L s) → FL.Pairwise (fun p q => p.2 ≤ q.1) → FL.length ≤ 62 → (replF (piecesM wd) s FL 0).length ≤ 65536 := fun FL h1 h2 h3 => by
  have h := repl_len (w := wd) (s := s) FL 0 (Nat.zero_le _) (fun q hq => o1 q (h1 q hq)) (fun _ _ => Nat.zero_le _) h2; have h4 : wd.length * (s.length - 0 + FL.length) ≤ 60 * 122 := Nat.mul_le_mul hw (by omega); omega
 cases all with
 | true => rw [if_pos rfl]; exact key _ (fun q hq => hq) o2 (by omega)
 | false => rw [if_neg (by decide)]; exact key _ (fun q hq => List.mem_of_mem_take hq) (o2.sublist (List.take_sublist _ _)) (by simp; omega)
set_option maxRecDepth 100000 in
set_option maxHeartbeats 16000000 in
theorem replace7_walk {w : World} (hg : GlobOk w) {A : Option Addr} {a : List UInt8} {ca : Nat} (ha : Bytes w A a) (hac : a.length ≤ ca) (hna : A = none → ca = 0) (hma : ca ≤ maxLen) (wd s : List UInt8) (all : Bool) :
    Calls Tryz.prog 3 #[.slice A a.length ca, .string ⟨wd.toArray⟩, .string ⟨s.toArray⟩, .bool all] w fun e w' => e = .returned (.bool true) ∧ Fr [] w w' := by
 have HAW := zh (awake_ok w hg); obtain ⟨la, hla⟩ : ∃ L, L = a.length := ⟨_, rfl⟩; obtain ⟨WD, hWD⟩ : ∃ S, S = (⟨wd.toArray⟩ : ByteArray) := ⟨_, rfl⟩; obtain ⟨S, hS⟩ : ∃ S, S = (⟨s.toArray⟩ : ByteArray) := ⟨_, rfl⟩; obtain ⟨lw, hlw⟩ : ∃ L, L = wd.length := ⟨_, rfl⟩; obtain ⟨L, hL⟩ : ∃ L, L = s.length := ⟨_, rfl⟩; have hw1 : WD.size = lw := by rw [hWD, hlw]; simp [ByteArray.size]
 have hs1 : S.size = L := by rw [hS, hL]; simp [ByteArray.size]
 rw [← hla, ← hWD, ← hS]; rw [← hla] at hac; by_cases h40 : 40 < la
 ·have hI : (40 : Int) < (la : Int) := by omega
  clear hS hL hla hWD hlw ha hg; go_enter Tryz.func3, Tryz.ntmps3
  go_wp2_with (go_at_call 4; refine HAW.out.mono ?_; rintro e w1 ⟨rfl, hf⟩; have HX := zh hf; clear hf)
  go_ret
  exact ⟨rfl, HX.out⟩
 have hI : ¬ ((40 : Int) < (la : Int)) := by omega
 by_cases h60 : 60 < lw
 ·have hJ : (60 : Int) < (lw : Int) := by omega
  clear hS hL hla hWD hlw ha hg; go_enter Tryz.func3, Tryz.ntmps3
  go_wp2_with (go_at_call 4; refine HAW.out.mono ?_; rintro e w1 ⟨rfl, hf⟩; have HX := zh hf; clear hf)
  go_ret
  exact ⟨rfl, HX.out⟩
 have hJ : ¬ ((60 : Int) < (lw : Int)) := by omega
 by_cases h61 : 60 < L
 ·have hK : (60 : Int) < (L : Int) := by omega
  clear hS hL hla hWD hlw ha hg; go_enter Tryz.func3, Tryz.ntmps3
  go_wp2_with (go_at_call 4; refine HAW.out.mono ?_; rintro e w1 ⟨rfl, hf⟩; have HX := zh hf; clear hf)
  go_ret
  exact ⟨rfl, HX.out⟩
 have hK : ¬ ((60 : Int) < (L : Int)) := by omega
 have HNEW : Hid (∀ W, Fr [] w W → Calls Tryz.prog 9 #[.slice A la ca] W (NewPost W (parseS a))) := zh (fun W hf => by
  rw [hla]
  exact new_any (ha.fr hf (by simp)) (by omega) (by omega) hna hma (hg.fr hf))
 have HBY := zh ha; have HLA := zh hla; have HWD := zh hWD; have HS := zh hS; have HLW := zh hlw; have HL := zh hL; have HG := zh hg; clear hS hL hla hWD hlw ha hg hna hma; rcases hY : parseS a with ⟨q, code⟩ | t
 ·have HCL : Hid (∀ W, Calls Tryz.prog 7 #[.string ⟨a.toArray⟩] W fun e w' => Fr [] W w' ∧ 0 < code ∧ e = .returned (.agg (gotC zeroPC 0 (code : Int) (q : Int)).toArray)) := zh (fun W => by
   have := rparse_any a W; rw [hY] at this; exact this)
  clear hY HNEW; go_enter Tryz.func3, Tryz.ntmps3
  go_upto_region 8 with (first
   | (go_at_call 4; refine HAW.out.mono ?_; rintro e w1 ⟨rfl, hf⟩; have HX := zh hf; clear hf)
   | (go_at_call 5; refine (replace_nil _ _ _ _).mono ?_; rintro e w2 ⟨rfl, hf⟩; have HX := zh (HX.out.trans hf); clear hf)
   | (go_at_call 6; refine (code_errno 1 _ (by decide) (by decide)).mono ?_; rintro e w3 ⟨rfl, rfl⟩))
  have HBY2 := zh (HBY.out.fr HX.out (by simp))
  go_wp2_with (first
   | (refine wpList_str rfl 22 9 (.tmp 47) rfl 5 Tryz.underlying22 Tryz.underlying5 Tryz.underlying9 A la ca rfl a HBY2.out (by first | exact HLA.out | exact HLA.out.symm) ?_)
   | (go_at_call 7; refine (HCL.out _).mono ?_; rintro e w4 ⟨hf, hc0, rfl⟩; have hcI : ((code : Int) != 0) = true := (by simp; omega); have HX4 := zh (HX.out.trans hf); clear hf)
   | (refine wpList_alloc_bk rfl 35 rfl (gotC zeroPC 0 0 0) 263 rg_zero ?_; intro wA1 hzA hfA; have HZA1 := zh hzA; have HX5 := zh (HX4.out.trans hfA); clear hzA hfA)
   | (refine wpList_store_bk rfl 35 _ _ rfl w4.heap.size (gotC zeroPC 0 (code : Int) (q : Int)) rfl rfl _ _ HZA1.out (by rw [gotC_len zeroPC_len]; exact rg_size) (by rw [gotC_len zeroPC_len, List.size_toArray, gotC_len zeroPC_len]) (gotC_one zeroPC_one _ _ _) ?_; intro wS1 hzS hfS; have HX6 : Hid (Fr [] w wS1) := zh (HX5.out.trans' hfS (by simp; have := HX4.out.size; omega)); have c261 := hzS.cellL (gotC_e zeroPC_len _ _ _); clear hzS hfS))
  go_ret
  exact ⟨rfl, HX6.out⟩
 ·obtain ⟨hrt, hct⟩ := parse_good hY
  have HCL : Hid (∀ W, Calls Tryz.prog 7 #[.string ⟨a.toArray⟩] W fun e w' => Fr [] W w' ∧ ∃ (p : PT) (j : Nat), e = .returned (.agg (gotC p.rcells (j : Int) 0 0).toArray) ∧ NewR W.heap.size w' t p) := zh (fun W => by
   have := rparse_any a W; rw [hY] at this; exact this)
  have HNW : Hid (∀ W, Fr [] w W → Calls Tryz.prog 9 #[.slice A la ca] W (NewPost W (.ok t))) := zh (fun W hf => by have := HNEW.out W hf; rw [hY] at this; exact this); have HY := zh hY; have HRT := zh hrt; have HCT := zh hct; clear hY HNEW hrt hct; go_enter Tryz.func3, Tryz.ntmps3
  go_upto_region 8 with (first
   | (go_at_call 4; refine HAW.out.mono ?_; rintro e w1 ⟨rfl, hf⟩; have HX := zh hf; clear hf)
   | (go_at_call 5; refine (replace_nil _ _ _ _).mono ?_; rintro e w2 ⟨rfl, hf⟩; have HX := zh (HX.out.trans hf); clear hf)
   | (go_at_call 6; refine (code_errno 1 _ (by decide) (by decide)).mono ?_; rintro e w3 ⟨rfl, rfl⟩))
  have HBY2 := zh (HBY.out.fr HX.out (by simp))
  go_upto_region 9 with (first
   | (refine wpList_str rfl 22 9 (.tmp 47) rfl 5 Tryz.underlying22 Tryz.underlying5 Tryz.underlying9 A la ca rfl a HBY2.out (by first | exact HLA.out | exact HLA.out.symm) ?_)
   | (go_at_call 7; refine (HCL.out _).mono ?_; rintro e w4 ⟨hf, p, j, rfl, hn⟩; have HN4 := zh hn; have HX4 := zh (HX.out.trans hf); clear hf hn)
   | (refine wpList_alloc_bk rfl 35 rfl (gotC zeroPC 0 0 0) 263 rg_zero ?_; intro wA1 hzA hfA; have HZA1 := zh hzA; have HX5 := zh (HX4.out.trans hfA); have HN5 := zh (HN4.out.fr_nil hfA); clear hzA hfA)
   | (refine wpList_store_bk rfl 35 _ _ rfl w4.heap.size (gotC p.rcells (j : Int) 0 0) rfl rfl _ _ HZA1.out (by rw [gotC_len (rcells_len p)]; exact rg_size) (by rw [gotC_len (rcells_len p), List.size_toArray, gotC_len zeroPC_len]) (gotC_one (rcells_one p) _ _ _) ?_; intro wS1 hzS hfS; have HZS1 := zh hzS; have HX6 : Hid (Fr [] w wS1) := zh (HX5.out.trans' hfS (by simp; have := HX4.out.size; omega)); have HN6 := zh (HN5.out.fr hfS (by simp; right; intro hm; have := (HN4.out.new _ hm).2; omega)); have c261 := hzS.cellL (gotC_e (rcells_len p) _ _ _); clear hzS hfS))
  have hcnt : cntP p ≤ 5000 := by rw [HN6.out.rep.cnt]; have := HCT.out; have := HLA.out; omega
  have HGR : Hid (∀ W, Fr [] wS1 W → Calls Tryz.prog 8 #[.agg p.rcells.toArray] W fun e w' => (∃ k : Int, e = .returned (.int .i64 k)) ∧ Fr [] W w') := zh (fun W hf => times_any (cntP p + 1) p (by omega) hcnt W (HN6.out.mem.fr_nil hf)); have HEN : Hid (EndsOk s p) := zh (ends_any (by have := HL.out; omega) (cntP p + 1) p (by omega) hcnt (by rw [HN6.out.rep.right]; exact HRT.out)); clear hcnt
  go_upto_if 58 with (first
   | (refine wpList_load_midG rfl 33 _ rfl w4.heap.size 0 rfl p.rcells _ (fun j v hv => by rw [Nat.zero_add]; exact HZS1.out.cellL (gotC_p _ _ _ hv)) Tryz.underlying33 rfl (by rw [rcells_len]; exact rp_size) ?_)
   | (go_at_call 8; refine (HGR.out _ (Fr.refl _ _)).mono ?_; rintro e w5 ⟨⟨kk, rfl⟩, hf5⟩; have HF5 := zh hf5; clear hf5))
  have HX7 := zh (HX6.out.trans HF5.out); have HZ7 := zh (HZS1.out.fr HF5.out (by simp)); have HN7 := zh (HN6.out.fr_nil HF5.out); clear c261; by_cases hkk : 300 < kk
  ·go_wp2_with fail
   go_ret
   exact ⟨rfl, HX7.out⟩
  have hkI : ¬ ((300 : Int) < kk) := by omega
  by_cases hbig : 4000 ≤ sizP (toP t)
  ·have HNB : Hid (∀ W, Fr [] w W → Calls Tryz.prog 9 #[.slice A la ca] W fun e w' => Fr [] W w' ∧ ∃ fg, e = .returned (.tuple #[.pointer none, .iface 71 (.pointer (some ⟨fg, 0, none⟩))])) := zh (fun W hf => by
    refine (HNW.out W hf).mono fun e w' hp => ?_; obtain ⟨h1, h2⟩ := hp; dsimp only at h2; rw [if_pos hbig] at h2; obtain ⟨v, h2, g, rfl, h3⟩ := h2
    exact ⟨h1, g, h2⟩)
   clear HNW hbig; go_wp2_with (go_at_call 9; refine (HNB.out _ HX7.out).mono ?_; rintro e w8 ⟨hf, fg, rfl⟩; have HX8 := zh (HX7.out.trans hf); clear hf)
   go_ret
   exact ⟨rfl, HX8.out⟩
  ·have hsz : sizP (toP t) < 4000 := by omega
   have HNB : Hid (∀ W, Fr [] w W → Calls Tryz.prog 9 #[.slice A la ca] W fun e w' => Fr [] W w' ∧ ∃ fb, e = .returned (.tuple #[.pointer (some ⟨fb, 0, none⟩), .nilIface]) ∧ FinderAt w' W.heap.size fb (progT t)) := zh (fun W hf => by
    refine (HNW.out W hf).mono fun e w' hp => ?_; obtain ⟨h1, h2⟩ := hp; dsimp only at h2; rw [if_neg hbig] at h2; obtain ⟨fb, h2, -, h3⟩ := h2
    exact ⟨h1, fb, h2, h3⟩)
   have hd := fdl_of HY.out hsz; obtain ⟨FLA, hFLA⟩ : ∃ FLA, FLA = if all then findsS (progT t) s else (findsS (progT t) s).take 1 := ⟨_, rfl⟩; obtain ⟨OUT, hOUT⟩ : ∃ OUT, OUT = replF (piecesM wd) s FLA 0 := ⟨_, rfl⟩; have hol : OUT.length ≤ 65536 := by rw [hOUT, hFLA]; exact out_len hd wd s all (by have := HLW.out; omega) (by have := HL.out; omega)
   obtain ⟨OB, hOB⟩ : ∃ OB, OB = (⟨OUT.toArray⟩ : ByteArray) := ⟨_, rfl⟩; obtain ⟨fn, hfn⟩ : ∃ n, n = FLA.length := ⟨_, rfl⟩
   have HRP : Hid (∀ W lo fb, FinderAt W lo fb (progT t) → Calls Tryz.prog 5 #[.pointer (some ⟨fb, 0, none⟩), .string WD, .string S, .bool all] W fun e w' => e = .returned (.tuple #[.string OB, .int .i64 (fn : Int), .nilIface]) ∧ Fr [] W w') := zh (fun W lo fb hF => by
    rw [HWD.out, HS.out]; refine (replace_any hF hd wd s all (by have := HLW.out; omega) (by have := HL.out; omega) FLA hFLA OUT hOUT hol).mono fun e w' hp => ?_; unfold ReplPost at hp
    rw [hOB, hfn]; exact hp)
   have HRR : Hid (∀ W, Fr [] w5 W → Calls Tryz.prog 10 #[.agg p.rcells.toArray, .string WD, .string S, .bool all] W fun e w' => e = .returned (.tuple #[.string OB, .int .i64 (fn : Int), .int .i64 0]) ∧ Fr [] W w') := zh (fun W hW => by
    rw [HWD.out, HS.out, hOB, hfn]
    exact rreplace_any (rcells_len p) hd wd s all (by have := HLW.out; omega) (by have := HL.out; omega) FLA hFLA OUT hOUT hol (fun V hV => rfinds_any (rcells_len p) (by have := HL.out; omega) ⟨hd.1, hd.2.1⟩ (fun U hU x hx =>
     rfind_any (by have := HL.out; omega) HEN.out (HN7.out.mem.fr_nil (hW.trans (hV.trans hU))) hx (fndP_of HY.out HN7.out.rep ⟨hd.1, hd.2.1⟩ hx))))
   have eO := beqz OB; clear HNW hbig hsz hd hFLA hOUT hol hOB hfn; go_upto_region 12 with (go_at_call 9; refine (HNB.out _ HX7.out).mono ?_; rintro e w8 ⟨hf, fb, rfl, hfi⟩; have HX8 := zh (HX7.out.trans hf); have HW8 := zh hf; have HFI := zh hfi; clear hf hfi)
   go_upto_region 15 with (go_at_call 5; refine (HRP.out _ _ _ HFI.out).mono ?_; rintro e w9 ⟨rfl, hf⟩; have HX9 := zh (HX8.out.trans hf); have HW9 := zh (HW8.out.trans hf); clear hf)
   have HZ9 := zh (HZ7.out.fr HW9.out (by simp))
   go_upto_region 16 with (first
    | (refine wpList_load_mid rfl 33 _ rfl w4.heap.size 0 rfl p.rcells _ (fun j v hv => by rw [Nat.zero_add]; exact HZ9.out.cellL (gotC_p _ _ _ hv)) Tryz.underlying33 rfl (by rw [rcells_len]; exact rp_size) ?_)
    | (go_at_call 10; refine (HRR.out _ HW9.out).mono ?_; rintro e w10 ⟨rfl, hf⟩; have HX10 := zh (HX9.out.trans hf); clear hf))
   go_wp2_with (go_at_call 6; refine (code_nil _).mono ?_; rintro e w11 ⟨rfl, rfl⟩)
   go_ret
   exact ⟨rfl, HX10.out⟩
set_option maxRecDepth 100000 in
theorem wordsReplace_open {H : Type} {enc : TypeId × Value → H} (W : World) (base : Nat) (v0 : Value) (d0 : DataW H) (p0 : List MemPlace) (v1 : Value) (d1 : DataW H) (p1 : List MemPlace) (v2 : Value) (d2 : DataW H) (p2 : List MemPlace) (v3 : Value) (d3 : DataW H) (p3 : List MemPlace)
    (k0 : Value.okWide Tryz.prog W .any base 22 v0) (k1 : Value.okWide Tryz.prog W .any base 9 v1) (k2 : Value.okWide Tryz.prog W .any base 9 v2) (k3 : Value.okWide Tryz.prog W .any base 4 v3)
    (h0 : DataW.Trod enc Tryz.prog W 0 (fun _ => true) true 22 v0 d0 p0) (h1 : DataW.Trod enc Tryz.prog W 0 (fun _ => true) true 9 v1 d1 p1) (h2 : DataW.Trod enc Tryz.prog W 0 (fun _ => true) true 9 v2 d2 p2) (h3 : DataW.Trod enc Tryz.prog W 0 (fun _ => true) true 4 v3 d3 p3) (hg : GlobOk W) :
    Calls Tryz.prog 3 #[v0, v1, v2, v3] W fun e W' => e = .returned (.bool true) ∧ Below W.heap.size W W' := by
 obtain ⟨A1, c1, b1, rfl, g1, g2, g3, g4⟩ := arg_bytes k0 h0; obtain ⟨wd, rfl, -⟩ := arg_string Tryz.underlying9 k1 h1; obtain ⟨s, rfl, -⟩ := arg_string Tryz.underlying9 k2 h2; obtain ⟨b, rfl⟩ := arg_bool Tryz.underlying4 k3 h3; have h := replace7_walk (w := W) hg g4 g1 g3 g2 wd.data.toList s.data.toList b; rw [← ba_of, ← ba_of] at h; exact h.mono fun e W' ⟨h1, h2⟩ => ⟨h1, h2.below_nil⟩
end Go.Proofs.YteofhjegaaoglaaGreat
