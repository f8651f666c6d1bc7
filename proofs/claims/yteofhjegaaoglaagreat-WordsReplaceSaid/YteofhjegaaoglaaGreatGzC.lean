/-
 Rv2, Rv3, Rv4, Rv5: several small texts in one. No conditions.
-/
import Derived.Test.YteofhjegaaoglaaGreatGq
import Derived.Test.YteofhjegaaoglaaGreatGzB
import Derived.Test.YteofhjegaaoglaaGreatMb5
import Derived.Test.YteofhjegaaoglaaGreatMa3
import Derived.Test.YteofhjegaaoglaaGreatGg
namespace Go.Proofs.YteofhjegaaoglaaGreat
open Go.RowKit Go.ChangeMaps
set_option linter.unusedVariables false
set_option linter.unusedSimpArgs false
def EndsPost (n : Nat) (w : World) (P : Nat → Prop) (e : Ending) (w' : World) : Prop :=
 ∃ (A : Option Addr) (c : Nat) (fs : List Bool), e = .returned (.slice A (n + 1) c) ∧ HasV n fs P ∧ w'.ownsRow w.heap.size 4 1 (.slice A (n + 1) c) (n + 1) (bits fs) ∧ Fr [] w w'
def EndsOk (tx : List UInt8) (p : PT) : Prop := ∀ (w : World) (a : Nat), a ≤ tx.length → RPMem w p →
 Calls Tryz.prog 46 #[.agg p.rcells.toArray, .string ⟨tx.toArray⟩, .int .i64 (a : Int)] w (EndsPost tx.length w (semP tx p a))
theorem EndsPost.iff {n : Nat} {w : World} {P Q : Nat → Prop} {e : Ending} {w' : World} (h : EndsPost n w P e w') (hq : ∀ c, c ≤ n → (P c ↔ Q c)) : EndsPost n w Q e w' := by
 obtain ⟨A, c, fs, h1, h2, h3, h4⟩ := h; exact ⟨A, c, fs, h1, h2.iff hq, h3, h4⟩
theorem mk_bools (n : Nat) (hn : n ≤ 100000) (W : World) : (Instr.makeSlice 131 (.int .i64 ((n : Int) + 1)) (.int .i64 ((n : Int) + 1))).run Tryz.prog W = .ok (.slice (some ⟨W.heap.size, 0, none⟩) (n + 1) (n + 1)) (W.alloc (.cells (bits (List.replicate (n + 1) false)).toArray 4)) := by
 obtain ⟨i, hi, hz, hs, hb⟩ := boolParts; have h := run_make (P := Tryz.prog) (w := W) 131 4 i _ Tryz.underlying131 hi hz .i64 .i64 ((n : Int) + 1) ((n : Int) + 1) (by omega) (by omega) (by rw [hb]; omega) (by omega); rw [hs] at h; have e1 : Int.toNat ((n : Int) + 1) = n + 1 := by omega
 have e2 : madeCells (Value.bool false).cells ((n + 1) * 1) = (bits (List.replicate (n + 1) false)).toArray := by
  have := toList_madeCells_one (.bool false) (n + 1); rw [Nat.mul_one]
  apply Array.ext'
  rw [show (Value.bool false).cells = #[Value.bool false] from rfl, this]; simp [bits]
 rw [e1, e2] at h; exact h
theorem own_bits {w : World} {g lo n : Nat} {fs : List Bool} (h : Bk w g 4 (bits fs).toArray) (hlo : lo ≤ g) (hn : fs.length = n) (hl : n ≤ 1000) : w.ownsRow lo 4 1 (.slice (some ⟨g, 0, none⟩) n n) n (bits fs) := by
 subst hn; exact ⟨by simp [bits], .inr ⟨g, fs.length, _, rfl, hlo, h, Nat.le_refl _, by unfold maxLen; omega, by simp [bits], by simp [bits]; exact List.take_of_length_le (by simp)⟩⟩
theorem Bk.bit_put {w : World} {g : Nat} {fs : List Bool} (h : Bk w g 4 (bits fs).toArray) (i : Nat) (b : Bool) : Bk (w.setCell ⟨g, i, none⟩ (.bool b)) g 4 (bits (fs.set i b)).toArray := by
 have h2 := h.put i (.bool b)
 have e : (bits fs).toArray.setIfInBounds i (.bool b) = (bits (fs.set i b)).toArray := by
  simp [bits, List.map_set]
 rw [e] at h2; exact h2
def AllRel (w : World) (g L : Nat) (C : List Value) (Q : Nat → Prop) (R : Nat → Nat → Prop) (v7 v8 : Value) (wr : World) : Prop := ∃ (i : Nat) (A : Option Addr) (c : Nat) (fs : List Bool), v8 = .int .i64 (i : Int) ∧ v7 = .slice A (L + 1) c ∧ i ≤ L + 1 ∧
 HasV L fs (fun x => ∃ b, b < i ∧ Q b ∧ R b x) ∧ wr.ownsRow w.heap.size 4 1 (.slice A (L + 1) c) (L + 1) (bits fs) ∧ Bk wr g 33 C.toArray ∧ Fr [] w wr
set_option maxRecDepth 100000 in
set_option maxHeartbeats 8000000 in
theorem all_of {tx : List UInt8} {p : PT} (hx : tx.length ≤ 500) (hp : EndsOk tx p) (w : World) {A : Option Addr} {ca : Nat} {gs : List Bool} {Q : Nat → Prop} (hq : HasV tx.length gs Q) (ha : At w A (bits gs)) (hm : RPMem w p) :
    Calls Tryz.prog 61 #[.agg p.rcells.toArray, .string ⟨tx.toArray⟩, .slice A (tx.length + 1) ca] w (EndsPost tx.length w (fun x => ∃ b, b < tx.length + 1 ∧ Q b ∧ semP tx p b x)) := by
 obtain ⟨S, hS⟩ : ∃ S, S = (⟨tx.toArray⟩ : ByteArray) := ⟨_, rfl⟩; obtain ⟨L, hL⟩ : ∃ L, L = tx.length := ⟨_, rfl⟩; have hs1 : S.size = L := by rw [hS, hL]; simp [ByteArray.size]
 obtain ⟨R, hR⟩ : ∃ R, R = semP tx p := ⟨_, rfl⟩; unfold EndsOk at hp; rw [← hR, ← hL] at hp; rw [← hS] at hp ⊢; rw [← hL] at hx hq ⊢; rw [← hR]; have hmk := mk_bools L (by omega); have HP := zh hp; have HQ := zh hq; have HA := zh ha; have HM := zh hm; clear hp hq ha hm hS hL hR; go_enter Tryz.func61, Tryz.ntmps61
 go_wp2_with (refine wpList_box_bk rfl 33 _ rfl p.rcells rfl ?_; intro w1 hz hf1; have HZ := zh hz; have HF := zh hf1; clear hz hf1)
 clear hmk; obtain ⟨g, hg⟩ : ∃ g, g = w.heap.size := ⟨_, rfl⟩; rw [← hg]; obtain ⟨w2, hw2⟩ : ∃ w2, w2 = w1.alloc (.cells (bits (List.replicate (L + 1) false)).toArray 4) := ⟨_, rfl⟩; have h12 : Fr [] w1 w2 := by rw [hw2]; exact (Fr.refl [] w1).alloc _
 have hg1 : Bk w2 g 33 p.rcells.toArray := by rw [hg]; exact HZ.out.fr h12 (by simp)
 have hb1 : Bk w2 w1.heap.size 4 (bits (List.replicate (L + 1) false)).toArray := by rw [hw2]; exact Bk.new w1 _ _
 have hsz := HF.out.size; have hown1 := own_bits hb1 hsz (n := L + 1) (by simp) (by omega); rw [← hw2]; have HG1 := zh hg1; have HO1 := zh hown1; have HF2 := zh (HF.out.trans h12); have HGE := zh hg; clear hg hg1 hb1 hown1 hw2 h12 hsz HZ
 go_loopw [7, 8] (fun v7 v8 wr => AllRel w g L p.rcells Q R v7 v8 wr) (fun _ v8 _ => L + 2 - (intOf v8).toNat)
 case atStart => exact ⟨0, _, _, _, rfl, rfl, Nat.zero_le _, (HasV.none_ L).iff (fun c _ => ⟨fun h => h.elim, fun ⟨b, h, _⟩ => absurd h (by omega)⟩), HO1.out, HG1.out, HF2.out⟩
 case round =>
  obtain ⟨i, A0, c0, fs, rfl, rfl, hi, hfs, hown, hbk, hfr⟩ := hrel; have HFS := zh hfs; have HOWN := zh hown; have HBK := zh hbk; have HFR := zh hfr; clear hfs hown hbk hfr HO1 HG1; rcases Nat.lt_or_ge i (L + 1) with hin | hin
  ·have hinI : (i : Int) ≤ (L : Int) := by omega
   have hinJ : (i : Int) < (L : Int) + 1 := by omega
   obtain ⟨ad, rfl, e0⟩ := (HA.out.fr_nil HFR.out).bit (i := i) (by have := HQ.out.1; omega); have hqi := HQ.out.2 i (by omega); obtain ⟨x, hx'⟩ : ∃ x, x = gs.getD i false := ⟨_, rfl⟩; rw [← hx'] at e0 hqi; have HQI := zh hqi; clear hqi hx'
   cases x with
   | false =>
    go_wp2_with fail
    go_roundw
    case rel =>
     refine ⟨i + 1, A0, c0, fs, by go_num, rfl, by omega, HFS.out.iff (fun c _ => ⟨fun ⟨b, h1, h2⟩ => ⟨b, by omega, h2⟩, fun ⟨b, h1, h2, h3⟩ => ⟨b, ?_, h2, h3⟩⟩), HOWN.out, HBK.out, HFR.out⟩; rcases Nat.lt_or_ge b i with h | h
     ·exact h
     ·obtain rfl : b = i := by omega
      have := HQI.out.2 h2
      cases this
    case measure => first | (simp [intOf]; done) | (simp [intOf]; omega)
   | true =>
    have hqq : Q i := by have := HQI.out; simpa using this
    have hE := HP.out wr i (by omega) (HM.out.fr_nil HFR.out); have HE := zh hE; clear hE; go_upto_region 6 with fail
    go_upto_region 4 with (first
     | (refine wpList_load_bk rfl 33 _ rfl g 0 rfl p.rcells _ _ _ HBK.out (by intro j u hj; rw [Nat.zero_add, List.getElem?_toArray]; exact hj) Tryz.underlying33 rfl (by rw [rcells_len]; exact rp_size) ?_)
     | (go_at_call 46; refine HE.out.mono ?_; rintro e w3 ⟨A3, c3, f3, rfl, h31, h32, h33⟩; have HV3 := zh h31; have HO3 := zh h32; have HF3 := zh h33; clear h31 h32 h33)
     | (go_at_call 62; refine (rboth_any (by have := HFS.out.1; omega) (by have := HV3.out.1; omega) (by omega) (At.of_own (own_keep HOWN.out (KeepB.of_nil HF3.out))) (At.of_own HO3.out)).mono ?_; rintro e w4 ⟨A4, c4, rfl, h41, h42⟩; have HO4 := zh h41; have HF4 := zh h42; clear h41 h42))
    have hF4 : Fr [] wr w4 := HF3.out.trans HF4.out; have hV4 := HFS.out.or_ HV3.out; have hO4 : w4.ownsRow w.heap.size 4 1 (.slice A4 (L + 1) c4) (L + 1) (bits (List.zipWith (· || ·) fs f3)) := own_rebase HO4.out (fun g hg => by have := (own_base HO4.out g hg).1; have := HFR.out.size; have := HF3.out.size; omega); have HV4 := zh hV4; have HO5 := zh hO4; have HF5 := zh (HFR.out.trans hF4); have HB5 := zh (HBK.out.fr hF4 (by simp)); clear hF4 hV4 hO4; go_wp2_with fail
    go_roundw
    case rel =>
     refine ⟨i + 1, A4, c4, _, by go_num, rfl, by omega, HV4.out.iff (fun c _ => ⟨?_, fun ⟨b, h1, h2, h3⟩ => ?_⟩), HO5.out, HB5.out, HF5.out⟩
     ·rintro (⟨b, h1, h2⟩ | h)
      ·exact ⟨b, by omega, h2⟩
      ·exact ⟨i, by omega, hqq, h⟩
     ·rcases Nat.lt_or_ge b i with h | h
      ·exact .inl ⟨b, h, h2, h3⟩
      ·obtain rfl : b = i := by omega
       exact .inr h3
    case measure => first | (simp [intOf]; done) | (simp [intOf]; omega)
  ·have hinI : ¬ ((i : Int) ≤ (L : Int)) := by omega
   obtain rfl : i = L + 1 := by omega
   go_wp2_with fail
   go_ret
   exact ⟨A0, c0, fs, rfl, HFS.out, HOWN.out, HFR.out⟩
def RRep1 (w : World) (g L : Nat) (C : List Value) (R : Nat → Nat → Prop) (a mn : Nat) (v7 v8 : Value) (wr : World) : Prop := ∃ (i : Nat) (A : Option Addr) (c : Nat) (fs : List Bool), v8 = .int .i64 (i : Int) ∧ v7 = .slice A (L + 1) c ∧ i ≤ mn ∧
 HasV L fs (iterR R i a) ∧ wr.ownsRow w.heap.size 4 1 (.slice A (L + 1) c) (L + 1) (bits fs) ∧ Bk wr g 33 C.toArray ∧ Fr [] w wr
def RRep2 (w : World) (g L : Nat) (C : List Value) (R : Nat → Nat → Prop) (a mn : Nat) (mx : Int) (v7 v10 : Value) (wr : World) : Prop := ∃ (j : Nat) (A : Option Addr) (c : Nat) (fs : List Bool), v10 = .int .i64 ((mn + j : Nat) : Int) ∧ v7 = .slice A (L + 1) c ∧ (mx < 0 ∨ mn + j ≤ mx.toNat) ∧
 j + lackV fs ≤ L + 1 ∧ HasV L fs (accR R mn a j) ∧ wr.ownsRow w.heap.size 4 1 (.slice A (L + 1) c) (L + 1) (bits fs) ∧ Bk wr g 33 C.toArray ∧ Fr [] w wr
theorem lack_le (fs : List Bool) : lackV fs ≤ fs.length := List.length_filter_le _ _
set_option maxRecDepth 100000 in
set_option maxHeartbeats 16000000 in
theorem rep_of {tx : List UInt8} {p t : PT} (hx : tx.length ≤ 500) (hp : EndsOk tx t) (hl : p.l = [t]) (hmn : 0 ≤ p.mn ∧ p.mn ≤ 255) (hmx : -1 ≤ p.mx ∧ p.mx ≤ 255 ∧ (0 ≤ p.mx → p.mn ≤ p.mx)) (w : World) (a : Nat) (ha : a ≤ tx.length) (hm : RPMem w p) :
    Calls Tryz.prog 63 #[.agg p.rcells.toArray, .string ⟨tx.toArray⟩, .int .i64 (a : Int)] w (EndsPost tx.length w fun c => ∃ m : Nat, p.mn.toNat ≤ m ∧ (p.mx < 0 ∨ m ≤ p.mx.toNat) ∧ iterR (semP tx t) m a c) := by
 have hle := semP_le tx t; have hall := fun (w : World) (A : Option Addr) (ca : Nat) (gs : List Bool) (Q : Nat → Prop) hq ha hm => all_of hx hp w (A := A) (ca := ca) (gs := gs) (Q := Q) hq ha hm; obtain ⟨S, hS⟩ : ∃ S, S = (⟨tx.toArray⟩ : ByteArray) := ⟨_, rfl⟩; obtain ⟨L, hL⟩ : ∃ L, L = tx.length := ⟨_, rfl⟩; have hs1 : S.size = L := by rw [hS, hL]; simp [ByteArray.size]
 obtain ⟨R, hR⟩ : ∃ R, R = semP tx t := ⟨_, rfl⟩; obtain ⟨mn, hmn0⟩ : ∃ mn : Nat, p.mn = (mn : Int) := ⟨p.mn.toNat, by omega⟩; obtain ⟨X, hX⟩ : ∃ X, X = p.mx := ⟨_, rfl⟩; have hmn1 : p.mn.toNat = mn := by omega
 rw [← hS, ← hL, ← hR] at hall; rw [← hL, ← hR] at hle; rw [← hS, ← hL, ← hR, hmn1, ← hX]; rw [← hL] at hx ha; rw [← hX] at hmx; have hmk := mk_bools L (by omega); obtain ⟨⟨b, off, hA, hcs⟩, hmq⟩ := hm.child (i := 0) (q := t) (by rw [hl]; rfl); have HALL := zh hall; have HM := zh hm; have HLE := zh hle; have HMQ := zh hmq; have HCS0 := zh hcs; have hlen : p.l.length = 1 := by rw [hl]; rfl
 have hPC : p.rcells = partC p.k p.rset (mn : Int) X (.slice p.A 1 p.c) := by unfold PT.rcells; rw [hlen, hmn0, hX]
 rw [hA] at hPC; obtain ⟨C, hC⟩ : ∃ C, C = p.rcells := ⟨_, rfl⟩; obtain ⟨pk, hpk⟩ : ∃ x, x = p.k := ⟨_, rfl⟩; obtain ⟨ps, hps⟩ : ∃ x, x = p.rset := ⟨_, rfl⟩; obtain ⟨pc, hpc⟩ : ∃ x, x = p.c := ⟨_, rfl⟩; rw [← hC, ← hpk, ← hps, ← hpc] at hPC; rw [← hC]; have hCl : C.length = 260 := by rw [hC]; exact rcells_len p
 have HPC := zh hPC; have hmnb : mn ≤ 255 := by omega
 have hmxb : -1 ≤ X ∧ X ≤ 255 ∧ (0 ≤ X → (mn : Int) ≤ X) := ⟨hmx.1, hmx.2.1, fun h => by have := hmx.2.2 h; omega⟩; obtain ⟨PP, hPP⟩ : ∃ PP : Nat → Prop, PP = fun c => ∃ m : Nat, mn ≤ m ∧ (X < 0 ∨ m ≤ X.toNat) ∧ iterR R m a c := ⟨_, rfl⟩; rw [← hPP]; have HPP := zh hPP; clear hall hm hle hmq hcs hS hL hR hp hmn hmx hlen hA hPC hmn0 hmn1 hX hl hC hpk hps hpc hPP; go_enter Tryz.func63, Tryz.ntmps63
 go_upto_region 2 with (refine wpList_box_bk rfl 33 _ rfl C rfl ?_; intro w1 hz hf1; have HZ := zh hz; have HF := zh hf1; clear hz hf1)
 clear hmk; obtain ⟨g, hg⟩ : ∃ g, g = w.heap.size := ⟨_, rfl⟩; rw [← hg]; obtain ⟨w2, hw2⟩ : ∃ w2, w2 = w1.alloc (.cells (bits (List.replicate (L + 1) false)).toArray 4) := ⟨_, rfl⟩; have h12 : Fr [] w1 w2 := by rw [hw2]; exact (Fr.refl [] w1).alloc _
 have hg1 : Bk w2 g 33 C.toArray := by rw [hg]; exact HZ.out.fr h12 (by simp)
 obtain ⟨g2, hg2⟩ : ∃ g2, g2 = w1.heap.size := ⟨_, rfl⟩; have hb1 : Bk w2 g2 4 (bits (List.replicate (L + 1) false)).toArray := by rw [hw2, hg2]; exact Bk.new w1 _ _
 have hgg : w.heap.size < g2 := by rw [hg2]; exact HZ.out.lt
 rw [← hw2, ← hg2]; have HF2 := zh (HF.out.trans h12); have HG1 := zh hg1; have HB1 := zh hb1; have hlt2 := hb1.lt; have hfz2 := hb1.frozen a; have haI : (a : Int) < (L : Int) + 1 := by omega
 have ce : w2.cell? ⟨g2, a, none⟩ = some (.bool false) := hb1.cell_ (by rw [List.getElem?_toArray, bits_get (by simp; omega)]; rw [List.getD_eq_getElem?_getD, List.getElem?_replicate]; split <;> rfl)
 have HGE := zh hg; have HG2 := zh hg2; clear hg hg2 hg1 hb1 hw2 h12 HZ; go_wp2_with fail
 obtain ⟨w3, hw3⟩ : ∃ w3, w3 = w2.setCell ⟨g2, a, none⟩ (.bool true) := ⟨_, rfl⟩; have hb3 : Bk w3 g2 4 (bits ((List.replicate (L + 1) false).set a true)).toArray := by rw [hw3]; exact HB1.out.bit_put a true
 have hf23 : Fr [g2] w2 w3 := by rw [hw3]; exact (Fr.refl [g2] w2).setCell (.inl (by simp)) _
 have hf3 : Fr [] w w3 := HF2.out.trans' hf23 (by simp; omega); have hg3 : Bk w3 g 33 C.toArray := HG1.out.fr hf23 (by have := HGE.out; simp; omega); have ho3 := own_bits (n := L + 1) hb3 (Nat.le_of_lt hgg) (by simp) (by omega)
 have hv3 : HasV L ((List.replicate (L + 1) false).set a true) (iterR R 0 a) := ((HasV.none_ L).set_ ha true).iff (fun c _ => by
  rw [iterR]; by_cases e : c = a
  ·simp [e]
  ·simp [e]; omega)
 rw [← hw3]; have HG3 := zh hg3; have HO3 := zh ho3; have HV3 := zh hv3; have HF3 := zh hf3; clear hb3 hf23 hf3 hg3 ho3 hv3 hw3 hlt2 hfz2 haI ce HF2 HG1 HB1
 go_loopw [7, 8, 9] (fun v7 v8 v9 wr => RRep1 w g L C R a mn v7 v8 wr) (fun _ v8 _ _ => mn + 1 - (intOf v8).toNat)
 case' atStart => exact ⟨0, _, _, _, rfl, rfl, Nat.zero_le _, HV3.out, HO3.out, HG3.out, HF3.out⟩
 case' round =>
  obtain ⟨i, A0, c0, fs, rfl, rfl, hi, hfs, hown, hbk, hfr⟩ := hrel; have c257 := hbk.cellL (i := 257) (by rw [HPC.out]; exact partC_mn _ _ _ _ _); have c259 := hbk.cellL (i := 259) (by rw [HPC.out]; exact partC_l _ _ _ _ _); have HFS := zh hfs; have HOWN := zh hown; have HBK := zh hbk; have HFR := zh hfr; have HCS := zh (HCS0.out.fr hfr (by simp)); clear hfs hown hbk hfr HO3 HG3; by_cases hin : i < mn
  case' pos =>
   have hinI : (i : Int) < (mn : Int) := by omega
   go_upto_region 7 with (first
    | (refine wpList_load_mid rfl 33 _ rfl b (off + 0 * 260) rfl t.rcells _ (fun j v hv => HCS.out.cell hv) Tryz.underlying33 rfl (by rw [rcells_len]; exact rp_size) ?_)
    | (go_at_call 61; refine (HALL.out wr A0 c0 fs (iterR R i a) HFS.out (At.of_own HOWN.out) (HMQ.out.fr_nil HFR.out)).mono ?_; rintro e w4 ⟨A4, c4, f4, rfl, h41, h42, h43⟩; have HV4 := zh h41; have HO4 := zh h42; have HF4 := zh h43; clear h41 h42 h43))
   have hV5 : HasV L f4 (iterR R (i + 1) a) := HV4.out.iff (fun c _ => by
    rw [iter_right]
    exact ⟨fun ⟨b, _, h⟩ => ⟨b, h⟩, fun ⟨b, h⟩ => ⟨b, by have := (iter_le HLE.out i a b h.1 ha).2; omega, h⟩⟩)
   have hsm := rsame_any (n := L + 1) (ca := c0) (cb := c4) HFS.out.1.symm hV5.1.symm (by omega) (At.of_own (own_keep HOWN.out (KeepB.of_nil HF4.out))) (At.of_own HO4.out); have HV5 := zh hV5; clear hV5 HV4 c257 c259; by_cases hsame : fs = f4
   case' pos =>
    rw [decide_eq_true hsame] at hsm; have HSM := zh hsm
    have hstop : HasV L fs (iterR R mn a) := HFS.out.iff (fun c hc => by
     have h := iter_stop HLE.out ha (fun c hc => (HFS.out.same_iff HV5.out).1 hsame c hc) (mn - i) c hc; rw [show i + (mn - i) = mn by omega] at h
     exact h)
    go_upto_region 9 with (go_at_call 73; refine HSM.out.mono ?_; rintro e w5 ⟨rfl, hf⟩; have HF5 := zh hf; clear hf)
    have h15 := HF4.out.trans HF5.out; have HW : Hid (∃ wz, wz = w5 ∧ wz.ownsRow w.heap.size 4 1 (.slice A0 (L + 1) c0) (L + 1) (bits fs) ∧ Bk wz g 33 C.toArray ∧ Fr [] w wz ∧ HasV L fs (iterR R mn a)) := zh ⟨w5, rfl, own_keep HOWN.out (KeepB.of_nil h15), HBK.out.fr h15 (by simp), HFR.out.trans h15, hstop⟩; clear hsm hstop h15 HSM hsame HV5 HO4 HF4 HF5 HFS HOWN HBK HFR HCS
   case' neg =>
    rw [decide_eq_false hsame] at hsm; have HSM := zh hsm; have hO5 : w4.ownsRow w.heap.size 4 1 (.slice A4 (L + 1) c4) (L + 1) (bits f4) := own_rebase HO4.out (fun g hg => by have := (own_base HO4.out g hg).1; have := HFR.out.size; omega); have HO5 := zh hO5; clear hsm hO5 hsame; go_wp2_with (go_at_call 73; refine HSM.out.mono ?_; rintro e w5 ⟨rfl, hf⟩; have HF5 := zh hf; clear hf)
    go_roundw
    case' rel => exact ⟨i + 1, A4, c4, f4, by go_num, rfl, by omega, HV5.out, own_keep HO5.out (KeepB.of_nil HF5.out), HBK.out.fr (HF4.out.trans HF5.out) (by simp), HFR.out.trans (HF4.out.trans HF5.out)⟩
    case' measure => first | (simp [intOf]; done) | (simp [intOf]; omega)
  case' neg =>
   have hinI : ¬ ((i : Int) < (mn : Int)) := by omega
   obtain rfl : mn = i := by omega
   go_upto_region 9 with fail
   have HW : Hid (∃ wz, wz = wr ∧ wz.ownsRow w.heap.size 4 1 (.slice A0 (L + 1) c0) (L + 1) (bits fs) ∧ Bk wz g 33 C.toArray ∧ Fr [] w wz ∧ HasV L fs (iterR R mn a)) := zh ⟨wr, rfl, HOWN.out, HBK.out, HFR.out, HFS.out⟩; clear HFS HOWN HBK HFR HCS c257 c259 hinI hin hi
 all_goals
  obtain ⟨wz, hwz, ho, hb, hf, hv⟩ := HW.out; rw [← hwz]; clear hwz HW; have c257 := hb.cellL (i := 257) (by rw [HPC.out]; exact partC_mn _ _ _ _ _); have HO6 := zh ho; have HB6 := zh hb; have HF6 := zh hf; have HV6 := zh hv; clear ho hb hf hv; go_upto_region 10 with fail
  go_loopw [7, 10, 11] (fun v7 v10 v11 wr => RRep2 w g L C R a mn X v7 v10 wr) (fun _ v10 _ _ => mn + L + 3 - (intOf v10).toNat)
  case atStart =>
   refine ⟨0, A0, c0, fs, rfl, rfl, ?_, ?_, HV6.out.iff (fun c _ => (acc_zero _ _ _).symm), HO6.out, HB6.out, HF6.out⟩
   ·by_cases h : X < 0
    ·exact .inl h
    ·have := hmxb.2.2 (by omega); exact .inr (by omega)
   ·have := lack_le fs; have := HV6.out.1; omega
  case round =>
   obtain ⟨j, A7, c7, f7, rfl, rfl, hj, hjl, hfs, hown, hbk, hfr⟩ := hrel; have c257 := hbk.cellL (i := 257) (by rw [HPC.out]; exact partC_mn _ _ _ _ _); have c258 := hbk.cellL (i := 258) (by rw [HPC.out]; exact partC_mx _ _ _ _ _); have c259 := hbk.cellL (i := 259) (by rw [HPC.out]; exact partC_l _ _ _ _ _); have HFS := zh hfs; have HOWN := zh hown; have HBK := zh hbk; have HFR := zh hfr; have HCS := zh (HCS0.out.fr hfr (by simp)); have HJ := zh hj; have HJL := zh hjl; have hjb : j ≤ L + 1 := by omega
   clear hfs hown hbk hfr hj hjl HO6 HB6 HF6 HV6; obtain ⟨k, hk⟩ : ∃ k, k = mn + j := ⟨_, rfl⟩; rw [← hk]; have hkb : k ≤ 1000 := by omega
   have hkm : k ≤ mn + L + 1 := by omega
   have HK := zh hk; clear hk; by_cases hgo : X < 0 ∨ (k : Int) < X
   ·have hE2 : ∃ b : Bool, b = decide (X < 0) := ⟨_, rfl⟩; have HGO := zh hgo; obtain ⟨B, hB⟩ : ∃ B, B = decide (X < 0) := ⟨_, rfl⟩
    cases B
    case' false =>
     have hXI : ¬ X < 0 := of_decide_eq_false hB.symm; have hkI : (k : Int) < X := by rcases hgo with h | h <;> omega
     clear hB hgo; go_upto_region 12 with fail
     clear hkI
    case' true =>
     have hXI : X < 0 := of_decide_eq_true hB.symm; clear hB hgo; go_upto_region 12 with fail
    all_goals
     go_upto_region 13 with (first
      | (refine wpList_load_mid rfl 33 _ rfl b (off + 0 * 260) rfl t.rcells _ (fun j v hv => HCS.out.cell hv) Tryz.underlying33 rfl (by rw [rcells_len]; exact rp_size) ?_)
      | (go_at_call 61; refine (HALL.out wr A7 c7 f7 (accR R mn a j) HFS.out (At.of_own HOWN.out) (HMQ.out.fr_nil HFR.out)).mono ?_; rintro e w4 ⟨A4, c4, f4, rfl, h41, h42, h43⟩; have HV4 := zh h41; have HO4 := zh h42; have HF4 := zh h43; clear h41 h42 h43)
      | (go_at_call 62; refine (rboth_any (by have := HFS.out.1; omega) (by have := HV4.out.1; omega) (by omega) (At.of_own (own_keep HOWN.out (KeepB.of_nil HF4.out))) (At.of_own HO4.out)).mono ?_; rintro e w5 ⟨A5, c5, rfl, h51, h52⟩; have HO5 := zh h51; have HF5 := zh h52; clear h51 h52))
     have hV5 : HasV L (List.zipWith (· || ·) f7 f4) (accR R mn a (j + 1)) := (HFS.out.or_ HV4.out).iff (fun c _ => by
      rw [acc_succ]; constructor
      ·rintro (h | ⟨b, _, h⟩)
       ·exact .inl h
       ·exact .inr ⟨b, h⟩
      ·rintro (h | ⟨b, h⟩)
       ·exact .inl h
       ·refine .inr ⟨b, ?_, h⟩; obtain ⟨i, -, hi⟩ := h.1; have := (iter_le HLE.out _ a b hi ha).2
        omega)
     have hlk := lack_or f7 f4 (by have := HFS.out.1; have := HV4.out.1; omega); obtain ⟨f8, hf8⟩ : ∃ f8, f8 = List.zipWith (· || ·) f7 f4 := ⟨_, rfl⟩; rw [← hf8] at hV5 hlk; have hO5 : w5.ownsRow w.heap.size 4 1 (.slice A5 (L + 1) c5) (L + 1) (bits f8) := by rw [hf8]; exact own_rebase HO5.out (fun g hg => by have := (own_base HO5.out g hg).1; have := HFR.out.size; have := HF4.out.size; omega)
     have h45 := HF4.out.trans HF5.out; have hsm := rsame_any (n := L + 1) (ca := c7) (cb := c5) HFS.out.1.symm hV5.1.symm (by omega) (At.of_own (own_keep HOWN.out (KeepB.of_nil h45))) (At.of_own hO5); have HV5 := zh hV5; have HO8 := zh hO5; have HF45 := zh h45; have HLK := zh hlk; clear hV5 HV4 hO5 h45 hlk hf8 HO4 HO5 HF4 HF5 c257 c258 c259; by_cases hsame : f7 = f8
     ·rw [decide_eq_true hsame] at hsm; have HSM := zh hsm; have hfin := (HFS.out).iff (fun c hc => rep_all (mx := X) HLE.out ha (.inl (fun c hc => (HFS.out.same_iff HV5.out).1 hsame c hc)) HJ.out c hc); rw [← HPP.out] at hfin; have HFIN := zh hfin; clear hsm hfin hsame; go_wp2_with (go_at_call 73; refine HSM.out.mono ?_; rintro e w6 ⟨rfl, hf⟩; have HF6 := zh (HF45.out.trans hf); clear hf)
      go_ret
      exact ⟨A7, c7, f7, rfl, HFIN.out, own_keep HOWN.out (KeepB.of_nil HF6.out), HFR.out.trans HF6.out⟩
     ·rw [decide_eq_false hsame] at hsm; have HSM := zh hsm
      have hlk2 : lackV f8 < lackV f7 := by
       obtain ⟨h1, h2⟩ := HLK.out; rcases Nat.lt_or_ge (lackV f8) (lackV f7) with h | h
       ·exact h
       ·exact absurd (h2 (by omega)).symm hsame
      clear hsm hsame; go_wp2_with (go_at_call 73; refine HSM.out.mono ?_; rintro e w6 ⟨rfl, hf⟩; have HF6 := zh (HF45.out.trans hf); have HF6' := zh hf; clear hf)
      go_roundw
      case rel =>
       refine ⟨j + 1, A5, c5, f8, ?_, rfl, ?_, by have := HJL.out; omega, HV5.out, own_keep HO8.out (KeepB.of_nil HF6'.out), HBK.out.fr HF6.out (by simp), HFR.out.trans HF6.out⟩
       ·have := HK.out; rw [show mn + (j + 1) = k + 1 by omega]; go_num
       ·have := HK.out; rcases HGO.out with h | h
        ·exact .inl h
        ·exact .inr (by omega)
      case measure => first | (simp [intOf]; done) | (simp [intOf]; omega)
   ·have hXI : ¬ X < 0 := fun h => hgo (.inl h); have hkI : ¬ (k : Int) < X := fun h => hgo (.inr h); have hfin := (HFS.out).iff (fun c hc => rep_all (mx := X) HLE.out ha (.inr ⟨by omega, by have := HK.out; have := HJ.out; omega⟩) HJ.out c hc); rw [← HPP.out] at hfin; have HFIN := zh hfin; clear hfin hgo; go_wp2_with fail
    go_ret
    exact ⟨A7, c7, f7, rfl, HFIN.out, HOWN.out, HFR.out⟩
end Go.Proofs.YteofhjegaaoglaaGreat
namespace Go.Proofs.YteofhjegaaoglaaGreat
open Go.RowKit Go.ChangeMaps
set_option linter.unusedVariables false
set_option linter.unusedSimpArgs false
theorem post_hot {w w2 : World} {g2 L a : Nat} {b : Bool} {P : Nat → Prop} (hb : Bk w2 g2 4 (bits (List.replicate (L + 1) false)).toArray) (hlo : w.heap.size ≤ g2) (hf : Fr [] w w2) (hL : L ≤ 500) (ha : a ≤ L) (hP : ∀ c, c ≤ L → ((if c = a then b = true else False) ↔ P c)) :
    EndsPost L w P (.returned (.slice (some ⟨g2, 0, none⟩) (L + 1) (L + 1))) (w2.setCell ⟨g2, a, none⟩ (.bool b)) :=
 ⟨_, _, _, rfl, ((HasV.none_ L).set_ ha b).iff hP, own_bits (n := L + 1) (hb.bit_put a b) hlo (by simp) (by omega), hf.setCell (.inr hlo) _⟩
theorem post_none {w w2 : World} {g2 L : Nat} {P : Nat → Prop} (hb : Bk w2 g2 4 (bits (List.replicate (L + 1) false)).toArray) (hlo : w.heap.size ≤ g2) (hf : Fr [] w w2) (hL : L ≤ 500) (hP : ∀ c, c ≤ L → ¬ P c) :
    EndsPost L w P (.returned (.slice (some ⟨g2, 0, none⟩) (L + 1) (L + 1))) w2 :=
 ⟨_, _, _, rfl, (HasV.none_ L).iff (fun c hc => ⟨fun h => h.elim, fun h => hP c hc h⟩), own_bits (n := L + 1) hb hlo (by simp) (by omega), hf⟩
def LpRel (w : World) (g L m : Nat) (C : List Value) (Q : Nat → Nat → Prop) (v7 v8 : Value) (wr : World) : Prop := ∃ (i : Nat) (A : Option Addr) (c : Nat) (fs : List Bool), v8 = .int .i64 (i : Int) ∧ v7 = .slice A (L + 1) c ∧ i ≤ m ∧
 HasV L fs (Q i) ∧ wr.ownsRow w.heap.size 4 1 (.slice A (L + 1) c) (L + 1) (bits fs) ∧ Bk wr g 33 C.toArray ∧ Fr [] w wr
set_option maxRecDepth 100000 in
set_option maxHeartbeats 32000000 in
theorem ends_any {tx : List UInt8} (hx : tx.length ≤ 500) : ∀ (n : Nat) (p : PT), cntP p < n → cntP p ≤ 5000 → rightP p = true → EndsOk tx p := by
 intro n
 induction n with
 | zero => intro p h; omega
 | succ n ih =>
  intro p hp h5 hr w a ha hm; have hsem := semP_eq tx p a
  have hall : ∀ q, q ∈ p.l → (inner p.k = true) → EndsOk tx q := fun q hq hi => ih q (by have := child_size hq; omega) (by have := child_size hq; omega) (by
   rw [rightP_eq, Bool.and_eq_true, if_pos hi] at hr
   exact rightL_get hq hr.2)
  have hK : rightK p.k p.mn p.mx p.l.length = true := by rw [rightP_eq, Bool.and_eq_true] at hr; exact hr.1
  have HALLQ := zh hall; obtain ⟨S, hS⟩ : ∃ S, S = (⟨tx.toArray⟩ : ByteArray) := ⟨_, rfl⟩; obtain ⟨L, hL⟩ : ∃ L, L = tx.length := ⟨_, rfl⟩; have hs1 : S.size = L := by rw [hS, hL]; simp [ByteArray.size]
  have hidx := str_at tx a; rw [← hS, ← hL] at hidx; rw [← hS, ← hL]; rw [← hL] at hx ha; obtain ⟨P, hP⟩ : ∃ P, P = semP tx p a := ⟨_, rfl⟩; rw [← hP] at hsem ⊢; have hmk := mk_bools L (by omega); obtain ⟨C, hC⟩ : ∃ C, C = p.rcells := ⟨_, rfl⟩; have hPC : p.rcells = partC p.k p.rset p.mn p.mx (.slice p.A p.l.length p.c) := rfl; obtain ⟨PK, hPK⟩ : ∃ x, x = p.k := ⟨_, rfl⟩; obtain ⟨ST, hST⟩ : ∃ x, x = p.rset := ⟨_, rfl⟩; obtain ⟨PA, hPA⟩ : ∃ x, x = p.A := ⟨_, rfl⟩; obtain ⟨m, hm0⟩ : ∃ x, x = p.l.length := ⟨_, rfl⟩; obtain ⟨pc, hpc⟩ : ∃ x, x = p.c := ⟨_, rfl⟩; rw [← hC, ← hPK, ← hST, ← hPA, ← hm0, ← hpc] at hPC; rw [← hC]; rw [← hPK, ← hm0] at hK
  have hk7 : PK = 0 ∨ PK = 1 ∨ PK = 2 ∨ PK = 3 ∨ PK = 4 ∨ PK = 5 ∨ PK = 6 := by
   unfold rightK at hK; split at hK
   ·cases hK
   ·omega
  have hm5 : m ≤ 5000 := by rw [hm0]; have := len_cnt p; omega
  rw [← hPK, ← hL] at hsem; have HM := zh hm; have HSEM := zh hsem; have HPC := zh hPC; have HKK := zh hK; have HPK := zh hPK; have HST := zh hST; have HPA := zh hPA; have HM0 := zh hm0; have HS := zh hS; have HL := zh hL; have HC := zh hC; have HP := zh hP; have HIDX := zh hidx; have hCl : C.length = 260 := by rw [hC]; exact rcells_len p
  clear ih hp h5 hr hsem hall hK hm hidx hS hL hP hC hPC hPK hST hPA hm0 hpc; go_enter Tryz.func46, Tryz.ntmps46
  go_upto_region 2 with (refine wpList_box_bk rfl 33 _ rfl C rfl ?_; intro w1 hz hf1; have HZ := zh hz; have HF := zh hf1; clear hz hf1)
  clear hmk; obtain ⟨g, hg⟩ : ∃ g, g = w.heap.size := ⟨_, rfl⟩; rw [← hg]; obtain ⟨w2, hw2⟩ : ∃ w2, w2 = w1.alloc (.cells (bits (List.replicate (L + 1) false)).toArray 4) := ⟨_, rfl⟩; have h12 : Fr [] w1 w2 := by rw [hw2]; exact (Fr.refl [] w1).alloc _
  have hg1 : Bk w2 g 33 C.toArray := by rw [hg]; exact HZ.out.fr h12 (by simp)
  obtain ⟨g2, hg2⟩ : ∃ g2, g2 = w1.heap.size := ⟨_, rfl⟩; have hb1 : Bk w2 g2 4 (bits (List.replicate (L + 1) false)).toArray := by rw [hw2, hg2]; exact Bk.new w1 _ _
  have hgg : w.heap.size < g2 := by rw [hg2]; exact HZ.out.lt
  rw [← hw2, ← hg2]; have HF2 := zh (HF.out.trans h12); have HG1 := zh hg1; have HB1 := zh hb1; have HGE := zh hg; have HG2 := zh hg2; have hgle := Nat.le_of_lt hgg; clear hg hg2 hg1 hb1 hw2 h12 HZ HF; have c0 := HG1.out.cellL (i := 0) (by rw [HPC.out]; exact partC_k _ _ _ _ _); have c259 := HG1.out.cellL (i := 259) (by rw [HPC.out]; exact partC_l _ _ _ _ _); have hltb := HB1.out.lt; have hfzb := fun i => HB1.out.frozen i; have hcb : ∀ i : Nat, i ≤ L → w2.cell? ⟨g2, i, none⟩ = some (.bool false) := fun i hi => HB1.out.cell_ (by rw [List.getElem?_toArray, bits_get (by simp; omega)]; rw [List.getD_eq_getElem?_getD, List.getElem?_replicate]; split <;> rfl)
  rcases hk7 with hk | hk | hk | hk | hk | hk | hk
  ·have q0 : (PK == 0) = true := by rw [hk]; rfl
   have q1 : (PK == 1) = false := by rw [hk]; rfl
   have q2 : (PK == 2) = false := by rw [hk]; rfl
   have q3 : (PK == 3) = false := by rw [hk]; rfl
   have q4 : (PK == 4) = false := by rw [hk]; rfl
   have q5 : (PK == 5) = false := by rw [hk]; rfl
   have q6 : (PK == 6) = false := by rw [hk]; rfl
   have haI : (a : Int) < (L : Int) + 1 := by omega
   have hca := hcb a ha; have hfa := hfzb a; have hpost := fun (hP : ∀ c, c ≤ L → ((if c = a then (true : Bool) = true else False) ↔ P c)) => post_hot (b := true) HB1.out hgle HF2.out hx ha hP
   have hsem : ∀ c, c ≤ L → ((if c = a then (true : Bool) = true else False) ↔ P c) := fun c _ => by
    rw [HSEM.out, hk]; by_cases e : c = a
    ·simp [e]
    ·simp [e]; exact fun h => e h.symm
   have HPO := zh (hpost hsem); clear hpost hsem hk hcb hfzb; go_wp2_with fail
   go_ret
   exact HPO.out
  ·have q0 : (PK == 0) = false := by rw [hk]; rfl
   have q1 : (PK == 1) = true := by rw [hk]; rfl
   have q2 : (PK == 2) = false := by rw [hk]; rfl
   have q3 : (PK == 3) = false := by rw [hk]; rfl
   have q4 : (PK == 4) = false := by rw [hk]; rfl
   have q5 : (PK == 5) = false := by rw [hk]; rfl
   have q6 : (PK == 6) = false := by rw [hk]; rfl
   rcases Nat.lt_or_ge a L with hal | hal
   ·have haI : (a : Int) < (L : Int) := by omega
    have haJ : (a : Int) + 1 < (L : Int) + 1 := by omega
    obtain ⟨x, hxx⟩ : ∃ x, x = bn tx a := ⟨_, rfl⟩; have hx256 : x < 256 := by rw [hxx]; exact UInt8.toNat_lt _
    have hxI : (x : Int) < 256 := by omega
    have hix := HIDX.out hal; rw [← hxx] at hix; obtain ⟨mb, hmb⟩ : ∃ mb, mb = ST.mem x := ⟨_, rfl⟩; have cs := HG1.out.cellL (i := 1 + x) (by rw [HPC.out]; exact partC_set _ _ _ _ _ hx256); rw [← hmb] at cs
    have hsm : ∀ c, c ≤ L → ((if c = a + 1 then mb = true else False) ↔ P c) := fun c _ => by
     rw [HSEM.out, hk, hmb, HST.out, hxx]; by_cases e : c = a + 1
     ·simp [e, hal, bn, PT.rset]
     ·simp [e]
    have HPO : Hid (EndsPost L w P (.returned (.slice (some ⟨g2, 0, none⟩) (L + 1) (L + 1))) (w2.setCell ⟨g2, a + 1, none⟩ (.bool mb))) := zh (post_hot HB1.out hgle HF2.out hx (by omega) hsm)
    have HPN : Hid (mb = true ∨ EndsPost L w P (.returned (.slice (some ⟨g2, 0, none⟩) (L + 1) (L + 1))) w2) := zh (by
     by_cases h : mb = true
     ·exact .inl h
     ·exact .inr (post_none HB1.out hgle HF2.out hx (fun c hc hp => by have := (hsm c hc).2 hp; split at this <;> first | exact h this | exact this)))
    have hca := hcb (a + 1) hal; have hfa := hfzb (a + 1); clear hk hcb hfzb hxx hmb hsm
    cases mb with
    | false =>
     go_wp2_with fail
     go_ret
     rcases HPN.out with h | h
     ·cases h
     ·exact h
    | true =>
     go_wp2_with fail
     go_ret
     exact HPO.out
   ·have haI : ¬ ((a : Int) < (L : Int)) := by omega
    have HPN := zh (post_none (P := P) HB1.out hgle HF2.out hx (fun c hc hp => by
     rw [HSEM.out, hk] at hp; simp at hp
     omega))
    clear hk hcb hfzb; go_wp2_with fail
    go_ret
    exact HPN.out
  ·have q0 : (PK == 0) = false := by rw [hk]; rfl
   have q1 : (PK == 1) = false := by rw [hk]; rfl
   have q2 : (PK == 2) = true := by rw [hk]; rfl
   have q3 : (PK == 3) = false := by rw [hk]; rfl
   have q4 : (PK == 4) = false := by rw [hk]; rfl
   have q5 : (PK == 5) = false := by rw [hk]; rfl
   have q6 : (PK == 6) = false := by rw [hk]; rfl
   have haI : (a : Int) < (L : Int) + 1 := by omega
   have hca := hcb a ha; have hfa := hfzb a; have HIN : Hid (∀ q, q ∈ p.l → EndsOk tx q) := zh (fun q hq => HALLQ.out q hq (by rw [← HPK.out, hk]; rfl)); have HEND : Hid (∀ c, c ≤ L → (semL tx p.l a c ↔ P c)) := zh (fun c _ => by rw [HSEM.out, hk]; simp)
   have hot := post_hot (b := true) (P := fun c => semL tx (p.l.take 0) a c) HB1.out hgle HF2.out hx ha (fun c _ => by
    rw [List.take_zero, semL_nil]; by_cases e : c = a
    ·simp [e]
    ·simp [e]; exact fun h => e h.symm)
   have hfr1 : Fr [g2] w2 (w2.setCell ⟨g2, a, none⟩ (.bool true)) := (Fr.refl [g2] w2).setCell (.inl (by simp)) _; have hgb := HG1.out.fr hfr1 (by have := HGE.out; simp; omega); have HHOT := zh hot; have HGB := zh hgb; clear hk hcb hfzb HSEM HALLQ hot hgb hfr1; go_upto_region 11 with fail
   clear q0 q1 q2 c0 c259 hca hfa haI hltb
   go_loopw [7, 8] (fun v7 v8 wr => LpRel w g L m C (fun i => semL tx (p.l.take i) a) v7 v8 wr) (fun _ v8 _ => m + 1 - (intOf v8).toNat)
   case atStart =>
    obtain ⟨A0, c0, fs, h1, h2, h3, h4⟩ := HHOT.out
    injection h1 with h1
    injection h1 with h1 _ h1'
    subst h1 h1'; exact ⟨0, _, _, fs, rfl, rfl, Nat.zero_le _, h2, h3, HGB.out, h4⟩
   case round =>
    obtain ⟨i, A0, cc, fs, rfl, rfl, hi, hfs, hown, hbk, hfr⟩ := hrel; have c0 := hbk.cellL (i := 0) (by rw [HPC.out]; exact partC_k _ _ _ _ _); have c259 := hbk.cellL (i := 259) (by rw [HPC.out]; exact partC_l _ _ _ _ _); have HFS := zh hfs; have HOWN := zh hown; have HBK := zh hbk; have HFR := zh hfr; clear hfs hown hbk hfr; rcases Nat.lt_or_ge i m with hin | hin
    ·have hinI : (i : Int) < (m : Int) := by omega
     obtain ⟨q, hq⟩ : ∃ q, p.l[i]? = some q := ⟨_, List.getElem?_eq_getElem (by have := HM0.out; omega)⟩; obtain ⟨⟨b, off, hA, hcs⟩, hmq⟩ := (HM.out.fr_nil HFR.out).child hq; rw [← HPA.out] at hA; rw [hA] at c259
     have hst : ∀ c, c ≤ L → ((∃ b, b < L + 1 ∧ semL tx (p.l.take i) a b ∧ semP tx q b c) ↔ semL tx (p.l.take (i + 1)) a c) := fun c _ => by
      rw [semL_take tx p.l i q a c hq]; constructor
      ·rintro ⟨b, _, h⟩; exact ⟨b, h⟩
      ·rintro ⟨b, h⟩; exact ⟨b, by have := (semL_le tx _ a b h.1 (by rw [← HL.out]; exact ha)).2; have := HL.out; omega, h⟩
     have hE := all_of (by rw [← HL.out]; exact hx) (HIN.out q (List.mem_of_getElem? hq)) wr (A := A0) (ca := cc) (by rw [← HL.out]; exact HFS.out) (At.of_own HOWN.out) hmq; rw [← HL.out, ← HS.out] at hE; have HCS := zh hcs; have HE := zh hE; have HSTP := zh hst; clear hA hcs hmq hq hst hE
     go_upto_region 12 with (first
      | (refine wpList_load_mid rfl 33 _ rfl b (off + i * 260) rfl q.rcells _ (fun j v hv => HCS.out.cell hv) Tryz.underlying33 rfl (by rw [rcells_len]; exact rp_size) ?_)
      | (go_at_call 61; refine HE.out.mono ?_; rintro e w3 ⟨A3, c3, f3, rfl, h31, h32, h33⟩; have HV3 := zh h31; have HO3 := zh h32; have HF3 := zh h33; clear h31 h32 h33))
     have hO5 := own_rebase (base' := w.heap.size) HO3.out (fun g hg => by have := (own_base HO3.out g hg).1; have := HFR.out.size; omega); have HO5 := zh hO5; clear hO5; go_wp2_with fail
     go_roundw
     case rel => exact ⟨i + 1, A3, c3, f3, by go_num, rfl, by omega, HV3.out.iff HSTP.out, HO5.out, HBK.out.fr HF3.out (by simp), HFR.out.trans HF3.out⟩
     case measure => first | (simp [intOf]; done) | (simp [intOf]; omega)
    ·have hinI : ¬ ((i : Int) < (m : Int)) := by omega
     have hfin : HasV L fs P := HFS.out.iff (fun c hc => by
      dsimp only; rw [List.take_of_length_le (by have := HM0.out; omega)]
      exact HEND.out c hc)
     have HFIN := zh hfin; clear hfin; go_wp2_with fail
     go_ret
     exact ⟨A0, cc, fs, rfl, HFIN.out, HOWN.out, HFR.out⟩
  ·have q0 : (PK == 0) = false := by rw [hk]; rfl
   have q1 : (PK == 1) = false := by rw [hk]; rfl
   have q2 : (PK == 2) = false := by rw [hk]; rfl
   have q3 : (PK == 3) = true := by rw [hk]; rfl
   have q4 : (PK == 4) = false := by rw [hk]; rfl
   have q5 : (PK == 5) = false := by rw [hk]; rfl
   have q6 : (PK == 6) = false := by rw [hk]; rfl
   have HIN : Hid (∀ q, q ∈ p.l → EndsOk tx q) := zh (fun q hq => HALLQ.out q hq (by rw [← HPK.out, hk]; rfl)); have HEND : Hid (∀ c, c ≤ L → (semO tx p.l a c ↔ P c)) := zh (fun c _ => by rw [HSEM.out, hk]; simp); have hot := post_none (P := fun c => semO tx (p.l.take 0) a c) HB1.out hgle HF2.out hx (fun c _ => by rw [List.take_zero, semO_nil]; exact id); have HHOT := zh hot; clear hk hcb hfzb HSEM HALLQ hot; go_upto_region 16 with fail
   clear q0 q1 q2 q3 c0 c259 hltb
   go_loopw [7, 9] (fun v7 v8 wr => LpRel w g L m C (fun i => semO tx (p.l.take i) a) v7 v8 wr) (fun _ v8 _ => m + 1 - (intOf v8).toNat)
   case atStart =>
    obtain ⟨A0, c0, fs, h1, h2, h3, h4⟩ := HHOT.out
    injection h1 with h1
    injection h1 with h1 _ h1'
    subst h1 h1'; exact ⟨0, _, _, fs, rfl, rfl, Nat.zero_le _, h2, h3, HG1.out, h4⟩
   case round =>
    obtain ⟨i, A0, cc, fs, rfl, rfl, hi, hfs, hown, hbk, hfr⟩ := hrel; have c0 := hbk.cellL (i := 0) (by rw [HPC.out]; exact partC_k _ _ _ _ _); have c259 := hbk.cellL (i := 259) (by rw [HPC.out]; exact partC_l _ _ _ _ _); have HFS := zh hfs; have HOWN := zh hown; have HBK := zh hbk; have HFR := zh hfr; clear hfs hown hbk hfr; rcases Nat.lt_or_ge i m with hin | hin
    ·have hinI : (i : Int) < (m : Int) := by omega
     obtain ⟨q, hq⟩ : ∃ q, p.l[i]? = some q := ⟨_, List.getElem?_eq_getElem (by have := HM0.out; omega)⟩; obtain ⟨⟨b, off, hA, hcs⟩, hmq⟩ := (HM.out.fr_nil HFR.out).child hq; rw [← HPA.out] at hA; rw [hA] at c259; have hE := HIN.out q (List.mem_of_getElem? hq) wr a (by rw [← HL.out]; exact ha) hmq; rw [← HL.out, ← HS.out] at hE; have hst : ∀ c, c ≤ L → (semO tx (p.l.take i) a c ∨ semP tx q a c ↔ semO tx (p.l.take (i + 1)) a c) := fun c _ => (semO_take tx p.l i q a c hq).symm; have HCS := zh hcs; have HE := zh hE; have HSTP := zh hst; clear hA hcs hmq hq hst hE
     go_upto_region 17 with (first
      | (refine wpList_load_mid rfl 33 _ rfl b (off + i * 260) rfl q.rcells _ (fun j v hv => HCS.out.cell hv) Tryz.underlying33 rfl (by rw [rcells_len]; exact rp_size) ?_)
      | (go_at_call 46; refine HE.out.mono ?_; rintro e w3 ⟨A3, c3, f3, rfl, h31, h32, h33⟩; have HV3 := zh h31; have HO3 := zh h32; have HF3 := zh h33; clear h31 h32 h33)
      | (go_at_call 62; refine (rboth_any (by have := HFS.out.1; omega) (by have := HV3.out.1; omega) (by omega) (At.of_own (own_keep HOWN.out (KeepB.of_nil HF3.out))) (At.of_own HO3.out)).mono ?_; rintro e w4 ⟨A4, c4, rfl, h41, h42⟩; have HO4 := zh h41; have HF4 := zh (HF3.out.trans h42); clear h41 h42))
     have hO5 := own_rebase (base' := w.heap.size) HO4.out (fun g hg => by have := (own_base HO4.out g hg).1; have := HFR.out.size; have := HF3.out.size; omega); have HO5 := zh hO5; have HV5 := zh (HFS.out.or_ HV3.out); clear hO5; go_wp2_with fail
     go_roundw
     case rel => exact ⟨i + 1, A4, c4, _, by go_num, rfl, by omega, HV5.out.iff HSTP.out, HO5.out, HBK.out.fr HF4.out (by simp), HFR.out.trans HF4.out⟩
     case measure => first | (simp [intOf]; done) | (simp [intOf]; omega)
    ·have hinI : ¬ ((i : Int) < (m : Int)) := by omega
     have hfin : HasV L fs P := HFS.out.iff (fun c hc => by
      dsimp only; rw [List.take_of_length_le (by have := HM0.out; omega)]
      exact HEND.out c hc)
     have HFIN := zh hfin; clear hfin; go_wp2_with fail
     go_ret
     exact ⟨A0, cc, fs, rfl, HFIN.out, HOWN.out, HFR.out⟩
  ·have q0 : (PK == 0) = false := by rw [hk]; rfl
   have q1 : (PK == 1) = false := by rw [hk]; rfl
   have q2 : (PK == 2) = false := by rw [hk]; rfl
   have q3 : (PK == 3) = false := by rw [hk]; rfl
   have q4 : (PK == 4) = true := by rw [hk]; rfl
   have q5 : (PK == 5) = false := by rw [hk]; rfl
   have q6 : (PK == 6) = false := by rw [hk]; rfl
   have hkk := HKK.out; rw [hk] at hkk; simp [rightK] at hkk
   obtain ⟨t, htl⟩ : ∃ t, p.l = [t] := by
    have h1 : p.l.length = 1 := by rw [← HM0.out]; exact hkk.1
    match hh : p.l, h1 with
    | [t], _ => exact ⟨t, rfl⟩
   have hE := rep_of (by rw [← HL.out]; exact hx) (HALLQ.out t (by rw [htl]; simp) (by rw [← HPK.out, hk]; rfl)) htl ⟨by omega, by omega⟩ ⟨by omega, by omega, by omega⟩ w2 a (by rw [← HL.out]; exact ha) (HM.out.fr_nil HF2.out); rw [← HL.out, ← HS.out, ← HC.out] at hE
   have hP4 : ∀ c, c ≤ L → ((∃ m : Nat, p.mn.toNat ≤ m ∧ (p.mx < 0 ∨ m ≤ p.mx.toNat) ∧ iterR (semP tx t) m a c) ↔ P c) := fun c _ => by
    rw [HSEM.out, hk, htl]; have : semL tx [t] = semP tx t := by funext x y; exact propext (semL_one tx t x y)
    rw [this]; simp
   have hE2 := hE.mono (fun e w' h => EndsPost.iff h hP4); have HE := zh hE2; clear hk hkk htl hE hP4 hE2 hcb hfzb HSEM HALLQ
   go_wp2_with (first
    | (refine wpList_load_bk rfl 33 _ rfl g 0 rfl C _ _ _ HG1.out (by intro j u hj; rw [Nat.zero_add, List.getElem?_toArray]; exact hj) Tryz.underlying33 rfl (by rw [hCl]; exact rp_size) ?_)
    | (go_at_call 63; refine HE.out.mono ?_; rintro e w3 ⟨A3, c3, f3, rfl, h31, h32, h33⟩; have HV3 := zh h31; have HO3 := zh h32; have HF3 := zh h33; clear h31 h32 h33))
   go_ret
   exact ⟨A3, c3, f3, rfl, HV3.out, own_rebase HO3.out (fun g hg => by have := (own_base HO3.out g hg).1; have := HF2.out.size; omega), HF2.out.trans HF3.out⟩
  ·have q0 : (PK == 0) = false := by rw [hk]; rfl
   have q1 : (PK == 1) = false := by rw [hk]; rfl
   have q2 : (PK == 2) = false := by rw [hk]; rfl
   have q3 : (PK == 3) = false := by rw [hk]; rfl
   have q4 : (PK == 4) = false := by rw [hk]; rfl
   have q5 : (PK == 5) = true := by rw [hk]; rfl
   have q6 : (PK == 6) = false := by rw [hk]; rfl
   have haI : (a : Int) < (L : Int) + 1 := by omega
   have hca := hcb a ha; have hfa := hfzb a; obtain ⟨bb, hbb⟩ : ∃ bb, bb = decide (a = 0) := ⟨_, rfl⟩
   have HPO := zh (post_hot (b := bb) (P := P) HB1.out hgle HF2.out hx ha (fun c _ => by
    rw [HSEM.out, hk, hbb]; by_cases e : c = a
    ·subst e; simp
    ·simp [e]; intro h1; exact absurd h1.symm e))
   by_cases hc : a = 0
   ·have hcI : ((a : Int) == 0) = true := by simp; omega
    obtain rfl : bb = true := by rw [hbb]; exact decide_eq_true hc
    clear hk hcb hfzb hbb hc; go_wp2_with fail
    go_ret
    exact HPO.out
   ·have hcI : ((a : Int) == 0) = false := by simp; omega
    obtain rfl : bb = false := by rw [hbb]; exact decide_eq_false hc
    clear hk hcb hfzb hbb hc; go_wp2_with fail
    go_ret
    exact HPO.out
  ·have q0 : (PK == 0) = false := by rw [hk]; rfl
   have q1 : (PK == 1) = false := by rw [hk]; rfl
   have q2 : (PK == 2) = false := by rw [hk]; rfl
   have q3 : (PK == 3) = false := by rw [hk]; rfl
   have q4 : (PK == 4) = false := by rw [hk]; rfl
   have q5 : (PK == 5) = false := by rw [hk]; rfl
   have q6 : (PK == 6) = true := by rw [hk]; rfl
   have haI : (a : Int) < (L : Int) + 1 := by omega
   have hca := hcb a ha; have hfa := hfzb a; obtain ⟨bb, hbb⟩ : ∃ bb, bb = decide (a = L) := ⟨_, rfl⟩
   have HPO := zh (post_hot (b := bb) (P := P) HB1.out hgle HF2.out hx ha (fun c _ => by
    rw [HSEM.out, hk, hbb]; by_cases e : c = a
    ·subst e; simp
    ·simp [e]; intro h1; exact absurd h1.symm e))
   by_cases hc : a = L
   ·have hcI : ((a : Int) == (L : Int)) = true := by simp; omega
    obtain rfl : bb = true := by rw [hbb]; exact decide_eq_true hc
    clear hk hcb hfzb hbb hc; go_wp2_with fail
    go_ret
    exact HPO.out
   ·have hcI : ((a : Int) == (L : Int)) = false := by simp; omega
    obtain rfl : bb = false := by rw [hbb]; exact decide_eq_false hc
    clear hk hcb hfzb hbb hc; go_wp2_with fail
    go_ret
    exact HPO.out
end Go.Proofs.YteofhjegaaoglaaGreat
namespace Go.Proofs.YteofhjegaaoglaaGreat
open Go.RowKit Go.ChangeMaps
set_option linter.unusedVariables false
set_option linter.unusedSimpArgs false
mutual
theorem RepP.sem (tx : List UInt8) : ∀ (t : RT) (p : PT), RepP t p → semP tx p = semP tx (toP t)
 | .mk k s mn mx l, .mk k' s0 s1 s2 s3 mn' mx' A c ps, h => by
  rw [RepP] at h; obtain ⟨h1, h2, h3, h4, h5, h6, h7, h8⟩ := h; have h1' : k' = k := h1; have h2' : s0 = (s.a : Int) := h2; have h3' : s1 = (s.b : Int) := h3; have h4' : s2 = (s.c : Int) := h4; have h5' : s3 = (s.d : Int) := h5; have h6' : mn' = mn := h6; have h7' : mx' = mx := h7; have h8' : RepL l ps := h8; subst h1' h2' h3' h4' h5' h6' h7'; rw [toP, semP, semP, RepL.semL_ tx l ps h8', RepL.semO_ tx l ps h8']
theorem RepL.semL_ (tx : List UInt8) : ∀ (ts : List RT) (ps : List PT), RepL ts ps → semL tx ps = semL tx (toL ts)
 | [], ps, h => by rw [RepL_nil] at h; subst h; rw [toL]
 | t :: r, [], h => by rw [RepL] at h; exact h.elim
 | t :: r, p :: ps, h => by rw [RepL_cons] at h; rw [toL, semL, semL, RepP.sem tx t p h.1, RepL.semL_ tx r ps h.2]
theorem RepL.semO_ (tx : List UInt8) : ∀ (ts : List RT) (ps : List PT), RepL ts ps → semO tx ps = semO tx (toL ts)
 | [], ps, h => by rw [RepL_nil] at h; subst h; rw [toL]
 | t :: r, [], h => by rw [RepL] at h; exact h.elim
 | t :: r, p :: ps, h => by rw [RepL_cons] at h; rw [toL, semO, semO, RepP.sem tx t p h.1, RepL.semO_ tx r ps h.2]
end
def FndP (R : Nat → Nat → Prop) (n from_ : Nat) : Option (Nat × Nat) → Prop
 | some q => from_ ≤ q.1 ∧ q.1 ≤ q.2 ∧ q.2 ≤ n ∧ R q.1 q.2 ∧ ∀ t e, from_ ≤ t → t ≤ n → R t e → q.1 < t ∨ q.1 = t ∧ e ≤ q.2
 | none => ∀ t e, from_ ≤ t → t ≤ n → ¬ R t e
theorem fndP_of {bs tx : List UInt8} {t : RT} {p : PT} {from_ : Nat} (hp : parseS bs = .ok t) (hr : RepP t p) (hL : ProgOk (progT t) ∧ 0 < (progT t).length) (hfr : from_ ≤ tx.length) : FndP (semP tx p) tx.length from_ (findS (progT t) tx from_) := by
 have hm : ∀ a c, a ≤ tx.length → (Mt (progT t) tx false a c ↔ semP tx p a c) := fun a c ha => by rw [hr.sem tx]; exact parse_mt hp tx ha
 cases h : findS (progT t) tx from_ with
 | none => exact fun a e h1 h2 h3 => findS_none hL.1 hL.2 hfr h a e h1 h2 ((hm a e h2).2 h3)
 | some q =>
  have F := findS_some hL.1 hL.2 hfr h; exact ⟨F.fr, F.le, F.len, (hm _ _ (Nat.le_trans F.le F.len)).1 F.mt, fun a e h1 h2 h3 => F.all a e h1 h2 ((hm a e h2).2 h3)⟩
def foundC (r : Option (Nat × Nat)) : List Value := match r with | some q => [.int .i64 (q.1 : Int), .int .i64 (q.2 : Int), .bool true] | none => [.int .i64 0, .int .i64 0, .bool false]
theorem fnd_size : (Tryz.prog.info? 79).map (·.size) = some 3 := by kernel_rfl
def FiOut (w : World) (g r6 : Nat) (C : List Value) (v7 : Value) (from_ L : Nat) (R : Nat → Nat → Prop) (wr : World) : Prop := ∃ a : Nat, v7 = .int .i64 (a : Int) ∧ from_ ≤ a ∧ a ≤ L + 1 ∧ (∀ t e, from_ ≤ t → t < a → ¬ R t e) ∧
 Bk wr g 33 C.toArray ∧ Bk wr r6 79 #[.int .i64 0, .int .i64 0, .bool false] ∧ Fr [] w wr
set_option maxRecDepth 100000 in
set_option maxHeartbeats 8000000 in
theorem rfind_any {tx : List UInt8} {p : PT} {w : World} {from_ : Nat} {r : Option (Nat × Nat)} (hx : tx.length ≤ 500) (hE : EndsOk tx p) (hm : RPMem w p) (hfr : from_ ≤ tx.length) (hr : FndP (semP tx p) tx.length from_ r) :
    Calls Tryz.prog 35 #[.agg p.rcells.toArray, .string ⟨tx.toArray⟩, .int .i64 (from_ : Int)] w fun e w' => e = .returned (.agg (foundC r).toArray) ∧ Fr [] w w' := by
 have HE0 : Hid (∀ W, Fr [] w W → ∀ a : Nat, a ≤ tx.length → Calls Tryz.prog 46 #[.agg p.rcells.toArray, .string ⟨tx.toArray⟩, .int .i64 (a : Int)] W (EndsPost tx.length W (semP tx p a))) := zh (fun W hW a ha => hE W a ha (hm.fr_nil hW)); have hle := semP_le tx p; obtain ⟨S, hS⟩ : ∃ S, S = (⟨tx.toArray⟩ : ByteArray) := ⟨_, rfl⟩; obtain ⟨L, hL⟩ : ∃ L, L = tx.length := ⟨_, rfl⟩; obtain ⟨R, hR⟩ : ∃ R, R = semP tx p := ⟨_, rfl⟩; have hs1 : S.size = L := by rw [hS, hL]; simp [ByteArray.size]
 rw [← hS, ← hL, ← hR] at HE0; rw [← hS]; rw [← hL, ← hR] at hr hle; rw [← hL] at hx hfr; obtain ⟨g, hg⟩ : ∃ g, g = w.heap.size := ⟨_, rfl⟩; have HRR := zh hr; have HGE := zh hg; have HLE := zh hle; clear hE hm hr hS hL hg hle hR; have f0 : ¬ ((from_ : Int) < 0) := by omega
 have f1 : ¬ ((L : Int) < (from_ : Int)) := by omega
 go_enter Tryz.func35, Tryz.ntmps35
 go_upto_region 3 with (refine wpList_box_bk rfl 33 _ rfl p.rcells rfl ?_; intro w1 hz hf1; have HZ := zh hz; have HF := zh hf1; clear hz hf1)
 rw [← HGE.out]; obtain ⟨w2, hw2⟩ : ∃ w2, w2 = w1.alloc (.cells #[.int .i64 0, .int .i64 0, .bool false] 79) := ⟨_, rfl⟩; have h12 : Fr [] w1 w2 := by rw [hw2]; exact (Fr.refl [] w1).alloc _
 obtain ⟨r6, hr6⟩ : ∃ r6, r6 = w1.heap.size := ⟨_, rfl⟩; have hb6 : Bk w2 r6 79 #[.int .i64 0, .int .i64 0, .bool false] := by rw [hw2, hr6]; exact Bk.new w1 _ _
 have hz : Bk w2 g 33 p.rcells.toArray := by rw [HGE.out]; exact HZ.out.fr h12 (by simp)
 have hr6w : w.heap.size < r6 := by rw [hr6]; exact HZ.out.lt
 rw [← hw2, ← hr6]; have HB6 := zh hb6; have HZ2 := zh hz; have HF2 := zh (HF.out.trans h12); clear hw2 h12 hr6 hb6 hz HZ HF f0 f1; go_wp2_with fail
 go_loopw [7, 8, 9] (fun v7 v8 v9 wr => FiOut w g r6 p.rcells v7 from_ L R wr) (fun v7 _ _ _ => L + 2 - (intOf v7).toNat)
 case atStart => exact ⟨from_, rfl, Nat.le_refl _, by omega, fun t e h1 h2 => absurd h1 (by omega), HZ2.out, HB6.out, HF2.out⟩
 case round =>
  obtain ⟨a, rfl, hfa, haL, hno, hbg, hb6, hf⟩ := hrel; have HNO := zh hno; have HBG := zh hbg; have HBR := zh hb6; have HFR := zh hf; clear hno hbg hb6 hf HB6 HZ2; rcases Nat.lt_or_ge a (L + 1) with hal | hal
  ·have halI : (a : Int) ≤ (L : Int) := by omega
   have HE := zh (HE0.out wr HFR.out a (by omega))
   go_upto_region 7 with (first
    | (refine wpList_load_bk rfl 33 _ rfl g 0 rfl p.rcells _ _ _ HBG.out (by intro j u hj; rw [Nat.zero_add, List.getElem?_toArray]; exact hj) Tryz.underlying33 rfl (by rw [rcells_len]; exact rp_size) ?_)
    | (go_at_call 46; refine HE.out.mono ?_; rintro e w3 ⟨A3, c3, f3, rfl, h31, h32, h33⟩; have HV3 := zh h31; have HO3 := zh h32; have HF3 := zh h33; clear h31 h32 h33))
   have HBG3 := zh (HBG.out.fr HF3.out (by simp)); have HBR3 := zh (HBR.out.fr HF3.out (by simp)); have HFW3 := zh (HFR.out.trans HF3.out); go_upto_region 8 with fail
   go_loopw [9] (fun v9 wq => ∃ k : Nat, v9 = .int .i64 ((k : Int) - 1) ∧ a ≤ k ∧ k ≤ L + 1 ∧ (∀ c, k ≤ c → c ≤ L → ¬ R a c) ∧ wq = w3) (fun v9 _ => ((intOf v9) + 1).toNat)
   case atStart => exact ⟨L + 1, by go_num, by omega, Nat.le_refl _, fun c h1 h2 => by omega, rfl⟩
   case round =>
    obtain ⟨k, rfl, hak, hkL, hnk, rfl⟩ := hrel; have HNK := zh hnk; clear hnk; rcases Nat.lt_or_ge a k with hlt | hge
    ·obtain ⟨e, rfl⟩ : ∃ e, k = e + 1 := ⟨k - 1, by omega⟩; have hke : (((e + 1 : Nat) : Int) - 1) = (e : Int) := by omega
     rw [hke]; have haeI : (a : Int) ≤ (e : Int) := by omega
     have heI : (e : Int) < (L : Int) + 1 := by omega
     obtain ⟨ad, rfl, hcell⟩ := (At.of_own HO3.out).bit (i := e) (by have := HV3.out.1; omega); have hiff := HV3.out.2 e (by omega); obtain ⟨x, hxe⟩ : ∃ x, x = f3.getD e false := ⟨_, rfl⟩; rw [← hxe] at hcell hiff; have HIFF := zh hiff; clear hxe hiff hke
     cases x with
     | true =>
      have hae : R a e := by have := HIFF.out; simpa using this
      have hre : r = some (a, e) := by
       have h := HRR.out
       cases r with
       | none => exact absurd hae (h a e hfa (by omega))
       | some q =>
        obtain ⟨h1, h2, h3, h4, h5⟩ := h; have h6 := h5 a e hfa (by omega) hae; have h7 : ¬ q.1 < a := fun hlt2 => HNO.out q.1 q.2 h1 hlt2 h4; have h8 : q.1 = a := by omega
        have h9 : ¬ e + 1 ≤ q.2 := fun h10 => HNK.out q.2 h10 h3 (by rw [← h8]; exact h4); rw [show q = (a, e) from Prod.ext h8 (by omega)]
      subst hre; have rlt := HBR3.out.lt; have rf0 := HBR3.out.frozen 0; have rf1 := HBR3.out.frozen 1; have rf2 := HBR3.out.frozen 2; have rc0 := HBR3.out.cell_ (i := 0) rfl; have rc1 := HBR3.out.cell_ (i := 1) rfl; have rc2 := HBR3.out.cell_ (i := 2) rfl; go_wp2_with fail
      have hbb : Bk (((wr.setCell ⟨r6, 0, none⟩ (.int .i64 (a : Int))).setCell ⟨r6, 1, none⟩ (.int .i64 (e : Int))).setCell ⟨r6, 2, none⟩ (.bool true)) r6 79 (foundC (some (a, e))).toArray := ((HBR3.out.put 0 (.int .i64 (a : Int))).put 1 (.int .i64 (e : Int))).put 2 (.bool true); refine ret_row (p := 6) (T := 79) rfl r6 (foundC (some (a, e))) _ rfl hbb Tryz.underlying79 rfl fnd_size rfl ?_; exact ⟨rfl, ((HFW3.out.setCell (.inr (Nat.le_of_lt hr6w)) _).setCell (.inr (Nat.le_of_lt hr6w)) _).setCell (.inr (Nat.le_of_lt hr6w)) _⟩
     | false =>
      have hae : ¬ R a e := by have := HIFF.out; simpa using this
      go_wp2_with fail
      go_roundw
      case rel =>
       refine ⟨e, by go_num, by omega, by omega, fun c h1 h2 => ?_, by first | rfl | trivial⟩; rcases Nat.lt_or_ge e c with h | h
       ·exact HNK.out c h h2
       ·obtain rfl : c = e := by omega
        exact hae
      case measure => first | (simp [intOf]; done) | (simp [intOf]; omega)
    ·obtain rfl : k = a := by omega
     have hexI : ¬ ((k : Int) ≤ (k : Int) - 1) := by omega
     go_wp2_with fail
     go_roundw
     case rel =>
      refine ⟨k + 1, by go_num, by omega, by omega, fun t e h1 h2 h3 => ?_, HBG3.out, HBR3.out, HFW3.out⟩; rcases Nat.lt_or_ge t k with h | h
      ·exact HNO.out t e h1 h h3
      ·obtain rfl : t = k := by omega
       have h4 := HLE.out t e h3 (by omega); exact HNK.out e h4.1 h4.2 h3
     case measure => first | (simp [intOf]; done) | (simp [intOf]; omega)
  ·have halI : ¬ ((a : Int) ≤ (L : Int)) := by omega
   have hre : r = none := by
    have h := HRR.out
    cases r with
    | none => rfl
    | some q =>
     obtain ⟨h1, h2, h3, h4, h5⟩ := h; exact absurd h4 (HNO.out q.1 q.2 h1 (by omega))
   subst hre; have rlt := HBR.out.lt; have rf0 := HBR.out.frozen 0; have rf1 := HBR.out.frozen 1; have rf2 := HBR.out.frozen 2; have rc0 := HBR.out.cell_ (i := 0) rfl; have rc1 := HBR.out.cell_ (i := 1) rfl; have rc2 := HBR.out.cell_ (i := 2) rfl; go_wp2_with fail
   have hbb : Bk (((wr.setCell ⟨r6, 0, none⟩ (.int .i64 0)).setCell ⟨r6, 1, none⟩ (.int .i64 0)).setCell ⟨r6, 2, none⟩ (.bool false)) r6 79 (foundC none).toArray := ((HBR.out.put 0 (.int .i64 0)).put 1 (.int .i64 0)).put 2 (.bool false); refine ret_row (p := 6) (T := 79) rfl r6 (foundC none) _ rfl hbb Tryz.underlying79 rfl fnd_size rfl ?_; exact ⟨rfl, ((HFR.out.setCell (.inr (Nat.le_of_lt hr6w)) _).setCell (.inr (Nat.le_of_lt hr6w)) _).setCell (.inr (Nat.le_of_lt hr6w)) _⟩
end Go.Proofs.YteofhjegaaoglaaGreat
namespace Go.Proofs.YteofhjegaaoglaaGreat
open Go.RowKit Go.ChangeMaps
set_option linter.unusedVariables false
set_option linter.unusedSimpArgs false
def fcell (q : Nat × Nat) : List Value := [.int .i64 (q.1 : Int), .int .i64 (q.2 : Int), .bool true]
theorem fcell_len (q : Nat × Nat) : (fcell q).length = 3 := rfl
theorem fndParts : ∃ i, Tryz.prog.info? 79 = some i ∧ i.zero = some (.agg #[.int .i64 0, .int .i64 0, .bool false]) ∧ i.size = 3 ∧ i.bytes = 24 := info_parts (by kernel_rfl)
theorem three_new (w : World) (t : TypeId) (a b c : Value) : ∀ j u, [a, b, c][j]? = some u → (w.alloc (.cells #[a, b, c] t)).cell? ((⟨w.heap.size, 0, none⟩ : Addr).add j) = some u := by
 intro j u h; have hb := Bk.new w t #[a, b, c]; have e : (⟨w.heap.size, 0, none⟩ : Addr).add j = ⟨w.heap.size, j, none⟩ := by cases j <;> simp [Addr.add]
 rw [e]; exact hb.cell_ (by simpa using h)
def FsRel (w : World) (g n : Nat) (C : List Value) (L : List Sp) (tx : List UInt8) (v5 v6 v7 : Value) (wr : World) : Prop := ∃ (fr f : Nat) (last : Int) (dl : List (Nat × Nat)) (A : Option Addr) (c : Nat),
 v6 = .int .i64 (fr : Int) ∧ v7 = .int .i64 last ∧ v5 = .slice A dl.length c ∧ fr ≤ n + 1 ∧ n + 2 ≤ f + fr ∧ findsS L tx = dl ++ findsF L tx f fr last ∧ wr.ownsRow w.heap.size 79 3 (.slice A dl.length c) dl.length (dl.flatMap fcell) ∧
 Bk wr g 33 C.toArray ∧ Fr [] w wr
set_option maxRecDepth 100000 in
set_option maxHeartbeats 16000000 in
theorem rfinds_any {tx : List UInt8} {L : List Sp} {C : List Value} {w : World} (hC : C.length = 260) (hx : tx.length ≤ 500) (hL : ProgOk L ∧ 0 < L.length)
    (hF : ∀ W, Fr [] w W → ∀ a : Nat, a ≤ tx.length → Calls Tryz.prog 35 #[.agg C.toArray, .string ⟨tx.toArray⟩, .int .i64 (a : Int)] W fun e w' => e = .returned (.agg (foundC (findS L tx a)).toArray) ∧ Fr [] W w') :
    Calls Tryz.prog 20 #[.agg C.toArray, .string ⟨tx.toArray⟩] w fun e w' => ∃ (A : Option Addr) (c : Nat), e = .returned (.slice A (findsS L tx).length c) ∧ w'.ownsRow w.heap.size 79 3 (.slice A (findsS L tx).length c) (findsS L tx).length ((findsS L tx).flatMap fcell) ∧ Fr [] w w' := by
 have hord := findsS_ord (tx := tx) hL.1 hL.2; obtain ⟨FL, hFL⟩ : ∃ FL, FL = findsS L tx := ⟨_, rfl⟩; rw [← hFL] at hord ⊢; obtain ⟨S, hS⟩ : ∃ S, S = (⟨tx.toArray⟩ : ByteArray) := ⟨_, rfl⟩; obtain ⟨n, hn⟩ : ∃ n, n = tx.length := ⟨_, rfl⟩; have hs1 : S.size = n := by rw [hS, hn]; simp [ByteArray.size]
 rw [← hS, ← hn] at hF; rw [← hS]; rw [← hn] at hx; have hlen := hord.2.2; rw [← hn] at hlen
 have hsome : ∀ a q, a ≤ n → findS L tx a = some q → a ≤ q.1 ∧ q.1 ≤ q.2 ∧ q.2 ≤ n := fun a q ha h => by
  have F := findS_some hL.1 hL.2 (by rw [← hn]; exact ha) h; exact ⟨F.fr, F.le, by rw [hn]; exact F.len⟩
 have HF := zh hF; have HFL := zh hFL; have HN := zh hn; have HLEN := zh hlen; have HSOME := zh hsome; obtain ⟨i0, hi0, hz0, hz1, hz2⟩ := fndParts; obtain ⟨g, hg⟩ : ∃ g, g = w.heap.size := ⟨_, rfl⟩; have HGE := zh hg; clear hF hFL hS hn hord hlen hsome hL hg; go_enter Tryz.func20, Tryz.ntmps20
 go_upto_region 4 with (refine wpList_box_bk rfl 33 _ rfl C rfl ?_; intro w1 hz hf1; have HZ := zh hz; have HF1 := zh hf1; clear hz hf1)
 rw [← HGE.out]; have hz : Bk w1 g 33 C.toArray := by rw [HGE.out]; exact HZ.out
 have HZ := zh hz; clear hz
 go_loopw [5, 6, 7, 8] (fun v5 v6 v7 v8 wr => FsRel w g n C L tx v5 v6 v7 wr) (fun _ v6 _ _ _ => n + 2 - (intOf v6).toNat)
 case atStart => exact ⟨0, tx.length + 2, -1, [], none, 0, rfl, rfl, rfl, by omega, by have := HN.out; omega, by rw [List.nil_append]; rfl, ⟨by simp, .inl ⟨rfl, rfl⟩⟩, HZ.out, HF1.out⟩
 case round =>
  obtain ⟨a, f, last, dl, A0, c0, rfl, rfl, rfl, han, hfa, heq, hown, hbk, hfr⟩ := hrel; have HEQ := zh heq; have HOWN := zh hown; have HBK := zh hbk; have HFR := zh hfr; have hdl : dl.length ≤ n + 2 := by have h1 := HLEN.out; rw [HFL.out, heq, List.length_append] at h1; omega
  obtain ⟨d, hd⟩ : ∃ d, d = dl.length := ⟨_, rfl⟩; rw [← hd] at hdl HOWN ⊢; have HD := zh hd; clear heq hown hbk hfr hd; rcases Nat.lt_or_ge a (n + 1) with hal | hal
  ·have halI : (a : Int) ≤ (n : Int) := by omega
   obtain ⟨f, rfl⟩ : ∃ f0, f = f0 + 1 := ⟨f - 1, by omega⟩; have hcf := HF.out wr HFR.out a (by omega); have hanx : a ≤ tx.length := by have := HN.out; omega
   obtain ⟨r, hr⟩ : ∃ r, r = findS L tx a := ⟨_, rfl⟩; rw [← hr] at hcf; have HCF := zh hcf; have HR := zh hr; clear hcf hr
   cases r with
   | none =>
    have hfin : FL = dl := by
     have h := HEQ.out; rw [findsF_none HR.out.symm, List.append_nil, ← HFL.out] at h; exact h
    have HFIN := zh hfin; dsimp only [foundC] at HCF; clear hfin
    go_wp2_with (first
     | (refine wpList_load_bk rfl 33 _ rfl g 0 rfl C _ _ _ HBK.out (by intro j u hj; rw [Nat.zero_add, List.getElem?_toArray]; exact hj) Tryz.underlying33 rfl (by rw [hC]; exact rp_size) ?_)
     | (go_at_call 35; refine HCF.out.mono ?_; rintro e w3 ⟨rfl, hf⟩; have HF3 := zh hf; clear hf))
    go_ret
    refine ⟨A0, c0, by rw [HFIN.out, HD.out]; rfl, ?_, (HFR.out.trans HF3.out).alloc _⟩; rw [HFIN.out, ← HD.out]; exact own_keep HOWN.out (KeepB.of_nil (HF3.out.alloc _))
   | some q =>
    obtain ⟨s, z⟩ := q; obtain ⟨b1, b2, b3⟩ := HSOME.out a (s, z) (by omega) HR.out.symm; dsimp only at b1 b2 b3; have hstep := findsF_some (f := f) (last := last) hanx HR.out.symm; dsimp only at hstep; have heq := HEQ.out; rw [hstep] at heq; have HEQ2 := zh heq; dsimp only [foundC] at HCF; clear hstep heq HEQ
    go_upto_region 6 with (first
     | (refine wpList_load_bk rfl 33 _ rfl g 0 rfl C _ _ _ HBK.out (by intro j u hj; rw [Nat.zero_add, List.getElem?_toArray]; exact hj) Tryz.underlying33 rfl (by rw [hC]; exact rp_size) ?_)
     | (go_at_call 35; refine HCF.out.mono ?_; rintro e w3 ⟨rfl, hf⟩; have HF3 := zh hf; clear hf))
    obtain ⟨w4, hw4⟩ : ∃ w4, w4 = w3.alloc (.cells #[.int .i64 (s : Int), .int .i64 (z : Int), .bool true] 79) := ⟨_, rfl⟩; have hb8 : Bk w4 w3.heap.size 79 #[.int .i64 (s : Int), .int .i64 (z : Int), .bool true] := by rw [hw4]; exact Bk.new w3 _ _
    have h4 : Fr [] wr w4 := by rw [hw4]; exact HF3.out.alloc _
    obtain ⟨g8, hg8⟩ : ∃ g8, g8 = w3.heap.size := ⟨_, rfl⟩; rw [← hg8] at hb8; rw [← hw4, ← hg8]; have e0 := hb8.cell_ (i := 0) rfl; have e1 := hb8.cell_ (i := 1) rfl; have e2 := hb8.cell_ (i := 2) rfl; have hlt8 := hb8.lt
    have hob : ∀ b, (Value.slice A0 d c0).ownBlock = some b → b < g8 := fun b hb => by
     obtain ⟨-, cur, hc⟩ := own_base HOWN.out b hb; have h1 := hc.lt; have h2 := HF3.out.size; rw [hg8]; omega
    have HOB := zh hob; have HB8 := zh hb8; have HF4 := zh h4; have HFW4 := zh (HFR.out.trans h4); have HBK4 := zh (HBK.out.fr h4 (by simp)); have HOWN4 := zh (own_keep HOWN.out (KeepB.of_nil h4)); clear hw4 hb8 h4 hg8 hob HBK HOWN; by_cases hsz : s < z
    ·have hszI : (s : Int) < (z : Int) := by omega
     have hne : ((s : Int) == (z : Int)) = false := by simp; omega
     have hq : findsS L tx = (dl ++ [(s, z)]) ++ findsF L tx f z (z : Int) := by
      have h := HEQ2.out; rw [if_pos (.inl hsz), if_neg (by omega), ← List.append_assoc] at h; exact h
     have HQ := zh hq; clear hq HEQ2; go_upto_region 10 with (at_builtin; refine wpList_append_R rfl (.tmp 32) (.tmp 34) 76 rfl w.heap.size 79 i0 _ 3 24 Tryz.underlying76 hi0 hz0 hz1 hz2 rfl (by omega) (.slice A0 d c0) d (dl.flatMap fcell) (by first | rfl | (simp [Act.eval]; done)) (own_keep HOWN4.out (KeepB.of_nil ((Fr.refl [] w4).alloc _))) ⟨w4.heap.size, 0, none⟩ 1 1 (fcell (s, z)) (by first | rfl | (simp [Act.eval]; done)) rfl (three_new w4 79 _ _ _) (by simp [fcell, Value.oneCell']) (by unfold maxLen; omega) (by omega) (by have := HFW4.out.size; simp; omega) ?_; intro v' w5 hown5 hgr hat5; obtain ⟨A5, c5, rfl⟩ := own_any hown5; have HGR := zh hgr; have HOWN5 := zh hown5; clear hown5 hgr hat5)
     clear e0 e1 e2; have hgr := HGR.out; have hb5 : Bk w5 g8 79 #[.int .i64 (s : Int), .int .i64 (z : Int), .bool true] := (HB8.out.fr ((Fr.refl [] w4).alloc _) (by simp)).grown hgr (fun e => by have := HOB.out g8 e.symm; omega)
     have hbk5 : Bk w5 g 33 C.toArray := (HBK4.out.fr ((Fr.refl [] w4).alloc _) (by simp)).grown hgr (fun e => by
      obtain ⟨-, cur, hc⟩ := own_base HOWN4.out g e.symm
      exact HBK4.out.ne_ hc (by decide) rfl)
     have hf5 : Fr [] w w5 := (HFW4.out.alloc _).grown hgr (fun x hx => .inr (own_base HOWN4.out x hx).1); have e0 := hb5.cell_ (i := 0) rfl; have e1 := hb5.cell_ (i := 1) rfl; have e2 := hb5.cell_ (i := 2) rfl; have HBK5 := zh hbk5; have HF5 := zh hf5; clear hgr hb5 hbk5 hf5; go_wp2_with fail
     go_roundw
     case rel =>
      refine ⟨z, f, (z : Int), dl ++ [(s, z)], A5, c5, by go_num, rfl, by rw [List.length_append, ← HD.out]; rfl, by omega, by omega, HQ.out, ?_, HBK5.out, HF5.out⟩; have h := HOWN5.out; have e1 : (dl ++ [(s, z)]).length = d + 1 := by rw [List.length_append, ← HD.out]; rfl
      have e2 : (dl ++ [(s, z)]).flatMap fcell = dl.flatMap fcell ++ fcell (s, z) := by simp
      rw [e1, e2]; exact h
     case measure => first | (simp [intOf]; done) | (simp [intOf]; omega)
    ·have hszI : ¬ ((s : Int) < (z : Int)) := by omega
     obtain rfl : s = z := by omega
     by_cases hlz : (s : Int) = last
     ·have hlzI : ((s : Int) != last) = false := by simp [hlz]
      have hq : findsS L tx = dl ++ findsF L tx f (s + 1) (s : Int) := by
       have h := HEQ2.out; rw [if_neg (by rintro (h1 | h1); exact absurd h1 hsz; exact h1 hlz), if_pos rfl, List.nil_append] at h; exact h
      have HQ := zh hq; have HLZ := zh hlz; clear hq HEQ2 hlz; go_wp2_with fail
      go_roundw
      case rel => exact ⟨s + 1, f, (s : Int), dl, A0, c0, by go_num, rfl, by rw [HD.out], by omega, by omega, HQ.out, by rw [← HD.out]; exact HOWN4.out, HBK4.out, HFW4.out⟩
      case measure => first | (simp [intOf]; done) | (simp [intOf]; omega)
     ·have hlzI : ((s : Int) != last) = true := by simpa using hlz
      have hq : findsS L tx = (dl ++ [(s, s)]) ++ findsF L tx f (s + 1) (s : Int) := by
       have h := HEQ2.out; rw [if_pos (.inr hlz), if_pos rfl, ← List.append_assoc] at h; exact h
      have HQ := zh hq; have HLZ := zh hlz; clear hq HEQ2 hlz; go_upto_region 10 with (at_builtin; refine wpList_append_R rfl (.tmp 32) (.tmp 34) 76 rfl w.heap.size 79 i0 _ 3 24 Tryz.underlying76 hi0 hz0 hz1 hz2 rfl (by omega) (.slice A0 d c0) d (dl.flatMap fcell) (by first | rfl | (simp [Act.eval]; done)) (own_keep HOWN4.out (KeepB.of_nil ((Fr.refl [] w4).alloc _))) ⟨w4.heap.size, 0, none⟩ 1 1 (fcell (s, s)) (by first | rfl | (simp [Act.eval]; done)) rfl (three_new w4 79 _ _ _) (by simp [fcell, Value.oneCell']) (by unfold maxLen; omega) (by omega) (by have := HFW4.out.size; simp; omega) ?_; intro v' w5 hown5 hgr hat5; obtain ⟨A5, c5, rfl⟩ := own_any hown5; have HGR := zh hgr; have HOWN5 := zh hown5; clear hown5 hgr hat5)
      clear e0 e1 e2; have hgr := HGR.out; have hb5 : Bk w5 g8 79 #[.int .i64 (s : Int), .int .i64 (s : Int), .bool true] := (HB8.out.fr ((Fr.refl [] w4).alloc _) (by simp)).grown hgr (fun e => by have := HOB.out g8 e.symm; omega)
      have hbk5 : Bk w5 g 33 C.toArray := (HBK4.out.fr ((Fr.refl [] w4).alloc _) (by simp)).grown hgr (fun e => by
       obtain ⟨-, cur, hc⟩ := own_base HOWN4.out g e.symm
       exact HBK4.out.ne_ hc (by decide) rfl)
      have hf5 : Fr [] w w5 := (HFW4.out.alloc _).grown hgr (fun x hx => .inr (own_base HOWN4.out x hx).1); have e0 := hb5.cell_ (i := 0) rfl; have e1 := hb5.cell_ (i := 1) rfl; have e2 := hb5.cell_ (i := 2) rfl; have HBK5 := zh hbk5; have HF5 := zh hf5; clear hgr hb5 hbk5 hf5; go_wp2_with fail
      go_roundw
      case rel =>
       refine ⟨s + 1, f, (s : Int), dl ++ [(s, s)], A5, c5, by go_num, rfl, by rw [List.length_append, ← HD.out]; rfl, by omega, by omega, HQ.out, ?_, HBK5.out, HF5.out⟩; have h := HOWN5.out; have e1 : (dl ++ [(s, s)]).length = d + 1 := by rw [List.length_append, ← HD.out]; rfl
       have e2 : (dl ++ [(s, s)]).flatMap fcell = dl.flatMap fcell ++ fcell (s, s) := by simp
       rw [e1, e2]; exact h
      case measure => first | (simp [intOf]; done) | (simp [intOf]; omega)
  ·have halI : ¬ ((a : Int) ≤ (n : Int)) := by omega
   have hfin : FL = dl := by
    have h := HEQ.out
    have h2 : findsF L tx f a last = [] := by
     cases f with
     | zero => rfl
     | succ f => exact findsF_past (by have := HN.out; omega)
    rw [h2, List.append_nil, ← HFL.out] at h; exact h
   have HFIN := zh hfin; clear hfin; go_wp2_with fail
   go_ret
   refine ⟨A0, c0, by rw [HFIN.out, HD.out]; rfl, ?_, HFR.out⟩; rw [HFIN.out, ← HD.out]; exact HOWN.out
end Go.Proofs.YteofhjegaaoglaaGreat
