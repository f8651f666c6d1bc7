/-
 Wd5, Wd6: several small texts in one. No conditions.
-/
import Derived.Test.YteofhjegaaoglaaGreatGzA
import Derived.Test.YteofhjegaaoglaaGreatMb3
import Derived.LoopTactic
import Derived.Deep.Cut
namespace Go.Proofs.YteofhjegaaoglaaGreat
open Go.RowKit
set_option linter.unusedVariables false
set_option linter.unusedSimpArgs false
def tokM : List UInt8 → List (Option UInt8)
 | [] => []
 | [c] => [if c = 38 then none else some c]
 | c :: d :: r => if c = 38 then none :: tokM (d :: r) else if c = 92 ∧ (d = 92 ∨ d = 38) then some d :: tokM r else some c :: tokM (d :: r)
def pcT : List (Option UInt8) → List UInt8 → Nat → List (List UInt8 × Nat)
 | [], tx, n => if tx.length + n > 0 then [(tx, n)] else []
 | none :: r, tx, n => pcT r tx (n + 1)
 | some c :: r, tx, n => if n > 0 then (tx, n) :: pcT r [c] 0 else pcT r (tx ++ [c]) 0
def piecesM (w : List UInt8) : List (List UInt8 × Nat) := pcT (tokM w) [] 0
def becomeM (ps : List (List UInt8 × Nat)) (fd : List UInt8) : List UInt8 := ps.flatMap fun p => p.1 ++ (List.replicate p.2 fd).flatten
def tkB (fd : List UInt8) : Option UInt8 → List UInt8
 | none => fd
 | some c => [c]
theorem become_pc (fd : List UInt8) : ∀ (T : List (Option UInt8)) (tx : List UInt8) (n : Nat), (n = 0 ∨ True) → becomeM (pcT T tx n) fd = tx ++ (List.replicate n fd).flatten ++ T.flatMap (tkB fd)
 | [], tx, n, _ => by
  rw [pcT]; split
  ·simp [becomeM]
  ·have h1 : tx.length = 0 := by omega
   have h2 : n = 0 := by omega
   rw [List.eq_nil_of_length_eq_zero h1, h2]; simp [becomeM]
 | none :: r, tx, n, _ => by
  rw [pcT, become_pc fd r tx (n + 1) (.inr trivial), List.replicate_succ', List.flatten_append]; simp [tkB]
 | some c :: r, tx, n, _ => by
  rw [pcT]; split
  ·rename_i h
   have : becomeM ((tx, n) :: pcT r [c] 0) fd = (tx ++ (List.replicate n fd).flatten) ++ becomeM (pcT r [c] 0) fd := by simp [becomeM]
   rw [this, become_pc fd r [c] 0 (.inr trivial)]; simp [tkB]
  ·rename_i h
   have h2 : n = 0 := by omega
   subst h2; rw [become_pc fd r (tx ++ [c]) 0 (.inr trivial)]; simp [tkB]
theorem become_tok (w fd : List UInt8) : becomeM (piecesM w) fd = (tokM w).flatMap (tkB fd) := by
 rw [piecesM, become_pc fd _ _ _ (.inr trivial)]; simp
def replF (ps : List (List UInt8 × Nat)) (s : List UInt8) : List (Nat × Nat) → Nat → List UInt8
 | [], b => s.drop b
 | q :: r, b => ((s.drop b).take (q.1 - b)) ++ becomeM ps ((s.drop q.1).take (q.2 - q.1)) ++ replF ps s r q.2
def pcC (ps : List (List UInt8 × Nat)) : List Value := ps.flatMap fun p => [.string ⟨p.1.toArray⟩, .int .i64 (p.2 : Int)]
theorem pcC_snoc (ps : List (List UInt8 × Nat)) (t : List UInt8) (n : Nat) : pcC ps ++ [.string ⟨t.toArray⟩, .int .i64 (n : Int)] = pcC (ps ++ [(t, n)]) := by simp [pcC]
theorem tok_amp (r : List UInt8) : tokM (38 :: r) = none :: tokM r := by cases r <;> simp [tokM]
theorem tok_esc (d : UInt8) (r : List UInt8) (h : d = 92 ∨ d = 38) : tokM (92 :: d :: r) = some d :: tokM r := by
 rw [tokM, if_neg (by decide), if_pos ⟨rfl, h⟩]
theorem tok_one (c : UInt8) (r : List UInt8) (h : c ≠ 38) (h2 : ¬ (c = 92 ∧ (r[0]? = some 92 ∨ r[0]? = some 38))) : tokM (c :: r) = some c :: tokM r := by
 cases r with
 | nil => simp [tokM, h]
 | cons d r => rw [tokM, if_neg h, if_neg (by intro h3; exact h2 ⟨h3.1, by simpa using h3.2⟩)]
def endM (ps : List (List UInt8 × Nat)) (tx : List UInt8) (n : Nat) : List (List UInt8 × Nat) := if tx.length + n > 0 then ps ++ [(tx, n)] else ps
theorem endM_pc (ps : List (List UInt8 × Nat)) (tx : List UInt8) (n : Nat) : endM ps tx n = ps ++ pcT [] tx n := by unfold endM; rw [pcT]; split <;> simp
theorem endM_some (ps : List (List UInt8 × Nat)) (tx : List UInt8) (n : Nat) (c : UInt8) (T : List (Option UInt8)) (h : 0 < n) : endM ps tx n ++ pcT T [c] 0 = ps ++ pcT (some c :: T) tx n := by
 rw [pcT, if_pos (by omega)]; unfold endM; rw [if_pos (by omega)]; simp
theorem pc_some (tx : List UInt8) (c : UInt8) (T : List (Option UInt8)) : pcT T (tx ++ [c]) 0 = pcT (some c :: T) tx 0 := by rw [pcT, if_neg (by omega)]
def PcS (w0 w : World) (ps : List (List UInt8 × Nat)) (tx : List UInt8) (n : Nat) : Prop := ∃ Al cl Ta ct, Bk w w0.heap.size 47 #[.slice Al ps.length cl] ∧ Bk w (w0.heap.size + 1) 22 #[.slice Ta tx.length ct] ∧ Bk w (w0.heap.size + 2) 3 #[.int .i64 (n : Int)] ∧
 w.ownsRow w0.heap.size 57 2 (.slice Al ps.length cl) ps.length (pcC ps) ∧ w.ownsRow w0.heap.size 5 1 (.slice Ta tx.length ct) tx.length (byteVals tx) ∧ Fr [] w0 w
theorem pieceParts : ∃ i, Tryz.prog.info? 57 = some i ∧ i.zero = some (.agg #[.string ⟨#[]⟩, .int .i64 0]) ∧ i.size = 2 ∧ i.bytes = 24 := info_parts (by kernel_rfl)
theorem tw_new (w : World) (t : TypeId) (a b : Value) : ∀ j u, [a, b][j]? = some u → (w.alloc (.cells #[a, b] t)).cell? ((⟨w.heap.size, 0, none⟩ : Addr).add j) = some u := by
 intro j u hu; have hb := Bk.new w t #[a, b]; have e : (⟨w.heap.size, 0, none⟩ : Addr).add j = ⟨w.heap.size, j, none⟩ := by simp [Addr.add]; intro h; exact h.symm
 rw [e, hb.cell]
 simpa using hu
theorem pc_grown {w0 w wa w4 : World} {B L cl m ct : Nat} {Al Ta : Option Addr} {xs : List Value} {u : Value} (hfa : Fr [] w wa) (hl : Bk w B 47 #[.slice Al L cl]) (ht : Bk w (B + 1) 22 #[.slice Ta m ct]) (hn : Bk w (B + 2) 3 #[u])
    (ho : w.ownsRow B 57 2 (.slice Al L cl) L xs) (hf : Fr [] w0 w) (hB : w0.heap.size ≤ B) (hg : wa.grownBy w4 (Value.slice Al L cl).ownBlock) :
    Bk w4 B 47 #[.slice Al L cl] ∧ Bk w4 (B + 1) 22 #[.slice Ta m ct] ∧ Bk w4 (B + 2) 3 #[u] ∧ Fr [] w0 w4 := by
 have hoa := own_keep ho (KeepB.of_nil hfa)
 have far : ∀ {b : Nat} {t : TypeId} {cs : Array Value}, Bk wa b t cs → t ≠ 57 → Bk w4 b t cs := fun {b t cs} hb hne => hb.grown hg (fun e => by
  obtain ⟨-, cur, hc⟩ := own_base hoa b e.symm
  exact hb.ne_ hc hne rfl)
 refine ⟨far (hl.fr hfa (by simp)) (by decide), far (ht.fr hfa (by simp)) (by decide), far (hn.fr hfa (by simp)) (by decide), (hf.trans hfa).grown hg (fun g hg => .inr ?_)⟩; have := (own_base hoa g hg).1; omega
set_option maxRecDepth 100000 in
set_option maxHeartbeats 4000000 in
theorem end_any {w0 w : World} {ps : List (List UInt8 × Nat)} {tx : List UInt8} {n : Nat} (h : PcS w0 w ps tx n) (hl : tx.length + n ≤ 100000) (hps : ps.length ≤ 100000) :
    Calls Tryz.prog 23 #[.pointer (some ⟨w0.heap.size + 1, 0, none⟩), .pointer (some ⟨w0.heap.size + 2, 0, none⟩), .pointer (some ⟨w0.heap.size, 0, none⟩)] w fun e w' => e = .returned (.tuple #[]) ∧ PcS w0 w' (endM ps tx n) [] 0 := by
 obtain ⟨pi, hpi, hpz, hp1, hp2⟩ := pieceParts; obtain ⟨Al, cl, Ta, ct, hbl, hbt, hbn, hol, hot, hfr⟩ := h; obtain ⟨B, hB⟩ : ∃ B, B = w0.heap.size := ⟨_, rfl⟩; rw [← hB] at hbl hbt hbn hol hot; obtain ⟨L, hL⟩ : ∃ L, L = ps.length := ⟨_, rfl⟩; obtain ⟨m, hm⟩ : ∃ m, m = tx.length := ⟨_, rfl⟩; have hby : Bytes w Ta tx := At.of_own hot; have hsz := hfr.size; rw [← hB] at hsz; rw [← hL] at hbl hol hps; rw [← hm] at hbt hot hl; have hltn := hbn.lt; rw [← hB]; have dl : w.cell? ⟨B, 0, none⟩ = some (.slice Al L cl) := hbl.cell_ (i := 0) rfl; have dt : w.cell? ⟨B + 1, 0, none⟩ = some (.slice Ta m ct) := hbt.cell_ (i := 0) rfl; have dn : w.cell? ⟨B + 2, 0, none⟩ = some (.int .i64 (n : Int)) := hbn.cell_ (i := 0) rfl; have zl := hbl.frozen 0; have zt := hbt.frozen 0; have zn := hbn.frozen 0; have HBL := zh hbl; have HBT := zh hbt; have HBN := zh hbn; have HOL := zh hol; have HOT := zh hot; have HFR := zh hfr; have HB := zh hB; have HL := zh hL; have HM := zh hm; have HBY := zh hby
 clear hbl hbt hbn hol hot hfr hB hL hm hby
 have shut : ∀ (w5 : World) (Al5 : Option Addr) (cl5 : Nat) (ps5 : List (List UInt8 × Nat)), Bk w5 B 47 #[.slice Al5 ps5.length cl5] → Bk w5 (B + 1) 22 #[.slice none 0 0] → Bk w5 (B + 2) 3 #[.int .i64 0] → w5.ownsRow B 57 2 (.slice Al5 ps5.length cl5) ps5.length (pcC ps5) → Fr [] w0 w5 → PcS w0 w5 ps5 [] 0 := by
  intro w5 Al5 cl5 ps5 k1 k2 k3 k4 k5; rw [HB.out] at k1 k2 k3 k4; exact ⟨Al5, cl5, none, 0, k1, k2, k3, k4, World.ownsRow_nil _ _ _ _, k5⟩
 have HSH := zh shut; clear shut; by_cases hgt : 0 < m + n
 ·have hgtI : (0 : Int) < (m : Int) + (n : Int) := by omega
  have hE : endM ps tx n = ps ++ [(tx, n)] := by unfold endM; rw [if_pos (by rw [← HM.out]; exact hgt)]
  have HE := zh hE; clear hE; go_enter Tryz.func23, Tryz.ntmps23
  go_upto_region 1 with fail
  go_upto_region 2 with (first
   | (refine wpList_str rfl 22 9 (.tmp 9) rfl 5 Tryz.underlying22 Tryz.underlying5 Tryz.underlying9 Ta m ct (by first | rfl | (simp [Act.eval]; done)) tx HBY.out HM.out.symm ?_)
   | (at_builtin; go_loud (refine wpList_append_R rfl (.tmp 8) (.tmp 13) 47 rfl B 57 pi _ 2 24 Tryz.underlying47 hpi hpz hp1 hp2 rfl (by omega) (.slice Al L cl) L (pcC ps) (by first | rfl | (simp [Act.eval]; done)) (own_keep HOL.out (KeepB.of_nil ((Fr.refl [] w).alloc _))) ⟨w.heap.size, 0, none⟩ 1 1 [.string ⟨tx.toArray⟩, .int .i64 (n : Int)] (by first | rfl | (simp [Act.eval]; done)) rfl (tw_new w 57 _ _) (by simp [Value.oneCell']) (by unfold maxLen; omega) (by omega) (by simp; omega) ?_; intro v' w4 hown4 hgr hat4; obtain ⟨A4, c4, rfl⟩ := own_slice hown4; obtain ⟨hl4, ht4, hn4, hf4⟩ := pc_grown ((Fr.refl [] w).alloc _) HBL.out HBT.out HBN.out HOL.out HFR.out (by rw [← HB.out]; exact Nat.le_refl _) hgr; have el4 : w4.cell? ⟨B, 0, none⟩ = some (.slice Al L cl) := hl4.cell_ (i := 0) rfl; have et4 : w4.cell? ⟨B + 1, 0, none⟩ = some (.slice Ta m ct) := ht4.cell_ (i := 0) rfl; have en4 : w4.cell? ⟨B + 2, 0, none⟩ = some (.int .i64 (n : Int)) := hn4.cell_ (i := 0) rfl; have yl4 := hl4.frozen 0; have yt4 := ht4.frozen 0; have yn4 := hn4.frozen 0; have HL4 := zh hl4; have HT4 := zh ht4; have HN4 := zh hn4; have HF4 := zh hf4; have HOWN4 := zh hown4; clear hown4 hgr hat4 hl4 ht4 hn4 hf4)))
  go_wp2_with fail
  go_end0
  refine ⟨rfl, ?_⟩; rw [HE.out]; have hll : (ps ++ [(tx, n)]).length = L + 1 := by rw [List.length_append, ← HL.out]; rfl
  have g0 := HL4.out.put 0 (.slice A4 (L + 1) c4); have g1 := HT4.out.far (p := ⟨B, 0, none⟩) (by simp) (.slice A4 (L + 1) c4); have g2 := HN4.out.far (p := ⟨B, 0, none⟩) (by simp) (.slice A4 (L + 1) c4); have k0 := (g0.far (p := ⟨B + 1, 0, none⟩) (by simp) (.slice none 0 0)).far (p := ⟨B + 2, 0, none⟩) (by simp) (.int .i64 0); have k1 := (g1.put 0 (.slice none 0 0)).far (p := ⟨B + 2, 0, none⟩) (by simp) (.int .i64 0); have k2 := (g2.far (p := ⟨B + 1, 0, none⟩) (by simp) (.slice none 0 0)).put 0 (.int .i64 0); have kf : ∀ {W : World} (u : Value) (j : Nat), Fr [] w0 W → Fr [] w0 (W.setCell ⟨B + j, 0, none⟩ u) := fun u j h => h.setCell (.inr (by rw [← HB.out]; simp)) u; refine HSH.out _ A4 c4 _ (by rw [hll]; exact k0) k1 k2 ?_ (kf _ 2 (kf _ 1 (kf _ 0 HF4.out))); rw [hll, ← pcC_snoc]; exact own_keep HOWN4.out fun b cs hb => ((hb.far (p := ⟨B, 0, none⟩) (hb.ne_ HL4.out (by decide)) _).far (p := ⟨B + 1, 0, none⟩) (hb.ne_ HT4.out (by decide)) _).far (p := ⟨B + 2, 0, none⟩) (hb.ne_ HN4.out (by decide)) _
 ·have hgtI : ¬ ((0 : Int) < (m : Int) + (n : Int)) := by omega
  have hE : endM ps tx n = ps := by unfold endM; rw [if_neg (by rw [← HM.out]; exact hgt)]
  have HE := zh hE; clear hE; go_enter Tryz.func23, Tryz.ntmps23
  go_wp2_with fail
  go_end0
  refine ⟨rfl, ?_⟩; rw [HE.out]; have k0 := (HBL.out.far (p := ⟨B + 1, 0, none⟩) (by simp) (.slice none 0 0)).far (p := ⟨B + 2, 0, none⟩) (by simp) (.int .i64 0); have k1 := (HBT.out.put 0 (.slice none 0 0)).far (p := ⟨B + 2, 0, none⟩) (by simp) (.int .i64 0); have k2 := (HBN.out.far (p := ⟨B + 1, 0, none⟩) (by simp) (.slice none 0 0)).put 0 (.int .i64 0); have kf : ∀ {W : World} (u : Value) (j : Nat), Fr [] w0 W → Fr [] w0 (W.setCell ⟨B + j, 0, none⟩ u) := fun u j h => h.setCell (.inr (by rw [← HB.out]; simp)) u; refine HSH.out _ Al cl _ (by rw [← HL.out]; exact k0) k1 k2 ?_ (kf _ 2 (kf _ 1 HFR.out)); rw [← HL.out]; exact own_keep HOL.out fun b cs hb => (hb.far (p := ⟨B + 1, 0, none⟩) (hb.ne_ HBT.out (by decide)) _).far (p := ⟨B + 2, 0, none⟩) (hb.ne_ HBN.out (by decide)) _
end Go.Proofs.YteofhjegaaoglaaGreat
namespace Go.Proofs.YteofhjegaaoglaaGreat
open Go.RowKit
set_option linter.unusedVariables false
set_option linter.unusedSimpArgs false
theorem str_at7 (bs : List UInt8) (i : Nat) (c : UInt8) (hc : bs[i]? = some c) (W : World) : (Instr.index 9 (.string ⟨bs.toArray⟩) (.int .i64 (i : Int))).run Tryz.prog W = .ok (.int .u8 (c.toNat : Int)) W := by
 obtain ⟨hi, hc2⟩ := List.getElem?_eq_some_iff.1 hc
 have h : (⟨bs.toArray⟩ : ByteArray)[i]? = some c := by
  rw [getElem?_pos (⟨bs.toArray⟩ : ByteArray) i (by rw [ba_size]; exact hi)]
  congr 1
 unfold Instr.index; simp [asIntOf, run_underlying Tryz.underlying9, h]
theorem pc_put {w0 w wa w4 : World} {ps : List (List UInt8 × Nat)} {tx : List UInt8} {n cl m ct c4 : Nat} {Al Ta A4 : Option Addr} {c : UInt8} (hm : m = tx.length) (hfa : Fr [] w wa) (hl : Bk w w0.heap.size 47 #[.slice Al ps.length cl]) (ht : Bk w (w0.heap.size + 1) 22 #[.slice Ta m ct]) (hn : Bk w (w0.heap.size + 2) 3 #[.int .i64 (n : Int)])
    (ho : w.ownsRow w0.heap.size 57 2 (.slice Al ps.length cl) ps.length (pcC ps)) (hot : w.ownsRow w0.heap.size 5 1 (.slice Ta m ct) m (byteVals tx)) (hf : Fr [] w0 w) (hg : wa.grownBy w4 (Value.slice Ta m ct).ownBlock)
    (h4 : w4.ownsRow w0.heap.size 5 1 (.slice A4 (m + 1) c4) (m + 1) (byteVals tx ++ [.int .u8 (c.toNat : Int)])) :
    Bk w4 (w0.heap.size + 1) 22 #[.slice Ta m ct] ∧ PcS w0 (w4.setCell ⟨w0.heap.size + 1, 0, none⟩ (.slice A4 (m + 1) c4)) ps (tx ++ [c]) n := by
 have hoa := own_keep hot (KeepB.of_nil hfa)
 have far : ∀ {b : Nat} {t : TypeId} {cs : Array Value}, Bk wa b t cs → t ≠ 5 → Bk w4 b t cs := fun {b t cs} hb hne => hb.grown hg (fun e => by
  obtain ⟨-, cur, hc⟩ := own_base hoa b e.symm
  exact hb.ne_ hc hne rfl)
 have l4 := far (hl.fr hfa (by simp)) (by decide); have t4 := far (ht.fr hfa (by simp)) (by decide); have n4 := far (hn.fr hfa (by simp)) (by decide); have hf4 : Fr [] w0 w4 := (hf.trans hfa).grown hg (fun g hg => .inr (own_base hoa g hg).1); have ho4 : w4.ownsRow w0.heap.size 57 2 (.slice Al ps.length cl) ps.length (pcC ps) := own_keep (own_keep ho (KeepB.of_nil hfa)) fun b cs hb => far hb (by decide); have hlen : (tx ++ [c]).length = m + 1 := by rw [List.length_append, ← hm]; rfl
 refine ⟨t4, Al, cl, A4, c4, l4.far (by simp) _, by rw [hlen]; exact t4.put 0 _, n4.far (by simp) _, ?_, ?_, hf4.setCell (.inr (by simp)) _⟩
 ·exact own_keep ho4 fun b cs hb => hb.far (p := ⟨w0.heap.size + 1, 0, none⟩) (hb.ne_ t4 (by decide)) _
 ·rw [hlen, byteVals_append]; exact own_keep h4 fun b cs hb => hb.far (p := ⟨w0.heap.size + 1, 0, none⟩) (hb.ne_ t4 (by decide)) _
def PcRel (w0 : World) (wd : List UInt8) (R : List (List UInt8 × Nat)) (v7 : Value) (wr : World) : Prop := ∃ (i : Nat) (ps : List (List UInt8 × Nat)) (tx : List UInt8) (n : Nat), v7 = .int .i64 (i : Int) ∧ i ≤ wd.length ∧ ps ++ pcT (tokM (wd.drop i)) tx n = R ∧ tx.length + n ≤ i ∧ ps.length ≤ i ∧ PcS w0 wr ps tx n
def PiecesPost (w : World) (R : List (List UInt8 × Nat)) (e : Ending) (w' : World) : Prop := ∃ A c, e = .returned (.slice A R.length c) ∧ w'.ownsRow w.heap.size 57 2 (.slice A R.length c) R.length (pcC R) ∧ Fr [] w w'
set_option maxRecDepth 100000 in
set_option maxHeartbeats 16000000 in
theorem pieces_any (w : World) (wd : List UInt8) (hl : wd.length ≤ 10000) : Calls Tryz.prog 13 #[.string ⟨wd.toArray⟩] w (PiecesPost w (piecesM wd)) := by
 obtain ⟨bi, hbi, hz0, hz1, hz2⟩ := byteParts; obtain ⟨R, hR⟩ : ∃ R, R = piecesM wd := ⟨_, rfl⟩; obtain ⟨L, hL⟩ : ∃ L, L = wd.length := ⟨_, rfl⟩; obtain ⟨S, hS⟩ : ∃ S, S = (⟨wd.toArray⟩ : ByteArray) := ⟨_, rfl⟩; have hs1 : S.size = L := by rw [hS, hL]; simp [ByteArray.size]
 rw [← hL] at hl; rw [← hR, ← hS]; have HR := zh hR; have HL := zh hL; have HS := zh hS; clear hR hL hS; go_enter Tryz.func13, Tryz.ntmps13
 go_wp2_with fail
 go_loopw [7, 8] (fun v7 v8 wr => PcRel w wd R v7 wr) (fun v7 _ _ => L + 1 - (intOf v7).toNat)
 case atStart =>
  refine ⟨0, [], [], 0, rfl, Nat.zero_le _, by rw [HR.out]; rfl, by simp, by simp, none, 0, none, 0, ?_, ?_, ?_, World.ownsRow_nil _ _ _ _, World.ownsRow_nil _ _ _ _, ?_⟩
  ·exact ((Bk.new w 47 #[.slice none 0 0]).alloc _).alloc _
  ·have h := (Bk.new (w.alloc (.cells #[.slice none 0 0] 47)) 22 #[.slice none 0 0]).alloc (.cells #[.int .i64 0] 3); simp only [World.size_alloc] at h; exact h
  ·have h := Bk.new ((w.alloc (.cells #[.slice none 0 0] 47)).alloc (.cells #[.slice none 0 0] 22)) 3 #[.int .i64 0]; simp only [World.size_alloc] at h; exact h
  ·exact (((Fr.refl [] w).alloc _).alloc _).alloc _
 case round =>
  obtain ⟨i, ps, tx, n, rfl, hi, hr, hbd, hpl, hpc⟩ := hrel; have hi' : i ≤ L := by have := HL.out; omega
  have hmn : tx.length + n ≤ 100000 := by omega
  have hpn : ps.length ≤ 100000 := by omega
  have HPC := zh hpc; have HRR := zh hr; have HBD := zh hbd; have HPL := zh hpl; clear hpc hr hbd hpl hi; rcases Nat.lt_or_ge i L with hin | hin
  ·have hinI : (i : Int) < (L : Int) := by omega
   obtain ⟨c, hc⟩ : ∃ c, wd[i]? = some c := ⟨_, List.getElem?_eq_getElem (by have := HL.out; omega)⟩
   have hd : wd.drop i = c :: wd.drop (i + 1) := by
    obtain ⟨h1, h2⟩ := List.getElem?_eq_some_iff.1 hc; rw [List.drop_eq_getElem_cons h1, h2]
   have hix : ∀ W, (Instr.index 9 (.string S) (.int .i64 (i : Int))).run Tryz.prog W = .ok (.int .u8 (c.toNat : Int)) W := fun W => by rw [HS.out]; exact str_at7 wd i c hc W
   have HD := zh hd; clear hc hd; by_cases h38 : c = 38
   ·subst h38; rw [show ((38 : UInt8).toNat : Int) = 38 from rfl] at hix; obtain ⟨Al, cl, Ta, ct, hbl, hbt, hbn, hol, hot, hfr⟩ := HPC.out; have dn : wr.cell? ⟨w.heap.size + 2, 0, none⟩ = some (.int .i64 (n : Int)) := hbn.cell_ (i := 0) rfl; have zn := hbn.frozen 0; have HBL := zh hbl; have HBT := zh hbt; have HBN := zh hbn; have HOL := zh hol; have HOT := zh hot; have HFR := zh hfr; clear hbl hbt hbn hol hot hfr; go_wp2_with fail
    go_roundw
    case rel =>
     refine ⟨i + 1, ps, tx, n + 1, by go_num, by have := HL.out; omega, ?_, by have := HBD.out; omega, by have := HPL.out; omega, Al, cl, Ta, ct, HBL.out.far (p := ⟨w.heap.size + 2, 0, none⟩) (by simp) _, HBT.out.far (p := ⟨w.heap.size + 2, 0, none⟩) (by simp) _, HBN.out.put 0 _, ?_, ?_, HFR.out.setCell (.inr (by show w.heap.size ≤ w.heap.size + 2; omega)) _⟩
     ·have h := HRR.out; rw [HD.out, tok_amp, pcT] at h; exact h
     ·exact own_keep HOL.out fun b cs hb => hb.far (p := ⟨w.heap.size + 2, 0, none⟩) (hb.ne_ HBN.out (by decide)) _
     ·exact own_keep HOT.out fun b cs hb => hb.far (p := ⟨w.heap.size + 2, 0, none⟩) (hb.ne_ HBN.out (by decide)) _
    case measure => first | (simp [intOf]; done) | (simp [intOf]; omega)
   ·have hc38 : c.toNat ≠ 38 := fun h => h38 (UInt8.toNat_inj.1 h); have hc38I : ¬ ((c.toNat : Int) = 38) := by omega
    have hd1 : ∀ d, wd[i + 1]? = some d → wd.drop (i + 1) = d :: wd.drop (i + 2) := fun d h => by
     obtain ⟨h1, h2⟩ := List.getElem?_eq_some_iff.1 h; rw [List.drop_eq_getElem_cons h1, h2]
    have hg0 : (wd.drop (i + 1))[0]? = wd[i + 1]? := by rw [List.getElem?_drop]
    have HD1 := zh hd1; have HG0 := zh hg0; have H38 := zh h38; clear hd1 hg0 h38 hc38; by_cases h92 : c = 92
    ·subst h92; rw [show ((92 : UInt8).toNat : Int) = 92 from rfl] at hix; clear hc38I; rcases Nat.lt_or_ge (i + 1) L with hi1 | hi1
     ·have hi1I : (i : Int) + 1 < (L : Int) := by omega
      obtain ⟨d, hd⟩ : ∃ d, wd[i + 1]? = some d := ⟨_, List.getElem?_eq_getElem (by have := HL.out; omega)⟩; have hix1 : ∀ W, (Instr.index 9 (.string S) (.int .i64 ((i : Int) + 1))).run Tryz.prog W = .ok (.int .u8 (d.toNat : Int)) W := fun W => by rw [HS.out]; exact str_at7 wd (i + 1) d hd W
      have HDD := zh hd; clear hd; by_cases hd92 : d = 92
      ·subst hd92; rw [show ((92 : UInt8).toNat : Int) = 92 from rfl] at hix1; have HTK := zh (show tokM (wd.drop i) = some 92 :: tokM (wd.drop (i + 2)) from by rw [HD.out, HD1.out _ HDD.out]; exact tok_esc _ _ (by simp)); rcases Nat.eq_zero_or_pos n with hn0 | hn0
       ·subst hn0; obtain ⟨m, hm⟩ : ∃ m, m = tx.length := ⟨_, rfl⟩; have hpc := HPC.out; unfold PcS at hpc; rw [← hm] at hpc hmn; have HM := zh hm; clear hm; obtain ⟨Al, cl, Ta, ct, hbl, hbt, hbn, hol, hot, hfr⟩ := hpc; have dt : wr.cell? ⟨w.heap.size + 1, 0, none⟩ = some (.slice Ta m ct) := hbt.cell_ (i := 0) rfl; have zt := hbt.frozen 0; have dn : wr.cell? ⟨w.heap.size + 2, 0, none⟩ = some (.int .i64 ((0 : Nat) : Int)) := hbn.cell_ (i := 0) rfl; have HBL := zh hbl; have HBT := zh hbt; have HBN := zh hbn; have HOL := zh hol; have HOT := zh hot; have HFR := zh hfr; clear hbl hbt hbn hol hot hfr; go_wp2_with (at_builtin; refine wpList_append_R rfl (.tmp 55) (.tmp 57) 22 rfl w.heap.size 5 bi _ 1 1 Tryz.underlying22 hbi hz0 hz1 hz2 rfl (by omega) (.slice Ta m ct) m (byteVals tx) (by first | rfl | (simp [Act.eval]; done)) (own_keep HOT.out (KeepB.of_nil ((Fr.refl [] wr).alloc _))) ⟨wr.heap.size, 0, none⟩ 1 1 [.int .u8 92] (by first | rfl | (simp [Act.eval]; done)) rfl (one_new_ wr 5 _) (by simp [Value.oneCell']) (by unfold maxLen; omega) (by omega) (by have := HFR.out.size; simp; omega) ?_; intro v' w4 hown4 hgr hat4; obtain ⟨A4, c4, rfl⟩ := own_slice hown4; have hpp := pc_put (c := (92 : UInt8)) HM.out ((Fr.refl [] wr).alloc _) HBL.out HBT.out HBN.out HOL.out HOT.out HFR.out hgr hown4; have d4 : w4.cell? ⟨w.heap.size + 1, 0, none⟩ = some (.slice Ta m ct) := hpp.1.cell_ (i := 0) rfl; have z4 := hpp.1.frozen 0; have HPP := zh hpp.2; clear hown4 hgr hat4 hpp)
        go_roundw
        case rel => exact ⟨i + 2, ps, tx ++ [(92 : UInt8)], 0, by go_num, by have := HL.out; omega, by have h := HRR.out; rw [HTK.out] at h; rw [pc_some]; exact h, by have := HBD.out; first | (simp; done) | (simp; omega), by have := HPL.out; omega, HPP.out⟩
        case measure => first | (simp [intOf]; done) | (simp [intOf]; omega)
       ·have hnI : (0 : Int) < (n : Int) := by omega
        have dn0 : wr.cell? ⟨w.heap.size + 2, 0, none⟩ = some (.int .i64 (n : Int)) := by obtain ⟨Al, cl, Ta, ct, hbl, hbt, hbn, hol, hot, hfr⟩ := HPC.out; exact hbn.cell_ (i := 0) rfl
        obtain ⟨ps1, hps1⟩ : ∃ ps1, ps1 = endM ps tx n := ⟨_, rfl⟩; have HPS := zh hps1; have hpl1 : ps1.length ≤ ps.length + 1 := by rw [hps1]; unfold endM; split <;> simp
        have HPL1 := zh hpl1; clear hps1 hpl1; go_wp2_with (first | (go_at_call 23; refine (end_any HPC.out hmn hpn).mono ?_; rintro e w1 ⟨rfl, hpc1⟩; rw [← HPS.out] at hpc1; unfold PcS at hpc1; rw [List.length_nil] at hpc1; obtain ⟨Al, cl, Ta, ct, hbl, hbt, hbn, hol, hot, hfr⟩ := hpc1; have dt : w1.cell? ⟨w.heap.size + 1, 0, none⟩ = some (.slice Ta 0 ct) := hbt.cell_ (i := 0) rfl; have zt := hbt.frozen 0; have dn : w1.cell? ⟨w.heap.size + 2, 0, none⟩ = some (.int .i64 ((0 : Nat) : Int)) := hbn.cell_ (i := 0) rfl; have HBL := zh hbl; have HBT := zh hbt; have HBN := zh hbn; have HOL := zh hol; have HOT := zh hot; have HFR := zh hfr; clear hbl hbt hbn hol hot hfr) | (at_builtin; refine wpList_append_R rfl (.tmp 55) (.tmp 57) 22 rfl w.heap.size 5 bi _ 1 1 Tryz.underlying22 hbi hz0 hz1 hz2 rfl (by omega) (.slice Ta 0 ct) 0 (byteVals []) (by first | rfl | (simp [Act.eval]; done)) (own_keep HOT.out (KeepB.of_nil ((Fr.refl [] w1).alloc _))) ⟨w1.heap.size, 0, none⟩ 1 1 [.int .u8 92] (by first | rfl | (simp [Act.eval]; done)) rfl (one_new_ w1 5 _) (by simp [Value.oneCell']) (by unfold maxLen; omega) (by omega) (by have := HFR.out.size; simp; omega) ?_; intro v' w4 hown4 hgr hat4; obtain ⟨A4, c4, rfl⟩ := own_slice hown4; have hpp := pc_put (c := (92 : UInt8)) (tx := []) rfl ((Fr.refl [] w1).alloc _) HBL.out HBT.out HBN.out HOL.out HOT.out HFR.out hgr hown4; have d4 : w4.cell? ⟨w.heap.size + 1, 0, none⟩ = some (.slice Ta 0 ct) := hpp.1.cell_ (i := 0) rfl; have z4 := hpp.1.frozen 0; have HPP := zh hpp.2; clear hown4 hgr hat4 hpp))
        go_roundw
        case rel => exact ⟨i + 2, ps1, [(92 : UInt8)], 0, by go_num, by have := HL.out; omega, by have h := HRR.out; rw [HTK.out] at h; rw [HPS.out, endM_some _ _ _ _ _ hn0]; exact h, by have := HBD.out; first | (simp; done) | (simp; omega), by have := HPL.out; have := HPL1.out; omega, HPP.out⟩
        case measure => first | (simp [intOf]; done) | (simp [intOf]; omega)
      by_cases hd38 : d = 38
      ·subst hd38; rw [show ((38 : UInt8).toNat : Int) = 38 from rfl] at hix1; have HTK := zh (show tokM (wd.drop i) = some 38 :: tokM (wd.drop (i + 2)) from by rw [HD.out, HD1.out _ HDD.out]; exact tok_esc _ _ (by simp)); rcases Nat.eq_zero_or_pos n with hn0 | hn0
       ·subst hn0; obtain ⟨m, hm⟩ : ∃ m, m = tx.length := ⟨_, rfl⟩; have hpc := HPC.out; unfold PcS at hpc; rw [← hm] at hpc hmn; have HM := zh hm; clear hm; obtain ⟨Al, cl, Ta, ct, hbl, hbt, hbn, hol, hot, hfr⟩ := hpc; have dt : wr.cell? ⟨w.heap.size + 1, 0, none⟩ = some (.slice Ta m ct) := hbt.cell_ (i := 0) rfl; have zt := hbt.frozen 0; have dn : wr.cell? ⟨w.heap.size + 2, 0, none⟩ = some (.int .i64 ((0 : Nat) : Int)) := hbn.cell_ (i := 0) rfl; have HBL := zh hbl; have HBT := zh hbt; have HBN := zh hbn; have HOL := zh hol; have HOT := zh hot; have HFR := zh hfr; clear hbl hbt hbn hol hot hfr; go_wp2_with (at_builtin; refine wpList_append_R rfl (.tmp 55) (.tmp 57) 22 rfl w.heap.size 5 bi _ 1 1 Tryz.underlying22 hbi hz0 hz1 hz2 rfl (by omega) (.slice Ta m ct) m (byteVals tx) (by first | rfl | (simp [Act.eval]; done)) (own_keep HOT.out (KeepB.of_nil ((Fr.refl [] wr).alloc _))) ⟨wr.heap.size, 0, none⟩ 1 1 [.int .u8 38] (by first | rfl | (simp [Act.eval]; done)) rfl (one_new_ wr 5 _) (by simp [Value.oneCell']) (by unfold maxLen; omega) (by omega) (by have := HFR.out.size; simp; omega) ?_; intro v' w4 hown4 hgr hat4; obtain ⟨A4, c4, rfl⟩ := own_slice hown4; have hpp := pc_put (c := (38 : UInt8)) HM.out ((Fr.refl [] wr).alloc _) HBL.out HBT.out HBN.out HOL.out HOT.out HFR.out hgr hown4; have d4 : w4.cell? ⟨w.heap.size + 1, 0, none⟩ = some (.slice Ta m ct) := hpp.1.cell_ (i := 0) rfl; have z4 := hpp.1.frozen 0; have HPP := zh hpp.2; clear hown4 hgr hat4 hpp)
        go_roundw
        case rel => exact ⟨i + 2, ps, tx ++ [(38 : UInt8)], 0, by go_num, by have := HL.out; omega, by have h := HRR.out; rw [HTK.out] at h; rw [pc_some]; exact h, by have := HBD.out; first | (simp; done) | (simp; omega), by have := HPL.out; omega, HPP.out⟩
        case measure => first | (simp [intOf]; done) | (simp [intOf]; omega)
       ·have hnI : (0 : Int) < (n : Int) := by omega
        have dn0 : wr.cell? ⟨w.heap.size + 2, 0, none⟩ = some (.int .i64 (n : Int)) := by obtain ⟨Al, cl, Ta, ct, hbl, hbt, hbn, hol, hot, hfr⟩ := HPC.out; exact hbn.cell_ (i := 0) rfl
        obtain ⟨ps1, hps1⟩ : ∃ ps1, ps1 = endM ps tx n := ⟨_, rfl⟩; have HPS := zh hps1; have hpl1 : ps1.length ≤ ps.length + 1 := by rw [hps1]; unfold endM; split <;> simp
        have HPL1 := zh hpl1; clear hps1 hpl1; go_wp2_with (first | (go_at_call 23; refine (end_any HPC.out hmn hpn).mono ?_; rintro e w1 ⟨rfl, hpc1⟩; rw [← HPS.out] at hpc1; unfold PcS at hpc1; rw [List.length_nil] at hpc1; obtain ⟨Al, cl, Ta, ct, hbl, hbt, hbn, hol, hot, hfr⟩ := hpc1; have dt : w1.cell? ⟨w.heap.size + 1, 0, none⟩ = some (.slice Ta 0 ct) := hbt.cell_ (i := 0) rfl; have zt := hbt.frozen 0; have dn : w1.cell? ⟨w.heap.size + 2, 0, none⟩ = some (.int .i64 ((0 : Nat) : Int)) := hbn.cell_ (i := 0) rfl; have HBL := zh hbl; have HBT := zh hbt; have HBN := zh hbn; have HOL := zh hol; have HOT := zh hot; have HFR := zh hfr; clear hbl hbt hbn hol hot hfr) | (at_builtin; refine wpList_append_R rfl (.tmp 55) (.tmp 57) 22 rfl w.heap.size 5 bi _ 1 1 Tryz.underlying22 hbi hz0 hz1 hz2 rfl (by omega) (.slice Ta 0 ct) 0 (byteVals []) (by first | rfl | (simp [Act.eval]; done)) (own_keep HOT.out (KeepB.of_nil ((Fr.refl [] w1).alloc _))) ⟨w1.heap.size, 0, none⟩ 1 1 [.int .u8 38] (by first | rfl | (simp [Act.eval]; done)) rfl (one_new_ w1 5 _) (by simp [Value.oneCell']) (by unfold maxLen; omega) (by omega) (by have := HFR.out.size; simp; omega) ?_; intro v' w4 hown4 hgr hat4; obtain ⟨A4, c4, rfl⟩ := own_slice hown4; have hpp := pc_put (c := (38 : UInt8)) (tx := []) rfl ((Fr.refl [] w1).alloc _) HBL.out HBT.out HBN.out HOL.out HOT.out HFR.out hgr hown4; have d4 : w4.cell? ⟨w.heap.size + 1, 0, none⟩ = some (.slice Ta 0 ct) := hpp.1.cell_ (i := 0) rfl; have z4 := hpp.1.frozen 0; have HPP := zh hpp.2; clear hown4 hgr hat4 hpp))
        go_roundw
        case rel => exact ⟨i + 2, ps1, [(38 : UInt8)], 0, by go_num, by have := HL.out; omega, by have h := HRR.out; rw [HTK.out] at h; rw [HPS.out, endM_some _ _ _ _ _ hn0]; exact h, by have := HBD.out; first | (simp; done) | (simp; omega), by have := HPL.out; have := HPL1.out; omega, HPP.out⟩
        case measure => first | (simp [intOf]; done) | (simp [intOf]; omega)
      have e92 : ((d.toNat : Int) == 92) = false := beq_eq_false_iff_ne.2 fun h => hd92 (UInt8.toNat_inj.1 (by simpa using (by omega : d.toNat = 92))); have e38 : ((d.toNat : Int) == 38) = false := beq_eq_false_iff_ne.2 fun h => hd38 (UInt8.toNat_inj.1 (by simpa using (by omega : d.toNat = 38))); have H92 := zh hd92; have H3 := zh hd38; clear hd92 hd38; have HTK := zh (show tokM (wd.drop i) = some 92 :: tokM (wd.drop (i + 1)) from by rw [HD.out]; exact tok_one _ _ (by decide) (by rw [HG0.out, HDD.out]; rintro ⟨-, h | h⟩; exact H92.out (by injection h); exact H3.out (by injection h))); rcases Nat.eq_zero_or_pos n with hn0 | hn0
      ·subst hn0; obtain ⟨m, hm⟩ : ∃ m, m = tx.length := ⟨_, rfl⟩; have hpc := HPC.out; unfold PcS at hpc; rw [← hm] at hpc hmn; have HM := zh hm; clear hm; obtain ⟨Al, cl, Ta, ct, hbl, hbt, hbn, hol, hot, hfr⟩ := hpc; have dt : wr.cell? ⟨w.heap.size + 1, 0, none⟩ = some (.slice Ta m ct) := hbt.cell_ (i := 0) rfl; have zt := hbt.frozen 0; have dn : wr.cell? ⟨w.heap.size + 2, 0, none⟩ = some (.int .i64 ((0 : Nat) : Int)) := hbn.cell_ (i := 0) rfl; have HBL := zh hbl; have HBT := zh hbt; have HBN := zh hbn; have HOL := zh hol; have HOT := zh hot; have HFR := zh hfr; clear hbl hbt hbn hol hot hfr; go_wp2_with (at_builtin; refine wpList_append_R rfl (.tmp 55) (.tmp 57) 22 rfl w.heap.size 5 bi _ 1 1 Tryz.underlying22 hbi hz0 hz1 hz2 rfl (by omega) (.slice Ta m ct) m (byteVals tx) (by first | rfl | (simp [Act.eval]; done)) (own_keep HOT.out (KeepB.of_nil ((Fr.refl [] wr).alloc _))) ⟨wr.heap.size, 0, none⟩ 1 1 [.int .u8 92] (by first | rfl | (simp [Act.eval]; done)) rfl (one_new_ wr 5 _) (by simp [Value.oneCell']) (by unfold maxLen; omega) (by omega) (by have := HFR.out.size; simp; omega) ?_; intro v' w4 hown4 hgr hat4; obtain ⟨A4, c4, rfl⟩ := own_slice hown4; have hpp := pc_put (c := (92 : UInt8)) HM.out ((Fr.refl [] wr).alloc _) HBL.out HBT.out HBN.out HOL.out HOT.out HFR.out hgr hown4; have d4 : w4.cell? ⟨w.heap.size + 1, 0, none⟩ = some (.slice Ta m ct) := hpp.1.cell_ (i := 0) rfl; have z4 := hpp.1.frozen 0; have HPP := zh hpp.2; clear hown4 hgr hat4 hpp)
       go_roundw
       case rel => exact ⟨i + 1, ps, tx ++ [(92 : UInt8)], 0, by go_num, by have := HL.out; omega, by have h := HRR.out; rw [HTK.out] at h; rw [pc_some]; exact h, by have := HBD.out; first | (simp; done) | (simp; omega), by have := HPL.out; omega, HPP.out⟩
       case measure => first | (simp [intOf]; done) | (simp [intOf]; omega)
      ·have hnI : (0 : Int) < (n : Int) := by omega
       have dn0 : wr.cell? ⟨w.heap.size + 2, 0, none⟩ = some (.int .i64 (n : Int)) := by obtain ⟨Al, cl, Ta, ct, hbl, hbt, hbn, hol, hot, hfr⟩ := HPC.out; exact hbn.cell_ (i := 0) rfl
       obtain ⟨ps1, hps1⟩ : ∃ ps1, ps1 = endM ps tx n := ⟨_, rfl⟩; have HPS := zh hps1; have hpl1 : ps1.length ≤ ps.length + 1 := by rw [hps1]; unfold endM; split <;> simp
       have HPL1 := zh hpl1; clear hps1 hpl1; go_wp2_with (first | (go_at_call 23; refine (end_any HPC.out hmn hpn).mono ?_; rintro e w1 ⟨rfl, hpc1⟩; rw [← HPS.out] at hpc1; unfold PcS at hpc1; rw [List.length_nil] at hpc1; obtain ⟨Al, cl, Ta, ct, hbl, hbt, hbn, hol, hot, hfr⟩ := hpc1; have dt : w1.cell? ⟨w.heap.size + 1, 0, none⟩ = some (.slice Ta 0 ct) := hbt.cell_ (i := 0) rfl; have zt := hbt.frozen 0; have dn : w1.cell? ⟨w.heap.size + 2, 0, none⟩ = some (.int .i64 ((0 : Nat) : Int)) := hbn.cell_ (i := 0) rfl; have HBL := zh hbl; have HBT := zh hbt; have HBN := zh hbn; have HOL := zh hol; have HOT := zh hot; have HFR := zh hfr; clear hbl hbt hbn hol hot hfr) | (at_builtin; refine wpList_append_R rfl (.tmp 55) (.tmp 57) 22 rfl w.heap.size 5 bi _ 1 1 Tryz.underlying22 hbi hz0 hz1 hz2 rfl (by omega) (.slice Ta 0 ct) 0 (byteVals []) (by first | rfl | (simp [Act.eval]; done)) (own_keep HOT.out (KeepB.of_nil ((Fr.refl [] w1).alloc _))) ⟨w1.heap.size, 0, none⟩ 1 1 [.int .u8 92] (by first | rfl | (simp [Act.eval]; done)) rfl (one_new_ w1 5 _) (by simp [Value.oneCell']) (by unfold maxLen; omega) (by omega) (by have := HFR.out.size; simp; omega) ?_; intro v' w4 hown4 hgr hat4; obtain ⟨A4, c4, rfl⟩ := own_slice hown4; have hpp := pc_put (c := (92 : UInt8)) (tx := []) rfl ((Fr.refl [] w1).alloc _) HBL.out HBT.out HBN.out HOL.out HOT.out HFR.out hgr hown4; have d4 : w4.cell? ⟨w.heap.size + 1, 0, none⟩ = some (.slice Ta 0 ct) := hpp.1.cell_ (i := 0) rfl; have z4 := hpp.1.frozen 0; have HPP := zh hpp.2; clear hown4 hgr hat4 hpp))
       go_roundw
       case rel => exact ⟨i + 1, ps1, [(92 : UInt8)], 0, by go_num, by have := HL.out; omega, by have h := HRR.out; rw [HTK.out] at h; rw [HPS.out, endM_some _ _ _ _ _ hn0]; exact h, by have := HBD.out; first | (simp; done) | (simp; omega), by have := HPL.out; have := HPL1.out; omega, HPP.out⟩
       case measure => first | (simp [intOf]; done) | (simp [intOf]; omega)
     ·have hi1I : ¬ ((i : Int) + 1 < (L : Int)) := by omega
      have HTK := zh (show tokM (wd.drop i) = some 92 :: tokM (wd.drop (i + 1)) from by rw [HD.out]; exact tok_one _ _ (by decide) (by rw [HG0.out, List.getElem?_eq_none (by have := HL.out; omega)]; rintro ⟨-, h | h⟩ <;> cases h))
      rcases Nat.eq_zero_or_pos n with hn0 | hn0
      ·subst hn0; obtain ⟨m, hm⟩ : ∃ m, m = tx.length := ⟨_, rfl⟩; have hpc := HPC.out; unfold PcS at hpc; rw [← hm] at hpc hmn; have HM := zh hm; clear hm; obtain ⟨Al, cl, Ta, ct, hbl, hbt, hbn, hol, hot, hfr⟩ := hpc; have dt : wr.cell? ⟨w.heap.size + 1, 0, none⟩ = some (.slice Ta m ct) := hbt.cell_ (i := 0) rfl; have zt := hbt.frozen 0; have dn : wr.cell? ⟨w.heap.size + 2, 0, none⟩ = some (.int .i64 ((0 : Nat) : Int)) := hbn.cell_ (i := 0) rfl; have HBL := zh hbl; have HBT := zh hbt; have HBN := zh hbn; have HOL := zh hol; have HOT := zh hot; have HFR := zh hfr; clear hbl hbt hbn hol hot hfr; go_wp2_with (at_builtin; refine wpList_append_R rfl (.tmp 55) (.tmp 57) 22 rfl w.heap.size 5 bi _ 1 1 Tryz.underlying22 hbi hz0 hz1 hz2 rfl (by omega) (.slice Ta m ct) m (byteVals tx) (by first | rfl | (simp [Act.eval]; done)) (own_keep HOT.out (KeepB.of_nil ((Fr.refl [] wr).alloc _))) ⟨wr.heap.size, 0, none⟩ 1 1 [.int .u8 92] (by first | rfl | (simp [Act.eval]; done)) rfl (one_new_ wr 5 _) (by simp [Value.oneCell']) (by unfold maxLen; omega) (by omega) (by have := HFR.out.size; simp; omega) ?_; intro v' w4 hown4 hgr hat4; obtain ⟨A4, c4, rfl⟩ := own_slice hown4; have hpp := pc_put (c := (92 : UInt8)) HM.out ((Fr.refl [] wr).alloc _) HBL.out HBT.out HBN.out HOL.out HOT.out HFR.out hgr hown4; have d4 : w4.cell? ⟨w.heap.size + 1, 0, none⟩ = some (.slice Ta m ct) := hpp.1.cell_ (i := 0) rfl; have z4 := hpp.1.frozen 0; have HPP := zh hpp.2; clear hown4 hgr hat4 hpp)
       go_roundw
       case rel => exact ⟨i + 1, ps, tx ++ [(92 : UInt8)], 0, by go_num, by have := HL.out; omega, by have h := HRR.out; rw [HTK.out] at h; rw [pc_some]; exact h, by have := HBD.out; first | (simp; done) | (simp; omega), by have := HPL.out; omega, HPP.out⟩
       case measure => first | (simp [intOf]; done) | (simp [intOf]; omega)
      ·have hnI : (0 : Int) < (n : Int) := by omega
       have dn0 : wr.cell? ⟨w.heap.size + 2, 0, none⟩ = some (.int .i64 (n : Int)) := by obtain ⟨Al, cl, Ta, ct, hbl, hbt, hbn, hol, hot, hfr⟩ := HPC.out; exact hbn.cell_ (i := 0) rfl
       obtain ⟨ps1, hps1⟩ : ∃ ps1, ps1 = endM ps tx n := ⟨_, rfl⟩; have HPS := zh hps1; have hpl1 : ps1.length ≤ ps.length + 1 := by rw [hps1]; unfold endM; split <;> simp
       have HPL1 := zh hpl1; clear hps1 hpl1; go_wp2_with (first | (go_at_call 23; refine (end_any HPC.out hmn hpn).mono ?_; rintro e w1 ⟨rfl, hpc1⟩; rw [← HPS.out] at hpc1; unfold PcS at hpc1; rw [List.length_nil] at hpc1; obtain ⟨Al, cl, Ta, ct, hbl, hbt, hbn, hol, hot, hfr⟩ := hpc1; have dt : w1.cell? ⟨w.heap.size + 1, 0, none⟩ = some (.slice Ta 0 ct) := hbt.cell_ (i := 0) rfl; have zt := hbt.frozen 0; have dn : w1.cell? ⟨w.heap.size + 2, 0, none⟩ = some (.int .i64 ((0 : Nat) : Int)) := hbn.cell_ (i := 0) rfl; have HBL := zh hbl; have HBT := zh hbt; have HBN := zh hbn; have HOL := zh hol; have HOT := zh hot; have HFR := zh hfr; clear hbl hbt hbn hol hot hfr) | (at_builtin; refine wpList_append_R rfl (.tmp 55) (.tmp 57) 22 rfl w.heap.size 5 bi _ 1 1 Tryz.underlying22 hbi hz0 hz1 hz2 rfl (by omega) (.slice Ta 0 ct) 0 (byteVals []) (by first | rfl | (simp [Act.eval]; done)) (own_keep HOT.out (KeepB.of_nil ((Fr.refl [] w1).alloc _))) ⟨w1.heap.size, 0, none⟩ 1 1 [.int .u8 92] (by first | rfl | (simp [Act.eval]; done)) rfl (one_new_ w1 5 _) (by simp [Value.oneCell']) (by unfold maxLen; omega) (by omega) (by have := HFR.out.size; simp; omega) ?_; intro v' w4 hown4 hgr hat4; obtain ⟨A4, c4, rfl⟩ := own_slice hown4; have hpp := pc_put (c := (92 : UInt8)) (tx := []) rfl ((Fr.refl [] w1).alloc _) HBL.out HBT.out HBN.out HOL.out HOT.out HFR.out hgr hown4; have d4 : w4.cell? ⟨w.heap.size + 1, 0, none⟩ = some (.slice Ta 0 ct) := hpp.1.cell_ (i := 0) rfl; have z4 := hpp.1.frozen 0; have HPP := zh hpp.2; clear hown4 hgr hat4 hpp))
       go_roundw
       case rel => exact ⟨i + 1, ps1, [(92 : UInt8)], 0, by go_num, by have := HL.out; omega, by have h := HRR.out; rw [HTK.out] at h; rw [HPS.out, endM_some _ _ _ _ _ hn0]; exact h, by have := HBD.out; first | (simp; done) | (simp; omega), by have := HPL.out; have := HPL1.out; omega, HPP.out⟩
       case measure => first | (simp [intOf]; done) | (simp [intOf]; omega)
    ·have e92 : ¬ ((c.toNat : Int) = 92) := fun h => h92 (UInt8.toNat_inj.1 (by simpa using (by omega : c.toNat = 92))); have H92 := zh h92; clear h92; have HTK := zh (show tokM (wd.drop i) = some c :: tokM (wd.drop (i + 1)) from by rw [HD.out]; exact tok_one _ _ H38.out (fun h => H92.out h.1)); rcases Nat.eq_zero_or_pos n with hn0 | hn0
     ·subst hn0; obtain ⟨m, hm⟩ : ∃ m, m = tx.length := ⟨_, rfl⟩; have hpc := HPC.out; unfold PcS at hpc; rw [← hm] at hpc hmn; have HM := zh hm; clear hm; obtain ⟨Al, cl, Ta, ct, hbl, hbt, hbn, hol, hot, hfr⟩ := hpc; have dt : wr.cell? ⟨w.heap.size + 1, 0, none⟩ = some (.slice Ta m ct) := hbt.cell_ (i := 0) rfl; have zt := hbt.frozen 0; have dn : wr.cell? ⟨w.heap.size + 2, 0, none⟩ = some (.int .i64 ((0 : Nat) : Int)) := hbn.cell_ (i := 0) rfl; have HBL := zh hbl; have HBT := zh hbt; have HBN := zh hbn; have HOL := zh hol; have HOT := zh hot; have HFR := zh hfr; clear hbl hbt hbn hol hot hfr; go_wp2_with (at_builtin; refine wpList_append_R rfl (.tmp 55) (.tmp 57) 22 rfl w.heap.size 5 bi _ 1 1 Tryz.underlying22 hbi hz0 hz1 hz2 rfl (by omega) (.slice Ta m ct) m (byteVals tx) (by first | rfl | (simp [Act.eval]; done)) (own_keep HOT.out (KeepB.of_nil ((Fr.refl [] wr).alloc _))) ⟨wr.heap.size, 0, none⟩ 1 1 [.int .u8 (c.toNat : Int)] (by first | rfl | (simp [Act.eval]; done)) rfl (one_new_ wr 5 _) (by simp [Value.oneCell']) (by unfold maxLen; omega) (by omega) (by have := HFR.out.size; simp; omega) ?_; intro v' w4 hown4 hgr hat4; obtain ⟨A4, c4, rfl⟩ := own_slice hown4; have hpp := pc_put (c := c) HM.out ((Fr.refl [] wr).alloc _) HBL.out HBT.out HBN.out HOL.out HOT.out HFR.out hgr hown4; have d4 : w4.cell? ⟨w.heap.size + 1, 0, none⟩ = some (.slice Ta m ct) := hpp.1.cell_ (i := 0) rfl; have z4 := hpp.1.frozen 0; have HPP := zh hpp.2; clear hown4 hgr hat4 hpp)
      go_roundw
      case rel => exact ⟨i + 1, ps, tx ++ [c], 0, by go_num, by have := HL.out; omega, by have h := HRR.out; rw [HTK.out] at h; rw [pc_some]; exact h, by have := HBD.out; first | (simp; done) | (simp; omega), by have := HPL.out; omega, HPP.out⟩
      case measure => first | (simp [intOf]; done) | (simp [intOf]; omega)
     ·have hnI : (0 : Int) < (n : Int) := by omega
      have dn0 : wr.cell? ⟨w.heap.size + 2, 0, none⟩ = some (.int .i64 (n : Int)) := by obtain ⟨Al, cl, Ta, ct, hbl, hbt, hbn, hol, hot, hfr⟩ := HPC.out; exact hbn.cell_ (i := 0) rfl
      obtain ⟨ps1, hps1⟩ : ∃ ps1, ps1 = endM ps tx n := ⟨_, rfl⟩; have HPS := zh hps1; have hpl1 : ps1.length ≤ ps.length + 1 := by rw [hps1]; unfold endM; split <;> simp
      have HPL1 := zh hpl1; clear hps1 hpl1; go_wp2_with (first | (go_at_call 23; refine (end_any HPC.out hmn hpn).mono ?_; rintro e w1 ⟨rfl, hpc1⟩; rw [← HPS.out] at hpc1; unfold PcS at hpc1; rw [List.length_nil] at hpc1; obtain ⟨Al, cl, Ta, ct, hbl, hbt, hbn, hol, hot, hfr⟩ := hpc1; have dt : w1.cell? ⟨w.heap.size + 1, 0, none⟩ = some (.slice Ta 0 ct) := hbt.cell_ (i := 0) rfl; have zt := hbt.frozen 0; have dn : w1.cell? ⟨w.heap.size + 2, 0, none⟩ = some (.int .i64 ((0 : Nat) : Int)) := hbn.cell_ (i := 0) rfl; have HBL := zh hbl; have HBT := zh hbt; have HBN := zh hbn; have HOL := zh hol; have HOT := zh hot; have HFR := zh hfr; clear hbl hbt hbn hol hot hfr) | (at_builtin; refine wpList_append_R rfl (.tmp 55) (.tmp 57) 22 rfl w.heap.size 5 bi _ 1 1 Tryz.underlying22 hbi hz0 hz1 hz2 rfl (by omega) (.slice Ta 0 ct) 0 (byteVals []) (by first | rfl | (simp [Act.eval]; done)) (own_keep HOT.out (KeepB.of_nil ((Fr.refl [] w1).alloc _))) ⟨w1.heap.size, 0, none⟩ 1 1 [.int .u8 (c.toNat : Int)] (by first | rfl | (simp [Act.eval]; done)) rfl (one_new_ w1 5 _) (by simp [Value.oneCell']) (by unfold maxLen; omega) (by omega) (by have := HFR.out.size; simp; omega) ?_; intro v' w4 hown4 hgr hat4; obtain ⟨A4, c4, rfl⟩ := own_slice hown4; have hpp := pc_put (c := c) (tx := []) rfl ((Fr.refl [] w1).alloc _) HBL.out HBT.out HBN.out HOL.out HOT.out HFR.out hgr hown4; have d4 : w4.cell? ⟨w.heap.size + 1, 0, none⟩ = some (.slice Ta 0 ct) := hpp.1.cell_ (i := 0) rfl; have z4 := hpp.1.frozen 0; have HPP := zh hpp.2; clear hown4 hgr hat4 hpp))
      go_roundw
      case rel => exact ⟨i + 1, ps1, [c], 0, by go_num, by have := HL.out; omega, by have h := HRR.out; rw [HTK.out] at h; rw [HPS.out, endM_some _ _ _ _ _ hn0]; exact h, by have := HBD.out; first | (simp; done) | (simp; omega), by have := HPL.out; have := HPL1.out; omega, HPP.out⟩
      case measure => first | (simp [intOf]; done) | (simp [intOf]; omega)
  ·have hinI : ¬ ((i : Int) < (L : Int)) := by omega
   have hdr : wd.drop i = [] := List.drop_of_length_le (by have := HL.out; omega); have hre : endM ps tx n = R := by have h := HRR.out; rw [hdr] at h; rw [endM_pc]; exact h
   have HRE := zh hre; clear hdr hre; go_wp2_with (go_at_call 23; refine (end_any HPC.out hmn hpn).mono ?_; rintro e w1 ⟨rfl, hpc1⟩; rw [HRE.out] at hpc1; obtain ⟨Al, cl, Ta, ct, hbl, hbt, hbn, hol, hot, hfr⟩ := hpc1; have dl : w1.cell? ⟨w.heap.size, 0, none⟩ = some (.slice Al R.length cl) := hbl.cell_ (i := 0) rfl; have HOL := zh hol; have HFR := zh hfr; clear hbl hbt hbn hol hot hfr)
   go_ret
   exact ⟨Al, cl, rfl, HOL.out, HFR.out⟩
end Go.Proofs.YteofhjegaaoglaaGreat
