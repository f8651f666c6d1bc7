/-
 The layer's state; empty. No conditions. (Printed by a program of the prover's.)
-/
import Derived.Test.YtfbmogccmlikaaaGreatDoorMl
import Derived.Test.YtfbmogccmlikaaaGreatDoorRw
namespace Go.Proofs.YtfbmogccmlikaaaGreatDoor
open Go.RowKit Go.ChangeMaps
set_option linter.unusedVariables false
set_option linter.unusedSimpArgs false
set_option maxRecDepth 100000 in
set_option maxHeartbeats 4000000 in
theorem empty_any {w : World} {gy mv b o : Nat} {es : List (Ky × Ex)} {t : PT} (hy : w.cell? ⟨gy, 0, none⟩ = some (.map (some mv))) (hm : MInv w mv es) (hcov : CovP es t) (hc : CellsAt w b o t.cells) (hp : PMem w t) (hr : rightP t = true) (hcnt : cntP t ≤ 1199) :
    Calls Tryz.prog 79 #[.pointer (some ⟨gy, 0, none⟩), .pointer (some ⟨b, o, none⟩)] w fun e w' => e = .returned (.bool (sizP t == 0)) ∧ ∃ q, w' = w.drewN q := by
 have c0 : w.cell? ⟨b, o, none⟩ = some (.int .i64 t.k) := hc.cell (j := 0) rfl
 have c7 := hc.cell (j := 7) rfl
 rw [rightP_eq] at hr
 rw [CovP_eq] at hcov
 rw [PMem_eq] at hp
 rw [cntP_eq] at hcnt
 have hle := cntL_len t.l
 have hsz := sizP_eq t
 obtain ⟨r, hrr⟩ : ∃ r, r = (sizP t == 0) := ⟨_, rfl⟩
 obtain ⟨T, hT⟩ : ∃ T, T = t := ⟨_, rfl⟩
 rw [← hrr]
 rw [← hT] at hrr
 have HC := Lib.hid hc; have HT := Lib.hid hT
 clear hc hT
 obtain ⟨k, s0, s1, s2, s3, mn, mx, A, c, l⟩ := t
 simp only [PT.k, PT.mn, PT.mx, PT.A, PT.c, PT.l, Bool.and_eq_true] at *
 obtain ⟨hrk, hri⟩ := hr
 by_cases hk0 : k = 0
 ·subst hk0
  have hr2 : r = true := by rw [hrr, HT.out, hsz]; rfl
  subst hr2
  clear hrr hsz hrk hri hcov
  have HP := Lib.hid hp; have HM := Lib.hid hm; clear hp hm
  go_enter Tryz.func79, Tryz.ntmps79
  go_wp2_with fail
  go_ret
  exact ⟨rfl, 0, rfl⟩
 by_cases hk1 : k = 1
 ·subst hk1
  have hr2 : r = false := by rw [hrr, HT.out, hsz]; rfl
  subst hr2
  clear hrr hsz hrk hri hcov
  have HP := Lib.hid hp; have HM := Lib.hid hm; clear hp hm
  go_enter Tryz.func79, Tryz.ntmps79
  go_wp2_with fail
  go_ret
  exact ⟨rfl, 0, rfl⟩
 by_cases hk5 : k = 5
 ·subst hk5
  have hr2 : r = false := by rw [hrr, HT.out, hsz]; rfl
  subst hr2
  clear hrr hsz hrk hri hcov
  have HP := Lib.hid hp; have HM := Lib.hid hm; clear hp hm
  go_enter Tryz.func79, Tryz.ntmps79
  go_wp2_with fail
  go_ret
  exact ⟨rfl, 0, rfl⟩
 by_cases hk6 : k = 6
 ·subst hk6
  have hr2 : r = false := by rw [hrr, HT.out, hsz]; rfl
  subst hr2
  clear hrr hsz hrk hri hcov
  have HP := Lib.hid hp; have HM := Lib.hid hm; clear hp hm
  go_enter Tryz.func79, Tryz.ntmps79
  go_wp2_with fail
  go_ret
  exact ⟨rfl, 0, rfl⟩
 have hin : k = 2 ∨ k = 3 ∨ k = 4 := by
  by_cases h2 : k = 2
  ·exact .inl h2
  by_cases h3 : k = 3
  ·exact .inr (.inl h3)
  by_cases h4 : k = 4
  ·exact .inr (.inr h4)
  exfalso
  unfold rightK at hrk
  rw [if_pos (by omega)] at hrk
  cases hrk
 have hinn : inner k = true := inner_iff.2 hin
 obtain ⟨hin1, hcl⟩ := hcov hinn
 have hrl : rightL l = true := by simpa [hinn] using hri
 clear hri hcov
 obtain ⟨n, hn⟩ : ∃ n, n = l.length := ⟨_, rfl⟩
 have hn2 : n ≤ 1199 := by omega
 rw [← hn] at c7
 by_cases hl0 : l = []
 ·have hn0 : n = 0 := by rw [hn, hl0]; rfl
  have hr2 : r = true := by
   rw [hrr, HT.out, hsz]
   rcases hin with rfl | rfl | rfl
   ·rw [hl0]; rfl
   ·rw [hl0] at hrk; simp [rightK] at hrk
   ·rw [hl0] at hrk; simp [rightK] at hrk
  subst hr2 hn0
  have HP := Lib.hid hp; have HM := Lib.hid hm; have HH := Lib.hid hin1; have HN := Lib.hid hn
  clear hrr hsz hrk hp hm hin1 hcl hrl hn
  rcases hin with rfl | rfl | rfl
  all_goals
   go_enter Tryz.func79, Tryz.ntmps79
   go_wp2_with fail
   go_ret
   exact ⟨rfl, 0, rfl⟩
 obtain ⟨kb, ko, rfl, hg⟩ := hin1.resolve_left hl0
 have hnp : 0 < n := by
  rw [hn]
  cases l with
  | nil => exact absurd rfl hl0
  | cons _ _ => simp
 have hn0 : ((n : Int) == 0) = false := beq_eq_false_iff_ne.2 (by omega)
 have hn0' : (n == 0) = false := beq_eq_false_iff_ne.2 (by omega)
 obtain ⟨t0, ht0⟩ : ∃ t, l[0]? = some t := ⟨_, List.getElem?_eq_getElem (by omega)⟩
 obtain ⟨⟨kb', ko', hA, hc0⟩, -⟩ := hp.get ht0
 simp at hA
 obtain ⟨rfl, rfl⟩ := hA
 obtain ⟨ck, hck⟩ := hc0.bk
 obtain ⟨x1, hx1⟩ : ∃ x1, x1 = min 4001 (sizL l) := ⟨_, rfl⟩
 obtain ⟨x2, hx2⟩ : ∃ x2, x2 = depL l := ⟨_, rfl⟩
 have hx14 : x1 ≤ 4001 := by omega
 have hex : exL l = (x1, x2) := by rw [hx1, hx2]; rfl
 have hlook : ∀ W : World, Fr [] w W → (Instr.lookup 141 (.map (some mv)) (.agg #[.pointer (some ⟨kb, ko, none⟩), .int .i64 (n : Int)]) false).run Tryz.prog W =
     .ok (.agg #[.int .i64 (x1 : Int), .int .i64 (x2 : Int)]) W := fun W hW => by
  have h := (hm.nil_ hW).1.look (kb, ko, n) (hck.fr hW (by simp)) false
  rw [hn, hg, hex] at h
  rw [hn]
  exact h
 have hsize : ∀ W : World, Fr [] w W → Calls Tryz.prog 87 #[.pointer (some ⟨b, o, none⟩), .int .i64 (x1 : Int)] W fun e w' => e = .returned (.int .i64 (sizN T x1)) ∧ ∃ q, w' = W.drewN q := fun W hW =>
  size_any (by rw [HT.out]; exact HC.out.keep (KeepT.of_nil hW)) (by rw [HT.out]; exact hinn) (by rw [HT.out]; exact hrk) (by rw [HT.out]; show l.length ≤ 1200; omega) hx14
 obtain ⟨sn, hsn⟩ : ∃ sn, sn = sizN T x1 := ⟨_, rfl⟩
 rw [← hsn] at hsize
 have hr3 : r = ((sn : Int) == 0) := by
  have h1 := sizN_sizP (t := T) (by rw [HT.out]; exact hinn) (by rw [HT.out]; exact hrk)
  have h2 : T.l = l := by rw [HT.out]; rfl
  rw [h2, ← hx1, ← hsn] at h1
  rw [hrr, h1, Bool.eq_iff_iff]
  first | (simp; done) | (simp; omega)
 have HR3 := Lib.hid hr3; have HLK := Lib.hid hlook; have HSIZE := Lib.hid hsize; have HP := Lib.hid hp; have HM := Lib.hid hm; have HNN := Lib.hid hn
 clear hrr hsz hrk hp hm hcl hrl hg hc0 ht0 hck hx1 hx2 hex hlook hsn hsize hr3 hl0 hn
 rcases hin with rfl | rfl | rfl
 ·go_enter Tryz.func79, Tryz.ntmps79
  go_upto_region 9 with fail
  refine wp_region_M_ (G := fun a b => ∃ q, b = World.drewN a q) (S := fun W => ∃ q, W = World.drewN w q) ⟨fun _ => ⟨0, rfl⟩, fun a b c ⟨q, h⟩ ⟨p, k⟩ => ⟨q + p, by rw [k, h, World.drewN_drewN]⟩, fun a b ⟨q, h⟩ ⟨p, k⟩ => ⟨q + p, by rw [k, h, World.drewN_drewN]⟩, by kernel_rfl, fun _ _ d _ _ h => by cases d <;> exact h⟩ (by kernel_rfl) fun su => ?_
  have SU := Lib.hid su
  have HS : Hid (∃ q, World.drew w = World.drewN w q) := Lib.hid ⟨1, rfl⟩
  clear su
  refine M_move (i := 0) _ SU.out rfl rfl (by kernel_rfl) HS.out rfl ?_
  simp only [Act.put, Act.eval, PE]
  refine M_move (i := 1) _ SU.out rfl rfl (by kernel_rfl) HS.out rfl ?_
  simp only [Act.put, Act.eval, PE]
  refine M_val (i := 2) (v := ?_) SU.out rfl (by kernel_rfl) HS.out rfl (fun W hS => ?_) ?_
  rotate_left
  ·obtain ⟨q, rfl⟩ := hS
   go_simp
   first | done | rfl | omega | (simp; done) | (simp; omega)
  simp only [Act.put, PU]
  refine M_val (i := 3) (v := ?_) SU.out rfl (by kernel_rfl) HS.out rfl (fun W hS => ?_) ?_
  rotate_left
  ·obtain ⟨q, rfl⟩ := hS
   go_simp
   first | done | rfl | omega | (simp; done) | (simp; omega)
  simp only [Act.put, PU]
  refine M_val (i := 4) (v := .map (some mv)) SU.out rfl (by kernel_rfl) HS.out rfl (fun W hS => ?_) ?_
  ·obtain ⟨q, rfl⟩ := hS
   go_simp
   first | done | rfl | omega | (simp; done) | (simp; omega)
  simp only [Act.put, PU]
  refine M_move (i := 5) _ SU.out rfl rfl (by kernel_rfl) HS.out rfl ?_
  simp only [Act.put, Act.eval, PE]
  refine M_val (i := 6) (v := ?_) SU.out rfl (by kernel_rfl) HS.out rfl (fun W hS => ?_) ?_
  rotate_left
  ·obtain ⟨q, rfl⟩ := hS
   go_simp
   first | done | rfl | omega | (simp; done) | (simp; omega)
  simp only [Act.put, PU]
  refine M_val (i := 7) (v := ?_) SU.out rfl (by kernel_rfl) HS.out rfl (fun W hS => ?_) ?_
  rotate_left
  ·obtain ⟨q, rfl⟩ := hS
   go_simp
   first | done | rfl | omega | (simp; done) | (simp; omega)
  simp only [Act.put, PU]
  refine M_val (i := 8) (v := .slice (some ⟨kb, ko, none⟩) n c) SU.out rfl (by kernel_rfl) HS.out rfl (fun W hS => ?_) ?_
  ·obtain ⟨q, rfl⟩ := hS
   go_simp
   first | done | rfl | omega | (simp; done) | (simp; omega)
  simp only [Act.put, PU]
  refine M_val (i := 9) (v := .pointer (some ⟨kb, ko, none⟩)) SU.out rfl (by kernel_rfl) HS.out rfl (fun W hS => ?_) ?_
  ·obtain ⟨q, rfl⟩ := hS
   go_simp
   first | done | rfl | omega | (simp; done) | (simp; omega)
  simp only [Act.put, PU]
  refine M_move (i := 10) _ SU.out rfl rfl (by kernel_rfl) HS.out rfl ?_
  simp only [Act.put, Act.eval, PE]
  refine M_val (i := 11) (v := ?_) SU.out rfl (by kernel_rfl) HS.out rfl (fun W hS => ?_) ?_
  rotate_left
  ·obtain ⟨q, rfl⟩ := hS
   go_simp
   first | done | rfl | omega | (simp; done) | (simp; omega)
  simp only [Act.put, PU]
  refine M_val (i := 12) (v := ?_) SU.out rfl (by kernel_rfl) HS.out rfl (fun W hS => ?_) ?_
  rotate_left
  ·obtain ⟨q, rfl⟩ := hS
   go_simp
   first | done | rfl | omega | (simp; done) | (simp; omega)
  simp only [Act.put, PU]
  refine M_val (i := 13) (v := .slice (some ⟨kb, ko, none⟩) n c) SU.out rfl (by kernel_rfl) HS.out rfl (fun W hS => ?_) ?_
  ·obtain ⟨q, rfl⟩ := hS
   go_simp
   first | done | rfl | omega | (simp; done) | (simp; omega)
  simp only [Act.put, PU]
  refine M_val (i := 14) (v := .int .i64 (n : Int)) SU.out rfl (by kernel_rfl) HS.out rfl (fun W hS => ?_) ?_
  ·obtain ⟨q, rfl⟩ := hS
   go_simp
   first | done | rfl | omega | (simp; done) | (simp; omega)
  simp only [Act.put, PU]
  refine M_val (i := 15) (v := .agg #[.pointer (some ⟨kb, ko, none⟩), .int .i64 (n : Int)]) SU.out rfl (by kernel_rfl) HS.out rfl (fun W hS => ?_) ?_
  ·obtain ⟨q, rfl⟩ := hS
   go_simp
   first | done | rfl | omega | (simp; done) | (simp; omega)
  simp only [Act.put, PU]
  refine M_val (i := 16) (v := .agg #[.int .i64 (x1 : Int), .int .i64 (x2 : Int)]) SU.out rfl (by kernel_rfl) HS.out rfl (fun W hS => ?_) ?_
  ·obtain ⟨q, rfl⟩ := hS
   have hl := HLK.out _ ((Fr.refl [] w).drewN q)
   simp [execOp, Act.eval, hl]
  simp only [Act.put, PU]
  refine M_val (i := 17) (v := .int .i64 (x1 : Int)) SU.out rfl (by kernel_rfl) HS.out rfl (fun W hS => ?_) ?_
  ·obtain ⟨q, rfl⟩ := hS
   go_simp
   first | done | rfl | omega | (simp; done) | (simp; omega)
  simp only [Act.put, PU]
  refine M_call (i := 18) (v := .int .i64 (sn : Int)) SU.out rfl (by kernel_rfl) HS.out rfl (fun W hS => HSIZE.out W (by obtain ⟨q, rfl⟩ := hS; exact (Fr.refl [] w).drewN q)) (fun W => ?_) ?_
  ·go_simp
   first | done | rfl
  simp only [Act.put, PU]
  refine M_val (i := 19) (v := .bool ((sn : Int) == 0)) SU.out rfl (by kernel_rfl) HS.out rfl (fun W hS => ?_) ?_
  ·obtain ⟨q, rfl⟩ := hS
   go_simp
   first | done | rfl | omega | (simp; done) | (simp; omega)
  simp only [Act.put, PU]
  refine M_val (i := 20) (v := .bool ((sn : Int) == 0)) SU.out rfl (by kernel_rfl) HS.out rfl (fun W hS => ?_) ?_
  ·obtain ⟨q, rfl⟩ := hS
   go_simp
   first | done | rfl | omega | (simp; done) | (simp; omega)
  simp only [Act.put, PU]
  refine wpAnyM_done (by kernel_rfl) (fun w' hG => ?_)
  obtain ⟨q, rfl⟩ := hG
  go_wp2_with fail
  go_ret
  exact ⟨by rw [HR3.out]; rfl, 1 + q, World.drewN_drew ..⟩
 ·go_enter Tryz.func79, Tryz.ntmps79
  go_upto_region 9 with fail
  refine wp_region_M_ (G := fun a b => ∃ q, b = World.drewN a q) (S := fun W => ∃ q, W = World.drewN w q) ⟨fun _ => ⟨0, rfl⟩, fun a b c ⟨q, h⟩ ⟨p, k⟩ => ⟨q + p, by rw [k, h, World.drewN_drewN]⟩, fun a b ⟨q, h⟩ ⟨p, k⟩ => ⟨q + p, by rw [k, h, World.drewN_drewN]⟩, by kernel_rfl, fun _ _ d _ _ h => by cases d <;> exact h⟩ (by kernel_rfl) fun su => ?_
  have SU := Lib.hid su
  have HS : Hid (∃ q, World.drew w = World.drewN w q) := Lib.hid ⟨1, rfl⟩
  clear su
  refine M_move (i := 0) _ SU.out rfl rfl (by kernel_rfl) HS.out rfl ?_
  simp only [Act.put, Act.eval, PE]
  refine M_move (i := 1) _ SU.out rfl rfl (by kernel_rfl) HS.out rfl ?_
  simp only [Act.put, Act.eval, PE]
  refine M_val (i := 2) (v := ?_) SU.out rfl (by kernel_rfl) HS.out rfl (fun W hS => ?_) ?_
  rotate_left
  ·obtain ⟨q, rfl⟩ := hS
   go_simp
   first | done | rfl | omega | (simp; done) | (simp; omega)
  simp only [Act.put, PU]
  refine M_val (i := 3) (v := ?_) SU.out rfl (by kernel_rfl) HS.out rfl (fun W hS => ?_) ?_
  rotate_left
  ·obtain ⟨q, rfl⟩ := hS
   go_simp
   first | done | rfl | omega | (simp; done) | (simp; omega)
  simp only [Act.put, PU]
  refine M_val (i := 4) (v := .map (some mv)) SU.out rfl (by kernel_rfl) HS.out rfl (fun W hS => ?_) ?_
  ·obtain ⟨q, rfl⟩ := hS
   go_simp
   first | done | rfl | omega | (simp; done) | (simp; omega)
  simp only [Act.put, PU]
  refine M_move (i := 5) _ SU.out rfl rfl (by kernel_rfl) HS.out rfl ?_
  simp only [Act.put, Act.eval, PE]
  refine M_val (i := 6) (v := ?_) SU.out rfl (by kernel_rfl) HS.out rfl (fun W hS => ?_) ?_
  rotate_left
  ·obtain ⟨q, rfl⟩ := hS
   go_simp
   first | done | rfl | omega | (simp; done) | (simp; omega)
  simp only [Act.put, PU]
  refine M_val (i := 7) (v := ?_) SU.out rfl (by kernel_rfl) HS.out rfl (fun W hS => ?_) ?_
  rotate_left
  ·obtain ⟨q, rfl⟩ := hS
   go_simp
   first | done | rfl | omega | (simp; done) | (simp; omega)
  simp only [Act.put, PU]
  refine M_val (i := 8) (v := .slice (some ⟨kb, ko, none⟩) n c) SU.out rfl (by kernel_rfl) HS.out rfl (fun W hS => ?_) ?_
  ·obtain ⟨q, rfl⟩ := hS
   go_simp
   first | done | rfl | omega | (simp; done) | (simp; omega)
  simp only [Act.put, PU]
  refine M_val (i := 9) (v := .pointer (some ⟨kb, ko, none⟩)) SU.out rfl (by kernel_rfl) HS.out rfl (fun W hS => ?_) ?_
  ·obtain ⟨q, rfl⟩ := hS
   go_simp
   first | done | rfl | omega | (simp; done) | (simp; omega)
  simp only [Act.put, PU]
  refine M_move (i := 10) _ SU.out rfl rfl (by kernel_rfl) HS.out rfl ?_
  simp only [Act.put, Act.eval, PE]
  refine M_val (i := 11) (v := ?_) SU.out rfl (by kernel_rfl) HS.out rfl (fun W hS => ?_) ?_
  rotate_left
  ·obtain ⟨q, rfl⟩ := hS
   go_simp
   first | done | rfl | omega | (simp; done) | (simp; omega)
  simp only [Act.put, PU]
  refine M_val (i := 12) (v := ?_) SU.out rfl (by kernel_rfl) HS.out rfl (fun W hS => ?_) ?_
  rotate_left
  ·obtain ⟨q, rfl⟩ := hS
   go_simp
   first | done | rfl | omega | (simp; done) | (simp; omega)
  simp only [Act.put, PU]
  refine M_val (i := 13) (v := .slice (some ⟨kb, ko, none⟩) n c) SU.out rfl (by kernel_rfl) HS.out rfl (fun W hS => ?_) ?_
  ·obtain ⟨q, rfl⟩ := hS
   go_simp
   first | done | rfl | omega | (simp; done) | (simp; omega)
  simp only [Act.put, PU]
  refine M_val (i := 14) (v := .int .i64 (n : Int)) SU.out rfl (by kernel_rfl) HS.out rfl (fun W hS => ?_) ?_
  ·obtain ⟨q, rfl⟩ := hS
   go_simp
   first | done | rfl | omega | (simp; done) | (simp; omega)
  simp only [Act.put, PU]
  refine M_val (i := 15) (v := .agg #[.pointer (some ⟨kb, ko, none⟩), .int .i64 (n : Int)]) SU.out rfl (by kernel_rfl) HS.out rfl (fun W hS => ?_) ?_
  ·obtain ⟨q, rfl⟩ := hS
   go_simp
   first | done | rfl | omega | (simp; done) | (simp; omega)
  simp only [Act.put, PU]
  refine M_val (i := 16) (v := .agg #[.int .i64 (x1 : Int), .int .i64 (x2 : Int)]) SU.out rfl (by kernel_rfl) HS.out rfl (fun W hS => ?_) ?_
  ·obtain ⟨q, rfl⟩ := hS
   have hl := HLK.out _ ((Fr.refl [] w).drewN q)
   simp [execOp, Act.eval, hl]
  simp only [Act.put, PU]
  refine M_val (i := 17) (v := .int .i64 (x1 : Int)) SU.out rfl (by kernel_rfl) HS.out rfl (fun W hS => ?_) ?_
  ·obtain ⟨q, rfl⟩ := hS
   go_simp
   first | done | rfl | omega | (simp; done) | (simp; omega)
  simp only [Act.put, PU]
  refine M_call (i := 18) (v := .int .i64 (sn : Int)) SU.out rfl (by kernel_rfl) HS.out rfl (fun W hS => HSIZE.out W (by obtain ⟨q, rfl⟩ := hS; exact (Fr.refl [] w).drewN q)) (fun W => ?_) ?_
  ·go_simp
   first | done | rfl
  simp only [Act.put, PU]
  refine M_val (i := 19) (v := .bool ((sn : Int) == 0)) SU.out rfl (by kernel_rfl) HS.out rfl (fun W hS => ?_) ?_
  ·obtain ⟨q, rfl⟩ := hS
   go_simp
   first | done | rfl | omega | (simp; done) | (simp; omega)
  simp only [Act.put, PU]
  refine M_val (i := 20) (v := .bool ((sn : Int) == 0)) SU.out rfl (by kernel_rfl) HS.out rfl (fun W hS => ?_) ?_
  ·obtain ⟨q, rfl⟩ := hS
   go_simp
   first | done | rfl | omega | (simp; done) | (simp; omega)
  simp only [Act.put, PU]
  refine wpAnyM_done (by kernel_rfl) (fun w' hG => ?_)
  obtain ⟨q, rfl⟩ := hG
  go_wp2_with fail
  go_ret
  exact ⟨by rw [HR3.out]; rfl, 1 + q, World.drewN_drew ..⟩
 ·go_enter Tryz.func79, Tryz.ntmps79
  go_upto_region 9 with fail
  refine wp_region_M_ (G := fun a b => ∃ q, b = World.drewN a q) (S := fun W => ∃ q, W = World.drewN w q) ⟨fun _ => ⟨0, rfl⟩, fun a b c ⟨q, h⟩ ⟨p, k⟩ => ⟨q + p, by rw [k, h, World.drewN_drewN]⟩, fun a b ⟨q, h⟩ ⟨p, k⟩ => ⟨q + p, by rw [k, h, World.drewN_drewN]⟩, by kernel_rfl, fun _ _ d _ _ h => by cases d <;> exact h⟩ (by kernel_rfl) fun su => ?_
  have SU := Lib.hid su
  have HS : Hid (∃ q, World.drew w = World.drewN w q) := Lib.hid ⟨1, rfl⟩
  clear su
  refine M_move (i := 0) _ SU.out rfl rfl (by kernel_rfl) HS.out rfl ?_
  simp only [Act.put, Act.eval, PE]
  refine M_move (i := 1) _ SU.out rfl rfl (by kernel_rfl) HS.out rfl ?_
  simp only [Act.put, Act.eval, PE]
  refine M_val (i := 2) (v := ?_) SU.out rfl (by kernel_rfl) HS.out rfl (fun W hS => ?_) ?_
  rotate_left
  ·obtain ⟨q, rfl⟩ := hS
   go_simp
   first | done | rfl | omega | (simp; done) | (simp; omega)
  simp only [Act.put, PU]
  refine M_val (i := 3) (v := ?_) SU.out rfl (by kernel_rfl) HS.out rfl (fun W hS => ?_) ?_
  rotate_left
  ·obtain ⟨q, rfl⟩ := hS
   go_simp
   first | done | rfl | omega | (simp; done) | (simp; omega)
  simp only [Act.put, PU]
  refine M_val (i := 4) (v := .map (some mv)) SU.out rfl (by kernel_rfl) HS.out rfl (fun W hS => ?_) ?_
  ·obtain ⟨q, rfl⟩ := hS
   go_simp
   first | done | rfl | omega | (simp; done) | (simp; omega)
  simp only [Act.put, PU]
  refine M_move (i := 5) _ SU.out rfl rfl (by kernel_rfl) HS.out rfl ?_
  simp only [Act.put, Act.eval, PE]
  refine M_val (i := 6) (v := ?_) SU.out rfl (by kernel_rfl) HS.out rfl (fun W hS => ?_) ?_
  rotate_left
  ·obtain ⟨q, rfl⟩ := hS
   go_simp
   first | done | rfl | omega | (simp; done) | (simp; omega)
  simp only [Act.put, PU]
  refine M_val (i := 7) (v := ?_) SU.out rfl (by kernel_rfl) HS.out rfl (fun W hS => ?_) ?_
  rotate_left
  ·obtain ⟨q, rfl⟩ := hS
   go_simp
   first | done | rfl | omega | (simp; done) | (simp; omega)
  simp only [Act.put, PU]
  refine M_val (i := 8) (v := .slice (some ⟨kb, ko, none⟩) n c) SU.out rfl (by kernel_rfl) HS.out rfl (fun W hS => ?_) ?_
  ·obtain ⟨q, rfl⟩ := hS
   go_simp
   first | done | rfl | omega | (simp; done) | (simp; omega)
  simp only [Act.put, PU]
  refine M_val (i := 9) (v := .pointer (some ⟨kb, ko, none⟩)) SU.out rfl (by kernel_rfl) HS.out rfl (fun W hS => ?_) ?_
  ·obtain ⟨q, rfl⟩ := hS
   go_simp
   first | done | rfl | omega | (simp; done) | (simp; omega)
  simp only [Act.put, PU]
  refine M_move (i := 10) _ SU.out rfl rfl (by kernel_rfl) HS.out rfl ?_
  simp only [Act.put, Act.eval, PE]
  refine M_val (i := 11) (v := ?_) SU.out rfl (by kernel_rfl) HS.out rfl (fun W hS => ?_) ?_
  rotate_left
  ·obtain ⟨q, rfl⟩ := hS
   go_simp
   first | done | rfl | omega | (simp; done) | (simp; omega)
  simp only [Act.put, PU]
  refine M_val (i := 12) (v := ?_) SU.out rfl (by kernel_rfl) HS.out rfl (fun W hS => ?_) ?_
  rotate_left
  ·obtain ⟨q, rfl⟩ := hS
   go_simp
   first | done | rfl | omega | (simp; done) | (simp; omega)
  simp only [Act.put, PU]
  refine M_val (i := 13) (v := .slice (some ⟨kb, ko, none⟩) n c) SU.out rfl (by kernel_rfl) HS.out rfl (fun W hS => ?_) ?_
  ·obtain ⟨q, rfl⟩ := hS
   go_simp
   first | done | rfl | omega | (simp; done) | (simp; omega)
  simp only [Act.put, PU]
  refine M_val (i := 14) (v := .int .i64 (n : Int)) SU.out rfl (by kernel_rfl) HS.out rfl (fun W hS => ?_) ?_
  ·obtain ⟨q, rfl⟩ := hS
   go_simp
   first | done | rfl | omega | (simp; done) | (simp; omega)
  simp only [Act.put, PU]
  refine M_val (i := 15) (v := .agg #[.pointer (some ⟨kb, ko, none⟩), .int .i64 (n : Int)]) SU.out rfl (by kernel_rfl) HS.out rfl (fun W hS => ?_) ?_
  ·obtain ⟨q, rfl⟩ := hS
   go_simp
   first | done | rfl | omega | (simp; done) | (simp; omega)
  simp only [Act.put, PU]
  refine M_val (i := 16) (v := .agg #[.int .i64 (x1 : Int), .int .i64 (x2 : Int)]) SU.out rfl (by kernel_rfl) HS.out rfl (fun W hS => ?_) ?_
  ·obtain ⟨q, rfl⟩ := hS
   have hl := HLK.out _ ((Fr.refl [] w).drewN q)
   simp [execOp, Act.eval, hl]
  simp only [Act.put, PU]
  refine M_val (i := 17) (v := .int .i64 (x1 : Int)) SU.out rfl (by kernel_rfl) HS.out rfl (fun W hS => ?_) ?_
  ·obtain ⟨q, rfl⟩ := hS
   go_simp
   first | done | rfl | omega | (simp; done) | (simp; omega)
  simp only [Act.put, PU]
  refine M_call (i := 18) (v := .int .i64 (sn : Int)) SU.out rfl (by kernel_rfl) HS.out rfl (fun W hS => HSIZE.out W (by obtain ⟨q, rfl⟩ := hS; exact (Fr.refl [] w).drewN q)) (fun W => ?_) ?_
  ·go_simp
   first | done | rfl
  simp only [Act.put, PU]
  refine M_val (i := 19) (v := .bool ((sn : Int) == 0)) SU.out rfl (by kernel_rfl) HS.out rfl (fun W hS => ?_) ?_
  ·obtain ⟨q, rfl⟩ := hS
   go_simp
   first | done | rfl | omega | (simp; done) | (simp; omega)
  simp only [Act.put, PU]
  refine M_val (i := 20) (v := .bool ((sn : Int) == 0)) SU.out rfl (by kernel_rfl) HS.out rfl (fun W hS => ?_) ?_
  ·obtain ⟨q, rfl⟩ := hS
   go_simp
   first | done | rfl | omega | (simp; done) | (simp; omega)
  simp only [Act.put, PU]
  refine wpAnyM_done (by kernel_rfl) (fun w' hG => ?_)
  obtain ⟨q, rfl⟩ := hG
  go_wp2_with fail
  go_ret
  exact ⟨by rw [HR3.out]; rfl, 1 + q, World.drewN_drew ..⟩
end Go.Proofs.YtfbmogccmlikaaaGreatDoor
