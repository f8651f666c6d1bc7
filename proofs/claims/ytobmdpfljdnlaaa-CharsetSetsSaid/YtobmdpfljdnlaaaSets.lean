/-
  CharsetSets: the walk. No conditions. (Printed by mksets.py.)
-/
import Derived.Test.YtobmdpfljdnlaaaLaws
namespace Go.Proofs.Ytobmdpfljdnlaaa
open Go.RowKit Go.ChangeShapes Go.WideShapes Go.ChangeAt Go.Deep
set_option linter.unusedVariables false
set_option linter.unusedSimpArgs false

theorem KeepL.word {w W : World} {L : List (Nat × S4)} (h : KeepL w W L) {g : Nat} {R : S4} (hm : (g, R) ∈ L) {q : Nat} (hq : q < 4) : W.cell? ⟨g, q, none⟩ = some (.int .u64 (R.word q : Int)) := by
  obtain ⟨h0, h1, h2, h3⟩ := h.c hm
  rcases (by omega : q = 0 ∨ q = 1 ∨ q = 2 ∨ q = 3) with rfl | rfl | rfl | rfl
  · exact h0
  · exact h1
  · exact h2
  · exact h3
set_option maxRecDepth 100000 in
set_option maxHeartbeats 4000000 in
theorem sets_walk {w : World} (hg : GlobOk w) (s t : S4) (hs : s.ok) (ht : t.ok) (f h c : UInt8) : Calls Try.prog 4 #[s.val, t.val, .int .u8 (f.toNat : Int), .int .u8 (h.toNat : Int), .int .u8 (c.toNat : Int)] w fun e w' => e = .returned (.bool true) ∧ Fr [] w w' := by
  obtain ⟨nf, hnf⟩ : ∃ n, n = f.toNat := ⟨_, rfl⟩
  obtain ⟨nh, hnh⟩ : ∃ n, n = h.toNat := ⟨_, rfl⟩
  obtain ⟨nc, hnc⟩ : ∃ n, n = c.toNat := ⟨_, rfl⟩
  have hc : nc < 256 := by rw [hnc]; exact c.toNat_lt
  have hf : nf < 256 := by rw [hnf]; exact f.toNat_lt
  have hh : nh < 256 := by rw [hnh]; exact h.toNat_lt
  rw [← hnf, ← hnh, ← hnc]
  clear hnf hnh hnc
  unfold S4.val
  go_enter Try.func4, Try.ntmps4
  go_wp2_with fail
  go_at_call 8
  refine (awake_any (hg.fr (((Fr.refl [] w).alloc _).alloc _))).mono ?_
  rintro e w1 ⟨rfl, hf1⟩
  have hK : KeepL w w1 [(w.heap.size, s), (w.heap.size + 1, t)] := ⟨(by
    intro p hp
    rcases List.mem_cons.1 hp with rfl | hp
    · exact ((Bk.new w _ _).alloc _).fr hf1 (by simp)
    · rcases List.mem_cons.1 hp with rfl | hp
      · have := (Bk.new (w.alloc (.cells s.cells 25)) 25 t.cells).fr hf1 (by simp)
        simpa using this
      · cases hp), (((Fr.refl [] w).alloc _).alloc _).trans hf1⟩
  have HK := Lib.hid hK; clear hK hf1
  go_upto_region 3 with fail
  go_cut [11, 12, 13] from 16 (fun v11 v12 v13 wx => ∃ gr go gn R O N, v11 = .pointer (some ⟨gr, 0, none⟩) ∧ v12 = .pointer (some ⟨go, 0, none⟩) ∧ v13 = .pointer (some ⟨gn, 0, none⟩) ∧ R = S4.range nf nh ∧ O = s.or t ∧ N = s.not ∧ KeepL w wx [(w.heap.size, s), (w.heap.size + 1, t), (gr, R), (go, O), (gn, N)])
  case first =>
    refine wp_region_nice (fun a b => Fr [] a b) (fun W => KeepL w W [(w.heap.size, s), (w.heap.size + 1, t)]) 8 (by kernel_rfl) (fun w => Fr.refl [] w) (fun a b c h k => h.trans k) (fun a b h k => h.fr k) (by kernel_rfl) (by kernel_rfl) (by decide) (fun _ _ d _ _ h => by cases d <;> exact h) HK.out.drew ?_
    simp only [List.take_succ_cons, List.take_zero]
    refine nice_move _ rfl rfl ?_
    simp only [Act.put, Act.eval, List.setIfInBounds_toArray, List.set_cons_zero, List.set_cons_succ, List.getElem?_toArray, List.getElem?_cons_zero, List.getElem?_cons_succ, Option.getD_some]
    refine nice_move _ rfl rfl ?_
    simp only [Act.put, Act.eval, List.setIfInBounds_toArray, List.set_cons_zero, List.set_cons_succ, List.getElem?_toArray, List.getElem?_cons_zero, List.getElem?_cons_succ, Option.getD_some]
    refine nice_call rfl (fun W hS => range_any nf nh W hf hh) (fun W => ?_) ?_
    · go_simp
      first | done | rfl
    simp only [Act.put, List.setIfInBounds_toArray, List.set_cons_zero, List.set_cons_succ]
    refine nice_val (v := S4.val s) rfl (fun W hS => ?_) ?_
    · obtain ⟨c0, c1, c2, c3⟩ := hS.c (g := w.heap.size) (R := s) (by simp)
      go_simp
      rfl
    simp only [Act.put, List.setIfInBounds_toArray, List.set_cons_zero, List.set_cons_succ]
    refine nice_val (v := S4.val t) rfl (fun W hS => ?_) ?_
    · obtain ⟨c0, c1, c2, c3⟩ := hS.c (g := (w.heap.size + 1)) (R := t) (by simp)
      go_simp
      rfl
    simp only [Act.put, List.setIfInBounds_toArray, List.set_cons_zero, List.set_cons_succ]
    refine nice_call rfl (fun W hS => or_any s t W hs ht) (fun W => ?_) ?_
    · go_simp
      first | done | rfl
    simp only [Act.put, List.setIfInBounds_toArray, List.set_cons_zero, List.set_cons_succ]
    refine nice_val (v := S4.val s) rfl (fun W hS => ?_) ?_
    · obtain ⟨c0, c1, c2, c3⟩ := hS.c (g := w.heap.size) (R := s) (by simp)
      go_simp
      rfl
    simp only [Act.put, List.setIfInBounds_toArray, List.set_cons_zero, List.set_cons_succ]
    refine nice_call rfl (fun W hS => not_any s W hs) (fun W => ?_) ?_
    · go_simp
      first | done | rfl
    simp only [Act.put, List.setIfInBounds_toArray, List.set_cons_zero, List.set_cons_succ]
    refine nice_nil ?_
    have hL := HK.out.drew
    clear HK
    refine wpAnyM_all (rs := [8, 9, 10]) (by kernel_rfl) (by simp) (fun w1 hG1 => ?_)
    replace hL := hL.fr hG1
    clear hG1
    refine allM.head rfl rfl (fun K1 hK1 => ?_) (allM.head rfl rfl (fun K1 hK1 => ?_) (allM.head rfl rfl (fun K1 hK1 => ?_) allM.nil))
    · go_simp
      refine hK1.out _ _ (hL.fr ((Fr.refl [] w1).alloc _)) ?_
      clear hK1 K1
      obtain ⟨gr, hgr⟩ : ∃ g, g = w1.heap.size := ⟨_, rfl⟩
      have hfr : ∀ p ∈ [(w.heap.size, s), (w.heap.size + 1, t)], p.1 = gr → False := fun p hp e => Nat.ne_of_lt (hL.lt p hp) (e.trans hgr)
      have hwr : w.heap.size ≤ gr := by rw [hgr]; exact hL.2.size
      replace hL := hL.fr ((Fr.refl [] w1).alloc (.cells S4.empty.cells 25))
      have hBr : Bk (w1.alloc (.cells S4.empty.cells 25)) gr 25 S4.empty.cells := by rw [hgr]; exact Bk.new w1 _ _
      rw [← hgr]
      clear hgr
      refine wpAnyM_all (rs := [9, 10]) (by kernel_rfl) (by simp) (fun w2 hG2 => ?_)
      replace hL := hL.fr hG2
      replace hBr := hBr.fr hG2 (by simp)
      clear hG2
      refine allM.head rfl rfl (fun K2 hK2 => ?_) (allM.head rfl rfl (fun K2 hK2 => ?_) allM.nil)
      · go_simp
        refine hK2.out _ _ (hL.fr ((Fr.refl [] w2).alloc _)) ?_
        clear hK2 K2
        obtain ⟨go, hgo⟩ : ∃ g, g = w2.heap.size := ⟨_, rfl⟩
        have hfo : ∀ p ∈ [(w.heap.size, s), (w.heap.size + 1, t)], p.1 = go → False := fun p hp e => Nat.ne_of_lt (hL.lt p hp) (e.trans hgo)
        have hwo : w.heap.size ≤ go := by rw [hgo]; exact hL.2.size
        have hnro : gr ≠ go := by rw [hgo]; exact Nat.ne_of_lt hBr.lt
        have hnor := hnro.symm
        replace hL := hL.fr ((Fr.refl [] w2).alloc (.cells S4.empty.cells 25))
        replace hBr := hBr.alloc (.cells S4.empty.cells 25)
        have hBo : Bk (w2.alloc (.cells S4.empty.cells 25)) go 25 S4.empty.cells := by rw [hgo]; exact Bk.new w2 _ _
        rw [← hgo]
        clear hgo
        refine wpAnyM_all (rs := [10]) (by kernel_rfl) (by simp) (fun w3 hG3 => ?_)
        replace hL := hL.fr hG3
        replace hBr := hBr.fr hG3 (by simp)
        replace hBo := hBo.fr hG3 (by simp)
        clear hG3
        refine allM.head rfl rfl (fun K3 hK3 => ?_) allM.nil
        · go_simp
          refine hK3.out _ _ (hL.fr ((Fr.refl [] w3).alloc _)) ?_
          clear hK3 K3
          obtain ⟨gn, hgn⟩ : ∃ g, g = w3.heap.size := ⟨_, rfl⟩
          have hfn : ∀ p ∈ [(w.heap.size, s), (w.heap.size + 1, t)], p.1 = gn → False := fun p hp e => Nat.ne_of_lt (hL.lt p hp) (e.trans hgn)
          have hwn : w.heap.size ≤ gn := by rw [hgn]; exact hL.2.size
          have hnrn : gr ≠ gn := by rw [hgn]; exact Nat.ne_of_lt hBr.lt
          have hnnr := hnrn.symm
          have hnon : go ≠ gn := by rw [hgn]; exact Nat.ne_of_lt hBo.lt
          have hnno := hnon.symm
          replace hL := hL.fr ((Fr.refl [] w3).alloc (.cells S4.empty.cells 25))
          replace hBr := hBr.alloc (.cells S4.empty.cells 25)
          replace hBo := hBo.alloc (.cells S4.empty.cells 25)
          have hBn : Bk (w3.alloc (.cells S4.empty.cells 25)) gn 25 S4.empty.cells := by rw [hgn]; exact Bk.new w3 _ _
          rw [← hgn]
          clear hgn
          refine wpAnyM_all (rs := [11]) (by kernel_rfl) (by simp) (fun w5 hG5 => ?_)
          replace hL := hL.fr hG5
          replace hBr := hBr.fr hG5 (by simp)
          replace hBo := hBo.fr hG5 (by simp)
          replace hBn := hBn.fr hG5 (by simp)
          clear hG5
          refine allM.head rfl rfl (fun K5 hK5 => ?_) allM.nil
          obtain ⟨⟨z0, z1, z2, z3⟩, f0, f1, f2, f3⟩ := S4.four hBr
          (try unfold S4.val)
          go_simp
          clear z0 z1 z2 z3 f0 f1 f2 f3
          have hne : ∀ p ∈ [(w.heap.size, s), (w.heap.size + 1, t)], p.1 ≠ gr := fun p hp e => hfr p hp e
          refine hK5.out _ _ (hL.four hne hwr _ _ _ _) ?_
          clear hK5 K5
          replace hL := hL.four hne hwr (.int .u64 ((S4.range nf nh).a : Int)) (.int .u64 ((S4.range nf nh).b : Int)) (.int .u64 ((S4.range nf nh).c : Int)) (.int .u64 ((S4.range nf nh).d : Int))
          replace hBo := hBo.far4 hnor (.int .u64 ((S4.range nf nh).a : Int)) (.int .u64 ((S4.range nf nh).b : Int)) (.int .u64 ((S4.range nf nh).c : Int)) (.int .u64 ((S4.range nf nh).d : Int))
          replace hBn := hBn.far4 hnnr (.int .u64 ((S4.range nf nh).a : Int)) (.int .u64 ((S4.range nf nh).b : Int)) (.int .u64 ((S4.range nf nh).c : Int)) (.int .u64 ((S4.range nf nh).d : Int))
          replace hBr := hBr.fill (S4.range nf nh)
          clear hne
          refine wpAnyM_all (rs := [12]) (by kernel_rfl) (by simp) (fun w6 hG6 => ?_)
          replace hL := hL.fr hG6
          replace hBr := hBr.fr hG6 (by simp)
          replace hBo := hBo.fr hG6 (by simp)
          replace hBn := hBn.fr hG6 (by simp)
          clear hG6
          refine allM.head rfl rfl (fun K6 hK6 => ?_) allM.nil
          obtain ⟨⟨z0, z1, z2, z3⟩, f0, f1, f2, f3⟩ := S4.four hBo
          (try unfold S4.val)
          go_simp
          clear z0 z1 z2 z3 f0 f1 f2 f3
          have hne : ∀ p ∈ [(w.heap.size, s), (w.heap.size + 1, t)], p.1 ≠ go := fun p hp e => hfo p hp e
          refine hK6.out _ _ (hL.four hne hwo _ _ _ _) ?_
          clear hK6 K6
          replace hL := hL.four hne hwo (.int .u64 ((s.or t).a : Int)) (.int .u64 ((s.or t).b : Int)) (.int .u64 ((s.or t).c : Int)) (.int .u64 ((s.or t).d : Int))
          replace hBr := hBr.far4 hnro (.int .u64 ((s.or t).a : Int)) (.int .u64 ((s.or t).b : Int)) (.int .u64 ((s.or t).c : Int)) (.int .u64 ((s.or t).d : Int))
          replace hBn := hBn.far4 hnno (.int .u64 ((s.or t).a : Int)) (.int .u64 ((s.or t).b : Int)) (.int .u64 ((s.or t).c : Int)) (.int .u64 ((s.or t).d : Int))
          replace hBo := hBo.fill (s.or t)
          clear hne
          refine wpAnyM_all (rs := [13]) (by kernel_rfl) (by simp) (fun w7 hG7 => ?_)
          replace hL := hL.fr hG7
          replace hBr := hBr.fr hG7 (by simp)
          replace hBo := hBo.fr hG7 (by simp)
          replace hBn := hBn.fr hG7 (by simp)
          clear hG7
          refine allM.head rfl rfl (fun K7 hK7 => ?_) allM.nil
          obtain ⟨⟨z0, z1, z2, z3⟩, f0, f1, f2, f3⟩ := S4.four hBn
          (try unfold S4.val)
          go_simp
          clear z0 z1 z2 z3 f0 f1 f2 f3
          have hne : ∀ p ∈ [(w.heap.size, s), (w.heap.size + 1, t)], p.1 ≠ gn := fun p hp e => hfn p hp e
          refine hK7.out _ _ (hL.four hne hwn _ _ _ _) ?_
          clear hK7 K7
          replace hL := hL.four hne hwn (.int .u64 (s.not.a : Int)) (.int .u64 (s.not.b : Int)) (.int .u64 (s.not.c : Int)) (.int .u64 (s.not.d : Int))
          replace hBr := hBr.far4 hnrn (.int .u64 (s.not.a : Int)) (.int .u64 (s.not.b : Int)) (.int .u64 (s.not.c : Int)) (.int .u64 (s.not.d : Int))
          replace hBo := hBo.far4 hnon (.int .u64 (s.not.a : Int)) (.int .u64 (s.not.b : Int)) (.int .u64 (s.not.c : Int)) (.int .u64 (s.not.d : Int))
          replace hBn := hBn.fill s.not
          clear hne
          refine wpAnyM_done (by kernel_rfl) (fun w8 hG8 => ?_)
          have hL8 := hL.fr hG8
          have hBr8 := hBr.fr hG8 (by simp)
          have hBo8 := hBo.fr hG8 (by simp)
          have hBn8 := hBn.fr hG8 (by simp)
          have hA := (((hL8.snoc hBr8).snoc hBo8).snoc hBn8)
          have HA := Lib.hid hA
          clear hA hL hL8 hBr hBo hBn hBr8 hBo8 hBn8 hG8
          go_wp2_with fail
          go_meet
          case rel => exact ⟨gr, go, gn, _, _, _, rfl, rfl, rfl, rfl, rfl, rfl, HA.out⟩
      · go_simp
        refine hK2.out _ _ (hL.fr ((Fr.refl [] w2).alloc _)) ?_
        clear hK2 K2
        obtain ⟨gn, hgn⟩ : ∃ g, g = w2.heap.size := ⟨_, rfl⟩
        have hfn : ∀ p ∈ [(w.heap.size, s), (w.heap.size + 1, t)], p.1 = gn → False := fun p hp e => Nat.ne_of_lt (hL.lt p hp) (e.trans hgn)
        have hwn : w.heap.size ≤ gn := by rw [hgn]; exact hL.2.size
        have hnrn : gr ≠ gn := by rw [hgn]; exact Nat.ne_of_lt hBr.lt
        have hnnr := hnrn.symm
        replace hL := hL.fr ((Fr.refl [] w2).alloc (.cells S4.empty.cells 25))
        replace hBr := hBr.alloc (.cells S4.empty.cells 25)
        have hBn : Bk (w2.alloc (.cells S4.empty.cells 25)) gn 25 S4.empty.cells := by rw [hgn]; exact Bk.new w2 _ _
        rw [← hgn]
        clear hgn
        refine wpAnyM_all (rs := [9]) (by kernel_rfl) (by simp) (fun w9 hG9 => ?_)
        replace hL := hL.fr hG9
        replace hBr := hBr.fr hG9 (by simp)
        replace hBn := hBn.fr hG9 (by simp)
        clear hG9
        refine allM.head rfl rfl (fun K9 hK9 => ?_) allM.nil
        · go_simp
          refine hK9.out _ _ (hL.fr ((Fr.refl [] w9).alloc _)) ?_
          clear hK9 K9
          obtain ⟨go, hgo⟩ : ∃ g, g = w9.heap.size := ⟨_, rfl⟩
          have hfo : ∀ p ∈ [(w.heap.size, s), (w.heap.size + 1, t)], p.1 = go → False := fun p hp e => Nat.ne_of_lt (hL.lt p hp) (e.trans hgo)
          have hwo : w.heap.size ≤ go := by rw [hgo]; exact hL.2.size
          have hnro : gr ≠ go := by rw [hgo]; exact Nat.ne_of_lt hBr.lt
          have hnor := hnro.symm
          have hnno : gn ≠ go := by rw [hgo]; exact Nat.ne_of_lt hBn.lt
          have hnon := hnno.symm
          replace hL := hL.fr ((Fr.refl [] w9).alloc (.cells S4.empty.cells 25))
          replace hBr := hBr.alloc (.cells S4.empty.cells 25)
          replace hBn := hBn.alloc (.cells S4.empty.cells 25)
          have hBo : Bk (w9.alloc (.cells S4.empty.cells 25)) go 25 S4.empty.cells := by rw [hgo]; exact Bk.new w9 _ _
          rw [← hgo]
          clear hgo
          refine wpAnyM_all (rs := [11]) (by kernel_rfl) (by simp) (fun w11 hG11 => ?_)
          replace hL := hL.fr hG11
          replace hBr := hBr.fr hG11 (by simp)
          replace hBo := hBo.fr hG11 (by simp)
          replace hBn := hBn.fr hG11 (by simp)
          clear hG11
          refine allM.head rfl rfl (fun K11 hK11 => ?_) allM.nil
          obtain ⟨⟨z0, z1, z2, z3⟩, f0, f1, f2, f3⟩ := S4.four hBr
          (try unfold S4.val)
          go_simp
          clear z0 z1 z2 z3 f0 f1 f2 f3
          have hne : ∀ p ∈ [(w.heap.size, s), (w.heap.size + 1, t)], p.1 ≠ gr := fun p hp e => hfr p hp e
          refine hK11.out _ _ (hL.four hne hwr _ _ _ _) ?_
          clear hK11 K11
          replace hL := hL.four hne hwr (.int .u64 ((S4.range nf nh).a : Int)) (.int .u64 ((S4.range nf nh).b : Int)) (.int .u64 ((S4.range nf nh).c : Int)) (.int .u64 ((S4.range nf nh).d : Int))
          replace hBo := hBo.far4 hnor (.int .u64 ((S4.range nf nh).a : Int)) (.int .u64 ((S4.range nf nh).b : Int)) (.int .u64 ((S4.range nf nh).c : Int)) (.int .u64 ((S4.range nf nh).d : Int))
          replace hBn := hBn.far4 hnnr (.int .u64 ((S4.range nf nh).a : Int)) (.int .u64 ((S4.range nf nh).b : Int)) (.int .u64 ((S4.range nf nh).c : Int)) (.int .u64 ((S4.range nf nh).d : Int))
          replace hBr := hBr.fill (S4.range nf nh)
          clear hne
          refine wpAnyM_all (rs := [12]) (by kernel_rfl) (by simp) (fun w12 hG12 => ?_)
          replace hL := hL.fr hG12
          replace hBr := hBr.fr hG12 (by simp)
          replace hBo := hBo.fr hG12 (by simp)
          replace hBn := hBn.fr hG12 (by simp)
          clear hG12
          refine allM.head rfl rfl (fun K12 hK12 => ?_) allM.nil
          obtain ⟨⟨z0, z1, z2, z3⟩, f0, f1, f2, f3⟩ := S4.four hBo
          (try unfold S4.val)
          go_simp
          clear z0 z1 z2 z3 f0 f1 f2 f3
          have hne : ∀ p ∈ [(w.heap.size, s), (w.heap.size + 1, t)], p.1 ≠ go := fun p hp e => hfo p hp e
          refine hK12.out _ _ (hL.four hne hwo _ _ _ _) ?_
          clear hK12 K12
          replace hL := hL.four hne hwo (.int .u64 ((s.or t).a : Int)) (.int .u64 ((s.or t).b : Int)) (.int .u64 ((s.or t).c : Int)) (.int .u64 ((s.or t).d : Int))
          replace hBr := hBr.far4 hnro (.int .u64 ((s.or t).a : Int)) (.int .u64 ((s.or t).b : Int)) (.int .u64 ((s.or t).c : Int)) (.int .u64 ((s.or t).d : Int))
          replace hBn := hBn.far4 hnno (.int .u64 ((s.or t).a : Int)) (.int .u64 ((s.or t).b : Int)) (.int .u64 ((s.or t).c : Int)) (.int .u64 ((s.or t).d : Int))
          replace hBo := hBo.fill (s.or t)
          clear hne
          refine wpAnyM_all (rs := [13]) (by kernel_rfl) (by simp) (fun w13 hG13 => ?_)
          replace hL := hL.fr hG13
          replace hBr := hBr.fr hG13 (by simp)
          replace hBo := hBo.fr hG13 (by simp)
          replace hBn := hBn.fr hG13 (by simp)
          clear hG13
          refine allM.head rfl rfl (fun K13 hK13 => ?_) allM.nil
          obtain ⟨⟨z0, z1, z2, z3⟩, f0, f1, f2, f3⟩ := S4.four hBn
          (try unfold S4.val)
          go_simp
          clear z0 z1 z2 z3 f0 f1 f2 f3
          have hne : ∀ p ∈ [(w.heap.size, s), (w.heap.size + 1, t)], p.1 ≠ gn := fun p hp e => hfn p hp e
          refine hK13.out _ _ (hL.four hne hwn _ _ _ _) ?_
          clear hK13 K13
          replace hL := hL.four hne hwn (.int .u64 (s.not.a : Int)) (.int .u64 (s.not.b : Int)) (.int .u64 (s.not.c : Int)) (.int .u64 (s.not.d : Int))
          replace hBr := hBr.far4 hnrn (.int .u64 (s.not.a : Int)) (.int .u64 (s.not.b : Int)) (.int .u64 (s.not.c : Int)) (.int .u64 (s.not.d : Int))
          replace hBo := hBo.far4 hnon (.int .u64 (s.not.a : Int)) (.int .u64 (s.not.b : Int)) (.int .u64 (s.not.c : Int)) (.int .u64 (s.not.d : Int))
          replace hBn := hBn.fill s.not
          clear hne
          refine wpAnyM_done (by kernel_rfl) (fun w14 hG14 => ?_)
          have hL14 := hL.fr hG14
          have hBr14 := hBr.fr hG14 (by simp)
          have hBo14 := hBo.fr hG14 (by simp)
          have hBn14 := hBn.fr hG14 (by simp)
          have hA := (((hL14.snoc hBr14).snoc hBo14).snoc hBn14)
          have HA := Lib.hid hA
          clear hA hL hL14 hBr hBo hBn hBr14 hBo14 hBn14 hG14
          go_wp2_with fail
          go_meet
          case rel => exact ⟨gr, go, gn, _, _, _, rfl, rfl, rfl, rfl, rfl, rfl, HA.out⟩
    · go_simp
      refine hK1.out _ _ (hL.fr ((Fr.refl [] w1).alloc _)) ?_
      clear hK1 K1
      obtain ⟨go, hgo⟩ : ∃ g, g = w1.heap.size := ⟨_, rfl⟩
      have hfo : ∀ p ∈ [(w.heap.size, s), (w.heap.size + 1, t)], p.1 = go → False := fun p hp e => Nat.ne_of_lt (hL.lt p hp) (e.trans hgo)
      have hwo : w.heap.size ≤ go := by rw [hgo]; exact hL.2.size
      replace hL := hL.fr ((Fr.refl [] w1).alloc (.cells S4.empty.cells 25))
      have hBo : Bk (w1.alloc (.cells S4.empty.cells 25)) go 25 S4.empty.cells := by rw [hgo]; exact Bk.new w1 _ _
      rw [← hgo]
      clear hgo
      refine wpAnyM_all (rs := [8, 10]) (by kernel_rfl) (by simp) (fun w15 hG15 => ?_)
      replace hL := hL.fr hG15
      replace hBo := hBo.fr hG15 (by simp)
      clear hG15
      refine allM.head rfl rfl (fun K15 hK15 => ?_) (allM.head rfl rfl (fun K15 hK15 => ?_) allM.nil)
      · go_simp
        refine hK15.out _ _ (hL.fr ((Fr.refl [] w15).alloc _)) ?_
        clear hK15 K15
        obtain ⟨gr, hgr⟩ : ∃ g, g = w15.heap.size := ⟨_, rfl⟩
        have hfr : ∀ p ∈ [(w.heap.size, s), (w.heap.size + 1, t)], p.1 = gr → False := fun p hp e => Nat.ne_of_lt (hL.lt p hp) (e.trans hgr)
        have hwr : w.heap.size ≤ gr := by rw [hgr]; exact hL.2.size
        have hnor : go ≠ gr := by rw [hgr]; exact Nat.ne_of_lt hBo.lt
        have hnro := hnor.symm
        replace hL := hL.fr ((Fr.refl [] w15).alloc (.cells S4.empty.cells 25))
        replace hBo := hBo.alloc (.cells S4.empty.cells 25)
        have hBr : Bk (w15.alloc (.cells S4.empty.cells 25)) gr 25 S4.empty.cells := by rw [hgr]; exact Bk.new w15 _ _
        rw [← hgr]
        clear hgr
        refine wpAnyM_all (rs := [10]) (by kernel_rfl) (by simp) (fun w16 hG16 => ?_)
        replace hL := hL.fr hG16
        replace hBo := hBo.fr hG16 (by simp)
        replace hBr := hBr.fr hG16 (by simp)
        clear hG16
        refine allM.head rfl rfl (fun K16 hK16 => ?_) allM.nil
        · go_simp
          refine hK16.out _ _ (hL.fr ((Fr.refl [] w16).alloc _)) ?_
          clear hK16 K16
          obtain ⟨gn, hgn⟩ : ∃ g, g = w16.heap.size := ⟨_, rfl⟩
          have hfn : ∀ p ∈ [(w.heap.size, s), (w.heap.size + 1, t)], p.1 = gn → False := fun p hp e => Nat.ne_of_lt (hL.lt p hp) (e.trans hgn)
          have hwn : w.heap.size ≤ gn := by rw [hgn]; exact hL.2.size
          have hnon : go ≠ gn := by rw [hgn]; exact Nat.ne_of_lt hBo.lt
          have hnno := hnon.symm
          have hnrn : gr ≠ gn := by rw [hgn]; exact Nat.ne_of_lt hBr.lt
          have hnnr := hnrn.symm
          replace hL := hL.fr ((Fr.refl [] w16).alloc (.cells S4.empty.cells 25))
          replace hBo := hBo.alloc (.cells S4.empty.cells 25)
          replace hBr := hBr.alloc (.cells S4.empty.cells 25)
          have hBn : Bk (w16.alloc (.cells S4.empty.cells 25)) gn 25 S4.empty.cells := by rw [hgn]; exact Bk.new w16 _ _
          rw [← hgn]
          clear hgn
          refine wpAnyM_all (rs := [11]) (by kernel_rfl) (by simp) (fun w18 hG18 => ?_)
          replace hL := hL.fr hG18
          replace hBr := hBr.fr hG18 (by simp)
          replace hBo := hBo.fr hG18 (by simp)
          replace hBn := hBn.fr hG18 (by simp)
          clear hG18
          refine allM.head rfl rfl (fun K18 hK18 => ?_) allM.nil
          obtain ⟨⟨z0, z1, z2, z3⟩, f0, f1, f2, f3⟩ := S4.four hBr
          (try unfold S4.val)
          go_simp
          clear z0 z1 z2 z3 f0 f1 f2 f3
          have hne : ∀ p ∈ [(w.heap.size, s), (w.heap.size + 1, t)], p.1 ≠ gr := fun p hp e => hfr p hp e
          refine hK18.out _ _ (hL.four hne hwr _ _ _ _) ?_
          clear hK18 K18
          replace hL := hL.four hne hwr (.int .u64 ((S4.range nf nh).a : Int)) (.int .u64 ((S4.range nf nh).b : Int)) (.int .u64 ((S4.range nf nh).c : Int)) (.int .u64 ((S4.range nf nh).d : Int))
          replace hBo := hBo.far4 hnor (.int .u64 ((S4.range nf nh).a : Int)) (.int .u64 ((S4.range nf nh).b : Int)) (.int .u64 ((S4.range nf nh).c : Int)) (.int .u64 ((S4.range nf nh).d : Int))
          replace hBn := hBn.far4 hnnr (.int .u64 ((S4.range nf nh).a : Int)) (.int .u64 ((S4.range nf nh).b : Int)) (.int .u64 ((S4.range nf nh).c : Int)) (.int .u64 ((S4.range nf nh).d : Int))
          replace hBr := hBr.fill (S4.range nf nh)
          clear hne
          refine wpAnyM_all (rs := [12]) (by kernel_rfl) (by simp) (fun w19 hG19 => ?_)
          replace hL := hL.fr hG19
          replace hBr := hBr.fr hG19 (by simp)
          replace hBo := hBo.fr hG19 (by simp)
          replace hBn := hBn.fr hG19 (by simp)
          clear hG19
          refine allM.head rfl rfl (fun K19 hK19 => ?_) allM.nil
          obtain ⟨⟨z0, z1, z2, z3⟩, f0, f1, f2, f3⟩ := S4.four hBo
          (try unfold S4.val)
          go_simp
          clear z0 z1 z2 z3 f0 f1 f2 f3
          have hne : ∀ p ∈ [(w.heap.size, s), (w.heap.size + 1, t)], p.1 ≠ go := fun p hp e => hfo p hp e
          refine hK19.out _ _ (hL.four hne hwo _ _ _ _) ?_
          clear hK19 K19
          replace hL := hL.four hne hwo (.int .u64 ((s.or t).a : Int)) (.int .u64 ((s.or t).b : Int)) (.int .u64 ((s.or t).c : Int)) (.int .u64 ((s.or t).d : Int))
          replace hBr := hBr.far4 hnro (.int .u64 ((s.or t).a : Int)) (.int .u64 ((s.or t).b : Int)) (.int .u64 ((s.or t).c : Int)) (.int .u64 ((s.or t).d : Int))
          replace hBn := hBn.far4 hnno (.int .u64 ((s.or t).a : Int)) (.int .u64 ((s.or t).b : Int)) (.int .u64 ((s.or t).c : Int)) (.int .u64 ((s.or t).d : Int))
          replace hBo := hBo.fill (s.or t)
          clear hne
          refine wpAnyM_all (rs := [13]) (by kernel_rfl) (by simp) (fun w20 hG20 => ?_)
          replace hL := hL.fr hG20
          replace hBr := hBr.fr hG20 (by simp)
          replace hBo := hBo.fr hG20 (by simp)
          replace hBn := hBn.fr hG20 (by simp)
          clear hG20
          refine allM.head rfl rfl (fun K20 hK20 => ?_) allM.nil
          obtain ⟨⟨z0, z1, z2, z3⟩, f0, f1, f2, f3⟩ := S4.four hBn
          (try unfold S4.val)
          go_simp
          clear z0 z1 z2 z3 f0 f1 f2 f3
          have hne : ∀ p ∈ [(w.heap.size, s), (w.heap.size + 1, t)], p.1 ≠ gn := fun p hp e => hfn p hp e
          refine hK20.out _ _ (hL.four hne hwn _ _ _ _) ?_
          clear hK20 K20
          replace hL := hL.four hne hwn (.int .u64 (s.not.a : Int)) (.int .u64 (s.not.b : Int)) (.int .u64 (s.not.c : Int)) (.int .u64 (s.not.d : Int))
          replace hBr := hBr.far4 hnrn (.int .u64 (s.not.a : Int)) (.int .u64 (s.not.b : Int)) (.int .u64 (s.not.c : Int)) (.int .u64 (s.not.d : Int))
          replace hBo := hBo.far4 hnon (.int .u64 (s.not.a : Int)) (.int .u64 (s.not.b : Int)) (.int .u64 (s.not.c : Int)) (.int .u64 (s.not.d : Int))
          replace hBn := hBn.fill s.not
          clear hne
          refine wpAnyM_done (by kernel_rfl) (fun w21 hG21 => ?_)
          have hL21 := hL.fr hG21
          have hBr21 := hBr.fr hG21 (by simp)
          have hBo21 := hBo.fr hG21 (by simp)
          have hBn21 := hBn.fr hG21 (by simp)
          have hA := (((hL21.snoc hBr21).snoc hBo21).snoc hBn21)
          have HA := Lib.hid hA
          clear hA hL hL21 hBr hBo hBn hBr21 hBo21 hBn21 hG21
          go_wp2_with fail
          go_meet
          case rel => exact ⟨gr, go, gn, _, _, _, rfl, rfl, rfl, rfl, rfl, rfl, HA.out⟩
      · go_simp
        refine hK15.out _ _ (hL.fr ((Fr.refl [] w15).alloc _)) ?_
        clear hK15 K15
        obtain ⟨gn, hgn⟩ : ∃ g, g = w15.heap.size := ⟨_, rfl⟩
        have hfn : ∀ p ∈ [(w.heap.size, s), (w.heap.size + 1, t)], p.1 = gn → False := fun p hp e => Nat.ne_of_lt (hL.lt p hp) (e.trans hgn)
        have hwn : w.heap.size ≤ gn := by rw [hgn]; exact hL.2.size
        have hnon : go ≠ gn := by rw [hgn]; exact Nat.ne_of_lt hBo.lt
        have hnno := hnon.symm
        replace hL := hL.fr ((Fr.refl [] w15).alloc (.cells S4.empty.cells 25))
        replace hBo := hBo.alloc (.cells S4.empty.cells 25)
        have hBn : Bk (w15.alloc (.cells S4.empty.cells 25)) gn 25 S4.empty.cells := by rw [hgn]; exact Bk.new w15 _ _
        rw [← hgn]
        clear hgn
        refine wpAnyM_all (rs := [8]) (by kernel_rfl) (by simp) (fun w22 hG22 => ?_)
        replace hL := hL.fr hG22
        replace hBo := hBo.fr hG22 (by simp)
        replace hBn := hBn.fr hG22 (by simp)
        clear hG22
        refine allM.head rfl rfl (fun K22 hK22 => ?_) allM.nil
        · go_simp
          refine hK22.out _ _ (hL.fr ((Fr.refl [] w22).alloc _)) ?_
          clear hK22 K22
          obtain ⟨gr, hgr⟩ : ∃ g, g = w22.heap.size := ⟨_, rfl⟩
          have hfr : ∀ p ∈ [(w.heap.size, s), (w.heap.size + 1, t)], p.1 = gr → False := fun p hp e => Nat.ne_of_lt (hL.lt p hp) (e.trans hgr)
          have hwr : w.heap.size ≤ gr := by rw [hgr]; exact hL.2.size
          have hnor : go ≠ gr := by rw [hgr]; exact Nat.ne_of_lt hBo.lt
          have hnro := hnor.symm
          have hnnr : gn ≠ gr := by rw [hgr]; exact Nat.ne_of_lt hBn.lt
          have hnrn := hnnr.symm
          replace hL := hL.fr ((Fr.refl [] w22).alloc (.cells S4.empty.cells 25))
          replace hBo := hBo.alloc (.cells S4.empty.cells 25)
          replace hBn := hBn.alloc (.cells S4.empty.cells 25)
          have hBr : Bk (w22.alloc (.cells S4.empty.cells 25)) gr 25 S4.empty.cells := by rw [hgr]; exact Bk.new w22 _ _
          rw [← hgr]
          clear hgr
          refine wpAnyM_all (rs := [11]) (by kernel_rfl) (by simp) (fun w24 hG24 => ?_)
          replace hL := hL.fr hG24
          replace hBr := hBr.fr hG24 (by simp)
          replace hBo := hBo.fr hG24 (by simp)
          replace hBn := hBn.fr hG24 (by simp)
          clear hG24
          refine allM.head rfl rfl (fun K24 hK24 => ?_) allM.nil
          obtain ⟨⟨z0, z1, z2, z3⟩, f0, f1, f2, f3⟩ := S4.four hBr
          (try unfold S4.val)
          go_simp
          clear z0 z1 z2 z3 f0 f1 f2 f3
          have hne : ∀ p ∈ [(w.heap.size, s), (w.heap.size + 1, t)], p.1 ≠ gr := fun p hp e => hfr p hp e
          refine hK24.out _ _ (hL.four hne hwr _ _ _ _) ?_
          clear hK24 K24
          replace hL := hL.four hne hwr (.int .u64 ((S4.range nf nh).a : Int)) (.int .u64 ((S4.range nf nh).b : Int)) (.int .u64 ((S4.range nf nh).c : Int)) (.int .u64 ((S4.range nf nh).d : Int))
          replace hBo := hBo.far4 hnor (.int .u64 ((S4.range nf nh).a : Int)) (.int .u64 ((S4.range nf nh).b : Int)) (.int .u64 ((S4.range nf nh).c : Int)) (.int .u64 ((S4.range nf nh).d : Int))
          replace hBn := hBn.far4 hnnr (.int .u64 ((S4.range nf nh).a : Int)) (.int .u64 ((S4.range nf nh).b : Int)) (.int .u64 ((S4.range nf nh).c : Int)) (.int .u64 ((S4.range nf nh).d : Int))
          replace hBr := hBr.fill (S4.range nf nh)
          clear hne
          refine wpAnyM_all (rs := [12]) (by kernel_rfl) (by simp) (fun w25 hG25 => ?_)
          replace hL := hL.fr hG25
          replace hBr := hBr.fr hG25 (by simp)
          replace hBo := hBo.fr hG25 (by simp)
          replace hBn := hBn.fr hG25 (by simp)
          clear hG25
          refine allM.head rfl rfl (fun K25 hK25 => ?_) allM.nil
          obtain ⟨⟨z0, z1, z2, z3⟩, f0, f1, f2, f3⟩ := S4.four hBo
          (try unfold S4.val)
          go_simp
          clear z0 z1 z2 z3 f0 f1 f2 f3
          have hne : ∀ p ∈ [(w.heap.size, s), (w.heap.size + 1, t)], p.1 ≠ go := fun p hp e => hfo p hp e
          refine hK25.out _ _ (hL.four hne hwo _ _ _ _) ?_
          clear hK25 K25
          replace hL := hL.four hne hwo (.int .u64 ((s.or t).a : Int)) (.int .u64 ((s.or t).b : Int)) (.int .u64 ((s.or t).c : Int)) (.int .u64 ((s.or t).d : Int))
          replace hBr := hBr.far4 hnro (.int .u64 ((s.or t).a : Int)) (.int .u64 ((s.or t).b : Int)) (.int .u64 ((s.or t).c : Int)) (.int .u64 ((s.or t).d : Int))
          replace hBn := hBn.far4 hnno (.int .u64 ((s.or t).a : Int)) (.int .u64 ((s.or t).b : Int)) (.int .u64 ((s.or t).c : Int)) (.int .u64 ((s.or t).d : Int))
          replace hBo := hBo.fill (s.or t)
          clear hne
          refine wpAnyM_all (rs := [13]) (by kernel_rfl) (by simp) (fun w26 hG26 => ?_)
          replace hL := hL.fr hG26
          replace hBr := hBr.fr hG26 (by simp)
          replace hBo := hBo.fr hG26 (by simp)
          replace hBn := hBn.fr hG26 (by simp)
          clear hG26
          refine allM.head rfl rfl (fun K26 hK26 => ?_) allM.nil
          obtain ⟨⟨z0, z1, z2, z3⟩, f0, f1, f2, f3⟩ := S4.four hBn
          (try unfold S4.val)
          go_simp
          clear z0 z1 z2 z3 f0 f1 f2 f3
          have hne : ∀ p ∈ [(w.heap.size, s), (w.heap.size + 1, t)], p.1 ≠ gn := fun p hp e => hfn p hp e
          refine hK26.out _ _ (hL.four hne hwn _ _ _ _) ?_
          clear hK26 K26
          replace hL := hL.four hne hwn (.int .u64 (s.not.a : Int)) (.int .u64 (s.not.b : Int)) (.int .u64 (s.not.c : Int)) (.int .u64 (s.not.d : Int))
          replace hBr := hBr.far4 hnrn (.int .u64 (s.not.a : Int)) (.int .u64 (s.not.b : Int)) (.int .u64 (s.not.c : Int)) (.int .u64 (s.not.d : Int))
          replace hBo := hBo.far4 hnon (.int .u64 (s.not.a : Int)) (.int .u64 (s.not.b : Int)) (.int .u64 (s.not.c : Int)) (.int .u64 (s.not.d : Int))
          replace hBn := hBn.fill s.not
          clear hne
          refine wpAnyM_done (by kernel_rfl) (fun w27 hG27 => ?_)
          have hL27 := hL.fr hG27
          have hBr27 := hBr.fr hG27 (by simp)
          have hBo27 := hBo.fr hG27 (by simp)
          have hBn27 := hBn.fr hG27 (by simp)
          have hA := (((hL27.snoc hBr27).snoc hBo27).snoc hBn27)
          have HA := Lib.hid hA
          clear hA hL hL27 hBr hBo hBn hBr27 hBo27 hBn27 hG27
          go_wp2_with fail
          go_meet
          case rel => exact ⟨gr, go, gn, _, _, _, rfl, rfl, rfl, rfl, rfl, rfl, HA.out⟩
    · go_simp
      refine hK1.out _ _ (hL.fr ((Fr.refl [] w1).alloc _)) ?_
      clear hK1 K1
      obtain ⟨gn, hgn⟩ : ∃ g, g = w1.heap.size := ⟨_, rfl⟩
      have hfn : ∀ p ∈ [(w.heap.size, s), (w.heap.size + 1, t)], p.1 = gn → False := fun p hp e => Nat.ne_of_lt (hL.lt p hp) (e.trans hgn)
      have hwn : w.heap.size ≤ gn := by rw [hgn]; exact hL.2.size
      replace hL := hL.fr ((Fr.refl [] w1).alloc (.cells S4.empty.cells 25))
      have hBn : Bk (w1.alloc (.cells S4.empty.cells 25)) gn 25 S4.empty.cells := by rw [hgn]; exact Bk.new w1 _ _
      rw [← hgn]
      clear hgn
      refine wpAnyM_all (rs := [8, 9]) (by kernel_rfl) (by simp) (fun w28 hG28 => ?_)
      replace hL := hL.fr hG28
      replace hBn := hBn.fr hG28 (by simp)
      clear hG28
      refine allM.head rfl rfl (fun K28 hK28 => ?_) (allM.head rfl rfl (fun K28 hK28 => ?_) allM.nil)
      · go_simp
        refine hK28.out _ _ (hL.fr ((Fr.refl [] w28).alloc _)) ?_
        clear hK28 K28
        obtain ⟨gr, hgr⟩ : ∃ g, g = w28.heap.size := ⟨_, rfl⟩
        have hfr : ∀ p ∈ [(w.heap.size, s), (w.heap.size + 1, t)], p.1 = gr → False := fun p hp e => Nat.ne_of_lt (hL.lt p hp) (e.trans hgr)
        have hwr : w.heap.size ≤ gr := by rw [hgr]; exact hL.2.size
        have hnnr : gn ≠ gr := by rw [hgr]; exact Nat.ne_of_lt hBn.lt
        have hnrn := hnnr.symm
        replace hL := hL.fr ((Fr.refl [] w28).alloc (.cells S4.empty.cells 25))
        replace hBn := hBn.alloc (.cells S4.empty.cells 25)
        have hBr : Bk (w28.alloc (.cells S4.empty.cells 25)) gr 25 S4.empty.cells := by rw [hgr]; exact Bk.new w28 _ _
        rw [← hgr]
        clear hgr
        refine wpAnyM_all (rs := [9]) (by kernel_rfl) (by simp) (fun w29 hG29 => ?_)
        replace hL := hL.fr hG29
        replace hBn := hBn.fr hG29 (by simp)
        replace hBr := hBr.fr hG29 (by simp)
        clear hG29
        refine allM.head rfl rfl (fun K29 hK29 => ?_) allM.nil
        · go_simp
          refine hK29.out _ _ (hL.fr ((Fr.refl [] w29).alloc _)) ?_
          clear hK29 K29
          obtain ⟨go, hgo⟩ : ∃ g, g = w29.heap.size := ⟨_, rfl⟩
          have hfo : ∀ p ∈ [(w.heap.size, s), (w.heap.size + 1, t)], p.1 = go → False := fun p hp e => Nat.ne_of_lt (hL.lt p hp) (e.trans hgo)
          have hwo : w.heap.size ≤ go := by rw [hgo]; exact hL.2.size
          have hnno : gn ≠ go := by rw [hgo]; exact Nat.ne_of_lt hBn.lt
          have hnon := hnno.symm
          have hnro : gr ≠ go := by rw [hgo]; exact Nat.ne_of_lt hBr.lt
          have hnor := hnro.symm
          replace hL := hL.fr ((Fr.refl [] w29).alloc (.cells S4.empty.cells 25))
          replace hBn := hBn.alloc (.cells S4.empty.cells 25)
          replace hBr := hBr.alloc (.cells S4.empty.cells 25)
          have hBo : Bk (w29.alloc (.cells S4.empty.cells 25)) go 25 S4.empty.cells := by rw [hgo]; exact Bk.new w29 _ _
          rw [← hgo]
          clear hgo
          refine wpAnyM_all (rs := [11]) (by kernel_rfl) (by simp) (fun w31 hG31 => ?_)
          replace hL := hL.fr hG31
          replace hBr := hBr.fr hG31 (by simp)
          replace hBo := hBo.fr hG31 (by simp)
          replace hBn := hBn.fr hG31 (by simp)
          clear hG31
          refine allM.head rfl rfl (fun K31 hK31 => ?_) allM.nil
          obtain ⟨⟨z0, z1, z2, z3⟩, f0, f1, f2, f3⟩ := S4.four hBr
          (try unfold S4.val)
          go_simp
          clear z0 z1 z2 z3 f0 f1 f2 f3
          have hne : ∀ p ∈ [(w.heap.size, s), (w.heap.size + 1, t)], p.1 ≠ gr := fun p hp e => hfr p hp e
          refine hK31.out _ _ (hL.four hne hwr _ _ _ _) ?_
          clear hK31 K31
          replace hL := hL.four hne hwr (.int .u64 ((S4.range nf nh).a : Int)) (.int .u64 ((S4.range nf nh).b : Int)) (.int .u64 ((S4.range nf nh).c : Int)) (.int .u64 ((S4.range nf nh).d : Int))
          replace hBo := hBo.far4 hnor (.int .u64 ((S4.range nf nh).a : Int)) (.int .u64 ((S4.range nf nh).b : Int)) (.int .u64 ((S4.range nf nh).c : Int)) (.int .u64 ((S4.range nf nh).d : Int))
          replace hBn := hBn.far4 hnnr (.int .u64 ((S4.range nf nh).a : Int)) (.int .u64 ((S4.range nf nh).b : Int)) (.int .u64 ((S4.range nf nh).c : Int)) (.int .u64 ((S4.range nf nh).d : Int))
          replace hBr := hBr.fill (S4.range nf nh)
          clear hne
          refine wpAnyM_all (rs := [12]) (by kernel_rfl) (by simp) (fun w32 hG32 => ?_)
          replace hL := hL.fr hG32
          replace hBr := hBr.fr hG32 (by simp)
          replace hBo := hBo.fr hG32 (by simp)
          replace hBn := hBn.fr hG32 (by simp)
          clear hG32
          refine allM.head rfl rfl (fun K32 hK32 => ?_) allM.nil
          obtain ⟨⟨z0, z1, z2, z3⟩, f0, f1, f2, f3⟩ := S4.four hBo
          (try unfold S4.val)
          go_simp
          clear z0 z1 z2 z3 f0 f1 f2 f3
          have hne : ∀ p ∈ [(w.heap.size, s), (w.heap.size + 1, t)], p.1 ≠ go := fun p hp e => hfo p hp e
          refine hK32.out _ _ (hL.four hne hwo _ _ _ _) ?_
          clear hK32 K32
          replace hL := hL.four hne hwo (.int .u64 ((s.or t).a : Int)) (.int .u64 ((s.or t).b : Int)) (.int .u64 ((s.or t).c : Int)) (.int .u64 ((s.or t).d : Int))
          replace hBr := hBr.far4 hnro (.int .u64 ((s.or t).a : Int)) (.int .u64 ((s.or t).b : Int)) (.int .u64 ((s.or t).c : Int)) (.int .u64 ((s.or t).d : Int))
          replace hBn := hBn.far4 hnno (.int .u64 ((s.or t).a : Int)) (.int .u64 ((s.or t).b : Int)) (.int .u64 ((s.or t).c : Int)) (.int .u64 ((s.or t).d : Int))
          replace hBo := hBo.fill (s.or t)
          clear hne
          refine wpAnyM_all (rs := [13]) (by kernel_rfl) (by simp) (fun w33 hG33 => ?_)
          replace hL := hL.fr hG33
          replace hBr := hBr.fr hG33 (by simp)
          replace hBo := hBo.fr hG33 (by simp)
          replace hBn := hBn.fr hG33 (by simp)
          clear hG33
          refine allM.head rfl rfl (fun K33 hK33 => ?_) allM.nil
          obtain ⟨⟨z0, z1, z2, z3⟩, f0, f1, f2, f3⟩ := S4.four hBn
          (try unfold S4.val)
          go_simp
          clear z0 z1 z2 z3 f0 f1 f2 f3
          have hne : ∀ p ∈ [(w.heap.size, s), (w.heap.size + 1, t)], p.1 ≠ gn := fun p hp e => hfn p hp e
          refine hK33.out _ _ (hL.four hne hwn _ _ _ _) ?_
          clear hK33 K33
          replace hL := hL.four hne hwn (.int .u64 (s.not.a : Int)) (.int .u64 (s.not.b : Int)) (.int .u64 (s.not.c : Int)) (.int .u64 (s.not.d : Int))
          replace hBr := hBr.far4 hnrn (.int .u64 (s.not.a : Int)) (.int .u64 (s.not.b : Int)) (.int .u64 (s.not.c : Int)) (.int .u64 (s.not.d : Int))
          replace hBo := hBo.far4 hnon (.int .u64 (s.not.a : Int)) (.int .u64 (s.not.b : Int)) (.int .u64 (s.not.c : Int)) (.int .u64 (s.not.d : Int))
          replace hBn := hBn.fill s.not
          clear hne
          refine wpAnyM_done (by kernel_rfl) (fun w34 hG34 => ?_)
          have hL34 := hL.fr hG34
          have hBr34 := hBr.fr hG34 (by simp)
          have hBo34 := hBo.fr hG34 (by simp)
          have hBn34 := hBn.fr hG34 (by simp)
          have hA := (((hL34.snoc hBr34).snoc hBo34).snoc hBn34)
          have HA := Lib.hid hA
          clear hA hL hL34 hBr hBo hBn hBr34 hBo34 hBn34 hG34
          go_wp2_with fail
          go_meet
          case rel => exact ⟨gr, go, gn, _, _, _, rfl, rfl, rfl, rfl, rfl, rfl, HA.out⟩
      · go_simp
        refine hK28.out _ _ (hL.fr ((Fr.refl [] w28).alloc _)) ?_
        clear hK28 K28
        obtain ⟨go, hgo⟩ : ∃ g, g = w28.heap.size := ⟨_, rfl⟩
        have hfo : ∀ p ∈ [(w.heap.size, s), (w.heap.size + 1, t)], p.1 = go → False := fun p hp e => Nat.ne_of_lt (hL.lt p hp) (e.trans hgo)
        have hwo : w.heap.size ≤ go := by rw [hgo]; exact hL.2.size
        have hnno : gn ≠ go := by rw [hgo]; exact Nat.ne_of_lt hBn.lt
        have hnon := hnno.symm
        replace hL := hL.fr ((Fr.refl [] w28).alloc (.cells S4.empty.cells 25))
        replace hBn := hBn.alloc (.cells S4.empty.cells 25)
        have hBo : Bk (w28.alloc (.cells S4.empty.cells 25)) go 25 S4.empty.cells := by rw [hgo]; exact Bk.new w28 _ _
        rw [← hgo]
        clear hgo
        refine wpAnyM_all (rs := [8]) (by kernel_rfl) (by simp) (fun w35 hG35 => ?_)
        replace hL := hL.fr hG35
        replace hBn := hBn.fr hG35 (by simp)
        replace hBo := hBo.fr hG35 (by simp)
        clear hG35
        refine allM.head rfl rfl (fun K35 hK35 => ?_) allM.nil
        · go_simp
          refine hK35.out _ _ (hL.fr ((Fr.refl [] w35).alloc _)) ?_
          clear hK35 K35
          obtain ⟨gr, hgr⟩ : ∃ g, g = w35.heap.size := ⟨_, rfl⟩
          have hfr : ∀ p ∈ [(w.heap.size, s), (w.heap.size + 1, t)], p.1 = gr → False := fun p hp e => Nat.ne_of_lt (hL.lt p hp) (e.trans hgr)
          have hwr : w.heap.size ≤ gr := by rw [hgr]; exact hL.2.size
          have hnnr : gn ≠ gr := by rw [hgr]; exact Nat.ne_of_lt hBn.lt
          have hnrn := hnnr.symm
          have hnor : go ≠ gr := by rw [hgr]; exact Nat.ne_of_lt hBo.lt
          have hnro := hnor.symm
          replace hL := hL.fr ((Fr.refl [] w35).alloc (.cells S4.empty.cells 25))
          replace hBn := hBn.alloc (.cells S4.empty.cells 25)
          replace hBo := hBo.alloc (.cells S4.empty.cells 25)
          have hBr : Bk (w35.alloc (.cells S4.empty.cells 25)) gr 25 S4.empty.cells := by rw [hgr]; exact Bk.new w35 _ _
          rw [← hgr]
          clear hgr
          refine wpAnyM_all (rs := [11]) (by kernel_rfl) (by simp) (fun w37 hG37 => ?_)
          replace hL := hL.fr hG37
          replace hBr := hBr.fr hG37 (by simp)
          replace hBo := hBo.fr hG37 (by simp)
          replace hBn := hBn.fr hG37 (by simp)
          clear hG37
          refine allM.head rfl rfl (fun K37 hK37 => ?_) allM.nil
          obtain ⟨⟨z0, z1, z2, z3⟩, f0, f1, f2, f3⟩ := S4.four hBr
          (try unfold S4.val)
          go_simp
          clear z0 z1 z2 z3 f0 f1 f2 f3
          have hne : ∀ p ∈ [(w.heap.size, s), (w.heap.size + 1, t)], p.1 ≠ gr := fun p hp e => hfr p hp e
          refine hK37.out _ _ (hL.four hne hwr _ _ _ _) ?_
          clear hK37 K37
          replace hL := hL.four hne hwr (.int .u64 ((S4.range nf nh).a : Int)) (.int .u64 ((S4.range nf nh).b : Int)) (.int .u64 ((S4.range nf nh).c : Int)) (.int .u64 ((S4.range nf nh).d : Int))
          replace hBo := hBo.far4 hnor (.int .u64 ((S4.range nf nh).a : Int)) (.int .u64 ((S4.range nf nh).b : Int)) (.int .u64 ((S4.range nf nh).c : Int)) (.int .u64 ((S4.range nf nh).d : Int))
          replace hBn := hBn.far4 hnnr (.int .u64 ((S4.range nf nh).a : Int)) (.int .u64 ((S4.range nf nh).b : Int)) (.int .u64 ((S4.range nf nh).c : Int)) (.int .u64 ((S4.range nf nh).d : Int))
          replace hBr := hBr.fill (S4.range nf nh)
          clear hne
          refine wpAnyM_all (rs := [12]) (by kernel_rfl) (by simp) (fun w38 hG38 => ?_)
          replace hL := hL.fr hG38
          replace hBr := hBr.fr hG38 (by simp)
          replace hBo := hBo.fr hG38 (by simp)
          replace hBn := hBn.fr hG38 (by simp)
          clear hG38
          refine allM.head rfl rfl (fun K38 hK38 => ?_) allM.nil
          obtain ⟨⟨z0, z1, z2, z3⟩, f0, f1, f2, f3⟩ := S4.four hBo
          (try unfold S4.val)
          go_simp
          clear z0 z1 z2 z3 f0 f1 f2 f3
          have hne : ∀ p ∈ [(w.heap.size, s), (w.heap.size + 1, t)], p.1 ≠ go := fun p hp e => hfo p hp e
          refine hK38.out _ _ (hL.four hne hwo _ _ _ _) ?_
          clear hK38 K38
          replace hL := hL.four hne hwo (.int .u64 ((s.or t).a : Int)) (.int .u64 ((s.or t).b : Int)) (.int .u64 ((s.or t).c : Int)) (.int .u64 ((s.or t).d : Int))
          replace hBr := hBr.far4 hnro (.int .u64 ((s.or t).a : Int)) (.int .u64 ((s.or t).b : Int)) (.int .u64 ((s.or t).c : Int)) (.int .u64 ((s.or t).d : Int))
          replace hBn := hBn.far4 hnno (.int .u64 ((s.or t).a : Int)) (.int .u64 ((s.or t).b : Int)) (.int .u64 ((s.or t).c : Int)) (.int .u64 ((s.or t).d : Int))
          replace hBo := hBo.fill (s.or t)
          clear hne
          refine wpAnyM_all (rs := [13]) (by kernel_rfl) (by simp) (fun w39 hG39 => ?_)
          replace hL := hL.fr hG39
          replace hBr := hBr.fr hG39 (by simp)
          replace hBo := hBo.fr hG39 (by simp)
          replace hBn := hBn.fr hG39 (by simp)
          clear hG39
          refine allM.head rfl rfl (fun K39 hK39 => ?_) allM.nil
          obtain ⟨⟨z0, z1, z2, z3⟩, f0, f1, f2, f3⟩ := S4.four hBn
          (try unfold S4.val)
          go_simp
          clear z0 z1 z2 z3 f0 f1 f2 f3
          have hne : ∀ p ∈ [(w.heap.size, s), (w.heap.size + 1, t)], p.1 ≠ gn := fun p hp e => hfn p hp e
          refine hK39.out _ _ (hL.four hne hwn _ _ _ _) ?_
          clear hK39 K39
          replace hL := hL.four hne hwn (.int .u64 (s.not.a : Int)) (.int .u64 (s.not.b : Int)) (.int .u64 (s.not.c : Int)) (.int .u64 (s.not.d : Int))
          replace hBr := hBr.far4 hnrn (.int .u64 (s.not.a : Int)) (.int .u64 (s.not.b : Int)) (.int .u64 (s.not.c : Int)) (.int .u64 (s.not.d : Int))
          replace hBo := hBo.far4 hnon (.int .u64 (s.not.a : Int)) (.int .u64 (s.not.b : Int)) (.int .u64 (s.not.c : Int)) (.int .u64 (s.not.d : Int))
          replace hBn := hBn.fill s.not
          clear hne
          refine wpAnyM_done (by kernel_rfl) (fun w40 hG40 => ?_)
          have hL40 := hL.fr hG40
          have hBr40 := hBr.fr hG40 (by simp)
          have hBo40 := hBo.fr hG40 (by simp)
          have hBn40 := hBn.fr hG40 (by simp)
          have hA := (((hL40.snoc hBr40).snoc hBo40).snoc hBn40)
          have HA := Lib.hid hA
          clear hA hL hL40 hBr hBo hBn hBr40 hBo40 hBn40 hG40
          go_wp2_with fail
          go_meet
          case rel => exact ⟨gr, go, gn, _, _, _, rfl, rfl, rfl, rfl, rfl, rfl, HA.out⟩
  case rest =>
    obtain ⟨gr, go, gn, R, O, N, rfl, rfl, rfl, hR, hO, hN, hK⟩ := hcut
    clear HK
    have HK := Lib.hid hK; clear hK
    have okR : R.ok := by rw [hR]; exact S4.range_ok _ _
    have okO : O.ok := by rw [hO]; exact S4.or_ok hs ht
    have okN : N.ok := by rw [hN]; exact S4.not_ok _
    have mR := Lib.hid (show R.mem nc = (decide (nf ≤ nc) && decide (nc ≤ nh)) by rw [hR, S4.mem_range nf nh nc hf hh hc]; simp)
    have mO := Lib.hid (show O.mem nc = (s.mem nc || t.mem nc) by rw [hO]; exact S4.mem_or s t nc)
    have mN := Lib.hid (show N.mem nc = !s.mem nc by rw [hN]; exact S4.mem_not hs nc)
    have nN := Lib.hid (show N.not = s by rw [hN]; exact S4.not_not hs)
    have cN := Lib.hid (show s.count + N.count = 256 by rw [hN]; exact S4.count_not hs)
    clear hR hO hN
    have q2 := fun V => eqSelf s V
    go_upto_region 4 with fail
    go_cut [4, 5, 6, 11, 12, 13, 66] from 16 (fun v4 v5 v6 v11 v12 v13 v66 wx => v66 = .bool false ∧ v4 = .int .u8 (nc : Int) ∧ v5 = .pointer (some ⟨w.heap.size, 0, none⟩) ∧ v6 = .pointer (some ⟨w.heap.size + 1, 0, none⟩) ∧ v13 = .pointer (some ⟨gn, 0, none⟩) ∧ KeepL w wx [(w.heap.size, s), (w.heap.size + 1, t), (gr, R), (go, O), (gn, N)])
    case first =>
      cases hsm : s.mem nc
      case true =>
        have HS := Lib.hid hsm
        rw [hsm] at mO mN
        clear hsm
        by_cases hfc : nf ≤ nc
        · rw [decide_eq_true hfc] at mR
          obtain ⟨b, hb⟩ : ∃ b, b = decide (nc ≤ nh) := ⟨_, rfl⟩
          rw [← hb] at mR
          refine wp_region_nice_all (fun a b => Fr [] a b) (fun W => KeepL w W [(w.heap.size, s), (w.heap.size + 1, t), (gr, R), (go, O), (gn, N)]) (by kernel_rfl) (fun w => Fr.refl [] w) (fun a b c h k => h.trans k) (fun a b h k => h.fr k) (by kernel_rfl) (by kernel_rfl) (by kernel_rfl) (fun _ _ d _ _ h => by cases d <;> exact h) HK.out.drew ?_
          refine nice_val (v := S4.val R) rfl (fun W hS => ?_) ?_
          · obtain ⟨c0, c1, c2, c3⟩ := hS.c (g := gr) (R := R) (by simp)
            go_simp
            rfl
          simp only [Act.put, List.setIfInBounds_toArray, List.set_cons_zero, List.set_cons_succ]
          refine nice_move _ rfl rfl ?_
          simp only [Act.put, Act.eval, List.setIfInBounds_toArray, List.set_cons_zero, List.set_cons_succ, List.getElem?_toArray, List.getElem?_cons_zero, List.getElem?_cons_succ, Option.getD_some]
          have hh := fun W => has_any R nc W hc okR
          simp only [mR.out, Bool.true_and] at hh
          refine nice_call rfl (fun W hS => hh W) (fun W => ?_) ?_
          · go_simp
            first | done | rfl
          clear hh
          simp only [Act.put, List.setIfInBounds_toArray, List.set_cons_zero, List.set_cons_succ]
          refine nice_move _ rfl rfl ?_
          simp only [Act.put, Act.eval, List.setIfInBounds_toArray, List.set_cons_zero, List.set_cons_succ, List.getElem?_toArray, List.getElem?_cons_zero, List.getElem?_cons_succ, Option.getD_some]
          refine nice_move _ rfl rfl ?_
          simp only [Act.put, Act.eval, List.setIfInBounds_toArray, List.set_cons_zero, List.set_cons_succ, List.getElem?_toArray, List.getElem?_cons_zero, List.getElem?_cons_succ, Option.getD_some]
          refine nice_val (v := .bool true) rfl (fun W hS => ?_) ?_
          · go_simp
            first | done | omega | rfl
          simp only [Act.put, List.setIfInBounds_toArray, List.set_cons_zero, List.set_cons_succ]
          refine nice_move _ rfl rfl ?_
          simp only [Act.put, Act.eval, List.setIfInBounds_toArray, List.set_cons_zero, List.set_cons_succ, List.getElem?_toArray, List.getElem?_cons_zero, List.getElem?_cons_succ, Option.getD_some]
          refine nice_move _ rfl rfl ?_
          simp only [Act.put, Act.eval, List.setIfInBounds_toArray, List.set_cons_zero, List.set_cons_succ, List.getElem?_toArray, List.getElem?_cons_zero, List.getElem?_cons_succ, Option.getD_some]
          refine nice_move _ rfl rfl ?_
          simp only [Act.put, Act.eval, List.setIfInBounds_toArray, List.set_cons_zero, List.set_cons_succ, List.getElem?_toArray, List.getElem?_cons_zero, List.getElem?_cons_succ, Option.getD_some]
          refine nice_val (v := .bool b) rfl (fun W hS => ?_) ?_
          · go_simp
            first | done | exact hb.symm | rfl
          simp only [Act.put, List.setIfInBounds_toArray, List.set_cons_zero, List.set_cons_succ]
          refine nice_val (v := ?_) rfl (fun W hS => ?_) ?_
          rotate_left
          · go_simp
            first | done | rfl
          simp only [Act.put, List.setIfInBounds_toArray, List.set_cons_zero, List.set_cons_succ]
          refine nice_val (v := .bool false) rfl (fun W hS => ?_) ?_
          · go_simp
            first | done | rfl
          simp only [Act.put, List.setIfInBounds_toArray, List.set_cons_zero, List.set_cons_succ]
          refine nice_move _ rfl rfl ?_
          simp only [Act.put, Act.eval, List.setIfInBounds_toArray, List.set_cons_zero, List.set_cons_succ, List.getElem?_toArray, List.getElem?_cons_zero, List.getElem?_cons_succ, Option.getD_some]
          refine nice_val (v := S4.val O) rfl (fun W hS => ?_) ?_
          · obtain ⟨c0, c1, c2, c3⟩ := hS.c (g := go) (R := O) (by simp)
            go_simp
            rfl
          simp only [Act.put, List.setIfInBounds_toArray, List.set_cons_zero, List.set_cons_succ]
          refine nice_move _ rfl rfl ?_
          simp only [Act.put, Act.eval, List.setIfInBounds_toArray, List.set_cons_zero, List.set_cons_succ, List.getElem?_toArray, List.getElem?_cons_zero, List.getElem?_cons_succ, Option.getD_some]
          have hh := fun W => has_any O nc W hc okO
          simp only [mO.out, Bool.true_or] at hh
          refine nice_call rfl (fun W hS => hh W) (fun W => ?_) ?_
          · go_simp
            first | done | rfl
          clear hh
          simp only [Act.put, List.setIfInBounds_toArray, List.set_cons_zero, List.set_cons_succ]
          refine nice_val (v := S4.val s) rfl (fun W hS => ?_) ?_
          · obtain ⟨c0, c1, c2, c3⟩ := hS.c (g := w.heap.size) (R := s) (by simp)
            go_simp
            rfl
          simp only [Act.put, List.setIfInBounds_toArray, List.set_cons_zero, List.set_cons_succ]
          refine nice_move _ rfl rfl ?_
          simp only [Act.put, Act.eval, List.setIfInBounds_toArray, List.set_cons_zero, List.set_cons_succ, List.getElem?_toArray, List.getElem?_cons_zero, List.getElem?_cons_succ, Option.getD_some]
          have hh := fun W => has_any s nc W hc hs
          simp only [HS.out] at hh
          refine nice_call rfl (fun W hS => hh W) (fun W => ?_) ?_
          · go_simp
            first | done | rfl
          clear hh
          simp only [Act.put, List.setIfInBounds_toArray, List.set_cons_zero, List.set_cons_succ]
          refine nice_move _ rfl rfl ?_
          simp only [Act.put, Act.eval, List.setIfInBounds_toArray, List.set_cons_zero, List.set_cons_succ, List.getElem?_toArray, List.getElem?_cons_zero, List.getElem?_cons_succ, Option.getD_some]
          refine nice_skip rfl ?_
          simp only [Act.put, List.setIfInBounds_toArray, List.set_cons_zero, List.set_cons_succ]
          refine nice_skip rfl ?_
          simp only [Act.put, List.setIfInBounds_toArray, List.set_cons_zero, List.set_cons_succ]
          refine nice_skip rfl ?_
          simp only [Act.put, List.setIfInBounds_toArray, List.set_cons_zero, List.set_cons_succ]
          refine nice_val (v := ?_) rfl (fun W hS => ?_) ?_
          rotate_left
          · go_simp
            first | done | rfl
          simp only [Act.put, List.setIfInBounds_toArray, List.set_cons_zero, List.set_cons_succ]
          refine nice_val (v := .bool false) rfl (fun W hS => ?_) ?_
          · go_simp
            first | done | rfl
          simp only [Act.put, List.setIfInBounds_toArray, List.set_cons_zero, List.set_cons_succ]
          refine nice_val (v := ?_) rfl (fun W hS => ?_) ?_
          rotate_left
          · go_simp
            first | done | rfl
          simp only [Act.put, List.setIfInBounds_toArray, List.set_cons_zero, List.set_cons_succ]
          refine nice_move _ rfl rfl ?_
          simp only [Act.put, Act.eval, List.setIfInBounds_toArray, List.set_cons_zero, List.set_cons_succ, List.getElem?_toArray, List.getElem?_cons_zero, List.getElem?_cons_succ, Option.getD_some]
          refine nice_val (v := S4.val N) rfl (fun W hS => ?_) ?_
          · obtain ⟨c0, c1, c2, c3⟩ := hS.c (g := gn) (R := N) (by simp)
            go_simp
            rfl
          simp only [Act.put, List.setIfInBounds_toArray, List.set_cons_zero, List.set_cons_succ]
          refine nice_move _ rfl rfl ?_
          simp only [Act.put, Act.eval, List.setIfInBounds_toArray, List.set_cons_zero, List.set_cons_succ, List.getElem?_toArray, List.getElem?_cons_zero, List.getElem?_cons_succ, Option.getD_some]
          have hh := fun W => has_any N nc W hc okN
          simp only [mN.out, Bool.not_true] at hh
          refine nice_call rfl (fun W hS => hh W) (fun W => ?_) ?_
          · go_simp
            first | done | rfl
          clear hh
          simp only [Act.put, List.setIfInBounds_toArray, List.set_cons_zero, List.set_cons_succ]
          refine nice_val (v := S4.val s) rfl (fun W hS => ?_) ?_
          · obtain ⟨c0, c1, c2, c3⟩ := hS.c (g := w.heap.size) (R := s) (by simp)
            go_simp
            rfl
          simp only [Act.put, List.setIfInBounds_toArray, List.set_cons_zero, List.set_cons_succ]
          refine nice_move _ rfl rfl ?_
          simp only [Act.put, Act.eval, List.setIfInBounds_toArray, List.set_cons_zero, List.set_cons_succ, List.getElem?_toArray, List.getElem?_cons_zero, List.getElem?_cons_succ, Option.getD_some]
          have hh := fun W => has_any s nc W hc hs
          simp only [HS.out] at hh
          refine nice_call rfl (fun W hS => hh W) (fun W => ?_) ?_
          · go_simp
            first | done | rfl
          clear hh
          simp only [Act.put, List.setIfInBounds_toArray, List.set_cons_zero, List.set_cons_succ]
          refine nice_val (v := .bool false) rfl (fun W hS => ?_) ?_
          · go_simp
            first | done | rfl
          simp only [Act.put, List.setIfInBounds_toArray, List.set_cons_zero, List.set_cons_succ]
          refine nice_val (v := ?_) rfl (fun W hS => ?_) ?_
          rotate_left
          · go_simp
            first | done | rfl
          simp only [Act.put, List.setIfInBounds_toArray, List.set_cons_zero, List.set_cons_succ]
          refine nice_move _ rfl rfl ?_
          simp only [Act.put, Act.eval, List.setIfInBounds_toArray, List.set_cons_zero, List.set_cons_succ, List.getElem?_toArray, List.getElem?_cons_zero, List.getElem?_cons_succ, Option.getD_some]
          refine nice_val (v := S4.val N) rfl (fun W hS => ?_) ?_
          · obtain ⟨c0, c1, c2, c3⟩ := hS.c (g := gn) (R := N) (by simp)
            go_simp
            rfl
          simp only [Act.put, List.setIfInBounds_toArray, List.set_cons_zero, List.set_cons_succ]
          have hh := fun W => not_any N W okN
          simp only [nN.out] at hh
          refine nice_call rfl (fun W hS => hh W) (fun W => ?_) ?_
          · go_simp
            first | done | rfl
          clear hh
          simp only [Act.put, List.setIfInBounds_toArray, List.set_cons_zero, List.set_cons_succ]
          refine nice_val (v := S4.val s) rfl (fun W hS => ?_) ?_
          · obtain ⟨c0, c1, c2, c3⟩ := hS.c (g := w.heap.size) (R := s) (by simp)
            go_simp
            rfl
          simp only [Act.put, List.setIfInBounds_toArray, List.set_cons_zero, List.set_cons_succ]
          refine nice_val (v := .bool false) rfl (fun W hS => ?_) ?_
          · unfold S4.val
            go_simp
          simp only [Act.put, List.setIfInBounds_toArray, List.set_cons_zero, List.set_cons_succ]
          refine nice_val (v := ?_) rfl (fun W hS => ?_) ?_
          rotate_left
          · go_simp
            first | done | rfl
          simp only [Act.put, List.setIfInBounds_toArray, List.set_cons_zero, List.set_cons_succ]
          refine nice_nil ?_
          intro w5 hL5 _
          have HL5 := Lib.hid hL5; clear hL5
          go_wp2_with fail
          go_meet
          case rel => exact ⟨rfl, rfl, rfl, rfl, rfl, HL5.out⟩
        · rw [decide_eq_false hfc] at mR
          refine wp_region_nice_all (fun a b => Fr [] a b) (fun W => KeepL w W [(w.heap.size, s), (w.heap.size + 1, t), (gr, R), (go, O), (gn, N)]) (by kernel_rfl) (fun w => Fr.refl [] w) (fun a b c h k => h.trans k) (fun a b h k => h.fr k) (by kernel_rfl) (by kernel_rfl) (by kernel_rfl) (fun _ _ d _ _ h => by cases d <;> exact h) HK.out.drew ?_
          refine nice_val (v := S4.val R) rfl (fun W hS => ?_) ?_
          · obtain ⟨c0, c1, c2, c3⟩ := hS.c (g := gr) (R := R) (by simp)
            go_simp
            rfl
          simp only [Act.put, List.setIfInBounds_toArray, List.set_cons_zero, List.set_cons_succ]
          refine nice_move _ rfl rfl ?_
          simp only [Act.put, Act.eval, List.setIfInBounds_toArray, List.set_cons_zero, List.set_cons_succ, List.getElem?_toArray, List.getElem?_cons_zero, List.getElem?_cons_succ, Option.getD_some]
          have hh := fun W => has_any R nc W hc okR
          simp only [mR.out, Bool.false_and] at hh
          refine nice_call rfl (fun W hS => hh W) (fun W => ?_) ?_
          · go_simp
            first | done | rfl
          clear hh
          simp only [Act.put, List.setIfInBounds_toArray, List.set_cons_zero, List.set_cons_succ]
          refine nice_move _ rfl rfl ?_
          simp only [Act.put, Act.eval, List.setIfInBounds_toArray, List.set_cons_zero, List.set_cons_succ, List.getElem?_toArray, List.getElem?_cons_zero, List.getElem?_cons_succ, Option.getD_some]
          refine nice_move _ rfl rfl ?_
          simp only [Act.put, Act.eval, List.setIfInBounds_toArray, List.set_cons_zero, List.set_cons_succ, List.getElem?_toArray, List.getElem?_cons_zero, List.getElem?_cons_succ, Option.getD_some]
          refine nice_val (v := .bool false) rfl (fun W hS => ?_) ?_
          · go_simp
            first | done | omega | rfl
          simp only [Act.put, List.setIfInBounds_toArray, List.set_cons_zero, List.set_cons_succ]
          refine nice_move _ rfl rfl ?_
          simp only [Act.put, Act.eval, List.setIfInBounds_toArray, List.set_cons_zero, List.set_cons_succ, List.getElem?_toArray, List.getElem?_cons_zero, List.getElem?_cons_succ, Option.getD_some]
          refine nice_skip rfl ?_
          simp only [Act.put, List.setIfInBounds_toArray, List.set_cons_zero, List.set_cons_succ]
          refine nice_skip rfl ?_
          simp only [Act.put, List.setIfInBounds_toArray, List.set_cons_zero, List.set_cons_succ]
          refine nice_skip rfl ?_
          simp only [Act.put, List.setIfInBounds_toArray, List.set_cons_zero, List.set_cons_succ]
          refine nice_val (v := ?_) rfl (fun W hS => ?_) ?_
          rotate_left
          · go_simp
            first | done | rfl
          simp only [Act.put, List.setIfInBounds_toArray, List.set_cons_zero, List.set_cons_succ]
          refine nice_val (v := .bool false) rfl (fun W hS => ?_) ?_
          · go_simp
            first | done | rfl
          simp only [Act.put, List.setIfInBounds_toArray, List.set_cons_zero, List.set_cons_succ]
          refine nice_move _ rfl rfl ?_
          simp only [Act.put, Act.eval, List.setIfInBounds_toArray, List.set_cons_zero, List.set_cons_succ, List.getElem?_toArray, List.getElem?_cons_zero, List.getElem?_cons_succ, Option.getD_some]
          refine nice_val (v := S4.val O) rfl (fun W hS => ?_) ?_
          · obtain ⟨c0, c1, c2, c3⟩ := hS.c (g := go) (R := O) (by simp)
            go_simp
            rfl
          simp only [Act.put, List.setIfInBounds_toArray, List.set_cons_zero, List.set_cons_succ]
          refine nice_move _ rfl rfl ?_
          simp only [Act.put, Act.eval, List.setIfInBounds_toArray, List.set_cons_zero, List.set_cons_succ, List.getElem?_toArray, List.getElem?_cons_zero, List.getElem?_cons_succ, Option.getD_some]
          have hh := fun W => has_any O nc W hc okO
          simp only [mO.out, Bool.true_or] at hh
          refine nice_call rfl (fun W hS => hh W) (fun W => ?_) ?_
          · go_simp
            first | done | rfl
          clear hh
          simp only [Act.put, List.setIfInBounds_toArray, List.set_cons_zero, List.set_cons_succ]
          refine nice_val (v := S4.val s) rfl (fun W hS => ?_) ?_
          · obtain ⟨c0, c1, c2, c3⟩ := hS.c (g := w.heap.size) (R := s) (by simp)
            go_simp
            rfl
          simp only [Act.put, List.setIfInBounds_toArray, List.set_cons_zero, List.set_cons_succ]
          refine nice_move _ rfl rfl ?_
          simp only [Act.put, Act.eval, List.setIfInBounds_toArray, List.set_cons_zero, List.set_cons_succ, List.getElem?_toArray, List.getElem?_cons_zero, List.getElem?_cons_succ, Option.getD_some]
          have hh := fun W => has_any s nc W hc hs
          simp only [HS.out] at hh
          refine nice_call rfl (fun W hS => hh W) (fun W => ?_) ?_
          · go_simp
            first | done | rfl
          clear hh
          simp only [Act.put, List.setIfInBounds_toArray, List.set_cons_zero, List.set_cons_succ]
          refine nice_move _ rfl rfl ?_
          simp only [Act.put, Act.eval, List.setIfInBounds_toArray, List.set_cons_zero, List.set_cons_succ, List.getElem?_toArray, List.getElem?_cons_zero, List.getElem?_cons_succ, Option.getD_some]
          refine nice_skip rfl ?_
          simp only [Act.put, List.setIfInBounds_toArray, List.set_cons_zero, List.set_cons_succ]
          refine nice_skip rfl ?_
          simp only [Act.put, List.setIfInBounds_toArray, List.set_cons_zero, List.set_cons_succ]
          refine nice_skip rfl ?_
          simp only [Act.put, List.setIfInBounds_toArray, List.set_cons_zero, List.set_cons_succ]
          refine nice_val (v := ?_) rfl (fun W hS => ?_) ?_
          rotate_left
          · go_simp
            first | done | rfl
          simp only [Act.put, List.setIfInBounds_toArray, List.set_cons_zero, List.set_cons_succ]
          refine nice_val (v := .bool false) rfl (fun W hS => ?_) ?_
          · go_simp
            first | done | rfl
          simp only [Act.put, List.setIfInBounds_toArray, List.set_cons_zero, List.set_cons_succ]
          refine nice_val (v := ?_) rfl (fun W hS => ?_) ?_
          rotate_left
          · go_simp
            first | done | rfl
          simp only [Act.put, List.setIfInBounds_toArray, List.set_cons_zero, List.set_cons_succ]
          refine nice_move _ rfl rfl ?_
          simp only [Act.put, Act.eval, List.setIfInBounds_toArray, List.set_cons_zero, List.set_cons_succ, List.getElem?_toArray, List.getElem?_cons_zero, List.getElem?_cons_succ, Option.getD_some]
          refine nice_val (v := S4.val N) rfl (fun W hS => ?_) ?_
          · obtain ⟨c0, c1, c2, c3⟩ := hS.c (g := gn) (R := N) (by simp)
            go_simp
            rfl
          simp only [Act.put, List.setIfInBounds_toArray, List.set_cons_zero, List.set_cons_succ]
          refine nice_move _ rfl rfl ?_
          simp only [Act.put, Act.eval, List.setIfInBounds_toArray, List.set_cons_zero, List.set_cons_succ, List.getElem?_toArray, List.getElem?_cons_zero, List.getElem?_cons_succ, Option.getD_some]
          have hh := fun W => has_any N nc W hc okN
          simp only [mN.out, Bool.not_true] at hh
          refine nice_call rfl (fun W hS => hh W) (fun W => ?_) ?_
          · go_simp
            first | done | rfl
          clear hh
          simp only [Act.put, List.setIfInBounds_toArray, List.set_cons_zero, List.set_cons_succ]
          refine nice_val (v := S4.val s) rfl (fun W hS => ?_) ?_
          · obtain ⟨c0, c1, c2, c3⟩ := hS.c (g := w.heap.size) (R := s) (by simp)
            go_simp
            rfl
          simp only [Act.put, List.setIfInBounds_toArray, List.set_cons_zero, List.set_cons_succ]
          refine nice_move _ rfl rfl ?_
          simp only [Act.put, Act.eval, List.setIfInBounds_toArray, List.set_cons_zero, List.set_cons_succ, List.getElem?_toArray, List.getElem?_cons_zero, List.getElem?_cons_succ, Option.getD_some]
          have hh := fun W => has_any s nc W hc hs
          simp only [HS.out] at hh
          refine nice_call rfl (fun W hS => hh W) (fun W => ?_) ?_
          · go_simp
            first | done | rfl
          clear hh
          simp only [Act.put, List.setIfInBounds_toArray, List.set_cons_zero, List.set_cons_succ]
          refine nice_val (v := .bool false) rfl (fun W hS => ?_) ?_
          · go_simp
            first | done | rfl
          simp only [Act.put, List.setIfInBounds_toArray, List.set_cons_zero, List.set_cons_succ]
          refine nice_val (v := ?_) rfl (fun W hS => ?_) ?_
          rotate_left
          · go_simp
            first | done | rfl
          simp only [Act.put, List.setIfInBounds_toArray, List.set_cons_zero, List.set_cons_succ]
          refine nice_move _ rfl rfl ?_
          simp only [Act.put, Act.eval, List.setIfInBounds_toArray, List.set_cons_zero, List.set_cons_succ, List.getElem?_toArray, List.getElem?_cons_zero, List.getElem?_cons_succ, Option.getD_some]
          refine nice_val (v := S4.val N) rfl (fun W hS => ?_) ?_
          · obtain ⟨c0, c1, c2, c3⟩ := hS.c (g := gn) (R := N) (by simp)
            go_simp
            rfl
          simp only [Act.put, List.setIfInBounds_toArray, List.set_cons_zero, List.set_cons_succ]
          have hh := fun W => not_any N W okN
          simp only [nN.out] at hh
          refine nice_call rfl (fun W hS => hh W) (fun W => ?_) ?_
          · go_simp
            first | done | rfl
          clear hh
          simp only [Act.put, List.setIfInBounds_toArray, List.set_cons_zero, List.set_cons_succ]
          refine nice_val (v := S4.val s) rfl (fun W hS => ?_) ?_
          · obtain ⟨c0, c1, c2, c3⟩ := hS.c (g := w.heap.size) (R := s) (by simp)
            go_simp
            rfl
          simp only [Act.put, List.setIfInBounds_toArray, List.set_cons_zero, List.set_cons_succ]
          refine nice_val (v := .bool false) rfl (fun W hS => ?_) ?_
          · unfold S4.val
            go_simp
          simp only [Act.put, List.setIfInBounds_toArray, List.set_cons_zero, List.set_cons_succ]
          refine nice_val (v := ?_) rfl (fun W hS => ?_) ?_
          rotate_left
          · go_simp
            first | done | rfl
          simp only [Act.put, List.setIfInBounds_toArray, List.set_cons_zero, List.set_cons_succ]
          refine nice_nil ?_
          intro w5 hL5 _
          have HL5 := Lib.hid hL5; clear hL5
          go_wp2_with fail
          go_meet
          case rel => exact ⟨rfl, rfl, rfl, rfl, rfl, HL5.out⟩
      case false =>
        have HS := Lib.hid hsm
        rw [hsm] at mO mN
        clear hsm
        obtain ⟨tb, htb⟩ : ∃ b, b = t.mem nc := ⟨_, rfl⟩
        rw [← htb] at mO
        have HT := Lib.hid htb.symm
        clear htb
        by_cases hfc : nf ≤ nc
        · rw [decide_eq_true hfc] at mR
          obtain ⟨b, hb⟩ : ∃ b, b = decide (nc ≤ nh) := ⟨_, rfl⟩
          rw [← hb] at mR
          refine wp_region_nice_all (fun a b => Fr [] a b) (fun W => KeepL w W [(w.heap.size, s), (w.heap.size + 1, t), (gr, R), (go, O), (gn, N)]) (by kernel_rfl) (fun w => Fr.refl [] w) (fun a b c h k => h.trans k) (fun a b h k => h.fr k) (by kernel_rfl) (by kernel_rfl) (by kernel_rfl) (fun _ _ d _ _ h => by cases d <;> exact h) HK.out.drew ?_
          refine nice_val (v := S4.val R) rfl (fun W hS => ?_) ?_
          · obtain ⟨c0, c1, c2, c3⟩ := hS.c (g := gr) (R := R) (by simp)
            go_simp
            rfl
          simp only [Act.put, List.setIfInBounds_toArray, List.set_cons_zero, List.set_cons_succ]
          refine nice_move _ rfl rfl ?_
          simp only [Act.put, Act.eval, List.setIfInBounds_toArray, List.set_cons_zero, List.set_cons_succ, List.getElem?_toArray, List.getElem?_cons_zero, List.getElem?_cons_succ, Option.getD_some]
          have hh := fun W => has_any R nc W hc okR
          simp only [mR.out, Bool.true_and] at hh
          refine nice_call rfl (fun W hS => hh W) (fun W => ?_) ?_
          · go_simp
            first | done | rfl
          clear hh
          simp only [Act.put, List.setIfInBounds_toArray, List.set_cons_zero, List.set_cons_succ]
          refine nice_move _ rfl rfl ?_
          simp only [Act.put, Act.eval, List.setIfInBounds_toArray, List.set_cons_zero, List.set_cons_succ, List.getElem?_toArray, List.getElem?_cons_zero, List.getElem?_cons_succ, Option.getD_some]
          refine nice_move _ rfl rfl ?_
          simp only [Act.put, Act.eval, List.setIfInBounds_toArray, List.set_cons_zero, List.set_cons_succ, List.getElem?_toArray, List.getElem?_cons_zero, List.getElem?_cons_succ, Option.getD_some]
          refine nice_val (v := .bool true) rfl (fun W hS => ?_) ?_
          · go_simp
            first | done | omega | rfl
          simp only [Act.put, List.setIfInBounds_toArray, List.set_cons_zero, List.set_cons_succ]
          refine nice_move _ rfl rfl ?_
          simp only [Act.put, Act.eval, List.setIfInBounds_toArray, List.set_cons_zero, List.set_cons_succ, List.getElem?_toArray, List.getElem?_cons_zero, List.getElem?_cons_succ, Option.getD_some]
          refine nice_move _ rfl rfl ?_
          simp only [Act.put, Act.eval, List.setIfInBounds_toArray, List.set_cons_zero, List.set_cons_succ, List.getElem?_toArray, List.getElem?_cons_zero, List.getElem?_cons_succ, Option.getD_some]
          refine nice_move _ rfl rfl ?_
          simp only [Act.put, Act.eval, List.setIfInBounds_toArray, List.set_cons_zero, List.set_cons_succ, List.getElem?_toArray, List.getElem?_cons_zero, List.getElem?_cons_succ, Option.getD_some]
          refine nice_val (v := .bool b) rfl (fun W hS => ?_) ?_
          · go_simp
            first | done | exact hb.symm | rfl
          simp only [Act.put, List.setIfInBounds_toArray, List.set_cons_zero, List.set_cons_succ]
          refine nice_val (v := ?_) rfl (fun W hS => ?_) ?_
          rotate_left
          · go_simp
            first | done | rfl
          simp only [Act.put, List.setIfInBounds_toArray, List.set_cons_zero, List.set_cons_succ]
          refine nice_val (v := .bool false) rfl (fun W hS => ?_) ?_
          · go_simp
            first | done | rfl
          simp only [Act.put, List.setIfInBounds_toArray, List.set_cons_zero, List.set_cons_succ]
          refine nice_move _ rfl rfl ?_
          simp only [Act.put, Act.eval, List.setIfInBounds_toArray, List.set_cons_zero, List.set_cons_succ, List.getElem?_toArray, List.getElem?_cons_zero, List.getElem?_cons_succ, Option.getD_some]
          refine nice_val (v := S4.val O) rfl (fun W hS => ?_) ?_
          · obtain ⟨c0, c1, c2, c3⟩ := hS.c (g := go) (R := O) (by simp)
            go_simp
            rfl
          simp only [Act.put, List.setIfInBounds_toArray, List.set_cons_zero, List.set_cons_succ]
          refine nice_move _ rfl rfl ?_
          simp only [Act.put, Act.eval, List.setIfInBounds_toArray, List.set_cons_zero, List.set_cons_succ, List.getElem?_toArray, List.getElem?_cons_zero, List.getElem?_cons_succ, Option.getD_some]
          have hh := fun W => has_any O nc W hc okO
          simp only [mO.out, Bool.false_or] at hh
          refine nice_call rfl (fun W hS => hh W) (fun W => ?_) ?_
          · go_simp
            first | done | rfl
          clear hh
          simp only [Act.put, List.setIfInBounds_toArray, List.set_cons_zero, List.set_cons_succ]
          refine nice_val (v := S4.val s) rfl (fun W hS => ?_) ?_
          · obtain ⟨c0, c1, c2, c3⟩ := hS.c (g := w.heap.size) (R := s) (by simp)
            go_simp
            rfl
          simp only [Act.put, List.setIfInBounds_toArray, List.set_cons_zero, List.set_cons_succ]
          refine nice_move _ rfl rfl ?_
          simp only [Act.put, Act.eval, List.setIfInBounds_toArray, List.set_cons_zero, List.set_cons_succ, List.getElem?_toArray, List.getElem?_cons_zero, List.getElem?_cons_succ, Option.getD_some]
          have hh := fun W => has_any s nc W hc hs
          simp only [HS.out] at hh
          refine nice_call rfl (fun W hS => hh W) (fun W => ?_) ?_
          · go_simp
            first | done | rfl
          clear hh
          simp only [Act.put, List.setIfInBounds_toArray, List.set_cons_zero, List.set_cons_succ]
          refine nice_move _ rfl rfl ?_
          simp only [Act.put, Act.eval, List.setIfInBounds_toArray, List.set_cons_zero, List.set_cons_succ, List.getElem?_toArray, List.getElem?_cons_zero, List.getElem?_cons_succ, Option.getD_some]
          refine nice_val (v := S4.val t) rfl (fun W hS => ?_) ?_
          · obtain ⟨c0, c1, c2, c3⟩ := hS.c (g := (w.heap.size + 1)) (R := t) (by simp)
            go_simp
            rfl
          simp only [Act.put, List.setIfInBounds_toArray, List.set_cons_zero, List.set_cons_succ]
          refine nice_move _ rfl rfl ?_
          simp only [Act.put, Act.eval, List.setIfInBounds_toArray, List.set_cons_zero, List.set_cons_succ, List.getElem?_toArray, List.getElem?_cons_zero, List.getElem?_cons_succ, Option.getD_some]
          have hh := fun W => has_any t nc W hc ht
          simp only [HT.out] at hh
          refine nice_call rfl (fun W hS => hh W) (fun W => ?_) ?_
          · go_simp
            first | done | rfl
          clear hh
          simp only [Act.put, List.setIfInBounds_toArray, List.set_cons_zero, List.set_cons_succ]
          refine nice_val (v := ?_) rfl (fun W hS => ?_) ?_
          rotate_left
          · go_simp
            first | done | rfl
          simp only [Act.put, List.setIfInBounds_toArray, List.set_cons_zero, List.set_cons_succ]
          refine nice_val (v := .bool false) rfl (fun W hS => ?_) ?_
          · go_simp
            first | done | rfl
          simp only [Act.put, List.setIfInBounds_toArray, List.set_cons_zero, List.set_cons_succ]
          refine nice_val (v := ?_) rfl (fun W hS => ?_) ?_
          rotate_left
          · go_simp
            first | done | rfl
          simp only [Act.put, List.setIfInBounds_toArray, List.set_cons_zero, List.set_cons_succ]
          refine nice_move _ rfl rfl ?_
          simp only [Act.put, Act.eval, List.setIfInBounds_toArray, List.set_cons_zero, List.set_cons_succ, List.getElem?_toArray, List.getElem?_cons_zero, List.getElem?_cons_succ, Option.getD_some]
          refine nice_val (v := S4.val N) rfl (fun W hS => ?_) ?_
          · obtain ⟨c0, c1, c2, c3⟩ := hS.c (g := gn) (R := N) (by simp)
            go_simp
            rfl
          simp only [Act.put, List.setIfInBounds_toArray, List.set_cons_zero, List.set_cons_succ]
          refine nice_move _ rfl rfl ?_
          simp only [Act.put, Act.eval, List.setIfInBounds_toArray, List.set_cons_zero, List.set_cons_succ, List.getElem?_toArray, List.getElem?_cons_zero, List.getElem?_cons_succ, Option.getD_some]
          have hh := fun W => has_any N nc W hc okN
          simp only [mN.out, Bool.not_false] at hh
          refine nice_call rfl (fun W hS => hh W) (fun W => ?_) ?_
          · go_simp
            first | done | rfl
          clear hh
          simp only [Act.put, List.setIfInBounds_toArray, List.set_cons_zero, List.set_cons_succ]
          refine nice_val (v := S4.val s) rfl (fun W hS => ?_) ?_
          · obtain ⟨c0, c1, c2, c3⟩ := hS.c (g := w.heap.size) (R := s) (by simp)
            go_simp
            rfl
          simp only [Act.put, List.setIfInBounds_toArray, List.set_cons_zero, List.set_cons_succ]
          refine nice_move _ rfl rfl ?_
          simp only [Act.put, Act.eval, List.setIfInBounds_toArray, List.set_cons_zero, List.set_cons_succ, List.getElem?_toArray, List.getElem?_cons_zero, List.getElem?_cons_succ, Option.getD_some]
          have hh := fun W => has_any s nc W hc hs
          simp only [HS.out] at hh
          refine nice_call rfl (fun W hS => hh W) (fun W => ?_) ?_
          · go_simp
            first | done | rfl
          clear hh
          simp only [Act.put, List.setIfInBounds_toArray, List.set_cons_zero, List.set_cons_succ]
          refine nice_val (v := .bool false) rfl (fun W hS => ?_) ?_
          · go_simp
            first | done | rfl
          simp only [Act.put, List.setIfInBounds_toArray, List.set_cons_zero, List.set_cons_succ]
          refine nice_val (v := ?_) rfl (fun W hS => ?_) ?_
          rotate_left
          · go_simp
            first | done | rfl
          simp only [Act.put, List.setIfInBounds_toArray, List.set_cons_zero, List.set_cons_succ]
          refine nice_move _ rfl rfl ?_
          simp only [Act.put, Act.eval, List.setIfInBounds_toArray, List.set_cons_zero, List.set_cons_succ, List.getElem?_toArray, List.getElem?_cons_zero, List.getElem?_cons_succ, Option.getD_some]
          refine nice_val (v := S4.val N) rfl (fun W hS => ?_) ?_
          · obtain ⟨c0, c1, c2, c3⟩ := hS.c (g := gn) (R := N) (by simp)
            go_simp
            rfl
          simp only [Act.put, List.setIfInBounds_toArray, List.set_cons_zero, List.set_cons_succ]
          have hh := fun W => not_any N W okN
          simp only [nN.out] at hh
          refine nice_call rfl (fun W hS => hh W) (fun W => ?_) ?_
          · go_simp
            first | done | rfl
          clear hh
          simp only [Act.put, List.setIfInBounds_toArray, List.set_cons_zero, List.set_cons_succ]
          refine nice_val (v := S4.val s) rfl (fun W hS => ?_) ?_
          · obtain ⟨c0, c1, c2, c3⟩ := hS.c (g := w.heap.size) (R := s) (by simp)
            go_simp
            rfl
          simp only [Act.put, List.setIfInBounds_toArray, List.set_cons_zero, List.set_cons_succ]
          refine nice_val (v := .bool false) rfl (fun W hS => ?_) ?_
          · unfold S4.val
            go_simp
          simp only [Act.put, List.setIfInBounds_toArray, List.set_cons_zero, List.set_cons_succ]
          refine nice_val (v := ?_) rfl (fun W hS => ?_) ?_
          rotate_left
          · go_simp
            first | done | rfl
          simp only [Act.put, List.setIfInBounds_toArray, List.set_cons_zero, List.set_cons_succ]
          refine nice_nil ?_
          intro w5 hL5 _
          have HL5 := Lib.hid hL5; clear hL5
          go_wp2_with fail
          go_meet
          case rel => exact ⟨rfl, rfl, rfl, rfl, rfl, HL5.out⟩
        · rw [decide_eq_false hfc] at mR
          refine wp_region_nice_all (fun a b => Fr [] a b) (fun W => KeepL w W [(w.heap.size, s), (w.heap.size + 1, t), (gr, R), (go, O), (gn, N)]) (by kernel_rfl) (fun w => Fr.refl [] w) (fun a b c h k => h.trans k) (fun a b h k => h.fr k) (by kernel_rfl) (by kernel_rfl) (by kernel_rfl) (fun _ _ d _ _ h => by cases d <;> exact h) HK.out.drew ?_
          refine nice_val (v := S4.val R) rfl (fun W hS => ?_) ?_
          · obtain ⟨c0, c1, c2, c3⟩ := hS.c (g := gr) (R := R) (by simp)
            go_simp
            rfl
          simp only [Act.put, List.setIfInBounds_toArray, List.set_cons_zero, List.set_cons_succ]
          refine nice_move _ rfl rfl ?_
          simp only [Act.put, Act.eval, List.setIfInBounds_toArray, List.set_cons_zero, List.set_cons_succ, List.getElem?_toArray, List.getElem?_cons_zero, List.getElem?_cons_succ, Option.getD_some]
          have hh := fun W => has_any R nc W hc okR
          simp only [mR.out, Bool.false_and] at hh
          refine nice_call rfl (fun W hS => hh W) (fun W => ?_) ?_
          · go_simp
            first | done | rfl
          clear hh
          simp only [Act.put, List.setIfInBounds_toArray, List.set_cons_zero, List.set_cons_succ]
          refine nice_move _ rfl rfl ?_
          simp only [Act.put, Act.eval, List.setIfInBounds_toArray, List.set_cons_zero, List.set_cons_succ, List.getElem?_toArray, List.getElem?_cons_zero, List.getElem?_cons_succ, Option.getD_some]
          refine nice_move _ rfl rfl ?_
          simp only [Act.put, Act.eval, List.setIfInBounds_toArray, List.set_cons_zero, List.set_cons_succ, List.getElem?_toArray, List.getElem?_cons_zero, List.getElem?_cons_succ, Option.getD_some]
          refine nice_val (v := .bool false) rfl (fun W hS => ?_) ?_
          · go_simp
            first | done | omega | rfl
          simp only [Act.put, List.setIfInBounds_toArray, List.set_cons_zero, List.set_cons_succ]
          refine nice_move _ rfl rfl ?_
          simp only [Act.put, Act.eval, List.setIfInBounds_toArray, List.set_cons_zero, List.set_cons_succ, List.getElem?_toArray, List.getElem?_cons_zero, List.getElem?_cons_succ, Option.getD_some]
          refine nice_skip rfl ?_
          simp only [Act.put, List.setIfInBounds_toArray, List.set_cons_zero, List.set_cons_succ]
          refine nice_skip rfl ?_
          simp only [Act.put, List.setIfInBounds_toArray, List.set_cons_zero, List.set_cons_succ]
          refine nice_skip rfl ?_
          simp only [Act.put, List.setIfInBounds_toArray, List.set_cons_zero, List.set_cons_succ]
          refine nice_val (v := ?_) rfl (fun W hS => ?_) ?_
          rotate_left
          · go_simp
            first | done | rfl
          simp only [Act.put, List.setIfInBounds_toArray, List.set_cons_zero, List.set_cons_succ]
          refine nice_val (v := .bool false) rfl (fun W hS => ?_) ?_
          · go_simp
            first | done | rfl
          simp only [Act.put, List.setIfInBounds_toArray, List.set_cons_zero, List.set_cons_succ]
          refine nice_move _ rfl rfl ?_
          simp only [Act.put, Act.eval, List.setIfInBounds_toArray, List.set_cons_zero, List.set_cons_succ, List.getElem?_toArray, List.getElem?_cons_zero, List.getElem?_cons_succ, Option.getD_some]
          refine nice_val (v := S4.val O) rfl (fun W hS => ?_) ?_
          · obtain ⟨c0, c1, c2, c3⟩ := hS.c (g := go) (R := O) (by simp)
            go_simp
            rfl
          simp only [Act.put, List.setIfInBounds_toArray, List.set_cons_zero, List.set_cons_succ]
          refine nice_move _ rfl rfl ?_
          simp only [Act.put, Act.eval, List.setIfInBounds_toArray, List.set_cons_zero, List.set_cons_succ, List.getElem?_toArray, List.getElem?_cons_zero, List.getElem?_cons_succ, Option.getD_some]
          have hh := fun W => has_any O nc W hc okO
          simp only [mO.out, Bool.false_or] at hh
          refine nice_call rfl (fun W hS => hh W) (fun W => ?_) ?_
          · go_simp
            first | done | rfl
          clear hh
          simp only [Act.put, List.setIfInBounds_toArray, List.set_cons_zero, List.set_cons_succ]
          refine nice_val (v := S4.val s) rfl (fun W hS => ?_) ?_
          · obtain ⟨c0, c1, c2, c3⟩ := hS.c (g := w.heap.size) (R := s) (by simp)
            go_simp
            rfl
          simp only [Act.put, List.setIfInBounds_toArray, List.set_cons_zero, List.set_cons_succ]
          refine nice_move _ rfl rfl ?_
          simp only [Act.put, Act.eval, List.setIfInBounds_toArray, List.set_cons_zero, List.set_cons_succ, List.getElem?_toArray, List.getElem?_cons_zero, List.getElem?_cons_succ, Option.getD_some]
          have hh := fun W => has_any s nc W hc hs
          simp only [HS.out] at hh
          refine nice_call rfl (fun W hS => hh W) (fun W => ?_) ?_
          · go_simp
            first | done | rfl
          clear hh
          simp only [Act.put, List.setIfInBounds_toArray, List.set_cons_zero, List.set_cons_succ]
          refine nice_move _ rfl rfl ?_
          simp only [Act.put, Act.eval, List.setIfInBounds_toArray, List.set_cons_zero, List.set_cons_succ, List.getElem?_toArray, List.getElem?_cons_zero, List.getElem?_cons_succ, Option.getD_some]
          refine nice_val (v := S4.val t) rfl (fun W hS => ?_) ?_
          · obtain ⟨c0, c1, c2, c3⟩ := hS.c (g := (w.heap.size + 1)) (R := t) (by simp)
            go_simp
            rfl
          simp only [Act.put, List.setIfInBounds_toArray, List.set_cons_zero, List.set_cons_succ]
          refine nice_move _ rfl rfl ?_
          simp only [Act.put, Act.eval, List.setIfInBounds_toArray, List.set_cons_zero, List.set_cons_succ, List.getElem?_toArray, List.getElem?_cons_zero, List.getElem?_cons_succ, Option.getD_some]
          have hh := fun W => has_any t nc W hc ht
          simp only [HT.out] at hh
          refine nice_call rfl (fun W hS => hh W) (fun W => ?_) ?_
          · go_simp
            first | done | rfl
          clear hh
          simp only [Act.put, List.setIfInBounds_toArray, List.set_cons_zero, List.set_cons_succ]
          refine nice_val (v := ?_) rfl (fun W hS => ?_) ?_
          rotate_left
          · go_simp
            first | done | rfl
          simp only [Act.put, List.setIfInBounds_toArray, List.set_cons_zero, List.set_cons_succ]
          refine nice_val (v := .bool false) rfl (fun W hS => ?_) ?_
          · go_simp
            first | done | rfl
          simp only [Act.put, List.setIfInBounds_toArray, List.set_cons_zero, List.set_cons_succ]
          refine nice_val (v := ?_) rfl (fun W hS => ?_) ?_
          rotate_left
          · go_simp
            first | done | rfl
          simp only [Act.put, List.setIfInBounds_toArray, List.set_cons_zero, List.set_cons_succ]
          refine nice_move _ rfl rfl ?_
          simp only [Act.put, Act.eval, List.setIfInBounds_toArray, List.set_cons_zero, List.set_cons_succ, List.getElem?_toArray, List.getElem?_cons_zero, List.getElem?_cons_succ, Option.getD_some]
          refine nice_val (v := S4.val N) rfl (fun W hS => ?_) ?_
          · obtain ⟨c0, c1, c2, c3⟩ := hS.c (g := gn) (R := N) (by simp)
            go_simp
            rfl
          simp only [Act.put, List.setIfInBounds_toArray, List.set_cons_zero, List.set_cons_succ]
          refine nice_move _ rfl rfl ?_
          simp only [Act.put, Act.eval, List.setIfInBounds_toArray, List.set_cons_zero, List.set_cons_succ, List.getElem?_toArray, List.getElem?_cons_zero, List.getElem?_cons_succ, Option.getD_some]
          have hh := fun W => has_any N nc W hc okN
          simp only [mN.out, Bool.not_false] at hh
          refine nice_call rfl (fun W hS => hh W) (fun W => ?_) ?_
          · go_simp
            first | done | rfl
          clear hh
          simp only [Act.put, List.setIfInBounds_toArray, List.set_cons_zero, List.set_cons_succ]
          refine nice_val (v := S4.val s) rfl (fun W hS => ?_) ?_
          · obtain ⟨c0, c1, c2, c3⟩ := hS.c (g := w.heap.size) (R := s) (by simp)
            go_simp
            rfl
          simp only [Act.put, List.setIfInBounds_toArray, List.set_cons_zero, List.set_cons_succ]
          refine nice_move _ rfl rfl ?_
          simp only [Act.put, Act.eval, List.setIfInBounds_toArray, List.set_cons_zero, List.set_cons_succ, List.getElem?_toArray, List.getElem?_cons_zero, List.getElem?_cons_succ, Option.getD_some]
          have hh := fun W => has_any s nc W hc hs
          simp only [HS.out] at hh
          refine nice_call rfl (fun W hS => hh W) (fun W => ?_) ?_
          · go_simp
            first | done | rfl
          clear hh
          simp only [Act.put, List.setIfInBounds_toArray, List.set_cons_zero, List.set_cons_succ]
          refine nice_val (v := .bool false) rfl (fun W hS => ?_) ?_
          · go_simp
            first | done | rfl
          simp only [Act.put, List.setIfInBounds_toArray, List.set_cons_zero, List.set_cons_succ]
          refine nice_val (v := ?_) rfl (fun W hS => ?_) ?_
          rotate_left
          · go_simp
            first | done | rfl
          simp only [Act.put, List.setIfInBounds_toArray, List.set_cons_zero, List.set_cons_succ]
          refine nice_move _ rfl rfl ?_
          simp only [Act.put, Act.eval, List.setIfInBounds_toArray, List.set_cons_zero, List.set_cons_succ, List.getElem?_toArray, List.getElem?_cons_zero, List.getElem?_cons_succ, Option.getD_some]
          refine nice_val (v := S4.val N) rfl (fun W hS => ?_) ?_
          · obtain ⟨c0, c1, c2, c3⟩ := hS.c (g := gn) (R := N) (by simp)
            go_simp
            rfl
          simp only [Act.put, List.setIfInBounds_toArray, List.set_cons_zero, List.set_cons_succ]
          have hh := fun W => not_any N W okN
          simp only [nN.out] at hh
          refine nice_call rfl (fun W hS => hh W) (fun W => ?_) ?_
          · go_simp
            first | done | rfl
          clear hh
          simp only [Act.put, List.setIfInBounds_toArray, List.set_cons_zero, List.set_cons_succ]
          refine nice_val (v := S4.val s) rfl (fun W hS => ?_) ?_
          · obtain ⟨c0, c1, c2, c3⟩ := hS.c (g := w.heap.size) (R := s) (by simp)
            go_simp
            rfl
          simp only [Act.put, List.setIfInBounds_toArray, List.set_cons_zero, List.set_cons_succ]
          refine nice_val (v := .bool false) rfl (fun W hS => ?_) ?_
          · unfold S4.val
            go_simp
          simp only [Act.put, List.setIfInBounds_toArray, List.set_cons_zero, List.set_cons_succ]
          refine nice_val (v := ?_) rfl (fun W hS => ?_) ?_
          rotate_left
          · go_simp
            first | done | rfl
          simp only [Act.put, List.setIfInBounds_toArray, List.set_cons_zero, List.set_cons_succ]
          refine nice_nil ?_
          intro w5 hL5 _
          have HL5 := Lib.hid hL5; clear hL5
          go_wp2_with fail
          go_meet
          case rel => exact ⟨rfl, rfl, rfl, rfl, rfl, HL5.out⟩
    case rest =>
      obtain ⟨rfl, rfl, rfl, rfl, rfl, hK⟩ := hcut
      clear HK mR mO mN nN q2
      have HK := Lib.hid hK; clear hK
      obtain ⟨q, hq0⟩ : ∃ q, q = nc / 64 := ⟨_, rfl⟩
      obtain ⟨y, hy0⟩ : ∃ y, y = nc % 64 := ⟨_, rfl⟩
      have hq : (nc : Int) / 64 = (q : Int) := by omega
      have hy : (nc : Int) % 64 = (y : Int) := by omega
      have hq4 : q < 4 := by omega
      have hq1 : (q : Int) < 4 := by omega
      have hy1 : y < 64 := by omega
      have hy3 : (nc : Int).tmod 64 = (y : Int) := by rw [Int.tmod_eq_emod_of_nonneg (by omega)]; exact hy
      have hq3 : (nc : Int).tdiv 64 = (q : Int) := by rw [Int.tdiv_eq_ediv_of_nonneg (by omega)]; exact hq
      have hq2 : IntKind.u8.wrap (q : Int) = (q : Int) := by rw [IntKind.wrap_u8]; omega
      have hy2 : IntKind.u8.wrap (y : Int) = (y : Int) := by rw [IntKind.wrap_u8]; omega
      have hm : s.mem nc = (s.word q).testBit y := by unfold S4.mem; rw [← hq0, ← hy0]
      have HM := Lib.hid hm
      have HC := Lib.hid hc
      clear hq0 hy0 hm hc
      go_wp2_with fail
      go_loopw [14, 15] (fun k i wr => ∃ n : Nat, i = .int .i64 (n : Int) ∧ k = .int .i64 (s.cnt n : Int) ∧ n ≤ 256 ∧ KeepL w wr [(w.heap.size, s), (w.heap.size + 1, t), (gr, R), (go, O), (gn, N)]) (fun _ i _ => 256 - (intOf i).toNat)
      case atStart => exact ⟨0, rfl, rfl, by omega, HK.out⟩
      case round =>
        obtain ⟨n, rfl, rfl, hn, hk⟩ := hrel
        by_cases hlt : n < 256
        · obtain ⟨k0, k1, k2, k3⟩ := hk.c (g := w.heap.size) (R := s) (by simp)
          have HK2 := Lib.hid hk; clear hk HK
          have hu : (n : Int) % 256 = (n : Int) := by omega
          have hle := s.cnt_le n
          cases hsn : s.mem n
          case true =>
            have HN := Lib.hid hsn
            have hst : s.cnt (n + 1) = s.cnt n + 1 := by simp [S4.cnt, hsn]
            clear hsn
            go_wp2_with fail
            go_at_call 13
            refine (has_any s n _ hlt hs).mono ?_
            rintro e w6 ⟨rfl, hf⟩
            rw [HN.out]
            have HK6 := Lib.hid (HK2.out.fr hf); clear hf k0 k1 k2 k3
            go_wp2_with fail
            go_roundw
            case rel => exact ⟨n + 1, by go_num, by rw [hst]; go_num, by omega, HK6.out⟩
            case measure => simp [intOf]; omega
          case false =>
            have HN := Lib.hid hsn
            have hst : s.cnt (n + 1) = s.cnt n := by simp [S4.cnt, hsn]
            clear hsn
            go_wp2_with fail
            go_at_call 13
            refine (has_any s n _ hlt hs).mono ?_
            rintro e w6 ⟨rfl, hf⟩
            rw [HN.out]
            have HK6 := Lib.hid (HK2.out.fr hf); clear hf k0 k1 k2 k3
            go_wp2_with fail
            go_roundw
            case rel => exact ⟨n + 1, by go_num, by rw [hst], by omega, HK6.out⟩
            case measure => simp [intOf]; omega
        · have hn2 : n = 256 := by omega
          subst hn2
          have HK2 := Lib.hid hk; clear hk HK
          have hcc := s.cnt_all
          rw [hcc]
          have hw1 := wrap_sum (p := s.count) (q := N.count) (N := 256) cN.out (by omega)
          have hw2 : IntKind.i64.wrap ((s.count : Int) + (N.count : Int)) = 256 := hw1
          clear hcc hlt hn hw1
          go_wp2_with fail
          obtain ⟨tb, htb⟩ : ∃ b, b = (s.word q).testBit y := ⟨_, rfl⟩
          rw [← htb] at HM
          have hc := HC.out
          refine wp_region_nice_all (fun a b => Fr [] a b) (fun W => KeepL w W [(w.heap.size, s), (w.heap.size + 1, t), (gr, R), (go, O), (gn, N)]) (by kernel_rfl) (fun w => Fr.refl [] w) (fun a b c h k => h.trans k) (fun a b h k => h.fr k) (by kernel_rfl) (by kernel_rfl) (by kernel_rfl) (fun _ _ d _ _ h => by cases d <;> exact h) HK2.out.drew ?_
          refine nice_val (v := S4.val s) rfl (fun W hS => ?_) ?_
          · obtain ⟨c0, c1, c2, c3⟩ := hS.c (g := w.heap.size) (R := s) (by simp)
            go_simp
            rfl
          simp only [Act.put, List.setIfInBounds_toArray, List.set_cons_zero, List.set_cons_succ]
          refine nice_call rfl (fun W hS => count_any s W hs) (fun W => ?_) ?_
          · go_simp
            first | done | rfl
          simp only [Act.put, List.setIfInBounds_toArray, List.set_cons_zero, List.set_cons_succ]
          refine nice_move _ rfl rfl ?_
          simp only [Act.put, Act.eval, List.setIfInBounds_toArray, List.set_cons_zero, List.set_cons_succ, List.getElem?_toArray, List.getElem?_cons_zero, List.getElem?_cons_succ, Option.getD_some]
          refine nice_val (v := ?_) rfl (fun W hS => ?_) ?_
          rotate_left
          · go_simp
            first | done | rfl
          simp only [Act.put, List.setIfInBounds_toArray, List.set_cons_zero, List.set_cons_succ]
          refine nice_move _ rfl rfl ?_
          simp only [Act.put, Act.eval, List.setIfInBounds_toArray, List.set_cons_zero, List.set_cons_succ, List.getElem?_toArray, List.getElem?_cons_zero, List.getElem?_cons_succ, Option.getD_some]
          refine nice_val (v := S4.val s) rfl (fun W hS => ?_) ?_
          · obtain ⟨c0, c1, c2, c3⟩ := hS.c (g := w.heap.size) (R := s) (by simp)
            go_simp
            rfl
          simp only [Act.put, List.setIfInBounds_toArray, List.set_cons_zero, List.set_cons_succ]
          refine nice_call rfl (fun W hS => count_any s W hs) (fun W => ?_) ?_
          · go_simp
            first | done | rfl
          simp only [Act.put, List.setIfInBounds_toArray, List.set_cons_zero, List.set_cons_succ]
          refine nice_val (v := S4.val N) rfl (fun W hS => ?_) ?_
          · obtain ⟨c0, c1, c2, c3⟩ := hS.c (g := gn) (R := N) (by simp)
            go_simp
            rfl
          simp only [Act.put, List.setIfInBounds_toArray, List.set_cons_zero, List.set_cons_succ]
          refine nice_call rfl (fun W hS => count_any N W okN) (fun W => ?_) ?_
          · go_simp
            first | done | rfl
          simp only [Act.put, List.setIfInBounds_toArray, List.set_cons_zero, List.set_cons_succ]
          refine nice_val (v := .int .i64 256) rfl (fun W hS => ?_) ?_
          · go_simp
            first | done | rfl
          simp only [Act.put, List.setIfInBounds_toArray, List.set_cons_zero, List.set_cons_succ]
          refine nice_val (v := ?_) rfl (fun W hS => ?_) ?_
          rotate_left
          · go_simp
            first | done | rfl
          simp only [Act.put, List.setIfInBounds_toArray, List.set_cons_zero, List.set_cons_succ]
          refine nice_val (v := ?_) rfl (fun W hS => ?_) ?_
          rotate_left
          · go_simp
            first | done | rfl
          simp only [Act.put, List.setIfInBounds_toArray, List.set_cons_zero, List.set_cons_succ]
          refine nice_move _ rfl rfl ?_
          simp only [Act.put, Act.eval, List.setIfInBounds_toArray, List.set_cons_zero, List.set_cons_succ, List.getElem?_toArray, List.getElem?_cons_zero, List.getElem?_cons_succ, Option.getD_some]
          refine nice_val (v := S4.val s) rfl (fun W hS => ?_) ?_
          · obtain ⟨c0, c1, c2, c3⟩ := hS.c (g := w.heap.size) (R := s) (by simp)
            go_simp
            rfl
          simp only [Act.put, List.setIfInBounds_toArray, List.set_cons_zero, List.set_cons_succ]
          refine nice_move _ rfl rfl ?_
          simp only [Act.put, Act.eval, List.setIfInBounds_toArray, List.set_cons_zero, List.set_cons_succ, List.getElem?_toArray, List.getElem?_cons_zero, List.getElem?_cons_succ, Option.getD_some]
          have hh := fun W => has_any s nc W hc hs
          simp only [HM.out] at hh
          refine nice_call rfl (fun W hS => hh W) (fun W => ?_) ?_
          · go_simp
            first | done | rfl
          clear hh
          simp only [Act.put, List.setIfInBounds_toArray, List.set_cons_zero, List.set_cons_succ]
          refine nice_move _ rfl rfl ?_
          simp only [Act.put, Act.eval, List.setIfInBounds_toArray, List.set_cons_zero, List.set_cons_succ, List.getElem?_toArray, List.getElem?_cons_zero, List.getElem?_cons_succ, Option.getD_some]
          refine nice_val (v := .int .u8 (q : Int)) rfl (fun W hS => ?_) ?_
          · go_simp
            first | done | rfl
          simp only [Act.put, List.setIfInBounds_toArray, List.set_cons_zero, List.set_cons_succ]
          refine nice_val (v := .pointer (some ⟨w.heap.size, q, none⟩)) rfl (fun W hS => ?_) ?_
          · go_simp
            first | done | rfl
          simp only [Act.put, List.setIfInBounds_toArray, List.set_cons_zero, List.set_cons_succ]
          refine nice_val (v := .int .u64 (s.word q : Int)) rfl (fun W hS => ?_) ?_
          · have cq := hS.word (g := w.heap.size) (R := s) (by simp) hq4
            go_simp
          simp only [Act.put, List.setIfInBounds_toArray, List.set_cons_zero, List.set_cons_succ]
          refine nice_move _ rfl rfl ?_
          simp only [Act.put, Act.eval, List.setIfInBounds_toArray, List.set_cons_zero, List.set_cons_succ, List.getElem?_toArray, List.getElem?_cons_zero, List.getElem?_cons_succ, Option.getD_some]
          refine nice_val (v := .int .u8 (y : Int)) rfl (fun W hS => ?_) ?_
          · go_simp
            first | done | rfl
          simp only [Act.put, List.setIfInBounds_toArray, List.set_cons_zero, List.set_cons_succ]
          refine nice_val (v := ?_) rfl (fun W hS => ?_) ?_
          rotate_left
          · go_simp
            first | done | rfl
          simp only [Act.put, List.setIfInBounds_toArray, List.set_cons_zero, List.set_cons_succ]
          refine nice_val (v := ?_) rfl (fun W hS => ?_) ?_
          rotate_left
          · go_simp
            first | done | rfl
          simp only [Act.put, List.setIfInBounds_toArray, List.set_cons_zero, List.set_cons_succ]
          refine nice_val (v := .bool tb) rfl (fun W hS => ?_) ?_
          · go_simp
            first | done | exact bit_asked _ _ (S4.word_lt hs q) | (rw [htb]; exact bit_asked _ _ (S4.word_lt hs q)) | rfl
          simp only [Act.put, List.setIfInBounds_toArray, List.set_cons_zero, List.set_cons_succ]
          refine nice_val (v := ?_) rfl (fun W hS => ?_) ?_
          rotate_left
          · go_simp
            first | done | rfl
          simp only [Act.put, List.setIfInBounds_toArray, List.set_cons_zero, List.set_cons_succ]
          refine nice_val (v := ?_) rfl (fun W hS => ?_) ?_
          rotate_left
          · go_simp
            first | done | rfl
          simp only [Act.put, List.setIfInBounds_toArray, List.set_cons_zero, List.set_cons_succ]
          refine nice_val (v := ?_) rfl (fun W hS => ?_) ?_
          rotate_left
          · go_simp
            first | done | rfl
          simp only [Act.put, List.setIfInBounds_toArray, List.set_cons_zero, List.set_cons_succ]
          refine nice_nil ?_
          intro w5 hL5 _
          have HL5 := Lib.hid hL5; clear hL5
          go_wp2_with fail
          go_ret
          exact ⟨rfl, HL5.out.2⟩

theorem charsetSets_open {H : Type} {enc : TypeId × Value → H} (W : World) (base : Nat) (v0 : Value) (d0 : DataW H) (p0 : List MemPlace) (v1 : Value) (d1 : DataW H) (p1 : List MemPlace) (v2 : Value) (d2 : DataW H) (p2 : List MemPlace) (v3 : Value) (d3 : DataW H) (p3 : List MemPlace) (v4 : Value) (d4 : DataW H) (p4 : List MemPlace) (k0 : Value.okWide Try.prog W .any base 25 v0) (k1 : Value.okWide Try.prog W .any base 25 v1) (k2 : Value.okWide Try.prog W .any base 5 v2) (k3 : Value.okWide Try.prog W .any base 5 v3) (k4 : Value.okWide Try.prog W .any base 5 v4) (h0 : DataW.Trod enc Try.prog W 0 (fun _ => true) true 25 v0 d0 p0) (h1 : DataW.Trod enc Try.prog W 0 (fun _ => true) true 25 v1 d1 p1) (h2 : DataW.Trod enc Try.prog W 0 (fun _ => true) true 5 v2 d2 p2) (h3 : DataW.Trod enc Try.prog W 0 (fun _ => true) true 5 v3 d3 p3) (h4 : DataW.Trod enc Try.prog W 0 (fun _ => true) true 5 v4 d4 p4) (hg : GlobOk W) :
    Calls Try.prog 4 #[v0, v1, v2, v3, v4] W fun e W' => e = .returned (.bool true) ∧ Below W.heap.size W W' := by
  obtain ⟨s, rfl, hs⟩ := arg_set k0 h0
  obtain ⟨t, rfl, ht⟩ := arg_set k1 h1
  obtain ⟨n2, rfl, hn2⟩ := arg_int Try.underlying5 k2 h2
  obtain ⟨f, rfl⟩ := u8_of n2 hn2
  obtain ⟨n3, rfl, hn3⟩ := arg_int Try.underlying5 k3 h3
  obtain ⟨h, rfl⟩ := u8_of n3 hn3
  obtain ⟨n4, rfl, hn4⟩ := arg_int Try.underlying5 k4 h4
  obtain ⟨c, rfl⟩ := u8_of n4 hn4
  exact (sets_walk hg s t hs ht f h c).mono fun e W' ⟨h1, h2⟩ => ⟨h1, h2.below_nil⟩
end Go.Proofs.Ytobmdpfljdnlaaa
