/-
  awake of the laws of expressions. No conditions.
-/
import Derived.Test.YtmecogilhoebgaaEr9
import Derived.Test.YtmecogilhoebgaaErD
import Derived.Deep.Cut
namespace Go.Proofs.Ytmecogilhoebgaa
open Go.RowKit
set_option linter.unusedVariables false
set_option linter.unusedSimpArgs false

theorem parse_at {w : World} {A : Option Addr} {bs : List UInt8} {c : Nat} (n : Nat) (hn : bs.length = n) (r : Except (Nat × Nat) RT) (hr : parseS bs = r) (h : Bytes w A bs) (hc : n ≤ c) (hA : A = none → c = 0) (hcm : c ≤ maxLen) (hg : GlobOk w) :
    Calls Try.prog 6 #[.slice A n c] w (ParsePost w r) := by
  subst hn hr
  exact parse_any h hc hA hcm hg
theorem bytes_new (w : World) (bs : List UInt8) : Bytes (w.alloc (.cells (byteVals bs).toArray 5)) (some ⟨w.heap.size, 0, none⟩) bs :=
  At.of_bk (n := bs.length) (Bk.new w 5 (byteVals bs).toArray) (by rw [List.take_of_length_le (by simp [byteVals])])
theorem RepP.leaf {k : Int} {s : S4} {p : PT} (h : RepP (.mk k s 0 0 []) p) : p.k = k ∧ p.s0 = (s.a : Int) ∧ p.s1 = (s.b : Int) ∧ p.s2 = (s.c : Int) ∧ p.s3 = (s.d : Int) ∧ p.l = [] := by
  rw [RepP_eq] at h
  obtain ⟨h1, h2, h3, h4, h5, h6, h7, h8⟩ := h
  refine ⟨h1, h2, h3, h4, h5, ?_⟩
  have h8' : RepL [] p.l := h8
  rw [RepL_nil] at h8'; exact h8'
theorem NewP.val {lo : Nat} {w : World} {t : RT} {p : PT} (h : NewP lo w t p) : p.val = .agg #[.int .i64 t.k, .int .u64 t.s.a, .int .u64 t.s.b, .int .u64 t.s.c, .int .u64 t.s.d, .int .i64 t.mn, .int .i64 t.mx, .slice p.A t.l.length p.c] := by
  have hr := h.rep
  rw [RepP_eq] at hr
  obtain ⟨h1, h2, h3, h4, h5, h6, h7, h8⟩ := hr
  rw [PT.val, h1, h2, h3, h4, h5, h6, h7, h8.len]
theorem NewP.child {lo : Nat} {w : World} {t : RT} {p : PT} (h : NewP lo w t p) {i : Nat} {u : RT} (hu : t.l[i]? = some u) :
    ∃ b off q, p.A = some ⟨b, off, none⟩ ∧ RepP u q ∧ CellsAt w b (off + i * 8) q.cells ∧ PMem w q ∧ p.l[i]? = some q := by
  have hr := h.rep
  rw [RepP_eq] at hr
  have hl : RepL t.l p.l := hr.2.2.2.2.2.2.2
  have hlt : i < t.l.length := by
    rcases Nat.lt_or_ge i t.l.length with h1 | h1
    · exact h1
    · rw [List.getElem?_eq_none h1] at hu; cases hu
  have hq : p.l[i]? = some (p.l[i]'(by rw [← hl.len]; exact hlt)) := List.getElem?_eq_getElem _
  have hm := h.mem
  rw [PMem_eq] at hm
  obtain ⟨⟨b, off, hA, hc⟩, hpm⟩ := hm.get hq
  refine ⟨b, off, _, hA, hl.get hu hq, ?_, hpm, hq⟩
  rw [Nat.zero_add] at hc; exact hc
set_option maxRecDepth 100000 in
set_option maxHeartbeats 8000000 in
theorem awake_any {w : World} (hg : GlobOk w) : Calls Try.prog 5 #[] w fun e w' => e = .returned (.bool true) ∧ Fr [] w w' := by
  have HG := Lib.hid hg
  clear hg
  have HG1 : Hid (Fr [] w w) := Lib.hid (Fr.refl [] w)
  have HG1 : Hid (Fr [] w w) := Lib.hid (Fr.refl [] w)
  go_enter Try.func5, Try.ntmps5
  go_upto_region 2 with (first
    | (refine wpList_same rfl 22 (.tmp 8) rfl 5 Try.underlying22 Try.underlying5 ⟨w.heap.size, 0, none⟩ 4 4 (by first | rfl | (simp [Act.eval]; done)) (byteVals [97, 124, 98, 42]) (bytes_new w [97, 124, 98, 42]) ?_; intro v1 hS hF; have HS1 := Lib.hid hS; have HV1 : Hid (Fr [] w v1) := Lib.hid (((Fr.refl [] w).alloc (.cells (byteVals [97, 124, 98, 42]).toArray 5)).trans' hF (by simp)); clear hS hF)
    | (go_at_call 6; refine (parse_at 4 rfl _ ex_or HS1.out (Nat.le_refl _) (by intro h; cases h) (by decide) (HG.out.fr (HG1.out.trans HV1.out))).mono ?_; rintro e w1 ⟨p1, rfl, hn, hf⟩; rw [hn.val]; have HN1 := Lib.hid hn; have HX1 := Lib.hid (HV1.out.trans hf); clear hn hf; obtain ⟨b, off, q, hA, hq, hcl, -, -⟩ := HN1.out.child (i := 1) (u := tTimes 0 (-1) (tSet (S4.range 98 98))) rfl; rw [hA]; have HQ := Lib.hid hq; have HCL := Lib.hid hcl; clear hq hcl hA; obtain ⟨c1, hc1⟩ : ∃ c1, c1 = p1.c := ⟨_, rfl⟩; rw [← hc1]; clear hc1; simp only [RT.k, RT.s, RT.mn, RT.mx, RT.l, S4.empty, tTimes, List.length_cons, List.length_nil, Nat.reduceAdd, Int.natCast_zero]))
  refine code_gen1 fun W1 hW1 => ?_
  have hfa1 : Fr [] w W1 := by rw [hW1]; exact HX1.out.alloc _
  have hbk1 : Bk W1 w1.heap.size 29 #[.int .i64 3, .int .u64 0, .int .u64 0, .int .u64 0, .int .u64 0, .int .i64 0, .int .i64 0, .slice (some ⟨b, off, none⟩) 2 c1] := by rw [hW1]; exact Bk.new w1 _ _
  obtain ⟨s1, hs1⟩ : ∃ s, s = w1.heap.size := ⟨_, rfl⟩
  rw [← hs1] at hbk1 ⊢
  have HG2 : Hid (Fr [] w W1) := Lib.hid (HG1.out.trans hfa1)
  have HB1 := Lib.hid hbk1; have HFA1 := Lib.hid hfa1
  have HCL1 : Hid (CellsAt W1 b (off + 1 * 8) q.cells) := Lib.hid (HCL.out.fr (by rw [hW1]; exact (Fr.refl [] w1).alloc _) (by simp))
  clear hW1 hs1 hbk1 hfa1 HX1 HV1 HN1 HCL
  go_upto_region 3 with (first
    | (refine wpList_same rfl 22 (.tmp 14) rfl 5 Try.underlying22 Try.underlying5 ⟨W1.heap.size, 0, none⟩ 5 5 (by first | rfl | (simp [Act.eval]; done)) (byteVals [97, 123, 50, 44, 125]) (bytes_new W1 [97, 123, 50, 44, 125]) ?_; intro v2 hS hF; have HS2 := Lib.hid hS; have HV2 : Hid (Fr [] W1 v2) := Lib.hid (((Fr.refl [] W1).alloc (.cells (byteVals [97, 123, 50, 44, 125]).toArray 5)).trans' hF (by simp)); clear hS hF)
    | (go_at_call 6; refine (parse_at 5 rfl _ ex_times HS2.out (Nat.le_refl _) (by intro h; cases h) (by decide) (HG.out.fr (HG2.out.trans HV2.out))).mono ?_; rintro e w2 ⟨p2, rfl, hn, hf⟩; rw [hn.val]; have HN2 := Lib.hid hn; have HX2 := Lib.hid (HV2.out.trans hf); clear hn hf; obtain ⟨c2, hc2⟩ : ∃ c2, c2 = p2.c := ⟨_, rfl⟩; rw [← hc2]; clear hc2; obtain ⟨A2, hA2⟩ : ∃ A2, A2 = p2.A := ⟨_, rfl⟩; rw [← hA2]; clear hA2; simp only [RT.k, RT.s, RT.mn, RT.mx, RT.l, S4.empty, tTimes, List.length_cons, List.length_nil, Nat.reduceAdd, Int.natCast_zero]))
  refine code_gen1 fun W2 hW2 => ?_
  have hfa2 : Fr [] W1 W2 := by rw [hW2]; exact HX2.out.alloc _
  have hbk2 : Bk W2 w2.heap.size 29 #[.int .i64 4, .int .u64 0, .int .u64 0, .int .u64 0, .int .u64 0, .int .i64 2, .int .i64 (-1), .slice A2 1 c2] := by rw [hW2]; exact Bk.new w2 _ _
  obtain ⟨s2, hs2⟩ : ∃ s, s = w2.heap.size := ⟨_, rfl⟩
  rw [← hs2] at hbk2 ⊢
  have HG3 : Hid (Fr [] w W2) := Lib.hid (HG2.out.trans hfa2)
  have HB2 := Lib.hid hbk2; have HFA2 := Lib.hid hfa2
  clear hW2 hs2 hbk2 hfa2 HX2 HV2 HN2
  go_upto_region 4 with (first
    | (refine wpList_same rfl 22 (.tmp 20) rfl 5 Try.underlying22 Try.underlying5 ⟨W2.heap.size, 0, none⟩ 3 3 (by first | rfl | (simp [Act.eval]; done)) (byteVals [97, 123, 120]) (bytes_new W2 [97, 123, 120]) ?_; intro v3 hS hF; have HS3 := Lib.hid hS; have HV3 : Hid (Fr [] W2 v3) := Lib.hid (((Fr.refl [] W2).alloc (.cells (byteVals [97, 123, 120]).toArray 5)).trans' hF (by simp)); clear hS hF)
    | (go_at_call 6; refine (parse_at 3 rfl _ ex_plain HS3.out (Nat.le_refl _) (by intro h; cases h) (by decide) (HG.out.fr (HG3.out.trans HV3.out))).mono ?_; rintro e w3 ⟨p3, rfl, hn, hf⟩; rw [hn.val]; have HN3 := Lib.hid hn; have HX3 := Lib.hid (HV3.out.trans hf); clear hn hf; obtain ⟨c3, hc3⟩ : ∃ c3, c3 = p3.c := ⟨_, rfl⟩; rw [← hc3]; clear hc3; obtain ⟨A3, hA3⟩ : ∃ A3, A3 = p3.A := ⟨_, rfl⟩; rw [← hA3]; clear hA3; simp only [RT.k, RT.s, RT.mn, RT.mx, RT.l, S4.empty, tTimes, List.length_cons, List.length_nil, Nat.reduceAdd, Int.natCast_zero]))
  refine code_gen1 fun W3 hW3 => ?_
  have hfa3 : Fr [] W2 W3 := by rw [hW3]; exact HX3.out.alloc _
  have hbk3 : Bk W3 w3.heap.size 29 #[.int .i64 2, .int .u64 0, .int .u64 0, .int .u64 0, .int .u64 0, .int .i64 0, .int .i64 0, .slice A3 3 c3] := by rw [hW3]; exact Bk.new w3 _ _
  obtain ⟨s3, hs3⟩ : ∃ s, s = w3.heap.size := ⟨_, rfl⟩
  rw [← hs3] at hbk3 ⊢
  have HG4 : Hid (Fr [] w W3) := Lib.hid (HG3.out.trans hfa3)
  have HB3 := Lib.hid hbk3; have HFA3 := Lib.hid hfa3
  clear hW3 hs3 hbk3 hfa3 HX3 HV3 HN3
  have hb1 := (HB1.out.fr HFA2.out (by simp)).fr HFA3.out (by simp)
  have hb2 := HB2.out.fr HFA3.out (by simp)
  have hcl := (HCL1.out.fr HFA2.out (by simp)).fr HFA3.out (by simp)
  have a0 := hb1.cell_ (i := 0) rfl
  have a7 := hb1.cell_ (i := 7) rfl
  have b5 := hb2.cell_ (i := 5) rfl
  have b6 := hb2.cell_ (i := 6) rfl
  have d7 := HB3.out.cell_ (i := 7) rfl
  have q0 : W3.cell? ⟨b, off + 1 * 8 + 0, none⟩ = some (.int .i64 4) := by
    have h := hcl.cell (j := 0) rfl
    have hk := HQ.out
    rw [tTimes, RepP_eq] at hk
    rw [hk.1] at h; exact h
  simp only [Nat.one_mul, Nat.add_zero] at q0
  clear hb1 hb2 hcl
  go_wp2_with fail
  go_ret
  exact ⟨rfl, HG4.out⟩
end Go.Proofs.Ytmecogilhoebgaa
