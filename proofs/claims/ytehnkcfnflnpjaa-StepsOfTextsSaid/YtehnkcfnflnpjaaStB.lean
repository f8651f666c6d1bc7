/-
  What the document tells of steps (awake); no more. No conditions.
-/
import Derived.Test.YtehnkcfnflnpjaaStW
import Derived.Test.YtehnkcfnflnpjaaSet
import Derived.Test.YtehnkcfnflnpjaaGj
import Derived.Test.YtehnkcfnflnpjaaRead
namespace Go.Proofs.Ytehnkcfnflnpjaa
open Go.RowKit Go.ChangeMaps Go.ChangeShapes Go.WideShapes Go.ChangeAt Go.Deep
set_option linter.unusedVariables false
set_option linter.unusedSimpArgs false

theorem set00 (w : World) : (Op.equalIn 9999 26 (.agg #[.int .u64 0, .int .u64 0, .int .u64 0, .int .u64 0]) (.agg #[.int .u64 0, .int .u64 0, .int .u64 0, .int .u64 0])).run Try.prog w = .ok true w := by
  obtain ⟨i, hi, hz⟩ : ∃ i, Try.prog.info? 24 = some i ∧ i.size = 1 := by
    have h := u64_one
    cases e : Try.prog.info? 24 with
    | none => rw [e] at h; cases h
    | some i => rw [e] at h; exact ⟨i, rfl, by simpa using h⟩
  obtain ⟨q0, q1, q2, q3⟩ := set_part w 0 0 0 0
  have e := run_equalIn_u64 w 9997
  show (Op.equalIn (9997 + 1 + 1) _ _ _).run Try.prog w = _
  unfold Op.equalIn
  simp [run_underlying Try.underlying26, sizeOf, typeInfo, hi, hz, List.range'_succ, q0, q1, q2, q3, e]
theorem calls_gen_ {P : Program} {f : FuncId} {args : Array Value} {R : Ending → World → Prop} {w : World} (h : ∀ W, W = w → Calls P f args W R) : Calls P f args w R := h w rfl
theorem leaf_ok (t : PT) (h : t.l = []) (hk : t.k ≠ 3) : LayOk t := lay_part_of t (by rw [h]; intro x hx; cases hx) (fun e => absurd e hk)
theorem rep_ok (t t1 : PT) (h : t.l = [t1]) (hk : t.k ≠ 3) (h1 : LayOk t1) : LayOk t := lay_part_of t (by rw [h]; intro x hx; simp at hx; subst hx; exact h1) (fun e => absurd e hk)
set_option maxRecDepth 100000 in
set_option maxHeartbeats 8000000 in
theorem awake_any (w : World) : Calls Try.prog 4 #[] w fun e w' => e = .returned (.bool true) ∧ Fr [] w w' := by
  go_enter Try.func4, Try.ntmps4
  go_wp2_with fail
  go_at_call 11
  refine (range_any 97 97 w (by omega) (by omega)).mono ?_
  rintro e w1 ⟨rfl, hf1⟩
  obtain ⟨R, hR⟩ : ∃ R, R = S4.range 97 97 := ⟨_, rfl⟩
  rw [← hR]
  obtain ⟨a, b, c, d⟩ := R
  unfold S4.val
  dsimp only
  have HF1 := Lib.hid hf1
  clear hf1 hR
  go_wp2_with fail
  go_at_call 6
  refine calls_gen_ fun W hW => ?_
  obtain ⟨B, hB⟩ : ∃ B, B = w1.heap.size + 1 := ⟨_, rfl⟩
  obtain ⟨t1, ht1⟩ : ∃ t1, t1 = PT.mk 1 a b c d 0 0 none 0 [] := ⟨_, rfl⟩
  have hbk : Bk W B 29 #[.int .i64 1, .int .u64 a, .int .u64 b, .int .u64 c, .int .u64 d, .int .i64 0, .int .i64 0, .slice none 0 0] := by
    rw [hW, hB]
    have h := Bk.new (w1.alloc (.cells #[.int .i64 1, .int .u64 a, .int .u64 b, .int .u64 c, .int .u64 d, .int .i64 0, .int .i64 0, .slice none 0 0] 29)) 29 #[.int .i64 1, .int .u64 a, .int .u64 b, .int .u64 c, .int .u64 d, .int .i64 0, .int .i64 0, .slice none 0 0]
    rwa [World.size_alloc] at h
  have hfW : Fr [] w W := by rw [hW]; exact (HF1.out.alloc _).alloc _
  have hc1 : CellsAt W B 0 t1.cells := ⟨_, hbk, fun j u hu => by rw [ht1] at hu; rw [Nat.zero_add]; simpa [PT.cells, PT.k, PT.s0, PT.s1, PT.s2, PT.s3, PT.mn, PT.mx, PT.A, PT.c, PT.l] using hu⟩
  obtain ⟨t, ht⟩ : ∃ t, t = PT.mk 4 0 0 0 0 0 (-1) (some ⟨B, 0, none⟩) 1 [t1] := ⟨_, rfl⟩
  have hp1 : PMem W t1 := by rw [ht1, PMem]; rw [LMem]; trivial
  have hp : PMem W t := by
    rw [ht, PMem, LMem]
    exact ⟨⟨B, 0, rfl, by simpa using hc1⟩, hp1, by rw [LMem]; trivial⟩
  have hlay : LayOk t := rep_ok t t1 (by rw [ht]; rfl) (by rw [ht]; show (4 : Int) ≠ 3; decide) (leaf_ok t1 (by rw [ht1]; rfl) (by rw [ht1]; show (1 : Int) ≠ 3; decide))
  have hcnt : cntP t ≤ 1199 := by rw [ht, ht1]; simp [cntP, cntL]
  have hcomp := compile_any hlay hp hcnt
  have hval : t.val = .agg #[.int .i64 4, .int .u64 0, .int .u64 0, .int .u64 0, .int .u64 0, .int .i64 0, .int .i64 (-1), .slice (some ⟨w1.heap.size + 1, 0, none⟩) 1 1] := by rw [ht, ← hB]; rfl
  rw [hval] at hcomp
  refine hcomp.mono ?_
  have hr : rightP t = true := by rw [ht, ht1]; rfl
  have hs : sizP t = 3 := by rw [ht, ht1]; rfl
  have hlp : layP t 0 ++ [Sp.found] = [⟨1, 0, 0, 0, 0, 1, 3⟩, ⟨0, a, b, c, d, 2, 0⟩, ⟨1, 0, 0, 0, 0, 0, 0⟩, ⟨4, 0, 0, 0, 0, 0, 0⟩] := by rw [ht, ht1]; rfl
  rintro e w2 ⟨hf2, h⟩
  rcases h with ⟨h, -⟩ | ⟨-, h, -⟩ | ⟨-, -, v, rfl, A, cap, rfl, hown⟩
  · rw [hr] at h; cases h
  · rw [hs] at h; omega
  rw [hlp] at hown
  have hst := StAt.of_own hown
  have hvalid : validF (okP (4 : Nat)) false [⟨1, 0, 0, 0, 0, 1, 3⟩, ⟨0, a, b, c, d, 2, 0⟩, ⟨1, 0, 0, 0, 0, 0, 0⟩, ⟨4, 0, 0, 0, 0, 0, 0⟩] = true := by simp [validF, okP, Sp.none_]
  obtain ⟨b2, rfl, hb2, -, hcl⟩ := own_cells hown (by simp [Sp.cells])
  have HF2 := Lib.hid (hfW.trans hf2); have HST := Lib.hid hst; have HV := Lib.hid hvalid
  have c0 : w2.cell? ⟨b2, 0, none⟩ = some (.int .i64 1) := hcl 0 _ rfl
  have c1 : w2.cell? ⟨b2, 1, none⟩ = some (.int .u64 0) := hcl 1 _ rfl
  have c2 : w2.cell? ⟨b2, 2, none⟩ = some (.int .u64 0) := hcl 2 _ rfl
  have c3 : w2.cell? ⟨b2, 3, none⟩ = some (.int .u64 0) := hcl 3 _ rfl
  have c4 : w2.cell? ⟨b2, 4, none⟩ = some (.int .u64 0) := hcl 4 _ rfl
  have c5 : w2.cell? ⟨b2, 5, none⟩ = some (.int .i64 1) := hcl 5 _ rfl
  have c6 : w2.cell? ⟨b2, 6, none⟩ = some (.int .i64 3) := hcl 6 _ rfl
  have c12 : w2.cell? ⟨b2, 12, none⟩ = some (.int .i64 2) := hcl 12 _ rfl
  have c19 : w2.cell? ⟨b2, 19, none⟩ = some (.int .i64 0) := hcl 19 _ rfl
  have c21 : w2.cell? ⟨b2, 21, none⟩ = some (.int .i64 4) := hcl 21 _ rfl
  have hlen : (layP t 0 ++ [Sp.found]).length = 4 := by rw [hlp]; rfl
  rw [hlen]
  clear hW hB ht1 hbk hfW hc1 ht hp1 hp hlay hcnt hcomp hval hr hs hlp hf2 hown hst hvalid hcl hlen
  have heq := set00
  go_wp2_with fail
  go_at_call 10
  refine (valid_any HST.out (by simp [maxLen])).mono ?_
  rintro e w3 ⟨rfl, hf3⟩
  have hv := HV.out
  have HF3 := Lib.hid hf3
  clear hf3 heq
  have hv2 : validF (okP (([⟨1, 0, 0, 0, 0, 1, 3⟩, ⟨0, a, b, c, d, 2, 0⟩, ⟨1, 0, 0, 0, 0, 0, 0⟩, ⟨4, 0, 0, 0, 0, 0, 0⟩] : List Sp).length : Int)) false [⟨1, 0, 0, 0, 0, 1, 3⟩, ⟨0, a, b, c, d, 2, 0⟩, ⟨1, 0, 0, 0, 0, 0, 0⟩, ⟨4, 0, 0, 0, 0, 0, 0⟩] = true := hv
  rw [hv2]
  clear hv hv2
  go_wp2_with fail
  go_ret
  exact ⟨rfl, HF2.out.trans HF3.out⟩
end Go.Proofs.Ytehnkcfnflnpjaa
