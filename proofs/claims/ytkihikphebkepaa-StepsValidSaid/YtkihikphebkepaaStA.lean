/-
  What the document tells of steps (awake); StepsValid. No conditions.
-/
import Derived.Test.YtkihikphebkepaaStR
import Derived.Test.YtkihikphebkepaaRead
namespace Go.Proofs.Ytkihikphebkepaa
open Go.RowKit Go.ChangeMaps Go.ChangeShapes Go.WideShapes Go.ChangeAt Go.Deep
set_option linter.unusedVariables false
set_option linter.unusedSimpArgs false

theorem set00 (w : World) : (Op.equalIn 9999 27 (.agg #[.int .u64 0, .int .u64 0, .int .u64 0, .int .u64 0]) (.agg #[.int .u64 0, .int .u64 0, .int .u64 0, .int .u64 0])).run Try.prog w = .ok true w := by
  obtain ⟨i, hi, hz⟩ : ∃ i, Try.prog.info? 25 = some i ∧ i.size = 1 := by
    have h := u64_one
    cases e : Try.prog.info? 25 with
    | none => rw [e] at h; cases h
    | some i => rw [e] at h; exact ⟨i, rfl, by simpa using h⟩
  obtain ⟨q0, q1, q2, q3⟩ := set_part w 0 0 0 0
  have e := run_equalIn_u64 w 9997
  show (Op.equalIn (9997 + 1 + 1) _ _ _).run Try.prog w = _
  unfold Op.equalIn
  simp [run_underlying Try.underlying27, sizeOf, typeInfo, hi, hz, List.range'_succ, q0, q1, q2, q3, e]
theorem calls_gen_ {P : Program} {f : FuncId} {args : Array Value} {R : Ending → World → Prop} {w : World} (h : ∀ W, W = w → Calls P f args W R) : Calls P f args w R := h w rfl
theorem leaf_ok (t : PT) (h : t.l = []) (hk : t.k ≠ 3) : LayOk t := lay_part_of t (by rw [h]; intro x hx; cases hx) (fun e => absurd e hk)
theorem rep_ok (t t1 : PT) (h : t.l = [t1]) (hk : t.k ≠ 3) (h1 : LayOk t1) : LayOk t := lay_part_of t (by rw [h]; intro x hx; simp at hx; subst hx; exact h1) (fun e => absurd e hk)
set_option maxRecDepth 100000 in
set_option maxHeartbeats 8000000 in
theorem awake_any (w : World) : Calls Try.prog 6 #[] w fun e w' => e = .returned (.bool true) ∧ Fr [] w w' := by
  go_enter Try.func6, Try.ntmps6
  go_wp2_with fail
  go_at_call 16
  refine (range_any 97 97 w (by omega) (by omega)).mono ?_
  rintro e w1 ⟨rfl, hf1⟩
  obtain ⟨R, hR⟩ : ∃ R, R = S4.range 97 97 := ⟨_, rfl⟩
  rw [← hR]
  obtain ⟨a, b, c, d⟩ := R
  unfold S4.val
  dsimp only
  have HF1 := Lib.hid hf1
  clear hf1 hR
  go_wp2_with fail
  go_at_call 10
  refine calls_gen_ fun W hW => ?_
  obtain ⟨B, hB⟩ : ∃ B, B = w1.heap.size + 1 := ⟨_, rfl⟩
  obtain ⟨t1, ht1⟩ : ∃ t1, t1 = PT.mk 1 a b c d 0 0 none 0 [] := ⟨_, rfl⟩
  have hbk : Bk W B 30 #[.int .i64 1, .int .u64 a, .int .u64 b, .int .u64 c, .int .u64 d, .int .i64 0, .int .i64 0, .slice none 0 0] := by
    rw [hW, hB]
    have h := Bk.new (w1.alloc (.cells #[.int .i64 1, .int .u64 a, .int .u64 b, .int .u64 c, .int .u64 d, .int .i64 0, .int .i64 0, .slice none 0 0] 30)) 30 #[.int .i64 1, .int .u64 a, .int .u64 b, .int .u64 c, .int .u64 d, .int .i64 0, .int .i64 0, .slice none 0 0]
    rwa [World.size_alloc] at h
  have hfW : Fr [] w W := by rw [hW]; exact (HF1.out.alloc _).alloc _
  have hc1 : CellsAt W B 0 t1.cells := ⟨_, hbk, fun j u hu => by rw [ht1] at hu; rw [Nat.zero_add]; simpa [PT.cells, PT.k, PT.s0, PT.s1, PT.s2, PT.s3, PT.mn, PT.mx, PT.A, PT.c, PT.l] using hu⟩
  obtain ⟨t, ht⟩ : ∃ t, t = PT.mk 4 0 0 0 0 0 (-1) (some ⟨B, 0, none⟩) 1 [t1] := ⟨_, rfl⟩
  have hp1 : PMem W t1 := by rw [ht1, PMem]; rw [LMem]; trivial
  have hp : PMem W t := by
    rw [ht, PMem, LMem]
    exact ⟨⟨B, 0, rfl, by simpa using hc1⟩, hp1, by rw [LMem]; trivial⟩
  have hlay : LayOk t := rep_ok t t1 (by rw [ht]; rfl) (by rw [ht]; show (4 : Int) ≠ 3; decide) (leaf_ok t1 (by rw [ht1]; rfl) (by rw [ht1]; show (1 : Int) ≠ 3; decide))
  have hcnt : cntP t ≤ 1199 := by rw [ht, ht1]; simp [cntP, cntL]
  have hcomp := compile_any hlay hp hcnt
  have hval : t.val = .agg #[.int .i64 4, .int .u64 0, .int .u64 0, .int .u64 0, .int .u64 0, .int .i64 0, .int .i64 (-1), .slice (some ⟨w1.heap.size + 1, 0, none⟩) 1 1] := by rw [ht, ← hB]; rfl
  rw [hval] at hcomp
  refine hcomp.mono ?_
  have hr : rightP t = true := by rw [ht, ht1]; rfl
  have hs : sizP t = 3 := by rw [ht, ht1]; rfl
  have hlp : layP t 0 ++ [Sp.found] = [⟨1, 0, 0, 0, 0, 1, 3⟩, ⟨0, a, b, c, d, 2, 0⟩, ⟨1, 0, 0, 0, 0, 0, 0⟩, ⟨4, 0, 0, 0, 0, 0, 0⟩] := by rw [ht, ht1]; rfl
  rintro e w2 ⟨hf2, h⟩
  rcases h with ⟨h, -⟩ | ⟨-, h, -⟩ | ⟨-, -, v, rfl, A, cap, rfl, hown⟩
  · rw [hr] at h; cases h
  · rw [hs] at h; omega
  rw [hlp] at hown
  have hst := StAt.of_own hown
  have hvalid : validF (okP (4 : Nat)) false [⟨1, 0, 0, 0, 0, 1, 3⟩, ⟨0, a, b, c, d, 2, 0⟩, ⟨1, 0, 0, 0, 0, 0, 0⟩, ⟨4, 0, 0, 0, 0, 0, 0⟩] = true := by simp [validF, okP, Sp.none_]
  obtain ⟨b2, rfl, hb2, -, hcl⟩ := own_cells hown (by simp [Sp.cells])
  have HF2 := Lib.hid (hfW.trans hf2); have HST := Lib.hid hst; have HV := Lib.hid hvalid
  have c0 : w2.cell? ⟨b2, 0, none⟩ = some (.int .i64 1) := hcl 0 _ rfl
  have c1 : w2.cell? ⟨b2, 1, none⟩ = some (.int .u64 0) := hcl 1 _ rfl
  have c2 : w2.cell? ⟨b2, 2, none⟩ = some (.int .u64 0) := hcl 2 _ rfl
  have c3 : w2.cell? ⟨b2, 3, none⟩ = some (.int .u64 0) := hcl 3 _ rfl
  have c4 : w2.cell? ⟨b2, 4, none⟩ = some (.int .u64 0) := hcl 4 _ rfl
  have c5 : w2.cell? ⟨b2, 5, none⟩ = some (.int .i64 1) := hcl 5 _ rfl
  have c6 : w2.cell? ⟨b2, 6, none⟩ = some (.int .i64 3) := hcl 6 _ rfl
  have c12 : w2.cell? ⟨b2, 12, none⟩ = some (.int .i64 2) := hcl 12 _ rfl
  have c19 : w2.cell? ⟨b2, 19, none⟩ = some (.int .i64 0) := hcl 19 _ rfl
  have c21 : w2.cell? ⟨b2, 21, none⟩ = some (.int .i64 4) := hcl 21 _ rfl
  have hlen : (layP t 0 ++ [Sp.found]).length = 4 := by rw [hlp]; rfl
  rw [hlen]
  clear hW hB ht1 hbk hfW hc1 ht hp1 hp hlay hcnt hcomp hval hr hs hlp hf2 hown hst hvalid hcl hlen
  have heq := set00
  go_wp2_with fail
  go_at_call 7
  refine (valid_any HST.out (by simp [maxLen])).mono ?_
  rintro e w3 ⟨rfl, hf3⟩
  have hv := HV.out
  have HF3 := Lib.hid hf3
  clear hf3 heq
  have hv2 : validF (okP (([⟨1, 0, 0, 0, 0, 1, 3⟩, ⟨0, a, b, c, d, 2, 0⟩, ⟨1, 0, 0, 0, 0, 0, 0⟩, ⟨4, 0, 0, 0, 0, 0, 0⟩] : List Sp).length : Int)) false [⟨1, 0, 0, 0, 0, 1, 3⟩, ⟨0, a, b, c, d, 2, 0⟩, ⟨1, 0, 0, 0, 0, 0, 0⟩, ⟨4, 0, 0, 0, 0, 0, 0⟩] = true := hv
  rw [hv2]
  clear hv hv2
  go_wp2_with fail
  go_ret
  exact ⟨rfl, HF2.out.trans HF3.out⟩
/-- How a step is read. -/
theorem step_cells_ : Try.prog.cellsOf 48 = 7 := by kernel_rfl
theorem set_cells_ : Try.prog.cellsOf 27 = 4 := by kernel_rfl
theorem int_cells_ : Try.prog.cellsOf 3 = 1 := by kernel_rfl
theorem u64_cells_ : Try.prog.cellsOf 25 = 1 := by kernel_rfl
set_option maxRecDepth 100000 in
theorem rd_set {H : Type} {enc : TypeId × Value → H} {w : World} {base : Nat} {spare : Nat → Bool} {held : Bool} {cs : List Value}
    (h : Rd enc Try.prog w base spare held 27 cs) : ∃ a b c d : Int, cs = [.int .u64 a, .int .u64 b, .int .u64 c, .int .u64 d] := by
  obtain ⟨fuel, x, hx⟩ := h
  obtain ⟨xs, n, _, _, hl, hxs, hf⟩ := DataW.trod_array Try.underlying27 hx
  rw [set_cells_] at hl
  match cs, hl with
  | [a, b, c, e], _ =>
    have hr : ∀ i, i < 4 → Rd enc Try.prog w base spare held 25 (([a, b, c, e].drop i).take 1) := fun i hi => by
      have := hf i hi
      rw [u64_cells_, Nat.mul_one] at this
      exact ⟨n, xs[i], this.trans (List.getElem?_eq_getElem (by omega))⟩
    obtain ⟨n0, e0, w0⟩ := (hr 0 (by omega)).int_ Try.underlying25
    obtain ⟨n1, e1, w1⟩ := (hr 1 (by omega)).int_ Try.underlying25
    obtain ⟨n2, e2, w2⟩ := (hr 2 (by omega)).int_ Try.underlying25
    obtain ⟨n3, e3, w3⟩ := (hr 3 (by omega)).int_ Try.underlying25
    simp at e0 e1 e2 e3
    subst e0 e1 e2 e3
    exact ⟨n0, n1, n2, n3, rfl⟩
set_option maxRecDepth 100000 in
theorem rd_step {H : Type} {enc : TypeId × Value → H} {w : World} {base : Nat} {spare : Nat → Bool} {held : Bool} {cs : List Value}
    (h : Rd enc Try.prog w base spare held 48 cs) : ∃ s : Sp, cs = s.cells := by
  obtain ⟨hl, hf⟩ := h.struct_ Try.underlying48
  rw [step_cells_] at hl
  match cs, hl with
  | [e0, e1, e2, e3, e4, e5, e6], _ =>
    obtain ⟨k, hk, -⟩ := (hf 0 _ rfl).int_ Try.underlying3
    obtain ⟨a, b, c, d, hs⟩ := rd_set (hf 1 _ rfl)
    obtain ⟨x, hx, -⟩ := (hf 2 _ rfl).int_ Try.underlying3
    obtain ⟨y, hy, -⟩ := (hf 3 _ rfl).int_ Try.underlying3
    simp [int_cells_, set_cells_] at hk hs hx hy
    obtain ⟨h1, h2, h3, h4⟩ := hs
    subst hk h1 h2 h3 h4 hx hy
    exact ⟨⟨k, a, b, c, d, x, y⟩, rfl⟩
set_option maxRecDepth 100000 in
theorem steps_open {H : Type} {enc : TypeId × Value → H} {w : World} {base base' : Nat} {spare : Nat → Bool} {held : Bool} {r : Reach} {v : Value} {d : DataW H} {p : List MemPlace}
    (hv : Value.okWide Try.prog w r base' 22 v) (h : DataW.Trod enc Try.prog w base spare held 22 v d p) :
    ∃ (A : Option Addr) (c : Nat) (L : List Sp), v = .slice A L.length c ∧ L.length ≤ maxLen ∧ StAt w A L := by
  obtain ⟨A, n, c, rfl, h1, h2, h3, hi⟩ := arg_slice Try.underlying22 (by rw [step_cells_]; omega) hv h
  rw [step_cells_] at hi
  have hx : ∀ i, i < n → ∃ s : Sp, ∃ b off, A = some ⟨b, off, none⟩ ∧ b < w.heap.size ∧ ∀ j u, s.cells[j]? = some u → w.cell? ⟨b, off + i * 7 + j, none⟩ = some u := by
    intro i hil
    obtain ⟨b, off, es, hA, hb, hel, hcell, hrd⟩ := hi i hil
    obtain ⟨s, rfl⟩ := rd_step hrd
    refine ⟨s, b, off, hA, hb, fun j u hu => ?_⟩
    have hj : j < 7 := by
      rcases Nat.lt_or_ge j 7 with h | h
      · exact h
      · rw [List.getElem?_eq_none (by rw [sp_len]; exact h)] at hu; cases hu
    exact (hcell j hj).trans hu
  obtain ⟨f, hf⟩ := choose_lt (α := Sp) hx
  refine ⟨A, c, (List.range n).map f, by simp, by simpa using Nat.le_trans h1 h2, fun i s hs => ?_⟩
  have hin : i < n := by
    rcases Nat.lt_or_ge i n with h | h
    · exact h
    · rw [List.getElem?_eq_none (by simpa using h)] at hs; cases hs
  have hs' : f i = s := by simpa [hin] using hs
  rw [← hs']
  exact hf i hin
set_option maxRecDepth 100000 in
set_option maxHeartbeats 4000000 in
theorem stepsValid_walk {w : World} {A : Option Addr} {c : Nat} {L : List Sp} (h : StAt w A L) (hL : L.length ≤ maxLen) :
    Calls Try.prog 3 #[.slice A L.length c] w fun e w' => e = .returned (.bool true) ∧ Below w.heap.size w w' := by
  obtain ⟨n, hn⟩ : ∃ n, n = L.length := ⟨_, rfl⟩
  have hsame := valid_same (n : Int) L false
  obtain ⟨X, hX⟩ : ∃ X, X = validF (okP (n : Int)) false L := ⟨_, rfl⟩
  have HX := Lib.hid hX; have HXR := Lib.hid (hX.trans hsame); have HN := Lib.hid hn; have H := Lib.hid h; have HL := Lib.hid hL
  unfold maxLen at hL
  rw [← hn] at hL ⊢
  clear hX hsame hn h
  go_enter Try.func3, Try.ntmps3
  go_wp2_with fail
  go_at_call 6
  refine (awake_any w).mono ?_
  rintro e w1 ⟨rfl, hf1⟩
  have HF1 := Lib.hid hf1; clear hf1
  by_cases hbig : 100 < n
  · go_wp2_with fail
    go_ret
    exact ⟨rfl, HF1.out.below_nil⟩
  · go_wp2_with fail
    go_at_call 7
    have hv := valid_any (c := c) (H.out.fr HF1.out) HL.out
    rw [← HN.out, ← HX.out] at hv
    refine hv.mono ?_
    rintro e w2 ⟨rfl, hf2⟩
    have HF2 := Lib.hid hf2; clear hf2 hv
    go_wp2_with fail
    go_at_call 8
    have hv := refValid_any (c := c) (H.out.fr (HF1.out.trans HF2.out)) HL.out
    rw [← HN.out, ← HXR.out] at hv
    refine hv.mono ?_
    rintro e w3 ⟨rfl, hf3⟩
    have HF3 := Lib.hid hf3; clear hf3 hv
    clear HX HXR
    cases X with
    | true =>
      go_wp2_with fail
      go_ret
      exact ⟨rfl, ((HF1.out.trans HF2.out).trans HF3.out).below_nil⟩
    | false =>
      go_wp2_with fail
      go_ret
      exact ⟨rfl, ((HF1.out.trans HF2.out).trans HF3.out).below_nil⟩
set_option maxRecDepth 100000 in
theorem stepsValid_open {H : Type} {enc : TypeId × Value → H} (W : World) (base : Nat) (v0 : Value) (d0 : DataW H) (p0 : List MemPlace)
    (k0 : Value.okWide Try.prog W .any base 22 v0) (h0 : DataW.Trod enc Try.prog W 0 (fun _ => true) true 22 v0 d0 p0) :
    Calls Try.prog 3 #[v0] W fun e W' => e = .returned (.bool true) ∧ Below W.heap.size W W' := by
  obtain ⟨A, c, L, rfl, hL, hst⟩ := steps_open k0 h0
  exact stepsValid_walk hst hL
end Go.Proofs.Ytkihikphebkepaa
