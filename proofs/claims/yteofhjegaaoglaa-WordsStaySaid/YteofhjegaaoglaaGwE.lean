/-
  Arg, WdA, WdO: several small texts in one. No conditions.
-/
import Derived.Test.YteofhjegaaoglaaRows
import Derived.Test.YteofhjegaaoglaaBase
import Derived.Test.YteofhjegaaoglaaRead
import Derived.Test.YteofhjegaaoglaaWd9
import Derived.Test.YteofhjegaaoglaaGwD
namespace Go.Proofs.Yteofhjegaaoglaa
open Go.RowKit
set_option linter.unusedVariables false
set_option linter.unusedSimpArgs false

theorem u8c : Try.prog.cellsOf 5 = 1 := by kernel_rfl
set_option maxRecDepth 100000 in
theorem arg_bytes {H : Type} {enc : TypeId × Value → H} {w : World} {base base' : Nat} {spare : Nat → Bool} {held : Bool} {r : Reach} {v : Value} {d : DataW H} {p : List MemPlace}
    (hv : Value.okWide Try.prog w r base' 28 v) (h : DataW.Trod enc Try.prog w base spare held 28 v d p) :
    ∃ (A : Option Addr) (c : Nat) (bs : List UInt8), v = .slice A bs.length c ∧ bs.length ≤ c ∧ c ≤ maxLen ∧ (A = none → c = 0) ∧ Bytes w A bs := by
  obtain ⟨A, n, c, rfl, h1, h2, h3, hi⟩ := arg_slice Try.underlying28 (by rw [u8c]; omega) hv h
  obtain ⟨A', c', bs, hbs, g1, g2, g3, g4⟩ := (Rd.of_trod h).bytes_ Try.underlying28 Try.underlying5 u8c
  have : (Value.slice A n c).cells.toList = [Value.slice A n c] := rfl
  rw [this] at hbs
  injection hbs with hbs
  injection hbs with e1 e2 e3
  subst e1 e2 e3
  exact ⟨A, c, bs, rfl, g1, g2, g3, g4⟩
set_option maxRecDepth 100000 in
theorem arg_lt {w : World} {b : Nat} {a : Addr} {n c : Nat} (hv : Value.okWide Try.prog w .any b 28 (.slice (some a) n c)) : a.block < w.heap.size := by
  have h : World.has Try.prog w .any b a 5 c := by
    unfold Value.okWide at hv
    rw [Try.underlying28] at hv
    have hv' : Cell.okWide Try.prog w .any b 28 (.slice (some a) n c) := hv
    unfold Cell.okWide at hv'
    rw [Try.underlying28] at hv'
    have hv2 : Cell.ok Try.prog w .any b 28 (.slice (some a) n c) := hv'
    unfold Cell.ok at hv2
    rw [Try.underlying28] at hv2
    exact hv2.2.2
  obtain ⟨-, -, row, cells, hs, -⟩ := h
  unfold World.shape? at hs
  rcases Nat.lt_or_ge a.block w.heap.size with h' | h'
  · exact h'
  · rw [Array.getElem?_eq_none h'] at hs; cases hs
end Go.Proofs.Yteofhjegaaoglaa
namespace Go.Proofs.Yteofhjegaaoglaa
open Go.RowKit
set_option linter.unusedVariables false
set_option linter.unusedSimpArgs false

theorem ex7_out : replF (piecesM [91, 38, 93]) [104, 101, 108, 108, 111] [(2, 4)] 0 = [104, 101, 91, 108, 108, 93, 111] := by kernel_rfl
theorem ex7_s1 : subM [104, 101, 108, 108, 111] 2 3 false = [101, 108, 108] := by kernel_rfl
theorem ex7_s2 : subM [104, 101, 108, 108, 111] (-1) 3 false = [104] := by kernel_rfl
theorem ex7_ix : Lib.index [104, 101, 108, 108, 111] [108, 111] = 3 := by kernel_rfl
set_option maxRecDepth 100000 in
set_option maxHeartbeats 4000000 in
theorem awake_ok : AwakeOk := by
  intro w hg
  obtain ⟨LA, hLA⟩ : ∃ LA, LA = progT (tOf [108, 43]) := ⟨_, rfl⟩
  have hfa := ex7_find; have hga := ex7_af
  rw [← hLA] at hfa hga
  have HRP : Hid (∀ (W : World) (lo fb : Nat), FinderAt W lo fb LA → Calls Try.prog 17 #[.pointer (some ⟨fb, 0, none⟩), .string ⟨#[91, 38, 93]⟩, .string ⟨#[104, 101, 108, 108, 111]⟩, .bool false] W fun e w' => e = .returned (.tuple #[.string ⟨#[104, 101, 91, 108, 108, 93, 111]⟩, .int .i64 1, .nilIface]) ∧ Fr [] W w') := Lib.hid (fun W lo fb hF => by
    have h := replace_any hF hga [91, 38, 93] [104, 101, 108, 108, 111] false (by decide) (by decide) [(2, 4)] (by rw [hfa]; rfl) [104, 101, 91, 108, 108, 93, 111] ex7_out.symm (by decide)
    refine h.mono fun e w' hp => ?_
    obtain ⟨rfl, hf⟩ := hp
    exact ⟨rfl, hf⟩)
  obtain ⟨sb, hsb⟩ : ∃ sb : Int → ByteArray, ∀ a, sb a = ⟨(subM [104, 101, 108, 108, 111] a 3 false).toArray⟩ := ⟨fun a => ⟨(subM [104, 101, 108, 108, 111] a 3 false).toArray⟩, fun a => rfl⟩
  have HSB : Hid (∀ (W : World) (a : Int), (-1000 ≤ a ∧ a ≤ 1000) → Calls Try.prog 9 #[.string ⟨#[104, 101, 108, 108, 111]⟩, .int .i64 a, .int .i64 3, .bool false] W fun e w' => e = .returned (.string (sb a)) ∧ W = w') := Lib.hid (fun W a ha => by
    rw [hsb]
    exact substr_any W [104, 101, 108, 108, 111] a 3 (by omega) (by omega) (by decide) false)
  have q1 : sb 2 = ⟨#[101, 108, 108]⟩ := by rw [hsb, ex7_s1]
  have q2 : sb (-1) = ⟨#[104]⟩ := by rw [hsb, ex7_s2]
  clear hsb
  have HIX : Hid (∀ W : World, GlobOk W → Calls Try.prog 8 #[.string ⟨#[104, 101, 108, 108, 111]⟩, .string ⟨#[108, 111]⟩] W fun e w' => e = .returned (.int .i64 4) ∧ w' = W) := Lib.hid (fun W hg => by
    have h := widx_any W [104, 101, 108, 108, 111] [108, 111] (by decide) hg
    rw [ex7_ix] at h
    refine h.mono fun e w' hp => ?_
    obtain ⟨rfl, hf⟩ := hp
    exact ⟨rfl, hf⟩)
  have HG := Lib.hid hg; have HLA := Lib.hid hLA
  clear hg hLA hfa hga
  go_enter Try.func7, Try.ntmps7
  go_upto_region 2 with (first | (refine wpList_same rfl 28 (.tmp 7) rfl 5 Try.underlying28 Try.underlying5 ⟨w.heap.size, 0, none⟩ 2 2 (by first | rfl | (simp [Act.eval]; done)) (byteVals [108, 43]) (bytes_new w [108, 43]) ?_; intro v1 hS hF; have HS1 := Lib.hid hS; have HV1 : Hid (Fr [] w v1) := Lib.hid (((Fr.refl [] w).alloc (.cells (byteVals [108, 43]).toArray 5)).trans' hF (by simp)); clear hS hF) | (go_at_call 16; refine (new_at 2 rfl _ ex7_a ex7_as HS1.out (by omega) (Nat.le_refl _) (by intro h; cases h) (by decide) (HG.out.fr HV1.out)).mono ?_; rintro e w1 ⟨fa, rfl, hn, hf⟩; rw [← HLA.out] at hn; have HN1 := Lib.hid hn; have HX1 := Lib.hid (HV1.out.trans hf); clear hn hf))
  go_upto_region 5 with (go_at_call 17; refine (HRP.out _ _ _ HN1.out).mono ?_; rintro e w2 ⟨rfl, hf⟩; have HX2 := Lib.hid (HX1.out.trans hf); clear hf)
  go_wp2_with (first
    | (go_at_call 8; refine (HIX.out _ (HG.out.fr HX2.out)).mono ?_; rintro e w3 ⟨rfl, rfl⟩)
    | (go_at_call 9; refine (HSB.out _ _ (by omega)).mono ?_; rintro e w3 ⟨rfl, rfl⟩; simp only [q1, q2]))
  go_ret
  exact ⟨rfl, HX2.out⟩
end Go.Proofs.Yteofhjegaaoglaa
namespace Go.Proofs.Yteofhjegaaoglaa
open Go.RowKit
set_option linter.unusedVariables false
set_option linter.unusedSimpArgs false

theorem u8_nat (n : Int) (h : (Lit.int .u8 n).wf = true) : ∃ c : Nat, c < 256 ∧ n = (c : Int) := by
  have h2 : 0 ≤ n ∧ n ≤ 255 := by (simp [Lit.wf, IntKind.min, IntKind.max, IntKind.signed, IntKind.bits] at h; omega)
  exact ⟨n.toNat, by omega, by omega⟩
set_option maxRecDepth 100000 in
theorem wordsHalves_open {H : Type} {enc : TypeId × Value → H} (W : World) (base : Nat) (v0 : Value) (d0 : DataW H) (p0 : List MemPlace) (v1 : Value) (d1 : DataW H) (p1 : List MemPlace)
    (k0 : Value.okWide Try.prog W .any base 9 v0) (k1 : Value.okWide Try.prog W .any base 5 v1)
    (h0 : DataW.Trod enc Try.prog W 0 (fun _ => true) true 9 v0 d0 p0) (h1 : DataW.Trod enc Try.prog W 0 (fun _ => true) true 5 v1 d1 p1) (hg : GlobOk W) :
    Calls Try.prog 6 #[v0, v1] W fun e W' => e = .returned (.bool true) ∧ Below W.heap.size W W' := by
  obtain ⟨s, rfl, hs⟩ := arg_string Try.underlying9 k0 h0
  obtain ⟨n, rfl, hn⟩ := arg_int Try.underlying5 k1 h1
  obtain ⟨c, hc, rfl⟩ := u8_nat n hn
  have h := halves_walk awake_ok (w := W) s.data.toList c hc hg
  rw [← ba_of] at h
  exact h.mono fun e W' ⟨h1, h2⟩ => ⟨h1, h2.below_nil⟩
set_option maxRecDepth 100000 in
theorem wordsThere_open {H : Type} {enc : TypeId × Value → H} (W : World) (base : Nat) (v0 : Value) (d0 : DataW H) (p0 : List MemPlace) (v1 : Value) (d1 : DataW H) (p1 : List MemPlace)
    (k0 : Value.okWide Try.prog W .any base 9 v0) (k1 : Value.okWide Try.prog W .any base 9 v1)
    (h0 : DataW.Trod enc Try.prog W 0 (fun _ => true) true 9 v0 d0 p0) (h1 : DataW.Trod enc Try.prog W 0 (fun _ => true) true 9 v1 d1 p1) (hg : GlobOk W) :
    Calls Try.prog 3 #[v0, v1] W fun e W' => e = .returned (.bool true) ∧ Below W.heap.size W W' := by
  obtain ⟨s, rfl, hs⟩ := arg_string Try.underlying9 k0 h0
  obtain ⟨t, rfl, ht⟩ := arg_string Try.underlying9 k1 h1
  have h := there_walk awake_ok (w := W) s.data.toList t.data.toList hg
  rw [← ba_of, ← ba_of] at h
  exact h.mono fun e W' ⟨h1, h2⟩ => ⟨h1, h2.below_nil⟩
end Go.Proofs.Yteofhjegaaoglaa
