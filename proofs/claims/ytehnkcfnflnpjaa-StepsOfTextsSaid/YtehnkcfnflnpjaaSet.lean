/-
  The walks over package charset's sets: Range, Or, Not. No conditions.
-/
import Derived.Test.YtehnkcfnflnpjaaRows
import Derived.Test.YtehnkcfnflnpjaaBits
import Derived.LoopTactic
import Derived.Deep.QuietTactic
import Derived.BigQuiet
import Derived.RegionTactic
import Derived.BigRegion
import Derived.ChangeAlike
namespace Go.Proofs.Ytehnkcfnflnpjaa
open Go.RowKit
set_option linter.unusedVariables false
set_option linter.unusedSimpArgs false

theorem not_any (s : S4) (w : World) (hs : s.ok) :
    Calls Try.prog 46 #[s.val] w fun e w' => e = .returned s.not.val ∧ Fr [] w w' := by
  obtain ⟨a, b, c, d⟩ := s
  obtain ⟨ha, hb, hc, hd⟩ := hs
  dsimp only at ha hb hc hd
  unfold S4.val
  dsimp only
  go_enter Try.func46, Try.ntmps46
  go_wp2_with fail
  refine wp_loop_rounds 5 ?_
  rw [rounds_succ]
  go_wp2_with fail
  rw [rounds_succ]
  go_wp2_with fail
  rw [rounds_succ]
  go_wp2_with fail
  rw [rounds_succ]
  go_wp2_with fail
  rw [rounds_succ]
  go_wp2_with fail
  refine bodyPost_ret (v := .agg #[.int .u64 (bits .xor .u64 IntKind.u64.max (a : Int)), .int .u64 (bits .xor .u64 IntKind.u64.max (b : Int)), .int .u64 (bits .xor .u64 IntKind.u64.max (c : Int)), .int .u64 (bits .xor .u64 IntKind.u64.max (d : Int))]) (by simp [results, Try.results46, go_sem]) rfl ⟨?_, ((Fr.refl [] w).alloc _).alloc _⟩
  rw [u64_cpl a ha, u64_cpl b hb, u64_cpl c hc, u64_cpl d hd]
  rfl

theorem or_any (s t : S4) (w : World) (hs : s.ok) (ht : t.ok) :
    Calls Try.prog 45 #[s.val, t.val] w fun e w' => e = .returned (s.or t).val ∧ Fr [] w w' := by
  obtain ⟨a, b, c, d⟩ := s
  obtain ⟨ha, hb, hc, hd⟩ := hs
  obtain ⟨a', b', c', d'⟩ := t
  obtain ⟨ha', hb', hc', hd'⟩ := ht
  dsimp only at ha hb hc hd ha' hb' hc' hd'
  unfold S4.val
  dsimp only
  go_enter Try.func45, Try.ntmps45
  go_wp2_with fail
  refine wp_loop_rounds 5 ?_
  rw [rounds_succ]
  go_wp2_with fail
  go_region
  go_wp2_with fail
  rw [rounds_succ]
  go_wp2_with fail
  go_region
  go_wp2_with fail
  rw [rounds_succ]
  go_wp2_with fail
  go_region
  go_wp2_with fail
  rw [rounds_succ]
  go_wp2_with fail
  go_region
  go_wp2_with fail
  rw [rounds_succ]
  go_wp2_with fail
  refine bodyPost_ret (v := .agg #[.int .u64 (bits .or .u64 (a : Int) (a' : Int)), .int .u64 (bits .or .u64 (b : Int) (b' : Int)), .int .u64 (bits .or .u64 (c : Int) (c' : Int)), .int .u64 (bits .or .u64 (d : Int) (d' : Int))]) (by simp [results, Try.results45, go_sem]) rfl ⟨?_, ?_⟩
  · rw [u64_or_ a a' ha ha', u64_or_ b b' hb hb', u64_or_ c c' hc hc', u64_or_ d d' hd hd']
    rfl
  · exact ((((((((Fr.refl [] w).alloc _).alloc _).alloc _).drew).drew).drew).drew)

theorem range_any (f t : Nat) (w : World) (hf : f < 256) (ht : t < 256) :
    Calls Try.prog 11 #[.int .u8 (f : Int), .int .u8 (t : Int)] w fun e w' => e = .returned (S4.range f t).val ∧ Fr [] w w' := by
  go_enter Try.func11, Try.ntmps11
  go_wp2_with fail
  go_loopw [6] (fun i wr => ∃ n : Nat, i = .int .i64 ((f + n : Nat) : Int) ∧ f + n ≤ max f (t + 1) ∧ Fr [] w wr ∧ w.heap.size + 1 < wr.heap.size ∧ Bk wr (w.heap.size + 1) 26 (S4.span f n).cells ∧ Bk wr w.heap.size 26 S4.empty.cells) (fun i _ => t + 1 - (intOf i).toNat)
  case atStart =>
    refine ⟨0, by simp, by omega, ((Fr.refl [] w).alloc _).alloc _, by simp, ?_, (Bk.new w _ _).alloc _⟩
    have := Bk.new (w.alloc (.cells S4.empty.cells 26)) 26 S4.empty.cells
    rw [World.size_alloc] at this
    exact this
  case round =>
    obtain ⟨n, rfl, hn, hfr, hlt, hb1, hb0⟩ := hrel
    have hlt0 : w.heap.size < wr.heap.size := by omega
    by_cases hle : f + n ≤ t
    · have hi4 : (f + n) / 64 < 4 := by omega
      have hok := S4.span_ok f n
      have hcell := hb1.cell_ ((S4.span f n).cells_at _ hi4)
      have hfz := hb1.frozen ((f + n) / 64)
      have hnext : Bk (wr.setCell ⟨w.heap.size + 1, (f + n) / 64, none⟩ (.int .u64 (((S4.span f n).word ((f + n) / 64) ||| 2 ^ ((f + n) % 64) : Nat) : Int))) (w.heap.size + 1) 26 (S4.span f (n + 1)).cells := by
        have := hb1.put ((f + n) / 64) (.int .u64 (((S4.span f n).word ((f + n) / 64) ||| 2 ^ ((f + n) % 64) : Nat) : Int))
        rw [S4.cells_add _ _ (by omega)] at this
        exact this
      have hv := u64_or_pow ((S4.span f n).word ((f + n) / 64)) ((f + n) % 64) (S4.word_lt hok _) (Nat.mod_lt _ (by omega))
      rw [← hv] at hnext
      have hfr' : Fr [] w (wr.setCell ⟨w.heap.size + 1, (f + n) / 64, none⟩ (.int .u64 (bits .or .u64 ((S4.span f n).word ((f + n) / 64) : Int) (IntKind.u64.wrap (2 ^ ((f + n) % 64)))))) := hfr.setCell (.inr (by simp)) _
      have hb0' : Bk (wr.setCell ⟨w.heap.size + 1, (f + n) / 64, none⟩ (.int .u64 (bits .or .u64 ((S4.span f n).word ((f + n) / 64) : Int) (IntKind.u64.wrap (2 ^ ((f + n) % 64)))))) w.heap.size 26 S4.empty.cells := hb0.far (by simp) _
      generalize hW : (S4.span f n).word ((f + n) / 64) = W at *
      have HN := Lib.hid hnext; have HFR := Lib.hid hfr'; have HB0 := Lib.hid hb0'
      clear hnext hfr' hb0' hfr hb1 hb0 hok hv hW
      go_wp2_with fail
      go_region
      go_wp2_with fail
      go_roundw
      case rel => exact ⟨n + 1, by go_num, by omega, HFR.out.drew, by simp; omega, HN.out, HB0.out⟩
      case measure => simp [intOf]; omega
    · have hend : S4.span f n = S4.range f t := by
        unfold S4.range
        congr 1
        omega
      rw [hend] at hb1
      obtain ⟨⟨c0, c1, c2, c3⟩, -⟩ := S4.four hb1
      obtain ⟨⟨k0, k1, k2, k3⟩, z0, z1, z2, z3⟩ := S4.four hb0
      generalize hR : S4.range f t = R at *
      have HFR := Lib.hid hfr; have HB0 := Lib.hid hb0; have HB1 := Lib.hid hb1; have HR := Lib.hid hR; clear hfr hb0 hb1 hend hR
      go_wp2_with fail
      refine bodyPost_ret (v := R.val) (by simp [results, Try.results11, go_sem, c0, c1, c2, c3, k0, k1, k2, k3, S4.val]) rfl ⟨by rw [HR.out], ((((HFR.out.setCell (.inr (Nat.le_refl _)) _).setCell (.inr (Nat.le_refl _)) _).setCell (.inr (Nat.le_refl _)) _).setCell (.inr (Nat.le_refl _)) _)⟩
end Go.Proofs.Ytehnkcfnflnpjaa
