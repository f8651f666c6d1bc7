/-
  EreDeep: the walk. No conditions.
-/
import Derived.Test.YtmecogilhoebgaaErW
import Derived.Test.YtmecogilhoebgaaCodeF
import Derived.Test.YtmecogilhoebgaaOwn
import Derived.Test.YtmecogilhoebgaaCount
import Derived.Test.YtmecogilhoebgaaRead
namespace Go.Proofs.Ytmecogilhoebgaa
open Go.RowKit
set_option linter.unusedVariables false
set_option linter.unusedSimpArgs false

/-- A slice of bytes that the law builds. -/
def MyB (w wr : World) (v : Value) (bs : List UInt8) : Prop := Own wr 5 v (byteVals bs) ∧ (∀ b, v.ownBlock = some b → w.heap.size ≤ b) ∧ Fr [] w wr
theorem MyB.snoc {w wr w' : World} {v v' : Value} {bs : List UInt8} {x : UInt8} {O : Obj} (h : MyB w wr v bs) (h1 : Own w' 5 v' (byteVals bs ++ [.int .u8 (x.toNat : Int)])) (h2 : (wr.alloc O).grownBy w' v.ownBlock)
    (h3 : v'.ownBlock = v.ownBlock ∨ v'.ownBlock = some (wr.alloc O).heap.size) : MyB w w' v' (bs ++ [x]) := by
  obtain ⟨-, k2, k3⟩ := h
  refine ⟨by rw [byteVals_append]; exact h1, fun b hb => ?_, (k3.alloc O).grown h2 (fun g hg => .inr (k2 g hg))⟩
  rcases h3 with h3 | h3
  · exact k2 b (by rw [← h3]; exact hb)
  · rw [h3] at hb; injection hb with hb
    have := k3.size
    simp at hb; omega
def DeepRel (w : World) (f : Nat → List UInt8) (k : Nat) (v i : Value) (wr : World) : Prop := ∃ j : Nat, i = .int .i64 (j : Int) ∧ j ≤ k ∧ MyB w wr v (f j)
theorem u8Parts : ∃ i, Try.prog.info? 5 = some i ∧ i.zero = some (.int .u8 0) ∧ i.size = 1 ∧ i.bytes = 1 := info_parts (by kernel_rfl)
theorem one_byte (w : World) (x : Int) : At (w.alloc (.cells #[.int .u8 x] 5)) (some ⟨w.heap.size, 0, none⟩) [.int .u8 x] :=
  At.of_bk (n := 1) (Bk.new w 5 #[.int .u8 x]) (by simp)
theorem one_a : (S4.range 97 97).count = 1 := by decide +kernel
set_option maxRecDepth 100000 in
set_option maxHeartbeats 8000000 in
theorem ereDeep_walk {w : World} (hg : GlobOk w) (n : Nat) (hn : n < 256) : Calls Try.prog 4 #[.int .u8 (n : Int)] w fun e w' => e = .returned (.bool true) ∧ Fr [] w w' := by
  obtain ⟨k, hk⟩ : ∃ k, k = n % 80 := ⟨_, rfl⟩
  have hmod : (n : Int) % 80 = (k : Int) := by omega
  have hk80 : k < 80 := by omega
  obtain ⟨i0, hi0, hz0, hz1, hz2⟩ := u8Parts
  have HG := Lib.hid hg
  clear hk hg
  go_enter Try.func4, Try.ntmps4
  go_wp2_with (go_at_call 5; refine (awake_any HG.out).mono ?_; rintro e w1 ⟨rfl, hf1⟩; have HF1 := Lib.hid hf1; clear hf1)
  rw [hmod]
  clear hmod
  go_loopw [4, 5] (fun v i wr => DeepRel w1 (fun j => List.replicate j 40) k v i wr) (fun _ i _ => k - (intOf i).toNat)
  case atStart => exact ⟨0, rfl, by omega, Own.nil_ _ _, by simp [Value.ownBlock], Fr.refl _ _⟩
  case round =>
    unfold DeepRel at hrel
    obtain ⟨j, rfl, hj, hmy⟩ := hrel
    have HMY := Lib.hid hmy
    obtain ⟨lA, lc, rfl⟩ : ∃ A c, u4 = .slice A j c := by
      obtain ⟨⟨A, c, hv, -⟩, -⟩ := hmy
      rw [byteVals_length, List.length_replicate] at hv
      exact ⟨A, c, hv⟩
    clear hmy
    by_cases hlt : j < k
    · go_wp2_with (at_builtin; refine wpList_append_OwnS rfl (.tmp 19) (.tmp 20) 22 rfl 5 i0 _ Try.underlying22 hi0 hz0 hz1 rfl (.slice lA j lc) (byteVals (List.replicate j 40)) j (by rw [byteVals_length, List.length_replicate]) (by first | rfl | (simp [Act.eval]; done)) (HMY.out.1.fr ((Fr.refl [] _).alloc _) (by simp)) (some ⟨wr.heap.size, 0, none⟩) 1 1 (by first | rfl | (simp [Act.eval]; done)) [.int .u8 40] (one_byte _ _) rfl (by simp [Value.oneCell']) (by unfold maxLen; omega) (by rw [hz2]; omega) ?_; intro A' c' w6 hown6 hgr6 hat6; have HM6 := Lib.hid (MyB.snoc (x := 40) HMY.out hown6 hgr6 hat6); clear hown6 hgr6 hat6)
      go_roundw
      case rel => exact ⟨j + 1, by go_num, by omega, by have := HM6.out; rw [← List.replicate_succ'] at this; exact this⟩
      case measure => simp [intOf]; omega
    · obtain rfl : j = k := by omega
      clear hlt
      go_wp2_with (at_builtin; refine wpList_append_OwnS rfl (.tmp 22) (.tmp 23) 22 rfl 5 i0 _ Try.underlying22 hi0 hz0 hz1 rfl (.slice lA j lc) (byteVals (List.replicate j 40)) j (by rw [byteVals_length, List.length_replicate]) (by first | rfl | (simp [Act.eval]; done)) (HMY.out.1.fr ((Fr.refl [] _).alloc _) (by simp)) (some ⟨wr.heap.size, 0, none⟩) 1 1 (by first | rfl | (simp [Act.eval]; done)) [.int .u8 97] (one_byte _ _) rfl (by simp [Value.oneCell']) (by unfold maxLen; omega) (by rw [hz2]; omega) ?_; intro A' c' w6 hown6 hgr6 hat6; have HM6 := Lib.hid (MyB.snoc (x := 97) HMY.out hown6 hgr6 hat6); clear hown6 hgr6 hat6)
      go_loopw [4, 6] (fun v i wr => DeepRel w1 (fun i => List.replicate j 40 ++ [97] ++ List.replicate i 41) j v i wr) (fun _ i _ => j - (intOf i).toNat)
      case atStart => exact ⟨0, rfl, by omega, by simpa using HM6.out⟩
      case round =>
        unfold DeepRel at hrel
        obtain ⟨i, rfl, hi, hmy⟩ := hrel
        have HMY2 := Lib.hid hmy
        have hlen : (List.replicate j (40 : UInt8) ++ [97] ++ List.replicate i 41).length = j + 1 + i := by simp; omega
        obtain ⟨A2, c2, rfl⟩ : ∃ A c, u4 = .slice A (j + 1 + i) c := by
          obtain ⟨⟨A, c, hv, -⟩, -⟩ := hmy
          rw [byteVals_length, hlen] at hv
          exact ⟨A, c, hv⟩
        have HLEN := Lib.hid hlen
        clear hmy hlen
        by_cases hlt : i < j
        · go_wp2_with (at_builtin; refine wpList_append_OwnS rfl (.tmp 30) (.tmp 31) 22 rfl 5 i0 _ Try.underlying22 hi0 hz0 hz1 rfl (.slice A2 (j + 1 + i) c2) (byteVals (List.replicate j 40 ++ [97] ++ List.replicate i 41)) (j + 1 + i) (by rw [byteVals_length]; exact HLEN.out) (by first | rfl | (simp [Act.eval]; done)) (HMY2.out.1.fr ((Fr.refl [] _).alloc _) (by simp)) (some ⟨wr.heap.size, 0, none⟩) 1 1 (by first | rfl | (simp [Act.eval]; done)) [.int .u8 41] (one_byte _ _) rfl (by simp [Value.oneCell']) (by unfold maxLen; omega) (by rw [hz2]; omega) ?_; intro A' c' w6 hown6 hgr6 hat6; have HM6 := Lib.hid (MyB.snoc (x := 41) HMY2.out hown6 hgr6 hat6); clear hown6 hgr6 hat6)
          go_roundw
          case rel => exact ⟨i + 1, by go_num, by omega, by have := HM6.out; rw [List.append_assoc, ← List.replicate_succ'] at this; exact this⟩
          case measure => simp [intOf]; omega
        · obtain rfl : i = j := by omega
          clear hlt
          have hL : List.replicate i (40 : UInt8) ++ [97] ++ List.replicate i 41 = deepL i := by unfold deepL; simp
          have hmy : MyB w1 wr _ (List.replicate i 40 ++ [97] ++ List.replicate i 41) := HMY2.out
          rw [hL] at hmy
          have hlen2 := deepL_len i
          have e2 : i + 1 + i = 2 * i + 1 := by omega
          rw [e2] at hmy ⊢
          obtain ⟨h1, h2, h3⟩ := hmy
          obtain ⟨A, cap, hv, hat, hc1, hc2, hc3, -⟩ := h1.at_
          rw [byteVals_length, hlen2] at hv hc1
          injection hv with hv1 hv2 hv3
          subst hv1 hv3
          have HB := Lib.hid (show Bytes wr A2 (deepL i) from hat)
          have HGR := Lib.hid (HG.out.fr (HF1.out.trans h3))
          have HFR := Lib.hid (HF1.out.trans h3)
          have hpp := deep_parse i hk80
          clear h1 h2 h3 hat hlen2 hL HMY HMY2 HM6 HLEN e2
          by_cases hbig : 64 < i
          · rw [if_pos hbig] at hpp
            have HPP := Lib.hid hpp
            have t1 : decide (64 < i) = true := by simpa using hbig
            clear hpp
            go_wp2_with fail
            go_at_call 6
            refine (parse_at (2 * i + 1) (deepL_len i) _ HPP.out HB.out hc1 hc3 hc2 HGR.out).mono ?_
            rintro e w2 ⟨v, rfl, hv, hf⟩
            have HV := Lib.hid hv; have HF2 := Lib.hid (HFR.out.trans hf)
            clear hv hf
            unfold zeroP
            go_wp2_with fail
            go_at_call 7
            refine (code_fault (HV.out.fr ((Fr.refl [] w2).alloc _)) (by decide) (by decide)).mono ?_
            rintro e w3 ⟨rfl, rfl⟩
            go_wp2_with fail
            go_ret
            exact ⟨rfl, HF2.out.alloc _⟩
          · rw [if_neg hbig] at hpp
            have HPP := Lib.hid hpp
            have t1 : decide (64 < i) = false := by simpa using hbig
            clear hpp
            go_wp2_with fail
            go_at_call 6
            refine (parse_at (2 * i + 1) (deepL_len i) _ HPP.out HB.out hc1 hc3 hc2 HGR.out).mono ?_
            rintro e w2 ⟨p, rfl, hn, hf⟩
            rw [hn.val]
            have HF2 := Lib.hid (HFR.out.trans hf)
            obtain ⟨A3, hA3⟩ : ∃ A3, A3 = p.A := ⟨_, rfl⟩
            obtain ⟨c3, hc3'⟩ : ∃ c3, c3 = p.c := ⟨_, rfl⟩
            rw [← hA3, ← hc3']
            obtain ⟨S, hS⟩ : ∃ S, S = S4.range 97 97 := ⟨_, rfl⟩
            rw [← hS]
            have HS := Lib.hid hS
            clear hn hf hA3 hc3' hS
            obtain ⟨sa, sb, sc, sd⟩ := S
            simp only [tSet, RT.k, RT.s, RT.mn, RT.mx, RT.l, List.length_nil]
            go_wp2_with fail
            go_at_call 10
            refine (count_any ⟨sa, sb, sc, sd⟩ _ (by rw [HS.out]; exact S4.range_ok _ _)).mono ?_
            rintro e w3 ⟨rfl, hf3⟩
            rw [HS.out, one_a]
            have HF3 := Lib.hid ((HF2.out.alloc _).trans hf3)
            clear hf3
            go_wp2_with fail
            go_ret
            exact ⟨rfl, HF3.out⟩
set_option maxRecDepth 100000 in
theorem u8_of_ (n : Int) (h : (Lit.int .u8 n).wf = true) : ∃ c : Nat, c < 256 ∧ n = (c : Int) := by
  have h2 : 0 ≤ n ∧ n ≤ 255 := by (simp [Lit.wf, IntKind.min, IntKind.max, IntKind.signed, IntKind.bits] at h; omega)
  exact ⟨n.toNat, by omega, by omega⟩
set_option maxRecDepth 100000 in
theorem ereDeep_open {H : Type} {enc : TypeId × Value → H} (W : World) (base : Nat) (v0 : Value) (d0 : DataW H) (p0 : List MemPlace) (k0 : Value.okWide Try.prog W .any base 5 v0) (h0 : DataW.Trod enc Try.prog W 0 (fun _ => true) true 5 v0 d0 p0) (hg : GlobOk W) :
    Calls Try.prog 4 #[v0] W fun e W' => e = .returned (.bool true) ∧ Below W.heap.size W W' := by
  obtain ⟨n, rfl, hn⟩ := arg_int Try.underlying5 k0 h0
  obtain ⟨c, hc, rfl⟩ := u8_of_ n hn
  exact (ereDeep_walk hg c hc).mono fun e W' ⟨h1, h2⟩ => ⟨h1, h2.below_nil⟩
end Go.Proofs.Ytmecogilhoebgaa
