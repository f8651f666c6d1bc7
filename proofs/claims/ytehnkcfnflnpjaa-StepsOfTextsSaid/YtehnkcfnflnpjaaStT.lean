/-
  The law StepsOfTexts. No conditions but the frame's. (Printed by a program of the prover's.)
-/
import Derived.Test.YtehnkcfnflnpjaaSz4
import Derived.Test.YtehnkcfnflnpjaaLyV
import Derived.Test.YtehnkcfnflnpjaaStB
import Derived.Test.YtehnkcfnflnpjaaEr9
import Derived.Test.YtehnkcfnflnpjaaErR
import Derived.Test.YtehnkcfnflnpjaaCode
import Derived.Test.YtehnkcfnflnpjaaArg
namespace Go.Proofs.Ytehnkcfnflnpjaa
open Go.RowKit
set_option linter.unusedVariables false
set_option linter.unusedSimpArgs false

theorem comp_right {w : World} {p : PT} (hr : rightP p = true) (hm : PMem w p) (hcn : cntP p ≤ 1199) :
    Calls Try.prog 6 #[p.val] w fun e w' => Fr [] w w' ∧ (4000 ≤ sizP p ∧ e = .returned (.tuple #[.slice none 0 0, .iface 47 (.int .i64 5)]) ∨
      sizP p < 4000 ∧ ∃ A c, e = .returned (.tuple #[.slice A (sizP p + 1) c, .nilIface]) ∧ StAt w' A (layP p 0 ++ [Sp.found])) := by
  refine (compile_all hm hcn).mono ?_
  rintro e w' ⟨hf, h⟩
  refine ⟨hf, ?_⟩
  rcases h with ⟨h, -⟩ | ⟨-, h, he⟩ | ⟨-, h, v, he, A, cap, hv, hown⟩
  · rw [hr] at h; cases h
  · exact .inl ⟨h, he⟩
  · subst hv
    refine .inr ⟨h, A, cap, ?_, StAt.of_own hown⟩
    rw [he, List.length_append, layP_len p 0 hr]; rfl
theorem StAt.nil_ (w : World) (A : Option Addr) : StAt w A [] := fun i s h => by simp at h
set_option maxRecDepth 100000 in
set_option maxHeartbeats 16000000 in
theorem stepsOfTexts_walk {w : World} (hg : GlobOk w) {A : Option Addr} {bs : List UInt8} {c : Nat} (hb : Bytes w A bs) (hc : bs.length ≤ c) (hA : A = none → c = 0) (hcm : c ≤ maxLen) :
    Calls Try.prog 3 #[.slice A bs.length c] w fun e w' => e = .returned (.bool true) ∧ Fr [] w w' := by
  obtain ⟨L, hL⟩ : ∃ L, L = bs.length := ⟨_, rfl⟩
  have HG := Lib.hid hg; have HB := Lib.hid hb; have HC := Lib.hid hc; have HA := Lib.hid hA; have HCM := Lib.hid hcm
  have HL := Lib.hid hL
  rw [← hL]
  clear hg hb hc hA hcm hL
  go_enter Try.func3, Try.ntmps3
  go_upto_region 3 with (go_at_call 4; refine (awake_any _).mono ?_; rintro e w1 ⟨rfl, hf⟩; have HF1 := Lib.hid hf; clear hf)
  by_cases hlong : 150 < L
  · have hI : (150 : Int) < (L : Int) := by omega
    go_wp2_with fail
    go_ret
    exact ⟨rfl, HF1.out⟩
  have hI : ¬ ((150 : Int) < (L : Int)) := by omega
  go_upto_region 5 with fail
  clear hI
  cases hp : parseS bs with
  | error pe =>
    obtain ⟨pp, pcd⟩ := pe
    have HP : Hid (Calls Try.prog 5 #[.slice A L c] w1 (ParsePost w1 (.error (pp, pcd)))) := Lib.hid (by have h := parse_any (HB.out.fr_nil HF1.out) HC.out HA.out HCM.out (HG.out.fr HF1.out); rw [hp, ← HL.out] at h; exact h)
    clear hp
    go_wp2_with fail
    go_at_call 5
    refine HP.out.mono ?_
    rintro e w2 ⟨v, rfl, ⟨fg, rfl, -⟩, hf⟩
    have HF2 := Lib.hid (HF1.out.trans hf)
    clear hf
    unfold zeroP
    go_wp2_with fail
    go_ret
    exact ⟨rfl, HF2.out.alloc _⟩
  | ok t =>
    obtain ⟨hrt, hcnt⟩ := parse_good hp
    have HP : Hid (Calls Try.prog 5 #[.slice A L c] w1 (ParsePost w1 (.ok t))) := Lib.hid (by have h := parse_any (HB.out.fr_nil HF1.out) HC.out HA.out HCM.out (HG.out.fr HF1.out); rw [hp, ← HL.out] at h; exact h)
    have HRT : Hid (rightT t = true ∧ cntT t ≤ 301) := Lib.hid ⟨hrt, by have := HL.out; omega⟩
    clear hp hrt hcnt
    go_wp2_with fail
    go_at_call 5
    refine HP.out.mono ?_
    rintro e w2 ⟨p, rfl, hnp, hf⟩
    have hright : rightP p = true := by rw [RepP.right t p hnp.rep]; exact HRT.out.1
    have hcn : cntP p ≤ 1199 := by rw [RepP.cnt t p hnp.rep]; have := HRT.out.2; omega
    have HF2 := Lib.hid (HF1.out.trans hf)
    have HC1 : Hid (∀ W, Fr [] w2 W → Calls Try.prog 6 #[p.val] W fun e w' => Fr [] W w' ∧ (4000 ≤ sizP p ∧ e = .returned (.tuple #[.slice none 0 0, .iface 47 (.int .i64 5)]) ∨
      sizP p < 4000 ∧ ∃ A c, e = .returned (.tuple #[.slice A (sizP p + 1) c, .nilIface]) ∧ StAt w' A (layP p 0 ++ [Sp.found]))) := Lib.hid (fun W hW => comp_right hright (hnp.mem.keep (KeepT.of_nil hW)) hcn)
    have HC2 : Hid (∀ W, Fr [] w2 W → Calls Try.prog 7 #[p.val] W fun e w' => Fr [] W w' ∧ (4000 ≤ sizP p ∧ e = .returned (.tuple #[.slice none 0 0, .int .i64 5]) ∨
      sizP p < 4000 ∧ ∃ A c, e = .returned (.tuple #[.slice A (sizP p + 1) c, .int .i64 0]) ∧ StAt w' A (layP p 0 ++ [Sp.found]))) := Lib.hid (fun W hW => rcompile_any hright hcn (hnp.mem.keep (KeepT.of_nil hW)))
    have hval := valid_prog hright
    have hlen : (layP p 0 ++ [Sp.found]).length = sizP p + 1 := by rw [List.length_append, layP_len p 0 hright]; rfl
    obtain ⟨R, hR⟩ : ∃ R, R = sizP p := ⟨_, rfl⟩
    obtain ⟨M, hM⟩ : ∃ M, M = layP p 0 ++ [Sp.found] := ⟨_, rfl⟩
    simp only [← hM, ← hR] at HC1 HC2 hval hlen
    rw [hlen] at hval
    have HVA := Lib.hid hval; have HLEN := Lib.hid hlen
    clear hf hnp hright hcn hval hlen hR hM HP
    unfold PT.val at HC1 HC2 ⊢
    obtain ⟨m, hm⟩ : ∃ m, m = p.l.length := ⟨_, rfl⟩
    simp only [← hm] at HC1 HC2 ⊢
    clear hm
    go_upto_region 6 with fail
    refine code_gen1 fun W5 hW => ?_
    have hf5 : Fr [] w2 W5 := by rw [hW]; exact (Fr.refl [] w2).alloc _
    obtain ⟨g, hgg⟩ : ∃ x, x = w2.heap.size := ⟨_, rfl⟩
    have hk5 : Bk W5 g 29 #[.int .i64 p.k, .int .u64 p.s0, .int .u64 p.s1, .int .u64 p.s2, .int .u64 p.s3, .int .i64 p.mn, .int .i64 p.mx, .slice p.A m p.c] := by rw [hW, hgg]; exact Bk.new w2 _ _
    rw [← hgg]
    have HRA : Hid (∀ W, Fr [] W5 W → W.rangeAt g 0 [.int .i64 p.k, .int .u64 p.s0, .int .u64 p.s1, .int .u64 p.s2, .int .u64 p.s3, .int .i64 p.mn, .int .i64 p.mx, .slice p.A m p.c]) := Lib.hid (fun W hW j v hv => by rw [Nat.zero_add]; exact (hk5.fr hW (by simp)).cell_ (i := j) (by simpa using hv))
    have HR5 : Hid (W5.rangeAt g 0 [.int .i64 p.k, .int .u64 p.s0, .int .u64 p.s1, .int .u64 p.s2, .int .u64 p.s3, .int .i64 p.mn, .int .i64 p.mx, .slice p.A m p.c]) := Lib.hid (HRA.out W5 (Fr.refl _ _))
    have HF5 := Lib.hid hf5
    have HC1' := Lib.hid (HC1.out W5 hf5)
    clear hW hf5 hgg hk5 HC1
    go_wp2_with (first
      | (refine wpList_load_mid rfl 29 _ rfl g 0 rfl [.int .i64 p.k, .int .u64 p.s0, .int .u64 p.s1, .int .u64 p.s2, .int .u64 p.s3, .int .i64 p.mn, .int .i64 p.mx, .slice p.A m p.c] _ HR5.out Try.underlying29 rfl part_size8 ?_)
      | fail)
    go_at_call 6
    refine HC1'.out.mono ?_
    rintro e w6 ⟨hf6, h⟩
    have HF6 := Lib.hid hf6
    have HR6 : Hid (w6.rangeAt g 0 [.int .i64 p.k, .int .u64 p.s0, .int .u64 p.s1, .int .u64 p.s2, .int .u64 p.s3, .int .i64 p.mn, .int .i64 p.mx, .slice p.A m p.c]) := Lib.hid (HRA.out w6 hf6)
    have HC2' := Lib.hid (HC2.out w6 (HF5.out.trans hf6))
    clear HC1' HC2 hf6 HRA
    rcases h with ⟨hbig, rfl⟩ | ⟨hsm, A1, c1, rfl, hs1⟩
    · have HBG := Lib.hid hbig
      clear hbig
      go_wp2_with (first
        | (refine wpList_load_mid rfl 29 _ rfl g 0 rfl [.int .i64 p.k, .int .u64 p.s0, .int .u64 p.s1, .int .u64 p.s2, .int .u64 p.s3, .int .i64 p.mn, .int .i64 p.mx, .slice p.A m p.c] _ HR6.out Try.underlying29 rfl part_size8 ?_)
        | fail)
      go_at_call 7
      refine HC2'.out.mono ?_
      rintro e w7 ⟨hf7, h⟩
      have HF7 := Lib.hid hf7
      have he : e = .returned (.tuple #[.slice none 0 0, .int .i64 5]) := by
        rcases h with ⟨-, h⟩ | ⟨h, -⟩
        · exact h
        · have := HBG.out; omega
      subst he
      clear h hf7 HC2'
      go_wp2_with (first
        | (go_at_call 8; refine (code_errno 5 _ (by omega) (by omega)).mono ?_; rintro e w8 ⟨rfl, rfl⟩)
        | (go_at_call 9; refine (same_any (n := 0) (L := []) rfl (by omega) (StAt.nil_ _ _) (StAt.nil_ _ _)).mono ?_; rintro e w9 ⟨rfl, hf9⟩; have HF9 := Lib.hid hf9; clear hf9))
      go_ret
      exact ⟨rfl, HF2.out.trans (HF5.out.trans (HF6.out.trans (HF7.out.trans HF9.out)))⟩
    · have HSM := Lib.hid hsm; have HS1 := Lib.hid hs1
      clear hsm hs1
      go_wp2_with (first
        | (refine wpList_load_mid rfl 29 _ rfl g 0 rfl [.int .i64 p.k, .int .u64 p.s0, .int .u64 p.s1, .int .u64 p.s2, .int .u64 p.s3, .int .i64 p.mn, .int .i64 p.mx, .slice p.A m p.c] _ HR6.out Try.underlying29 rfl part_size8 ?_)
        | fail)
      go_at_call 7
      refine HC2'.out.mono ?_
      rintro e w7 ⟨hf7, h⟩
      have HF7 := Lib.hid hf7
      obtain ⟨A2, c2, he, hs2⟩ : ∃ A2 c2, e = .returned (.tuple #[.slice A2 (R + 1) c2, .int .i64 0]) ∧ StAt w7 A2 M := by
        rcases h with ⟨h, -⟩ | ⟨-, h⟩
        · have := HSM.out; omega
        · exact h
      subst he
      have HS2 := Lib.hid hs2
      clear h hf7 HC2' hs2
      obtain ⟨K, hK⟩ : ∃ K, K = R + 1 := ⟨_, rfl⟩
      have HK := Lib.hid hK
      rw [← hK]
      clear hK
      have HSA : Hid (∀ W, Fr [] w7 W → Calls Try.prog 9 #[.slice A1 K c1, .slice A2 K c2] W fun e w' => e = .returned (.bool true) ∧ Fr [] W w') := Lib.hid (fun W hW => same_any (by rw [HLEN.out, HK.out]) (by have := HSM.out; have := HK.out; omega) ((HS1.out.fr HF7.out).fr hW) (HS2.out.fr hW))
      have HVL : Hid (∀ W, Fr [] w7 W → Calls Try.prog 10 #[.slice A1 K c1] W fun e w' => e = .returned (.bool true) ∧ Fr [] W w') := Lib.hid (fun W hW => by
        have h := valid_any (c := c1) ((HS1.out.fr HF7.out).fr hW) (by rw [HLEN.out]; have := HSM.out; unfold maxLen; omega)
        rw [HLEN.out, HVA.out, ← HK.out] at h; exact h)
      clear HS1 HS2
      go_wp2_with (first
        | (go_at_call 8; refine (code_nil _).mono ?_; rintro e w8 ⟨rfl, rfl⟩)
        | (go_at_call 9; refine (HSA.out _ (Fr.refl _ _)).mono ?_; rintro e w9 ⟨rfl, hf9⟩; have HF9 := Lib.hid hf9; clear hf9)
        | (go_at_call 10; refine (HVL.out _ HF9.out).mono ?_; rintro e w10 ⟨rfl, hf10⟩; have HF10 := Lib.hid hf10; clear hf10))
      go_ret
      exact ⟨rfl, HF2.out.trans (HF5.out.trans (HF6.out.trans (HF7.out.trans (HF9.out.trans HF10.out))))⟩
set_option maxRecDepth 100000 in
theorem stepsOfTexts_open {H : Type} {enc : TypeId × Value → H} (W : World) (base : Nat) (v0 : Value) (d0 : DataW H) (p0 : List MemPlace)
    (k0 : Value.okWide Try.prog W .any base 22 v0)
    (h0 : DataW.Trod enc Try.prog W 0 (fun _ => true) true 22 v0 d0 p0) (hg : GlobOk W) :
    Calls Try.prog 3 #[v0] W fun e W' => e = .returned (.bool true) ∧ Below W.heap.size W W' := by
  obtain ⟨A1, c1, b1, rfl, g1, g2, g3, g4⟩ := arg_bytes k0 h0
  exact (stepsOfTexts_walk hg g4 g1 g3 g2).mono fun e W' ⟨h1, h2⟩ => ⟨h1, h2.below_nil⟩
end Go.Proofs.Ytehnkcfnflnpjaa
