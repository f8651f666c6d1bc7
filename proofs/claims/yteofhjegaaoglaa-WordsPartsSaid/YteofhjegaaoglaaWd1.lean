/-
  words.Substr: of texts of at most 1000000 bytes. No other conditions.
-/
import Derived.Test.YteofhjegaaoglaaRows
import Derived.Test.YteofhjegaaoglaaOwn
import Derived.LoopTactic
import Derived.Deep.Cut
namespace Go.Proofs.Yteofhjegaaoglaa
open Go.RowKit
set_option linter.unusedVariables false
set_option linter.unusedSimpArgs false

def behM (n : Nat) (fr ct : Int) (all : Bool) : Int := if all = true then (n : Int) + 1 else min ((n : Int) + 1) (fr + ct)
def subM (s : List UInt8) (fr ct : Int) (all : Bool) : List UInt8 :=
  if all = false ∧ ct ≤ 0 ∨ behM s.length fr ct all ≤ max fr 1 then [] else (s.drop (max fr 1 - 1).toNat).take (behM s.length fr ct all - max fr 1).toNat
theorem sub_tail (s : List UInt8) (a b : Nat) (hab : a ≤ b) : (⟨s.toArray⟩ : ByteArray).extract a b = ⟨((s.drop a).take (b - a)).toArray⟩ := ba_extract s a b
set_option maxRecDepth 100000 in
set_option maxHeartbeats 2000000 in
theorem substr_any (w : World) (s : List UInt8) (fr ct : Int) (hf : -9223372036854775808 ≤ fr ∧ fr ≤ 9223372036854775807) (hc : -9223372036854775808 ≤ ct ∧ ct ≤ 9223372036854775807) (hs : s.length ≤ 1000000) (all : Bool) :
    Calls Try.prog 9 #[.string ⟨s.toArray⟩, .int .i64 fr, .int .i64 ct, .bool all] w fun e w' => e = .returned (.string ⟨(subM s fr ct all).toArray⟩) ∧ w = w' := by
  obtain ⟨p, hp⟩ : ∃ p, max fr 1 = p := ⟨_, rfl⟩
  have hp1 : 1 ≤ p ∧ p ≤ 9223372036854775807 := by omega
  have hpf : fr ≤ p := by omega
  have HP := Lib.hid hp
  clear hp
  cases all with
  | true =>
    obtain ⟨bh, hbh⟩ : ∃ bh, (s.length : Int) + 1 = bh := ⟨_, rfl⟩
    have HBH := Lib.hid (show behM s.length fr ct true = bh from hbh)
    go_enter Try.func9, Try.ntmps9
    go_upto_region 8 with (refine wpList_max rfl (.tmp 28) (.const (.int .i64 1)) _ rfl .i64 _ _ _ (by rfl) (by rfl) HP.out ?_)
    by_cases hx : bh ≤ p
    · have t5 : decide (bh ≤ p) = true := decide_eq_true hx
      have HR := Lib.hid (show subM s fr ct true = [] from by unfold subM; rw [HBH.out, HP.out, if_pos (.inr hx)])
      clear hx
      go_wp2_with fail
      go_ret
      exact ⟨by (rw [HR.out]; first | done | rfl), rfl⟩
    · have t5 : decide (bh ≤ p) = false := decide_eq_false hx
      have HR := Lib.hid (show subM s fr ct true = (s.drop (p - 1).toNat).take (bh - p).toNat from by unfold subM; rw [HBH.out, HP.out, if_neg (by rintro (h | h); cases h.1; exact hx h)])
      obtain ⟨a, ha⟩ : ∃ a : Nat, p = (a : Int) + 1 := ⟨(p - 1).toNat, by omega⟩
      obtain ⟨b, hb⟩ : ∃ b : Nat, bh = (b : Int) + 1 := ⟨(bh - 1).toNat, by omega⟩
      have s1 : p - 1 = (a : Int) := by omega
      have s2 : bh - 1 = (b : Int) := by omega
      have hab : a ≤ b ∧ b ≤ s.length := by omega
      have HRR := Lib.hid (show subM s fr ct true = (s.drop a).take (b - a) from by rw [HR.out, show (p - 1).toNat = a by omega, show (bh - p).toNat = b - a by omega])
      clear HR
      go_wp2_with fail
      go_ret
      exact ⟨by (rw [HRR.out, ← ba_extract]; first | done | rfl), rfl⟩
  | false =>
    by_cases h0 : ct ≤ 0
    · have t0 : decide (ct ≤ 0) = true := decide_eq_true h0
      have HR := Lib.hid (show subM s fr ct false = [] from by unfold subM; rw [if_pos (.inl ⟨rfl, h0⟩)])
      clear h0
      go_enter Try.func9, Try.ntmps9
      go_wp2_with fail
      go_ret
      exact ⟨by (rw [HR.out]; first | done | rfl), rfl⟩
    have t0 : decide (ct ≤ 0) = false := decide_eq_false h0
    obtain ⟨bh, hbh⟩ : ∃ bh, min ((s.length : Int) + 1) (fr + ct) = bh := ⟨_, rfl⟩
    have HBH := Lib.hid (show behM s.length fr ct false = bh from hbh)
    have hbb : bh ≤ (s.length : Int) + 1 ∧ bh ≤ fr + ct := by omega
    by_cases h1 : fr ≤ 9223372036854775807 - ct
    · have t1 : decide (fr ≤ 9223372036854775807 - ct) = true := decide_eq_true h1
      have HMN := Lib.hid hbh
      clear hbh
      go_enter Try.func9, Try.ntmps9
      go_upto_region 8 with first | (refine wpList_min rfl (.tmp 23) (.tmp 26) _ rfl .i64 _ _ _ (by rfl) (by rfl) HMN.out ?_) | (refine wpList_max rfl (.tmp 28) (.const (.int .i64 1)) _ rfl .i64 _ _ _ (by rfl) (by rfl) HP.out ?_)
      by_cases hx : bh ≤ p
      · have t5 : decide (bh ≤ p) = true := decide_eq_true hx
        have HR := Lib.hid (show subM s fr ct false = [] from by unfold subM; rw [HBH.out, HP.out, if_pos (.inr hx)])
        clear hx
        go_wp2_with fail
        go_ret
        exact ⟨by (rw [HR.out]; first | done | rfl), rfl⟩
      · have t5 : decide (bh ≤ p) = false := decide_eq_false hx
        have HR := Lib.hid (show subM s fr ct false = (s.drop (p - 1).toNat).take (bh - p).toNat from by unfold subM; rw [HBH.out, HP.out, if_neg (by rintro (h | h); exact h0 h.2; exact hx h)])
        obtain ⟨a, ha⟩ : ∃ a : Nat, p = (a : Int) + 1 := ⟨(p - 1).toNat, by omega⟩
        obtain ⟨b, hb⟩ : ∃ b : Nat, bh = (b : Int) + 1 := ⟨(bh - 1).toNat, by omega⟩
        have s1 : p - 1 = (a : Int) := by omega
        have s2 : bh - 1 = (b : Int) := by omega
        have hab : a ≤ b ∧ b ≤ s.length := by omega
        have HRR := Lib.hid (show subM s fr ct false = (s.drop a).take (b - a) from by rw [HR.out, show (p - 1).toNat = a by omega, show (bh - p).toNat = b - a by omega])
        clear HR
        go_wp2_with fail
        go_ret
        exact ⟨by (rw [HRR.out, ← ba_extract]; first | done | rfl), rfl⟩
    · have t1 : decide (fr ≤ 9223372036854775807 - ct) = false := decide_eq_false h1
      have hbe : (s.length : Int) + 1 = bh := by omega
      clear hbh
      go_enter Try.func9, Try.ntmps9
      go_upto_region 8 with (refine wpList_max rfl (.tmp 28) (.const (.int .i64 1)) _ rfl .i64 _ _ _ (by rfl) (by rfl) HP.out ?_)
      by_cases hx : bh ≤ p
      · have t5 : decide (bh ≤ p) = true := decide_eq_true hx
        have HR := Lib.hid (show subM s fr ct false = [] from by unfold subM; rw [HBH.out, HP.out, if_pos (.inr hx)])
        clear hx
        go_wp2_with fail
        go_ret
        exact ⟨by (rw [HR.out]; first | done | rfl), rfl⟩
      · have t5 : decide (bh ≤ p) = false := decide_eq_false hx
        have HR := Lib.hid (show subM s fr ct false = (s.drop (p - 1).toNat).take (bh - p).toNat from by unfold subM; rw [HBH.out, HP.out, if_neg (by rintro (h | h); exact h0 h.2; exact hx h)])
        obtain ⟨a, ha⟩ : ∃ a : Nat, p = (a : Int) + 1 := ⟨(p - 1).toNat, by omega⟩
        obtain ⟨b, hb⟩ : ∃ b : Nat, bh = (b : Int) + 1 := ⟨(bh - 1).toNat, by omega⟩
        have s1 : p - 1 = (a : Int) := by omega
        have s2 : bh - 1 = (b : Int) := by omega
        have hab : a ≤ b ∧ b ≤ s.length := by omega
        have HRR := Lib.hid (show subM s fr ct false = (s.drop a).take (b - a) from by rw [HR.out, show (p - 1).toNat = a by omega, show (bh - p).toNat = b - a by omega])
        clear HR
        go_wp2_with fail
        go_ret
        exact ⟨by (rw [HRR.out, ← ba_extract]; first | done | rfl), rfl⟩
end Go.Proofs.Yteofhjegaaoglaa
