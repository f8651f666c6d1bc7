/-
  The reference of numbers: Of, Same (of equal ones). No conditions but sizes.
-/
import Derived.Test.YtjfgopihfgljmaaDoorLr6
import Derived.Test.YtjfgopihfgljmaaDoorLr4
import Derived.Laws.Bits64b
namespace Go.Proofs.YtjfgopihfgljmaaDoor
open Go.RowKit
set_option linter.unusedVariables false
set_option linter.unusedSimpArgs false

/-- A number of the reference's in memory: its sign and digits. -/
def NumV (w : World) (v : List Value) (neg : Bool) (l : List Nat) : Prop := ∃ A c, v = [.bool neg, .slice A l.length c] ∧ l.length ≤ c ∧ At w A (ints l)
theorem shr_bit {h v i : Nat} (hv : v = h / 2 ^ (i + 1)) : 2 * v + h / 2 ^ i % 2 = h / 2 ^ i := by
  rw [hv, Nat.pow_succ, ← Nat.div_div_eq_div_mul]; omega
theorem bk_ne_fr {w w' : World} {g : Nat} {t : TypeId} {cs : Array Value} (h : Bk w g t cs) (hf : Fr [] w w') : Bk w' g t cs := h.fr hf (by simp)
theorem num_size : (Tryd.prog.info? 47).map (·.size) = some 2 := by kernel_rfl
theorem bit_at {h j : Nat} (hh : h < 18446744073709551616) : bits .and .u64 ((h : Int) / 2 ^ j) 1 = ((h / 2 ^ j % 2 : Nat) : Int) := by
  have h1 : ((h : Int) / 2 ^ j) = ((h / 2 ^ j : Nat) : Int) := by simp
  have h2 : h / 2 ^ j < 18446744073709551616 := Nat.lt_of_le_of_lt (Nat.div_le_self _ _) hh
  have h3 := bits_and_u64_nat (h / 2 ^ j) 1 h2 (by omega)
  rw [Nat.and_one_is_mod] at h3
  rw [h1]; exact h3
theorem low_bit {h l j : Nat} (hj : j < 64) : (h * 18446744073709551616 + l) / 2 ^ j % 2 = l / 2 ^ j % 2 := by
  obtain ⟨k, hk⟩ : ∃ k, 64 = j + (k + 1) := ⟨63 - j, by omega⟩
  have e : h * 18446744073709551616 = (h * 2 ^ k * 2) * 2 ^ j := by
    have : (18446744073709551616 : Nat) = 2 ^ 64 := rfl
    rw [this, hk, Nat.pow_add, Nat.pow_succ]
    rw [Nat.mul_comm (2 ^ j), ← Nat.mul_assoc, ← Nat.mul_assoc]
  rw [e, Nat.add_comm, Nat.add_mul_div_right _ _ (Nat.pow_pos (by omega))]
  omega
theorem digs_small {v : Nat} (h : v < 18446744073709551616 * 18446744073709551616) : (digs v).length ≤ 39 :=
  digs_len (Nat.lt_of_lt_of_le h (by decide))
set_option maxRecDepth 100000 in
set_option maxHeartbeats 8000000 in
theorem of_any {w : World} {neg : Bool} {hi lo : Nat} (h1 : hi < 18446744073709551616) (h2 : lo < 18446744073709551616) :
    Calls Tryd.prog 10 #[.agg #[.bool neg, .int .u64 (hi : Int), .int .u64 (lo : Int)]] w fun e w' => ∃ v, e = .returned (.agg v.toArray) ∧ NumV w' v neg (digs (hi * 18446744073709551616 + lo)) ∧ Fr [] w w' := by
  obtain ⟨V, hV⟩ : ∃ V, V = hi * 18446744073709551616 + lo := ⟨_, rfl⟩
  have HV := Lib.hid hV
  have hVl : V < 18446744073709551616 * 18446744073709551616 := by omega
  rw [← hV]
  clear hV
  go_enter Tryd.func10, Tryd.ntmps10
  go_upto_region 1 with fail
  obtain ⟨g, hg⟩ : ∃ g, g = w.heap.size := ⟨_, rfl⟩
  obtain ⟨w1, hw1⟩ : ∃ w1, w1 = (w.alloc (.cells #[.bool neg, .int .u64 (hi : Int), .int .u64 (lo : Int)] 41)).alloc (.cells #[.bool false, .slice none 0 0] 47) := ⟨_, rfl⟩
  have hb1 : Bk w1 g 41 #[.bool neg, .int .u64 (hi : Int), .int .u64 (lo : Int)] := by rw [hw1, hg]; exact (Bk.new w _ _).alloc _
  have hb2 : Bk w1 (g + 1) 47 #[.bool false, .slice none 0 0] := by
    rw [hw1, hg]; have h := Bk.new (w.alloc (.cells #[.bool neg, .int .u64 (hi : Int), .int .u64 (lo : Int)] 41)) 47 #[.bool false, .slice none 0 0]
    have e : ∀ o, (w.alloc o).heap.size = w.heap.size + 1 := fun o => by unfold World.alloc; simp only [Array.size_push]
    rw [e] at h; exact h
  have hf1 : Fr [] w w1 := by rw [hw1]; exact ((Fr.refl [] w).alloc _).alloc _
  rw [← hw1, ← hg]
  have HB1 := Lib.hid hb1; have HB2 := Lib.hid hb2; have HF1 := Lib.hid hf1; have HG := Lib.hid hg
  clear hw1 hb1 hb2 hf1 hg
  go_upto_region 3 with fail
  go_loopw [3, 4] (fun v3 v4 wr => ∃ (i : Nat) (A : Option Addr) (c : Nat), v4 = .int .i64 ((i : Int) - 1) ∧ i ≤ 64 ∧ v3 = .slice A (digs (hi / 2 ^ i)).length c ∧ (digs (hi / 2 ^ i)).length ≤ c ∧ (A = none → c = 0) ∧ At wr A (ints (digs (hi / 2 ^ i))) ∧ Fr [] w1 wr) (fun _ v4 _ => (intOf v4 + 1).toNat)
  case atStart => 
    have e : digs (hi / 2 ^ 64) = [] := digs_nil.2 (Nat.div_eq_of_lt h1)
    exact ⟨64, none, 0, by go_num, Nat.le_refl _, by rw [e]; rfl, by rw [e]; exact Nat.le_refl _, fun _ => rfl, by rw [e]; exact .inl rfl, Fr.refl _ _⟩
  case round =>
    obtain ⟨i, A, c, rfl, hi64, rfl, hlc, hAn, hat, hfr⟩ := hrel
    have HAT := Lib.hid hat; have HFR := Lib.hid hfr; have HNIL := Lib.hid hAn
    clear hat hfr hAn
    by_cases h0 : i = 0
    · subst h0
      obtain ⟨z, hz⟩ : ∃ z : Int, z = ((0 : Nat) : Int) - 1 := ⟨_, rfl⟩
      rw [← hz]
      have hz0 : ¬ (0 : Int) ≤ z := by omega
      clear hz
      rw [Nat.pow_zero, Nat.div_one] at hlc HAT ⊢
      obtain ⟨m, hm⟩ : ∃ m, m = (digs hi).length := ⟨_, rfl⟩
      rw [← hm] at hlc ⊢
      have HM := Lib.hid hm
      clear hm hi64
      have hV64 : V / 2 ^ 64 = hi := by rw [HV.out, show (2 : Nat) ^ 64 = 18446744073709551616 from rfl]; omega
      have HM2 : Hid (m = (digs (V / 2 ^ 64)).length) := Lib.hid (by rw [hV64]; exact HM.out)
      have HAT2 : Hid (At wr A (ints (digs (V / 2 ^ 64)))) := Lib.hid (by rw [hV64]; exact HAT.out)
      clear hV64
      go_upto_region 7 with fail
      go_loopw [3, 5] (fun v3 v5 wz => ∃ (i : Nat) (A : Option Addr) (c : Nat), v5 = .int .i64 ((i : Int) - 1) ∧ i ≤ 64 ∧ v3 = .slice A (digs (V / 2 ^ i)).length c ∧ (digs (V / 2 ^ i)).length ≤ c ∧ (A = none → c = 0) ∧ At wz A (ints (digs (V / 2 ^ i))) ∧ Fr [] w1 wz) (fun _ v5 _ => (intOf v5 + 1).toNat)
      case atStart => exact ⟨64, A, c, by go_num, Nat.le_refl _, by rw [HM2.out], by rw [← HM2.out]; exact hlc, HNIL.out, HAT2.out, HFR.out⟩
      case round =>
        clear hlc HNIL HAT HM HAT2 HM2
        have HFR0 := HFR
        clear HFR
        obtain ⟨i, A, c, rfl, hi64, rfl, hlc, hAn, hat, hfr⟩ := hrel
        have HAT := Lib.hid hat; have HFR := Lib.hid hfr; have HNIL := Lib.hid hAn
        clear hat hfr hAn
        by_cases h0 : i = 0
        · subst h0
          rw [Nat.pow_zero, Nat.div_one] at hlc HAT ⊢
          obtain ⟨m, hm⟩ : ∃ m, m = (digs V).length := ⟨_, rfl⟩
          have hm39 : m ≤ 39 := by rw [hm]; exact digs_small hVl
          rw [← hm] at hlc ⊢
          have HM := Lib.hid hm
          clear hm hi64
          have rb := HB1.out.fr HFR.out (by simp)
          have rb2 := HB2.out.fr HFR.out (by simp)
          have rlt := rb2.lt
          have rc0 := rb.cell_ (i := 0) rfl
          have HTK : Hid ((digs V).take (topD (digs V)) = digs V) := Lib.hid (by rw [take_topD _ (digs_lt V), valD_digs])
          have rf0 := rb2.frozen 0; have rf1 := rb2.frozen 1
          go_upto_region 10 with fail
          go_region_with (go_at_call 27; refine (cut_any (l := digs V) HM.out (by omega) hlc HNIL.out (by first | exact HAT.out | exact At.drew HAT.out | exact At.drewN HAT.out _)).mono ?_; rintro e w3 ⟨A3, c3, rfl, hle3, hat3, hf3, hnw3⟩; have HNW : Hid (∀ a, A3 = some a → g + 1 < a.block) := Lib.hid (fun a ha => Nat.lt_of_lt_of_le rlt (by first | exact hnw3 a ha)); rw [HTK.out] at hle3 hat3 ⊢; have HAT3 := Lib.hid hat3; have HF3 := Lib.hid hf3; have hf4 : Fr [] wr w3 := (by first | exact hf3 | exact ((Fr.refl [] wr).drew).trans hf3 | exact ((Fr.refl [] wr).drewN _).trans hf3); have rb3 := rb.fr hf4 (by simp); have rb4 := rb2.fr hf4 (by simp); have HF4 := Lib.hid hf4; have rlt3 := rb4.lt; have rcc := rb3.cell_ (i := 0) rfl; have rf2 := rb4.frozen 0; have rf3 := rb4.frozen 1; have rd0 := rb4.cell_ (i := 0) rfl; have rd1 := rb4.cell_ (i := 1) rfl; clear hat3 hf3 hf4 hnw3)
          all_goals
            have hbb := (rb4.put 0 (.bool neg)).put 1 (.slice A3 (digs V).length c3)
            have hle4 := hle3
            go_wp2_with fail
            refine ret_row_ (p := 2) (T := 47) rfl (g + 1) [.bool neg, .slice A3 (digs V).length c3] _ rfl hbb Tryd.underlying47 rfl num_size rfl ?_
            refine ⟨_, rfl, ⟨A3, c3, rfl, hle4, ?_⟩, ?_⟩
            · exact (HAT3.out.fr (((Fr.refl [g + 1] w3).setCell (.inl (by simp)) _).setCell (.inl (by simp)) _) (fun a ha hlt hm => by have := HNW.out a ha; simp at hm; omega))
            · exact ((HF1.out.trans (HFR.out.trans HF4.out)).setCell (.inr (by have := HG.out; simp; omega)) _).setCell (.inr (by have := HG.out; simp; omega)) _
        · obtain ⟨j, rfl⟩ : ∃ j, i = j + 1 := ⟨i - 1, by omega⟩
          obtain ⟨v, hv⟩ : ∃ v, v = V / 2 ^ (j + 1) := ⟨_, rfl⟩
          obtain ⟨b, hb⟩ : ∃ b, b = lo / 2 ^ j % 2 := ⟨_, rfl⟩
          have hb1 : b ≤ 1 := by omega
          have hbit : bits .and .u64 ((lo : Int) / 2 ^ j) 1 = (b : Int) := by rw [hb]; exact bit_at h2
          rw [← hv] at hlc HAT ⊢
          have hvl : v < 18446744073709551616 * 18446744073709551616 := by rw [hv]; exact Nat.lt_of_le_of_lt (Nat.div_le_self _ _) hVl
          have hdl : (digs v).length ≤ 39 := digs_small hvl
          have HNX : Hid (dblD (digs v) b = digs (V / 2 ^ j)) := Lib.hid (by
            rw [dbl_digs v b hb1, hb]
            congr 1
            have h3 := low_bit (h := hi) (l := lo) (j := j) (by omega)
            rw [← HV.out] at h3
            rw [← h3]; exact shr_bit hv)
          obtain ⟨m, hm⟩ : ∃ m, m = (digs v).length := ⟨_, rfl⟩
          rw [← hm] at hlc hdl ⊢
          have HM := Lib.hid hm
          have rb := HB1.out.fr HFR.out (by simp)
          have rlt := rb.lt
          have rc2 := rb.cell_ (i := 2) rfl
          clear hv hb hvl h0 hm
          go_wp2_with (go_at_call 26; refine (double_any (l := digs v) HM.out (by omega) (digs_lt v) hb1 HAT.out).mono ?_; rintro e w3 ⟨A3, c3, rfl, hown, hf3⟩; rw [HNX.out] at hown ⊢; have HOWN := Lib.hid hown; have HF3 := Lib.hid hf3; clear hown hf3)
          go_roundw
          case rel => exact ⟨j, A3, c3, by go_num, by omega, rfl, (own_room HOWN.out).1, (own_room HOWN.out).2.2, At.of_own HOWN.out, HFR.out.trans HF3.out⟩
          case measure => first | (simp [intOf]; done) | (simp [intOf]; omega)
    · obtain ⟨j, rfl⟩ : ∃ j, i = j + 1 := ⟨i - 1, by omega⟩
      obtain ⟨v, hv⟩ : ∃ v, v = hi / 2 ^ (j + 1) := ⟨_, rfl⟩
      obtain ⟨b, hb⟩ : ∃ b, b = hi / 2 ^ j % 2 := ⟨_, rfl⟩
      have hb1 : b ≤ 1 := by omega
      have hbit : bits .and .u64 ((hi : Int) / 2 ^ j) 1 = (b : Int) := by rw [hb]; exact bit_at h1
      rw [← hv] at hlc HAT ⊢
      have hvl : v < 18446744073709551616 := by rw [hv]; exact Nat.lt_of_le_of_lt (Nat.div_le_self _ _) h1
      have hdl : (digs v).length ≤ 39 := digs_small (by omega)
      have HNX : Hid (dblD (digs v) b = digs (hi / 2 ^ j)) := Lib.hid (by rw [dbl_digs v b hb1, hb]; congr 1; exact shr_bit hv)
      obtain ⟨m, hm⟩ : ∃ m, m = (digs v).length := ⟨_, rfl⟩
      rw [← hm] at hlc hdl ⊢
      have HM := Lib.hid hm
      have rb := HB1.out.fr HFR.out (by simp)
      have rlt := rb.lt
      have rc1 := rb.cell_ (i := 1) rfl
      clear hv hb hvl h0 hm
      go_wp2_with (go_at_call 26; refine (double_any (l := digs v) HM.out (by omega) (digs_lt v) hb1 HAT.out).mono ?_; rintro e w3 ⟨A3, c3, rfl, hown, hf3⟩; rw [HNX.out] at hown ⊢; have HOWN := Lib.hid hown; have HF3 := Lib.hid hf3; clear hown hf3)
      go_roundw
      case rel => exact ⟨j, A3, c3, by go_num, by omega, rfl, (own_room HOWN.out).1, (own_room HOWN.out).2.2, At.of_own HOWN.out, HFR.out.trans HF3.out⟩
      case measure => first | (simp [intOf]; done) | (simp [intOf]; omega)
set_option maxRecDepth 100000 in
set_option maxHeartbeats 4000000 in
theorem same_eq {w : World} {v u : List Value} {neg : Bool} {l : List Nat} (hl : l.length ≤ 1000) (hv : NumV w v neg l) (hu : NumV w u neg l) :
    Calls Tryd.prog 9 #[.agg v.toArray, .agg u.toArray] w fun e w' => e = .returned (.bool true) ∧ Fr [] w w' := by
  obtain ⟨A, c, rfl, hc, ha⟩ := hv
  obtain ⟨B, d, rfl, hd, hb⟩ := hu
  obtain ⟨n, hn⟩ : ∃ n, n = l.length := ⟨_, rfl⟩
  rw [← hn] at hl ⊢
  have HA := Lib.hid ha; have HB := Lib.hid hb; have HN := Lib.hid hn
  clear ha hb hn hc hd
  go_enter Tryd.func9, Tryd.ntmps9
  go_upto_region 1 with fail
  obtain ⟨g, hg⟩ : ∃ g, g = w.heap.size := ⟨_, rfl⟩
  obtain ⟨w1, hw1⟩ : ∃ w1, w1 = (w.alloc (.cells #[.bool neg, .slice A n c] 47)).alloc (.cells #[.bool neg, .slice B n d] 47) := ⟨_, rfl⟩
  have hb1 : Bk w1 g 47 #[.bool neg, .slice A n c] := by rw [hw1, hg]; exact (Bk.new w _ _).alloc _
  have hb2 : Bk w1 (g + 1) 47 #[.bool neg, .slice B n d] := by
    rw [hw1, hg]; have h := Bk.new (w.alloc (.cells #[.bool neg, .slice A n c] 47)) 47 #[.bool neg, .slice B n d]
    have e : ∀ o, (w.alloc o).heap.size = w.heap.size + 1 := fun o => by unfold World.alloc; simp only [Array.size_push]
    rw [e] at h; exact h
  have hf1 : Fr [] w w1 := by rw [hw1]; exact ((Fr.refl [] w).alloc _).alloc _
  rw [← hw1, ← hg]
  have HF1 := Lib.hid hf1; have HB1 := Lib.hid hb1; have HB2 := Lib.hid hb2
  have HC := Lib.hid (HA.out.fr_nil hf1); have HD := Lib.hid (HB.out.fr_nil hf1)
  have c0 : w1.cell? ⟨g, 0, none⟩ = some (.bool neg) := hb1.cell_ rfl; have c1 : w1.cell? ⟨g, 1, none⟩ = some (.slice A n c) := hb1.cell_ rfl; have d0 : w1.cell? ⟨g + 1, 0, none⟩ = some (.bool neg) := hb2.cell_ rfl; have d1 : w1.cell? ⟨g + 1, 1, none⟩ = some (.slice B n d) := hb2.cell_ rfl
  clear hw1 hb1 hb2 hf1 hg
  have HFC := HF1
  go_wp2_with (go_at_call 25; refine (less_eq HN.out hl (by first | exact HC.out | exact HD.out) (by first | exact HD.out | exact HC.out)).mono ?_; rintro e w2 ⟨rfl, hf2⟩; have HFC := Lib.hid (HFC.out.trans hf2); have HB1 := Lib.hid (HB1.out.fr hf2 (by simp)); have HB2 := Lib.hid (HB2.out.fr hf2 (by simp)); have e1 : w2.cell? ⟨g, 1, none⟩ = some (.slice A n c) := HB1.out.cell_ rfl; have f1 : w2.cell? ⟨g + 1, 1, none⟩ = some (.slice B n d) := HB2.out.cell_ rfl; have HC := Lib.hid (HC.out.fr_nil hf2); have HD := Lib.hid (HD.out.fr_nil hf2); clear hf2)
  go_ret
  exact ⟨rfl, HFC.out⟩
end Go.Proofs.YtjfgopihfgljmaaDoor
