/-
  The walk of FieldsBack. Of fewer than 4294967281 bytes (a bound of the model; the law asks less). (Printed by tools/genfdb.py.)
-/
import Derived.Test.YtokamlobppejhaaDoorFdN
import Derived.Test.YtokamlobppejhaaDoorFdJ
import Derived.Test.YtokamlobppejhaaDoorDrawn
import Derived.Deep.QuietTactic
import Derived.BigQuiet
namespace Go.Proofs.YtokamlobppejhaaDoor
open Go.RowKit Go.ChangeShapes Go.WideShapes Go.ChangeAt Go.Deep
set_option linter.unusedVariables false
set_option linter.unusedSimpArgs false

/-- A list of strings that came in. -/
def ArgL (w : World) (A : Option Addr) (l : List (List UInt8)) : Prop := ∀ i, i < l.length → ∃ b off, A = some ⟨b, off, none⟩ ∧ b < w.heap.size ∧ w.cell? ⟨b, off + i, none⟩ = some (.string ⟨(l.getD i []).toArray⟩) ∧ (l.getD i []).length ≤ maxLen
theorem ArgL.fr {w w' : World} {A : Option Addr} {l : List (List UInt8)} (h : ArgL w A l) (hf : Fr [] w w') : ArgL w' A l := by
  intro i hi
  obtain ⟨b, off, hA, hb, hc, hm⟩ := h i hi
  exact ⟨b, off, hA, Nat.lt_of_lt_of_le hb hf.size, (hf.cell (p := ⟨b, off + i, none⟩) hb (by simp)).trans hc, hm⟩
theorem str_c : Tryd.prog.cellsOf 9 = 1 := by kernel_rfl
set_option maxRecDepth 100000 in
theorem arg_strs {H : Type} {enc : TypeId × Value → H} {w : World} {base base' : Nat} {spare : Nat → Bool} {held : Bool} {r : Reach} {v : Value} {d : DataW H} {p : List MemPlace}
    (hv : Value.okWide Tryd.prog w r base' 34 v) (h : DataW.Trod enc Tryd.prog w base spare held 34 v d p) : ∃ (A : Option Addr) (c : Nat) (l : List (List UInt8)), v = .slice A l.length c ∧ l.length ≤ maxLen ∧ ArgL w A l := by
  obtain ⟨A, n, c, rfl, h1, h2, h3, hi⟩ := arg_slice Tryd.underlying34 (by rw [str_c]; omega) hv h
  rw [str_c] at hi
  have hx : ∀ i, i < n → ∃ x : List UInt8, ∃ b off, A = some ⟨b, off, none⟩ ∧ b < w.heap.size ∧ w.cell? ⟨b, off + i, none⟩ = some (.string ⟨x.toArray⟩) ∧ x.length ≤ maxLen := by
    intro i hil
    obtain ⟨b, off, es, hA, hb, hel, hcell, hrd⟩ := hi i hil
    obtain ⟨s, rfl, hs⟩ := hrd.string_ Tryd.underlying9
    have := hcell 0 (by omega)
    simp only [Nat.mul_one, Nat.add_zero] at this
    exact ⟨s.data.toList, b, off, hA, hb, by rw [← ba_of]; exact this, hs⟩
  obtain ⟨f, hf⟩ := choose_lt (α := List UInt8) hx
  refine ⟨A, c, (List.range n).map f, by simp, by simp; omega, fun i hi => ?_⟩
  simp at hi
  have e : ((List.range n).map f).getD i [] = f i := by simp [hi]
  rw [e]
  exact hf i hi
/-- The record behind so many fields. -/
def bkR (c : UInt8) (l : List (List UInt8)) : Rc := ⟨1, c, [c], Lib.join l [c], l⟩
theorem put_take (l : List (List UInt8)) (i : Nat) (hi : i < l.length) : putM (l.take i) (i + 1) (l.getD i []) = l.take (i + 1) := by
  have hl : (l.take i).length = i := by rw [List.length_take]; omega
  unfold putM padM
  rw [hl, Nat.max_eq_left (by omega), List.take_of_length_le (by omega), Nat.add_sub_cancel, Nat.add_sub_cancel_left]
  have : (l.take i ++ List.replicate 1 []).set i (l.getD i []) = l.take i ++ [l.getD i []] := by
    rw [List.set_append_right _ _ (by omega), hl]; simp
  rw [this, List.take_add_one]
  simp [hi]
theorem lens_bound (l : List (List UInt8)) (m : Nat) (h : ∀ q, q < l.length → (l.getD q []).length ≤ m) : ∀ i, i ≤ l.length → Lib.lens (l.take i) ≤ m * i
  | 0, _ => by simp [Lib.lens]
  | i + 1, hi => by
    have ih := lens_bound l m h i (by omega)
    rw [Lib.lens_take_succ l i (l.getD i []) (by simp [show i < l.length by omega]), Nat.mul_succ]
    have := h i (by omega)
    omega
/-- Where the first loop stands. -/
def BkRel (w : World) (g : Nat) (c : UInt8) (l : List (List UInt8)) (i : Nat) (wr : World) : Prop :=
  RcM wr g (bkR c (l.take i)) ∧ Fr [] w wr ∧ ∀ q, q < i → (l.getD q []).length ≤ 60 ∧ c ∉ l.getD q []
theorem lens_take60 (l : List (List UInt8)) (i : Nat) (hi : i ≤ l.length) (h : ∀ q, q < i → (l.getD q []).length ≤ 60) : Lib.lens (l.take i) ≤ 60 * i := by
  have := lens_bound (l.take i) 60 (fun q hq => by
    rw [List.length_take] at hq
    have e : (l.take i).getD q [] = l.getD q [] := by simp [List.getD_eq_getElem?_getD, List.getElem?_take, show q < i by omega]
    rw [e]; exact h q (by omega)) i (by rw [List.length_take]; omega)
  rwa [List.take_take, Nat.min_self] at this
theorem not_mem_getD (c : UInt8) (s : List UInt8) (h : ∀ q, q < s.length → s.getD q 0 ≠ c) : c ∉ s := by
  intro hm
  obtain ⟨q, hq, e⟩ := List.getElem_of_mem hm
  exact h q hq (by simp [hq, e])
set_option maxRecDepth 100000 in
set_option maxHeartbeats 8000000 in
theorem back_walk {w : World} (hg : GlobOk w) {A : Option Addr} {cp : Nat} {l : List (List UInt8)} (ha : ArgL w A l) (hl : l.length ≤ maxLen) (c : UInt8) :
    Calls Tryd.prog 5 #[.slice A l.length cp, .int .u8 (c.toNat : Int)] w fun e w' => e = .returned (.bool true) ∧ Fr [] w w' := by
  unfold maxLen at hl
  have HG := Lib.hid hg; have HA := Lib.hid ha; clear hg ha
  obtain ⟨cn, hcn⟩ : ∃ cn, c.toNat = cn := ⟨_, rfl⟩
  rw [hcn]
  go_enter Tryd.func5, Tryd.ntmps5
  go_wp2_with fail
  go_at_call 6
  refine (awake_any w).mono ?_
  rintro e w1 ⟨rfl, hf1⟩
  have HF1 := Lib.hid hf1; clear hf1
  by_cases h20 : 20 < l.length
  · have t0 : decide ((20 : Int) < (l.length : Int)) = true := decide_eq_true (by omega)
    go_wp2_with fail
    go_ret
    exact ⟨rfl, HF1.out⟩
  have t0 : decide ((20 : Int) < (l.length : Int)) = false := decide_eq_false (by omega)
  by_cases h2 : l.length < 2
  · have t1 : decide ((l.length : Int) < 2) = true := decide_eq_true (by omega)
    go_wp2_with fail
    go_ret
    exact ⟨rfl, HF1.out⟩
  have t1 : decide ((l.length : Int) < 2) = false := decide_eq_false (by omega)
  by_cases h32 : cn = 32
  · subst h32
    go_wp2_with fail
    go_ret
    exact ⟨rfl, HF1.out⟩
  have t2 : ((cn : Int) == 32) = false := beq_eq_false_iff_ne.2 (by omega)
  by_cases h92 : cn = 92
  · subst h92
    go_wp2_with fail
    go_ret
    exact ⟨rfl, HF1.out⟩
  have t3 : ((cn : Int) == 92) = false := beq_eq_false_iff_ne.2 (by omega)
  have hc32 : c ≠ 32 := fun e => h32 (by rw [← hcn, e]; rfl)
  have hc92 : c ≠ 92 := fun e => h92 (by rw [← hcn, e]; rfl)
  have hl20 : l.length ≤ 20 := by omega
  have hl2 : 2 ≤ l.length := by omega
  have HCN := Lib.hid hcn
  clear h20 h2 h32 h92 hcn
  go_wp2_with fail
  go_at_call 7
  refine (fnew_any w1).mono ?_
  rintro e w2 ⟨rfl, hr2, hf2, -⟩
  obtain ⟨g, hge⟩ : ∃ g, w1.heap.size = g := ⟨_, rfl⟩
  have hgw : w.heap.size ≤ g := by rw [← hge]; exact HF1.out.size
  rw [hge] at hr2 ⊢
  have HR2 := Lib.hid hr2; have HF2 := Lib.hid (HF1.out.trans hf2)
  clear hr2 hf2 hge HF1
  go_wp2_with (refine wpList_str rfl 35 9 (.tmp 30) rfl 5 Tryd.underlying35 Tryd.underlying5 Tryd.underlying9 (some ⟨w2.heap.size, 0, none⟩) 1 1 (by rfl) [c] (At.of_bk (n := 1) (xs := byteVals [c]) (Bk.new w2 5 #[.int .u8 (cn : Int)]) (by rw [← HCN.out]; simp [byteVals])) rfl ?_)
  go_at_call 13
  refine calls_gen fun V hV => ?_
  have hfV : Fr [] w2 V := by rw [hV]; exact (Fr.refl _ _).alloc _
  have HRV := Lib.hid (HR2.out.fr_nil hfV); have HFV := Lib.hid (HF2.out.trans hfV)
  clear hV hfV HR2 HF2
  refine (sepr_one HRV.out c hc32 hc92).mono ?_
  rintro e w3 ⟨rfl, hr3, hf3⟩
  have HR3 := Lib.hid hr3; have HF3 := Lib.hid (trans_new HFV.out hf3 hgw)
  clear hr3 hf3 HRV HFV
  go_wp2_with fail
  go_at_call 14
  have hj := join_any HR3.out [c]
  refine hj.mono ?_
  clear hj
  rintro e w4 ⟨rfl, hr4, hf4⟩
  have hr4' : RcM w4 g (bkR c (l.take 0)) := hr4
  have HB4 : Hid (BkRel w g c l 0 w4) := Lib.hid ⟨hr4', trans_new HF3.out hf4 hgw, fun q hq => absurd hq (by omega)⟩
  clear hr4 hr4' hf4 HR3 HF3
  go_wp2_with fail
  go_loopw [7] (fun v7 wr => ∃ i : Nat, v7 = .int .i64 (i : Int) ∧ i ≤ l.length ∧ BkRel w g c l i wr) (fun v7 _ => l.length + 1 - (intOf v7).toNat)
  case atStart => exact ⟨0, rfl, by omega, HB4.out⟩
  case round =>
    obtain ⟨i, rfl, hi, hrel⟩ := hrel
    have HB := Lib.hid hrel
    clear hrel HB4
    by_cases hlt : i < l.length
    · obtain ⟨b, off, rfl, hb, hc, hm⟩ := (HA.out.fr HB.out.2.1) i hlt
      obtain ⟨s, hs⟩ : ∃ s, l.getD i [] = s := ⟨_, rfl⟩
      rw [hs] at hc hm
      have HS := Lib.hid hs; clear hs
      unfold maxLen at hm
      by_cases h60 : 60 < s.length
      · have u0 : decide ((60 : Int) < (s.length : Int)) = true := decide_eq_true (by omega)
        go_wp2_with fail
        go_ret
        exact ⟨rfl, HB.out.2.1⟩
      have u0 : decide ((60 : Int) < (s.length : Int)) = false := decide_eq_false (by omega)
      go_wp2_with fail
      go_loop [8] (fun v8 => ∃ j : Nat, v8 = .int .i64 (j : Int) ∧ j ≤ s.length ∧ ∀ q, q < j → s.getD q 0 ≠ c) (fun v8 => s.length + 1 - (intOf v8).toNat)
      case atStart => exact ⟨0, rfl, by omega, fun q hq => absurd hq (by omega)⟩
      case round =>
        obtain ⟨j, rfl, hj, hq⟩ := hrel
        have HQ := Lib.hid hq; clear hq
        by_cases hjl : j < s.length
        · have hidx := idx_str s j hjl
          by_cases he : s.getD j 0 = c
          · rw [he, HCN.out] at hidx
            go_wp2_with fail
            go_ret
            exact ⟨rfl, HB.out.2.1⟩
          · obtain ⟨m, hm2⟩ : ∃ m, (s.getD j 0).toNat = m := ⟨_, rfl⟩
            rw [hm2] at hidx
            have hmc : ((m : Int) == (cn : Int)) = false := beq_eq_false_iff_ne.2 (fun e => he (UInt8.toNat_inj.1 (by rw [hm2, HCN.out]; omega)))
            have HE := Lib.hid he
            clear he hm2
            go_wp2_with fail
            go_round
            case rel => exact ⟨j + 1, by go_num, by omega, fun q hq => by
              rcases Nat.lt_or_ge q j with h | h
              · exact HQ.out q h
              · obtain rfl : q = j := by omega
                exact HE.out⟩
            case measure => first | (simp [intOf]; done) | (simp [intOf]; omega)
        · have hns : c ∉ s := not_mem_getD c s (fun q hq => HQ.out q (by omega))
          have HNS := Lib.hid hns; clear hns
          have hss : ∀ q, q < i + 1 → (l.getD q []).length ≤ 60 ∧ c ∉ l.getD q [] := fun q hq => by
            rcases Nat.lt_or_ge q i with h | h
            · exact HB.out.2.2 q h
            · obtain rfl : q = i := by omega
              rw [HS.out]; exact ⟨by omega, HNS.out⟩
          have hlen := lens_take60 l i (by omega) (fun q hq => (HB.out.2.2 q hq).1)
          have htl : (l.take i).length = i := by rw [List.length_take]; omega
          have HSS := Lib.hid hss; clear hss
          have hpt := put_take l i hlt
          rw [HS.out] at hpt
          have hput := put_ok HB.out.1 (i + 1) (by omega) (by omega) (by show (l.take i).length ≤ 1000; omega) s (by show 1 * max (i + 1) (l.take i).length + Lib.lens (l.take i) + s.length ≤ 65536; omega) (bkR c (l.take (i + 1))) (by rw [← hpt]; rfl)
          have hci : ((i + 1 : Nat) : Int) = (i : Int) + 1 := by omega
          rw [hci] at hput
          have HPUT := Lib.hid hput
          clear hput hlen htl hpt hci
          go_wp2_with fail
          go_at_call 11
          refine HPUT.out.mono ?_
          rintro e w5 ⟨rfl, hr5, hf5⟩
          have HB5 : Hid (BkRel w g c l (i + 1) w5) := Lib.hid ⟨hr5, trans_new HB.out.2.1 hf5 hgw, HSS.out⟩
          clear hr5 hf5 HPUT
          go_wp2_with fail
          go_roundw
          case rel => exact ⟨i + 1, by go_num, by omega, HB5.out⟩
          case measure => first | (simp [intOf]; done) | (simp [intOf]; omega)
    · obtain rfl : i = l.length := by omega
      have hr := HB.out.1
      rw [List.take_length] at hr
      have HR := Lib.hid hr; clear hr
      have hcut : cutM (Lib.join l [c]) c = l := by
        unfold cutM
        have hne : l ≠ [] := by rintro rfl; simp at hl2
        have hjl := join_len l [c]
        have : Lib.join l [c] ≠ [] := by intro e; rw [e] at hjl; simp only [List.length_nil, List.length_cons] at hjl; omega
        rw [if_neg this]
        exact cut_join c l hne (fun y hy => by
          obtain ⟨q, hq, e⟩ := List.getElem_of_mem hy
          have := (HB.out.2.2 q hq).2
          simp [hq, e] at this
          exact this)
      have hlen := lens_take60 l l.length (by omega) (fun q hq => (HB.out.2.2 q hq).1)
      rw [List.take_length] at hlen
      have hjl : (Lib.join l [c]).length ≤ 65536 := by rw [join_len]; simp; omega
      obtain ⟨tx, htx⟩ : ∃ tx, Lib.join l [c] = tx := ⟨_, rfl⟩
      have hx : bkR c l = ⟨1, c, [c], tx, l⟩ := by rw [← htx]; rfl
      rw [hx] at HR
      rw [htx] at hcut hjl
      have HGR := Lib.hid (HG.out.fr HB.out.2.1)
      have HCUT := Lib.hid hcut
      clear hcut hlen hx htx
      go_wp2_with fail
      go_at_call 9
      refine (get_any HR.out 0).mono ?_
      rintro e w5 ⟨rfl, rfl⟩
      rw [getM_zero]
      go_wp2_with fail
      go_at_call 8
      refine (set_ok HR.out (.inr ⟨rfl, HGR.out⟩) tx hjl (by show (cutM tx c).length ≤ 1000; rw [HCUT.out]; omega) ⟨1, c, [c], tx, l⟩ (by show (⟨1, c, [c], tx, cutM tx c⟩ : Rc) = _; rw [HCUT.out])).mono ?_
      rintro e w6 ⟨rfl, hr6, hf6⟩
      have HR6 := Lib.hid hr6; have HF6 := Lib.hid (trans_new HB.out.2.1 hf6 hgw)
      clear hr6 hf6 HR
      go_wp2_with fail
      go_at_call 10
      refine (count_any HR6.out).mono ?_
      rintro e w7 ⟨rfl, rfl⟩
      go_wp2_with fail
      go_loopw [9] (fun v9 wr => ∃ i : Nat, v9 = .int .i64 (i : Int) ∧ i ≤ l.length ∧ RcM wr g ⟨1, c, [c], tx, l⟩ ∧ Fr [] w wr) (fun v9 _ => l.length + 1 - (intOf v9).toNat)
      case atStart => exact ⟨0, rfl, by omega, HR6.out, HF6.out⟩
      case round =>
        obtain ⟨i, rfl, hi, hr7, hf7⟩ := hrel
        have HR7 := Lib.hid hr7; have HF7 := Lib.hid hf7
        clear hr7 hf7
        by_cases hlt : i < l.length
        · obtain ⟨b, off, rfl, hb, hc, hm⟩ := (HA.out.fr HF7.out) i hlt
          obtain ⟨s, hs⟩ : ∃ s, l.getD i [] = s := ⟨_, rfl⟩
          rw [hs] at hc
          have hgm : getM tx l ((i : Int) + 1) = s := by
            have := getM_nat tx l (i + 1) (by omega)
            rw [show ((i + 1 : Nat) : Int) = (i : Int) + 1 by omega] at this
            rw [this]; simpa using hs
          have hget : ∀ W, W = wr.drew → Calls Tryd.prog 9 #[.pointer (some ⟨g, 0, none⟩), .int .i64 ((i : Int) + 1)] W fun e w' => e = .returned (.string ⟨s.toArray⟩) ∧ W = w' := by
            rintro W rfl
            have := get_any (HR7.out.fr_nil ((Fr.refl [] wr).drew)) ((i : Int) + 1)
            rwa [show getM (⟨1, c, [c], tx, l⟩ : Rc).text (⟨1, c, [c], tx, l⟩ : Rc).l ((i : Int) + 1) = s from hgm] at this
          have HGET := Lib.hid hget
          have hiI : (i : Int) < (l.length : Int) := by omega
          have hwi : IntKind.i64.wrap ((i : Int) + 1) = (i : Int) + 1 := by rw [IntKind.wrap_i64]; omega
          clear hgm hget hs
          go_upto_region 27 with fail
          refine wp_region_M_ (G := fun a b => a = b) (S := fun W => W = wr.drew) ⟨fun _ => rfl, fun a b c h k => h.trans k, fun a b h k => k ▸ h, by kernel_rfl, fun _ _ d _ _ h => by cases d <;> exact h⟩ (by kernel_rfl) fun su => ?_
          have SU := Lib.hid su
          have HS : Hid (wr.drew = wr.drew) := Lib.hid rfl
          clear su
          refine M_move (i := 0) _ SU.out rfl rfl (by kernel_rfl) HS.out rfl ?_
          simp only [Act.put, Act.eval, Array.getD_eq_getD_getElem?, List.setIfInBounds_toArray, List.set_cons_zero, List.set_cons_succ, List.getElem?_toArray, List.getElem?_cons_zero, List.getElem?_cons_succ, Option.getD_some]
          refine M_move (i := 1) _ SU.out rfl rfl (by kernel_rfl) HS.out rfl ?_
          simp only [Act.put, Act.eval, Array.getD_eq_getD_getElem?, List.setIfInBounds_toArray, List.set_cons_zero, List.set_cons_succ, List.getElem?_toArray, List.getElem?_cons_zero, List.getElem?_cons_succ, Option.getD_some]
          refine M_val (i := 2) (v := .int .i64 ((i : Int) + 1)) SU.out rfl (by kernel_rfl) HS.out rfl (fun W hS => ?_) ?_
          · obtain rfl := hS
            go_simp
            all_goals first | done | rfl | omega | (simp; done) | (simp; omega)
          simp only [Act.put, List.setIfInBounds_toArray, List.set_cons_zero, List.set_cons_succ]
          refine M_call (i := 3) SU.out rfl (by kernel_rfl) HS.out rfl (fun W hS => HGET.out W hS) (fun W => ?_) ?_
          · go_simp
            first | done | rfl
          simp only [Act.put, List.setIfInBounds_toArray, List.set_cons_zero, List.set_cons_succ]
          refine M_move (i := 4) _ SU.out rfl rfl (by kernel_rfl) HS.out rfl ?_
          simp only [Act.put, Act.eval, Array.getD_eq_getD_getElem?, List.setIfInBounds_toArray, List.set_cons_zero, List.set_cons_succ, List.getElem?_toArray, List.getElem?_cons_zero, List.getElem?_cons_succ, Option.getD_some]
          refine M_move (i := 5) _ SU.out rfl rfl (by kernel_rfl) HS.out rfl ?_
          simp only [Act.put, Act.eval, Array.getD_eq_getD_getElem?, List.setIfInBounds_toArray, List.set_cons_zero, List.set_cons_succ, List.getElem?_toArray, List.getElem?_cons_zero, List.getElem?_cons_succ, Option.getD_some]
          refine M_val (i := 6) (v := ?_) SU.out rfl (by kernel_rfl) HS.out rfl (fun W hS => ?_) ?_
          rotate_left
          · obtain rfl := hS
            go_simp
            all_goals first | done | rfl | omega | (simp; done) | (simp; omega)
          simp only [Act.put, List.setIfInBounds_toArray, List.set_cons_zero, List.set_cons_succ]
          refine M_val (i := 7) (v := .string ⟨s.toArray⟩) SU.out rfl (by kernel_rfl) HS.out rfl (fun W hS => ?_) ?_
          · obtain rfl := hS
            go_simp
            all_goals first | done | rfl | omega | (simp; done) | (simp; omega)
          simp only [Act.put, List.setIfInBounds_toArray, List.set_cons_zero, List.set_cons_succ]
          refine M_val (i := 8) (v := .bool false) SU.out rfl (by kernel_rfl) HS.out rfl (fun W hS => ?_) ?_
          · obtain rfl := hS
            go_simp
            all_goals first | done | rfl | omega | (simp; done) | (simp; omega)
          simp only [Act.put, List.setIfInBounds_toArray, List.set_cons_zero, List.set_cons_succ]
          refine wpAnyM_done (by kernel_rfl) (fun w' hG => ?_)
          obtain rfl := hG
          go_wp2_with fail
          go_roundw
          case rel => exact ⟨i + 1, by go_num, by omega, HR7.out.fr_nil ((Fr.refl [] wr).drew), HF7.out.drew⟩
          case measure => first | (simp [intOf]; done) | (simp [intOf]; omega)
        · go_wp2_with fail
          go_ret
          exact ⟨rfl, HF7.out⟩
set_option maxRecDepth 100000 in
theorem fieldsBack_open {H : Type} {enc : TypeId × Value → H} (W : World) (base : Nat) (v0 : Value) (d0 : DataW H) (p0 : List MemPlace) (v1 : Value) (d1 : DataW H) (p1 : List MemPlace)
    (k0 : Value.okWide Tryd.prog W .any base 34 v0) (k1 : Value.okWide Tryd.prog W .any base 5 v1) (h0 : DataW.Trod enc Tryd.prog W 0 (fun _ => true) true 34 v0 d0 p0) (h1 : DataW.Trod enc Tryd.prog W 0 (fun _ => true) true 5 v1 d1 p1) (hg : GlobOk W) :
    Calls Tryd.prog 5 #[v0, v1] W fun e W' => e = .returned (.bool true) ∧ Below W.heap.size W W' := by
  obtain ⟨A, cp, l, rfl, hl, ha⟩ := arg_strs k0 h0
  obtain ⟨n, rfl, hn⟩ := arg_int Tryd.underlying5 k1 h1
  have hb : 0 ≤ n ∧ n ≤ 255 := by simpa [Lit.wf, IntKind.min, IntKind.max, IntKind.signed, IntKind.bits] using hn
  obtain ⟨m, rfl⟩ := Int.eq_ofNat_of_zero_le hb.1
  have hc : (UInt8.ofNat m).toNat = m := by simp; omega
  have h := back_walk hg ha hl (cp := cp) (UInt8.ofNat m)
  rw [hc] at h
  exact h.mono fun e w' h => ⟨h.1, h.2.below_nil⟩
end Go.Proofs.YtokamlobppejhaaDoor
