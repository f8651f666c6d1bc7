/-
  The walk of RecordsJoin. No conditions. (Printed by tools/genrcj.py.)
-/
import Derived.Test.YtdjmhflfhepmmaaDoorRc4
import Derived.Test.YtdjmhflfhepmmaaDoorRc6
import Derived.Test.YtdjmhflfhepmmaaDoorRead
import Derived.Test.YtdjmhflfhepmmaaDoorDrawn
import Derived.Lib.BufSteps
import Derived.Deep.QuietTactic
import Derived.BigQuiet
namespace Go.Proofs.YtdjmhflfhepmmaaDoor
open Go.RowKit Go.ChangeShapes Go.WideShapes Go.ChangeAt Go.Deep
set_option linter.unusedVariables false
set_option linter.unusedSimpArgs false

/-- A list of strings that came in. -/
def ArgL (w : World) (A : Option Addr) (l : List (List UInt8)) : Prop := ∀ i, i < l.length → ∃ b off, A = some ⟨b, off, none⟩ ∧ b < w.heap.size ∧ w.cell? ⟨b, off + i, none⟩ = some (.string ⟨(l.getD i []).toArray⟩) ∧ (l.getD i []).length ≤ maxLen
theorem ArgL.fr {w w' : World} {A : Option Addr} {l : List (List UInt8)} (h : ArgL w A l) (hf : Fr [] w w') : ArgL w' A l := by
  intro i hi
  obtain ⟨b, off, hA, hb, hc, hm⟩ := h i hi
  exact ⟨b, off, hA, Nat.lt_of_lt_of_le hb hf.size, (hf.cell (p := ⟨b, off + i, none⟩) hb (by simp)).trans hc, hm⟩
theorem str_c : Tryd.prog.cellsOf 9 = 1 := by kernel_rfl
set_option maxRecDepth 100000 in
theorem arg_strs {H : Type} {enc : TypeId × Value → H} {w : World} {base base' : Nat} {spare : Nat → Bool} {held : Bool} {r : Reach} {v : Value} {d : DataW H} {p : List MemPlace}
    (hv : Value.okWide Tryd.prog w r base' 22 v) (h : DataW.Trod enc Tryd.prog w base spare held 22 v d p) : ∃ (A : Option Addr) (c : Nat) (l : List (List UInt8)), v = .slice A l.length c ∧ l.length ≤ maxLen ∧ ArgL w A l := by
  obtain ⟨A, n, c, rfl, h1, h2, h3, hi⟩ := arg_slice Tryd.underlying22 (by rw [str_c]; omega) hv h
  rw [str_c] at hi
  have hx : ∀ i, i < n → ∃ x : List UInt8, ∃ b off, A = some ⟨b, off, none⟩ ∧ b < w.heap.size ∧ w.cell? ⟨b, off + i, none⟩ = some (.string ⟨x.toArray⟩) ∧ x.length ≤ maxLen := by
    intro i hil
    obtain ⟨b, off, es, hA, hb, hel, hcell, hrd⟩ := hi i hil
    obtain ⟨s, rfl, hs⟩ := hrd.string_ Tryd.underlying9
    have := hcell 0 (by omega)
    simp only [Nat.mul_one, Nat.add_zero] at this
    exact ⟨s.data.toList, b, off, hA, hb, by rw [← ba_of]; exact this, hs⟩
  obtain ⟨f, hf⟩ := choose_lt (α := List UInt8) hx
  refine ⟨A, c, (List.range n).map f, by simp, by simp; omega, fun i hi => ?_⟩
  simp at hi
  have e : ((List.range n).map f).getD i [] = f i := by simp [hi]
  rw [e]
  exact hf i hi
theorem not_mem_getD (c : UInt8) (s : List UInt8) (h : ∀ q, q < s.length → s.getD q 0 ≠ c) : c ∉ s := by
  intro hm
  obtain ⟨q, hq, e⟩ := List.getElem_of_mem hm
  exact h q hq (by simp [hq, e])
theorem idx_str (s : List UInt8) (i : Nat) (hi : i < s.length) : ∀ W, (Instr.index 9 (.string ⟨s.toArray⟩) (.int .i64 (i : Int))).run Tryd.prog W = .ok (.int .u8 (((s.getD i 0).toNat : Nat) : Int)) W := by
  intro W
  rw [run_index_string W 9 ⟨s.toArray⟩ .i64 (i : Int) Tryd.underlying9, dif_pos ⟨by omega, by rw [ba_size]; omega⟩]
  have e : ((⟨s.toArray⟩ : ByteArray)[(i : Int).toNat]'(by rw [ba_size]; omega)) = s.getD i 0 := by
    have e1 : (i : Int).toNat = i := by omega
    simp only [e1]
    rw [List.getD_eq_getElem?_getD, List.getElem?_eq_getElem hi]
    rfl
  rw [e]
/-- Records joined by a byte. -/
def joinL (c : UInt8) : List (List UInt8) → List UInt8
  | [] => []
  | [a] => a
  | a :: b :: r => a ++ c :: joinL c (b :: r)
theorem joinL_snoc (c : UInt8) : ∀ (l : List (List UInt8)) (x : List UInt8), joinL c (l ++ [x]) = if l = [] then x else joinL c l ++ c :: x
  | [], x => rfl
  | [a], x => rfl
  | a :: b :: r, x => by
    have ih := joinL_snoc c (b :: r) x
    rw [if_neg (by simp)] at ih ⊢
    simp only [List.cons_append, joinL] at ih ⊢
    rw [ih]; simp
theorem rec_join (c : UInt8) : ∀ (l : List (List UInt8)), (∀ y ∈ l, c ∉ y) → l.getLast? ≠ some [] → recM c (joinL c l) = l
  | [], _, _ => rfl
  | [a], h, h2 => by
    have ha : a ≠ [] := by rintro rfl; exact h2 rfl
    rw [show joinL c [a] = a from rfl, recM_miss c a (h a (by simp)), if_neg ha]
  | a :: b :: r, h, h2 => by
    rw [show joinL c (a :: b :: r) = a ++ c :: joinL c (b :: r) from rfl, recM_hit c a _ (h a (by simp)), rec_join c (b :: r) (fun y hy => h y (List.mem_cons_of_mem _ hy)) (by rw [List.getLast?_cons_cons] at h2; exact h2)]
theorem own_buf {B : Nat} {v : Value} {bs : List UInt8} {W0 w : World} (h : Lib.OwnBuf B 5 v bs.length (byteVals bs) W0 w) : ∃ A cp, v = .slice A bs.length cp ∧ Bytes w A bs ∧ (A = none → cp = 0) ∧ bs.length ≤ cp := by
  obtain ⟨⟨h1, h2⟩, -, -⟩ := h
  rcases h2 with ⟨rfl, h2⟩ | ⟨g, cap, cur, fz, rfl, h3, h4, h5, h6, h7, h8, h9⟩
  · obtain rfl : bs = [] := List.eq_nil_of_length_eq_zero h2
    exact ⟨none, 0, rfl, .inl rfl, fun _ => rfl, by simp⟩
  · rw [Nat.mul_one] at h9
    refine ⟨some ⟨g, 0, none⟩, cap, rfl, .inr ⟨_, rfl, (Array.getElem?_eq_some_iff.1 h4).1, fun j u hu => ?_⟩, by simp, h6⟩
    rw [← h9, List.getElem?_take] at hu
    split at hu
    · have hadd : (⟨g, 0, none⟩ : Addr).add j = ⟨g, j, none⟩ := by unfold Addr.add; split <;> simp_all
      rw [hadd, cell_of_row w g j cur _ _ h4]
      simpa using hu
    · cases hu
/-- Where the first loop stands. -/
def JnRel (w : World) (c : UInt8) (l : List (List UInt8)) (i : Nat) (v : Value) (wr : World) : Prop :=
  Lib.OwnBuf w.heap.size 5 v (joinL c (l.take i)).length (byteVals (joinL c (l.take i))) w wr ∧ (joinL c (l.take i)).length ≤ 21 * i ∧ ∀ q, q < i → (l.getD q []).length ≤ 20 ∧ c ∉ l.getD q [] ∧ (q + 1 = l.length → l.getD q [] ≠ [])
theorem take_next (l : List (List UInt8)) (i : Nat) (hi : i < l.length) : l.take (i + 1) = l.take i ++ [l.getD i []] := by
  rw [List.take_add_one]; simp [hi]
theorem strCells_bytes (s : List UInt8) : Lib.strCells ⟨s.toArray⟩ = byteVals s := by simp [Lib.strCells, byteVals]
theorem ArgL.cell {w : World} {b off : Nat} {l : List (List UInt8)} (h : ArgL w (some ⟨b, off, none⟩) l) {i : Nat} (hi : i < l.length) : w.cell? ⟨b, off + i, none⟩ = some (.string ⟨(l.getD i []).toArray⟩) := by
  obtain ⟨b', off', e, -, hc, -⟩ := h i hi
  injection e with e; injection e with e1 e2; subst e1 e2
  exact hc
theorem joinL_next (c : UInt8) (l : List (List UInt8)) (i : Nat) (hi : i < l.length) : joinL c (l.take (i + 1)) = if i = 0 then l.getD i [] else joinL c (l.take i) ++ c :: l.getD i [] := by
  rw [take_next l i hi, joinL_snoc]
  by_cases h : i = 0
  · subst h; rfl
  · rw [if_neg h, if_neg]
    intro e
    have := congrArg List.length e
    rw [List.length_take, List.length_nil] at this
    omega
theorem jn_done {B : Nat} {e : TypeId} {v : Value} {n : Nat} {xs : List Value} {W0 w' : World} {bs : List UInt8} (h : Lib.OwnBuf B e v n xs W0 w') (hn : n = bs.length) (hx : xs = byteVals bs) : Lib.OwnBuf B e v bs.length (byteVals bs) W0 w' := by
  subst hn hx; exact h
set_option maxRecDepth 100000 in
set_option maxHeartbeats 8000000 in
theorem join_walk {w : World} {A : Option Addr} {cp : Nat} {l : List (List UInt8)} (ha : ArgL w A l) (hl : l.length ≤ maxLen) (c : UInt8) :
    Calls Tryd.prog 3 #[.slice A l.length cp, .int .u8 (c.toNat : Int)] w fun e w' => e = .returned (.bool true) ∧ Below w.heap.size w w' := by
  obtain ⟨i0, hi0, hz0, hz1, hz2⟩ := u8parts
  unfold maxLen at hl
  have HA := Lib.hid ha; clear ha
  obtain ⟨cn, hcn⟩ : ∃ cn, c.toNat = cn := ⟨_, rfl⟩
  rw [hcn]
  go_enter Tryd.func3, Tryd.ntmps3
  go_wp2_with fail
  go_at_call 6
  refine (awake_any w).mono ?_
  rintro e w1 ⟨rfl, hf1⟩
  have HF1 := Lib.hid hf1; clear hf1
  by_cases h10 : 10 < l.length
  · have t0 : decide ((10 : Int) < (l.length : Int)) = true := decide_eq_true (by omega)
    go_wp2_with fail
    go_ret
    exact ⟨rfl, HF1.out⟩
  have t0 : decide ((10 : Int) < (l.length : Int)) = false := decide_eq_false (by omega)
  by_cases h92 : cn = 92
  · subst h92
    go_wp2_with fail
    go_ret
    exact ⟨rfl, HF1.out⟩
  have t3 : ((cn : Int) == 92) = false := beq_eq_false_iff_ne.2 (by omega)
  have hc92 : c ≠ 92 := fun e => h92 (by rw [← hcn, e]; rfl)
  have hl10 : l.length ≤ 10 := by omega
  have HCN := Lib.hid hcn
  clear h10 h92 hcn
  go_wp2_with fail
  go_loopw [5, 6] (fun v5 v6 wr => ∃ i : Nat, v6 = .int .i64 (i : Int) ∧ i ≤ l.length ∧ JnRel w c l i v5 wr) (fun _ v6 _ => l.length + 1 - (intOf v6).toNat)
  case atStart => exact ⟨0, rfl, by omega, ⟨⟨rfl, .inl ⟨rfl, rfl⟩⟩, HF1.out, HF1.out.size⟩, by simp [joinL], fun q hq => absurd hq (by omega)⟩
  case round =>
    obtain ⟨i, rfl, hi, hrel⟩ := hrel
    have HB := Lib.hid hrel
    clear hrel
    by_cases hlt : i < l.length
    · obtain ⟨b, off, hA, hb, hc, hm⟩ := (HA.out.fr (Fr.of_below HB.out.1.2.1)) i hlt
      have hbw : b < w.heap.size := by
        obtain ⟨b', off', hA', hb', -⟩ := HA.out i hlt
        rw [hA] at hA'; injection hA' with hA'; injection hA' with e1; rw [e1]; exact hb'
      subst hA
      obtain ⟨s, hs⟩ : ∃ s, l.getD i [] = s := ⟨_, rfl⟩
      rw [hs] at hc hm
      have HS := Lib.hid hs; clear hs
      unfold maxLen at hm
      by_cases h20 : 20 < s.length
      · have u0 : decide ((20 : Int) < (s.length : Int)) = true := decide_eq_true (by omega)
        go_wp2_with fail
        go_ret
        exact ⟨rfl, HB.out.1.2.1⟩
      have u0 : decide ((20 : Int) < (s.length : Int)) = false := decide_eq_false (by omega)
      by_cases hbad : i + 1 = l.length ∧ s = []
      · obtain ⟨hb1, rfl⟩ := hbad
        have u1 : ((i : Int) == (l.length : Int) - 1) = true := by simp; omega
        go_wp2_with fail
        go_ret
        exact ⟨rfl, HB.out.1.2.1⟩
      obtain ⟨u, hu⟩ : ∃ u, ((i : Int) == (l.length : Int) - 1) = u := ⟨_, rfl⟩
      have hu2 : u = true → (s == ([] : List UInt8)) = false := fun e => by
        subst e
        have : i + 1 = l.length := by have := eq_of_beq hu; omega
        exact beq_eq_false_iff_ne.2 (fun e => hbad ⟨this, e⟩)
      have HBAD := Lib.hid hbad; clear hbad
      have hfront : ∀ K : Prop, True := fun _ => trivial
      clear hfront
      cases u
      · go_wp2_with fail
        go_loop [7] (fun v7 => ∃ j : Nat, v7 = .int .i64 (j : Int) ∧ j ≤ s.length ∧ ∀ q, q < j → s.getD q 0 ≠ c) (fun v7 => s.length + 1 - (intOf v7).toNat)
        case atStart => exact ⟨0, rfl, by omega, fun q hq => absurd hq (by omega)⟩
        case round =>
          obtain ⟨j, rfl, hj, hq⟩ := hrel
          have HQ := Lib.hid hq; clear hq
          by_cases hjl : j < s.length
          · have hidx := idx_str s j hjl
            by_cases he : s.getD j 0 = c
            · rw [he, HCN.out] at hidx
              go_wp2_with fail
              go_ret
              exact ⟨rfl, HB.out.1.2.1⟩
            · obtain ⟨m, hm2⟩ : ∃ m, (s.getD j 0).toNat = m := ⟨_, rfl⟩
              rw [hm2] at hidx
              have hmc : ((m : Int) == (cn : Int)) = false := beq_eq_false_iff_ne.2 (fun e => he (UInt8.toNat_inj.1 (by rw [hm2, HCN.out]; omega)))
              have HE := Lib.hid he
              clear he hm2
              go_wp2_with fail
              go_round
              case rel => exact ⟨j + 1, by go_num, by omega, fun q hq => by
                rcases Nat.lt_or_ge q j with h | h
                · exact HQ.out q h
                · obtain rfl : q = j := by omega
                  exact HE.out⟩
              case measure => first | (simp [intOf]; done) | (simp [intOf]; omega)
          · have hns : c ∉ s := not_mem_getD c s (fun q hq => HQ.out q (by omega))
            have hss : ∀ q, q < i + 1 → (l.getD q []).length ≤ 20 ∧ c ∉ l.getD q [] ∧ (q + 1 = l.length → l.getD q [] ≠ []) := fun q hq => by
              rcases Nat.lt_or_ge q i with h | h
              · exact HB.out.2.2 q h
              · obtain rfl : q = i := by omega
                rw [HS.out]; exact ⟨by omega, hns, fun e1 e2 => HBAD.out ⟨e1, e2⟩⟩
            have HSS := Lib.hid hss; clear hss hns
            have hJ := HB.out.2.1
            have hnx := joinL_next c l i hlt
            rw [HS.out] at hnx
            obtain ⟨J, hJe⟩ : ∃ J, joinL c (l.take i) = J := ⟨_, rfl⟩
            have hJB := HB.out.1
            rw [hJe] at hJ hnx hJB
            have HJB := Lib.hid hJB; have HNX := Lib.hid hnx
            have HJE := Lib.hid hJe
            clear hJB hnx hJe
            by_cases hiz : i = 0
            · have u9 : decide ((0 : Int) < (i : Int)) = false := decide_eq_false (by omega)
              have hJ0 : J = [] := by have := HJE.out; rw [hiz] at this; simpa [joinL] using this.symm
              have HI0 := Lib.hid hiz
              have hnp : ¬ (0 : Int) < (i : Int) := by omega
              clear hiz
              subst hJ0
              go_wp2_with (at_builtin; refine Lib.wpList_append_text rfl (.tmp 69) (.tmp 73) 24 9 rfl w.heap.size 5 i0 Tryd.underlying24 Tryd.underlying9 hi0 hz0 hz1 hz2 u5 0 [] (by rfl) w HJB.out ⟨s.toArray⟩ (by rfl) (by rw [ba_size]; omega) ?_; intro v7 w7 hb7; have HB7 := Lib.hid hb7; clear hb7)
              go_roundw
              case rel =>
                refine ⟨i + 1, by go_num, by omega, jn_done HB7.out ?_ ?_, ?_, HSS.out⟩
                · rw [HNX.out, if_pos HI0.out, ba_size]; simp
                · rw [HNX.out, if_pos HI0.out, strCells_bytes]; simp
                · rw [HNX.out, if_pos HI0.out]; omega
              case measure => first | (simp [intOf]; done) | (simp [intOf]; omega)
            · have u9 : decide ((0 : Int) < (i : Int)) = true := decide_eq_true (by omega)
              go_wp2_with first
                | (at_builtin; refine Lib.wpList_append_byte rfl (.tmp 65) (.tmp 67) 24 rfl w.heap.size 5 i0 Tryd.underlying24 hi0 hz0 hz1 hz2 u5 J.length (byteVals J) (by rfl) w wr (cn : Int) HJB.out (by rfl) (by omega) ?_; intro v6 w6 hb6; have HB6 := Lib.hid hb6; have hc6 := ArgL.cell (HA.out.fr (Fr.of_below hb6.2.1)) hlt; rw [HS.out] at hc6; clear hb6 hc)
                | (at_builtin; refine Lib.wpList_append_text rfl (.tmp 69) (.tmp 73) 24 9 rfl w.heap.size 5 i0 Tryd.underlying24 Tryd.underlying9 hi0 hz0 hz1 hz2 v6 (J.length + 1) (byteVals J ++ [.int .u8 (cn : Int)]) (by rfl) w HB6.out ⟨s.toArray⟩ (by rfl) (by rw [ba_size]; omega) ?_; intro v7 w7 hb7; have HB7 := Lib.hid hb7; clear hb7)
              go_roundw
              case rel =>
                refine ⟨i + 1, by go_num, by omega, jn_done HB7.out ?_ ?_, ?_, HSS.out⟩
                · rw [HNX.out, if_neg hiz, ba_size]; simp; omega
                · rw [HNX.out, if_neg hiz, strCells_bytes, ← HCN.out]; simp [byteVals]
                · rw [HNX.out, if_neg hiz]; simp; omega
              case measure => first | (simp [intOf]; done) | (simp [intOf]; omega)
      · have u2 := hu2 rfl
        go_wp2_with fail
        go_loop [7] (fun v7 => ∃ j : Nat, v7 = .int .i64 (j : Int) ∧ j ≤ s.length ∧ ∀ q, q < j → s.getD q 0 ≠ c) (fun v7 => s.length + 1 - (intOf v7).toNat)
        case atStart => exact ⟨0, rfl, by omega, fun q hq => absurd hq (by omega)⟩
        case round =>
          obtain ⟨j, rfl, hj, hq⟩ := hrel
          have HQ := Lib.hid hq; clear hq
          by_cases hjl : j < s.length
          · have hidx := idx_str s j hjl
            by_cases he : s.getD j 0 = c
            · rw [he, HCN.out] at hidx
              go_wp2_with fail
              go_ret
              exact ⟨rfl, HB.out.1.2.1⟩
            · obtain ⟨m, hm2⟩ : ∃ m, (s.getD j 0).toNat = m := ⟨_, rfl⟩
              rw [hm2] at hidx
              have hmc : ((m : Int) == (cn : Int)) = false := beq_eq_false_iff_ne.2 (fun e => he (UInt8.toNat_inj.1 (by rw [hm2, HCN.out]; omega)))
              have HE := Lib.hid he
              clear he hm2
              go_wp2_with fail
              go_round
              case rel => exact ⟨j + 1, by go_num, by omega, fun q hq => by
                rcases Nat.lt_or_ge q j with h | h
                · exact HQ.out q h
                · obtain rfl : q = j := by omega
                  exact HE.out⟩
              case measure => first | (simp [intOf]; done) | (simp [intOf]; omega)
          · have hns : c ∉ s := not_mem_getD c s (fun q hq => HQ.out q (by omega))
            have hss : ∀ q, q < i + 1 → (l.getD q []).length ≤ 20 ∧ c ∉ l.getD q [] ∧ (q + 1 = l.length → l.getD q [] ≠ []) := fun q hq => by
              rcases Nat.lt_or_ge q i with h | h
              · exact HB.out.2.2 q h
              · obtain rfl : q = i := by omega
                rw [HS.out]; exact ⟨by omega, hns, fun e1 e2 => HBAD.out ⟨e1, e2⟩⟩
            have HSS := Lib.hid hss; clear hss hns
            have hJ := HB.out.2.1
            have hnx := joinL_next c l i hlt
            rw [HS.out] at hnx
            obtain ⟨J, hJe⟩ : ∃ J, joinL c (l.take i) = J := ⟨_, rfl⟩
            have hJB := HB.out.1
            rw [hJe] at hJ hnx hJB
            have HJB := Lib.hid hJB; have HNX := Lib.hid hnx
            have HJE := Lib.hid hJe
            clear hJB hnx hJe
            by_cases hiz : i = 0
            · have u9 : decide ((0 : Int) < (i : Int)) = false := decide_eq_false (by omega)
              have hJ0 : J = [] := by have := HJE.out; rw [hiz] at this; simpa [joinL] using this.symm
              have HI0 := Lib.hid hiz
              have hnp : ¬ (0 : Int) < (i : Int) := by omega
              clear hiz
              subst hJ0
              go_wp2_with (at_builtin; refine Lib.wpList_append_text rfl (.tmp 69) (.tmp 73) 24 9 rfl w.heap.size 5 i0 Tryd.underlying24 Tryd.underlying9 hi0 hz0 hz1 hz2 u5 0 [] (by rfl) w HJB.out ⟨s.toArray⟩ (by rfl) (by rw [ba_size]; omega) ?_; intro v7 w7 hb7; have HB7 := Lib.hid hb7; clear hb7)
              go_roundw
              case rel =>
                refine ⟨i + 1, by go_num, by omega, jn_done HB7.out ?_ ?_, ?_, HSS.out⟩
                · rw [HNX.out, if_pos HI0.out, ba_size]; simp
                · rw [HNX.out, if_pos HI0.out, strCells_bytes]; simp
                · rw [HNX.out, if_pos HI0.out]; omega
              case measure => first | (simp [intOf]; done) | (simp [intOf]; omega)
            · have u9 : decide ((0 : Int) < (i : Int)) = true := decide_eq_true (by omega)
              go_wp2_with first
                | (at_builtin; refine Lib.wpList_append_byte rfl (.tmp 65) (.tmp 67) 24 rfl w.heap.size 5 i0 Tryd.underlying24 hi0 hz0 hz1 hz2 u5 J.length (byteVals J) (by rfl) w wr (cn : Int) HJB.out (by rfl) (by omega) ?_; intro v6 w6 hb6; have HB6 := Lib.hid hb6; have hc6 := ArgL.cell (HA.out.fr (Fr.of_below hb6.2.1)) hlt; rw [HS.out] at hc6; clear hb6 hc)
                | (at_builtin; refine Lib.wpList_append_text rfl (.tmp 69) (.tmp 73) 24 9 rfl w.heap.size 5 i0 Tryd.underlying24 Tryd.underlying9 hi0 hz0 hz1 hz2 v6 (J.length + 1) (byteVals J ++ [.int .u8 (cn : Int)]) (by rfl) w HB6.out ⟨s.toArray⟩ (by rfl) (by rw [ba_size]; omega) ?_; intro v7 w7 hb7; have HB7 := Lib.hid hb7; clear hb7)
              go_roundw
              case rel =>
                refine ⟨i + 1, by go_num, by omega, jn_done HB7.out ?_ ?_, ?_, HSS.out⟩
                · rw [HNX.out, if_neg hiz, ba_size]; simp; omega
                · rw [HNX.out, if_neg hiz, strCells_bytes, ← HCN.out]; simp [byteVals]
                · rw [HNX.out, if_neg hiz]; simp; omega
              case measure => first | (simp [intOf]; done) | (simp [intOf]; omega)
    · obtain rfl : i = l.length := by omega
      have hJ := HB.out.2.1
      have hb := HB.out.1
      have hss := HB.out.2.2
      rw [List.take_length] at hb hJ
      have hrj : recM c (joinL c l) = l := rec_join c l (fun y hy => by
          obtain ⟨q, hq, e⟩ := List.getElem_of_mem hy
          have := (hss q hq).2.1
          simp [hq, e] at this
          exact this) (fun e => by
          rw [List.getLast?_eq_getElem?] at e
          have hne : l ≠ [] := by rintro rfl; simp at e
          have hlp : 0 < l.length := List.length_pos_iff.2 hne
          have := (hss (l.length - 1) (by omega)).2.2 (by omega)
          rw [List.getD_eq_getElem?_getD, e] at this
          exact this rfl)
      obtain ⟨Bv, bc, rfl, hby, hBn, hbc⟩ := own_buf hb
      obtain ⟨J, hJe⟩ : ∃ J, joinL c l = J := ⟨_, rfl⟩
      rw [hJe] at hJ hrj hby hbc ⊢
      have HBY := Lib.hid hby; have HRJ := Lib.hid hrj; have HBL := Lib.hid hb.2.1
      clear hb hss hby hrj hJe HB
      go_wp2_with (refine wpList_str rfl 24 9 (.tmp 77) rfl 5 Tryd.underlying24 Tryd.underlying5 Tryd.underlying9 (some ⟨wr.heap.size, 0, none⟩) 1 1 (by rfl) [c] (At.of_bk (n := 1) (xs := byteVals [c]) (Bk.new wr 5 #[.int .u8 (cn : Int)]) (by rw [← HCN.out]; simp [byteVals])) rfl ?_)
      go_at_call 7
      refine calls_gen fun V hV => ?_
      have hfV : Fr [] wr V := by rw [hV]; exact (Fr.refl _ _).alloc _
      have HFV := Lib.hid hfV
      clear hV hfV
      refine (rsplit_any c hc92 rfl (At.fr_nil HBY.out HFV.out) hBn hbc (by omega)).mono ?_
      rintro e w2 ⟨v, rfl, ho, -, hf⟩
      rw [HRJ.out] at ho
      have HB2 : Hid (Below w.heap.size w w2) := Lib.hid (HBL.out.trans ((HFV.out.trans hf).below_nil.mono HBL.out.size))
      obtain ⟨L, lc, rfl, hl1, hl2, -, -⟩ := OwnL.val ho
      have HO := Lib.hid ho
      unfold maxLen at hl2
      clear ho hf HFV HBY HRJ HBL
      go_wp2_with fail
      go_loopw [10] (fun v10 wr => ∃ i : Nat, v10 = .int .i64 (i : Int) ∧ i ≤ l.length ∧ OwnL wr (.slice L l.length lc) l ∧ Below w.heap.size w wr) (fun v10 _ => l.length + 1 - (intOf v10).toNat)
      case atStart => exact ⟨0, rfl, by omega, HO.out, HB2.out⟩
      case round =>
        obtain ⟨i, rfl, hi, ho, hbl⟩ := hrel
        have HO7 := Lib.hid ho; have HBL := Lib.hid hbl
        clear ho hbl HO HB2
        by_cases hlt : i < l.length
        · obtain ⟨b, off, rfl, hb, hc, hm⟩ := (HA.out.fr (Fr.of_below HBL.out)) i hlt
          have hO8 := HO7.out
          obtain ⟨d, doff, rfl, hd⟩ := OwnL.cell HO7.out hlt
          obtain ⟨s, hs⟩ : ∃ s, l.getD i [] = s := ⟨_, rfl⟩
          rw [hs] at hc hd
          have hiI : (i : Int) < (l.length : Int) := by omega
          clear hs hm hO8
          go_upto_region 25 with fail
          refine wp_region_M_ (G := fun a b => a = b) (S := fun W => W = wr.drew) ⟨fun _ => rfl, fun a b c h k => h.trans k, fun a b h k => k ▸ h, by kernel_rfl, fun _ _ d _ _ h => by cases d <;> exact h⟩ (by kernel_rfl) fun su => ?_
          have SU := Lib.hid su
          have HS : Hid (wr.drew = wr.drew) := Lib.hid rfl
          clear su
          refine M_move (i := 0) _ SU.out rfl rfl (by kernel_rfl) HS.out rfl ?_
          simp only [Act.put, Act.eval, Array.getD_eq_getD_getElem?, List.setIfInBounds_toArray, List.set_cons_zero, List.set_cons_succ, List.getElem?_toArray, List.getElem?_cons_zero, List.getElem?_cons_succ, Option.getD_some]
          refine M_move (i := 1) _ SU.out rfl rfl (by kernel_rfl) HS.out rfl ?_
          simp only [Act.put, Act.eval, Array.getD_eq_getD_getElem?, List.setIfInBounds_toArray, List.set_cons_zero, List.set_cons_succ, List.getElem?_toArray, List.getElem?_cons_zero, List.getElem?_cons_succ, Option.getD_some]
          refine M_val (i := 2) (v := ?_) SU.out rfl (by kernel_rfl) HS.out rfl (fun W hS => ?_) ?_
          rotate_left
          · obtain rfl := hS
            go_simp
            all_goals first | done | rfl | omega | (simp; done) | (simp; omega)
          simp only [Act.put, List.setIfInBounds_toArray, List.set_cons_zero, List.set_cons_succ]
          refine M_val (i := 3) (v := .string ⟨s.toArray⟩) SU.out rfl (by kernel_rfl) HS.out rfl (fun W hS => ?_) ?_
          · obtain rfl := hS
            go_simp
            all_goals first | done | rfl | omega | (simp; done) | (simp; omega)
          simp only [Act.put, List.setIfInBounds_toArray, List.set_cons_zero, List.set_cons_succ]
          refine M_move (i := 4) _ SU.out rfl rfl (by kernel_rfl) HS.out rfl ?_
          simp only [Act.put, Act.eval, Array.getD_eq_getD_getElem?, List.setIfInBounds_toArray, List.set_cons_zero, List.set_cons_succ, List.getElem?_toArray, List.getElem?_cons_zero, List.getElem?_cons_succ, Option.getD_some]
          refine M_move (i := 5) _ SU.out rfl rfl (by kernel_rfl) HS.out rfl ?_
          simp only [Act.put, Act.eval, Array.getD_eq_getD_getElem?, List.setIfInBounds_toArray, List.set_cons_zero, List.set_cons_succ, List.getElem?_toArray, List.getElem?_cons_zero, List.getElem?_cons_succ, Option.getD_some]
          refine M_val (i := 6) (v := ?_) SU.out rfl (by kernel_rfl) HS.out rfl (fun W hS => ?_) ?_
          rotate_left
          · obtain rfl := hS
            go_simp
            all_goals first | done | rfl | omega | (simp; done) | (simp; omega)
          simp only [Act.put, List.setIfInBounds_toArray, List.set_cons_zero, List.set_cons_succ]
          refine M_val (i := 7) (v := .string ⟨s.toArray⟩) SU.out rfl (by kernel_rfl) HS.out rfl (fun W hS => ?_) ?_
          · obtain rfl := hS
            go_simp
            all_goals first | done | rfl | omega | (simp; done) | (simp; omega)
          simp only [Act.put, List.setIfInBounds_toArray, List.set_cons_zero, List.set_cons_succ]
          refine M_val (i := 8) (v := .bool false) SU.out rfl (by kernel_rfl) HS.out rfl (fun W hS => ?_) ?_
          · obtain rfl := hS
            go_simp
            all_goals first | done | rfl | omega | (simp; done) | (simp; omega)
          simp only [Act.put, List.setIfInBounds_toArray, List.set_cons_zero, List.set_cons_succ]
          refine wpAnyM_done (by kernel_rfl) (fun w' hG => ?_)
          obtain rfl := hG
          go_wp2_with fail
          go_roundw
          case rel => exact ⟨i + 1, by go_num, by omega, Own.fr (l := []) HO7.out ((Fr.refl [] wr).drew) (by simp), HBL.out.trans (((Fr.refl [] wr).drew).below_nil.mono HBL.out.size)⟩
          case measure => first | (simp [intOf]; done) | (simp [intOf]; omega)
        · go_wp2_with fail
          go_ret
          exact ⟨rfl, HBL.out⟩
set_option maxRecDepth 100000 in
theorem recordsJoin_open {H : Type} {enc : TypeId × Value → H} (W : World) (base : Nat) (v0 : Value) (d0 : DataW H) (p0 : List MemPlace) (v1 : Value) (d1 : DataW H) (p1 : List MemPlace)
    (k0 : Value.okWide Tryd.prog W .any base 22 v0) (k1 : Value.okWide Tryd.prog W .any base 5 v1) (h0 : DataW.Trod enc Tryd.prog W 0 (fun _ => true) true 22 v0 d0 p0) (h1 : DataW.Trod enc Tryd.prog W 0 (fun _ => true) true 5 v1 d1 p1) :
    Calls Tryd.prog 3 #[v0, v1] W fun e W' => e = .returned (.bool true) ∧ Below W.heap.size W W' := by
  obtain ⟨A, c, l, rfl, g1, g2⟩ := arg_strs k0 h0
  obtain ⟨n, rfl, hn⟩ := arg_int Tryd.underlying5 k1 h1
  have hb : 0 ≤ n ∧ n ≤ 255 := by simpa [Lit.wf, IntKind.min, IntKind.max, IntKind.signed, IntKind.bits] using hn
  have e : (((UInt8.ofNat n.toNat).toNat : Nat) : Int) = n := by simp; omega
  have := join_walk g2 g1 (UInt8.ofNat n.toNat) (cp := c)
  rwa [e] at this
end Go.Proofs.YtdjmhflfhepmmaaDoor
