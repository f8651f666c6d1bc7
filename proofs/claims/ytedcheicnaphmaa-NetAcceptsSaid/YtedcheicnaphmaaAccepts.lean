/-
  The walk of NetAccepts. No conditions.
-/
import Derived.Test.YtedcheicnaphmaaAccLaw
import Derived.Test.YtedcheicnaphmaaRead
namespace Go.Proofs.Ytedcheicnaphmaa
open Go.RowKit Go.ChangeShapes Go.WideShapes Go.ChangeAt Go.Deep
set_option linter.unusedVariables false
set_option linter.unusedSimpArgs false

/-- The flags. -/
def Flags (w : World) (A : Option Addr) (n : Nat) (bl : Nat → Bool) : Prop := ∀ i, i < n → ∃ b off, A = some ⟨b, off, none⟩ ∧ b < w.heap.size ∧ w.cell? ⟨b, off + i, none⟩ = some (.bool (bl i))
theorem Flags.below {w w' : World} {A : Option Addr} {n : Nat} {bl : Nat → Bool} (h : Flags w A n bl) (hb : Below w.heap.size w w') : Flags w' A n bl := fun i hi => by
  obtain ⟨b, off, h1, h2, h3⟩ := h i hi
  have hf : Fr [] w w' := Fr.of_below hb
  exact ⟨b, off, h1, Nat.lt_of_lt_of_le h2 hf.size, (hf.cell h2 (by simp)).trans h3⟩
theorem intParts : ∃ i, Try.prog.info? 3 = some i ∧ i.zero = some (.int .i64 0) ∧ i.size = 1 ∧ i.bytes = 8 := info_parts (by kernel_rfl)
theorem one_int (w : World) (x : Int) : At (w.alloc (.cells #[.int .i64 x] 3)) (some ⟨w.heap.size, 0, none⟩) (intVals [x]) :=
  At.of_bk (n := 1) (Bk.new w _ _) (by simp [intVals])

set_option maxRecDepth 100000 in
set_option maxHeartbeats 4000000 in
theorem accepts_walk {w : World} {A : Option Addr} {n c : Nat} {bl : Nat → Bool} (h : Flags w A n bl) (hn : n ≤ maxLen) :
    Calls Try.prog 3 #[.slice A n c] w fun e w' => e = .returned (.bool true) ∧ Below w.heap.size w w' := by
  unfold maxLen at hn
  go_enter Try.func3, Try.ntmps3
  go_wp2_with fail
  go_at_call 7
  refine (awake_any w).mono ?_
  rintro e w1 ⟨rfl, hf1⟩
  have HF1 := Lib.hid hf1; clear hf1
  by_cases h40 : 40 < n
  · go_wp2_with fail
    go_ret
    exact ⟨rfl, HF1.out.below_nil⟩
  have HA := Lib.hid h; clear h
  go_wp2_with fail
  go_at_call 8
  refine (new_any w1).mono ?_
  rintro e w2 ⟨rfl, hw2⟩
  have hs2 : NetS w2 w1.heap.size w1.heap.size 0 (wsT bl 0 0) := by rw [hw2]; exact net_new (Nat.le_refl _)
  have hb2 : Below w.heap.size w w2 := by rw [hw2]; exact (HF1.out.alloc _).below_nil
  have hB2 : w1.heap.size ≤ w2.heap.size := by rw [hw2]; simp
  have hB0 : w.heap.size ≤ w1.heap.size := HF1.out.size
  have HS2 := Lib.hid hs2; have HB2 := Lib.hid hb2
  clear hw2 hs2 hb2
  generalize w1.heap.size = B at *
  obtain ⟨i0, hi0, hz0, hz1, hz2⟩ := intParts
  go_wp2_with fail
  go_loopw [4, 5] (fun u i wr => ∃ k : Nat, i = .int .i64 (k : Int) ∧ k ≤ n ∧ NetS wr B B 0 (wsT bl k 0) ∧ Own wr 3 u (intVals (inL bl k)) ∧ (∀ b, u.ownBlock = some b → B ≤ b) ∧ B ≤ wr.heap.size ∧ Below w.heap.size w wr) (fun _ i _ => n - (intOf i).toNat)
  case atStart => exact ⟨0, rfl, by omega, HS2.out, Own.nil_ _ _, by simp [Value.ownBlock], hB2, HB2.out⟩
  case round =>
    obtain ⟨k, rfl, hk, hs, hu, hub, hBr, hbe⟩ := hrel
    obtain ⟨uA, ucap, rfl, -, hu1, hu2, hu3, -⟩ := hu.at_
    rw [intVals_length] at hu1
    have hul := inL_le bl k
    have HS := Lib.hid hs; have HU := Lib.hid hu; have HUB := Lib.hid hub; have HBE := Lib.hid hbe
    clear hs hu hub hbe HS2 HB2
    rw [intVals_length] at *
    by_cases hlt : k < n
    · obtain ⟨b, off, rfl, hb, e0⟩ := (HA.out.below HBE.out) k hlt
      cases hbk : bl k with
      | true =>
        rw [hbk] at e0
        go_wp2_with fail
        go_at_call 9
        refine (connect_yes HS.out hBr (by rw [wsT_length]; omega) nameB (by simp [nameB]) (by simp [nameB])).mono ?_
        rintro e w4 ⟨rfl, hs4, hn4⟩
        rw [wsT_length]
        have hu4 := HU.out.nfr hn4 (by decide) (by decide) (by decide) (by decide)
        have hb4 : Below w.heap.size w w4 := HBE.out.trans ((hn4.below hBr).mono hB0)
        have hs5 : NetS w4 B B 0 (wsT bl (k + 1) 0) := by rw [wsT_succ, hbk, if_pos rfl]; exact hs4
        have hi5 : inL bl (k + 1) = inL bl k := by rw [inL, if_pos hbk]
        have HR := Lib.hid (And.intro hs5 (And.intro hu4 (And.intro (Nat.le_trans hBr hn4.size) hb4)))
        clear hs4 hn4 hu4 hb4 hs5 e0
        go_wp2_with fail
        go_roundw
        case rel => exact ⟨k + 1, by go_num, by omega, HR.out.1, by rw [hi5]; exact HR.out.2.1, HUB.out, HR.out.2.2.1, HR.out.2.2.2⟩
        case measure => simp [intOf]; omega
      | false =>
        rw [hbk] at e0
        go_wp2_with fail
        go_at_call 10
        refine (arrive_yes HS.out hBr (by rw [wsT_length]; omega) 0 0 (.slice none 0 0) ⟨_, _, _, rfl⟩ (by omega) (by omega)).mono ?_
        rintro e w4 ⟨rfl, hs4, hn4⟩
        have hu4 := HU.out.nfr hn4 (by decide) (by decide) (by decide) (by decide)
        have hb4 : Below w.heap.size w w4 := HBE.out.trans ((hn4.below hBr).mono hB0)
        have hs5 : NetS w4 B B 0 (wsT bl (k + 1) 0) := by rw [wsT_succ, hbk, if_neg (by simp)]; exact hs4
        have hB4 : B ≤ w4.heap.size := Nat.le_trans hBr hn4.size
        have HS5 := Lib.hid hs5; have HU4 := Lib.hid (hu4.fr ((Fr.refl [] w4).alloc (.cells #[.int .i64 ((k : Int) + 1)] 3)) (by simp)); have HB4 := Lib.hid hb4
        clear hs4 hn4 hu4 hb4 hs5 e0
        go_wp2_with (at_builtin; refine wpList_append_OwnS rfl (.tmp 46) (.tmp 49) 26 rfl 3 i0 _ Try.underlying26 hi0 hz0 hz1 rfl (.slice uA (inL bl k).length ucap) (intVals (inL bl k)) (inL bl k).length (intVals_length _) (by first | rfl | (simp [Act.eval]; done)) HU4.out (some ⟨w4.heap.size, 0, none⟩) 1 1 (by first | rfl | (simp [Act.eval]; done)) (intVals [(k : Int) + 1]) (one_int w4 _) rfl (by simp [intVals, Value.oneCell']) (by unfold maxLen; omega) (by rw [hz2]; omega) ?_; intro A5 c5 w5 hown hgr hloc; have HOWN := Lib.hid hown; have HGR := Lib.hid hgr; have HLOC := Lib.hid hloc; clear hown hgr hloc)
        have hs6 : NetS w5 B B 0 (wsT bl (k + 1) 0) := by
          obtain ⟨v, G, IV, GV, q⟩ := HS5.out
          exact ⟨v, G, IV, GV, (q.fr_nil ((Fr.refl [] w4).alloc _)).kept HU4.out (by decide) (by decide) (by decide) (by decide) HGR.out⟩
        have hu6 : Own w5 3 (.slice A5 ((inL bl k).length + 1) c5) (intVals (inL bl (k + 1))) := by rw [inL_false bl hbk, intVals_append]; exact HOWN.out
        have hub6 : ∀ b, (Value.slice A5 ((inL bl k).length + 1) c5).ownBlock = some b → B ≤ b := by
          intro b hb'
          rcases HLOC.out with e | e
          · exact HUB.out b (e ▸ hb')
          · rw [e] at hb'; injection hb' with hb'; simp at hb'; omega
        have hb6 : Below w.heap.size w w5 := (HB4.out.alloc HB4.out.size _).grown HGR.out (by have := HB4.out.size; simp; omega) (fun b hb' => Nat.le_trans hB0 (HUB.out b hb'))
        have hz6 : B ≤ w5.heap.size := by have := HGR.out.size; simp at this; omega
        have HR := Lib.hid (And.intro hs6 (And.intro hu6 (And.intro hub6 (And.intro hz6 hb6))))
        clear hs6 hu6 hub6 hz6 hb6
        go_roundw
        case rel => exact ⟨k + 1, by go_num, by omega, HR.out.1, HR.out.2.1, HR.out.2.2.1, HR.out.2.2.2.1, HR.out.2.2.2.2⟩
        case measure => simp [intOf]; omega
    · obtain rfl : k = n := by omega
      go_wp2_with fail
      go_loopw [8] (fun i wr => ∃ m : Nat, i = .int .i64 ((inL bl m).length : Int) ∧ m ≤ k ∧ NetS wr B B 0 (wsT bl k m) ∧ Own wr 3 (.slice uA (inL bl k).length ucap) (intVals (inL bl k)) ∧ B ≤ wr.heap.size ∧ Below w.heap.size w wr) (fun i _ => (inL bl k).length - (intOf i).toNat)
      case atStart => exact ⟨0, rfl, by omega, HS.out, HU.out, hBr, HBE.out⟩
      case round =>
        obtain ⟨m, rfl, hm, hs, hu, hBr', hbe⟩ := hrel
        have hmo := inL_mono bl m k hm
        have HS7 := Lib.hid hs; have HU7 := Lib.hid hu; have HBE7 := Lib.hid hbe
        clear hs hu hbe
        by_cases hlt2 : (inL bl m).length < (inL bl k).length
        · rcases next_false bl k (k - m) m (by omega) with ⟨i, h1, h2, h3, h4⟩ | h1
          · have hsame := inL_same bl m i h1 h4
            have hget := inL_get bl i k h2 h3
            rw [hsame] at hget
            go_wp2_with fail
            go_at_call 11
            refine (accept_yes HS7.out (by rw [wsT_length]; omega) i (by rw [wsT_length]; exact h2) (by rw [wsT_get bl h2, h3]; simp; omega) (fun j hj => by
              rw [wsT_get bl (by omega)]
              cases hbj : bl j with
              | true => simp [askedW]
              | false =>
                have : ¬ m ≤ j := fun hmj => by rw [h4 j hmj hj] at hbj; cases hbj
                simp [this])).mono ?_
            rintro e w4 ⟨rfl, hs4, hn4⟩
            rw [wsT_told bl k m i h1 h2 h3 h4] at hs4
            have hu4 := HU7.out.nfr hn4 (by decide) (by decide) (by decide) (by decide)
            have hb4 : Below w.heap.size w w4 := HBE7.out.trans ((hn4.below hBr').mono hB0)
            obtain ⟨b, off, rfl, d0⟩ := hu4.cell_at (i := (inL bl m).length) (by rw [intVals_length]; exact hlt2)
            rw [show (intVals (inL bl k))[(inL bl m).length]? = some (.int .i64 ((i : Int) + 1)) by simp only [intVals, List.getElem?_map, hget, Option.map_some]] at d0
            have hl2 : (inL bl (i + 1)).length = (inL bl m).length + 1 := by rw [inL_false bl h3, hsame]; simp
            have HR := Lib.hid (And.intro hs4 (And.intro hu4 (And.intro (Nat.le_trans hBr' hn4.size) hb4)))
            clear hs4 hn4 hu4 hb4 hget hsame h4
            go_wp2_with fail
            go_roundw
            case rel => exact ⟨i + 1, by rw [hl2]; go_num, by omega, HR.out.1, HR.out.2.1, HR.out.2.2.1, HR.out.2.2.2⟩
            case measure => simp [intOf]; omega
          · exfalso
            have := inL_same bl m k hm h1
            rw [this] at hlt2; omega
        · have hno : ∀ j, j < (wsT bl k m).length → ((wsT bl k m).getD j default).fr = false := by
            intro j hj
            rw [wsT_length] at hj
            rw [wsT_get bl hj]
            cases hbj : bl j with
            | true => simp [askedW]
            | false =>
              have : ¬ m ≤ j := fun hmj => by
                have g1 := inL_get bl j k hj hbj
                have g2 : (inL bl j).length < (inL bl k).length := by
                  rcases Nat.lt_or_ge (inL bl j).length (inL bl k).length with g | g
                  · exact g
                  · rw [List.getElem?_eq_none g] at g1; cases g1
                have g3 := inL_mono bl m j hmj
                omega
              simp [this]
          go_wp2_with fail
          go_at_call 11
          refine (accept_no HS7.out (by rw [wsT_length]; omega) hno).mono ?_
          rintro e w4 ⟨rfl, rfl⟩
          clear hno
          go_wp2_with fail
          go_at_call 12
          refine (len_any HS7.out).mono ?_
          rintro e w4 ⟨rfl, rfl⟩
          rw [wsT_length]
          go_wp2_with fail
          go_ret
          exact ⟨by simp, HBE7.out⟩

theorem bool_cells : Try.prog.cellsOf 4 = 1 := by kernel_rfl
theorem netAccepts_open {H : Type} {enc : TypeId × Value → H} (W : World) (base : Nat) (v0 : Value) (d0 : DataW H) (p0 : List MemPlace) (k0 : Value.okWide Try.prog W .any base 22 v0) (h0 : DataW.Trod enc Try.prog W 0 (fun _ => true) true 22 v0 d0 p0) :
    Calls Try.prog 3 #[v0] W fun e W' => e = .returned (.bool true) ∧ Below W.heap.size W W' := by
  obtain ⟨A, n, c, rfl, h1, h2, h3, hi⟩ := arg_slice Try.underlying22 (by rw [bool_cells]; omega) k0 h0
  rw [bool_cells] at hi
  have hx : ∀ i, i < n → ∃ x : Bool, ∃ b off, A = some ⟨b, off, none⟩ ∧ b < W.heap.size ∧ W.cell? ⟨b, off + i, none⟩ = some (.bool x) := by
    intro i hil
    obtain ⟨b, off, es, hA, hb, hel, hcell, hrd⟩ := hi i hil
    obtain ⟨x, rfl⟩ := hrd.bool_ Try.underlying4
    have c0 := hcell 0 (by omega)
    simp only [Nat.mul_one, Nat.add_zero] at c0
    exact ⟨x, b, off, hA, hb, c0⟩
  obtain ⟨f, hf⟩ := choose_lt (α := Bool) hx
  exact accepts_walk (bl := f) hf (Nat.le_trans h1 h2)
end Go.Proofs.Ytedcheicnaphmaa
