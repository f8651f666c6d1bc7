/-
  The walk of NetEnds. No conditions.
-/
import Derived.Test.YtedcheicnaphmaaNet11
import Derived.Test.YtedcheicnaphmaaWindows
import Derived.Test.YtedcheicnaphmaaCode
namespace Go.Proofs.Ytedcheicnaphmaa
open Go.RowKit Go.ChangeShapes Go.WideShapes Go.ChangeAt Go.Deep
set_option linter.unusedVariables false
set_option linter.unusedSimpArgs false

/-- The wire that law NetEnds looks at. -/
def endW (bs : List UInt8) : Wr := ⟨1, [], bs, 5, [], false, false, false, true⟩
set_option maxRecDepth 100000 in
set_option maxHeartbeats 4000000 in
theorem ends_walk {w : World} {A1 : Option Addr} {c1 : Nat} {bs : List UInt8} (h1 : Bytes w A1 bs) (hn1 : bs.length ≤ maxLen) (first drop : Bool) (nn : Int) (hnn : 0 ≤ nn ∧ nn ≤ 255) :
    Calls Try.prog 6 #[.slice A1 bs.length c1, .bool first, .int .u8 nn, .bool drop] w fun e w' => e = .returned (.bool true) ∧ Below w.heap.size w w' := by
  unfold maxLen at hn1
  go_enter Try.func6, Try.ntmps6
  go_wp2_with fail
  go_at_call 7
  refine (awake_any w).mono ?_
  rintro e w1 ⟨rfl, hf1⟩
  have HF1 := Lib.hid hf1; clear hf1
  by_cases h100 : 100 < bs.length
  · go_wp2_with fail
    go_ret
    exact ⟨rfl, HF1.out.below_nil⟩
  have HA1 := Lib.hid h1; clear h1
  go_wp2_with fail
  go_at_call 8
  refine (new_any w1).mono ?_
  rintro e w2 ⟨rfl, hw2⟩
  have hs2 : NetS w2 w1.heap.size w1.heap.size 0 [] := by rw [hw2]; exact net_new (Nat.le_refl _)
  have hf2 : Fr [] w w2 := by rw [hw2]; exact HF1.out.alloc _
  have hB2 : w1.heap.size ≤ w2.heap.size := by rw [hw2]; simp
  have hB0 : w.heap.size ≤ w1.heap.size := HF1.out.size
  have HS2 := Lib.hid hs2; have HF2 := Lib.hid hf2
  clear hw2 hs2 hf2
  generalize w1.heap.size = B at *
  go_wp2_with fail
  go_at_call 10
  refine (arrive_yes HS2.out hB2 (by simp) 0 5 (.slice none 0 0) ⟨_, _, _, rfl⟩ (by omega) (by omega)).mono ?_
  rintro e w3 ⟨rfl, hs3, hn3⟩
  have hb3 : Below w.heap.size w w3 := HF2.out.below_nil.trans ((hn3.below hB2).mono hB0)
  have hB3 : B ≤ w3.heap.size := Nat.le_trans hB2 hn3.size
  have hby3 : Bytes w3 A1 bs := HA1.out.fr_nil (Fr.of_below hb3)
  have HS3 := Lib.hid hs3; have HB3 := Lib.hid hb3; have HBY := Lib.hid hby3
  clear hs3 hn3 hb3 hby3 HS2 HF2 hB2
  go_wp2_with fail
  go_at_call 10
  refine (data_yes (bs := bs) HS3.out hB3 (by simp) (k := 0) (by simp) (cameW 5) rfl rfl rfl 0 A1 c1 HBY.out (by simp [cameW]; omega) (by omega)).mono ?_
  rintro e w4 ⟨rfl, hs4, hn4⟩
  have hs4' : NetS w4 B B 0 [endW bs] := hs4
  have hb4 : Below w.heap.size w w4 := HB3.out.trans ((hn4.below hB3).mono hB0)
  have hB4 : B ≤ w4.heap.size := Nat.le_trans hB3 hn4.size
  have HS4 := Lib.hid hs4'; have HB4 := Lib.hid hb4
  clear hs4 hs4' hn4 hb4 HS3 HB3 HBY hB3
  cases drop with
  | true =>
    cases first
    case' true =>
      go_wp2_with fail
      go_at_call 18
      refine (drop_yes HS4.out hB4 (by simp) (k := 0) (by simp) (endW bs) rfl rfl).mono ?_
      rintro e w5 ⟨rfl, hs5, hn5⟩
    case' false =>
      go_wp2_with fail
      go_at_call 10
      refine (reset_yes HS4.out hB4 (by simp) (k := 0) (by simp) (endW bs) rfl rfl 0 none 0 0).mono ?_
      rintro e w5 ⟨rfl, hs5, hn5⟩
    all_goals
      have hs5' : NetS w5 B B 0 [resetW (endW bs)] := hs5
      have hB5 : B ≤ w5.heap.size := Nat.le_trans hB4 hn5.size
      have HS5 := Lib.hid hs5'; have HB5 : Hid (Below w.heap.size w w5) := Lib.hid (HB4.out.trans ((hn5.below hB4).mono hB0))
      clear hs5 hs5' hn5
      go_wp2_with fail
      go_at_call 14
      refine (wire_yes HS5.out (by simp) (k := 0) (by simp) (resetW (endW bs)) rfl (by simp [resetW]) (by simp [resetW, endW])).mono ?_
      rintro e w6 ⟨A3, c3, A4, c4, rfl, -, -, hs6, hf6⟩
      have HS6 := Lib.hid hs6; have HB6 : Hid (Below w.heap.size w w6) := Lib.hid (HB5.out.trans (hf6.below_nil.mono HB5.out.size))
      clear hs6 hf6
      go_wp2_with fail
      go_at_call 16
      refine calls_gen fun V hV => ?_
      have hfV : Fr [] w6 V := by rw [hV]; exact (Fr.refl [] w6).alloc _
      have hbV : Bk V w6.heap.size 41 #[.int .i64 2, .string ⟨#[]⟩, .slice A3 0 c3, .int .i64 5, .slice A4 0 c4, .bool false, .bool false, .bool true] := by rw [hV]; exact Bk.new _ _ _
      have q0 := hbV.cell_ (i := 0) rfl; have q2 := hbV.cell_ (i := 2) rfl; have q7 := hbV.cell_ (i := 7) rfl
      have HB7 : Hid (Below w.heap.size w V) := Lib.hid (HB6.out.trans (hfV.below_nil.mono HB6.out.size))
      clear hV hbV
      refine (read_gone (HS6.out.fr_nil hfV) (by simp) (k := 0) (by simp) rfl 9).mono ?_
      rintro e w7 ⟨rfl, rfl⟩
      unfold errV
      clear hfV
      go_wp2_with fail
      go_at_call 19
      refine (code_errno 21 _ (by omega) (by omega)).mono ?_
      rintro e w7 ⟨rfl, rfl⟩
      go_wp2_with fail
      go_ret
      exact ⟨rfl, HB7.out⟩
  | false =>
    cases first
    case' true =>
      go_wp2_with fail
      go_at_call 17
      refine (shut_yes HS4.out hB4 (by simp) (k := 0) (by simp) (endW bs) rfl rfl rfl).mono ?_
      rintro e w5 ⟨rfl, hs5, hn5⟩
      have hs5' : NetS w5 B B 0 [⟨1, [], bs, 5, [], false, true, false, true⟩] := by have := hs5; simpa [settleW, endW] using this
      have hB5 : B ≤ w5.heap.size := Nat.le_trans hB4 hn5.size
      have HS5 := Lib.hid hs5'; have HB5 : Hid (Below w.heap.size w w5) := Lib.hid (HB4.out.trans ((hn5.below hB4).mono hB0))
      clear hs5 hs5' hn5
      go_wp2_with fail
      go_at_call 10
      refine (fin_yes HS5.out hB5 (by simp) (k := 0) (by simp) ⟨1, [], bs, 5, [], false, true, false, true⟩ rfl rfl rfl 0 none 0 0).mono ?_
      rintro e w6 ⟨rfl, hs6, hn6⟩
      have hs6' : NetS w6 B B 0 [settleW ⟨1, [], bs, 5, [], true, true, false, true⟩] := hs6
      have hB6 : B ≤ w6.heap.size := Nat.le_trans hB5 hn6.size
      have HS6 := Lib.hid hs6'; have HB6 : Hid (Below w.heap.size w w6) := Lib.hid (HB5.out.trans ((hn6.below hB5).mono hB0))
      clear hs6 hs6' hn6
    case' false =>
      go_wp2_with fail
      go_at_call 10
      refine (fin_yes HS4.out hB4 (by simp) (k := 0) (by simp) (endW bs) rfl rfl rfl 0 none 0 0).mono ?_
      rintro e w5 ⟨rfl, hs5, hn5⟩
      have hs5' : NetS w5 B B 0 [⟨1, [], bs, 5, [], true, false, false, true⟩] := by have := hs5; simpa [settleW, endW] using this
      have hB5 : B ≤ w5.heap.size := Nat.le_trans hB4 hn5.size
      have HS5 := Lib.hid hs5'; have HB5 : Hid (Below w.heap.size w w5) := Lib.hid (HB4.out.trans ((hn5.below hB4).mono hB0))
      clear hs5 hs5' hn5
      go_wp2_with fail
      go_at_call 17
      refine (shut_yes HS5.out hB5 (by simp) (k := 0) (by simp) ⟨1, [], bs, 5, [], true, false, false, true⟩ rfl rfl rfl).mono ?_
      rintro e w6 ⟨rfl, hs6, hn6⟩
      have hs6' : NetS w6 B B 0 [settleW ⟨1, [], bs, 5, [], true, true, false, true⟩] := hs6
      have hB6 : B ≤ w6.heap.size := Nat.le_trans hB5 hn6.size
      have HS6 := Lib.hid hs6'; have HB6 : Hid (Below w.heap.size w w6) := Lib.hid (HB5.out.trans ((hn6.below hB5).mono hB0))
      clear hs6 hs6' hn6
    all_goals
      clear HS4 HB4 hB4 HS5 HB5 hB5
      by_cases h0 : bs.length = 0
      · have hbs : bs = [] := List.eq_nil_of_length_eq_zero h0
        have hs7 : NetS w6 B B 0 [⟨2, [], [], 5, [], true, true, false, true⟩] := by have := HS6.out; rw [hbs] at this; exact this
        have h0' : ((bs.length : Int) == 0) = true := by simp [hbs]
        have HS7 := Lib.hid hs7
        clear hs7 hbs HS6
        go_wp2_with fail
        go_at_call 14
        refine (wire_yes HS7.out (by simp) (k := 0) (by simp) ⟨2, [], [], 5, [], true, true, false, true⟩ rfl (by simp) (by simp)).mono ?_
        rintro e w7 ⟨A3, c3, A4, c4, rfl, -, -, -, hf7⟩
        have HB7 : Hid (Below w.heap.size w w7) := Lib.hid (HB6.out.trans (hf7.below_nil.mono HB6.out.size))
        clear hf7
        go_wp2_with fail
        go_ret
        exact ⟨rfl, HB7.out.alloc (by have := HB7.out.size; exact this) _⟩
      · have hs7 : NetS w6 B B 0 [⟨1, [], bs, 5, [], true, true, false, true⟩] := by have := HS6.out; simpa [settleW, show bs ≠ [] from fun e => h0 (by rw [e]; rfl)] using this
        have h0' : ((bs.length : Int) == 0) = false := by simp; intro e; exact h0 (by rw [e]; rfl)
        have HS7 := Lib.hid hs7
        clear hs7 HS6
        go_wp2_with fail
        go_at_call 14
        refine (wire_yes HS7.out (by simp) (k := 0) (by simp) ⟨1, [], bs, 5, [], true, true, false, true⟩ rfl (by simp; omega) (by simp)).mono ?_
        rintro e w7 ⟨A3, c3, A4, c4, rfl, -, -, hs8, hf7⟩
        have HS8 := Lib.hid hs8
        have HB7 : Hid (Below w.heap.size w w7) := Lib.hid (HB6.out.trans (hf7.below_nil.mono HB6.out.size))
        have hB7 : B ≤ w7.heap.size := Nat.le_trans hB6 hf7.size
        clear hf7 hs8
        go_wp2_with fail
        obtain ⟨m, rfl⟩ := Int.eq_ofNat_of_zero_le hnn.1
        go_at_call 16
        refine calls_gen fun V hV => ?_
        have hfV : Fr [] w7 V := by rw [hV]; exact (Fr.refl [] w7).alloc _
        have HB8 : Hid (Below w.heap.size w V) := Lib.hid (HB7.out.trans (hfV.below_nil.mono HB7.out.size))
        have hB8 : B ≤ V.heap.size := Nat.le_trans hB7 hfV.size
        have HNV := Lib.hid (HS8.out.fr_nil hfV)
        clear hV hfV HS7 HS8 HB7 HB6 hB7 hB6
        by_cases hall : bs.length ≤ m
        case' pos =>
          have hd : decide ((bs.length : Int) ≤ (m : Int)) = true := by simp; omega
          refine (read_yes HNV.out hB8 (by simp) (k := 0) (by simp) ⟨1, [], bs, 5, [], true, true, false, true⟩ rfl rfl (by simp; omega) (m : Int) bs.length (by show bs.length = clampN (m : Int) bs.length; unfold clampN; split; omega; split <;> omega)).mono ?_
          rintro e w9 ⟨A5, c5, rfl, -, ⟨v9, G9, IV9, GV9, hs9, -⟩, hn9⟩
          have hs9' : NetS w9 B B 0 [⟨2, [], [], 5, [], true, true, false, true⟩] := by have := hs9; simp [settleW] at this; exact ⟨_, _, _, _, this⟩
          have HMIN : Hid (min (m : Int) (bs.length : Int) = (bs.length : Int)) := Lib.hid (by omega)
          have hr : (true && decide (bs.length = bs.length)) = true := by simp
        case' neg =>
          have hd : decide ((bs.length : Int) ≤ (m : Int)) = false := by simp; omega
          refine (read_yes HNV.out hB8 (by simp) (k := 0) (by simp) ⟨1, [], bs, 5, [], true, true, false, true⟩ rfl rfl (by simp; omega) (m : Int) m (by show m = clampN (m : Int) bs.length; unfold clampN; split; omega; split <;> omega)).mono ?_
          rintro e w9 ⟨A5, c5, rfl, -, ⟨v9, G9, IV9, GV9, hs9, -⟩, hn9⟩
          have hne : bs.drop m ≠ [] := by intro e; have := congrArg List.length e; simp at this; omega
          have hs9' : NetS w9 B B 0 [⟨1, [], bs.drop m, 5, [], true, true, false, true⟩] := by have := hs9; simp [settleW, show ¬ bs.length ≤ m from hall] at this; exact ⟨_, _, _, _, this⟩
          have HMIN : Hid (min (m : Int) (bs.length : Int) = (m : Int)) := Lib.hid (by omega)
          have hr : (true && decide (bs.length = m)) = false := by simp; omega
          clear hne
        all_goals
          have hB9 : B ≤ w9.heap.size := Nat.le_trans hB8 hn9.size
          have HS9 := Lib.hid hs9'
          have HB9 : Hid (Below w.heap.size w w9) := Lib.hid (HB8.out.trans ((hn9.below hB8).mono hB0))
          dsimp only
          rw [hr]
          clear hs9 hs9' hn9 HNV HB8 hB8 hr
          go_wp2_with fail
          go_at_call 14
          refine (wire_yes HS9.out (by simp) (k := 0) (by simp) _ rfl (by simp <;> omega) (by simp)).mono ?_
          rintro e wa ⟨A6, c6, A7, c7, rfl, -, -, -, hfa⟩
          have HBA : Hid (Below w.heap.size w wa) := Lib.hid (HB9.out.trans (hfa.below_nil.mono HB9.out.size))
          clear hfa
          go_wp2_with (refine wpList_min rfl (.tmp 124) (.tmp 126) _ rfl .i64 _ _ _ (by rfl) (by rfl) HMIN.out ?_)
          go_ret
          exact ⟨rfl, HBA.out.alloc (by have := HBA.out.size; exact this) _⟩
theorem netEnds_open {H : Type} {enc : TypeId × Value → H} (W : World) (base : Nat) (v0 : Value) (d0 : DataW H) (p0 : List MemPlace) (v1 : Value) (d1 : DataW H) (p1 : List MemPlace) (v2 : Value) (d2 : DataW H) (p2 : List MemPlace) (v3 : Value) (d3 : DataW H) (p3 : List MemPlace)
    (k0 : Value.okWide Try.prog W .any base 32 v0) (k1 : Value.okWide Try.prog W .any base 4 v1) (k2 : Value.okWide Try.prog W .any base 5 v2) (k3 : Value.okWide Try.prog W .any base 4 v3)
    (h0 : DataW.Trod enc Try.prog W 0 (fun _ => true) true 32 v0 d0 p0) (h1 : DataW.Trod enc Try.prog W 0 (fun _ => true) true 4 v1 d1 p1) (h2 : DataW.Trod enc Try.prog W 0 (fun _ => true) true 5 v2 d2 p2) (h3 : DataW.Trod enc Try.prog W 0 (fun _ => true) true 4 v3 d3 p3) :
    Calls Try.prog 6 #[v0, v1, v2, v3] W fun e W' => e = .returned (.bool true) ∧ Below W.heap.size W W' := by
  obtain ⟨A1, c1, b1, rfl, g1, g2, g3, g4⟩ := arg_bytes k0 h0
  obtain ⟨x1, rfl⟩ := arg_bool Try.underlying4 k1 h1
  obtain ⟨x2, rfl, hx2⟩ := arg_int Try.underlying5 k2 h2
  obtain ⟨x3, rfl⟩ := arg_bool Try.underlying4 k3 h3
  exact ends_walk g4 (Nat.le_trans g1 g2) x1 x3 x2 (by simpa [Lit.wf, IntKind.min, IntKind.max, IntKind.signed, IntKind.bits] using hx2)
end Go.Proofs.Ytedcheicnaphmaa
