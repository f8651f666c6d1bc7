/-
  The walk of OutqOrder: what comes out, piece by piece, is what was put, in its order. For every input.
-/
import Derived.Test.YtphgpgdilipakaaQuLaw
namespace Go.Proofs.Ytphgpgdilipakaa
open Go.RowKit
set_option linter.unusedVariables false

/-- What holds at each round's head. -/
def OrdRel (w0 : World) (q n : Nat) (lo hi room : Int) (inn out i : Value) (wr : World) : Prop :=
  ∃ (k : Nat) (bs outs : List UInt8) (ab : Bool) (qu go : Int), i = .int .i64 k ∧ k ≤ n ∧ inn = .string ⟨(outs ++ bs).toArray⟩ ∧ out = .string ⟨outs.toArray⟩ ∧ Que wr q lo hi room bs ab qu go ∧
    (bs.length : Int) ≤ room ∧ outs.length + bs.length ≤ 60 * k ∧ 0 ≤ qu ∧ qu ≤ 60 * k ∧ 0 ≤ go ∧ go + bs.length ≤ 60 * k ∧ (hi ≤ bs.length → ab = true) ∧ ((bs.length : Int) ≤ lo → ab = false) ∧ Below w0.heap.size w0 wr

theorem markB_hi {lo hi : Int} {n : Nat} {ab : Bool} (h : hi ≤ (n : Int)) : markB lo hi n ab = true := by unfold markB; rw [if_pos h]
theorem markB_lo {lo hi : Int} {n : Nat} {ab : Bool} (hl : lo < hi) (h : (n : Int) ≤ lo) : markB lo hi n ab = false := by unfold markB; rw [if_neg (by omega), if_pos h]

set_option maxRecDepth 100000 in
set_option maxHeartbeats 4000000 in
theorem order_walk {w : World} {A : Option Addr} {n c : Nat} {K N : Nat → Int} {BA : Nat → Option Addr} {BC : Nat → Nat} {BB : Nat → List UInt8} (h : Acts w A n K N BA BC BB) (hn : n ≤ maxLen) (lo hi room : Int) :
    Calls Try.prog 3 #[.int .i64 lo, .int .i64 hi, .int .i64 room, .slice A n c] w fun e w' => e = .returned (.bool true) ∧ Below w.heap.size w w' := by
  go_enter Try.func3, Try.ntmps3
  go_wp2_with fail
  refine (awake_any w).mono ?_
  rintro e w1 ⟨rfl, hf1⟩
  have HF1 := Lib.hid hf1; clear hf1
  go_wp2_with fail
  by_cases hbad : lo < 0 ∨ hi ≤ lo ∨ room < hi ∨ 65536 < room
  · refine (new_no lo hi room w1 hbad).mono ?_
    rintro e w2 ⟨rfl, rfl⟩
    go_wp2_with fail
    go_ret
    exact ⟨rfl, HF1.out.below_nil⟩
  have hlo : ¬ lo < 0 := fun h => hbad (.inl h)
  have hhi : ¬ hi ≤ lo := fun h => hbad (.inr (.inl h))
  have hro : ¬ room < hi := fun h => hbad (.inr (.inr (.inl h)))
  have hmx : ¬ 65536 < room := fun h => hbad (.inr (.inr (.inr h)))
  clear hbad
  refine (new_yes lo hi room w1 hlo hhi hro hmx).mono ?_
  rintro e w2 ⟨rfl, hw2⟩
  have hq := que_new (w := w1) (lo := lo) (hi := hi) (room := room)
  rw [← hw2] at hq
  have hf2 : Fr [] w w2 := by rw [hw2]; exact HF1.out.alloc _
  have hq0 : w.heap.size ≤ w1.heap.size := HF1.out.size
  have HQ := Lib.hid hq; have HF2 := Lib.hid hf2; clear hq hf2 hw2
  generalize hqq : w1.heap.size = q at *
  clear hqq HF1
  have HA := Lib.hid h; clear h
  go_wp2_with fail
  refine (few_any (HA.out.fr HF2.out) hn).mono ?_
  rintro e w3 ⟨rfl, rfl⟩
  cases hfew : fewB n BB with
  | false =>
    clear hfew
    go_wp2_with fail
    go_ret
    exact ⟨rfl, HF2.out.below_nil⟩
  | true =>
    have hn40 : n ≤ 40 := by unfold fewB at hfew; simp at hfew; exact hfew.1
    have h60 : ∀ i, i < n → (BB i).length ≤ 60 := by unfold fewB at hfew; simp at hfew; exact hfew.2
    have H60 := Lib.hid h60
    clear hfew h60
    go_wp2_with fail
    go_loopw [10, 11, 12] (fun inn out i wr => OrdRel w q n lo hi room inn out i wr) (fun _ _ i _ => n - (intOf i).toNat)
    case atStart => exact ⟨0, [], [], false, 0, 0, rfl, by omega, rfl, rfl, HQ.out, by simp; omega, by simp, by omega, by omega, by omega, by simp, by simp; omega, by simp, HF2.out.below_nil⟩
    case round =>
      obtain ⟨k, bs, outs, ab, qu, go, rfl, hk, rfl, rfl, hq, hbr, hol, hqu0, hqu1, hgo0, hgo1, hhi', hlo', hbe⟩ := hrel
      have HQ1 := Lib.hid hq; have HBE := Lib.hid hbe; have HHI := Lib.hid hhi'; have HLO := Lib.hid hlo'
      clear hq hbe hhi' hlo'
      have hbl : bs.length ≤ 65536 := by omega
      by_cases hlt : k < n
      · obtain ⟨b, off, rfl, hb, e0, e1, e2, e3, e4⟩ := (HA.out.below HBE.out) k hlt
        have h60 := H60.out k hlt
        have E3 := Lib.hid e3; clear e3
        have hfa := fun (C : Array Value) (T : TypeId) => HQ1.out.fr_nil ((Fr.refl [] wr).alloc (.cells C T))
        have HFA := Lib.hid hfa; clear hfa
        by_cases h2 : 2 ≤ K k
        · go_wp2_with fail
          refine (next_at (HFA.out _ _) hbl (N k) _ rfl).mono ?_
          rintro e w4 ⟨A4, c4, rfl, hb4, hk4, hc4, hn4, hq4, hf4, hnw⟩
          generalize hm : clampN (N k) bs.length = m at *
          have hml : m ≤ bs.length := by rw [← hm]; exact clampN_le _ _
          have hm2 : m = clampN (m : Int) bs.length := by unfold clampN; rw [if_neg (by omega)]; split <;> omega
          have HM2 := Lib.hid hm2; clear hm2 hm
          have hbe4 : Below w.heap.size w w4 := ((HBE.out.alloc HBE.out.size _).trans (hf4.below_at (by simp; exact Nat.le_succ_of_le HBE.out.size) (by simp)))
          have HQ4 := Lib.hid hq4; have HB4 := Lib.hid hb4; have HBE4 := Lib.hid hbe4; clear hq4 hb4 hbe4 hf4 hn4
          go_wp2_with fail
          refine (took_at HQ4.out hbl (m : Int) m HM2.out hgo0 (by omega)).mono ?_
          rintro e w5 ⟨rfl, hq5, hf5⟩
          have HQ5 := Lib.hid hq5; have HF5 := Lib.hid hf5; clear hq5 hf5
          have hqlt : q < wr.heap.size := HQ1.out.lt
          have hb5 : Bytes w5 A4 (bs.take m) := by
            refine At.fr HB4.out HF5.out (fun a ha _ => ?_)
            have := hnw a ha
            simp at this ⊢
            omega
          have hbe5 : Below w.heap.size w w5 := HBE4.out.trans (HF5.out.below_at HBE4.out.size (by simp; omega))
          have HB5 := Lib.hid hb5; have HBE5 := Lib.hid hbe5; clear hb5 hbe5 hnw
          go_wp2_with (first
            | (refine wpList_str rfl 27 9 (.tmp 54) rfl 5 Try.underlying27 Try.underlying5 Try.underlying9 A4 m c4 rfl (bs.take m) HB5.out (by rw [List.length_take]; omega) ?_))
          rw [ba_append, show outs ++ bs = (outs ++ bs.take m) ++ bs.drop m by simp]
          have hl5 : (outs ++ bs.take m).length + (bs.drop m).length ≤ 60 * k := by simp; omega
          have hr5 : ((bs.drop m).length : Int) ≤ room := by simp; omega
          have hz1 : (go + m) + ((bs.drop m).length : Int) ≤ 60 * k := by simp; omega
          have hz0 : (0 : Int) ≤ go + m := by omega
          generalize outs ++ bs.take m = O5 at *
          generalize bs.drop m = B5 at *
          have hcs : (hi ≤ (B5.length : Int) ∧ markB lo hi B5.length ab = true) ∨ ((B5.length : Int) ≤ lo ∧ (B5.length : Int) < hi ∧ markB lo hi B5.length ab = false) ∨ (lo < (B5.length : Int) ∧ (B5.length : Int) < hi) := by
            by_cases g1 : hi ≤ (B5.length : Int)
            · exact .inl ⟨g1, markB_hi g1⟩
            · by_cases g2 : (B5.length : Int) ≤ lo
              · exact .inr (.inl ⟨g2, by omega, markB_lo hhi g2⟩)
              · exact .inr (.inr ⟨by omega, by omega⟩)
          generalize markB lo hi B5.length ab = ab5 at *
          have hx := str_head O5 B5
          rcases hcs with ⟨g1, rfl⟩ | ⟨g1, g2, rfl⟩ | ⟨g1, g2⟩
          all_goals
            refine (held_any HQ5.out).mono ?_
            rintro e w6 ⟨rfl, rfl⟩
            go_wp2_with (go_at_call 13; refine (above_any HQ5.out).mono ?_; rintro e w6 ⟨rfl, rfl⟩)
            go_roundw
            case rel => exact ⟨k + 1, B5, O5, _, qu, go + m, by go_num, by omega, rfl, rfl, HQ5.out, hr5, by omega, hqu0, by omega, hz0, by omega, (by intro h; first | rfl | omega), (by intro h; first | rfl | omega), HBE5.out⟩
            case measure => simp [intOf]; omega
        · have e3 := E3.out
          by_cases hfit : ((BB k).length : Int) ≤ room - bs.length
          · go_wp2_with fail
            have hby : Bytes (wr.alloc (.cells #[.int .i64 (K k), .int .i64 (N k), .slice (BA k) (BB k).length (BC k)] 29)) (BA k) (BB k) := At.alloc e3 _
            refine (put_yes (HFA.out _ _) (by omega) _ _ hby hfit hqu0 (by omega)).mono ?_
            rintro e w5 ⟨rfl, hq5, hf5⟩
            have hqlt : q < wr.heap.size := HQ1.out.lt
            have hbe5 : Below w.heap.size w w5 := ((HBE.out.alloc HBE.out.size _).trans (hf5.below_at (by simp; exact Nat.le_succ_of_le HBE.out.size) (by simp; omega)))
            have c2 : w5.cell? ⟨wr.heap.size, 2, none⟩ = some (.slice (BA k) (BB k).length (BC k)) := (hf5.cell (by simp) (by simp; omega)).trans (by simp)
            have HQ5 := Lib.hid hq5; have HBE5 := Lib.hid hbe5; clear hq5 hbe5 hf5 hby
            have e3w := HA.out.bytes hlt
            have HBW := Lib.hid (At.below e3w HBE5.out); clear e3w e3
            go_wp2_with (refine wpList_str rfl 27 9 (.tmp 64) rfl 5 Try.underlying27 Try.underlying5 Try.underlying9 (BA k) (BB k).length (BC k) rfl (BB k) HBW.out rfl ?_)
            rw [ba_append, List.append_assoc]
            have hl5 : outs.length + (bs ++ BB k).length ≤ 60 * (k + 1) := by simp; omega
            have hr5 : ((bs ++ BB k).length : Int) ≤ room := by simp; omega
            have hz1 : go + ((bs ++ BB k).length : Int) ≤ 60 * (k + 1) := by simp; omega
            generalize bs ++ BB k = B5 at *
            have hcs : (hi ≤ (B5.length : Int) ∧ markB lo hi B5.length ab = true) ∨ ((B5.length : Int) ≤ lo ∧ (B5.length : Int) < hi ∧ markB lo hi B5.length ab = false) ∨ (lo < (B5.length : Int) ∧ (B5.length : Int) < hi) := by
              by_cases g1 : hi ≤ (B5.length : Int)
              · exact .inl ⟨g1, markB_hi g1⟩
              · by_cases g2 : (B5.length : Int) ≤ lo
                · exact .inr (.inl ⟨g2, by omega, markB_lo hhi g2⟩)
                · exact .inr (.inr ⟨by omega, by omega⟩)
            generalize markB lo hi B5.length ab = ab5 at *
            have hx := str_head outs B5
            rcases hcs with ⟨g1, rfl⟩ | ⟨g1, g2, rfl⟩ | ⟨g1, g2⟩
            all_goals
              refine (held_any HQ5.out).mono ?_
              rintro e w6 ⟨rfl, rfl⟩
              go_wp2_with (go_at_call 13; refine (above_any HQ5.out).mono ?_; rintro e w6 ⟨rfl, rfl⟩)
              go_roundw
              case rel => exact ⟨k + 1, B5, outs, _, qu + (BB k).length, go, by go_num, by omega, rfl, rfl, HQ5.out, hr5, by omega, by omega, by omega, hgo0, by omega, (by intro h; first | rfl | omega), (by intro h; first | rfl | omega), HBE5.out⟩
              case measure => simp [intOf]; omega
          · go_wp2_with fail
            refine (put_no (HFA.out _ _) (by omega) (by omega) (BA k) (BB k).length (BC k) e4 (by omega)).mono ?_
            rintro e w5 ⟨rfl, d5, hw5⟩
            have hq5 : Que w5 q lo hi room bs ab qu go := by rw [hw5]; exact (HFA.out _ _).fr_nil ((Fr.refl _ _).drewN d5)
            have hbe5 : Below w.heap.size w w5 := by rw [hw5]; exact below_drewN (HBE.out.alloc HBE.out.size _) d5
            have HQ5 := Lib.hid hq5; have HBE5 := Lib.hid hbe5; clear hq5 hbe5 hw5
            clear e3
            go_wp2_with fail
            have hr5 := hbr
            have hcs : (hi ≤ (bs.length : Int) ∧ ab = true) ∨ ((bs.length : Int) ≤ lo ∧ (bs.length : Int) < hi ∧ ab = false) ∨ (lo < (bs.length : Int) ∧ (bs.length : Int) < hi) := by
              by_cases g1 : hi ≤ (bs.length : Int)
              · exact .inl ⟨g1, HHI.out g1⟩
              · by_cases g2 : (bs.length : Int) ≤ lo
                · exact .inr (.inl ⟨g2, by omega, HLO.out g2⟩)
                · exact .inr (.inr ⟨by omega, by omega⟩)
            have hx := str_head outs bs
            rcases hcs with ⟨g1, rfl⟩ | ⟨g1, g2, rfl⟩ | ⟨g1, g2⟩
            all_goals
              refine (held_any HQ5.out).mono ?_
              rintro e w6 ⟨rfl, rfl⟩
              go_wp2_with (go_at_call 13; refine (above_any HQ5.out).mono ?_; rintro e w6 ⟨rfl, rfl⟩)
              go_roundw
              case rel => exact ⟨k + 1, bs, outs, _, qu, go, by go_num, by omega, rfl, rfl, HQ5.out, hr5, by omega, by omega, by omega, hgo0, by omega, (by intro h; first | rfl | omega), (by intro h; first | rfl | omega), HBE5.out⟩
              case measure => simp [intOf]; omega
      · obtain rfl : k = n := by omega
        go_wp2_with fail
        refine (next_at HQ1.out hbl room bs.length ?_).mono ?_
        · unfold clampN; rw [if_neg (by omega), if_pos (by omega)]
        rintro e w4 ⟨A4, c4, rfl, hb4, hk4, hc4, hn4, hq4, hf4, hnw⟩
        rw [List.take_length] at hb4
        have hbe4 : Below w.heap.size w w4 := HBE.out.trans (hf4.below_at HBE.out.size (by simp))
        have HB4 := Lib.hid hb4; have HBE4 := Lib.hid hbe4; clear hq4 hb4 hbe4 hf4 hn4 hnw
        have hx := ba_append outs bs
        go_wp2_with (refine wpList_str rfl 27 9 (.tmp 115) rfl 5 Try.underlying27 Try.underlying5 Try.underlying9 A4 bs.length c4 rfl bs HB4.out rfl ?_)
        go_ret
        exact ⟨by simp, HBE4.out⟩
end Go.Proofs.Ytphgpgdilipakaa
