/-
  The walk of NetWindows. No conditions.
-/
import Derived.Test.YtedcheicnaphmaaNet10
import Derived.Test.YtedcheicnaphmaaNetAw
import Derived.Test.YtedcheicnaphmaaRead
namespace Go.Proofs.Ytedcheicnaphmaa
open Go.RowKit Go.ChangeShapes Go.WideShapes Go.ChangeAt Go.Deep
set_option linter.unusedVariables false
set_option linter.unusedSimpArgs false

/-- The wire, behind so many bytes. -/
def winW (op wr : Nat) : Wr := ⟨1, [], [], op, List.replicate wr 0, false, false, false, true⟩
theorem winW_came : cameW 0 = winW 0 0 := rfl
theorem winW_win (op wr : Nat) (M : Nat) : { winW op wr with win := (M : Int) } = winW M wr := rfl
theorem winW_got (op wr p kk : Nat) (h1 : kk ≤ op) (h2 : kk ≤ p) : { winW op wr with got := (winW op wr).got ++ (List.replicate p 0).take kk, win := (winW op wr).win - (kk : Int) } = winW (op - kk) (wr + kk) := by
  unfold winW
  have e : ((op : Int) - (kk : Int)) = ((op - kk : Nat) : Int) := by omega
  simp only [e, List.take_replicate, Nat.min_eq_left h2, List.replicate_append_replicate]
theorem byte_at {w : World} {A : Option Addr} {bs : List UInt8} (h : Bytes w A bs) {i : Nat} (hi : i < bs.length) : ∃ a, A = some a ∧ a.block < w.heap.size ∧ w.cell? (a.add i) = some (.int .u8 ((bs.getD i 0).toNat : Int)) := by
  refine At.get h ?_
  simp [byteVals, List.getElem?_eq_getElem hi, List.getD_eq_getElem?_getD]
theorem zeros_bytes (n : Nat) : List.replicate n (Value.int .u8 0) = byteVals (List.replicate n 0) := by simp [byteVals, List.map_replicate]

set_option maxRecDepth 100000 in
set_option maxHeartbeats 4000000 in
theorem windows_walk {w : World} {A1 A2 : Option Addr} {c1 c2 : Nat} {ws ps : List UInt8} (h1 : Bytes w A1 ws) (h2 : Bytes w A2 ps) (hn1 : ws.length ≤ maxLen) (hn2 : ps.length ≤ maxLen) :
    Calls Try.prog 4 #[.slice A1 ws.length c1, .slice A2 ps.length c2] w fun e w' => e = .returned (.bool true) ∧ Below w.heap.size w w' := by
  unfold maxLen at hn1 hn2
  go_enter Try.func4, Try.ntmps4
  go_wp2_with fail
  go_at_call 7
  refine (awake_any w).mono ?_
  rintro e w1 ⟨rfl, hf1⟩
  have HF1 := Lib.hid hf1; clear hf1
  by_cases h40 : 40 < ws.length
  · go_wp2_with fail
    go_ret
    exact ⟨rfl, HF1.out.below_nil⟩
  by_cases h41 : 40 < ps.length
  · go_wp2_with fail
    go_ret
    exact ⟨rfl, HF1.out.below_nil⟩
  have HA1 := Lib.hid h1; have HA2 := Lib.hid h2; clear h1 h2
  go_wp2_with fail
  go_at_call 8
  refine (new_any w1).mono ?_
  rintro e w2 ⟨rfl, hw2⟩
  have hs2 : NetS w2 w1.heap.size w1.heap.size 0 [] := by rw [hw2]; exact net_new (Nat.le_refl _)
  have hb2 : Below w.heap.size w w2 := by rw [hw2]; exact (HF1.out.alloc _).below_nil
  have hB2 : w1.heap.size ≤ w2.heap.size := by rw [hw2]; simp
  have hB0 : w.heap.size ≤ w1.heap.size := HF1.out.size
  have HS2 := Lib.hid hs2; have HB2 := Lib.hid hb2
  clear hw2 hs2 hb2
  generalize w1.heap.size = B at *
  obtain ⟨i0, hi0, hz0, hz1, hz2⟩ := u8parts
  go_wp2_with fail
  go_at_call 10
  refine (arrive_yes HS2.out hB2 (by simp) 0 0 (.slice none 0 0) ⟨_, _, _, rfl⟩ (by omega) (by omega)).mono ?_
  rintro e w3 ⟨rfl, hs3, hn3⟩
  have hb3 : Below w.heap.size w w3 := HB2.out.trans ((hn3.below hB2).mono hB0)
  have hB3 : B ≤ w3.heap.size := Nat.le_trans hB2 hn3.size
  have HS3 := Lib.hid hs3; have HB3 := Lib.hid hb3
  clear hs3 hn3 hb3 HS2 HB2
  go_wp2_with fail
  go_loopw [6, 7, 8] (fun vo vw i wr => ∃ k op wt : Nat, vo = .int .i64 (op : Int) ∧ vw = .int .i64 (wt : Int) ∧ i = .int .i64 (k : Int) ∧ k ≤ 40 ∧ op ≤ 255 * k ∧ wt ≤ 255 * k ∧ NetS wr B B 0 [winW op wt] ∧ B ≤ wr.heap.size ∧ Below w.heap.size w wr) (fun _ _ i _ => 40 - (intOf i).toNat)
  case atStart => exact ⟨0, 0, 0, rfl, rfl, rfl, by omega, by omega, by omega, by rw [← winW_came]; exact HS3.out, hB3, HB3.out⟩
  case round =>
    obtain ⟨k, op, wt, rfl, rfl, rfl, hk, ho, hwt, hs, hBr, hbe⟩ := hrel
    have HS := Lib.hid hs; have HBE := Lib.hid hbe
    clear hs hbe HS3 HB3
    by_cases hlt1 : k < ws.length
    · obtain ⟨b1, rfl, hb1, e0⟩ := byte_at HA1.out hlt1
      have e1 := ((Fr.of_below (l := []) HBE.out).cell (p := b1.add k) (by rw [blk_add]; exact hb1) (by simp)).trans e0
      obtain ⟨q, hq⟩ : ∃ q : Nat, q = (ws.getD k 0).toNat := ⟨_, rfl⟩
      have hq5 : q ≤ 255 := by rw [hq]; have := (ws.getD k 0).toNat_lt; omega
      rw [← hq] at e0 e1
      clear hq
      go_wp2_with fail
      go_at_call 10
      refine (window_yes HS.out hBr (by simp) (k := 0) (by simp) (winW op wt) (by simp) rfl (by simp [winW]) (by simp [winW]; omega) (q : Int) (by omega) (by omega) none 0 0 ((op + q : Nat) : Int) (by simp [winW]; omega)).mono ?_
      rintro e w4 ⟨rfl, hs4, hn4⟩
      rw [winW_win] at hs4
      have hs4' : NetS w4 B B 0 [winW (op + q) wt] := hs4
      have hbe4 : Below w.heap.size w w4 := HBE.out.trans ((hn4.below hBr).mono hB0)
      have hBr4 : B ≤ w4.heap.size := Nat.le_trans hBr hn4.size
      have e3 := ((Fr.of_below (l := []) hbe4).cell (p := b1.add k) (by rw [blk_add]; exact hb1) (by simp)).trans e0
      have HS4 := Lib.hid hs4'; have HBE4 := Lib.hid hbe4
      clear e0
      clear hs4 hs4' hn4 hbe4 e1
      by_cases hlt2 : k < ps.length
      · obtain ⟨b2, rfl, hb2, e0⟩ := byte_at HA2.out hlt2
        have e2 := ((Fr.of_below (l := []) HBE4.out).cell (p := b2.add k) (by rw [blk_add]; exact hb2) (by simp)).trans e0
        obtain ⟨p, hp⟩ : ∃ p : Nat, p = (ps.getD k 0).toNat := ⟨_, rfl⟩
        have hp5 : p ≤ 255 := by rw [hp]; have := (ps.getD k 0).toNat_lt; omega
        rw [← hp] at e0 e2
        clear hp
        go_wp2_with (refine wpList_make1 rfl (.tmp 69) (.tmp 69) 32 rfl 5 i0 _ Try.underlying32 hi0 hz0 hz1 rfl _ p (by rfl) (by rfl) rfl (by rw [hz2]; omega) (by unfold maxLen; omega) ?_; intro w5 hat hfr; have HAT : Hid (Bytes w5 (some ⟨w4.heap.size, 0, none⟩) (List.replicate p 0)) := Lib.hid (by rw [Bytes, ← zeros_bytes]; exact hat); have HFR := Lib.hid hfr; clear hat hfr)
        obtain ⟨kk, hkk⟩ : ∃ kk : Nat, kk = min p (op + q) := ⟨_, rfl⟩
        go_at_call 13
        have hwc := write_yes (HS4.out.fr_nil HFR.out) (Nat.le_trans hBr4 HFR.out.size) (by simp) (k := 0) (by simp) (winW (op + q) wt) (by simp) rfl rfl (Int.natCast_nonneg _) (by simp [winW]; omega) (by simp [winW]; omega) (some ⟨w4.heap.size, 0, none⟩) (List.replicate p 0) p HAT.out (by simp) (by simp; omega) kk (by simp [winW]; omega)
        rw [List.length_replicate] at hwc
        refine hwc.mono ?_
        rintro e w6 ⟨rfl, hs6, hn6⟩
        rw [winW_got _ _ _ _ (by omega) (by omega)] at hs6
        have HB6 : Hid (B ≤ w6.heap.size ∧ Below w.heap.size w w6) := Lib.hid ⟨Nat.le_trans (Nat.le_trans hBr4 HFR.out.size) hn6.size, (HBE4.out.trans ((Fr.below_nil HFR.out).mono HBE4.out.size)).trans ((hn6.below (Nat.le_trans hBr4 HFR.out.size)).mono hB0)⟩
        have e4 := ((Fr.of_below (l := []) HB6.out.2).cell (p := b2.add k) (by rw [blk_add]; exact hb2) (by simp)).trans e0
        clear e0 e2
        have HS6 := Lib.hid hs6
        have hk1 : kk ≤ p := by omega
        have hk2 : kk ≤ op + q := by omega
        have HKK := Lib.hid hkk; clear hkk
        clear hs6 hn6 hwc
        go_wp2_with (refine wpList_min rfl (.tmp 82) (.tmp 83) _ rfl .i64 _ _ (kk : Int) (by rfl) (by rfl) (by have := HKK.out; omega) ?_)
        go_roundw
        case rel => exact ⟨k + 1, (op + q) - kk, wt + kk, congrArg (Value.int .i64) (by omega), congrArg (Value.int .i64) (by omega), by go_num, by omega, by omega, by omega, HS6.out, HB6.out.1, HB6.out.2⟩
        case measure => simp [intOf]; omega
      · go_wp2_with fail
        go_roundw
        case rel => exact ⟨k + 1, op + q, wt, congrArg (Value.int .i64) (by omega), rfl, by go_num, by omega, by omega, by omega, HS4.out, hBr4, HBE4.out⟩
        case measure => simp [intOf]; omega
    · by_cases hlt2 : k < ps.length
      · obtain ⟨b2, rfl, hb2, e0⟩ := byte_at HA2.out hlt2
        have e2 := ((Fr.of_below (l := []) HBE.out).cell (p := b2.add k) (by rw [blk_add]; exact hb2) (by simp)).trans e0
        obtain ⟨p, hp⟩ : ∃ p : Nat, p = (ps.getD k 0).toNat := ⟨_, rfl⟩
        have hp5 : p ≤ 255 := by rw [hp]; have := (ps.getD k 0).toNat_lt; omega
        rw [← hp] at e0 e2
        clear hp
        go_wp2_with (refine wpList_make1 rfl (.tmp 69) (.tmp 69) 32 rfl 5 i0 _ Try.underlying32 hi0 hz0 hz1 rfl _ p (by rfl) (by rfl) rfl (by rw [hz2]; omega) (by unfold maxLen; omega) ?_; intro w5 hat hfr; have HAT : Hid (Bytes w5 (some ⟨wr.heap.size, 0, none⟩) (List.replicate p 0)) := Lib.hid (by rw [Bytes, ← zeros_bytes]; exact hat); have HFR := Lib.hid hfr; clear hat hfr)
        obtain ⟨kk, hkk⟩ : ∃ kk : Nat, kk = min p (op) := ⟨_, rfl⟩
        go_at_call 13
        have hwc := write_yes (HS.out.fr_nil HFR.out) (Nat.le_trans hBr HFR.out.size) (by simp) (k := 0) (by simp) (winW (op) wt) (by simp) rfl rfl (Int.natCast_nonneg _) (by simp [winW]; omega) (by simp [winW]; omega) (some ⟨wr.heap.size, 0, none⟩) (List.replicate p 0) p HAT.out (by simp) (by simp; omega) kk (by simp [winW]; omega)
        rw [List.length_replicate] at hwc
        refine hwc.mono ?_
        rintro e w6 ⟨rfl, hs6, hn6⟩
        rw [winW_got _ _ _ _ (by omega) (by omega)] at hs6
        have HB6 : Hid (B ≤ w6.heap.size ∧ Below w.heap.size w w6) := Lib.hid ⟨Nat.le_trans (Nat.le_trans hBr HFR.out.size) hn6.size, (HBE.out.trans ((Fr.below_nil HFR.out).mono HBE.out.size)).trans ((hn6.below (Nat.le_trans hBr HFR.out.size)).mono hB0)⟩
        have e4 := ((Fr.of_below (l := []) HB6.out.2).cell (p := b2.add k) (by rw [blk_add]; exact hb2) (by simp)).trans e0
        clear e0 e2
        have HS6 := Lib.hid hs6
        have hk1 : kk ≤ p := by omega
        have hk2 : kk ≤ op := by omega
        have HKK := Lib.hid hkk; clear hkk
        clear hs6 hn6 hwc
        go_wp2_with (refine wpList_min rfl (.tmp 82) (.tmp 83) _ rfl .i64 _ _ (kk : Int) (by rfl) (by rfl) (by have := HKK.out; omega) ?_)
        go_roundw
        case rel => exact ⟨k + 1, op - kk, wt + kk, congrArg (Value.int .i64) (by omega), congrArg (Value.int .i64) (by omega), by go_num, by omega, by omega, by omega, HS6.out, HB6.out.1, HB6.out.2⟩
        case measure => simp [intOf]; omega
      · go_wp2_with fail
        go_at_call 14
        refine (wire_yes HS.out (by simp) (k := 0) (by simp) (winW op wt) (by simp) (by simp [winW]) (by simp [winW]; omega)).mono ?_
        rintro e w6 ⟨A3, c3, A4, c4, rfl, -, -, -, hf6⟩
        have HB6 : Hid (Below w.heap.size w w6) := Lib.hid (HBE.out.trans (hf6.below_nil.mono HBE.out.size))
        have hgl : (winW op wt).got.length = wt := by simp [winW]
        clear hf6
        rw [hgl]
        go_wp2_with fail
        go_ret
        exact ⟨by simp [winW], HB6.out.alloc (by have := HB6.out.size; exact this) _⟩

theorem u8c : Try.prog.cellsOf 5 = 1 := by kernel_rfl
theorem arg_bytes {H : Type} {enc : TypeId × Value → H} {w : World} {base base' : Nat} {spare : Nat → Bool} {held : Bool} {r : Reach} {v : Value} {d : DataW H} {p : List MemPlace}
    (hv : Value.okWide Try.prog w r base' 32 v) (h : DataW.Trod enc Try.prog w base spare held 32 v d p) :
    ∃ (A : Option Addr) (c : Nat) (bs : List UInt8), v = .slice A bs.length c ∧ bs.length ≤ c ∧ c ≤ maxLen ∧ (A = none → c = 0) ∧ Bytes w A bs := by
  obtain ⟨A, n, c, rfl, h1, h2, h3, hi⟩ := arg_slice Try.underlying32 (by rw [u8c]; omega) hv h
  obtain ⟨A', c', bs, hbs, g1, g2, g3, g4⟩ := (Rd.of_trod h).bytes_ Try.underlying32 Try.underlying5 u8c
  have : (Value.slice A n c).cells.toList = [Value.slice A n c] := rfl
  rw [this] at hbs
  injection hbs with hbs
  injection hbs with e1 e2 e3
  subst e1 e2 e3
  exact ⟨A, c, bs, rfl, g1, g2, g3, g4⟩
theorem netWindows_open {H : Type} {enc : TypeId × Value → H} (W : World) (base : Nat) (v0 : Value) (d0 : DataW H) (p0 : List MemPlace) (v1 : Value) (d1 : DataW H) (p1 : List MemPlace) (k0 : Value.okWide Try.prog W .any base 32 v0) (k1 : Value.okWide Try.prog W .any base 32 v1)
    (h0 : DataW.Trod enc Try.prog W 0 (fun _ => true) true 32 v0 d0 p0) (h1 : DataW.Trod enc Try.prog W 0 (fun _ => true) true 32 v1 d1 p1) :
    Calls Try.prog 4 #[v0, v1] W fun e W' => e = .returned (.bool true) ∧ Below W.heap.size W W' := by
  obtain ⟨A1, c1, b1, rfl, g1, g2, g3, g4⟩ := arg_bytes k0 h0
  obtain ⟨A2, c2, b2, rfl, f1, f2, f3, f4⟩ := arg_bytes k1 h1
  exact windows_walk g4 f4 (Nat.le_trans g1 g2) (Nat.le_trans f1 f2)
end Go.Proofs.Ytedcheicnaphmaa
