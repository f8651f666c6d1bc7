/-
 GcB, GcW: several small texts in one. No conditions.
-/
import Derived.Test.YtfbmogccmlikaaaGreatDoorHe
namespace Go.Proofs.YtfbmogccmlikaaaGreatDoor.G
open Go.RowKit
set_option linter.unusedVariables false
set_option linter.unusedSimpArgs false
def BI (w : World) (B g q r : Nat) (s : Sep) (k lo hi room idle : Int) (i : Nat) (st : Int) (ab : Bool) : Prop :=
 ∃ (v : Value) (x : Cu) (bs : List UInt8) (qu go last : Int), GCv w B g q r v x s lo hi room bs ab qu go st last idle ∧ x.room = k ∧ (x.bs.length : Int) ≤ k ∧ (bs.length : Int) ≤ room ∧ (3 ≤ st → bs = []) ∧ (0 ≤ st ∧ st ≤ 4) ∧ 0 ≤ qu ∧ qu ≤ 65536 * (i : Int) ∧ 0 ≤ go ∧ go ≤ 65536 * (i : Int)
def BStep (w : World) (B g q r : Nat) (s : Sep) (k lo hi room idle : Int) (i : Nat) (st : Int) (w' : World) : Prop := Below B w w' ∧ ∃ st' ab', BI w' B g q r s k lo hi room idle (i + 1) st' ab' ∧ st ≤ st'
section
variable {w w' : World} {B g q r : Nat} {s : Sep} {k lo hi room idle : Int} {i : Nat} {st : Int} {ab : Bool}
theorem BI.fr_nil (h : BI w B g q r s k lo hi room idle i st ab) (hf : Fr [] w w') : BI w' B g q r s k lo hi room idle i st ab := by
 obtain ⟨v, x, bs, qu, go, last, h1, h2⟩ := h
 exact ⟨v, x, bs, qu, go, last, h1.fr_nil hf, h2⟩
theorem BI.stay (h : BI w B g q r s k lo hi room idle i st ab) (hB : B ≤ w.heap.size) (hf : Fr [] w w') : BStep w B g q r s k lo hi room idle i st w' := by
 obtain ⟨v, x, bs, qu, go, last, h1, h2, h3, h4, h5, h6, h7, h8, h9, h10⟩ := h
 exact ⟨hf.below_nil.mono hB, st, ab, ⟨v, x, bs, qu, go, last, h1.fr_nil hf, h2, h3, h4, h5, h6, h7, by omega, h9, by omega⟩, Int.le_refl _⟩
def TakeP (w : World) (B g q r : Nat) (s : Sep) (k lo hi room idle : Int) (i : Nat) (st : Int) (ab : Bool) (e : Ending) (w' : World) : Prop :=
 ∃ m : Int, e = .returned (.int .i64 m) ∧ (0 < m → ab = false ∧ st = 0) ∧ BStep w B g q r s k lo hi room idle i st w'
theorem b_take (h : BI w B g q r s k lo hi room idle i st ab) (hB : B ≤ w.heap.size) (hk : 1 ≤ k ∧ k ≤ 4096) (now : Int) {bA : Option Addr} {xs : List UInt8} {bn bc : Nat} (hn : xs.length = bn) (hby : Bytes w bA xs) (hbc : bn ≤ bc) (hbl : bn ≤ 1000) (cl : Bool) :
    Calls Tryz.prog 8 #[.pointer (some ⟨g, 0, none⟩), .int .i64 now, .slice bA bn bc, .bool cl] w (TakeP w B g q r s k lo hi room idle i st ab) := by
 have hall := h
 obtain ⟨v, x, bs, qu, go, last, h1, h2, h3, h4, h5, h6, h7, h8, h9, h10⟩ := h
 by_cases hc : st = 0 ∧ (0 ≤ now ∧ now ≤ 1099511627776)
 ·obtain ⟨rfl, ht⟩ := hc
  have hfr : 0 ≤ freeM x ∧ x.bs.length + freeM x ≤ k ∨ freeM x = 0 := by
   unfold freeM
   split
   ·exact .inr rfl
   ·left; omega
  obtain ⟨kk, hkk⟩ : ∃ kk : Nat, (kk : Int) = min (bn : Int) (if ab = true then 0 else freeM x) := by
   refine ⟨(min (bn : Int) (if ab = true then 0 else freeM x)).toNat, Int.toNat_of_nonneg ?_⟩
   split <;> omega
  have hkf : (kk : Int) ≤ if ab = true then 0 else freeM x := by rw [hkk]; exact Int.min_le_right _ _
  refine (take_g h1 hB (by omega) (by omega) now ht hn hby hbc hbl kk hkk cl).mono ?_
  rintro e w2 ⟨rfl, ⟨v', last', hc⟩, hb⟩
  refine ⟨_, rfl, fun hm => ⟨?_, rfl⟩, hb.1, _, ab, ⟨v', _, bs, qu, go, last', hc, h2, ?_, h4, ?_, ?_, h7, by omega, h9, by omega⟩, ?_⟩
  ·cases ab with
   | false => rfl
   | true => rw [if_pos rfl] at hkf; omega
  ·show ((x.bs ++ xs.take kk).length : Int) ≤ k
   rw [List.length_append, List.length_take]
   split at hkf <;> omega
  ·intro hge; split at hge <;> omega
  ·split <;> omega
  ·split <;> omega
 ·refine (take_no h1 now bA bn bc cl (by omega)).mono ?_
  rintro e w2 ⟨rfl, rfl⟩
  exact ⟨0, rfl, fun h => absurd h (by omega), hall.stay hB (Fr.refl _ _)⟩
def RecP (w : World) (B g q r : Nat) (s : Sep) (k lo hi room idle : Int) (i : Nat) (st : Int) (ab : Bool) (e : Ending) (w' : World) : Prop :=
 ∃ t ok er, e = .returned (.tuple #[.string t, .bool ok, er]) ∧ (ok = true → ab = false ∧ st ≤ 1) ∧ BStep w B g q r s k lo hi room idle i st w'
theorem b_record (h : BI w B g q r s k lo hi room idle i st ab) (hB : B ≤ w.heap.size) (hk : 1 ≤ k ∧ k ≤ 4096) (hs : s.ok) (hg : GlobOk w) :
    Calls Tryz.prog 9 #[.pointer (some ⟨g, 0, none⟩)] w (RecP w B g q r s k lo hi room idle i st ab) := by
 have hall := h
 obtain ⟨v, x, bs, qu, go, last, h1, h2, h3, h4, h5, h6, h7, h8, h9, h10⟩ := h
 by_cases hc : st ≤ 1 ∧ ab = false
 ·obtain ⟨hst, rfl⟩ := hc
  obtain ⟨t, ok, er, hrv, -⟩ := recV_cases (nextG s x).1 (nextG s x).2.1
  refine (record_g h1 hB hst hs hg (by omega)).mono ?_
  rintro e w2 ⟨rfl, ⟨v', hc⟩, hb⟩
  obtain ⟨-, -, -, hr, hl, -⟩ := nextG_same hs x
  rw [hrv]
  exact ⟨t, ok, er, rfl, fun _ => ⟨rfl, hst⟩, hb.1, st, false, ⟨v', _, bs, qu, go, last, hc, by rw [hr]; exact h2, by omega, h4, h5, h6, h7, by omega, h9, by omega⟩, Int.le_refl _⟩
 ·refine (record_no h1 (by
   by_cases e : st ≤ 1
   ·right
    cases ab with
    | true => rfl
    | false => exact absurd ⟨e, rfl⟩ hc
   ·left; omega)).mono ?_
  rintro e w2 ⟨rfl, rfl⟩
  exact ⟨_, false, _, rfl, fun h => (by cases h), hall.stay hB (Fr.refl _ _)⟩
def SayP (w : World) (B g q r : Nat) (s : Sep) (k lo hi room idle : Int) (i : Nat) (st : Int) (e : Ending) (w' : World) : Prop :=
 (∃ z, e = .returned z) ∧ BStep w B g q r s k lo hi room idle i st w'
theorem b_say (h : BI w B g q r s k lo hi room idle i st ab) (hB : B ≤ w.heap.size) (hr : 0 ≤ room ∧ room ≤ 65536) (hi9 : i ≤ 100) (xs : List UInt8) (hx : xs.length ≤ 60) :
    Calls Tryz.prog 15 #[.pointer (some ⟨g, 0, none⟩), .string ⟨xs.toArray⟩] w (SayP w B g q r s k lo hi room idle i st) := by
 have hall := h
 obtain ⟨v, x, bs, qu, go, last, h1, h2, h3, h4, h5, h6, h7, h8, h9, h10⟩ := h
 by_cases hst : st < 3
 ·refine (say_lo h1 hB hst hr.2 hr.1 xs hx h7 (by omega)).mono ?_
  rintro e w2 ⟨hz, hb, ⟨hl, hc⟩ | hc⟩
  ·exact ⟨hz, hb.1, st, _, ⟨v, x, _, _, go, last, hc, h2, h3, by rw [List.length_append]; omega, fun h => by omega, h6, by omega, by omega, h9, by omega⟩, Int.le_refl _⟩
  ·exact ⟨hz, hb.1, st, ab, ⟨v, x, bs, qu, go, last, hc, h2, h3, h4, h5, h6, h7, by omega, h9, by omega⟩, Int.le_refl _⟩
 ·refine (say_hi h1 (by omega) _).mono ?_
  rintro e w2 ⟨rfl, rfl⟩
  exact ⟨⟨_, rfl⟩, hall.stay hB (Fr.refl _ _)⟩
def TookP (w : World) (B g q r : Nat) (s : Sep) (k lo hi room idle : Int) (i : Nat) (st : Int) (e : Ending) (w' : World) : Prop :=
 ∃ m : Int, e = .returned (.int .i64 m) ∧ (0 < m → st < 3) ∧ BStep w B g q r s k lo hi room idle i st w'
theorem b_took (h : BI w B g q r s k lo hi room idle i st ab) (hB : B ≤ w.heap.size) (hr : 0 ≤ room ∧ room ≤ 65536) (hi9 : i ≤ 100) (now n : Int) :
    Calls Tryz.prog 16 #[.pointer (some ⟨g, 0, none⟩), .int .i64 now, .int .i64 n] w (TookP w B g q r s k lo hi room idle i st) := by
 have hall := h
 obtain ⟨v, x, bs, qu, go, last, h1, h2, h3, h4, h5, h6, h7, h8, h9, h10⟩ := h
 by_cases hc : st < 3 ∧ (0 ≤ now ∧ now ≤ 1099511627776)
 ·have hkl := GQ.clampN_le n bs.length
  refine (took_g h1 hB now n hc.1 hc.2 (by omega) h9 (by omega) _ rfl).mono ?_
  rintro e w2 ⟨rfl, ⟨last', hc'⟩, hb⟩
  exact ⟨_, rfl, fun _ => hc.1, hb.1, st, _, ⟨v, x, _, qu, _, last', hc', h2, h3, by rw [List.length_drop]; omega, fun h => by omega, h6, h7, by omega, by omega, by omega⟩, Int.le_refl _⟩
 ·refine (took_no h1 now n (by omega)).mono ?_
  rintro e w2 ⟨rfl, rfl⟩
  exact ⟨0, rfl, fun h => absurd h (by omega), hall.stay hB (Fr.refl _ _)⟩
def UnitP (w : World) (B g q r : Nat) (s : Sep) (k lo hi room idle : Int) (i : Nat) (st : Int) (e : Ending) (w' : World) : Prop :=
 e = .returned (.tuple #[]) ∧ BStep w B g q r s k lo hi room idle i st w'
theorem b_finish (h : BI w B g q r s k lo hi room idle i st ab) (hB : B ≤ w.heap.size) : Calls Tryz.prog 17 #[.pointer (some ⟨g, 0, none⟩)] w (UnitP w B g q r s k lo hi room idle i st) := by
 obtain ⟨v, x, bs, qu, go, last, h1, h2, h3, h4, h5, h6, h7, h8, h9, h10⟩ := h
 refine (finish_g h1 hB).mono ?_
 rintro e w2 ⟨rfl, hc, hb⟩
 exact ⟨rfl, hb.1, _, ab, ⟨v, x, bs, qu, go, last, hc, h2, h3, h4, fun h => h5 (by split at h <;> omega), by split <;> omega, h7, by omega, h9, by omega⟩, by split <;> omega⟩
theorem b_shut (h : BI w B g q r s k lo hi room idle i st ab) (hB : B ≤ w.heap.size) : Calls Tryz.prog 18 #[.pointer (some ⟨g, 0, none⟩)] w (UnitP w B g q r s k lo hi room idle i st) := by
 obtain ⟨v, x, bs, qu, go, last, h1, h2, h3, h4, h5, h6, h7, h8, h9, h10⟩ := h
 refine (shut_g h1 hB).mono ?_
 rintro e w2 ⟨rfl, hc, hb⟩
 by_cases hd : (st == 2 && (bs.length : Int) == 0) = true
 ·rw [if_pos hd] at hc
  rw [Bool.and_eq_true, beq_iff_eq, beq_iff_eq] at hd
  exact ⟨rfl, hb.1, _, ab, ⟨v, x, bs, qu, go, last, hc, h2, h3, h4, fun _ => List.eq_nil_of_length_eq_zero (by omega), by omega, h7, by omega, h9, by omega⟩, by omega⟩
 ·rw [if_neg hd] at hc
  exact ⟨rfl, hb.1, _, ab, ⟨v, x, bs, qu, go, last, hc, h2, h3, h4, h5, h6, h7, by omega, h9, by omega⟩, by omega⟩
theorem b_kill (h : BI w B g q r s k lo hi room idle i st ab) (hB : B ≤ w.heap.size) (hr : 0 ≤ room) : Calls Tryz.prog 19 #[.pointer (some ⟨g, 0, none⟩)] w (UnitP w B g q r s k lo hi room idle i st) := by
 obtain ⟨v, x, bs, qu, go, last, h1, h2, h3, h4, h5, h6, h7, h8, h9, h10⟩ := h
 refine (kill_g h1 hB).mono ?_
 rintro e w2 ⟨rfl, hc, hb⟩
 exact ⟨rfl, hb.1, _, _, ⟨v, x, [], qu, go, last, hc, h2, h3, hr, fun _ => rfl, by split <;> omega, h7, by omega, h9, by omega⟩, by split <;> omega⟩
def HeldP (w : World) (k room st : Int) (e : Ending) (w' : World) : Prop :=
 ∃ a b : Int, e = .returned (.tuple #[.int .i64 a, .int .i64 b]) ∧ 0 ≤ a ∧ a ≤ k ∧ 0 ≤ b ∧ b ≤ room ∧ (3 ≤ st → b = 0) ∧ Fr [] w w'
theorem b_held (h : BI w B g q r s k lo hi room idle i st ab) : Calls Tryz.prog 20 #[.pointer (some ⟨g, 0, none⟩)] w (HeldP w k room st) := by
 obtain ⟨v, x, bs, qu, go, last, h1, h2, h3, h4, h5, h6, h7⟩ := h
 refine (held_g h1).mono ?_
 rintro e w2 ⟨rfl, hf⟩
 exact ⟨_, _, rfl, by omega, h3, by omega, h4, fun hs => by rw [h5 hs]; rfl, hf⟩
theorem b_state (h : BI w B g q r s k lo hi room idle i st ab) : Calls Tryz.prog 13 #[.pointer (some ⟨g, 0, none⟩)] w fun e w' => e = .returned (.int .i64 st) ∧ w = w' := by
 obtain ⟨v, x, bs, qu, go, last, h1, -⟩ := h
 exact state_g h1
theorem b_above (h : BI w B g q r s k lo hi room idle i st ab) : Calls Tryz.prog 14 #[.pointer (some ⟨g, 0, none⟩)] w fun e w' => e = .returned (.bool ab) ∧ w = w' := by
 obtain ⟨v, x, bs, qu, go, last, h1, -⟩ := h
 exact above_g h1
theorem b_next (h : BI w B g q r s k lo hi room idle i st ab) (hs : 3 ≤ st) (n : Int) : Calls Tryz.prog 21 #[.pointer (some ⟨g, 0, none⟩), .int .i64 n] w fun e w' => e = .returned (.slice none 0 0) ∧ w = w' := by
 obtain ⟨v, x, bs, qu, go, last, h1, -⟩ := h
 exact next_hi h1 hs n
end
end Go.Proofs.YtfbmogccmlikaaaGreatDoor.G
namespace Go.Proofs.YtfbmogccmlikaaaGreatDoor.G
open Go.RowKit Go.ChangeShapes Go.WideShapes Go.ChangeAt Go.Deep
set_option linter.unusedVariables false
set_option linter.unusedSimpArgs false
theorem GCv.mono {w : World} {B B' g q r : Nat} {v : Value} {x : Cu} {s : Sep} {lo hi room : Int} {bs : List UInt8} {ab : Bool} {qu go : Int} {st last idle : Int} (h : GCv w B g q r v x s lo hi room bs ab qu go st last idle) (hB : B' ≤ B) : GCv w B' g q r v x s lo hi room bs ab qu go st last idle :=
 { cn := h.cn, cu := h.cu, qe := h.qe, sp := h.sp, bg := Nat.le_trans hB h.bg, bq := Nat.le_trans hB h.bq, br := Nat.le_trans hB h.br, bv := fun k hk => Nat.le_trans hB (h.bv k hk) }
def BRel (V : World) (B g q r : Nat) (s : Sep) (k lo hi room idle : Int) (n : Nat) (v9 : Value) (wr : World) : Prop :=
 ∃ (i : Nat) (st : Int) (ab : Bool), v9 = .int .i64 (i : Int) ∧ i ≤ n ∧ BI wr B g q r s k lo hi room idle i st ab ∧ Below B V wr
theorem kinds (kd : Int) : (kd = 0 ∧ Hid (0 = 0)) ∨ (kd = 1 ∧ Hid (0 = 0)) ∨ (kd = 2 ∧ Hid (1 = 1)) ∨ (kd = 3 ∧ Hid (1 = 1)) ∨ (kd = 4 ∧ Hid (2 = 2)) ∨ (kd = 5 ∧ Hid (2 = 2)) ∨ (kd = 6 ∧ Hid (3 = 3)) ∨ (kd = 7 ∧ Hid (3 = 3)) ∨ (kd = 8 ∧ Hid (4 = 4)) ∨ (kd = 9 ∧ Hid (5 = 5)) ∨ (kd = 10 ∧ Hid (6 = 6)) ∨
    ((kd == 0) = false ∧ (kd == 1) = false ∧ (kd == 2) = false ∧ (kd == 3) = false ∧ (kd == 4) = false ∧ (kd == 5) = false ∧ (kd == 6) = false ∧ (kd == 7) = false ∧ (kd == 8) = false ∧ (kd == 9) = false ∧ (kd == 10) = false) := by
 have z : ∀ n : Nat, Hid (n = n) := fun n => Lib.hid rfl
 by_cases h0 : kd = 0
 ·exact .inl ⟨h0, z 0⟩
 right
 by_cases h1 : kd = 1
 ·exact .inl ⟨h1, z 0⟩
 right
 by_cases h2 : kd = 2
 ·exact .inl ⟨h2, z 1⟩
 right
 by_cases h3 : kd = 3
 ·exact .inl ⟨h3, z 1⟩
 right
 by_cases h4 : kd = 4
 ·exact .inl ⟨h4, z 2⟩
 right
 by_cases h5 : kd = 5
 ·exact .inl ⟨h5, z 2⟩
 right
 by_cases h6 : kd = 6
 ·exact .inl ⟨h6, z 3⟩
 right
 by_cases h7 : kd = 7
 ·exact .inl ⟨h7, z 3⟩
 right
 by_cases h8 : kd = 8
 ·exact .inl ⟨h8, z 4⟩
 right
 by_cases h9 : kd = 9
 ·exact .inl ⟨h9, z 5⟩
 right
 by_cases h10 : kd = 10
 ·exact .inl ⟨h10, z 6⟩
 right
 simp [h0, h1, h2, h3, h4, h5, h6, h7, h8, h9, h10]
set_option maxRecDepth 100000 in
set_option maxHeartbeats 16000000 in
theorem bounds_walk {w : World} (hg : GlobOk w) (ht : ErrT w) (rs : List UInt8) (k lo hi room idle : Int) {A : Option Addr} {n c : Nat} {KK M N : Nat → Int} {BA : Nat → Option Addr} {BC : Nat → Nat} {BB : Nat → List UInt8} {F : Nat → Bool} (h : K.ActS w A n KK M N BA BC BB F) (hn : n ≤ maxLen) (hbc : ∀ i, i < n → (BB i).length ≤ BC i) :
    Calls Tryz.prog 4 #[.string ⟨rs.toArray⟩, .agg #[.int .i64 k, .int .i64 lo, .int .i64 hi, .int .i64 room, .int .i64 idle], .slice A n c] w fun e w' => e = .returned (.bool true) ∧ Below w.heap.size w w' := by
 obtain ⟨S, hS⟩ : ∃ S, S = (⟨rs.toArray⟩ : ByteArray) := ⟨_, rfl⟩
 obtain ⟨ln, hln⟩ : ∃ n, n = rs.length := ⟨_, rfl⟩
 have hsz : S.size = ln := by rw [hS, hln]; simp [ByteArray.size]
 rw [← hS]
 go_enter Tryz.func4, Tryz.ntmps4
 go_wp2_with fail
 go_at_call 5
 refine calls_gen fun V hV => ?_
 have hbx : Bk V w.heap.size 23 #[.int .i64 k, .int .i64 lo, .int .i64 hi, .int .i64 room, .int .i64 idle] := by rw [hV]; exact Bk.new _ _ _
 have hfV : Fr [] w V := by rw [hV]; exact (Fr.refl _ _).alloc _
 have HA := Lib.hid (K.ActS.fr h hfV); have HBX := Lib.hid hbx; have HFV := Lib.hid hfV
 have HG := Lib.hid (hg.fr hfV); have HT := Lib.hid (ht.fr hfV); have HBC := Lib.hid hbc
 have hxV : w.heap.size < V.heap.size := hbx.lt
 clear hV hbx h hfV hg ht hbc
 obtain ⟨B, hB⟩ : ∃ B, B = V.heap.size := ⟨_, rfl⟩
 rw [← hB] at hxV
 have FB : Hid (∀ W, Below B V W → Fr [] V W) := Lib.hid (fun W hW => by rw [hB] at hW; exact Fr.of_below hW)
 have FIN : Hid (∀ W, Below B V W → Below w.heap.size w W) := Lib.hid (fun W hW => HFV.out.below_nil.trans ((FB.out W hW).below_nil.mono HFV.out.size))
 have SZ : Hid (∀ W, Below B V W → B ≤ W.heap.size) := Lib.hid (fun W hW => by rw [hB]; exact hW.size)
 refine (K.awake_any V).mono ?_
 rintro e w1 ⟨rfl, hb1⟩
 rw [← hB] at hb1
 have HB1 := Lib.hid hb1; have HS := Lib.hid hS; have HLN := Lib.hid hln
 obtain ⟨bx, hbxe⟩ : ∃ bx, bx = w.heap.size := ⟨_, rfl⟩
 rw [← hbxe] at HBX hxV ⊢
 clear hb1 hB hS hln hbxe
 by_cases hl12 : ln ≤ 12
 case neg =>
  have t0 : decide ((12 : Int) < (ln : Int)) = true := decide_eq_true (by omega)
  have t0' : decide (12 < ln) = true := decide_eq_true (by omega)
  go_wp2_with fail
  go_ret
  exact ⟨rfl, FIN.out _ HB1.out⟩
 have t0 : decide ((12 : Int) < (ln : Int)) = false := decide_eq_false (by omega)
 have t0' : decide (12 < ln) = false := decide_eq_false (by omega)
 go_wp2_with fail
 go_at_call 6
 refine (K.few_any (K.ActS.fr HA.out (FB.out _ HB1.out)) hn).mono ?_
 rintro e w2 ⟨rfl, rfl⟩
 cases hfew : K.fewB n BB with
 | false =>
  clear hfew
  go_wp2_with fail
  go_ret
  exact ⟨rfl, FIN.out _ HB1.out⟩
 | true =>
  have hn40 : n ≤ 40 := by unfold K.fewB at hfew; simp at hfew; exact hfew.1
  have h60 : ∀ i, i < n → (BB i).length ≤ 60 := by unfold K.fewB at hfew; simp at hfew; exact hfew.2
  have H60 := Lib.hid h60
  have hb2 := HBX.out.fr (FB.out _ HB1.out) (by simp)
  have d0 := hb2.cell_ (i := 0) rfl; have d1 := hb2.cell_ (i := 1) rfl; have d2 := hb2.cell_ (i := 2) rfl; have d3 := hb2.cell_ (i := 3) rfl; have d4 := hb2.cell_ (i := 4) rfl
  clear hfew h60 hb2 hn
  go_wp2_with fail
  go_at_call 7
  rcases good_or k lo hi room idle with hgood | hbad
  case inr =>
   refine (K.cnew_bad w1 _ k lo hi room idle hbad).mono ?_
   rintro e w2 ⟨rfl, hf⟩
   have HF := Lib.hid hf
   unfold K.errV
   clear hbad hf
   go_wp2_with fail
   go_ret
   exact ⟨rfl, FIN.out _ (HB1.out.trans (HF.out.below_nil.mono (SZ.out _ HB1.out)))⟩
  have hroom : 0 ≤ room ∧ room ≤ 65536 := by unfold goodC at hgood; omega
  have hk4 : 1 ≤ k ∧ k ≤ 4096 := hgood.1
  have hnw := cnew_g rs (by rw [← HLN.out]; exact hl12) (HG.out.fr (FB.out _ HB1.out)) (HT.out.fr (FB.out _ HB1.out)) k lo hi room idle hgood
  rw [← HS.out] at hnw
  refine hnw.mono ?_
  rintro e w2 ⟨hf, hp⟩
  have HB2 := Lib.hid (HB1.out.trans (hf.below_nil.mono (SZ.out _ HB1.out)))
  cases hrs : readS rs with
  | none =>
   rw [hrs] at hp
   obtain ⟨t, u, rfl⟩ := hp
   clear hrs hf hnw hgood d0 d1 d2 d3 d4
   go_wp2_with fail
   go_ret
   exact ⟨rfl, FIN.out _ HB2.out⟩
  | some s =>
   rw [hrs] at hp
   obtain ⟨g, q, r, x, rfl, hc, hx1, hx2, hx3, hs⟩ := hp
   have hbi : BI w2 B g q r s k lo hi room idle 0 0 false := ⟨_, x, [], 0, 0, 0, hc.mono (SZ.out _ HB1.out), hx1, by rw [hx2]; simp; omega, by simp; omega, fun _ => rfl, by omega, by omega, by omega, by omega, by omega⟩
   have HC := Lib.hid hbi; have HSO := Lib.hid hs
   clear hrs hf hnw hgood hc hx1 hx2 hx3 hbi hs HB1 d0 d1 d2 d3 d4
   go_wp2_with fail
   go_loopw [9] (fun v9 wr => BRel V B g q r s k lo hi room idle n v9 wr) (fun v9 _ => n - (intOf v9).toNat)
   case atStart => exact ⟨0, 0, false, rfl, by omega, HC.out, HB2.out⟩
   case round =>
    obtain ⟨i, st, ab, rfl, hi9, hc, hbl⟩ := hrel
    have HCR := Lib.hid hc; have HBL := Lib.hid hbl
    clear hc hbl HC HB2
    by_cases hlt : i < n
    case neg =>
     have hge : ¬ ((i : Int) < (n : Int)) := by omega
     go_wp2_with fail
     go_ret
     exact ⟨rfl, FIN.out _ HBL.out⟩
    obtain ⟨b, off, rfl, hb, e0, e1, e2, e3, e4, e5, e6⟩ := (K.ActS.fr HA.out (FB.out _ HBL.out)) i hlt
    have hbl := H60.out i hlt
    have hbci := HBC.out i hlt
    clear e5 e6 hb
    go_upto_region 12 with fail
    refine code_gen fun W hW => ?_
    have hcW : BI W B g q r s k lo hi room idle i st ab := by rw [hW]; exact HCR.out.fr_nil ((Fr.refl _ _).alloc _)
    have hxW : Bk W wr.heap.size 36 #[.int .i64 (KK i), .int .i64 (M i), .int .i64 (N i), .slice (BA i) (BB i).length (BC i), .bool (F i)] := by rw [hW]; exact Bk.new wr _ _
    have hbW : Below B V W := by rw [hW]; exact HBL.out.trans (((Fr.refl [] wr).alloc _).below_nil.mono (SZ.out _ HBL.out))
    clear hW e0 e1 e2 e3 e4 HCR HBL
    generalize wr.heap.size = x at *
    have d0 := hxW.cell_ (i := 0) rfl; have d1 := hxW.cell_ (i := 1) rfl; have d2 := hxW.cell_ (i := 2) rfl; have d3 := hxW.cell_ (i := 3) rfl; have d4 := hxW.cell_ (i := 4) rfl
    have HCW := Lib.hid hcW; have HBW := Lib.hid hbW
    have HYW : Hid (Bytes W (BA i) (BB i)) := Lib.hid (by obtain ⟨_, _, _, _, _, _, _, _, _, e5, _⟩ := (K.ActS.fr HA.out (FB.out _ hbW)) i hlt; exact e5)
    have HBLN := Lib.hid hbl
    clear hcW hxW hbW
    obtain ⟨kd, hkd⟩ : ∃ kd, KK i = kd := ⟨_, rfl⟩
    rw [hkd] at d0
    obtain ⟨bb, hbb⟩ : ∃ bb, bb = BB i := ⟨_, rfl⟩
    obtain ⟨bn, hbn⟩ : ∃ bn, bn = bb.length := ⟨_, rfl⟩
    rw [← hbb] at HYW d3 hbci hbl
    rw [← hbn] at d3 hbci hbl
    have HBN := Lib.hid hbn
    clear hkd hbb hbn
    go_upto_region 13 with (first | (go_at_call 13; refine (b_state HCW.out).mono ?_; rintro e w9 ⟨rfl, rfl⟩) | (go_at_call 14; refine (b_above HCW.out).mono ?_; rintro e w9 ⟨rfl, rfl⟩))
    rcases kinds kd with ⟨rfl, kA⟩ | ⟨rfl, kA⟩ | ⟨rfl, kB⟩ | ⟨rfl, kB⟩ | ⟨rfl, kC⟩ | ⟨rfl, kC⟩ | ⟨rfl, kD⟩ | ⟨rfl, kD⟩ | ⟨rfl, kE⟩ | ⟨rfl, kF⟩ | ⟨rfl, kG⟩ | ⟨k0, k1, k2, k3, k4, k5, k6, k7, k8, k9, k10⟩
    all_goals
     as_aux_lemma =>
      first
      | (have _ := kA
         go_upto_region 17 with (go_at_call 8; refine (b_take HCW.out (SZ.out _ HBW.out) hk4 (M i) HBN.out.symm HYW.out hbci (by omega) (F i)).mono ?_; rintro e w3 ⟨m, rfl, hm, hstep⟩)
         obtain ⟨hbl3, st3, ab3, hbi3, hle3⟩ := hstep
         have HC3 := Lib.hid hbi3
         have HB3 := Lib.hid (HBW.out.trans hbl3)
         have hlt3 : decide (st3 < st) = false := decide_eq_false (by omega)
         clear hbl3 hbi3 hle3
         by_cases hm0 : 0 < m
         case' pos =>
          obtain ⟨rfl, rfl⟩ := hm hm0
          have u0 : decide (0 < m) = true := decide_eq_true hm0
          clear hm0 hm
         case' neg =>
          have u0 : decide (0 < m) = false := decide_eq_false hm0
          clear hm0 hm
         all_goals
          clear d0 d1 d2 d3 d4 HYW HCW HBW HBLN
          go_upto_region 38 with fail)
      | (have _ := kB
         go_upto_region 22 with (go_at_call 9; refine (b_record HCW.out (SZ.out _ HBW.out) hk4 HSO.out (HG.out.fr (FB.out _ HBW.out))).mono ?_; rintro e w3 ⟨tt, ok, er, rfl, hm, hstep⟩)
         obtain ⟨hbl3, st3, ab3, hbi3, hle3⟩ := hstep
         have HC3 := Lib.hid hbi3
         have HB3 := Lib.hid (HBW.out.trans hbl3)
         have hlt3 : decide (st3 < st) = false := decide_eq_false (by omega)
         clear hbl3 hbi3 hle3
         cases ok
         case' true =>
          obtain ⟨rfl, hst1⟩ := hm rfl
          have u0 : decide (1 < st) = false := decide_eq_false (by omega)
          clear hm hst1
         case' false =>
          clear hm
         all_goals
          clear d0 d1 d2 d3 d4 HYW HCW HBW HBLN
          go_upto_region 38 with fail)
      | (have _ := kC
         go_upto_region 38 with (first
          | (refine wpList_str rfl 34 9 (.tmp 106) rfl 5 Tryz.underlying34 Tryz.underlying5 Tryz.underlying9 (BA i) bn (BC i) (by first | rfl | (simp [Act.eval]; done)) bb HYW.out HBN.out.symm ?_)
          | (go_at_call 15; refine (b_say HCW.out (SZ.out _ HBW.out) hroom (by omega) bb (by have := HBN.out; omega)).mono ?_; rintro e w3 ⟨⟨z, rfl⟩, hstep⟩))
         obtain ⟨hbl3, st3, ab3, hbi3, hle3⟩ := hstep
         have HC3 := Lib.hid hbi3
         have HB3 := Lib.hid (HBW.out.trans hbl3)
         have hlt3 : decide (st3 < st) = false := decide_eq_false (by omega)
         clear hbl3 hbi3 hle3
         clear d0 d1 d2 d3 d4 HYW HCW HBW HBLN)
      | (have _ := kD
         go_upto_region 30 with (go_at_call 16; refine (b_took HCW.out (SZ.out _ HBW.out) hroom (by omega) (M i) (N i)).mono ?_; rintro e w3 ⟨m, rfl, hm, hstep⟩)
         obtain ⟨hbl3, st3, ab3, hbi3, hle3⟩ := hstep
         have HC3 := Lib.hid hbi3
         have HB3 := Lib.hid (HBW.out.trans hbl3)
         have hlt3 : decide (st3 < st) = false := decide_eq_false (by omega)
         clear hbl3 hbi3 hle3
         by_cases hm0 : 0 < m
         case' pos =>
          have u0 : decide (0 < m) = true := decide_eq_true hm0
          have u1 : decide (3 ≤ st) = false := decide_eq_false (by have := hm hm0; omega)
          clear hm0 hm
         case' neg =>
          have u0 : decide (0 < m) = false := decide_eq_false hm0
          clear hm0 hm
         all_goals
          clear d0 d1 d2 d3 d4 HYW HCW HBW HBLN
          go_upto_region 38 with fail)
      | (have _ := kE
         go_upto_region 38 with (go_at_call 17; refine (b_finish HCW.out (SZ.out _ HBW.out)).mono ?_; rintro e w3 ⟨rfl, hstep⟩)
         obtain ⟨hbl3, st3, ab3, hbi3, hle3⟩ := hstep
         have HC3 := Lib.hid hbi3
         have HB3 := Lib.hid (HBW.out.trans hbl3)
         have hlt3 : decide (st3 < st) = false := decide_eq_false (by omega)
         clear hbl3 hbi3 hle3
         clear d0 d1 d2 d3 d4 HYW HCW HBW HBLN)
      | (have _ := kF
         go_upto_region 38 with (go_at_call 18; refine (b_shut HCW.out (SZ.out _ HBW.out)).mono ?_; rintro e w3 ⟨rfl, hstep⟩)
         obtain ⟨hbl3, st3, ab3, hbi3, hle3⟩ := hstep
         have HC3 := Lib.hid hbi3
         have HB3 := Lib.hid (HBW.out.trans hbl3)
         have hlt3 : decide (st3 < st) = false := decide_eq_false (by omega)
         clear hbl3 hbi3 hle3
         clear d0 d1 d2 d3 d4 HYW HCW HBW HBLN)
      | (have _ := kG
         go_upto_region 38 with (go_at_call 19; refine (b_kill HCW.out (SZ.out _ HBW.out) hroom.1).mono ?_; rintro e w3 ⟨rfl, hstep⟩)
         obtain ⟨hbl3, st3, ab3, hbi3, hle3⟩ := hstep
         have HC3 := Lib.hid hbi3
         have HB3 := Lib.hid (HBW.out.trans hbl3)
         have hlt3 : decide (st3 < st) = false := decide_eq_false (by omega)
         clear hbl3 hbi3 hle3
         clear d0 d1 d2 d3 d4 HYW HCW HBW HBLN)
      | (have _ := k10
         have hstep := HCW.out.stay (SZ.out _ HBW.out) (Fr.refl [] W)
         obtain ⟨hbl3, st3, ab3, hbi3, hle3⟩ := hstep
         have HC3 := Lib.hid hbi3
         have HB3 := Lib.hid (HBW.out.trans hbl3)
         have hlt3 : decide (st3 < st) = false := decide_eq_false (by omega)
         clear hbl3 hbi3 hle3
         clear d1 d2 d3 d4 HYW HCW HBW HBLN
         obtain ⟨w3, hw3⟩ : ∃ w3, w3 = W := ⟨_, rfl⟩
         go_upto_region 38 with fail
         rw [← hw3] at HC3 HB3 ⊢
         clear hw3 d0 k0 k1 k2 k3 k4 k5 k6 k7 k8 k9 k10)
      all_goals
       go_wp2_with fail
       go_at_call 20
       refine (b_held HC3.out).mono ?_
       rintro e w4 ⟨z1, z2, rfl, hz1, hz2, hz3, hz4, hz5, hf4⟩
       have HC4 := Lib.hid (HC3.out.fr_nil hf4)
       have HB4 := Lib.hid (HB3.out.trans (hf4.below_nil.mono (SZ.out _ HB3.out)))
       clear hf4
       go_upto_region 39 with fail
       have hb4 := HBX.out.fr (FB.out _ HB4.out) (by simp)
       have d0 := hb4.cell_ (i := 0) rfl; have d3 := hb4.cell_ (i := 3) rfl
       have y1 : decide (z1 < 0) = false := decide_eq_false (by omega)
       have y2 : decide (k < z1) = false := decide_eq_false (by omega)
       have y3 : decide (z2 < 0) = false := decide_eq_false (by omega)
       have y4 : decide (room < z2) = false := decide_eq_false (by omega)
       have HZ5 := Lib.hid hz5
       clear hb4 hz1 hz2 hz3 hz4 hz5 HC3 HB3
       by_cases h3 : 3 ≤ st3
       case' pos =>
        have y5 : decide (3 ≤ st3) = true := decide_eq_true h3
        obtain rfl : z2 = 0 := HZ5.out h3
        have HN := Lib.hid (b_next HC4.out h3 9)
        clear h3 HZ5
       case' neg =>
        have y5 : decide (3 ≤ st3) = false := decide_eq_false h3
        have HN := Lib.hid True.intro
        clear h3 HZ5
       all_goals
        go_wp2_with (first
         | (go_at_call 13; refine (b_state HC4.out).mono ?_; rintro e w9 ⟨rfl, rfl⟩)
         | (go_at_call 21; refine HN.out.mono ?_; rintro e w9 ⟨rfl, rfl⟩))
        go_roundw
        case rel => exact ⟨i + 1, st3, ab3, by go_num, by omega, HC4.out, HB4.out⟩
        case measure => first | (simp [intOf]; done) | (simp [intOf]; omega)
end Go.Proofs.YtfbmogccmlikaaaGreatDoor.G
namespace Go.Proofs.YtfbmogccmlikaaaGreatDoor
open Go.RowKit Go.ChangeShapes Go.WideShapes Go.ChangeAt Go.Deep
set_option maxRecDepth 100000 in
theorem connBounds_open {H : Type} {enc : TypeId × Value → H} (W : World) (base : Nat) (v0 : Value) (d0 : DataW H) (p0 : List MemPlace) (v1 : Value) (d1 : DataW H) (p1 : List MemPlace) (v2 : Value) (d2 : DataW H) (p2 : List MemPlace)
    (k0 : Value.okWide Tryz.prog W .any base 9 v0) (k1 : Value.okWide Tryz.prog W .any base 23 v1) (k2 : Value.okWide Tryz.prog W .any base 24 v2)
    (h0 : DataW.Trod enc Tryz.prog W 0 (fun _ => true) true 9 v0 d0 p0) (h1 : DataW.Trod enc Tryz.prog W 0 (fun _ => true) true 23 v1 d1 p1) (h2 : DataW.Trod enc Tryz.prog W 0 (fun _ => true) true 24 v2 d2 p2) (hg : GlobOk W) (hl : laidMetH Tryz.prog Rows.connBoundsRow.laid W) :
    Calls Tryz.prog 4 #[v0, v1, v2] W fun e W' => e = .returned (.bool true) ∧ Below W.heap.size W W' := by
 obtain ⟨rs, rfl, -⟩ := G.arg_strL k0 h0
 obtain ⟨k, lo, hi, room, idle, rfl⟩ := G.arg_cfg k1 h1
 obtain ⟨A, n, c, KK, M, N, BA, BC, BB, F, rfl, hn, ha, hbc⟩ := G.acts_openG k2 h2
 exact G.bounds_walk hg (G.errT_of_laid hl) rs k lo hi room idle ha hn (fun i hi => (hbc i hi).1)
end Go.Proofs.YtfbmogccmlikaaaGreatDoor
