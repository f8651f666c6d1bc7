/-
 CnQ, KCn1: several small texts in one. No conditions.
-/
import Derived.Test.YtfbmogccmlikaaaGreatDoorRows
import Derived.Test.YtfbmogccmlikaaaGreatDoorBase
import Derived.Deep.QuietTactic
import Derived.BigQuiet
import Derived.Test.YtfbmogccmlikaaaGreatDoorHKb
namespace Go.Proofs.YtfbmogccmlikaaaGreatDoor.Q
open Go.RowKit
set_option linter.unusedVariables false
set_option linter.unusedSimpArgs false
set_option maxRecDepth 100000
def qCells (lo hi room : Int) (A : Option Addr) (n c : Nat) (ab : Bool) (qu go : Int) : Array Value :=
 #[.int .i64 lo, .int .i64 hi, .int .i64 room, .slice A n c, .bool ab, .int .i64 qu, .int .i64 go]
theorem que_cells {w : World} {q : Nat} {lo hi room : Int} {A : Option Addr} {n c : Nat} {ab : Bool} {qu go : Int} (h : Bk w q 70 (qCells lo hi room A n c ab qu go)) :
    w.cell? ⟨q, 0, none⟩ = some (.int .i64 lo) ∧ w.cell? ⟨q, 1, none⟩ = some (.int .i64 hi) ∧ w.cell? ⟨q, 2, none⟩ = some (.int .i64 room) ∧ w.cell? ⟨q, 3, none⟩ = some (.slice A n c) ∧
     w.cell? ⟨q, 4, none⟩ = some (.bool ab) ∧ w.cell? ⟨q, 5, none⟩ = some (.int .i64 qu) ∧ w.cell? ⟨q, 6, none⟩ = some (.int .i64 go) :=
 ⟨h.cell_ rfl, h.cell_ rfl, h.cell_ rfl, h.cell_ rfl, h.cell_ rfl, h.cell_ rfl, h.cell_ rfl⟩
def Que (w : World) (q : Nat) (lo hi room : Int) (bs : List UInt8) (ab : Bool) (qu go : Int) : Prop :=
 ∃ A c, Bk w q 70 (qCells lo hi room A bs.length c ab qu go) ∧ Bytes w A bs ∧ bs.length ≤ c ∧ c ≤ maxLen ∧ (A = none → c = 0) ∧ ∀ a, A = some a → a.block ≠ q
theorem new_no (lo hi room : Int) (w : World) (h : lo < 0 ∨ hi ≤ lo ∨ room < hi ∨ 65536 < room) :
    Calls Tryz.prog 22 #[.int .i64 lo, .int .i64 hi, .int .i64 room] w fun e w' => e = .returned (.pointer none) ∧ w = w' := by
 by_cases h1 : lo < 0
 ·go_enter Tryz.func22, Tryz.ntmps22
  go_wp2
  go_ret
  exact ⟨rfl, rfl⟩
 by_cases h2 : hi ≤ lo
 ·go_enter Tryz.func22, Tryz.ntmps22
  go_wp2
  go_ret
  exact ⟨rfl, rfl⟩
 by_cases h3 : room < hi
 ·go_enter Tryz.func22, Tryz.ntmps22
  go_wp2
  go_ret
  exact ⟨rfl, rfl⟩
 have h4 : 65536 < room := by omega
 go_enter Tryz.func22, Tryz.ntmps22
 go_wp2
 go_ret
 exact ⟨rfl, rfl⟩
theorem new_yes (lo hi room : Int) (w : World) (h1 : ¬ lo < 0) (h2 : ¬ hi ≤ lo) (h3 : ¬ room < hi) (h4 : ¬ 65536 < room) :
    Calls Tryz.prog 22 #[.int .i64 lo, .int .i64 hi, .int .i64 room] w fun e w' =>
     e = .returned (.pointer (some ⟨w.heap.size, 0, none⟩)) ∧ w' = w.alloc (.cells (qCells lo hi room none 0 0 false 0 0) 70) := by
 go_enter Tryz.func22, Tryz.ntmps22
 go_wp2
 go_ret
 exact ⟨rfl, rfl⟩
theorem held_any {q : Nat} {lo hi room : Int} {bs : List UInt8} {ab : Bool} {qu go : Int} {w : World} (h : Que w q lo hi room bs ab qu go) :
    Calls Tryz.prog 39 #[.pointer (some ⟨q, 0, none⟩)] w fun e w' => e = .returned (.int .i64 bs.length) ∧ w = w' := by
 obtain ⟨A, c, hb, -, -, -, -, -⟩ := h
 obtain ⟨-, -, -, h3, -, -, -⟩ := que_cells hb
 clear hb
 go_enter Tryz.func39, Tryz.ntmps39
 go_wp2
 go_ret
 exact ⟨rfl, rfl⟩
theorem above_any {q : Nat} {lo hi room : Int} {bs : List UInt8} {ab : Bool} {qu go : Int} {w : World} (h : Que w q lo hi room bs ab qu go) :
    Calls Tryz.prog 28 #[.pointer (some ⟨q, 0, none⟩)] w fun e w' => e = .returned (.bool ab) ∧ w = w' := by
 obtain ⟨A, c, hb, -, -, -, -, -⟩ := h
 obtain ⟨-, -, -, -, h3, -, -⟩ := que_cells hb
 clear hb
 go_enter Tryz.func28, Tryz.ntmps28
 go_wp2
 go_ret
 exact ⟨rfl, rfl⟩
def markB (lo hi : Int) (n : Nat) (ab : Bool) : Bool := if hi ≤ n then true else if (n : Int) ≤ lo then false else ab
theorem mark_any {q : Nat} {lo hi room : Int} {bs : List UInt8} {ab : Bool} {qu go : Int} {w : World} (h : Que w q lo hi room bs ab qu go) :
    Calls Tryz.prog 52 #[.pointer (some ⟨q, 0, none⟩)] w fun e w' => e = .returned (.tuple #[]) ∧ Que w' q lo hi room bs (markB lo hi bs.length ab) qu go ∧ Fr [q] w w' := by
 obtain ⟨A, c, hb, hby, hlc, hc, hA, hne⟩ := h
 obtain ⟨h0, h1, -, h3, h4, -, -⟩ := que_cells hb
 have hf := hb.frozen 4
 have fin : ∀ (x : Bool) (n : Nat), Que ((w.drewN n).setCell ⟨q, 4, none⟩ (.bool x)) q lo hi room bs x qu go ∧ Fr [q] w ((w.drewN n).setCell ⟨q, 4, none⟩ (.bool x)) := fun x n =>
  have hfr : Fr [q] w ((w.drewN n).setCell ⟨q, 4, none⟩ (.bool x)) := ((Fr.refl _ _).drewN n).setCell (.inl (by simp)) _
  ⟨⟨A, c, (hb.drewN n).put 4 _, At.fr hby hfr (fun a ha _ => by simpa using hne a ha), hlc, hc, hA, hne⟩, hfr⟩
 have fin0 : ∀ (n : Nat), Que (w.drewN n) q lo hi room bs ab qu go ∧ Fr [q] w (w.drewN n) := fun n =>
  ⟨⟨A, c, hb, hby, hlc, hc, hA, hne⟩, (Fr.refl _ _).drewN n⟩
 generalize hn : bs.length = n at *
 have HB := Lib.hid hb; clear hb
 have FI := Lib.hid fin; clear fin
 have FI0 := Lib.hid fin0; clear fin0
 clear hby hne hA hn
 unfold maxLen at hc
 by_cases h5 : hi ≤ (n : Int)
 ·have hm : markB lo hi n ab = true := by unfold markB; rw [if_pos h5]
  rw [hm]
  go_enter Tryz.func52, Tryz.ntmps52
  go_wp2
  go_quiet (fail)
  go_wp2
  go_end0
  exact ⟨rfl, FI.out _ _⟩
 ·by_cases h6 : (n : Int) ≤ lo
  ·have hm : markB lo hi n ab = false := by unfold markB; rw [if_neg h5, if_pos h6]
   rw [hm]
   go_enter Tryz.func52, Tryz.ntmps52
   go_wp2
   go_quiet (fail)
   go_wp2
   go_quiet (fail)
   go_wp2
   go_end0
   exact ⟨rfl, FI.out _ _⟩
  ·have hm : markB lo hi n ab = ab := by unfold markB; rw [if_neg h5, if_neg h6]
   rw [hm]
   go_enter Tryz.func52, Tryz.ntmps52
   go_wp2
   go_quiet (fail)
   go_wp2
   go_quiet (fail)
   go_wp2
   go_end0
   exact ⟨rfl, by rw [World.drewN_drewN]; exact FI0.out _⟩
theorem u8parts : ∃ i, Tryz.prog.info? 5 = some i ∧ i.zero = some (.int .u8 0) ∧ i.size = 1 ∧ i.bytes = 1 := info_parts (by kernel_rfl)
theorem put_no {q : Nat} {lo hi room : Int} {bs : List UInt8} {ab : Bool} {qu go : Int} {w : World} (h : Que w q lo hi room bs ab qu go) (hr : room ≤ 65536) (hr0 : 0 ≤ room)
    (A : Option Addr) (n c : Nat) (hn : n ≤ maxLen) (hl : room - bs.length < n) :
    Calls Tryz.prog 34 #[.pointer (some ⟨q, 0, none⟩), .slice A n c] w fun e w' => e = .returned (.iface 52 (.int .i64 17)) ∧ ∃ k, w' = w.drewN k := by
 obtain ⟨A', c', hb, hby, hlc, hc, hA, hne⟩ := h
 obtain ⟨-, -, h2, h3, -, -, -⟩ := que_cells hb
 unfold maxLen at hc hn
 clear hby hne hA hb
 generalize hk : bs.length = k at *
 clear hk
 go_enter Tryz.func34, Tryz.ntmps34
 go_wp2
 go_quiet (fail)
 go_wp2
 go_ret
 exact ⟨rfl, _, rfl⟩
theorem put_yes {q : Nat} {lo hi room : Int} {bs xs : List UInt8} {ab : Bool} {qu go : Int} {w : World} (h : Que w q lo hi room bs ab qu go) (hr : room ≤ 65536)
    (A : Option Addr) (c : Nat) (hx : Bytes w A xs) (hl : xs.length ≤ room - bs.length) (hq0 : 0 ≤ qu) (hq1 : qu ≤ 1000000000000000) :
    Calls Tryz.prog 34 #[.pointer (some ⟨q, 0, none⟩), .slice A xs.length c] w fun e w' => e = .returned .nilIface ∧
     Que w' q lo hi room (bs ++ xs) (markB lo hi (bs ++ xs).length ab) (qu + xs.length) go ∧ Fr [q] w w' := by
 obtain ⟨A', c', hb, hby, hlc, hc, hA, hne⟩ := h
 obtain ⟨-, -, h2, h3, -, h5, -⟩ := que_cells hb
 have hf3 := hb.frozen 3
 have hf5 := hb.frozen 5
 unfold maxLen at hc
 have HB := Lib.hid hb; clear hb
 have HBY := Lib.hid hby; clear hby
 have HNE := Lib.hid hne; clear hne
 have HA := Lib.hid hA; clear hA
 have HX := Lib.hid hx; clear hx
 go_enter Tryz.func34, Tryz.ntmps34
 go_wp2
 go_quiet (fail)
 obtain ⟨i0, hi0, hz0, hz1, hz2⟩ := u8parts
 have hm : bs.length + xs.length ≤ 65536 := by omega
 go_wp2_with (at_builtin; refine wpList_append_full rfl (.tmp 32) (.tmp 33) 34 rfl 5 i0 _ Tryz.underlying34 hi0 hz0 hz1 rfl A' A bs.length xs.length c (by simp [Act.eval]) (by simp [Act.eval]) (byteVals bs) (byteVals xs) HBY.out (byteVals_length _) HX.out (byteVals_length _) (fun h => by have := HA.out h; omega) (by rw [hz2]; omega) (by unfold maxLen; omega) ?_)
 intro A1 c1 w1 hat hle hmx hnil hfr hwh
 rw [← byteVals_append] at hat
 have hb1 : Bk w1 q 70 _ := (HB.out.drewN nq).fr hfr (by simp)
 have hlt : q < w1.heap.size := hb1.lt
 obtain ⟨-, -, -, g3, -, g5, -⟩ := que_cells hb1
 have gf3 := hb1.frozen 3
 have gf5 := hb1.frozen 5
 have hne1 : ∀ a, A1 = some a → a.block ≠ q := by
  intro a ha
  rcases hwh with ⟨-, h⟩ | h
  ·exact HNE.out a (by rw [← h]; exact ha)
  ·rw [h] at ha; injection ha with ha; subst ha
   have : q < w.heap.size := HB.out.lt
   simp; omega
 have hq2 : Que ((w1.setCell ⟨q, 3, none⟩ (.slice A1 (bs.length + xs.length) c1)).setCell ⟨q, 5, none⟩ (.int .i64 (qu + xs.length))) q lo hi room (bs ++ xs) ab (qu + xs.length) go := by
  refine ⟨A1, c1, ?_, ?_, by simpa using hle, hmx, hnil, hne1⟩
  ·have := (hb1.put 3 (.slice A1 (bs.length + xs.length) c1)).put 5 (.int .i64 (qu + xs.length))
   rw [List.length_append]; exact this
  ·exact At.fr hat ((((Fr.refl [q] w1).setCell (.inl (by simp)) _).setCell (.inl (by simp)) _)) (fun a ha _ => by simpa using hne1 a ha)
 have hf2 : Fr [q] w ((w1.setCell ⟨q, 3, none⟩ (.slice A1 (bs.length + xs.length) c1)).setCell ⟨q, 5, none⟩ (.int .i64 (qu + xs.length))) :=
  (((((Fr.refl [q] w).drewN nq).trans hfr.nil_).setCell (.inl (by simp)) _).setCell (.inl (by simp)) _)
 have HQ2 := Lib.hid hq2; clear hq2
 have HF2 := Lib.hid hf2; clear hf2
 have HB1 := Lib.hid hb1; clear hb1
 have HAT := Lib.hid hat; clear hat
 have HNE1 := Lib.hid hne1; clear hne1
 clear hnil hfr hwh HA
 go_wp2_with (go_at_call 52; refine (mark_any HQ2.out).mono ?_; rintro e w' ⟨rfl, hq', hf'⟩)
 go_ret
 exact ⟨rfl, hq', HF2.out.trans hf'⟩
theorem put_yes' {q : Nat} {lo hi room : Int} {bs xs : List UInt8} {ab : Bool} {qu go : Int} {w : World} (h : Que w q lo hi room bs ab qu go) (hr : room ≤ 65536)
    (A : Option Addr) (n c : Nat) (hx : Bytes w A xs) (hn : xs.length = n) (hl : n ≤ room - bs.length) (hq0 : 0 ≤ qu) (hq1 : qu ≤ 1000000000000000) :
    Calls Tryz.prog 34 #[.pointer (some ⟨q, 0, none⟩), .slice A n c] w fun e w' => e = .returned .nilIface ∧
     Que w' q lo hi room (bs ++ xs) (markB lo hi (bs ++ xs).length ab) (qu + n) go ∧ Fr [q] w w' := by
 subst hn; exact put_yes h hr A c hx hl hq0 hq1
def clampN (n : Int) (m : Nat) : Nat := if n < 0 then 0 else if (m : Int) ≤ n then m else n.toNat
theorem clampN_max {n : Int} {m k : Nat} (hk : k = clampN n m) : max 0 (min n (m : Int)) = (k : Int) := by
 subst hk
 unfold clampN
 split
 ·omega
 ·split <;> omega
theorem clampN_le (n : Int) (m : Nat) : clampN n m ≤ m := by unfold clampN; split; omega; split <;> omega
def NextPost (w : World) (q : Nat) (lo hi room : Int) (bs : List UInt8) (ab : Bool) (qu go : Int) (k : Nat) (e : Ending) (w' : World) : Prop :=
 ∃ A c, e = .returned (.slice A k c) ∧ Bytes w' A (bs.take k) ∧ k ≤ c ∧ c ≤ maxLen ∧ (A = none → c = 0) ∧ Que w' q lo hi room bs ab qu go ∧ Fr [] w w' ∧ ∀ a, A = some a → w.heap.size ≤ a.block
theorem took_at {q : Nat} {lo hi room : Int} {bs : List UInt8} {ab : Bool} {qu go : Int} {w : World} (h : Que w q lo hi room bs ab qu go) (hl : bs.length ≤ 65536) (n : Int) (k : Nat) (hk : k = clampN n bs.length) (hg0 : 0 ≤ go) (hg1 : go ≤ 1000000000000000) :
    Calls Tryz.prog 35 #[.pointer (some ⟨q, 0, none⟩), .int .i64 n] w fun e w' => e = .returned (.int .i64 k) ∧ Que w' q lo hi room (bs.drop k) (markB lo hi (bs.drop k).length ab) qu (go + k) ∧ Fr [q] w w' := by
 have hkl : k ≤ bs.length := hk ▸ clampN_le _ _
 obtain ⟨A', c', hb, hby, hlc, hc, hA, hne⟩ := h
 obtain ⟨-, -, -, h3, -, -, h6⟩ := que_cells hb
 have hf3 := hb.frozen 3
 have hf6 := hb.frozen 6
 unfold maxLen at hc
 obtain ⟨i0, hi0, hz0, hz1, hz2⟩ := u8parts
 have key : ∀ X V, V = (k : Int) → At w X (((byteVals bs).drop k).take (bs.length - k)) → (X = none → c' - k = 0) → (∀ b, X = some b → ∃ a', A' = some a' ∧ b.block = a'.block) →
     Que ((w.setCell ⟨q, 3, none⟩ (.slice X (bs.length - k) (c' - k))).setCell ⟨q, 6, none⟩ (.int .i64 (go + V))) q lo hi room (bs.drop k) ab qu (go + k) ∧
      Fr [q] w ((w.setCell ⟨q, 3, none⟩ (.slice X (bs.length - k) (c' - k))).setCell ⟨q, 6, none⟩ (.int .i64 (go + V))) := by
  rintro X V rfl hX h0 hbl
  have hcut : ∀ a, X = some a → a.block ≠ q := fun b hb => by
   obtain ⟨a', ha', e⟩ := hbl b hb
   rw [e]; exact hne a' ha'
  have hat : At w X (byteVals (bs.drop k)) := by
   have e : ((byteVals bs).drop k).take (bs.length - k) = byteVals (bs.drop k) := by
    rw [List.take_of_length_le (by rw [List.length_drop, byteVals_length]; omega), byteVals, byteVals, List.map_drop]
   rwa [e] at hX
  refine ⟨⟨X, c' - k, ?_, ?_, by simp; omega, by unfold maxLen; omega, h0, hcut⟩, (((Fr.refl [q] w).setCell (.inl (by simp)) _).setCell (.inl (by simp)) _)⟩
  ·have := (hb.put 3 (.slice X (bs.length - k) (c' - k))).put 6 (.int .i64 (go + k))
   rw [List.length_drop]; exact this
  ·exact At.fr hat ((((Fr.refl [q] w).setCell (.inl (by simp)) _).setCell (.inl (by simp)) _)) (fun a ha _ => by simpa using hcut a ha)
 have HB := Lib.hid hb; clear hb
 have HBY := Lib.hid hby; clear hby
 have HA := Lib.hid hA; clear hA
 have HK := Lib.hid key; clear key hne
 have HV := Lib.hid (clampN_max hk); clear hk
 go_enter Tryz.func35, Tryz.ntmps35
 go_wp2_with (first
     | (refine wpList_min rfl (.tmp 5) (.tmp 10) _ rfl _ _ _ (min n (bs.length : Int)) (by rfl) (by rfl) rfl ?_)
     | (refine wpList_max rfl (.const (.int .i64 0)) (.tmp 11) _ rfl _ _ _ (k : Int) (by rfl) (by rfl) HV.out ?_)
     | (refine wpList_cut rfl 34 (.tmp 17) (some (.tmp 18)) none none rfl 5 i0 Tryz.underlying34 hi0 hz1 A' bs.length c' rfl (byteVals bs) HBY.out (byteVals_length _) hlc HA.out k bs.length c' (.inr rfl) (.inl ⟨rfl, rfl, rfl⟩) (.inl ⟨rfl, rfl⟩) (by omega) (by omega) (by omega) (by omega) ?_; intro X hX hX0 hX1; obtain ⟨hq2, hf2⟩ := HK.out X _ rfl hX hX0 hX1; have HQ2 := Lib.hid hq2; have HF2 := Lib.hid hf2; clear hq2 hf2 hX hX0 hX1)
     | (go_at_call 52; refine (mark_any HQ2.out).mono ?_; rintro e w' ⟨rfl, hq', hf'⟩))
 go_ret
 exact ⟨rfl, hq', HF2.out.trans hf'⟩
end Go.Proofs.YtfbmogccmlikaaaGreatDoor.Q
namespace Go.Proofs.YtfbmogccmlikaaaGreatDoor.K
open Go.RowKit
set_option linter.unusedVariables false
set_option linter.unusedSimpArgs false
def cnCells (q r : Nat) (st last idle : Int) : Array Value := #[.pointer (some ⟨q, 0, none⟩), .pointer (some ⟨r, 0, none⟩), .int .i64 st, .int .i64 last, .int .i64 idle]
def Cn (w : World) (B g q r : Nat) (x : Cu) (Q : Array Value) (st last idle : Int) : Prop :=
 Bk w g 57 (cnCells q r st last idle) ∧ Bk w q 70 Q ∧ B ≤ g ∧ B ≤ q ∧ CuB w B r x
theorem Cn.fr_nil {w w' : World} {B g q r : Nat} {x : Cu} {Q : Array Value} {st last idle : Int} (h : Cn w B g q r x Q st last idle) (hf : Fr [] w w') : Cn w' B g q r x Q st last idle :=
 ⟨h.1.fr hf (by simp), h.2.1.fr hf (by simp), h.2.2.1, h.2.2.2.1, h.2.2.2.2.fr_nil hf⟩
theorem cn_cells {w : World} {g q r : Nat} {st last idle : Int} (h : Bk w g 57 (cnCells q r st last idle)) :
    w.cell? ⟨g, 0, none⟩ = some (.pointer (some ⟨q, 0, none⟩)) ∧ w.cell? ⟨g, 1, none⟩ = some (.pointer (some ⟨r, 0, none⟩)) ∧ w.cell? ⟨g, 2, none⟩ = some (.int .i64 st) ∧ w.cell? ⟨g, 3, none⟩ = some (.int .i64 last) ∧ w.cell? ⟨g, 4, none⟩ = some (.int .i64 idle) :=
 ⟨h.cell_ rfl, h.cell_ rfl, h.cell_ rfl, h.cell_ rfl, h.cell_ rfl⟩
theorem Cn.cut {w w' : World} {B g q r : Nat} {x y : Cu} {Q : Array Value} {st last idle : Int} {v : Value} (h : Cn w B g q r x Q st last idle) (hB : B ≤ w.heap.size) (hv : CuR w r x v) (hv2 : ∀ k, v.ownBlock = some k → B ≤ k) (ht : CuTo w r v w' y) : Cn w' B g q r y Q st last idle ∧ Below B w w' := by
 obtain ⟨h1, h2, h3, h4, v0, h5, h6, h7⟩ := h
 obtain ⟨k1, k2⟩ := CuB.to h6 hv2 hB ht
 obtain ⟨v', t1, t2, t3⟩ := ht
 have n1 : g ∉ r :: v.ownBlock.toList := by
  intro hm
  rcases List.mem_cons.1 hm with e | hm
  ·exact h1.ne_ hv.1 (by decide) e
  ·exact Own.ne_bk hv.2 h1 (by decide) (by simpa using hm)
 have n2 : q ∉ r :: v.ownBlock.toList := by
  intro hm
  rcases List.mem_cons.1 hm with e | hm
  ·exact h2.ne_ hv.1 (by decide) e
  ·exact Own.ne_bk hv.2 h2 (by decide) (by simpa using hm)
 exact ⟨⟨h1.fr t2 n1, h2.fr t2 n2, h3, h4, k1⟩, k2⟩
theorem Cn.put {w w' : World} {B g q r : Nat} {x : Cu} {Q : Array Value} {st last idle st' last' idle' : Int} (h : Cn w B g q r x Q st last idle) (hB : B ≤ w.heap.size) (hf : Fr [g] w w') (hb : Bk w' g 57 (cnCells q r st' last' idle')) : Cn w' B g q r x Q st' last' idle' ∧ Below B w w' := by
 obtain ⟨h1, h2, h3, h4, v, h5, h6, h7⟩ := h
 have n2 : q ∉ [g] := by simpa using h2.ne_ h1 (by decide)
 have n3 : r ∉ [g] := by simpa using h5.1.ne_ h1 (by decide)
 refine ⟨⟨hb, h2.fr hf n2, h3, h4, v, ⟨h5.1.fr hf n3, Own.fr h5.2 hf (fun k hk => ?_)⟩, h6, h7⟩, hf.below_at hB (by simpa using h3)⟩
 have := Own.ne_bk h5.2 h1 (by decide)
 simp; rintro rfl; exact this hk
theorem inTime_ok {n : Int} (h : 0 ≤ n ∧ n ≤ 1099511627776) (w : World) : Calls Tryz.prog 23 #[.int .i64 n] w fun e w' => e = .returned (.bool true) ∧ w = w' := by
 have t0 : decide (0 ≤ n) = true := decide_eq_true h.1
 have t1 : decide (n ≤ 1099511627776) = true := decide_eq_true h.2
 go_enter Tryz.func23, Tryz.ntmps23
 go_wp2_with fail
 go_ret
 exact ⟨rfl, rfl⟩
theorem state_any {w : World} {B g q r : Nat} {x : Cu} {Q : Array Value} {st last idle : Int} (h : Cn w B g q r x Q st last idle) : Calls Tryz.prog 13 #[.pointer (some ⟨g, 0, none⟩)] w fun e w' => e = .returned (.int .i64 st) ∧ w = w' := by
 obtain ⟨-, -, c2, -, -⟩ := cn_cells h.1
 clear h
 go_enter Tryz.func13, Tryz.ntmps13
 go_wp2_with fail
 go_ret
 exact ⟨rfl, rfl⟩
def Q0 (lo hi room : Int) : Array Value := Q.qCells lo hi room none 0 0 false 0 0
theorem q0_que {w : World} {q : Nat} {lo hi room : Int} (h : Bk w q 70 (Q0 lo hi room)) : Q.Que w q lo hi room [] false 0 0 := ⟨none, 0, h, .inl rfl, by simp, by simp, fun _ => rfl, by simp⟩
end Go.Proofs.YtfbmogccmlikaaaGreatDoor.K
