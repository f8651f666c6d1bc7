/-
  What a cutter's methods do, its blocks from B on. No conditions on the program.
-/
import Derived.Test.YtecdghjimcfhpaaGreatDoorRc3
namespace Go.Proofs.YtecdghjimcfhpaaGreatDoor
open Go.RowKit
set_option linter.unusedVariables false
set_option linter.unusedSimpArgs false

/-- Next, of a cutter whose blocks lie from B on. -/
theorem nextB_ok {w : World} {B q : Nat} {x : Cu} (h : CuB w B q x) (hB : B ≤ w.heap.size) (hb : x.bs.length ≤ 65536) (a b : Nat) (he : fstM x.c x.bs x.en = (a, b, true)) (y : Cu) (hy : { x with bs := x.bs.drop b } = y) (r : List UInt8) (hr : x.bs.take a = r) :
    Calls Tryz.prog 32 #[.pointer (some ⟨q, 0, none⟩)] w fun e w' => e = .returned (.tuple #[.string ⟨r.toArray⟩, .bool true, .nilIface]) ∧ CuB w' B q y ∧ Below B w w' := by
  obtain ⟨v, hR, h1, h2⟩ := h
  subst hy hr
  exact (next_ok hR hb a b he).mono fun e w' h => ⟨h.1, CuB.to h1 h2 hB h.2⟩
theorem nextB_wait {w : World} {B q : Nat} {x : Cu} (h : CuB w B q x) (hB : B ≤ w.heap.size) (hb : x.bs.length ≤ 65536) (hen : x.en = false) (he : fstM x.c x.bs x.en = (0, 0, false)) (hl : (x.bs.length : Int) < x.room) :
    Calls Tryz.prog 32 #[.pointer (some ⟨q, 0, none⟩)] w fun e w' => e = .returned (.tuple #[.string ⟨#[]⟩, .bool false, .nilIface]) ∧ CuB w' B q x ∧ Below B w w' := by
  obtain ⟨v, hR, h1, h2⟩ := h
  exact (next_wait hR hb hen he hl).mono fun e w' h => ⟨h.1, CuB.to h1 h2 hB h.2⟩
theorem nextB_long {w : World} {B q : Nat} {x : Cu} (h : CuB w B q x) (hB : B ≤ w.heap.size) (hb : x.bs.length ≤ 65536) (hen : x.en = false) (he : fstM x.c x.bs x.en = (0, 0, false)) (hl : x.room ≤ (x.bs.length : Int)) (y : Cu) (hy : { x with bs := [], en := true } = y) :
    Calls Tryz.prog 32 #[.pointer (some ⟨q, 0, none⟩)] w fun e w' => e = .returned (.tuple #[.string ⟨#[]⟩, .bool false, errV 20]) ∧ CuB w' B q y ∧ Below B w w' := by
  obtain ⟨v, hR, h1, h2⟩ := h
  subst hy
  exact (next_long hR hb hen he hl).mono fun e w' h => ⟨h.1, CuB.to h1 h2 hB h.2⟩
theorem putB {w : World} {B q : Nat} {x : Cu} (h : CuB w B q x) (hB : B ≤ w.heap.size) (hr : 0 ≤ x.room ∧ x.room ≤ 65536) (hb : (x.bs.length : Int) ≤ x.room) {bA : Option Addr} {bs : List UInt8} {bn bc : Nat} (hn : bs.length = bn) (hby : Bytes w bA bs) (hbc : bn ≤ bc) (hbl : bn ≤ 100000000) (kk : Nat) (hkk : (kk : Int) = min (bn : Int) (freeM x)) (y : Cu) (hy : { x with bs := x.bs ++ bs.take kk } = y) :
    Calls Tryz.prog 22 #[.pointer (some ⟨q, 0, none⟩), .slice bA bn bc] w fun e w' => e = .returned (.int .i64 (kk : Int)) ∧ CuB w' B q y ∧ Below B w w' := by
  obtain ⟨v, hR, h1, h2⟩ := h
  subst hy
  exact (cput_any hR hr hb hn hby hbc hbl kk hkk).mono fun e w' h => ⟨h.1, CuB.to h1 h2 hB h.2⟩
theorem endB {w : World} {B q : Nat} {x : Cu} (h : CuB w B q x) (hB : B ≤ w.heap.size) (y : Cu) (hy : { x with en := true } = y) :
    Calls Tryz.prog 24 #[.pointer (some ⟨q, 0, none⟩)] w fun e w' => e = .returned (.tuple #[]) ∧ CuB w' B q y ∧ Below B w w' := by
  obtain ⟨v, hR, h1, h2⟩ := h
  subst hy
  exact (end_any hR).mono fun e w' h => ⟨h.1, CuB.to h1 h2 hB h.2⟩
theorem newB {w : World} {B : Nat} (hB : B ≤ w.heap.size) (c : UInt8) (h2 : c ≠ 92) (k : Int) (hk : 1 ≤ k ∧ k ≤ 65536) : Calls Tryz.prog 21 #[.string ⟨#[c]⟩, .int .i64 k] w fun e w' =>
    ∃ q, e = .returned (.tuple #[.pointer (some ⟨q, 0, none⟩), .nilIface]) ∧ CuB w' B q ⟨c, k, [], false⟩ ∧ Fr [] w w' :=
  (rnew_one c h2 k hk).mono fun e w' ⟨q, he, hr, hq, hf⟩ => ⟨q, he, ⟨_, hr, by omega, fun k hk => by simp [Value.ownBlock] at hk⟩, hf⟩
theorem sizeB {B : Nat} {w w' : World} (hB : B ≤ w.heap.size) (h : Below B w w') : B ≤ w'.heap.size := Nat.le_trans hB h.size
end Go.Proofs.YtecdghjimcfhpaaGreatDoor
