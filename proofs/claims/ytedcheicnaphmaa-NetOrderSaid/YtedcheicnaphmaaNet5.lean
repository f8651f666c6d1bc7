/-
  Bytes come in to a net's wire; Clone, settle, Read, Write. No conditions on the program.
-/
import Derived.Test.YtedcheicnaphmaaNet4
namespace Go.Proofs.Ytedcheicnaphmaa
open Go.RowKit
set_option linter.unusedVariables false
set_option linter.unusedSimpArgs false

theorem right_b (c N : Int) (bA : Option Addr) (n bc : Nat) (hn : n ≤ 4096) (w : World) : Calls Try.prog 21 #[.agg (evC 1 c N (.slice bA n bc))] w fun e w' => e = .returned (.bool true) ∧ Fr [] w w' := by
  unfold evC
  have hb : decide ((n : Int) ≤ 4096) = true := by simp; omega
  go_enter Try.func21, Try.ntmps21
  go_wp2_with fail
  go_ret
  exact ⟨rfl, (Fr.refl [] w).alloc _⟩
set_option maxRecDepth 100000 in
set_option maxHeartbeats 2000000 in
theorem data_yes {w : World} {B n : Nat} {now : Int} {ws : List Wr} (h : NetS w B n now ws) (hB : B ≤ w.heap.size) (hlen : ws.length ≤ 64) {k : Nat} (hk : k < ws.length) (x : Wr) (hx : ws.getD k default = x) (hst : x.st = 1) (hen : x.en = false) (N : Int) (bA : Option Addr) (bs : List UInt8) (bc : Nat) (hby : Bytes w bA bs) (hl : x.inn.length + bs.length ≤ 65536) (hb : bs.length ≤ 4096) :
    Calls Try.prog 10 #[.pointer (some ⟨n, 0, none⟩), .agg (evC 1 ((k : Int) + 1) N (.slice bA bs.length bc))] w fun e w' => e = .returned .nilIface ∧ NetS w' B n now (ws.set k { x with inn := x.inn ++ bs }) ∧ NFr B w w' := by
  obtain ⟨v, G, IV, GV, h⟩ := h
  have hri := fun w => right_b ((k : Int) + 1) N bA bs.length bc hb w
  have HRI := Lib.hid hri; clear hri
  have H := Lib.hid h; have HBY := Lib.hid hby; have HX := Lib.hid hx
  clear h hby hx
  have hev : Bk (w.alloc (.cells (evC 1 ((k : Int) + 1) N (.slice bA bs.length bc)) 34)) w.heap.size 34 (evC 1 ((k : Int) + 1) N (.slice bA bs.length bc)) := Bk.new w _ _
  have HEV := Lib.hid hev; clear hev
  have hdt := fun (w : World) (h : NetR w B n now ws v G IV GV) (hB : B ≤ w.heap.size) (hby : Bytes w bA bs) => wdata_yes v G IV GV h hB hk x HX.out hst hen ((k : Int) + 1) N bA bs bc hby hl
  have HDT := Lib.hid hdt; clear hdt
  unfold evC at *
  go_enter Try.func10, Try.ntmps10
  go_wp2_with fail
  go_at_call 20
  refine (at_yes (H.out.fr_nil ((Fr.refl [] w).alloc _)) hlen k hk).mono ?_
  rintro e w1 ⟨rfl, rfl⟩
  go_wp2_with fail
  go_at_call 21
  refine (HRI.out _).mono ?_
  rintro e w2 ⟨rfl, hf⟩
  have hf2 : Fr [] w w2 := ((Fr.refl [] w).alloc _).trans hf
  have he2 := HEV.out.fr hf (by simp)
  have d0 := he2.cell_ (i := 0) rfl; have d1 := he2.cell_ (i := 1) rfl; have d2 := he2.cell_ (i := 2) rfl; have d3 := he2.cell_ (i := 3) rfl
  have HF2 := Lib.hid hf2
  clear hf hf2 he2
  go_wp2_with fail
  go_at_call 22
  refine (HDT.out _ (H.out.fr_nil HF2.out) (Nat.le_trans hB HF2.out.size) (HBY.out.fr_nil HF2.out)).mono ?_
  rintro e w3 ⟨rfl, hs, hn⟩
  go_wp2_with fail
  go_ret
  exact ⟨rfl, hs, (NFr.of_fr HF2.out).trans hn⟩

/-- What 'slices.Clone' leaves. -/
def ClonePost (w : World) (bs : List UInt8) (e : Ending) (w' : World) : Prop := ∃ A c, e = .returned (.slice A bs.length c) ∧ Bytes w' A bs ∧ bs.length ≤ c ∧ c ≤ maxLen ∧ (A = none → c = 0) ∧ Fr [] w w' ∧ ∀ a, A = some a → w.heap.size ≤ a.block
theorem nil_eq (w : World) : (binOp .eql 32 (.slice none 0 0) (.slice none 0 0)).run Try.prog w = .ok (.bool true) w := by kernel_rfl
theorem nil_ne (a : Addr) (n c : Nat) (w : World) : (binOp .eql 32 (.slice (some a) n c) (.slice none 0 0)).run Try.prog w = .ok (.bool false) w := by kernel_rfl
set_option maxRecDepth 100000 in
set_option maxHeartbeats 1000000 in
theorem clone_any {w : World} {A : Option Addr} {bs : List UInt8} {c : Nat} (h : Bytes w A bs) (hA : A = none → c = 0) (hc : bs.length ≤ c) (hl : bs.length ≤ 1000000000) : Calls Try.prog 24 #[.slice A bs.length c] w (ClonePost w bs) := by
  obtain ⟨i0, hi0, hz0, hz1, hz2⟩ := u8parts
  cases A with
  | none =>
    have h0 : bs.length = 0 := by have := hA rfl; omega
    obtain rfl : bs = [] := List.eq_nil_of_length_eq_zero h0
    obtain rfl : c = 0 := hA rfl
    simp only [List.length_nil]
    clear h hA
    have q := nil_eq
    go_enter Try.func24, Try.ntmps24
    go_wp2_with fail
    go_ret
    exact ⟨none, 0, rfl, .inl rfl, by simp, by simp, fun _ => rfl, Fr.refl _ _, by simp⟩
  | some a =>
    have HB := Lib.hid h; clear h hA
    have q := nil_ne
    go_enter Try.func24, Try.ntmps24
    go_wp2_with (at_builtin; refine wpList_append_full rfl (.tmp 5) (.tmp 6) 32 rfl 5 i0 _ Try.underlying32 hi0 hz0 hz1 rfl (some ⟨w.heap.size, 0, none⟩) (some a) 0 bs.length c (by first | rfl | (simp [Act.eval]; done)) (by first | rfl | (simp [Act.eval]; done)) [] (byteVals bs) (.inl rfl) rfl (At.alloc HB.out _) (byteVals_length _) (fun h => by cases h) (by rw [hz2]; omega) (by unfold maxLen; omega) ?_; intro A5 c5 w5 hat hle hmx hnil hfr hwh; have HAT := Lib.hid hat; have HF5 := Lib.hid hfr; have HNIL := Lib.hid hnil; have HWH := Lib.hid hwh; clear hat hfr hnil hwh)
    go_ret
    have hat := HAT.out
    rw [List.nil_append] at hat
    exact ⟨A5, c5, by simp, hat, by omega, hmx, HNIL.out, ((Fr.refl [] w).alloc _).trans HF5.out, fun a ha => by
      rcases HWH.out with ⟨-, h⟩ | h
      · rw [h] at ha; injection ha with ha; subst ha; simp
      · rw [h] at ha; injection ha with ha; subst ha; simp⟩
end Go.Proofs.Ytedcheicnaphmaa
