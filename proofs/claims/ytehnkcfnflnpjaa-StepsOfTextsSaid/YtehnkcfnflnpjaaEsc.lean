/-
  The walks over charset.Escape, fault, opens, single. No conditions but sizes.
-/
import Derived.Test.YtehnkcfnflnpjaaSet
namespace Go.Proofs.Ytehnkcfnflnpjaa
open Go.RowKit
set_option linter.unusedVariables false
set_option linter.unusedSimpArgs false

def escN (c : Nat) : Nat := if c = 110 then 10 else if c = 116 then 9 else if c = 114 then 13 else if c = 102 then 12 else if c = 118 then 11 else if c = 97 then 7 else if c = 98 then 8 else c
theorem escN_lt {c : Nat} (h : c < 256) : escN c < 256 := by unfold escN; (repeat' split) <;> omega
theorem esc_110 (w : World) : Calls Try.prog 41 #[.int .u8 110] w fun e w' => e = .returned (.int .u8 10) ∧ w = w' := by
  go_enter Try.func41, Try.ntmps41
  go_wp2_with fail
  refine wp_loop_rounds 1 ?_
  rw [rounds_succ]
  go_wp2_with fail
  go_ret
  exact ⟨rfl, rfl⟩
theorem esc_116 (w : World) : Calls Try.prog 41 #[.int .u8 116] w fun e w' => e = .returned (.int .u8 9) ∧ w = w' := by
  go_enter Try.func41, Try.ntmps41
  go_wp2_with fail
  refine wp_loop_rounds 2 ?_
  rw [rounds_succ]
  go_wp2_with fail
  rw [rounds_succ]
  go_wp2_with fail
  go_ret
  exact ⟨rfl, rfl⟩
theorem esc_114 (w : World) : Calls Try.prog 41 #[.int .u8 114] w fun e w' => e = .returned (.int .u8 13) ∧ w = w' := by
  go_enter Try.func41, Try.ntmps41
  go_wp2_with fail
  refine wp_loop_rounds 3 ?_
  rw [rounds_succ]
  go_wp2_with fail
  rw [rounds_succ]
  go_wp2_with fail
  rw [rounds_succ]
  go_wp2_with fail
  go_ret
  exact ⟨rfl, rfl⟩
theorem esc_102 (w : World) : Calls Try.prog 41 #[.int .u8 102] w fun e w' => e = .returned (.int .u8 12) ∧ w = w' := by
  go_enter Try.func41, Try.ntmps41
  go_wp2_with fail
  refine wp_loop_rounds 4 ?_
  rw [rounds_succ]
  go_wp2_with fail
  rw [rounds_succ]
  go_wp2_with fail
  rw [rounds_succ]
  go_wp2_with fail
  rw [rounds_succ]
  go_wp2_with fail
  go_ret
  exact ⟨rfl, rfl⟩
theorem esc_118 (w : World) : Calls Try.prog 41 #[.int .u8 118] w fun e w' => e = .returned (.int .u8 11) ∧ w = w' := by
  go_enter Try.func41, Try.ntmps41
  go_wp2_with fail
  refine wp_loop_rounds 5 ?_
  rw [rounds_succ]
  go_wp2_with fail
  rw [rounds_succ]
  go_wp2_with fail
  rw [rounds_succ]
  go_wp2_with fail
  rw [rounds_succ]
  go_wp2_with fail
  rw [rounds_succ]
  go_wp2_with fail
  go_ret
  exact ⟨rfl, rfl⟩
theorem esc_97 (w : World) : Calls Try.prog 41 #[.int .u8 97] w fun e w' => e = .returned (.int .u8 7) ∧ w = w' := by
  go_enter Try.func41, Try.ntmps41
  go_wp2_with fail
  refine wp_loop_rounds 6 ?_
  rw [rounds_succ]
  go_wp2_with fail
  rw [rounds_succ]
  go_wp2_with fail
  rw [rounds_succ]
  go_wp2_with fail
  rw [rounds_succ]
  go_wp2_with fail
  rw [rounds_succ]
  go_wp2_with fail
  rw [rounds_succ]
  go_wp2_with fail
  go_ret
  exact ⟨rfl, rfl⟩
theorem esc_98 (w : World) : Calls Try.prog 41 #[.int .u8 98] w fun e w' => e = .returned (.int .u8 8) ∧ w = w' := by
  go_enter Try.func41, Try.ntmps41
  go_wp2_with fail
  refine wp_loop_rounds 7 ?_
  rw [rounds_succ]
  go_wp2_with fail
  rw [rounds_succ]
  go_wp2_with fail
  rw [rounds_succ]
  go_wp2_with fail
  rw [rounds_succ]
  go_wp2_with fail
  rw [rounds_succ]
  go_wp2_with fail
  rw [rounds_succ]
  go_wp2_with fail
  rw [rounds_succ]
  go_wp2_with fail
  go_ret
  exact ⟨rfl, rfl⟩
theorem esc_any (c : Nat) (hc : c < 256) (w : World) : Calls Try.prog 41 #[.int .u8 (c : Int)] w fun e w' => e = .returned (.int .u8 (escN c : Int)) ∧ w = w' := by
  by_cases h110 : c = 110
  · subst h110; exact esc_110 w
  by_cases h116 : c = 116
  · subst h116; exact esc_116 w
  by_cases h114 : c = 114
  · subst h114; exact esc_114 w
  by_cases h102 : c = 102
  · subst h102; exact esc_102 w
  by_cases h118 : c = 118
  · subst h118; exact esc_118 w
  by_cases h97 : c = 97
  · subst h97; exact esc_97 w
  by_cases h98 : c = 98
  · subst h98; exact esc_98 w
  have e110 : ((110 : Int) == (c : Int)) = false := by simp; omega
  have e116 : ((116 : Int) == (c : Int)) = false := by simp; omega
  have e114 : ((114 : Int) == (c : Int)) = false := by simp; omega
  have e102 : ((102 : Int) == (c : Int)) = false := by simp; omega
  have e118 : ((118 : Int) == (c : Int)) = false := by simp; omega
  have e97 : ((97 : Int) == (c : Int)) = false := by simp; omega
  have e98 : ((98 : Int) == (c : Int)) = false := by simp; omega
  have he : escN c = c := by unfold escN; simp [h110, h116, h114, h102, h118, h97, h98]
  rw [he]
  clear he h110 h116 h114 h102 h118 h97 h98
  have i0 : ∀ W, (Instr.index 9 (.string ⟨#[110, 116, 114, 102, 118, 97, 98]⟩) (.int .i64 0)).run Try.prog W = .ok (.int .u8 110) W := fun _ => by kernel_rfl
  have i1 : ∀ W, (Instr.index 9 (.string ⟨#[110, 116, 114, 102, 118, 97, 98]⟩) (.int .i64 1)).run Try.prog W = .ok (.int .u8 116) W := fun _ => by kernel_rfl
  have i2 : ∀ W, (Instr.index 9 (.string ⟨#[110, 116, 114, 102, 118, 97, 98]⟩) (.int .i64 2)).run Try.prog W = .ok (.int .u8 114) W := fun _ => by kernel_rfl
  have i3 : ∀ W, (Instr.index 9 (.string ⟨#[110, 116, 114, 102, 118, 97, 98]⟩) (.int .i64 3)).run Try.prog W = .ok (.int .u8 102) W := fun _ => by kernel_rfl
  have i4 : ∀ W, (Instr.index 9 (.string ⟨#[110, 116, 114, 102, 118, 97, 98]⟩) (.int .i64 4)).run Try.prog W = .ok (.int .u8 118) W := fun _ => by kernel_rfl
  have i5 : ∀ W, (Instr.index 9 (.string ⟨#[110, 116, 114, 102, 118, 97, 98]⟩) (.int .i64 5)).run Try.prog W = .ok (.int .u8 97) W := fun _ => by kernel_rfl
  have i6 : ∀ W, (Instr.index 9 (.string ⟨#[110, 116, 114, 102, 118, 97, 98]⟩) (.int .i64 6)).run Try.prog W = .ok (.int .u8 98) W := fun _ => by kernel_rfl
  go_enter Try.func41, Try.ntmps41
  go_wp2_with fail
  refine wp_loop_rounds 8 ?_
  rw [rounds_succ]
  go_wp2_with fail
  rw [rounds_succ]
  go_wp2_with fail
  rw [rounds_succ]
  go_wp2_with fail
  rw [rounds_succ]
  go_wp2_with fail
  rw [rounds_succ]
  go_wp2_with fail
  rw [rounds_succ]
  go_wp2_with fail
  rw [rounds_succ]
  go_wp2_with fail
  rw [rounds_succ]
  go_wp2_with fail
  go_ret
  exact ⟨rfl, rfl⟩

def FaultV (w : World) (v : Value) (at_ code : Int) : Prop :=
  ∃ g, v = .iface 65 (.pointer (some ⟨g, 0, none⟩)) ∧ Bk w g 67 #[.int .i64 at_, .iface 47 (.int .i64 code)]
theorem FaultV.fr {w w' : World} {v : Value} {p c : Int} (h : FaultV w v p c) (hf : Fr [] w w') : FaultV w' v p c := by
  obtain ⟨g, h1, h2⟩ := h
  exact ⟨g, h1, h2.fr hf (by simp)⟩
def FaultPost (w : World) (p c : Int) (e : Ending) (w' : World) : Prop := ∃ v, e = .returned v ∧ FaultV w' v p c ∧ Fr [] w w'
theorem fault_any (p c : Int) (w : World) : Calls Try.prog 43 #[.int .i64 p, .int .i64 c] w (FaultPost w p c) := by
  go_enter Try.func43, Try.ntmps43
  go_wp2_with fail
  go_ret
  exact ⟨_, rfl, ⟨_, rfl, Bk.new _ _ _⟩, (Fr.refl _ _).alloc _⟩

def bn (bs : List UInt8) (i : Nat) : Nat := (bs.getD i 0).toNat
theorem bn_lt (bs : List UInt8) (i : Nat) : bn bs i < 256 := (bs.getD i 0).toNat_lt
theorem byte_at {w : World} {A : Option Addr} {bs : List UInt8} (h : Bytes w A bs) {i : Nat} (hi : i < bs.length) : ∃ b off, A = some ⟨b, off, none⟩ ∧ b < w.heap.size ∧ ∀ j, j < bs.length → w.cell? ⟨b, off + j, none⟩ = some (.int .u8 (bn bs j : Int)) := by
  have hj : ∀ j, j < bs.length → (byteVals bs)[j]? = some (.int .u8 (bn bs j : Int)) := fun j hj => by simp [byteVals, bn, hj]
  rcases h with h | ⟨a, rfl, hb, hc⟩
  · exfalso
    have : bs = [] := by simpa [byteVals] using h
    subst this; simp at hi
  · obtain ⟨b, off, spot⟩ := a
    have h0 := hc 0 _ (hj 0 (by omega))
    have hsp : spot = none := by
      cases spot with
      | none => rfl
      | some s =>
        exfalso
        have e0 : (⟨b, off, some s⟩ : Addr).add 0 = ⟨b, off, some s⟩ := by simp [Addr.add]
        rw [e0] at h0
        unfold World.cell? at h0
        split at h0
        · simp at h0
        · cases h0
    subst hsp
    refine ⟨b, off, rfl, hb, fun j hjl => ?_⟩
    have := hc j _ (hj j hjl)
    have e : (⟨b, off, none⟩ : Addr).add j = ⟨b, off + j, none⟩ := by unfold Addr.add; split <;> simp_all
    rwa [e] at this

def opensS (bs : List UInt8) (i : Nat) : Bool := decide (i + 1 < bs.length) && (((bn bs i : Int) == 91) && ((bn bs (i + 1) : Int) == 58))
theorem opens_any {w : World} {A : Option Addr} {bs : List UInt8} {c : Nat} (h : Bytes w A bs) (i : Nat) (hl : bs.length ≤ 1000000000) (hi : i ≤ 1000000000) :
    Calls Try.prog 48 #[.slice A bs.length c, .int .i64 (i : Int)] w fun e w' => e = .returned (.bool (opensS bs i)) ∧ w = w' := by
  unfold opensS
  by_cases h1 : i + 1 < bs.length
  · obtain ⟨b, off, rfl, hb, hc⟩ := byte_at h (i := i) (by omega)
    have c0 := hc i (by omega)
    have c1 := hc (i + 1) h1
    have b0 := bn_lt bs i
    have b1 := bn_lt bs (i + 1)
    clear hc h
    have h1b : decide (i + 1 < bs.length) = true := by simpa using h1
    cases g1 : ((bn bs i : Int) == 91)
    · go_enter Try.func48, Try.ntmps48
      go_wp2_with fail
      go_ret
      exact ⟨by simp [h1b], rfl⟩
    · cases g2 : ((bn bs (i + 1) : Int) == 58)
      all_goals
        go_enter Try.func48, Try.ntmps48
        go_wp2_with fail
        go_ret
        exact ⟨by simp [h1b], rfl⟩
  · clear h
    go_enter Try.func48, Try.ntmps48
    go_wp2_with fail
    go_ret
    exact ⟨by simp [h1], rfl⟩

def singleS (bs : List UInt8) (i : Nat) : Option (Nat × Nat) :=
  if bs.length ≤ i then none else if bn bs i ≠ 92 then some (bn bs i, i + 1) else if bs.length ≤ i + 1 then none else some (escN (bn bs (i + 1)), i + 2)
def singleV (r : Option (Nat × Nat)) (i : Nat) : Value := match r with
  | none => .tuple #[.int .u8 0, .int .i64 (i : Int), .bool false]
  | some (c, n) => .tuple #[.int .u8 (c : Int), .int .i64 (n : Int), .bool true]
theorem single_any {w : World} {A : Option Addr} {bs : List UInt8} {c : Nat} (h : Bytes w A bs) (i : Nat) (hl : bs.length ≤ 1000000000) (hi : i ≤ 1000000000) :
    Calls Try.prog 51 #[.slice A bs.length c, .int .i64 (i : Int)] w fun e w' => e = .returned (singleV (singleS bs i) i) ∧ w = w' := by
  by_cases h1 : bs.length ≤ i
  · have hs : singleS bs i = none := by unfold singleS; rw [if_pos h1]
    rw [hs]
    unfold singleV
    clear hs h
    go_enter Try.func51, Try.ntmps51
    go_wp2_with fail
    go_ret3
    exact ⟨rfl, rfl⟩
  · obtain ⟨b, off, rfl, hb, hc⟩ := byte_at h (i := i) (by omega)
    have c0 := hc i (by omega)
    have b0 := bn_lt bs i
    clear h
    by_cases g : bn bs i = 92
    · have g1 : (!((bn bs i : Int) == 92)) = false := by simp [g]
      have g2 : ((bn bs i : Int) != 92) = false := by simp [g]
      by_cases h2 : bs.length ≤ i + 1
      · have hs : singleS bs i = none := by unfold singleS; rw [if_neg h1, if_neg (by simpa using g), if_pos h2]
        rw [hs]
        unfold singleV
        clear hs hc g
        go_enter Try.func51, Try.ntmps51
        go_wp2_with fail
        go_ret3
        exact ⟨rfl, rfl⟩
      · have hs : singleS bs i = some (escN (bn bs (i + 1)), i + 2) := by unfold singleS; rw [if_neg h1, if_neg (by simpa using g), if_neg h2]
        have c1 := hc (i + 1) (by omega)
        have b1 := bn_lt bs (i + 1)
        rw [hs]
        unfold singleV
        clear hs hc g
        go_enter Try.func51, Try.ntmps51
        go_wp2_with (go_at_call 41; refine (esc_any _ b1 _).mono ?_; rintro e w1 ⟨rfl, rfl⟩)
        go_ret3
        exact ⟨rfl, rfl⟩
    · have g1 : (!((bn bs i : Int) == 92)) = true := by simp; omega
      have g2 : ((bn bs i : Int) != 92) = true := by simp; omega
      have hs : singleS bs i = some (bn bs i, i + 1) := by unfold singleS; rw [if_neg h1, if_pos g]
      rw [hs]
      unfold singleV
      clear hs hc g
      go_enter Try.func51, Try.ntmps51
      go_wp2_with fail
      go_ret3
      exact ⟨rfl, rfl⟩
end Go.Proofs.Ytehnkcfnflnpjaa
