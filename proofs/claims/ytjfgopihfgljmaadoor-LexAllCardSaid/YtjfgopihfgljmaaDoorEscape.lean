/-
  charset.Escape. No conditions.
-/
import Derived.Test.YtjfgopihfgljmaaDoorRows
import Derived.Test.YtjfgopihfgljmaaDoorBase
import Derived.LoopTactic
import Derived.BigQuiet
namespace Go.Proofs.YtjfgopihfgljmaaDoor
open Go.RowKit
set_option linter.unusedVariables false
set_option linter.unusedSimpArgs false

/-- What an escape stands for, by number. -/
def escN (c : Nat) : Nat := if c = 110 then 10 else if c = 116 then 9 else if c = 114 then 13 else if c = 102 then 12 else if c = 118 then 11 else if c = 97 then 7 else if c = 98 then 8 else c
theorem escN_lt {c : Nat} (h : c < 256) : escN c < 256 := by unfold escN; (repeat' split) <;> omega
theorem esc_110 (w : World) : Calls Tryd.prog 46 #[.int .u8 110] w fun e w' => e = .returned (.int .u8 10) ∧ w = w' := by
  go_enter Tryd.func46, Tryd.ntmps46
  go_wp2_with fail
  refine wp_loop_rounds 1 ?_
  rw [rounds_succ]
  go_wp2_with fail
  go_ret
  exact ⟨rfl, rfl⟩
theorem esc_116 (w : World) : Calls Tryd.prog 46 #[.int .u8 116] w fun e w' => e = .returned (.int .u8 9) ∧ w = w' := by
  go_enter Tryd.func46, Tryd.ntmps46
  go_wp2_with fail
  refine wp_loop_rounds 2 ?_
  rw [rounds_succ]
  go_wp2_with fail
  rw [rounds_succ]
  go_wp2_with fail
  go_ret
  exact ⟨rfl, rfl⟩
theorem esc_114 (w : World) : Calls Tryd.prog 46 #[.int .u8 114] w fun e w' => e = .returned (.int .u8 13) ∧ w = w' := by
  go_enter Tryd.func46, Tryd.ntmps46
  go_wp2_with fail
  refine wp_loop_rounds 3 ?_
  rw [rounds_succ]
  go_wp2_with fail
  rw [rounds_succ]
  go_wp2_with fail
  rw [rounds_succ]
  go_wp2_with fail
  go_ret
  exact ⟨rfl, rfl⟩
theorem esc_102 (w : World) : Calls Tryd.prog 46 #[.int .u8 102] w fun e w' => e = .returned (.int .u8 12) ∧ w = w' := by
  go_enter Tryd.func46, Tryd.ntmps46
  go_wp2_with fail
  refine wp_loop_rounds 4 ?_
  rw [rounds_succ]
  go_wp2_with fail
  rw [rounds_succ]
  go_wp2_with fail
  rw [rounds_succ]
  go_wp2_with fail
  rw [rounds_succ]
  go_wp2_with fail
  go_ret
  exact ⟨rfl, rfl⟩
theorem esc_118 (w : World) : Calls Tryd.prog 46 #[.int .u8 118] w fun e w' => e = .returned (.int .u8 11) ∧ w = w' := by
  go_enter Tryd.func46, Tryd.ntmps46
  go_wp2_with fail
  refine wp_loop_rounds 5 ?_
  rw [rounds_succ]
  go_wp2_with fail
  rw [rounds_succ]
  go_wp2_with fail
  rw [rounds_succ]
  go_wp2_with fail
  rw [rounds_succ]
  go_wp2_with fail
  rw [rounds_succ]
  go_wp2_with fail
  go_ret
  exact ⟨rfl, rfl⟩
theorem esc_97 (w : World) : Calls Tryd.prog 46 #[.int .u8 97] w fun e w' => e = .returned (.int .u8 7) ∧ w = w' := by
  go_enter Tryd.func46, Tryd.ntmps46
  go_wp2_with fail
  refine wp_loop_rounds 6 ?_
  rw [rounds_succ]
  go_wp2_with fail
  rw [rounds_succ]
  go_wp2_with fail
  rw [rounds_succ]
  go_wp2_with fail
  rw [rounds_succ]
  go_wp2_with fail
  rw [rounds_succ]
  go_wp2_with fail
  rw [rounds_succ]
  go_wp2_with fail
  go_ret
  exact ⟨rfl, rfl⟩
theorem esc_98 (w : World) : Calls Tryd.prog 46 #[.int .u8 98] w fun e w' => e = .returned (.int .u8 8) ∧ w = w' := by
  go_enter Tryd.func46, Tryd.ntmps46
  go_wp2_with fail
  refine wp_loop_rounds 7 ?_
  rw [rounds_succ]
  go_wp2_with fail
  rw [rounds_succ]
  go_wp2_with fail
  rw [rounds_succ]
  go_wp2_with fail
  rw [rounds_succ]
  go_wp2_with fail
  rw [rounds_succ]
  go_wp2_with fail
  rw [rounds_succ]
  go_wp2_with fail
  rw [rounds_succ]
  go_wp2_with fail
  go_ret
  exact ⟨rfl, rfl⟩
theorem esc_any (c : Nat) (hc : c < 256) (w : World) : Calls Tryd.prog 46 #[.int .u8 (c : Int)] w fun e w' => e = .returned (.int .u8 (escN c : Int)) ∧ w = w' := by
  by_cases h110 : c = 110
  · subst h110; exact esc_110 w
  by_cases h116 : c = 116
  · subst h116; exact esc_116 w
  by_cases h114 : c = 114
  · subst h114; exact esc_114 w
  by_cases h102 : c = 102
  · subst h102; exact esc_102 w
  by_cases h118 : c = 118
  · subst h118; exact esc_118 w
  by_cases h97 : c = 97
  · subst h97; exact esc_97 w
  by_cases h98 : c = 98
  · subst h98; exact esc_98 w
  have e110 : ((110 : Int) == (c : Int)) = false := by simp; omega
  have e116 : ((116 : Int) == (c : Int)) = false := by simp; omega
  have e114 : ((114 : Int) == (c : Int)) = false := by simp; omega
  have e102 : ((102 : Int) == (c : Int)) = false := by simp; omega
  have e118 : ((118 : Int) == (c : Int)) = false := by simp; omega
  have e97 : ((97 : Int) == (c : Int)) = false := by simp; omega
  have e98 : ((98 : Int) == (c : Int)) = false := by simp; omega
  have he : escN c = c := by unfold escN; simp [h110, h116, h114, h102, h118, h97, h98]
  rw [he]
  clear he h110 h116 h114 h102 h118 h97 h98
  have i0 : ∀ W, (Instr.index 9 (.string ⟨#[110, 116, 114, 102, 118, 97, 98]⟩) (.int .i64 0)).run Tryd.prog W = .ok (.int .u8 110) W := fun _ => by kernel_rfl
  have i1 : ∀ W, (Instr.index 9 (.string ⟨#[110, 116, 114, 102, 118, 97, 98]⟩) (.int .i64 1)).run Tryd.prog W = .ok (.int .u8 116) W := fun _ => by kernel_rfl
  have i2 : ∀ W, (Instr.index 9 (.string ⟨#[110, 116, 114, 102, 118, 97, 98]⟩) (.int .i64 2)).run Tryd.prog W = .ok (.int .u8 114) W := fun _ => by kernel_rfl
  have i3 : ∀ W, (Instr.index 9 (.string ⟨#[110, 116, 114, 102, 118, 97, 98]⟩) (.int .i64 3)).run Tryd.prog W = .ok (.int .u8 102) W := fun _ => by kernel_rfl
  have i4 : ∀ W, (Instr.index 9 (.string ⟨#[110, 116, 114, 102, 118, 97, 98]⟩) (.int .i64 4)).run Tryd.prog W = .ok (.int .u8 118) W := fun _ => by kernel_rfl
  have i5 : ∀ W, (Instr.index 9 (.string ⟨#[110, 116, 114, 102, 118, 97, 98]⟩) (.int .i64 5)).run Tryd.prog W = .ok (.int .u8 97) W := fun _ => by kernel_rfl
  have i6 : ∀ W, (Instr.index 9 (.string ⟨#[110, 116, 114, 102, 118, 97, 98]⟩) (.int .i64 6)).run Tryd.prog W = .ok (.int .u8 98) W := fun _ => by kernel_rfl
  go_enter Tryd.func46, Tryd.ntmps46
  go_wp2_with fail
  refine wp_loop_rounds 8 ?_
  rw [rounds_succ]
  go_wp2_with fail
  rw [rounds_succ]
  go_wp2_with fail
  rw [rounds_succ]
  go_wp2_with fail
  rw [rounds_succ]
  go_wp2_with fail
  rw [rounds_succ]
  go_wp2_with fail
  rw [rounds_succ]
  go_wp2_with fail
  rw [rounds_succ]
  go_wp2_with fail
  rw [rounds_succ]
  go_wp2_with fail
  go_ret
  exact ⟨rfl, rfl⟩

end Go.Proofs.YtjfgopihfgljmaaDoor
