/-
  The walk over the reference's In, and the law CharsetClasses. (Printed by mkin.py.)
-/
import Derived.Test.YtobmdpfljdnlaaaOne
import Derived.Test.YtobmdpfljdnlaaaInAlpha
import Derived.Test.YtobmdpfljdnlaaaInDigit
import Derived.Test.YtobmdpfljdnlaaaInAlnum
import Derived.Test.YtobmdpfljdnlaaaInUpper
import Derived.Test.YtobmdpfljdnlaaaInLower
import Derived.Test.YtobmdpfljdnlaaaInSpace
import Derived.Test.YtobmdpfljdnlaaaInBlank
import Derived.Test.YtobmdpfljdnlaaaInPunct
import Derived.Test.YtobmdpfljdnlaaaInPrint
import Derived.Test.YtobmdpfljdnlaaaInGraph
import Derived.Test.YtobmdpfljdnlaaaInCntrl
import Derived.Test.YtobmdpfljdnlaaaInXdigit
namespace Go.Proofs.Ytobmdpfljdnlaaa
open Go.RowKit Go.ChangeShapes Go.WideShapes Go.ChangeAt Go.Deep
set_option linter.unusedVariables false
set_option linter.unusedSimpArgs false
def inS (l : List UInt8) (c : Nat) : Bool := ((classS l).getD S4.empty).mem c
theorem tb_alpha_0 : ∀ c : Fin 256, 0 ≤ c.val → c.val < 48 → inS [97, 108, 112, 104, 97] c.val = false := by decide +kernel
theorem tb_alpha_48 : ∀ c : Fin 256, 48 ≤ c.val → c.val < 58 → inS [97, 108, 112, 104, 97] c.val = false := by decide +kernel
theorem tb_alpha_58 : ∀ c : Fin 256, 58 ≤ c.val → c.val < 65 → inS [97, 108, 112, 104, 97] c.val = false := by decide +kernel
theorem tb_alpha_65 : ∀ c : Fin 256, 65 ≤ c.val → c.val < 91 → inS [97, 108, 112, 104, 97] c.val = true := by decide +kernel
theorem tb_alpha_91 : ∀ c : Fin 256, 91 ≤ c.val → c.val < 97 → inS [97, 108, 112, 104, 97] c.val = false := by decide +kernel
theorem tb_alpha_97 : ∀ c : Fin 256, 97 ≤ c.val → c.val < 123 → inS [97, 108, 112, 104, 97] c.val = true := by decide +kernel
theorem tb_alpha_123 : ∀ c : Fin 256, 123 ≤ c.val → c.val < 256 → inS [97, 108, 112, 104, 97] c.val = false := by decide +kernel
theorem in_alpha (c : Nat) (hc : c < 256) (w : World) : Calls Try.prog 10 #[.string ⟨#[97, 108, 112, 104, 97]⟩, .int .i64 (c : Int)] w fun e w' => e = .returned (.tuple #[.bool (inS [97, 108, 112, 104, 97] c), .bool (classS [97, 108, 112, 104, 97]).isSome]) ∧ w = w' := by
  have hs : (classS [97, 108, 112, 104, 97]).isSome = true := by kernel_rfl
  rw [hs]
  by_cases h48 : c < 48
  · rw [tb_alpha_0 ⟨c, hc⟩ (by dsimp only; omega) (by dsimp only; omega)]; exact in_alpha_0 c (by omega) (by omega) w
  by_cases h58 : c < 58
  · rw [tb_alpha_48 ⟨c, hc⟩ (by dsimp only; omega) (by dsimp only; omega)]; exact in_alpha_48 c (by omega) (by omega) w
  by_cases h65 : c < 65
  · rw [tb_alpha_58 ⟨c, hc⟩ (by dsimp only; omega) (by dsimp only; omega)]; exact in_alpha_58 c (by omega) (by omega) w
  by_cases h91 : c < 91
  · rw [tb_alpha_65 ⟨c, hc⟩ (by dsimp only; omega) (by dsimp only; omega)]; exact in_alpha_65 c (by omega) (by omega) w
  by_cases h97 : c < 97
  · rw [tb_alpha_91 ⟨c, hc⟩ (by dsimp only; omega) (by dsimp only; omega)]; exact in_alpha_91 c (by omega) (by omega) w
  by_cases h123 : c < 123
  · rw [tb_alpha_97 ⟨c, hc⟩ (by dsimp only; omega) (by dsimp only; omega)]; exact in_alpha_97 c (by omega) (by omega) w
  rw [tb_alpha_123 ⟨c, hc⟩ (by dsimp only; omega) (by dsimp only; omega)]; exact in_alpha_123 c (by omega) (by omega) w
theorem tb_digit_0 : ∀ c : Fin 256, 0 ≤ c.val → c.val < 48 → inS [100, 105, 103, 105, 116] c.val = false := by decide +kernel
theorem tb_digit_48 : ∀ c : Fin 256, 48 ≤ c.val → c.val < 58 → inS [100, 105, 103, 105, 116] c.val = true := by decide +kernel
theorem tb_digit_58 : ∀ c : Fin 256, 58 ≤ c.val → c.val < 65 → inS [100, 105, 103, 105, 116] c.val = false := by decide +kernel
theorem tb_digit_65 : ∀ c : Fin 256, 65 ≤ c.val → c.val < 91 → inS [100, 105, 103, 105, 116] c.val = false := by decide +kernel
theorem tb_digit_91 : ∀ c : Fin 256, 91 ≤ c.val → c.val < 97 → inS [100, 105, 103, 105, 116] c.val = false := by decide +kernel
theorem tb_digit_97 : ∀ c : Fin 256, 97 ≤ c.val → c.val < 123 → inS [100, 105, 103, 105, 116] c.val = false := by decide +kernel
theorem tb_digit_123 : ∀ c : Fin 256, 123 ≤ c.val → c.val < 256 → inS [100, 105, 103, 105, 116] c.val = false := by decide +kernel
theorem in_digit (c : Nat) (hc : c < 256) (w : World) : Calls Try.prog 10 #[.string ⟨#[100, 105, 103, 105, 116]⟩, .int .i64 (c : Int)] w fun e w' => e = .returned (.tuple #[.bool (inS [100, 105, 103, 105, 116] c), .bool (classS [100, 105, 103, 105, 116]).isSome]) ∧ w = w' := by
  have hs : (classS [100, 105, 103, 105, 116]).isSome = true := by kernel_rfl
  rw [hs]
  by_cases h48 : c < 48
  · rw [tb_digit_0 ⟨c, hc⟩ (by dsimp only; omega) (by dsimp only; omega)]; exact in_digit_0 c (by omega) (by omega) w
  by_cases h58 : c < 58
  · rw [tb_digit_48 ⟨c, hc⟩ (by dsimp only; omega) (by dsimp only; omega)]; exact in_digit_48 c (by omega) (by omega) w
  by_cases h65 : c < 65
  · rw [tb_digit_58 ⟨c, hc⟩ (by dsimp only; omega) (by dsimp only; omega)]; exact in_digit_58 c (by omega) (by omega) w
  by_cases h91 : c < 91
  · rw [tb_digit_65 ⟨c, hc⟩ (by dsimp only; omega) (by dsimp only; omega)]; exact in_digit_65 c (by omega) (by omega) w
  by_cases h97 : c < 97
  · rw [tb_digit_91 ⟨c, hc⟩ (by dsimp only; omega) (by dsimp only; omega)]; exact in_digit_91 c (by omega) (by omega) w
  by_cases h123 : c < 123
  · rw [tb_digit_97 ⟨c, hc⟩ (by dsimp only; omega) (by dsimp only; omega)]; exact in_digit_97 c (by omega) (by omega) w
  rw [tb_digit_123 ⟨c, hc⟩ (by dsimp only; omega) (by dsimp only; omega)]; exact in_digit_123 c (by omega) (by omega) w
theorem tb_alnum_0 : ∀ c : Fin 256, 0 ≤ c.val → c.val < 48 → inS [97, 108, 110, 117, 109] c.val = false := by decide +kernel
theorem tb_alnum_48 : ∀ c : Fin 256, 48 ≤ c.val → c.val < 58 → inS [97, 108, 110, 117, 109] c.val = true := by decide +kernel
theorem tb_alnum_58 : ∀ c : Fin 256, 58 ≤ c.val → c.val < 65 → inS [97, 108, 110, 117, 109] c.val = false := by decide +kernel
theorem tb_alnum_65 : ∀ c : Fin 256, 65 ≤ c.val → c.val < 91 → inS [97, 108, 110, 117, 109] c.val = true := by decide +kernel
theorem tb_alnum_91 : ∀ c : Fin 256, 91 ≤ c.val → c.val < 97 → inS [97, 108, 110, 117, 109] c.val = false := by decide +kernel
theorem tb_alnum_97 : ∀ c : Fin 256, 97 ≤ c.val → c.val < 123 → inS [97, 108, 110, 117, 109] c.val = true := by decide +kernel
theorem tb_alnum_123 : ∀ c : Fin 256, 123 ≤ c.val → c.val < 256 → inS [97, 108, 110, 117, 109] c.val = false := by decide +kernel
theorem in_alnum (c : Nat) (hc : c < 256) (w : World) : Calls Try.prog 10 #[.string ⟨#[97, 108, 110, 117, 109]⟩, .int .i64 (c : Int)] w fun e w' => e = .returned (.tuple #[.bool (inS [97, 108, 110, 117, 109] c), .bool (classS [97, 108, 110, 117, 109]).isSome]) ∧ w = w' := by
  have hs : (classS [97, 108, 110, 117, 109]).isSome = true := by kernel_rfl
  rw [hs]
  by_cases h48 : c < 48
  · rw [tb_alnum_0 ⟨c, hc⟩ (by dsimp only; omega) (by dsimp only; omega)]; exact in_alnum_0 c (by omega) (by omega) w
  by_cases h58 : c < 58
  · rw [tb_alnum_48 ⟨c, hc⟩ (by dsimp only; omega) (by dsimp only; omega)]; exact in_alnum_48 c (by omega) (by omega) w
  by_cases h65 : c < 65
  · rw [tb_alnum_58 ⟨c, hc⟩ (by dsimp only; omega) (by dsimp only; omega)]; exact in_alnum_58 c (by omega) (by omega) w
  by_cases h91 : c < 91
  · rw [tb_alnum_65 ⟨c, hc⟩ (by dsimp only; omega) (by dsimp only; omega)]; exact in_alnum_65 c (by omega) (by omega) w
  by_cases h97 : c < 97
  · rw [tb_alnum_91 ⟨c, hc⟩ (by dsimp only; omega) (by dsimp only; omega)]; exact in_alnum_91 c (by omega) (by omega) w
  by_cases h123 : c < 123
  · rw [tb_alnum_97 ⟨c, hc⟩ (by dsimp only; omega) (by dsimp only; omega)]; exact in_alnum_97 c (by omega) (by omega) w
  rw [tb_alnum_123 ⟨c, hc⟩ (by dsimp only; omega) (by dsimp only; omega)]; exact in_alnum_123 c (by omega) (by omega) w
theorem tb_upper_0 : ∀ c : Fin 256, 0 ≤ c.val → c.val < 48 → inS [117, 112, 112, 101, 114] c.val = false := by decide +kernel
theorem tb_upper_48 : ∀ c : Fin 256, 48 ≤ c.val → c.val < 58 → inS [117, 112, 112, 101, 114] c.val = false := by decide +kernel
theorem tb_upper_58 : ∀ c : Fin 256, 58 ≤ c.val → c.val < 65 → inS [117, 112, 112, 101, 114] c.val = false := by decide +kernel
theorem tb_upper_65 : ∀ c : Fin 256, 65 ≤ c.val → c.val < 91 → inS [117, 112, 112, 101, 114] c.val = true := by decide +kernel
theorem tb_upper_91 : ∀ c : Fin 256, 91 ≤ c.val → c.val < 97 → inS [117, 112, 112, 101, 114] c.val = false := by decide +kernel
theorem tb_upper_97 : ∀ c : Fin 256, 97 ≤ c.val → c.val < 123 → inS [117, 112, 112, 101, 114] c.val = false := by decide +kernel
theorem tb_upper_123 : ∀ c : Fin 256, 123 ≤ c.val → c.val < 256 → inS [117, 112, 112, 101, 114] c.val = false := by decide +kernel
theorem in_upper (c : Nat) (hc : c < 256) (w : World) : Calls Try.prog 10 #[.string ⟨#[117, 112, 112, 101, 114]⟩, .int .i64 (c : Int)] w fun e w' => e = .returned (.tuple #[.bool (inS [117, 112, 112, 101, 114] c), .bool (classS [117, 112, 112, 101, 114]).isSome]) ∧ w = w' := by
  have hs : (classS [117, 112, 112, 101, 114]).isSome = true := by kernel_rfl
  rw [hs]
  by_cases h48 : c < 48
  · rw [tb_upper_0 ⟨c, hc⟩ (by dsimp only; omega) (by dsimp only; omega)]; exact in_upper_0 c (by omega) (by omega) w
  by_cases h58 : c < 58
  · rw [tb_upper_48 ⟨c, hc⟩ (by dsimp only; omega) (by dsimp only; omega)]; exact in_upper_48 c (by omega) (by omega) w
  by_cases h65 : c < 65
  · rw [tb_upper_58 ⟨c, hc⟩ (by dsimp only; omega) (by dsimp only; omega)]; exact in_upper_58 c (by omega) (by omega) w
  by_cases h91 : c < 91
  · rw [tb_upper_65 ⟨c, hc⟩ (by dsimp only; omega) (by dsimp only; omega)]; exact in_upper_65 c (by omega) (by omega) w
  by_cases h97 : c < 97
  · rw [tb_upper_91 ⟨c, hc⟩ (by dsimp only; omega) (by dsimp only; omega)]; exact in_upper_91 c (by omega) (by omega) w
  by_cases h123 : c < 123
  · rw [tb_upper_97 ⟨c, hc⟩ (by dsimp only; omega) (by dsimp only; omega)]; exact in_upper_97 c (by omega) (by omega) w
  rw [tb_upper_123 ⟨c, hc⟩ (by dsimp only; omega) (by dsimp only; omega)]; exact in_upper_123 c (by omega) (by omega) w
theorem tb_lower_0 : ∀ c : Fin 256, 0 ≤ c.val → c.val < 48 → inS [108, 111, 119, 101, 114] c.val = false := by decide +kernel
theorem tb_lower_48 : ∀ c : Fin 256, 48 ≤ c.val → c.val < 58 → inS [108, 111, 119, 101, 114] c.val = false := by decide +kernel
theorem tb_lower_58 : ∀ c : Fin 256, 58 ≤ c.val → c.val < 65 → inS [108, 111, 119, 101, 114] c.val = false := by decide +kernel
theorem tb_lower_65 : ∀ c : Fin 256, 65 ≤ c.val → c.val < 91 → inS [108, 111, 119, 101, 114] c.val = false := by decide +kernel
theorem tb_lower_91 : ∀ c : Fin 256, 91 ≤ c.val → c.val < 97 → inS [108, 111, 119, 101, 114] c.val = false := by decide +kernel
theorem tb_lower_97 : ∀ c : Fin 256, 97 ≤ c.val → c.val < 123 → inS [108, 111, 119, 101, 114] c.val = true := by decide +kernel
theorem tb_lower_123 : ∀ c : Fin 256, 123 ≤ c.val → c.val < 256 → inS [108, 111, 119, 101, 114] c.val = false := by decide +kernel
theorem in_lower (c : Nat) (hc : c < 256) (w : World) : Calls Try.prog 10 #[.string ⟨#[108, 111, 119, 101, 114]⟩, .int .i64 (c : Int)] w fun e w' => e = .returned (.tuple #[.bool (inS [108, 111, 119, 101, 114] c), .bool (classS [108, 111, 119, 101, 114]).isSome]) ∧ w = w' := by
  have hs : (classS [108, 111, 119, 101, 114]).isSome = true := by kernel_rfl
  rw [hs]
  by_cases h48 : c < 48
  · rw [tb_lower_0 ⟨c, hc⟩ (by dsimp only; omega) (by dsimp only; omega)]; exact in_lower_0 c (by omega) (by omega) w
  by_cases h58 : c < 58
  · rw [tb_lower_48 ⟨c, hc⟩ (by dsimp only; omega) (by dsimp only; omega)]; exact in_lower_48 c (by omega) (by omega) w
  by_cases h65 : c < 65
  · rw [tb_lower_58 ⟨c, hc⟩ (by dsimp only; omega) (by dsimp only; omega)]; exact in_lower_58 c (by omega) (by omega) w
  by_cases h91 : c < 91
  · rw [tb_lower_65 ⟨c, hc⟩ (by dsimp only; omega) (by dsimp only; omega)]; exact in_lower_65 c (by omega) (by omega) w
  by_cases h97 : c < 97
  · rw [tb_lower_91 ⟨c, hc⟩ (by dsimp only; omega) (by dsimp only; omega)]; exact in_lower_91 c (by omega) (by omega) w
  by_cases h123 : c < 123
  · rw [tb_lower_97 ⟨c, hc⟩ (by dsimp only; omega) (by dsimp only; omega)]; exact in_lower_97 c (by omega) (by omega) w
  rw [tb_lower_123 ⟨c, hc⟩ (by dsimp only; omega) (by dsimp only; omega)]; exact in_lower_123 c (by omega) (by omega) w
theorem tb_space_0 : ∀ c : Fin 256, 0 ≤ c.val → c.val < 9 → inS [115, 112, 97, 99, 101] c.val = false := by decide +kernel
theorem tb_space_9 : ∀ c : Fin 256, 9 ≤ c.val → c.val < 14 → inS [115, 112, 97, 99, 101] c.val = true := by decide +kernel
theorem tb_space_14 : ∀ c : Fin 256, 14 ≤ c.val → c.val < 32 → inS [115, 112, 97, 99, 101] c.val = false := by decide +kernel
theorem tb_space_32 : ∀ c : Fin 256, 32 ≤ c.val → c.val < 33 → inS [115, 112, 97, 99, 101] c.val = true := by decide +kernel
theorem tb_space_33 : ∀ c : Fin 256, 33 ≤ c.val → c.val < 48 → inS [115, 112, 97, 99, 101] c.val = false := by decide +kernel
theorem tb_space_48 : ∀ c : Fin 256, 48 ≤ c.val → c.val < 58 → inS [115, 112, 97, 99, 101] c.val = false := by decide +kernel
theorem tb_space_58 : ∀ c : Fin 256, 58 ≤ c.val → c.val < 65 → inS [115, 112, 97, 99, 101] c.val = false := by decide +kernel
theorem tb_space_65 : ∀ c : Fin 256, 65 ≤ c.val → c.val < 91 → inS [115, 112, 97, 99, 101] c.val = false := by decide +kernel
theorem tb_space_91 : ∀ c : Fin 256, 91 ≤ c.val → c.val < 97 → inS [115, 112, 97, 99, 101] c.val = false := by decide +kernel
theorem tb_space_97 : ∀ c : Fin 256, 97 ≤ c.val → c.val < 123 → inS [115, 112, 97, 99, 101] c.val = false := by decide +kernel
theorem tb_space_123 : ∀ c : Fin 256, 123 ≤ c.val → c.val < 256 → inS [115, 112, 97, 99, 101] c.val = false := by decide +kernel
theorem in_space (c : Nat) (hc : c < 256) (w : World) : Calls Try.prog 10 #[.string ⟨#[115, 112, 97, 99, 101]⟩, .int .i64 (c : Int)] w fun e w' => e = .returned (.tuple #[.bool (inS [115, 112, 97, 99, 101] c), .bool (classS [115, 112, 97, 99, 101]).isSome]) ∧ w = w' := by
  have hs : (classS [115, 112, 97, 99, 101]).isSome = true := by kernel_rfl
  rw [hs]
  by_cases h9 : c < 9
  · rw [tb_space_0 ⟨c, hc⟩ (by dsimp only; omega) (by dsimp only; omega)]; exact in_space_0 c (by omega) (by omega) w
  by_cases h14 : c < 14
  · rw [tb_space_9 ⟨c, hc⟩ (by dsimp only; omega) (by dsimp only; omega)]; exact in_space_9 c (by omega) (by omega) w
  by_cases h32 : c < 32
  · rw [tb_space_14 ⟨c, hc⟩ (by dsimp only; omega) (by dsimp only; omega)]; exact in_space_14 c (by omega) (by omega) w
  by_cases h33 : c < 33
  · rw [tb_space_32 ⟨c, hc⟩ (by dsimp only; omega) (by dsimp only; omega)]; exact in_space_32 c (by omega) (by omega) w
  by_cases h48 : c < 48
  · rw [tb_space_33 ⟨c, hc⟩ (by dsimp only; omega) (by dsimp only; omega)]; exact in_space_33 c (by omega) (by omega) w
  by_cases h58 : c < 58
  · rw [tb_space_48 ⟨c, hc⟩ (by dsimp only; omega) (by dsimp only; omega)]; exact in_space_48 c (by omega) (by omega) w
  by_cases h65 : c < 65
  · rw [tb_space_58 ⟨c, hc⟩ (by dsimp only; omega) (by dsimp only; omega)]; exact in_space_58 c (by omega) (by omega) w
  by_cases h91 : c < 91
  · rw [tb_space_65 ⟨c, hc⟩ (by dsimp only; omega) (by dsimp only; omega)]; exact in_space_65 c (by omega) (by omega) w
  by_cases h97 : c < 97
  · rw [tb_space_91 ⟨c, hc⟩ (by dsimp only; omega) (by dsimp only; omega)]; exact in_space_91 c (by omega) (by omega) w
  by_cases h123 : c < 123
  · rw [tb_space_97 ⟨c, hc⟩ (by dsimp only; omega) (by dsimp only; omega)]; exact in_space_97 c (by omega) (by omega) w
  rw [tb_space_123 ⟨c, hc⟩ (by dsimp only; omega) (by dsimp only; omega)]; exact in_space_123 c (by omega) (by omega) w
theorem tb_blank_0 : ∀ c : Fin 256, 0 ≤ c.val → c.val < 9 → inS [98, 108, 97, 110, 107] c.val = false := by decide +kernel
theorem tb_blank_9 : ∀ c : Fin 256, 9 ≤ c.val → c.val < 10 → inS [98, 108, 97, 110, 107] c.val = true := by decide +kernel
theorem tb_blank_10 : ∀ c : Fin 256, 10 ≤ c.val → c.val < 32 → inS [98, 108, 97, 110, 107] c.val = false := by decide +kernel
theorem tb_blank_32 : ∀ c : Fin 256, 32 ≤ c.val → c.val < 33 → inS [98, 108, 97, 110, 107] c.val = true := by decide +kernel
theorem tb_blank_33 : ∀ c : Fin 256, 33 ≤ c.val → c.val < 48 → inS [98, 108, 97, 110, 107] c.val = false := by decide +kernel
theorem tb_blank_48 : ∀ c : Fin 256, 48 ≤ c.val → c.val < 58 → inS [98, 108, 97, 110, 107] c.val = false := by decide +kernel
theorem tb_blank_58 : ∀ c : Fin 256, 58 ≤ c.val → c.val < 65 → inS [98, 108, 97, 110, 107] c.val = false := by decide +kernel
theorem tb_blank_65 : ∀ c : Fin 256, 65 ≤ c.val → c.val < 91 → inS [98, 108, 97, 110, 107] c.val = false := by decide +kernel
theorem tb_blank_91 : ∀ c : Fin 256, 91 ≤ c.val → c.val < 97 → inS [98, 108, 97, 110, 107] c.val = false := by decide +kernel
theorem tb_blank_97 : ∀ c : Fin 256, 97 ≤ c.val → c.val < 123 → inS [98, 108, 97, 110, 107] c.val = false := by decide +kernel
theorem tb_blank_123 : ∀ c : Fin 256, 123 ≤ c.val → c.val < 256 → inS [98, 108, 97, 110, 107] c.val = false := by decide +kernel
theorem in_blank (c : Nat) (hc : c < 256) (w : World) : Calls Try.prog 10 #[.string ⟨#[98, 108, 97, 110, 107]⟩, .int .i64 (c : Int)] w fun e w' => e = .returned (.tuple #[.bool (inS [98, 108, 97, 110, 107] c), .bool (classS [98, 108, 97, 110, 107]).isSome]) ∧ w = w' := by
  have hs : (classS [98, 108, 97, 110, 107]).isSome = true := by kernel_rfl
  rw [hs]
  by_cases h9 : c < 9
  · rw [tb_blank_0 ⟨c, hc⟩ (by dsimp only; omega) (by dsimp only; omega)]; exact in_blank_0 c (by omega) (by omega) w
  by_cases h10 : c < 10
  · rw [tb_blank_9 ⟨c, hc⟩ (by dsimp only; omega) (by dsimp only; omega)]; exact in_blank_9 c (by omega) (by omega) w
  by_cases h32 : c < 32
  · rw [tb_blank_10 ⟨c, hc⟩ (by dsimp only; omega) (by dsimp only; omega)]; exact in_blank_10 c (by omega) (by omega) w
  by_cases h33 : c < 33
  · rw [tb_blank_32 ⟨c, hc⟩ (by dsimp only; omega) (by dsimp only; omega)]; exact in_blank_32 c (by omega) (by omega) w
  by_cases h48 : c < 48
  · rw [tb_blank_33 ⟨c, hc⟩ (by dsimp only; omega) (by dsimp only; omega)]; exact in_blank_33 c (by omega) (by omega) w
  by_cases h58 : c < 58
  · rw [tb_blank_48 ⟨c, hc⟩ (by dsimp only; omega) (by dsimp only; omega)]; exact in_blank_48 c (by omega) (by omega) w
  by_cases h65 : c < 65
  · rw [tb_blank_58 ⟨c, hc⟩ (by dsimp only; omega) (by dsimp only; omega)]; exact in_blank_58 c (by omega) (by omega) w
  by_cases h91 : c < 91
  · rw [tb_blank_65 ⟨c, hc⟩ (by dsimp only; omega) (by dsimp only; omega)]; exact in_blank_65 c (by omega) (by omega) w
  by_cases h97 : c < 97
  · rw [tb_blank_91 ⟨c, hc⟩ (by dsimp only; omega) (by dsimp only; omega)]; exact in_blank_91 c (by omega) (by omega) w
  by_cases h123 : c < 123
  · rw [tb_blank_97 ⟨c, hc⟩ (by dsimp only; omega) (by dsimp only; omega)]; exact in_blank_97 c (by omega) (by omega) w
  rw [tb_blank_123 ⟨c, hc⟩ (by dsimp only; omega) (by dsimp only; omega)]; exact in_blank_123 c (by omega) (by omega) w
theorem tb_punct_0 : ∀ c : Fin 256, 0 ≤ c.val → c.val < 33 → inS [112, 117, 110, 99, 116] c.val = false := by decide +kernel
theorem tb_punct_33 : ∀ c : Fin 256, 33 ≤ c.val → c.val < 48 → inS [112, 117, 110, 99, 116] c.val = true := by decide +kernel
theorem tb_punct_48 : ∀ c : Fin 256, 48 ≤ c.val → c.val < 58 → inS [112, 117, 110, 99, 116] c.val = false := by decide +kernel
theorem tb_punct_58 : ∀ c : Fin 256, 58 ≤ c.val → c.val < 65 → inS [112, 117, 110, 99, 116] c.val = true := by decide +kernel
theorem tb_punct_65 : ∀ c : Fin 256, 65 ≤ c.val → c.val < 91 → inS [112, 117, 110, 99, 116] c.val = false := by decide +kernel
theorem tb_punct_91 : ∀ c : Fin 256, 91 ≤ c.val → c.val < 97 → inS [112, 117, 110, 99, 116] c.val = true := by decide +kernel
theorem tb_punct_97 : ∀ c : Fin 256, 97 ≤ c.val → c.val < 123 → inS [112, 117, 110, 99, 116] c.val = false := by decide +kernel
theorem tb_punct_123 : ∀ c : Fin 256, 123 ≤ c.val → c.val < 127 → inS [112, 117, 110, 99, 116] c.val = true := by decide +kernel
theorem tb_punct_127 : ∀ c : Fin 256, 127 ≤ c.val → c.val < 256 → inS [112, 117, 110, 99, 116] c.val = false := by decide +kernel
theorem in_punct (c : Nat) (hc : c < 256) (w : World) : Calls Try.prog 10 #[.string ⟨#[112, 117, 110, 99, 116]⟩, .int .i64 (c : Int)] w fun e w' => e = .returned (.tuple #[.bool (inS [112, 117, 110, 99, 116] c), .bool (classS [112, 117, 110, 99, 116]).isSome]) ∧ w = w' := by
  have hs : (classS [112, 117, 110, 99, 116]).isSome = true := by kernel_rfl
  rw [hs]
  by_cases h33 : c < 33
  · rw [tb_punct_0 ⟨c, hc⟩ (by dsimp only; omega) (by dsimp only; omega)]; exact in_punct_0 c (by omega) (by omega) w
  by_cases h48 : c < 48
  · rw [tb_punct_33 ⟨c, hc⟩ (by dsimp only; omega) (by dsimp only; omega)]; exact in_punct_33 c (by omega) (by omega) w
  by_cases h58 : c < 58
  · rw [tb_punct_48 ⟨c, hc⟩ (by dsimp only; omega) (by dsimp only; omega)]; exact in_punct_48 c (by omega) (by omega) w
  by_cases h65 : c < 65
  · rw [tb_punct_58 ⟨c, hc⟩ (by dsimp only; omega) (by dsimp only; omega)]; exact in_punct_58 c (by omega) (by omega) w
  by_cases h91 : c < 91
  · rw [tb_punct_65 ⟨c, hc⟩ (by dsimp only; omega) (by dsimp only; omega)]; exact in_punct_65 c (by omega) (by omega) w
  by_cases h97 : c < 97
  · rw [tb_punct_91 ⟨c, hc⟩ (by dsimp only; omega) (by dsimp only; omega)]; exact in_punct_91 c (by omega) (by omega) w
  by_cases h123 : c < 123
  · rw [tb_punct_97 ⟨c, hc⟩ (by dsimp only; omega) (by dsimp only; omega)]; exact in_punct_97 c (by omega) (by omega) w
  by_cases h127 : c < 127
  · rw [tb_punct_123 ⟨c, hc⟩ (by dsimp only; omega) (by dsimp only; omega)]; exact in_punct_123 c (by omega) (by omega) w
  rw [tb_punct_127 ⟨c, hc⟩ (by dsimp only; omega) (by dsimp only; omega)]; exact in_punct_127 c (by omega) (by omega) w
theorem tb_print_0 : ∀ c : Fin 256, 0 ≤ c.val → c.val < 32 → inS [112, 114, 105, 110, 116] c.val = false := by decide +kernel
theorem tb_print_32 : ∀ c : Fin 256, 32 ≤ c.val → c.val < 48 → inS [112, 114, 105, 110, 116] c.val = true := by decide +kernel
theorem tb_print_48 : ∀ c : Fin 256, 48 ≤ c.val → c.val < 58 → inS [112, 114, 105, 110, 116] c.val = true := by decide +kernel
theorem tb_print_58 : ∀ c : Fin 256, 58 ≤ c.val → c.val < 65 → inS [112, 114, 105, 110, 116] c.val = true := by decide +kernel
theorem tb_print_65 : ∀ c : Fin 256, 65 ≤ c.val → c.val < 91 → inS [112, 114, 105, 110, 116] c.val = true := by decide +kernel
theorem tb_print_91 : ∀ c : Fin 256, 91 ≤ c.val → c.val < 97 → inS [112, 114, 105, 110, 116] c.val = true := by decide +kernel
theorem tb_print_97 : ∀ c : Fin 256, 97 ≤ c.val → c.val < 123 → inS [112, 114, 105, 110, 116] c.val = true := by decide +kernel
theorem tb_print_123 : ∀ c : Fin 256, 123 ≤ c.val → c.val < 127 → inS [112, 114, 105, 110, 116] c.val = true := by decide +kernel
theorem tb_print_127 : ∀ c : Fin 256, 127 ≤ c.val → c.val < 256 → inS [112, 114, 105, 110, 116] c.val = false := by decide +kernel
theorem in_print (c : Nat) (hc : c < 256) (w : World) : Calls Try.prog 10 #[.string ⟨#[112, 114, 105, 110, 116]⟩, .int .i64 (c : Int)] w fun e w' => e = .returned (.tuple #[.bool (inS [112, 114, 105, 110, 116] c), .bool (classS [112, 114, 105, 110, 116]).isSome]) ∧ w = w' := by
  have hs : (classS [112, 114, 105, 110, 116]).isSome = true := by kernel_rfl
  rw [hs]
  by_cases h32 : c < 32
  · rw [tb_print_0 ⟨c, hc⟩ (by dsimp only; omega) (by dsimp only; omega)]; exact in_print_0 c (by omega) (by omega) w
  by_cases h48 : c < 48
  · rw [tb_print_32 ⟨c, hc⟩ (by dsimp only; omega) (by dsimp only; omega)]; exact in_print_32 c (by omega) (by omega) w
  by_cases h58 : c < 58
  · rw [tb_print_48 ⟨c, hc⟩ (by dsimp only; omega) (by dsimp only; omega)]; exact in_print_48 c (by omega) (by omega) w
  by_cases h65 : c < 65
  · rw [tb_print_58 ⟨c, hc⟩ (by dsimp only; omega) (by dsimp only; omega)]; exact in_print_58 c (by omega) (by omega) w
  by_cases h91 : c < 91
  · rw [tb_print_65 ⟨c, hc⟩ (by dsimp only; omega) (by dsimp only; omega)]; exact in_print_65 c (by omega) (by omega) w
  by_cases h97 : c < 97
  · rw [tb_print_91 ⟨c, hc⟩ (by dsimp only; omega) (by dsimp only; omega)]; exact in_print_91 c (by omega) (by omega) w
  by_cases h123 : c < 123
  · rw [tb_print_97 ⟨c, hc⟩ (by dsimp only; omega) (by dsimp only; omega)]; exact in_print_97 c (by omega) (by omega) w
  by_cases h127 : c < 127
  · rw [tb_print_123 ⟨c, hc⟩ (by dsimp only; omega) (by dsimp only; omega)]; exact in_print_123 c (by omega) (by omega) w
  rw [tb_print_127 ⟨c, hc⟩ (by dsimp only; omega) (by dsimp only; omega)]; exact in_print_127 c (by omega) (by omega) w
theorem tb_graph_0 : ∀ c : Fin 256, 0 ≤ c.val → c.val < 33 → inS [103, 114, 97, 112, 104] c.val = false := by decide +kernel
theorem tb_graph_33 : ∀ c : Fin 256, 33 ≤ c.val → c.val < 48 → inS [103, 114, 97, 112, 104] c.val = true := by decide +kernel
theorem tb_graph_48 : ∀ c : Fin 256, 48 ≤ c.val → c.val < 58 → inS [103, 114, 97, 112, 104] c.val = true := by decide +kernel
theorem tb_graph_58 : ∀ c : Fin 256, 58 ≤ c.val → c.val < 65 → inS [103, 114, 97, 112, 104] c.val = true := by decide +kernel
theorem tb_graph_65 : ∀ c : Fin 256, 65 ≤ c.val → c.val < 91 → inS [103, 114, 97, 112, 104] c.val = true := by decide +kernel
theorem tb_graph_91 : ∀ c : Fin 256, 91 ≤ c.val → c.val < 97 → inS [103, 114, 97, 112, 104] c.val = true := by decide +kernel
theorem tb_graph_97 : ∀ c : Fin 256, 97 ≤ c.val → c.val < 123 → inS [103, 114, 97, 112, 104] c.val = true := by decide +kernel
theorem tb_graph_123 : ∀ c : Fin 256, 123 ≤ c.val → c.val < 127 → inS [103, 114, 97, 112, 104] c.val = true := by decide +kernel
theorem tb_graph_127 : ∀ c : Fin 256, 127 ≤ c.val → c.val < 256 → inS [103, 114, 97, 112, 104] c.val = false := by decide +kernel
theorem in_graph (c : Nat) (hc : c < 256) (w : World) : Calls Try.prog 10 #[.string ⟨#[103, 114, 97, 112, 104]⟩, .int .i64 (c : Int)] w fun e w' => e = .returned (.tuple #[.bool (inS [103, 114, 97, 112, 104] c), .bool (classS [103, 114, 97, 112, 104]).isSome]) ∧ w = w' := by
  have hs : (classS [103, 114, 97, 112, 104]).isSome = true := by kernel_rfl
  rw [hs]
  by_cases h33 : c < 33
  · rw [tb_graph_0 ⟨c, hc⟩ (by dsimp only; omega) (by dsimp only; omega)]; exact in_graph_0 c (by omega) (by omega) w
  by_cases h48 : c < 48
  · rw [tb_graph_33 ⟨c, hc⟩ (by dsimp only; omega) (by dsimp only; omega)]; exact in_graph_33 c (by omega) (by omega) w
  by_cases h58 : c < 58
  · rw [tb_graph_48 ⟨c, hc⟩ (by dsimp only; omega) (by dsimp only; omega)]; exact in_graph_48 c (by omega) (by omega) w
  by_cases h65 : c < 65
  · rw [tb_graph_58 ⟨c, hc⟩ (by dsimp only; omega) (by dsimp only; omega)]; exact in_graph_58 c (by omega) (by omega) w
  by_cases h91 : c < 91
  · rw [tb_graph_65 ⟨c, hc⟩ (by dsimp only; omega) (by dsimp only; omega)]; exact in_graph_65 c (by omega) (by omega) w
  by_cases h97 : c < 97
  · rw [tb_graph_91 ⟨c, hc⟩ (by dsimp only; omega) (by dsimp only; omega)]; exact in_graph_91 c (by omega) (by omega) w
  by_cases h123 : c < 123
  · rw [tb_graph_97 ⟨c, hc⟩ (by dsimp only; omega) (by dsimp only; omega)]; exact in_graph_97 c (by omega) (by omega) w
  by_cases h127 : c < 127
  · rw [tb_graph_123 ⟨c, hc⟩ (by dsimp only; omega) (by dsimp only; omega)]; exact in_graph_123 c (by omega) (by omega) w
  rw [tb_graph_127 ⟨c, hc⟩ (by dsimp only; omega) (by dsimp only; omega)]; exact in_graph_127 c (by omega) (by omega) w
theorem tb_cntrl_0 : ∀ c : Fin 256, 0 ≤ c.val → c.val < 32 → inS [99, 110, 116, 114, 108] c.val = true := by decide +kernel
theorem tb_cntrl_32 : ∀ c : Fin 256, 32 ≤ c.val → c.val < 48 → inS [99, 110, 116, 114, 108] c.val = false := by decide +kernel
theorem tb_cntrl_48 : ∀ c : Fin 256, 48 ≤ c.val → c.val < 58 → inS [99, 110, 116, 114, 108] c.val = false := by decide +kernel
theorem tb_cntrl_58 : ∀ c : Fin 256, 58 ≤ c.val → c.val < 65 → inS [99, 110, 116, 114, 108] c.val = false := by decide +kernel
theorem tb_cntrl_65 : ∀ c : Fin 256, 65 ≤ c.val → c.val < 91 → inS [99, 110, 116, 114, 108] c.val = false := by decide +kernel
theorem tb_cntrl_91 : ∀ c : Fin 256, 91 ≤ c.val → c.val < 97 → inS [99, 110, 116, 114, 108] c.val = false := by decide +kernel
theorem tb_cntrl_97 : ∀ c : Fin 256, 97 ≤ c.val → c.val < 123 → inS [99, 110, 116, 114, 108] c.val = false := by decide +kernel
theorem tb_cntrl_123 : ∀ c : Fin 256, 123 ≤ c.val → c.val < 127 → inS [99, 110, 116, 114, 108] c.val = false := by decide +kernel
theorem tb_cntrl_127 : ∀ c : Fin 256, 127 ≤ c.val → c.val < 128 → inS [99, 110, 116, 114, 108] c.val = true := by decide +kernel
theorem tb_cntrl_128 : ∀ c : Fin 256, 128 ≤ c.val → c.val < 256 → inS [99, 110, 116, 114, 108] c.val = false := by decide +kernel
theorem in_cntrl (c : Nat) (hc : c < 256) (w : World) : Calls Try.prog 10 #[.string ⟨#[99, 110, 116, 114, 108]⟩, .int .i64 (c : Int)] w fun e w' => e = .returned (.tuple #[.bool (inS [99, 110, 116, 114, 108] c), .bool (classS [99, 110, 116, 114, 108]).isSome]) ∧ w = w' := by
  have hs : (classS [99, 110, 116, 114, 108]).isSome = true := by kernel_rfl
  rw [hs]
  by_cases h32 : c < 32
  · rw [tb_cntrl_0 ⟨c, hc⟩ (by dsimp only; omega) (by dsimp only; omega)]; exact in_cntrl_0 c (by omega) (by omega) w
  by_cases h48 : c < 48
  · rw [tb_cntrl_32 ⟨c, hc⟩ (by dsimp only; omega) (by dsimp only; omega)]; exact in_cntrl_32 c (by omega) (by omega) w
  by_cases h58 : c < 58
  · rw [tb_cntrl_48 ⟨c, hc⟩ (by dsimp only; omega) (by dsimp only; omega)]; exact in_cntrl_48 c (by omega) (by omega) w
  by_cases h65 : c < 65
  · rw [tb_cntrl_58 ⟨c, hc⟩ (by dsimp only; omega) (by dsimp only; omega)]; exact in_cntrl_58 c (by omega) (by omega) w
  by_cases h91 : c < 91
  · rw [tb_cntrl_65 ⟨c, hc⟩ (by dsimp only; omega) (by dsimp only; omega)]; exact in_cntrl_65 c (by omega) (by omega) w
  by_cases h97 : c < 97
  · rw [tb_cntrl_91 ⟨c, hc⟩ (by dsimp only; omega) (by dsimp only; omega)]; exact in_cntrl_91 c (by omega) (by omega) w
  by_cases h123 : c < 123
  · rw [tb_cntrl_97 ⟨c, hc⟩ (by dsimp only; omega) (by dsimp only; omega)]; exact in_cntrl_97 c (by omega) (by omega) w
  by_cases h127 : c < 127
  · rw [tb_cntrl_123 ⟨c, hc⟩ (by dsimp only; omega) (by dsimp only; omega)]; exact in_cntrl_123 c (by omega) (by omega) w
  by_cases h128 : c < 128
  · rw [tb_cntrl_127 ⟨c, hc⟩ (by dsimp only; omega) (by dsimp only; omega)]; exact in_cntrl_127 c (by omega) (by omega) w
  rw [tb_cntrl_128 ⟨c, hc⟩ (by dsimp only; omega) (by dsimp only; omega)]; exact in_cntrl_128 c (by omega) (by omega) w
theorem tb_xdigit_0 : ∀ c : Fin 256, 0 ≤ c.val → c.val < 48 → inS [120, 100, 105, 103, 105, 116] c.val = false := by decide +kernel
theorem tb_xdigit_48 : ∀ c : Fin 256, 48 ≤ c.val → c.val < 58 → inS [120, 100, 105, 103, 105, 116] c.val = true := by decide +kernel
theorem tb_xdigit_58 : ∀ c : Fin 256, 58 ≤ c.val → c.val < 65 → inS [120, 100, 105, 103, 105, 116] c.val = false := by decide +kernel
theorem tb_xdigit_65 : ∀ c : Fin 256, 65 ≤ c.val → c.val < 71 → inS [120, 100, 105, 103, 105, 116] c.val = true := by decide +kernel
theorem tb_xdigit_71 : ∀ c : Fin 256, 71 ≤ c.val → c.val < 91 → inS [120, 100, 105, 103, 105, 116] c.val = false := by decide +kernel
theorem tb_xdigit_91 : ∀ c : Fin 256, 91 ≤ c.val → c.val < 97 → inS [120, 100, 105, 103, 105, 116] c.val = false := by decide +kernel
theorem tb_xdigit_97 : ∀ c : Fin 256, 97 ≤ c.val → c.val < 103 → inS [120, 100, 105, 103, 105, 116] c.val = true := by decide +kernel
theorem tb_xdigit_103 : ∀ c : Fin 256, 103 ≤ c.val → c.val < 123 → inS [120, 100, 105, 103, 105, 116] c.val = false := by decide +kernel
theorem tb_xdigit_123 : ∀ c : Fin 256, 123 ≤ c.val → c.val < 256 → inS [120, 100, 105, 103, 105, 116] c.val = false := by decide +kernel
theorem in_xdigit (c : Nat) (hc : c < 256) (w : World) : Calls Try.prog 10 #[.string ⟨#[120, 100, 105, 103, 105, 116]⟩, .int .i64 (c : Int)] w fun e w' => e = .returned (.tuple #[.bool (inS [120, 100, 105, 103, 105, 116] c), .bool (classS [120, 100, 105, 103, 105, 116]).isSome]) ∧ w = w' := by
  have hs : (classS [120, 100, 105, 103, 105, 116]).isSome = true := by kernel_rfl
  rw [hs]
  by_cases h48 : c < 48
  · rw [tb_xdigit_0 ⟨c, hc⟩ (by dsimp only; omega) (by dsimp only; omega)]; exact in_xdigit_0 c (by omega) (by omega) w
  by_cases h58 : c < 58
  · rw [tb_xdigit_48 ⟨c, hc⟩ (by dsimp only; omega) (by dsimp only; omega)]; exact in_xdigit_48 c (by omega) (by omega) w
  by_cases h65 : c < 65
  · rw [tb_xdigit_58 ⟨c, hc⟩ (by dsimp only; omega) (by dsimp only; omega)]; exact in_xdigit_58 c (by omega) (by omega) w
  by_cases h71 : c < 71
  · rw [tb_xdigit_65 ⟨c, hc⟩ (by dsimp only; omega) (by dsimp only; omega)]; exact in_xdigit_65 c (by omega) (by omega) w
  by_cases h91 : c < 91
  · rw [tb_xdigit_71 ⟨c, hc⟩ (by dsimp only; omega) (by dsimp only; omega)]; exact in_xdigit_71 c (by omega) (by omega) w
  by_cases h97 : c < 97
  · rw [tb_xdigit_91 ⟨c, hc⟩ (by dsimp only; omega) (by dsimp only; omega)]; exact in_xdigit_91 c (by omega) (by omega) w
  by_cases h103 : c < 103
  · rw [tb_xdigit_97 ⟨c, hc⟩ (by dsimp only; omega) (by dsimp only; omega)]; exact in_xdigit_97 c (by omega) (by omega) w
  by_cases h123 : c < 123
  · rw [tb_xdigit_103 ⟨c, hc⟩ (by dsimp only; omega) (by dsimp only; omega)]; exact in_xdigit_103 c (by omega) (by omega) w
  rw [tb_xdigit_123 ⟨c, hc⟩ (by dsimp only; omega) (by dsimp only; omega)]; exact in_xdigit_123 c (by omega) (by omega) w
set_option maxRecDepth 100000 in
set_option maxHeartbeats 4000000 in
theorem in_none_0 (l : List UInt8) (h_alpha : l ≠ [97, 108, 112, 104, 97]) (h_digit : l ≠ [100, 105, 103, 105, 116]) (h_alnum : l ≠ [97, 108, 110, 117, 109]) (h_upper : l ≠ [117, 112, 112, 101, 114]) (h_lower : l ≠ [108, 111, 119, 101, 114]) (h_space : l ≠ [115, 112, 97, 99, 101]) (h_blank : l ≠ [98, 108, 97, 110, 107]) (h_punct : l ≠ [112, 117, 110, 99, 116]) (h_print : l ≠ [112, 114, 105, 110, 116]) (h_graph : l ≠ [103, 114, 97, 112, 104]) (h_cntrl : l ≠ [99, 110, 116, 114, 108]) (h_xdigit : l ≠ [120, 100, 105, 103, 105, 116]) (c : Nat) (h1 : 0 ≤ c) (h2 : c < 48) (w : World) : Calls Try.prog 10 #[.string ⟨l.toArray⟩, .int .i64 (c : Int)] w fun e w' => e = .returned (.tuple #[.bool false, .bool false]) ∧ w = w' := by
  have e_alpha : (l == [97, 108, 112, 104, 97]) = false := by simpa using h_alpha
  have e_digit : (l == [100, 105, 103, 105, 116]) = false := by simpa using h_digit
  have e_alnum : (l == [97, 108, 110, 117, 109]) = false := by simpa using h_alnum
  have e_upper : (l == [117, 112, 112, 101, 114]) = false := by simpa using h_upper
  have e_lower : (l == [108, 111, 119, 101, 114]) = false := by simpa using h_lower
  have e_space : (l == [115, 112, 97, 99, 101]) = false := by simpa using h_space
  have e_blank : (l == [98, 108, 97, 110, 107]) = false := by simpa using h_blank
  have e_punct : (l == [112, 117, 110, 99, 116]) = false := by simpa using h_punct
  have e_print : (l == [112, 114, 105, 110, 116]) = false := by simpa using h_print
  have e_graph : (l == [103, 114, 97, 112, 104]) = false := by simpa using h_graph
  have e_cntrl : (l == [99, 110, 116, 114, 108]) = false := by simpa using h_cntrl
  have e_xdigit : (l == [120, 100, 105, 103, 105, 116]) = false := by simpa using h_xdigit
  clear h_alpha h_digit h_alnum h_upper h_lower h_space h_blank h_punct h_print h_graph h_cntrl h_xdigit
  go_enter Try.func10, Try.ntmps10
  go_wp2_with fail
  go_ret2
  refine ⟨?_, rfl⟩
  first | rfl | (simp; done) | (simp; omega)
set_option maxRecDepth 100000 in
set_option maxHeartbeats 4000000 in
theorem in_none_48 (l : List UInt8) (h_alpha : l ≠ [97, 108, 112, 104, 97]) (h_digit : l ≠ [100, 105, 103, 105, 116]) (h_alnum : l ≠ [97, 108, 110, 117, 109]) (h_upper : l ≠ [117, 112, 112, 101, 114]) (h_lower : l ≠ [108, 111, 119, 101, 114]) (h_space : l ≠ [115, 112, 97, 99, 101]) (h_blank : l ≠ [98, 108, 97, 110, 107]) (h_punct : l ≠ [112, 117, 110, 99, 116]) (h_print : l ≠ [112, 114, 105, 110, 116]) (h_graph : l ≠ [103, 114, 97, 112, 104]) (h_cntrl : l ≠ [99, 110, 116, 114, 108]) (h_xdigit : l ≠ [120, 100, 105, 103, 105, 116]) (c : Nat) (h1 : 48 ≤ c) (h2 : c < 58) (w : World) : Calls Try.prog 10 #[.string ⟨l.toArray⟩, .int .i64 (c : Int)] w fun e w' => e = .returned (.tuple #[.bool false, .bool false]) ∧ w = w' := by
  have e_alpha : (l == [97, 108, 112, 104, 97]) = false := by simpa using h_alpha
  have e_digit : (l == [100, 105, 103, 105, 116]) = false := by simpa using h_digit
  have e_alnum : (l == [97, 108, 110, 117, 109]) = false := by simpa using h_alnum
  have e_upper : (l == [117, 112, 112, 101, 114]) = false := by simpa using h_upper
  have e_lower : (l == [108, 111, 119, 101, 114]) = false := by simpa using h_lower
  have e_space : (l == [115, 112, 97, 99, 101]) = false := by simpa using h_space
  have e_blank : (l == [98, 108, 97, 110, 107]) = false := by simpa using h_blank
  have e_punct : (l == [112, 117, 110, 99, 116]) = false := by simpa using h_punct
  have e_print : (l == [112, 114, 105, 110, 116]) = false := by simpa using h_print
  have e_graph : (l == [103, 114, 97, 112, 104]) = false := by simpa using h_graph
  have e_cntrl : (l == [99, 110, 116, 114, 108]) = false := by simpa using h_cntrl
  have e_xdigit : (l == [120, 100, 105, 103, 105, 116]) = false := by simpa using h_xdigit
  clear h_alpha h_digit h_alnum h_upper h_lower h_space h_blank h_punct h_print h_graph h_cntrl h_xdigit
  go_enter Try.func10, Try.ntmps10
  go_wp2_with fail
  go_ret2
  refine ⟨?_, rfl⟩
  first | rfl | (simp; done) | (simp; omega)
set_option maxRecDepth 100000 in
set_option maxHeartbeats 4000000 in
theorem in_none_58 (l : List UInt8) (h_alpha : l ≠ [97, 108, 112, 104, 97]) (h_digit : l ≠ [100, 105, 103, 105, 116]) (h_alnum : l ≠ [97, 108, 110, 117, 109]) (h_upper : l ≠ [117, 112, 112, 101, 114]) (h_lower : l ≠ [108, 111, 119, 101, 114]) (h_space : l ≠ [115, 112, 97, 99, 101]) (h_blank : l ≠ [98, 108, 97, 110, 107]) (h_punct : l ≠ [112, 117, 110, 99, 116]) (h_print : l ≠ [112, 114, 105, 110, 116]) (h_graph : l ≠ [103, 114, 97, 112, 104]) (h_cntrl : l ≠ [99, 110, 116, 114, 108]) (h_xdigit : l ≠ [120, 100, 105, 103, 105, 116]) (c : Nat) (h1 : 58 ≤ c) (h2 : c < 65) (w : World) : Calls Try.prog 10 #[.string ⟨l.toArray⟩, .int .i64 (c : Int)] w fun e w' => e = .returned (.tuple #[.bool false, .bool false]) ∧ w = w' := by
  have e_alpha : (l == [97, 108, 112, 104, 97]) = false := by simpa using h_alpha
  have e_digit : (l == [100, 105, 103, 105, 116]) = false := by simpa using h_digit
  have e_alnum : (l == [97, 108, 110, 117, 109]) = false := by simpa using h_alnum
  have e_upper : (l == [117, 112, 112, 101, 114]) = false := by simpa using h_upper
  have e_lower : (l == [108, 111, 119, 101, 114]) = false := by simpa using h_lower
  have e_space : (l == [115, 112, 97, 99, 101]) = false := by simpa using h_space
  have e_blank : (l == [98, 108, 97, 110, 107]) = false := by simpa using h_blank
  have e_punct : (l == [112, 117, 110, 99, 116]) = false := by simpa using h_punct
  have e_print : (l == [112, 114, 105, 110, 116]) = false := by simpa using h_print
  have e_graph : (l == [103, 114, 97, 112, 104]) = false := by simpa using h_graph
  have e_cntrl : (l == [99, 110, 116, 114, 108]) = false := by simpa using h_cntrl
  have e_xdigit : (l == [120, 100, 105, 103, 105, 116]) = false := by simpa using h_xdigit
  clear h_alpha h_digit h_alnum h_upper h_lower h_space h_blank h_punct h_print h_graph h_cntrl h_xdigit
  go_enter Try.func10, Try.ntmps10
  go_wp2_with fail
  go_ret2
  refine ⟨?_, rfl⟩
  first | rfl | (simp; done) | (simp; omega)
set_option maxRecDepth 100000 in
set_option maxHeartbeats 4000000 in
theorem in_none_65 (l : List UInt8) (h_alpha : l ≠ [97, 108, 112, 104, 97]) (h_digit : l ≠ [100, 105, 103, 105, 116]) (h_alnum : l ≠ [97, 108, 110, 117, 109]) (h_upper : l ≠ [117, 112, 112, 101, 114]) (h_lower : l ≠ [108, 111, 119, 101, 114]) (h_space : l ≠ [115, 112, 97, 99, 101]) (h_blank : l ≠ [98, 108, 97, 110, 107]) (h_punct : l ≠ [112, 117, 110, 99, 116]) (h_print : l ≠ [112, 114, 105, 110, 116]) (h_graph : l ≠ [103, 114, 97, 112, 104]) (h_cntrl : l ≠ [99, 110, 116, 114, 108]) (h_xdigit : l ≠ [120, 100, 105, 103, 105, 116]) (c : Nat) (h1 : 65 ≤ c) (h2 : c < 91) (w : World) : Calls Try.prog 10 #[.string ⟨l.toArray⟩, .int .i64 (c : Int)] w fun e w' => e = .returned (.tuple #[.bool false, .bool false]) ∧ w = w' := by
  have e_alpha : (l == [97, 108, 112, 104, 97]) = false := by simpa using h_alpha
  have e_digit : (l == [100, 105, 103, 105, 116]) = false := by simpa using h_digit
  have e_alnum : (l == [97, 108, 110, 117, 109]) = false := by simpa using h_alnum
  have e_upper : (l == [117, 112, 112, 101, 114]) = false := by simpa using h_upper
  have e_lower : (l == [108, 111, 119, 101, 114]) = false := by simpa using h_lower
  have e_space : (l == [115, 112, 97, 99, 101]) = false := by simpa using h_space
  have e_blank : (l == [98, 108, 97, 110, 107]) = false := by simpa using h_blank
  have e_punct : (l == [112, 117, 110, 99, 116]) = false := by simpa using h_punct
  have e_print : (l == [112, 114, 105, 110, 116]) = false := by simpa using h_print
  have e_graph : (l == [103, 114, 97, 112, 104]) = false := by simpa using h_graph
  have e_cntrl : (l == [99, 110, 116, 114, 108]) = false := by simpa using h_cntrl
  have e_xdigit : (l == [120, 100, 105, 103, 105, 116]) = false := by simpa using h_xdigit
  clear h_alpha h_digit h_alnum h_upper h_lower h_space h_blank h_punct h_print h_graph h_cntrl h_xdigit
  go_enter Try.func10, Try.ntmps10
  go_wp2_with fail
  go_ret2
  refine ⟨?_, rfl⟩
  first | rfl | (simp; done) | (simp; omega)
set_option maxRecDepth 100000 in
set_option maxHeartbeats 4000000 in
theorem in_none_91 (l : List UInt8) (h_alpha : l ≠ [97, 108, 112, 104, 97]) (h_digit : l ≠ [100, 105, 103, 105, 116]) (h_alnum : l ≠ [97, 108, 110, 117, 109]) (h_upper : l ≠ [117, 112, 112, 101, 114]) (h_lower : l ≠ [108, 111, 119, 101, 114]) (h_space : l ≠ [115, 112, 97, 99, 101]) (h_blank : l ≠ [98, 108, 97, 110, 107]) (h_punct : l ≠ [112, 117, 110, 99, 116]) (h_print : l ≠ [112, 114, 105, 110, 116]) (h_graph : l ≠ [103, 114, 97, 112, 104]) (h_cntrl : l ≠ [99, 110, 116, 114, 108]) (h_xdigit : l ≠ [120, 100, 105, 103, 105, 116]) (c : Nat) (h1 : 91 ≤ c) (h2 : c < 97) (w : World) : Calls Try.prog 10 #[.string ⟨l.toArray⟩, .int .i64 (c : Int)] w fun e w' => e = .returned (.tuple #[.bool false, .bool false]) ∧ w = w' := by
  have e_alpha : (l == [97, 108, 112, 104, 97]) = false := by simpa using h_alpha
  have e_digit : (l == [100, 105, 103, 105, 116]) = false := by simpa using h_digit
  have e_alnum : (l == [97, 108, 110, 117, 109]) = false := by simpa using h_alnum
  have e_upper : (l == [117, 112, 112, 101, 114]) = false := by simpa using h_upper
  have e_lower : (l == [108, 111, 119, 101, 114]) = false := by simpa using h_lower
  have e_space : (l == [115, 112, 97, 99, 101]) = false := by simpa using h_space
  have e_blank : (l == [98, 108, 97, 110, 107]) = false := by simpa using h_blank
  have e_punct : (l == [112, 117, 110, 99, 116]) = false := by simpa using h_punct
  have e_print : (l == [112, 114, 105, 110, 116]) = false := by simpa using h_print
  have e_graph : (l == [103, 114, 97, 112, 104]) = false := by simpa using h_graph
  have e_cntrl : (l == [99, 110, 116, 114, 108]) = false := by simpa using h_cntrl
  have e_xdigit : (l == [120, 100, 105, 103, 105, 116]) = false := by simpa using h_xdigit
  clear h_alpha h_digit h_alnum h_upper h_lower h_space h_blank h_punct h_print h_graph h_cntrl h_xdigit
  go_enter Try.func10, Try.ntmps10
  go_wp2_with fail
  go_ret2
  refine ⟨?_, rfl⟩
  first | rfl | (simp; done) | (simp; omega)
set_option maxRecDepth 100000 in
set_option maxHeartbeats 4000000 in
theorem in_none_97 (l : List UInt8) (h_alpha : l ≠ [97, 108, 112, 104, 97]) (h_digit : l ≠ [100, 105, 103, 105, 116]) (h_alnum : l ≠ [97, 108, 110, 117, 109]) (h_upper : l ≠ [117, 112, 112, 101, 114]) (h_lower : l ≠ [108, 111, 119, 101, 114]) (h_space : l ≠ [115, 112, 97, 99, 101]) (h_blank : l ≠ [98, 108, 97, 110, 107]) (h_punct : l ≠ [112, 117, 110, 99, 116]) (h_print : l ≠ [112, 114, 105, 110, 116]) (h_graph : l ≠ [103, 114, 97, 112, 104]) (h_cntrl : l ≠ [99, 110, 116, 114, 108]) (h_xdigit : l ≠ [120, 100, 105, 103, 105, 116]) (c : Nat) (h1 : 97 ≤ c) (h2 : c < 123) (w : World) : Calls Try.prog 10 #[.string ⟨l.toArray⟩, .int .i64 (c : Int)] w fun e w' => e = .returned (.tuple #[.bool false, .bool false]) ∧ w = w' := by
  have e_alpha : (l == [97, 108, 112, 104, 97]) = false := by simpa using h_alpha
  have e_digit : (l == [100, 105, 103, 105, 116]) = false := by simpa using h_digit
  have e_alnum : (l == [97, 108, 110, 117, 109]) = false := by simpa using h_alnum
  have e_upper : (l == [117, 112, 112, 101, 114]) = false := by simpa using h_upper
  have e_lower : (l == [108, 111, 119, 101, 114]) = false := by simpa using h_lower
  have e_space : (l == [115, 112, 97, 99, 101]) = false := by simpa using h_space
  have e_blank : (l == [98, 108, 97, 110, 107]) = false := by simpa using h_blank
  have e_punct : (l == [112, 117, 110, 99, 116]) = false := by simpa using h_punct
  have e_print : (l == [112, 114, 105, 110, 116]) = false := by simpa using h_print
  have e_graph : (l == [103, 114, 97, 112, 104]) = false := by simpa using h_graph
  have e_cntrl : (l == [99, 110, 116, 114, 108]) = false := by simpa using h_cntrl
  have e_xdigit : (l == [120, 100, 105, 103, 105, 116]) = false := by simpa using h_xdigit
  clear h_alpha h_digit h_alnum h_upper h_lower h_space h_blank h_punct h_print h_graph h_cntrl h_xdigit
  go_enter Try.func10, Try.ntmps10
  go_wp2_with fail
  go_ret2
  refine ⟨?_, rfl⟩
  first | rfl | (simp; done) | (simp; omega)
set_option maxRecDepth 100000 in
set_option maxHeartbeats 4000000 in
theorem in_none_123 (l : List UInt8) (h_alpha : l ≠ [97, 108, 112, 104, 97]) (h_digit : l ≠ [100, 105, 103, 105, 116]) (h_alnum : l ≠ [97, 108, 110, 117, 109]) (h_upper : l ≠ [117, 112, 112, 101, 114]) (h_lower : l ≠ [108, 111, 119, 101, 114]) (h_space : l ≠ [115, 112, 97, 99, 101]) (h_blank : l ≠ [98, 108, 97, 110, 107]) (h_punct : l ≠ [112, 117, 110, 99, 116]) (h_print : l ≠ [112, 114, 105, 110, 116]) (h_graph : l ≠ [103, 114, 97, 112, 104]) (h_cntrl : l ≠ [99, 110, 116, 114, 108]) (h_xdigit : l ≠ [120, 100, 105, 103, 105, 116]) (c : Nat) (h1 : 123 ≤ c) (h2 : c < 256) (w : World) : Calls Try.prog 10 #[.string ⟨l.toArray⟩, .int .i64 (c : Int)] w fun e w' => e = .returned (.tuple #[.bool false, .bool false]) ∧ w = w' := by
  have e_alpha : (l == [97, 108, 112, 104, 97]) = false := by simpa using h_alpha
  have e_digit : (l == [100, 105, 103, 105, 116]) = false := by simpa using h_digit
  have e_alnum : (l == [97, 108, 110, 117, 109]) = false := by simpa using h_alnum
  have e_upper : (l == [117, 112, 112, 101, 114]) = false := by simpa using h_upper
  have e_lower : (l == [108, 111, 119, 101, 114]) = false := by simpa using h_lower
  have e_space : (l == [115, 112, 97, 99, 101]) = false := by simpa using h_space
  have e_blank : (l == [98, 108, 97, 110, 107]) = false := by simpa using h_blank
  have e_punct : (l == [112, 117, 110, 99, 116]) = false := by simpa using h_punct
  have e_print : (l == [112, 114, 105, 110, 116]) = false := by simpa using h_print
  have e_graph : (l == [103, 114, 97, 112, 104]) = false := by simpa using h_graph
  have e_cntrl : (l == [99, 110, 116, 114, 108]) = false := by simpa using h_cntrl
  have e_xdigit : (l == [120, 100, 105, 103, 105, 116]) = false := by simpa using h_xdigit
  clear h_alpha h_digit h_alnum h_upper h_lower h_space h_blank h_punct h_print h_graph h_cntrl h_xdigit
  go_enter Try.func10, Try.ntmps10
  go_wp2_with fail
  go_ret2
  refine ⟨?_, rfl⟩
  first | rfl | (simp; done) | (simp; omega)
theorem in_any (l : List UInt8) (c : Nat) (hc : c < 256) (w : World) : Calls Try.prog 10 #[.string ⟨l.toArray⟩, .int .i64 (c : Int)] w fun e w' => e = .returned (.tuple #[.bool (inS l c), .bool (classS l).isSome]) ∧ w = w' := by
  by_cases h_alpha : l = [97, 108, 112, 104, 97]
  · subst h_alpha; exact in_alpha c hc w
  by_cases h_digit : l = [100, 105, 103, 105, 116]
  · subst h_digit; exact in_digit c hc w
  by_cases h_alnum : l = [97, 108, 110, 117, 109]
  · subst h_alnum; exact in_alnum c hc w
  by_cases h_upper : l = [117, 112, 112, 101, 114]
  · subst h_upper; exact in_upper c hc w
  by_cases h_lower : l = [108, 111, 119, 101, 114]
  · subst h_lower; exact in_lower c hc w
  by_cases h_space : l = [115, 112, 97, 99, 101]
  · subst h_space; exact in_space c hc w
  by_cases h_blank : l = [98, 108, 97, 110, 107]
  · subst h_blank; exact in_blank c hc w
  by_cases h_punct : l = [112, 117, 110, 99, 116]
  · subst h_punct; exact in_punct c hc w
  by_cases h_print : l = [112, 114, 105, 110, 116]
  · subst h_print; exact in_print c hc w
  by_cases h_graph : l = [103, 114, 97, 112, 104]
  · subst h_graph; exact in_graph c hc w
  by_cases h_cntrl : l = [99, 110, 116, 114, 108]
  · subst h_cntrl; exact in_cntrl c hc w
  by_cases h_xdigit : l = [120, 100, 105, 103, 105, 116]
  · subst h_xdigit; exact in_xdigit c hc w
  have hn : classS l = none := by
    unfold classS
    rw [if_neg h_xdigit, if_neg h_punct, if_neg h_alnum, if_neg h_alpha, if_neg h_digit, if_neg h_upper, if_neg h_lower, if_neg h_space, if_neg h_blank, if_neg h_print, if_neg h_graph, if_neg h_cntrl]
  have hi : inS l c = false := by unfold inS; rw [hn]; exact S4.mem_empty c
  rw [hi, hn]
  by_cases h48 : c < 48
  · exact in_none_0 l h_alpha h_digit h_alnum h_upper h_lower h_space h_blank h_punct h_print h_graph h_cntrl h_xdigit c (by omega) (by omega) w
  by_cases h58 : c < 58
  · exact in_none_48 l h_alpha h_digit h_alnum h_upper h_lower h_space h_blank h_punct h_print h_graph h_cntrl h_xdigit c (by omega) (by omega) w
  by_cases h65 : c < 65
  · exact in_none_58 l h_alpha h_digit h_alnum h_upper h_lower h_space h_blank h_punct h_print h_graph h_cntrl h_xdigit c (by omega) (by omega) w
  by_cases h91 : c < 91
  · exact in_none_65 l h_alpha h_digit h_alnum h_upper h_lower h_space h_blank h_punct h_print h_graph h_cntrl h_xdigit c (by omega) (by omega) w
  by_cases h97 : c < 97
  · exact in_none_91 l h_alpha h_digit h_alnum h_upper h_lower h_space h_blank h_punct h_print h_graph h_cntrl h_xdigit c (by omega) (by omega) w
  by_cases h123 : c < 123
  · exact in_none_97 l h_alpha h_digit h_alnum h_upper h_lower h_space h_blank h_punct h_print h_graph h_cntrl h_xdigit c (by omega) (by omega) w
  exact in_none_123 l h_alpha h_digit h_alnum h_upper h_lower h_space h_blank h_punct h_print h_graph h_cntrl h_xdigit c (by omega) (by omega) w

theorem classS_getD_ok (l : List UInt8) : ((classS l).getD S4.empty).ok := by
  cases h : classS l with
  | none => exact S4.empty_ok
  | some R => exact classS_ok l R h
theorem classV_eq (l : List UInt8) : classV (classS l) = .tuple #[((classS l).getD S4.empty).val, .bool (classS l).isSome] := by
  cases h : classS l <;> rfl

set_option maxRecDepth 100000 in
set_option maxHeartbeats 4000000 in
theorem classes_walk {w : World} (hg : GlobOk w) (l : List UInt8) (c : UInt8) (hl : l.length ≤ maxLen) : Calls Try.prog 3 #[.string ⟨l.toArray⟩, .int .u8 (c.toNat : Int)] w fun e w' => e = .returned (.bool true) ∧ Fr [] w w' := by
  have hc : c.toNat < 256 := c.toNat_lt
  unfold maxLen at hl
  go_enter Try.func3, Try.ntmps3
  go_wp2_with fail
  go_at_call 8
  refine (awake_any hg).mono ?_
  rintro e w1 ⟨rfl, hf1⟩
  have HF1 := Lib.hid hf1; clear hf1
  by_cases h20 : 20 < l.length
  · go_wp2_with fail
    go_ret
    exact ⟨rfl, HF1.out⟩
  · go_wp2_with fail
    go_at_call 9
    refine (class_any l (by omega) _).mono ?_
    rintro e w2 ⟨rfl, hf2⟩
    rw [classV_eq]
    have hok := classS_getD_ok l
    generalize hR : (classS l).getD S4.empty = R at *
    generalize hb : (classS l).isSome = b at *
    have HR := Lib.hid hR; have HBB := Lib.hid hb; have HO := Lib.hid hok; clear hR hb hok
    have HF2 := Lib.hid (HF1.out.trans hf2); clear hf2
    unfold S4.val
    go_wp2_with fail
    go_at_call 10
    refine (in_any l 0 (by omega) _).mono ?_
    rintro e w3 ⟨rfl, rfl⟩
    rw [HBB.out]
    go_wp2_with (first
      | (go_at_call 11; refine (esc_any c.toNat hc _).mono ?_; rintro e w4 ⟨rfl, rfl⟩)
      | (go_at_call 12; refine (ref_esc_any c.toNat hc _).mono ?_; rintro e w4 ⟨rfl, rfl⟩))
    have hK0 : Keep w (w2.alloc (.cells R.cells 25)) w2.heap.size R := ⟨Bk.new w2 _ _, HF2.out.alloc _⟩
    have HK0 := Lib.hid hK0; clear hK0
    go_loopw [9, 10, 11] (fun i x y wr => ∃ n : Nat, i = .int .i64 (n : Int) ∧ n ≤ 256 ∧ Keep w wr w2.heap.size R) (fun i _ _ _ => 256 - (intOf i).toNat)
    case atStart => exact ⟨0, rfl, by omega, HK0.out⟩
    case round =>
      obtain ⟨n, rfl, hn, hk⟩ := hrel
      by_cases hlt : n < 256
      · obtain ⟨k0, k1, k2, k3, _⟩ := keepS hk
        have hltb := hk.1.lt
        have HK := Lib.hid hk; clear hk
        have hq : R.mem n = inS l n := by unfold inS; rw [HR.out]
        generalize hqq : inS l n = q at *
        have HQ := Lib.hid hq; have HQQ := Lib.hid hqq; clear hq hqq
        have q1 : (q != q) = false := by simp
        have q2 : (q == q) = true := by simp
        go_wp2_with fail
        go_at_call 10
        refine (in_any l n hlt _).mono ?_
        rintro e w5 ⟨rfl, rfl⟩
        rw [HQQ.out]
        go_wp2_with fail
        go_at_call 13
        refine (has_any R n _ hlt HO.out).mono ?_
        rintro e w6 ⟨rfl, hf⟩
        rw [HQ.out]
        have HK6 := Lib.hid (Keep.fr hf HK.out); clear hf k0 k1 k2 k3
        go_wp2_with fail
        go_roundw
        case rel => exact ⟨n + 1, by go_num, by omega, HK6.out⟩
        case measure => simp [intOf]; omega
      · go_wp2_with fail
        go_ret
        exact ⟨rfl, hk.2⟩

theorem charsetClasses_open {H : Type} {enc : TypeId × Value → H} (W : World) (base : Nat) (v0 : Value) (d0 : DataW H) (p0 : List MemPlace) (v1 : Value) (d1 : DataW H) (p1 : List MemPlace)
    (k0 : Value.okWide Try.prog W .any base 9 v0) (k1 : Value.okWide Try.prog W .any base 5 v1) (h0 : DataW.Trod enc Try.prog W 0 (fun _ => true) true 9 v0 d0 p0) (h1 : DataW.Trod enc Try.prog W 0 (fun _ => true) true 5 v1 d1 p1) (hg : GlobOk W) :
    Calls Try.prog 3 #[v0, v1] W fun e W' => e = .returned (.bool true) ∧ Below W.heap.size W W' := by
  obtain ⟨s, rfl, hs⟩ := arg_string Try.underlying9 k0 h0
  obtain ⟨n, rfl, hn⟩ := arg_int Try.underlying5 k1 h1
  obtain ⟨c, rfl⟩ := u8_of n hn
  have hsl : s.data.toList.length ≤ maxLen := by rw [Array.length_toList]; exact hs
  rw [ba_of s]
  exact (classes_walk hg s.data.toList c hsl).mono fun e W' ⟨h1, h2⟩ => ⟨h1, h2.below_nil⟩
end Go.Proofs.Ytobmdpfljdnlaaa
