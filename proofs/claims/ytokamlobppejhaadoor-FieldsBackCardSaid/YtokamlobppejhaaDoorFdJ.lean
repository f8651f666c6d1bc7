/-
  A record's Join. No conditions on the program.
-/
import Derived.Test.YtokamlobppejhaaDoorFd1
namespace Go.Proofs.YtokamlobppejhaaDoor
open Go.RowKit
set_option linter.unusedVariables false
set_option linter.unusedSimpArgs false

theorem join_any {w : World} {r : Nat} {x : Rc} (h : RcM w r x) (s : List UInt8) : Calls Tryd.prog 14 #[.pointer (some ⟨r, 0, none⟩), .string ⟨s.toArray⟩] w fun e w' => e = .returned (.tuple #[]) ∧ RcM w' r { x with jn := s } ∧ Fr [r] w w' := by
  obtain ⟨v, h⟩ := h
  obtain ⟨-, -, -, d3, -, -⟩ := rc_cells h.1
  have f3 := h.1.frozen 3
  have H := Lib.hid h; clear h
  go_enter Tryd.func14, Tryd.ntmps14
  go_wp2_with fail
  go_end0
  have hf : Fr [r] w (w.setCell ⟨r, 3, none⟩ (.string ⟨s.toArray⟩)) := (Fr.refl _ _).setCell (.inl (by simp)) _
  exact ⟨rfl, ⟨v, H.out.fr_put hf (H.out.1.put 3 _) H.out.2⟩, hf⟩
end Go.Proofs.YtokamlobppejhaaDoor
