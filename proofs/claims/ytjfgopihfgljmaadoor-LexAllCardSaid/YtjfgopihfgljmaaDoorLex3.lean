/-
  The lexer's operand. No conditions on the program.
-/
import Derived.Test.YtjfgopihfgljmaaDoorLex2
import Derived.Laws.AppendOwn
import Derived.Maps.AppendAt
namespace Go.Proofs.YtjfgopihfgljmaaDoor
open Go.RowKit
set_option linter.unusedVariables false
set_option linter.unusedSimpArgs false

/-- The list of tokens that the slice holds. -/
def Toks (w : World) (L : Value) (ts : List Tk) : Prop := w.ownsRow 0 43 6 L ts.length (ts.flatMap Tk.cells)
def lastOp (ts : List Tk) : Bool := match ts.getLast? with
  | none => true
  | some t => operM t.k t.s
theorem flat_len (ts : List Tk) : (ts.flatMap Tk.cells).length = ts.length * 6 := by
  induction ts with
  | nil => rfl
  | cons t r ih => rw [List.flatMap_cons, List.length_append, ih, List.length_cons, Nat.add_mul]; simp [Tk.cells]; omega
theorem flat_get (ts : List Tk) (t : Tk) (j : Nat) (hj : j < 6) : ((ts ++ [t]).flatMap Tk.cells)[ts.length * 6 + j]? = (Tk.cells t)[j]? := by
  rw [List.flatMap_append, List.getElem?_append_right (by rw [flat_len]; omega), flat_len]
  simp [show ts.length * 6 + j - ts.length * 6 = j by omega]
set_option maxRecDepth 100000 in
set_option maxHeartbeats 4000000 in
theorem operand_any {w : World} {g : Nat} {A : Option Addr} {c : Nat} {src : List UInt8} {i : Nat} {L : Value} (h : Rdr w g A c src i L) (ts : List Tk) (hL : Toks w L ts) (hk : ∀ t ∈ ts, t.k ≤ 9) :
    Calls Tryd.prog 32 #[.pointer (some ⟨g, 0, none⟩)] w fun e w' => e = .returned (.bool (lastOp ts)) ∧ Fr [] w w' := by
  obtain ⟨-, -, c2, -⟩ := h.cells
  rcases List.eq_nil_or_concat ts with rfl | ⟨ts', t, rfl⟩
  · obtain ⟨h1, ⟨rfl, -⟩ | ⟨b, cap, cur, rfl, -, hb, h3, h4, h5, h6⟩⟩ := hL
    all_goals
      clear h
      go_enter Tryd.func32, Tryd.ntmps32
      go_wp2_with fail
      go_ret
      exact ⟨rfl, Fr.refl _ _⟩
  · obtain ⟨h1, ⟨-, h2⟩ | ⟨b, cap, cur, rfl, -, hb, h3, h4, h5, h6⟩⟩ := hL
    · simp at h2
    have hlast : lastOp (ts' ++ [t]) = operM t.k t.s := by unfold lastOp; rw [List.getLast?_append]; rfl
    rw [List.concat_eq_append] at *
    rw [hlast]
    have hcell : ∀ j v, (Tk.cells t)[j]? = some v → w.cell? ⟨b, ts'.length * 6 + j, none⟩ = some v := by
      intro j v hv
      have hj : j < 6 := by
        have := (List.getElem?_eq_some_iff.1 hv).1
        simpa [Tk.cells] using this
      rw [cell_of_row w b _ cur 43 (0, 0) hb]
      have e := flat_get ts' t j hj
      rw [← h6, List.getElem?_take, if_pos (by simp [flat_len]; omega)] at e
      rw [← hv, ← e]; simp
    have d0 := hcell 0 _ rfl; rw [Nat.add_zero] at d0; have d1 := hcell 1 _ rfl; have d2 := hcell 2 _ rfl; have d3 := hcell 3 _ rfl; have d4 := hcell 4 _ rfl; have d5 := hcell 5 _ rfl
    have hlen : (ts' ++ [t]).length = ts'.length + 1 := by simp
    rw [hlen] at c2 h3
    have hkk := hk t (by simp)
    have hgl := h.blk.lt
    have hbl : b < w.heap.size := (Bk.lt (g := b) (t := 43) (cs := cur) hb)
    generalize ts'.length = m at *
    clear h h1 h6 hcell hb hk hlast hlen h5
    unfold maxLen at h4
    have hwr : IntKind.i64.wrap (m : Int) = (m : Int) := by rw [IntKind.wrap_i64]; omega
    obtain ⟨kd, tp, l, tv⟩ := t
    dsimp only at *
    have hz : ((m : Int) + 1 == 0) = false := by simp; omega
    have fin : ∀ cs : Array Value, Fr [] w ((w.alloc (.cells cs 43)).drew) := fun cs => ((Fr.refl [] w).alloc _).drew
    have FIN := Lib.hid fin; clear fin
    by_cases k1 : kd = 1
    · subst k1
      go_enter Tryd.func32, Tryd.ntmps32
      go_wp2_with fail
      go_region
      go_wp2_with fail
      go_ret
      exact ⟨by simp [operM], FIN.out _⟩
    have g1 : ((kd : Int) == 1) = false := by simp; omega
    by_cases k7 : kd = 7
    · subst k7
      go_enter Tryd.func32, Tryd.ntmps32
      go_wp2_with fail
      go_region
      go_wp2_with fail
      go_ret
      exact ⟨by simp [operM], FIN.out _⟩
    have g7 : ((kd : Int) == 7) = false := by simp; omega
    by_cases k9 : kd = 9
    · subst k9
      have ho : operM 9 l = (l != [41] && l != [93] && l != [43, 43] && l != [45, 45]) := by simp [operM]
      rw [ho]
      by_cases l1 : l = [41]
      · subst l1
        go_enter Tryd.func32, Tryd.ntmps32
        go_wp2_with fail
        go_region
        go_wp2_with fail
        go_ret
        exact ⟨by simp, FIN.out _⟩
      by_cases l2 : l = [93]
      · subst l2
        go_enter Tryd.func32, Tryd.ntmps32
        go_wp2_with fail
        go_region
        go_wp2_with fail
        go_ret
        exact ⟨by simp, FIN.out _⟩
      by_cases l3 : l = [43, 43]
      · subst l3
        go_enter Tryd.func32, Tryd.ntmps32
        go_wp2_with fail
        go_region
        go_wp2_with fail
        go_ret
        exact ⟨by simp, FIN.out _⟩
      have hb : (l != [41] && l != [93] && l != [43, 43] && l != [45, 45]) = (l != [45, 45]) := by simp [l1, l2, l3]
      rw [hb]
      have m1 : (l == [41]) = false := by simpa using l1
      have m2 : (l == [93]) = false := by simpa using l2
      have m3 : (l == [43, 43]) = false := by simpa using l3
      clear ho hb l1 l2 l3
      go_enter Tryd.func32, Tryd.ntmps32
      go_wp2_with fail
      go_region
      go_wp2_with fail
      go_ret
      exact ⟨by simp [bne], FIN.out _⟩
    · have g9 : ((kd : Int) == 9) = false := by simp; omega
      have ho : operM kd l = false := by simp [operM, k1, k7, k9]
      rw [ho]
      clear ho k1 k7 k9
      go_enter Tryd.func32, Tryd.ntmps32
      go_wp2_with fail
      go_region
      go_wp2_with fail
      go_ret
      exact ⟨rfl, FIN.out _⟩
end Go.Proofs.YtjfgopihfgljmaaDoor
