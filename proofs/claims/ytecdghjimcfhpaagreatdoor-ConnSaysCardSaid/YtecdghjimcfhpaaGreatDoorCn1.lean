/-
  A connection in memory; its small functions. No conditions on the program.
-/
import Derived.Test.YtecdghjimcfhpaaGreatDoorRcW
import Derived.Test.YtecdghjimcfhpaaGreatDoorCnQ
namespace Go.Proofs.YtecdghjimcfhpaaGreatDoor
open Go.RowKit
set_option linter.unusedVariables false
set_option linter.unusedSimpArgs false

def cnCells (q r : Nat) (st last idle : Int) : Array Value := #[.pointer (some ⟨q, 0, none⟩), .pointer (some ⟨r, 0, none⟩), .int .i64 st, .int .i64 last, .int .i64 idle]
/-- A connection at block g: its queue at q with these cells, its cutter at r; all of its blocks from B on. -/
def Cn (w : World) (B g q r : Nat) (x : Cu) (Q : Array Value) (st last idle : Int) : Prop :=
  Bk w g 54 (cnCells q r st last idle) ∧ Bk w q 59 Q ∧ B ≤ g ∧ B ≤ q ∧ CuB w B r x
theorem Cn.fr_nil {w w' : World} {B g q r : Nat} {x : Cu} {Q : Array Value} {st last idle : Int} (h : Cn w B g q r x Q st last idle) (hf : Fr [] w w') : Cn w' B g q r x Q st last idle :=
  ⟨h.1.fr hf (by simp), h.2.1.fr hf (by simp), h.2.2.1, h.2.2.2.1, h.2.2.2.2.fr_nil hf⟩
theorem cn_cells {w : World} {g q r : Nat} {st last idle : Int} (h : Bk w g 54 (cnCells q r st last idle)) :
    w.cell? ⟨g, 0, none⟩ = some (.pointer (some ⟨q, 0, none⟩)) ∧ w.cell? ⟨g, 1, none⟩ = some (.pointer (some ⟨r, 0, none⟩)) ∧ w.cell? ⟨g, 2, none⟩ = some (.int .i64 st) ∧ w.cell? ⟨g, 3, none⟩ = some (.int .i64 last) ∧ w.cell? ⟨g, 4, none⟩ = some (.int .i64 idle) :=
  ⟨h.cell_ rfl, h.cell_ rfl, h.cell_ rfl, h.cell_ rfl, h.cell_ rfl⟩
/-- An act on the cutter. -/
theorem Cn.cut {w w' : World} {B g q r : Nat} {x y : Cu} {Q : Array Value} {st last idle : Int} {v : Value} (h : Cn w B g q r x Q st last idle) (hB : B ≤ w.heap.size) (hv : CuR w r x v) (hv2 : ∀ k, v.ownBlock = some k → B ≤ k) (ht : CuTo w r v w' y) : Cn w' B g q r y Q st last idle ∧ Below B w w' := by
  obtain ⟨h1, h2, h3, h4, v0, h5, h6, h7⟩ := h
  obtain ⟨k1, k2⟩ := CuB.to h6 hv2 hB ht
  obtain ⟨v', t1, t2, t3⟩ := ht
  have n1 : g ∉ r :: v.ownBlock.toList := by
    intro hm
    rcases List.mem_cons.1 hm with e | hm
    · exact h1.ne_ hv.1 (by decide) e
    · exact Own.ne_bk hv.2 h1 (by decide) (by simpa using hm)
  have n2 : q ∉ r :: v.ownBlock.toList := by
    intro hm
    rcases List.mem_cons.1 hm with e | hm
    · exact h2.ne_ hv.1 (by decide) e
    · exact Own.ne_bk hv.2 h2 (by decide) (by simpa using hm)
  exact ⟨⟨h1.fr t2 n1, h2.fr t2 n2, h3, h4, k1⟩, k2⟩
/-- An act on the connection's own block. -/
theorem Cn.put {w w' : World} {B g q r : Nat} {x : Cu} {Q : Array Value} {st last idle st' last' idle' : Int} (h : Cn w B g q r x Q st last idle) (hB : B ≤ w.heap.size) (hf : Fr [g] w w') (hb : Bk w' g 54 (cnCells q r st' last' idle')) : Cn w' B g q r x Q st' last' idle' ∧ Below B w w' := by
  obtain ⟨h1, h2, h3, h4, v, h5, h6, h7⟩ := h
  have n2 : q ∉ [g] := by simpa using h2.ne_ h1 (by decide)
  have n3 : r ∉ [g] := by simpa using h5.1.ne_ h1 (by decide)
  refine ⟨⟨hb, h2.fr hf n2, h3, h4, v, ⟨h5.1.fr hf n3, Own.fr h5.2 hf (fun k hk => ?_)⟩, h6, h7⟩, hf.below_at hB (by simpa using h3)⟩
  have := Own.ne_bk h5.2 h1 (by decide)
  simp; rintro rfl; exact this hk
theorem inTime_ok {n : Int} (h : 0 ≤ n ∧ n ≤ 1099511627776) (w : World) : Calls Tryz.prog 20 #[.int .i64 n] w fun e w' => e = .returned (.bool true) ∧ w = w' := by
  have t0 : decide (0 ≤ n) = true := decide_eq_true h.1
  have t1 : decide (n ≤ 1099511627776) = true := decide_eq_true h.2
  go_enter Tryz.func20, Tryz.ntmps20
  go_wp2_with fail
  go_ret
  exact ⟨rfl, rfl⟩
theorem state_any {w : World} {B g q r : Nat} {x : Cu} {Q : Array Value} {st last idle : Int} (h : Cn w B g q r x Q st last idle) : Calls Tryz.prog 11 #[.pointer (some ⟨g, 0, none⟩)] w fun e w' => e = .returned (.int .i64 st) ∧ w = w' := by
  obtain ⟨-, -, c2, -, -⟩ := cn_cells h.1
  clear h
  go_enter Tryz.func11, Tryz.ntmps11
  go_wp2_with fail
  go_ret
  exact ⟨rfl, rfl⟩
theorem finish_low {w : World} {B g q r : Nat} {x : Cu} {Q : Array Value} {st last idle : Int} (h : Cn w B g q r x Q st last idle) (hB : B ≤ w.heap.size) (hs : st < 2) : Calls Tryz.prog 9 #[.pointer (some ⟨g, 0, none⟩)] w fun e w' => e = .returned (.tuple #[]) ∧ Cn w' B g q r x Q 2 last idle ∧ Below B w w' := by
  obtain ⟨-, -, c2, -, -⟩ := cn_cells h.1
  have f2 := h.1.frozen 2
  have H := Lib.hid h; clear h
  have t0 : decide (st < 2) = true := decide_eq_true hs
  go_enter Tryz.func9, Tryz.ntmps9
  go_wp2_with fail
  go_end0
  have hf : Fr [g] w (w.setCell ⟨g, 2, none⟩ (.int .i64 2)) := (Fr.refl _ _).setCell (.inl (by simp)) _
  exact ⟨rfl, H.out.put hB hf (H.out.1.put 2 _)⟩
/-- A queue in which nothing lies. -/
def Q0 (lo hi room : Int) : Array Value := Q.qCells lo hi room none 0 0 false 0 0
theorem q0_que {w : World} {q : Nat} {lo hi room : Int} (h : Bk w q 59 (Q0 lo hi room)) : Q.Que w q lo hi room [] false 0 0 := ⟨none, 0, h, .inl rfl, by simp, by simp, fun _ => rfl, by simp⟩
set_option maxRecDepth 100000 in
theorem shut_two {w : World} {B g q r : Nat} {x : Cu} {lo hi room : Int} {last idle : Int} (h : Cn w B g q r x (Q0 lo hi room) 2 last idle) (hB : B ≤ w.heap.size) : Calls Tryz.prog 10 #[.pointer (some ⟨g, 0, none⟩)] w fun e w' => e = .returned (.tuple #[]) ∧ Cn w' B g q r x (Q0 lo hi room) 3 last idle ∧ Below B w w' := by
  obtain ⟨c0, -, c2, -, -⟩ := cn_cells h.1
  have f2 := h.1.frozen 2
  have HQ := Lib.hid (q0_que h.2.1)
  have H := Lib.hid h; clear h
  have hd : Calls Tryz.prog 25 #[.pointer (some ⟨g, 0, none⟩)] w fun e w' => e = .returned (.bool true) ∧ w = w' := by
    clear f2 H hB
    go_enter Tryz.func25, Tryz.ntmps25
    go_wp2_with fail
    go_at_call 30
    refine (Q.held_any HQ.out).mono ?_
    rintro e w2 ⟨rfl, rfl⟩
    go_wp2_with fail
    go_ret
    exact ⟨rfl, rfl⟩
  have HD := Lib.hid hd
  clear hd
  go_enter Tryz.func10, Tryz.ntmps10
  go_wp2_with fail
  go_at_call 25
  refine HD.out.mono ?_
  rintro e w2 ⟨rfl, rfl⟩
  go_wp2_with fail
  go_end0
  have hf : Fr [g] w (w.setCell ⟨g, 2, none⟩ (.int .i64 3)) := (Fr.refl _ _).setCell (.inl (by simp)) _
  exact ⟨rfl, H.out.put hB hf (H.out.1.put 2 _)⟩
end Go.Proofs.YtecdghjimcfhpaaGreatDoor
