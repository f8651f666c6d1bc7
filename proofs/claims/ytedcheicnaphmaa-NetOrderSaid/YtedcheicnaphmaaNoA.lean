/-
  NetOrder's acts as they are read; few; lists of strings in a block. No conditions.
-/
import Derived.Test.YtedcheicnaphmaaNoP
import Derived.Test.YtedcheicnaphmaaWindows
namespace Go.Proofs.Ytedcheicnaphmaa
open Go.RowKit Go.ChangeShapes Go.WideShapes Go.ChangeAt Go.Deep
set_option linter.unusedVariables false
set_option linter.unusedSimpArgs false

/-- An act. -/
structure NA where
  k : Int
  c : Int
  N : Int
  s : List UInt8
  ek : Int
  ec : Int
  eN : Int
  bA : Option Addr
  bs : List UInt8
  bc : Nat
instance : Inhabited NA := ⟨⟨0, 0, 0, [], 0, 0, 0, none, [], 0⟩⟩
def NA.cells (a : NA) : List Value := [.int .i64 a.k, .int .i64 a.c, .int .i64 a.N, .string ⟨a.s.toArray⟩, .int .i64 a.ek, .int .i64 a.ec, .int .i64 a.eN, .slice a.bA a.bs.length a.bc]
def ActsN (w : World) (A : Option Addr) (n : Nat) (K : Nat → NA) : Prop :=
  ∀ i, i < n → ∃ b off, A = some ⟨b, off, none⟩ ∧ b < w.heap.size ∧ (∀ j, j < 8 → w.cell? ⟨b, off + i * 8 + j, none⟩ = (K i).cells[j]?) ∧ Bytes w (K i).bA (K i).bs ∧ (K i).bs.length ≤ maxLen ∧ (K i).s.length ≤ maxLen
theorem ActsN.fr {w w' : World} {A : Option Addr} {n : Nat} {K : Nat → NA} (h : ActsN w A n K) (hf : Fr [] w w') : ActsN w' A n K := by
  intro i hi
  obtain ⟨b, off, hA, hb, hc, hby, h1, h2⟩ := h i hi
  exact ⟨b, off, hA, Nat.lt_of_lt_of_le hb hf.size, fun j hj => by rw [hf.cell (p := ⟨b, off + i * 8 + j, none⟩) hb (by simp)]; exact hc j hj, hby.fr_nil hf, h1, h2⟩
/-- The cells of one act. -/
theorem ActsN.at_ {w : World} {A : Option Addr} {n : Nat} {K : Nat → NA} (h : ActsN w A n K) {i : Nat} (hi : i < n) : ∃ b off, A = some ⟨b, off, none⟩ ∧ b < w.heap.size ∧
    w.cell? ⟨b, off + i * 8, none⟩ = some (.int .i64 (K i).k) ∧ w.cell? ⟨b, off + i * 8 + 1, none⟩ = some (.int .i64 (K i).c) ∧ w.cell? ⟨b, off + i * 8 + 2, none⟩ = some (.int .i64 (K i).N) ∧ w.cell? ⟨b, off + i * 8 + 3, none⟩ = some (.string ⟨(K i).s.toArray⟩) ∧
    w.cell? ⟨b, off + i * 8 + 4, none⟩ = some (.int .i64 (K i).ek) ∧ w.cell? ⟨b, off + i * 8 + 5, none⟩ = some (.int .i64 (K i).ec) ∧ w.cell? ⟨b, off + i * 8 + 6, none⟩ = some (.int .i64 (K i).eN) ∧ w.cell? ⟨b, off + i * 8 + 7, none⟩ = some (.slice (K i).bA (K i).bs.length (K i).bc) ∧ Bytes w (K i).bA (K i).bs ∧ (K i).bs.length ≤ maxLen ∧ (K i).s.length ≤ maxLen := by
  obtain ⟨b, off, hA, hb, hc, hby, h1, h2⟩ := h i hi
  exact ⟨b, off, hA, hb, hc 0 (by omega), hc 1 (by omega), hc 2 (by omega), hc 3 (by omega), hc 4 (by omega), hc 5 (by omega), hc 6 (by omega), hc 7 (by omega), hby, h1, h2⟩
theorem actn_cells : Try.prog.cellsOf 49 = 8 := by kernel_rfl
theorem ev_cells : Try.prog.cellsOf 34 = 4 := by kernel_rfl
theorem int_c : Try.prog.cellsOf 3 = 1 := by kernel_rfl
theorem str_c : Try.prog.cellsOf 9 = 1 := by kernel_rfl
theorem bys_c : Try.prog.cellsOf 32 = 1 := by kernel_rfl
set_option maxRecDepth 100000 in
theorem actn_open {H : Type} {enc : TypeId × Value → H} {w : World} {base base' : Nat} {spare : Nat → Bool} {held : Bool} {r : Reach} {v : Value} {d : DataW H} {p : List MemPlace}
    (hv : Value.okWide Try.prog w r base' 45 v) (h : DataW.Trod enc Try.prog w base spare held 45 v d p) :
    ∃ (A : Option Addr) (n c : Nat) (K : Nat → NA), v = .slice A n c ∧ n ≤ maxLen ∧ ActsN w A n K := by
  obtain ⟨A, n, c, rfl, h1, h2, h3, hi⟩ := arg_slice Try.underlying45 (by rw [actn_cells]; omega) hv h
  rw [actn_cells] at hi
  have hx : ∀ i, i < n → ∃ x : NA, ∃ b off, A = some ⟨b, off, none⟩ ∧ b < w.heap.size ∧ (∀ j, j < 8 → w.cell? ⟨b, off + i * 8 + j, none⟩ = x.cells[j]?) ∧ Bytes w x.bA x.bs ∧ x.bs.length ≤ maxLen ∧ x.s.length ≤ maxLen := by
    intro i hil
    obtain ⟨b, off, es, hA, hb, hel, hcell, hrd⟩ := hi i hil
    obtain ⟨_, hf⟩ := hrd.struct_ Try.underlying49
    match es, hel with
    | [e0, e1, e2, e3, e4, e5, e6, e7], _ =>
      obtain ⟨k, hk, -⟩ := (hf 0 _ rfl).int_ Try.underlying3
      obtain ⟨c, hc, -⟩ := (hf 1 _ rfl).int_ Try.underlying3
      obtain ⟨N, hN, -⟩ := (hf 2 _ rfl).int_ Try.underlying3
      obtain ⟨s, hs, hsz⟩ := (hf 3 _ rfl).string_ Try.underlying9
      obtain ⟨-, hg⟩ := (hf 4 _ rfl).struct_ Try.underlying34
      obtain ⟨ek, hek, -⟩ := (hg 0 _ rfl).int_ Try.underlying3
      obtain ⟨ec, hec, -⟩ := (hg 1 _ rfl).int_ Try.underlying3
      obtain ⟨eN, heN, -⟩ := (hg 2 _ rfl).int_ Try.underlying3
      obtain ⟨bA, bc, bs, hbs, q1, q2, q3, q4⟩ := (hg 3 _ rfl).bytes_ Try.underlying32 Try.underlying5 u8c
      simp [int_c, str_c, ev_cells, bys_c] at hk hc hN hs hek hec heN hbs
      subst hk hc hN hs hek hec heN hbs
      refine ⟨⟨k, c, N, s.data.toList, ek, ec, eN, bA, bs, bc⟩, b, off, hA, hb, fun j hj => ?_, q4, Nat.le_trans q1 q2, hsz⟩
      have := hcell j hj
      unfold NA.cells
      rw [← ba_of]
      exact this
  obtain ⟨f, hf⟩ := choose_lt (α := NA) hx
  exact ⟨A, n, c, f, rfl, Nat.le_trans h1 h2, fun i h => hf i h⟩
def FewPost (w : World) (n : Nat) (K : Nat → NA) (e : Ending) (w' : World) : Prop := ∃ r : Bool, e = .returned (.bool r) ∧ w' = w ∧ (r = true → n ≤ 80 ∧ ∀ i, i < n → (K i).s.length ≤ 100 ∧ ((K i).bs.length ≤ 100 ∨ 4096 < (K i).bs.length))
set_option maxRecDepth 100000 in
set_option maxHeartbeats 1000000 in
theorem few_any {w : World} {A : Option Addr} {n c : Nat} {K : Nat → NA} (h : ActsN w A n K) (hn : n ≤ maxLen) :
    Calls Try.prog 15 #[.slice A n c] w (FewPost w n K) := by
  unfold maxLen at hn
  have HA := Lib.hid h; clear h
  by_cases h80 : 80 < n
  · go_enter Try.func15, Try.ntmps15
    go_wp2_with fail
    go_ret
    exact ⟨false, rfl, rfl, by simp⟩
  go_enter Try.func15, Try.ntmps15
  go_wp2_with fail
  go_loop [3] (fun v3 => ∃ k : Nat, v3 = .int .i64 (k : Int) ∧ k ≤ n ∧ ∀ i, i < k → (K i).s.length ≤ 100 ∧ ((K i).bs.length ≤ 100 ∨ 4096 < (K i).bs.length)) (fun v3 => n - (intOf v3).toNat)
  case atStart => exact ⟨0, rfl, by omega, by simp⟩
  case round =>
    obtain ⟨k, rfl, hk, hs⟩ := hrel
    by_cases hlt : k < n
    · obtain ⟨b, off, rfl, hb, -, -, -, c3, -, -, -, c7, -⟩ := HA.out.at_ hlt
      have HS := Lib.hid hs; clear hs
      have c3' : w.cell? ⟨b, off + (k * 8 + 3), none⟩ = some (.string ⟨(K k).s.toArray⟩) := c3
      have c7' : w.cell? ⟨b, off + (k * 8 + 4 + 3), none⟩ = some (.slice (K k).bA (K k).bs.length (K k).bc) := c7
      by_cases hl : 100 < (K k).s.length
      · go_wp2_with fail
        go_ret
        exact ⟨false, rfl, rfl, by simp⟩
      by_cases h1 : 100 < (K k).bs.length
      · by_cases h2 : (K k).bs.length ≤ 4096
        · have t1 : decide ((100 : Int) < ((K k).bs.length : Int)) = true := by simp; omega
          have t2 : decide (((K k).bs.length : Int) ≤ 4096) = true := by simp; omega
          go_wp2_with fail
          go_ret
          exact ⟨false, rfl, rfl, by simp⟩
        · have t1 : decide ((100 : Int) < ((K k).bs.length : Int)) = true := by simp; omega
          have t2 : decide (((K k).bs.length : Int) ≤ 4096) = false := by simp; omega
          go_wp2_with fail
          go_round
          case rel => exact ⟨k + 1, by go_num, by omega, fun i hi => by
            rcases Nat.lt_or_ge i k with h | h
            · exact HS.out i h
            · obtain rfl : i = k := by omega
              omega⟩
          case measure => first | (simp [intOf]; done) | (simp [intOf]; omega)
      · have t1 : decide ((100 : Int) < ((K k).bs.length : Int)) = false := by simp; omega
        go_wp2_with fail
        go_round
        case rel => exact ⟨k + 1, by go_num, by omega, fun i hi => by
          rcases Nat.lt_or_ge i k with h | h
          · exact HS.out i h
          · obtain rfl : i = k := by omega
            omega⟩
        case measure => first | (simp [intOf]; done) | (simp [intOf]; omega)
    · obtain rfl : k = n := by omega
      have HS := Lib.hid hs; clear hs
      go_wp2_with fail
      go_ret
      exact ⟨true, rfl, rfl, fun _ => ⟨by omega, HS.out⟩⟩

/-- A block of strings. -/
def strVals (l : List (List UInt8)) : List Value := l.map fun b => .string ⟨b.toArray⟩
theorem strVals_length (l : List (List UInt8)) : (strVals l).length = l.length := by simp [strVals]
def Strs (w : World) (g : Nat) (l : List (List UInt8)) : Prop := Bk w g 9 (strVals l).toArray
theorem Strs.cell {w : World} {g : Nat} {l : List (List UInt8)} (h : Strs w g l) {j : Nat} (hj : j < l.length) : w.cell? ⟨g, j, none⟩ = some (.string ⟨(l.getD j []).toArray⟩) := by
  refine h.cell_ ?_
  simp [strVals, hj]
theorem Strs.put {w : World} {g : Nat} {l : List (List UInt8)} (h : Strs w g l) (j : Nat) (x : List UInt8) : Strs (w.setCell ⟨g, j, none⟩ (.string ⟨x.toArray⟩)) g (l.set j x) := by
  have := Bk.put h j (.string ⟨x.toArray⟩)
  unfold Strs
  have e : (strVals (l.set j x)).toArray = (strVals l).toArray.setIfInBounds j (.string ⟨x.toArray⟩) := by simp [strVals, List.map_set]
  rw [e]; exact this
theorem Strs.nfr {w w' : World} {B g : Nat} {l : List (List UInt8)} (h : Strs w g l) (hf : NFr B w w') : Strs w' g l := hf.bk h (by decide) (by decide) (by decide) (by decide)
end Go.Proofs.Ytedcheicnaphmaa
