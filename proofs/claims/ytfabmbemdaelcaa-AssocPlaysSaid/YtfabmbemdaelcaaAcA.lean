/-
  Cells and acts as they are read; few. No conditions.
-/
import Derived.Test.YtfabmbemdaelcaaAcL
import Derived.Test.YtfabmbemdaelcaaRead
namespace Go.Proofs.Ytfabmbemdaelcaa.C
open Go.ChangeShapes Go.WideShapes Go.ChangeAt Go.RowKit Go.Deep Go.Maps
set_option linter.unusedVariables false
set_option linter.unusedSimpArgs false

instance : Inhabited CV := ⟨CV.zero⟩
theorem cell_cells : Try.prog.cellsOf 41 = 5 := by kernel_rfl
theorem dec_cells : Try.prog.cellsOf 39 = 3 := by kernel_rfl
theorem actc_cells : Try.prog.cellsOf 49 = 7 := by kernel_rfl
theorem int_c : Try.prog.cellsOf 3 = 1 := by kernel_rfl
theorem str_c : Try.prog.cellsOf 9 = 1 := by kernel_rfl
theorem bool_c : Try.prog.cellsOf 4 = 1 := by kernel_rfl
theorem u64_c : Try.prog.cellsOf 37 = 1 := by kernel_rfl
theorem rd_cell {H : Type} {enc : TypeId × Value → H} {w : World} {base : Nat} {spare : Nat → Bool} {held : Bool} {cs : List Value}
    (h : Rd enc Try.prog w base spare held 41 cs) : ∃ v : CV, cs = v.cells := by
  obtain ⟨hl, hf⟩ := h.struct_ Try.underlying41
  rw [cell_cells] at hl
  match cs, hl with
  | [e0, e1, e2, e3, e4], _ =>
    obtain ⟨k, hk, -⟩ := (hf 0 _ rfl).int_ Try.underlying3
    obtain ⟨s, hs, -⟩ := (hf 1 _ rfl).string_ Try.underlying9
    obtain ⟨-, hg⟩ := (hf 2 _ rfl).struct_ Try.underlying39
    obtain ⟨n, hn⟩ := (hg 0 _ rfl).bool_ Try.underlying4
    obtain ⟨a, ha, -⟩ := (hg 1 _ rfl).int_ Try.underlying37
    obtain ⟨b, hb, -⟩ := (hg 2 _ rfl).int_ Try.underlying37
    simp [int_c, str_c, bool_c, u64_c, dec_cells] at hk hs hn ha hb
    subst hk hs hn ha hb
    exact ⟨⟨k, s.data.toList, n, a, b⟩, by unfold CV.cells; rw [← ba_of]⟩
theorem arg_cell {H : Type} {enc : TypeId × Value → H} {w : World} {base base' : Nat} {spare : Nat → Bool} {held : Bool} {r : Reach} {v : Value} {d : DataW H} {p : List MemPlace}
    (hv : Value.okWide Try.prog w r base' 41 v) (h : DataW.Trod enc Try.prog w base spare held 41 v d p) : ∃ s : CV, v = s.val := by
  unfold Value.okWide at hv
  rw [Try.underlying41] at hv
  obtain ⟨cs, rfl, hsz, -⟩ := hv
  obtain ⟨s, hs⟩ := rd_cell (Rd.of_trod h)
  have e : (Value.agg cs).cells.toList = cs.toList := rfl
  rw [e] at hs
  refine ⟨s, ?_⟩
  unfold CV.val
  have : cs = s.cells.toArray := by rw [← hs]
  rw [this]; rfl
/-- The acts at A: their kinds, keys, values. -/
def ActsC (w : World) (A : Option Addr) (n : Nat) (K : Nat → Int) (S : Nat → List UInt8) (V : Nat → CV) : Prop :=
  ∀ i, i < n → ∃ b off, A = some ⟨b, off, none⟩ ∧ b < w.heap.size ∧ w.cell? ⟨b, off + i * 7, none⟩ = some (.int .i64 (K i)) ∧ w.cell? ⟨b, off + i * 7 + 1, none⟩ = some (.string ⟨(S i).toArray⟩) ∧
    w.cell? ⟨b, off + i * 7 + 2, none⟩ = some (.int .i64 (V i).k) ∧ w.cell? ⟨b, off + i * 7 + 3, none⟩ = some (.string ⟨(V i).s.toArray⟩) ∧ w.cell? ⟨b, off + i * 7 + 4, none⟩ = some (.bool (V i).n) ∧
    w.cell? ⟨b, off + i * 7 + 5, none⟩ = some (.int .u64 (V i).h) ∧ w.cell? ⟨b, off + i * 7 + 6, none⟩ = some (.int .u64 (V i).l)
theorem ActsC.fr {w w' : World} {A : Option Addr} {n : Nat} {K : Nat → Int} {S : Nat → List UInt8} {V : Nat → CV} (h : ActsC w A n K S V) (hf : Fr [] w w') : ActsC w' A n K S V := by
  intro i hi
  obtain ⟨b, off, hA, hb, c0, c1, c2, c3, c4, c5, c6⟩ := h i hi
  have g : ∀ x, w'.cell? ⟨b, x, none⟩ = w.cell? ⟨b, x, none⟩ := fun x => hf.cell (p := ⟨b, x, none⟩) hb (by simp)
  exact ⟨b, off, hA, Nat.lt_of_lt_of_le hb hf.size, by rw [g]; exact c0, by rw [g]; exact c1, by rw [g]; exact c2, by rw [g]; exact c3, by rw [g]; exact c4, by rw [g]; exact c5, by rw [g]; exact c6⟩
theorem actc_open {H : Type} {enc : TypeId × Value → H} {w : World} {base base' : Nat} {spare : Nat → Bool} {held : Bool} {r : Reach} {v : Value} {d : DataW H} {p : List MemPlace}
    (hv : Value.okWide Try.prog w r base' 36 v) (h : DataW.Trod enc Try.prog w base spare held 36 v d p) :
    ∃ (A : Option Addr) (n c : Nat) (K : Nat → Int) (S : Nat → List UInt8) (V : Nat → CV), v = .slice A n c ∧ n ≤ maxLen ∧ ActsC w A n K S V := by
  obtain ⟨A, n, c, rfl, h1, h2, h3, hi⟩ := arg_slice Try.underlying36 (by rw [actc_cells]; omega) hv h
  rw [actc_cells] at hi
  have hx : ∀ i, i < n → ∃ x : Int × List UInt8 × CV, ∃ b off, A = some ⟨b, off, none⟩ ∧ b < w.heap.size ∧ w.cell? ⟨b, off + i * 7, none⟩ = some (.int .i64 x.1) ∧ w.cell? ⟨b, off + i * 7 + 1, none⟩ = some (.string ⟨x.2.1.toArray⟩) ∧
      w.cell? ⟨b, off + i * 7 + 2, none⟩ = some (.int .i64 x.2.2.k) ∧ w.cell? ⟨b, off + i * 7 + 3, none⟩ = some (.string ⟨x.2.2.s.toArray⟩) ∧ w.cell? ⟨b, off + i * 7 + 4, none⟩ = some (.bool x.2.2.n) ∧
      w.cell? ⟨b, off + i * 7 + 5, none⟩ = some (.int .u64 x.2.2.h) ∧ w.cell? ⟨b, off + i * 7 + 6, none⟩ = some (.int .u64 x.2.2.l) := by
    intro i hil
    obtain ⟨b, off, es, hA, hb, hel, hcell, hrd⟩ := hi i hil
    obtain ⟨_, hf⟩ := hrd.struct_ Try.underlying49
    match es, hel with
    | [e0, e1, e2, e3, e4, e5, e6], _ =>
      obtain ⟨k, hk, -⟩ := (hf 0 _ rfl).int_ Try.underlying3
      obtain ⟨s, hs, -⟩ := (hf 1 _ rfl).string_ Try.underlying9
      obtain ⟨v, hv⟩ := rd_cell (hf 2 _ rfl)
      simp [int_c, str_c, cell_cells, CV.cells] at hk hs hv
      obtain ⟨v0, v1, v2, v3, v4⟩ := hv
      subst hk hs v0 v1 v2 v3 v4
      refine ⟨(k, s.data.toList, v), b, off, hA, hb, hcell 0 (by omega), ?_, hcell 2 (by omega), hcell 3 (by omega), hcell 4 (by omega), hcell 5 (by omega), hcell 6 (by omega)⟩
      rw [← ba_of]; exact hcell 1 (by omega)
  obtain ⟨f, hf⟩ := choose_lt (α := Int × List UInt8 × CV) hx
  exact ⟨A, n, c, fun i => (f i).1, fun i => (f i).2.1, fun i => (f i).2.2, rfl, Nat.le_trans h1 h2, fun i h => hf i h⟩
def FewPost (w : World) (n : Nat) (S : Nat → List UInt8) (e : Ending) (w' : World) : Prop := ∃ r : Bool, e = .returned (.bool r) ∧ w' = w ∧ (r = true → n ≤ 60 ∧ ∀ i, i < n → (S i).length ≤ 60)
set_option maxRecDepth 100000 in
theorem few_any {w : World} {A : Option Addr} {n c : Nat} {K : Nat → Int} {S : Nat → List UInt8} {V : Nat → CV} (h : ActsC w A n K S V) (hn : n ≤ maxLen) :
    Calls Try.prog 13 #[.slice A n c] w (FewPost w n S) := by
  unfold maxLen at hn
  have HA := Lib.hid h; clear h
  by_cases h60 : 60 < n
  · go_enter Try.func13, Try.ntmps13
    go_wp2_with fail
    go_ret
    exact ⟨false, rfl, rfl, by simp⟩
  go_enter Try.func13, Try.ntmps13
  go_wp2_with fail
  go_loop [3] (fun v3 => ∃ k : Nat, v3 = .int .i64 (k : Int) ∧ k ≤ n ∧ ∀ i, i < k → (S i).length ≤ 60) (fun v3 => n - (intOf v3).toNat)
  case atStart => exact ⟨0, rfl, by omega, by simp⟩
  case round =>
    obtain ⟨k, rfl, hk, hs⟩ := hrel
    by_cases hlt : k < n
    · obtain ⟨b, off, rfl, hb, c0, c1, -⟩ := HA.out k hlt
      have HS := Lib.hid hs; clear hs
      by_cases hl : 60 < (S k).length
      · go_wp2_with fail
        go_ret
        exact ⟨false, rfl, rfl, by simp⟩
      · go_wp2_with fail
        go_round
        case rel => exact ⟨k + 1, by go_num, by omega, fun i hi => by
          rcases Nat.lt_or_ge i k with h | h
          · exact HS.out i h
          · obtain rfl : i = k := by omega
            omega⟩
        case measure => first | (simp [intOf]; done) | (simp [intOf]; omega)
    · obtain rfl : k = n := by omega
      have HS := Lib.hid hs; clear hs
      go_wp2_with fail
      go_ret
      exact ⟨true, rfl, rfl, fun _ => ⟨by omega, HS.out⟩⟩
end Go.Proofs.Ytfabmbemdaelcaa.C
