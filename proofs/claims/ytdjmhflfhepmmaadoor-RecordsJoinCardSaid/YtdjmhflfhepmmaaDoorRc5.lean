/-
  records.Split at one byte. No conditions on the program.
-/
import Derived.Test.YtdjmhflfhepmmaaDoorRc1
import Derived.Test.YtdjmhflfhepmmaaDoorRc3
namespace Go.Proofs.YtdjmhflfhepmmaaDoor
open Go.RowKit
set_option linter.unusedVariables false
set_option linter.unusedSimpArgs false

def strVals (l : List (List UInt8)) : List Value := l.map fun b => .string ⟨b.toArray⟩
theorem strVals_length (l : List (List UInt8)) : (strVals l).length = l.length := by simp [strVals]
theorem strVals_append (a b : List (List UInt8)) : strVals (a ++ b) = strVals a ++ strVals b := by simp [strVals]
theorem strVals_get (l : List (List UInt8)) {j : Nat} (h : j < l.length) : (strVals l)[j]? = some (.string ⟨(l.getD j []).toArray⟩) := by simp [strVals, h]
theorem strVals_one (l : List (List UInt8)) : ∀ u ∈ strVals l, u.oneCell' = true := by
  intro u hu
  obtain ⟨b, _, rfl⟩ := List.mem_map.1 hu
  rfl
def OwnL (w : World) (v : Value) (l : List (List UInt8)) : Prop := Own w 9 v (strVals l)
theorem OwnL.val {w : World} {v : Value} {l : List (List UInt8)} (h : OwnL w v l) : ∃ A cap, v = .slice A l.length cap ∧ l.length ≤ cap ∧ cap ≤ maxLen ∧ At w A (strVals l) ∧ (A = none → cap = 0) := by
  obtain ⟨A, cap, rfl, h1, h2, h3, h4, -⟩ := Own.at_ h
  rw [strVals_length] at h2
  exact ⟨A, cap, by rw [strVals_length], h2, h3, h1, h4⟩
theorem OwnL.cell {w : World} {A : Option Addr} {n c : Nat} {l : List (List UInt8)} (h : OwnL w (.slice A n c) l) {j : Nat} (hj : j < l.length) : ∃ b off, A = some ⟨b, off, none⟩ ∧ w.cell? ⟨b, off + j, none⟩ = some (.string ⟨(l.getD j []).toArray⟩) := by
  obtain ⟨A', cap, hv, h1, h2, h3⟩ := h
  injection hv with e1 e2 e3
  subst e1
  rcases h3 with ⟨rfl, h3⟩ | ⟨g, off, cur, rfl, hg, h4, h5⟩
  · rw [strVals_length] at h1; omega
  · refine ⟨g, off, rfl, ?_⟩
    have hb : Bk w g 9 cur := hg
    rw [hb.cell]
    have := strVals_get l hj
    rw [← h5, strVals_length, List.getElem?_take, if_pos hj, List.getElem?_drop] at this
    simpa using this
theorem strParts : ∃ i, Tryd.prog.info? 9 = some i ∧ i.zero = some (.string ByteArray.empty) ∧ i.size = 1 ∧ i.bytes = 16 := info_parts (by kernel_rfl)
theorem one_str (w : World) (x : Value) : At (w.alloc (.cells #[x] 9)) (some ⟨w.heap.size, 0, none⟩) [x] :=
  At.of_bk (n := 1) (xs := [x]) (Bk.new w 9 #[x]) (by simp)
theorem fst_rec {c : UInt8} {bs : List UInt8} {a b : Nat} (he : fstM c bs true = (a, b, true)) : recM c bs = bs.take a :: recM c (bs.drop b) ∧ b ≠ 0 := by
  by_cases h : c ∈ bs
  · obtain ⟨x, y, rfl, h2⟩ := cut1 c bs h
    rw [fst_hit c x y h2] at he
    injection he with e1 e2
    injection e2 with e2 e3
    subst e1 e2
    have hd : (x ++ c :: y).drop (x.length + 1) = y := by rw [← List.drop_drop, List.drop_left]; rfl
    rw [hd, List.take_left]
    exact ⟨recM_hit c x y h2, by omega⟩
  · rw [fst_miss c bs h] at he
    split at he
    · rename_i hc
      injection he with e1 e2
      injection e2 with e2 e3
      subst e1 e2
      rw [recM_miss c bs h, if_neg hc.2, List.take_of_length_le (Nat.le_refl _), List.drop_of_length_le (Nat.le_refl _)]
      exact ⟨rfl, fun e => hc.2 (List.eq_nil_of_length_eq_zero e)⟩
    · injection he with e1 e2
      injection e2 with e2 e3
      cases e3
theorem fst_rec_no {c : UInt8} {bs : List UInt8} {a b : Nat} (he : fstM c bs true = (a, b, false)) : recM c bs = [] ∧ a = 0 ∧ b = 0 := by
  by_cases h : c ∈ bs
  · obtain ⟨x, y, rfl, h2⟩ := cut1 c bs h
    rw [fst_hit c x y h2] at he
    injection he with e1 e2
    injection e2 with e2 e3
    cases e3
  · rw [fst_miss c bs h] at he
    split at he
    · injection he with e1 e2
      injection e2 with e2 e3
      cases e3
    · rename_i hc
      injection he with e1 e2
      injection e2 with e2 e3
      have : bs = [] := by
        cases bs with
        | nil => rfl
        | cons x r => exact absurd ⟨rfl, by simp⟩ hc
      subst this
      exact ⟨rfl, e1.symm, e2.symm⟩
/-- Where Split's loop stands: what is left, and the records so far. -/
def SplR (w0 : World) (c : UInt8) (all : List (List UInt8)) (v1 v8 : Value) (wr : World) : Prop :=
  ∃ (A : Option Addr) (bs : List UInt8) (cp : Nat) (l : List (List UInt8)), v1 = .slice A bs.length cp ∧ Bytes w0 A bs ∧ (A = none → cp = 0) ∧ bs.length ≤ cp ∧ OwnL wr v8 l ∧ (∀ g, v8.ownBlock = some g → w0.heap.size < g) ∧
    Fr [] w0 wr ∧ wr.cell? ⟨w0.heap.size, 0, none⟩ = some (.int .i64 0) ∧ wr.cell? ⟨w0.heap.size, 1, none⟩ = some (.int .u8 (c.toNat : Int)) ∧ l ++ recM c bs = all ∧ bs.length + l.length ≤ 100000 ∧ w0.heap.size < wr.heap.size
end Go.Proofs.YtdjmhflfhepmmaaDoor
