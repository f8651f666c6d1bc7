/-
  What is read has no long lists; one part equals itself, wherever it lies. No conditions.
-/
import Derived.Test.YtmecogilhoebgaaErO
import Derived.Test.YtmecogilhoebgaaErJ
namespace Go.Proofs.Ytmecogilhoebgaa
open Go.RowKit
set_option linter.unusedVariables false
set_option linter.unusedSimpArgs false

mutual
def okT (N : Nat) : RT → Prop | .mk _ _ _ _ l => l.length ≤ N ∧ okL N l
def okL (N : Nat) : List RT → Prop | [] => True | t :: r => okT N t ∧ okL N r
end
theorem okT_eq (N : Nat) (t : RT) : okT N t = (t.l.length ≤ N ∧ okL N t.l) := by cases t; rw [okT]; rfl
theorem okL_append {N : Nat} : ∀ {a b : List RT}, okL N a → okL N b → okL N (a ++ b)
  | [], b, _, h => h
  | t :: r, b, h, k => by rw [okL] at h; rw [List.cons_append, okL]; exact ⟨h.1, okL_append h.2 k⟩
theorem okL_one {N : Nat} {t : RT} (h : okT N t) : okL N [t] := by rw [okL, okL]; exact ⟨h, trivial⟩
theorem okL_nil (N : Nat) : okL N [] := by rw [okL]; trivial
theorem ok_join {N : Nat} {l : List RT} (h : okL N l) (hl : l.length ≤ N) : okT N (joinT l) := by
  match l, h, hl with
  | [], h, hl => show okT N (.mk 3 S4.empty 0 0 []); rw [okT]; exact ⟨hl, h⟩
  | [t], h, hl => rw [okL] at h; exact h.1
  | a :: b :: r, h, hl => show okT N (.mk 3 S4.empty 0 0 (a :: b :: r)); rw [okT]; exact ⟨hl, h⟩
theorem ok_row {N : Nat} {l : List RT} (h : okL N l) (hl : l.length ≤ N) : okT N (rowT l) := by
  match l, h, hl with
  | [], h, hl => show okT N (.mk 0 S4.empty 0 0 []); rw [okT]; exact ⟨hl, h⟩
  | [t], h, hl => rw [okL] at h; exact h.1
  | a :: b :: r, h, hl => show okT N (.mk 2 S4.empty 0 0 (a :: b :: r)); rw [okT]; exact ⟨hl, h⟩
theorem ok_signs {N : Nat} (hN : 1 ≤ N) {bs : List UInt8} : ∀ (k : Nat) (t : RT) (i : Nat) (t' : RT) (j : Nat), okT N t → signsL bs k t i = .ok (t', j) → okT N t'
  | 0, t, i, t', j, ht, h => by
    rw [signsL] at h
    split at h
    · injection h with h; injection h with h1 h2; rw [← h1]; exact ht
    · split at h <;> cases h
  | k + 1, t, i, t', j, ht, h => by
    rw [signsL] at h
    split at h
    · injection h with h; injection h with h1 h2; rw [← h1]; exact ht
    · split at h
      · cases h
      · exact ok_signs hN k _ _ _ _ (by unfold tTimes; rw [okT]; exact ⟨hN, okL_one ht⟩) h
theorem ok_plain {N : Nat} {bs : List UInt8} {i j : Nat} {t : RT} (h : plainS bs i = .ok (t, j)) : okT N t := by
  have leaf : ∀ (k : Int) (s : S4), okT N (.mk k s 0 0 []) := fun k s => by rw [okT]; exact ⟨by simp, okL_nil N⟩
  unfold plainS at h
  split at h
  · cases h
  · split at h
    · cases hb : bracketS bs i with
      | error p => rw [hb] at h; cases h
      | ok p =>
        obtain ⟨S, n⟩ := p
        rw [hb] at h
        simp only [setR] at h
        injection h with h; injection h with h1 h2; rw [← h1]; exact leaf _ _
    · (repeat' split at h) <;> first | (injection h with h; injection h with h1 h2; rw [← h1]; exact leaf _ _) | cases h
theorem read_small (bs : List UInt8) : ∀ f : Nat,
    (∀ d i acc t j, i ≤ bs.length → acc.length ≤ i → okL (bs.length + 1) acc → exprF bs f d i acc = .ok (t, j) → okT (bs.length + 1) t) ∧
    (∀ d i acc t j, i ≤ bs.length → acc.length ≤ i → okL (bs.length + 1) acc → branchF bs f d i acc = .ok (t, j) → okT (bs.length + 1) t) ∧
    (∀ d i t j, i < bs.length → pieceF bs f d i = .ok (t, j) → okT (bs.length + 1) t) ∧
    (∀ d i t j, i < bs.length → atomF bs f d i = .ok (t, j) → okT (bs.length + 1) t)
  | 0 => ⟨fun _ _ _ _ _ _ _ _ h => (by rw [exprF] at h; cases h), fun _ _ _ _ _ _ _ _ h => (by rw [branchF] at h; cases h), fun _ _ _ _ _ h => (by rw [pieceF] at h; cases h), fun _ _ _ _ _ h => (by rw [atomF] at h; cases h)⟩
  | f + 1 => by
    obtain ⟨hE, hB, hP, hA⟩ := read_small bs f
    obtain ⟨-, lB, lP, lA⟩ := readF_le bs f
    refine ⟨fun d i acc t j hi ha hk h => ?_, fun d i acc t j hi ha hk h => ?_, fun d i t j hi h => ?_, fun d i t j hi h => ?_⟩
    · rw [exprF] at h
      cases hb : branchF bs f d i [] with
      | error p => rw [hb] at h; cases h
      | ok p =>
        obtain ⟨t1, j1⟩ := p
        rw [hb] at h
        simp only at h
        have h1 := lB d i [] t1 j1 hi hb
        have ht := hB d i [] t1 j1 hi (by simp) (okL_nil _) hb
        have hk' := okL_append hk (okL_one ht)
        split at h
        · rename_i h124
          have := bn_pos h124 (by omega)
          exact hE d (j1 + 1) _ t j (by omega) (by simp; omega) hk' h
        · injection h with h; injection h with h2 h3
          rw [← h2]; exact ok_join hk' (by simp; omega)
    · rw [branchF] at h
      split at h
      · rename_i hg
        cases hb : pieceF bs f d i with
        | error p => rw [hb] at h; cases h
        | ok p =>
          obtain ⟨t1, j1⟩ := p
          rw [hb] at h
          have h1 := lP d i t1 j1 hg.1 hb
          exact hB d j1 _ t j h1.2 (by simp; omega) (okL_append hk (okL_one (hP d i t1 j1 hg.1 hb))) h
      · injection h with h; injection h with h2 h3
        rw [← h2]; exact ok_row hk (by omega)
    · rw [pieceF] at h
      cases hb : atomF bs f d i with
      | error p => rw [hb] at h; cases h
      | ok p =>
        obtain ⟨t1, j1⟩ := p
        rw [hb] at h
        exact ok_signs (by omega) 8 t1 j1 t j (hA d i t1 j1 hi hb) h
    · rw [atomF] at h
      split at h
      · split at h
        · cases h
        · cases hb : exprF bs f (d + 1) (i + 1) [] with
          | error p => rw [hb] at h; cases h
          | ok p =>
            obtain ⟨t1, j1⟩ := p
            rw [hb] at h
            simp only [closeT] at h
            split at h
            · injection h with h; injection h with h2 h3
              rw [← h2]; exact hE (d + 1) (i + 1) [] t1 j1 (by omega) (by simp) (okL_nil _) hb
            · cases h
      · exact ok_plain h
mutual
theorem okT.mono {N M : Nat} (hN : N ≤ M) : ∀ t : RT, okT N t → okT M t
  | .mk k s mn mx l, h => by rw [okT] at h ⊢; exact ⟨by omega, okL.mono hN l h.2⟩
theorem okL.mono {N M : Nat} (hN : N ≤ M) : ∀ l : List RT, okL N l → okL M l
  | [], h => by rw [okL]; trivial
  | t :: r, h => by rw [okL] at h ⊢; exact ⟨okT.mono hN t h.1, okL.mono hN r h.2⟩
end
theorem parse_small {bs : List UInt8} {t : RT} (h : parseS bs = .ok t) : okT 1001 t := by
  obtain ⟨hl, hr⟩ := parse_read h
  have := (read_small bs _).1 0 0 [] t bs.length (Nat.zero_le _) (by simp) (okL_nil _) hr
  exact okT.mono (by omega) t this
mutual
theorem one_ok : ∀ t : RT, okT 1001 t → OneOk t
  | .mk k s mn mx l, h => by
    rw [okT] at h
    exact one_of _ (by show l.length ≤ 100000; omega) (one_okL l h.2)
theorem one_okL : ∀ l : List RT, okL 1001 l → ∀ u ∈ l, OneOk u
  | [], _, u, hu => by cases hu
  | t :: r, h, u, hu => by
    rw [okL] at h
    rcases List.mem_cons.1 hu with e | hu
    · rw [e]; exact one_ok t h.1
    · exact one_okL r h.2 u hu
end
/-- Does it begin with a bracket? -/
theorem wrapped_any {w : World} {A : Option Addr} {bs : List UInt8} {c : Nat} (h : Bytes w A bs) (n : Nat) (hn : bs.length = n) (hl : n ≤ 1000) :
    Calls Try.prog 8 #[.slice A n c] w fun e w' => e = .returned (.bool (stB bs 0 40)) ∧ w = w' := by
  by_cases h0 : 0 < n
  · obtain ⟨b, off, rfl, hb, hc⟩ := byte_at h (i := 0) (by omega)
    have e0 := hc 0 (by omega)
    rw [Nat.add_zero] at e0
    obtain ⟨q, hq⟩ : ∃ q, q = bn bs 0 := ⟨_, rfl⟩
    have hr : stB bs 0 40 = ((q : Int) == 40) := by rw [hq, Bool.eq_iff_iff]; unfold stB; simp; omega
    rw [hr]
    rw [← hq] at e0
    have h1 : decide (0 < n) = true := by simpa using h0
    clear hc h hr hq hn
    go_enter Try.func8, Try.ntmps8
    go_wp2_with fail
    go_ret
    exact ⟨rfl, rfl⟩
  · obtain rfl : n = 0 := by omega
    have hr : stB bs 0 40 = false := stB_no (by rw [bn_over (by omega)]; omega)
    rw [hr]
    clear h hr hn
    go_enter Try.func8, Try.ntmps8
    go_wp2_with fail
    go_ret
    exact ⟨rfl, rfl⟩
end Go.Proofs.Ytmecogilhoebgaa
