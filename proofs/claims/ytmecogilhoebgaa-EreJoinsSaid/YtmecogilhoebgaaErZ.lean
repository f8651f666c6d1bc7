/-
  Reading an expression within a longer text; two expressions with | between; one in brackets. No program, no conditions.
-/
import Derived.Test.YtmecogilhoebgaaErY
namespace Go.Proofs.Ytmecogilhoebgaa
set_option linter.unusedVariables false
set_option linter.unusedSimpArgs false

/-! More fuel changes nothing. -/
def noFuel : Res := .error (0, 99)
theorem fuel_one (bs : List UInt8) : ∀ f : Nat,
    (∀ d i acc r, exprF bs f d i acc = r → r ≠ noFuel → exprF bs (f + 1) d i acc = r) ∧
    (∀ d i acc r, branchF bs f d i acc = r → r ≠ noFuel → branchF bs (f + 1) d i acc = r) ∧
    (∀ d i r, pieceF bs f d i = r → r ≠ noFuel → pieceF bs (f + 1) d i = r) ∧
    (∀ d i r, atomF bs f d i = r → r ≠ noFuel → atomF bs (f + 1) d i = r)
  | 0 => ⟨fun _ _ _ _ h hr => (hr (by rw [← h, exprF]; rfl)).elim, fun _ _ _ _ h hr => (hr (by rw [← h, branchF]; rfl)).elim, fun _ _ _ h hr => (hr (by rw [← h, pieceF]; rfl)).elim, fun _ _ _ h hr => (hr (by rw [← h, atomF]; rfl)).elim⟩
  | f + 1 => by
    obtain ⟨hE, hB, hP, hA⟩ := fuel_one bs f
    refine ⟨fun d i acc r h hr => ?_, fun d i acc r h hr => ?_, fun d i r h hr => ?_, fun d i r h hr => ?_⟩
    · rw [exprF] at h ⊢
      cases hb : branchF bs f d i [] with
      | error p =>
        rw [hb] at h
        rw [hB d i [] _ hb (by intro e; apply hr; rw [← h]; exact e)]; exact h
      | ok p =>
        rw [hb] at h
        rw [hB d i [] _ hb (by intro e; cases e)]
        obtain ⟨t, j⟩ := p
        simp only at h ⊢
        split
        · rename_i h1; rw [if_pos h1] at h; exact hE _ _ _ _ h hr
        · rename_i h1; rw [if_neg h1] at h; exact h
    · rw [branchF] at h ⊢
      split
      · rename_i h1
        rw [if_pos h1] at h
        cases hb : pieceF bs f d i with
        | error p =>
          rw [hb] at h
          rw [hP d i _ hb (by intro e; apply hr; rw [← h]; exact e)]; exact h
        | ok p =>
          rw [hb] at h
          rw [hP d i _ hb (by intro e; cases e)]
          exact hB _ _ _ _ h hr
      · rename_i h1; rw [if_neg h1] at h; exact h
    · rw [pieceF] at h ⊢
      cases hb : atomF bs f d i with
      | error p =>
        rw [hb] at h
        rw [hA d i _ hb (by intro e; apply hr; rw [← h]; exact e)]; exact h
      | ok p =>
        rw [hb] at h
        rw [hA d i _ hb (by intro e; cases e)]; exact h
    · rw [atomF] at h ⊢
      split
      · rename_i h1
        rw [if_pos h1] at h
        split
        · rename_i h2; rw [if_pos h2] at h; exact h
        · rename_i h2
          rw [if_neg h2] at h
          cases hb : exprF bs f (d + 1) (i + 1) [] with
          | error p =>
            rw [hb] at h
            rw [hE _ _ _ _ hb (by intro e; apply hr; rw [← h]; exact e)]; exact h
          | ok p =>
            rw [hb] at h
            rw [hE _ _ _ _ hb (by intro e; cases e)]; exact h
      · rename_i h1; rw [if_neg h1] at h; exact h
theorem expr_fuel (bs : List UInt8) {f d i : Nat} {acc : List RT} {r : Res} (h : exprF bs f d i acc = r) (hr : r ≠ noFuel) : ∀ g, exprF bs (f + g) d i acc = r
  | 0 => h
  | g + 1 => (fuel_one bs (f + g)).1 d i acc r (expr_fuel bs h hr g) hr
theorem branch_fuel (bs : List UInt8) {f d i : Nat} {acc : List RT} {r : Res} (h : branchF bs f d i acc = r) (hr : r ≠ noFuel) : ∀ g, branchF bs (f + g) d i acc = r
  | 0 => h
  | g + 1 => (fuel_one bs (f + g)).2.1 d i acc r (branch_fuel bs h hr g) hr

/-! A branch that is an expression with | in brackets begins with one. -/
theorem signsL_kind {bs : List UInt8} : ∀ (k : Nat) (t : RT) (i : Nat) (t' : RT) (j : Nat), signsL bs k t i = .ok (t', j) → t' = t ∨ t'.k = 4
  | 0, t, i, t', j, h => by
    rw [signsL] at h
    split at h
    · injection h with h; injection h with h1 h2; exact .inl h1.symm
    · split at h <;> cases h
  | k + 1, t, i, t', j, h => by
    rw [signsL] at h
    split at h
    · injection h with h; injection h with h1 h2; exact .inl h1.symm
    · split at h
      · cases h
      · rcases signsL_kind k _ _ _ _ h with h1 | h1
        · right; rw [h1]; rfl
        · exact .inr h1
theorem plainS_kind {bs : List UInt8} {i j : Nat} {t : RT} (h : plainS bs i = .ok (t, j)) : t.k ≠ 3 := by
  unfold plainS at h
  split at h
  · cases h
  · split at h
    · cases hb : bracketS bs i with
      | error p => rw [hb] at h; cases h
      | ok p =>
        obtain ⟨S, n⟩ := p
        rw [hb] at h
        simp only [setR] at h
        injection h with h; injection h with h1 h2; rw [← h1]; simp [tSet, RT.k]
    · (repeat' split at h) <;> first | (injection h with h; injection h with h1 h2; rw [← h1]; simp [tSet, RT.k]) | cases h
theorem branch_many {bs : List UInt8} : ∀ (f d i : Nat) (acc : List RT) (t : RT) (j : Nat), 2 ≤ acc.length → branchF bs f d i acc = .ok (t, j) → t.k = 2
  | 0, d, i, acc, t, j, _, h => by rw [branchF] at h; cases h
  | f + 1, d, i, acc, t, j, ha, h => by
    rw [branchF] at h
    split at h
    · cases hb : pieceF bs f d i with
      | error p => rw [hb] at h; cases h
      | ok p =>
        obtain ⟨t1, j1⟩ := p
        rw [hb] at h
        exact branch_many f d j1 _ t j (by simp; omega) h
    · injection h with h; injection h with h1 h2
      rw [← h1]
      match acc, ha with
      | a :: b :: r, _ => rfl
theorem branch_three {bs : List UInt8} {f d i j : Nat} {t : RT} (h : branchF bs f d i [] = .ok (t, j)) (hk : t.k = 3) : bn bs i = 40 := by
  rcases f with _ | f
  · rw [branchF] at h; cases h
  rw [branchF] at h
  split at h
  · cases hb : pieceF bs f d i with
    | error p => rw [hb] at h; cases h
    | ok p =>
      obtain ⟨t1, j1⟩ := p
      rw [hb] at h
      simp only [List.nil_append] at h
      have ht : t = t1 := by
        rcases f with _ | f
        · rw [branchF] at h; cases h
        rw [branchF] at h
        split at h
        · cases hb2 : pieceF bs f d j1 with
          | error p => rw [hb2] at h; cases h
          | ok p =>
            obtain ⟨t2, j2⟩ := p
            rw [hb2] at h
            have := branch_many f d j2 _ t j (by simp) h
            omega
        · injection h with h; injection h with h1 h2; exact h1.symm
      subst ht
      rcases f with _ | f
      · rw [pieceF] at hb; cases hb
      rw [pieceF] at hb
      cases ha : atomF bs f d i with
      | error p => rw [ha] at hb; cases hb
      | ok p =>
        obtain ⟨t2, j2⟩ := p
        rw [ha] at hb
        rcases signsL_kind 8 t2 j2 t j1 hb with h1 | h1
        · subst h1
          rcases f with _ | f
          · rw [atomF] at ha; cases ha
          rw [atomF] at ha
          split at ha
          · assumption
          · exact absurd hk (plainS_kind ha)
        · omega
  · injection h with h; injection h with h1 h2
    rw [← h1] at hk; simp [rowT, tNone, RT.k] at hk

/-! Within a longer text. -/
section
variable {pre bs post : List UInt8}
theorem goesOn_in (hp : Stops post) {i : Nat} (hi : i ≤ bs.length) : goesOn (pre ++ bs ++ post) (i + pre.length) ↔ goesOn bs i := by
  unfold goesOn
  have hlW : (pre ++ bs ++ post).length = pre.length + bs.length + post.length := by simp; omega
  by_cases h : i < bs.length
  · rw [bn_in pre bs post h]
    constructor
    · intro h1; exact ⟨h, h1.2⟩
    · intro h1; exact ⟨by omega, h1.2⟩
  · obtain rfl : i = bs.length := by omega
    rw [bn_out]
    constructor
    · intro h1
      rcases hp with h2 | h2 | h2
      · exact absurd h2 h1.2.1
      · exact absurd h2 h1.2.2
      · subst h2; have := h1.1; simp at this; omega
    · intro h1; exact absurd h1.1 h
theorem read_in (hp : Stops post) {e : Nat} (he : e ≤ 1) : ∀ f : Nat,
    (∀ d i acc t j, i ≤ bs.length → d + e ≤ 64 → exprF bs f d i acc = .ok (t, j) → (j < bs.length ∨ bn post 0 ≠ 124) →
      ∃ l, l ≠ [] ∧ t = joinT (acc ++ l) ∧ (∀ t1, l = [t1] → t1.k = 3 → bn bs i = 40) ∧
        ((∀ acc', exprF (pre ++ bs ++ post) f (d + e) (i + pre.length) acc' = .ok (joinT (acc' ++ l), j + pre.length)) ∨ (e ≠ 0 ∧ ∃ p, ∀ acc', exprF (pre ++ bs ++ post) f (d + e) (i + pre.length) acc' = .error (p, 6)))) ∧
    (∀ d i acc t j, i ≤ bs.length → d + e ≤ 64 → branchF bs f d i acc = .ok (t, j) → branchF (pre ++ bs ++ post) f (d + e) (i + pre.length) acc = .ok (t, j + pre.length) ∨ (e ≠ 0 ∧ ∃ p, branchF (pre ++ bs ++ post) f (d + e) (i + pre.length) acc = .error (p, 6))) ∧
    (∀ d i t j, i < bs.length → d + e ≤ 64 → pieceF bs f d i = .ok (t, j) → pieceF (pre ++ bs ++ post) f (d + e) (i + pre.length) = .ok (t, j + pre.length) ∨ (e ≠ 0 ∧ ∃ p, pieceF (pre ++ bs ++ post) f (d + e) (i + pre.length) = .error (p, 6))) ∧
    (∀ d i t j, i < bs.length → d + e ≤ 64 → atomF bs f d i = .ok (t, j) → atomF (pre ++ bs ++ post) f (d + e) (i + pre.length) = .ok (t, j + pre.length) ∨ (e ≠ 0 ∧ ∃ p, atomF (pre ++ bs ++ post) f (d + e) (i + pre.length) = .error (p, 6)))
  | 0 => ⟨fun _ _ _ _ _ _ _ h => (by rw [exprF] at h; cases h), fun _ _ _ _ _ _ _ h => (by rw [branchF] at h; cases h), fun _ _ _ _ _ _ h => (by rw [pieceF] at h; cases h), fun _ _ _ _ _ _ h => (by rw [atomF] at h; cases h)⟩
  | f + 1 => by
    obtain ⟨hE, hB, hP, hA⟩ := read_in hp he f
    obtain ⟨-, lB, lP, lA⟩ := readF_le bs f
    refine ⟨fun d i acc t j hi hd h hj => ?_, fun d i acc t j hi hd h => ?_, fun d i t j hi hd h => ?_, fun d i t j hi hd h => ?_⟩
    · rw [exprF] at h
      cases hb : branchF bs f d i [] with
      | error p => rw [hb] at h; cases h
      | ok p =>
        obtain ⟨t1, j1⟩ := p
        rw [hb] at h
        simp only at h
        have hl1 := lB d i [] t1 j1 hi hb
        have hW := hB d i [] t1 j1 hi hd hb
        by_cases h124 : bn bs j1 = 124
        · rw [if_pos h124] at h
          have hj1 := bn_pos h124 (by omega)
          obtain ⟨l, hl, ht, -, hor⟩ := hE d (j1 + 1) (acc ++ [t1]) t j (by omega) hd h hj
          refine ⟨t1 :: l, by simp, by rw [ht, List.append_assoc]; rfl, fun t2 h2 => ?_, ?_⟩
          · injection h2 with h2 h3; exact absurd h3 hl
          · rcases hW with hW | ⟨he0, p, hW⟩
            · have hbW : bn (pre ++ bs ++ post) (j1 + pre.length) = 124 := by rw [bn_in pre bs post hj1]; exact h124
              rcases hor with hor | ⟨he0, p, hor⟩
              · left; intro acc'
                rw [exprF, hW]
                simp only
                rw [if_pos hbW, show j1 + pre.length + 1 = j1 + 1 + pre.length by omega, hor, List.append_assoc]; rfl
              · right; refine ⟨he0, p, fun acc' => ?_⟩
                rw [exprF, hW]
                simp only
                rw [if_pos hbW, show j1 + pre.length + 1 = j1 + 1 + pre.length by omega, hor]
            · right; refine ⟨he0, p, fun acc' => ?_⟩
              rw [exprF, hW]
        · rw [if_neg h124] at h
          injection h with h; injection h with h1 h2
          subst h2
          refine ⟨[t1], by simp, h1.symm, fun t2 h2 hk => ?_, ?_⟩
          · injection h2 with h2 _; subst h2; exact branch_three hb hk
          · rcases hW with hW | ⟨he0, p, hW⟩
            · left; intro acc'
              have hbW : bn (pre ++ bs ++ post) (j1 + pre.length) ≠ 124 := by
                by_cases hlt : j1 < bs.length
                · rw [bn_in pre bs post hlt]; exact h124
                · have : j1 = bs.length := by omega
                  rw [this, bn_out]
                  rcases hj with hj | hj
                  · omega
                  · exact hj
              rw [exprF, hW]
              simp only
              rw [if_neg hbW]
            · right; refine ⟨he0, p, fun acc' => ?_⟩
              rw [exprF, hW]
    · rw [branchF] at h ⊢
      by_cases hg : goesOn bs i
      · rw [if_pos hg] at h
        rw [if_pos ((goesOn_in hp hi).2 hg)]
        cases hb : pieceF bs f d i with
        | error p => rw [hb] at h; cases h
        | ok p =>
          obtain ⟨t1, j1⟩ := p
          rw [hb] at h
          have hl1 := lP d i t1 j1 hg.1 hb
          rcases hP d i t1 j1 hg.1 hd hb with hW | ⟨he0, p, hW⟩
          · rw [hW]; exact hB d j1 _ t j hl1.2 hd h
          · rw [hW]; exact .inr ⟨he0, p, rfl⟩
      · rw [if_neg hg] at h
        rw [if_neg (fun hh => hg ((goesOn_in hp hi).1 hh))]
        injection h with h; injection h with h1 h2
        subst h1 h2
        exact .inl rfl
    · rw [pieceF] at h ⊢
      cases hb : atomF bs f d i with
      | error p => rw [hb] at h; cases h
      | ok p =>
        obtain ⟨t1, j1⟩ := p
        rw [hb] at h
        have hl1 := lA d i t1 j1 hi hb
        rcases hA d i t1 j1 hi hd hb with hW | ⟨he0, p, hW⟩
        · rw [hW]; exact .inl (signsL_in hp 8 t1 j1 t j hl1.2 h)
        · rw [hW]; exact .inr ⟨he0, p, rfl⟩
    · rw [atomF] at h ⊢
      rw [bn_in pre bs post hi]
      by_cases h40 : bn bs i = 40
      · rw [if_pos h40] at h ⊢
        by_cases h64 : d = 64
        · rw [if_pos h64] at h; cases h
        · rw [if_neg h64] at h
          cases hb : exprF bs f (d + 1) (i + 1) [] with
          | error p => rw [hb] at h; cases h
          | ok p =>
            obtain ⟨t1, j1⟩ := p
            rw [hb] at h
            simp only [closeT] at h
            by_cases h41 : bn bs j1 = 41
            · rw [if_pos h41] at h
              have hj1 := bn_pos h41 (by omega)
              injection h with h; injection h with h1 h2
              by_cases h64' : d + e = 64
              · rw [if_pos h64']; exact .inr ⟨by omega, _, rfl⟩
              · rw [if_neg h64', show d + e + 1 = d + 1 + e by omega, show i + pre.length + 1 = i + 1 + pre.length by omega]
                obtain ⟨l, hl, ht, -, hor⟩ := hE (d + 1) (i + 1) [] t1 j1 (by omega) (by omega) hb (.inl hj1)
                rcases hor with hor | ⟨he0, p, hor⟩
                · rw [hor []]
                  simp only [closeT]
                  rw [bn_in pre bs post hj1, if_pos h41, ← ht, h1, ← h2]
                  left; congr 2; omega
                · rw [hor []]; exact .inr ⟨he0, p, rfl⟩
            · rw [if_neg h41] at h; cases h
      · rw [if_neg h40] at h ⊢
        exact .inl (plainS_in hp hi h)
end
end Go.Proofs.Ytmecogilhoebgaa
