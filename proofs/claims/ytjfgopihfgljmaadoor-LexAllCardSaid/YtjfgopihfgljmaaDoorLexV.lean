/-
  A number that tokens hold has at most 36 digits. No program, no conditions.
-/
import Derived.Test.YtjfgopihfgljmaaDoorLexE
import Derived.Test.YtjfgopihfgljmaaDoorLr5
namespace Go.Proofs.YtjfgopihfgljmaaDoor
set_option linter.unusedVariables false
set_option linter.unusedSimpArgs false

theorem decM_lt {s : List UInt8} {v : Nat} (h : decM s = some v) : v < 10 ^ 36 := by
  rw [dec_row] at h
  split at h
  · cases h
  · rename_i h1
    injection h with h
    subst h
    rcases Nat.lt_or_ge (valD (digRow s)) (10 ^ 36) with h2 | h2
    · exact h2
    · exfalso
      have h3 := digs_len_ge h2
      rw [← take_topD _ (digRow_lt s), List.length_take] at h3
      omega
theorem nextM_v {op : Bool} {s : List UInt8} {k v m : Nat} {t : List UInt8} (h : nextM op s = .ok (k, t, v, m)) : v < 10 ^ 36 := by
  have z : (0 : Nat) < 10 ^ 36 := by decide
  have key : ∀ {k' : Nat} {t' : List UInt8} {v' m' : Nat}, (Except.ok (k', t', v', m') : Except Nat (Nat × List UInt8 × Nat × Nat)) = .ok (k, t, v, m) → v' = v := by
    intro k' t' v' m' e; injection e with e; injection e with _ e; injection e with _ e; injection e
  cases s with
  | nil => unfold nextM at h; cases h
  | cons c r =>
    unfold nextM at h
    dsimp only at h
    split at h
    · rw [← key h]; exact z
    · split at h
      · split at h
        · cases h
        · rename_i hd
          rw [← key h]; exact decM_lt hd
      · split at h
        · split at h
          · cases h
          · rw [← key h]; exact z
        · split at h
          · split at h
            · cases h
            · rw [← key h]; exact z
          · split at h
            · rw [← key h]; exact z
            · split at h
              · rw [← key h]; exact z
              · split at h
                · rw [← key h]; exact z
                · cases h
theorem lexM_v : ∀ (n : Nat) (op : Bool) (p : Nat) (s : List UInt8) (l : List Tk), lexM n op p s = .ok l → ∀ t ∈ l, t.v < 10 ^ 36
  | 0, op, p, s, l, hl => by cases hl
  | n + 1, op, p, s, l, hl => by
    have z : (0 : Nat) < 10 ^ 36 := by decide
    rw [lexM] at hl
    cases hd : s.drop (skipM s) with
    | nil =>
      rw [hd] at hl
      injection hl with hl
      subst hl
      intro t ht
      rw [List.mem_singleton.1 ht]; exact z
    | cons c r =>
      rw [hd] at hl
      dsimp only at hl
      cases hn : nextM op (c :: r) with
      | error e' => rw [hn] at hl; cases hl
      | ok x =>
        obtain ⟨k, t, v, m⟩ := x
        rw [hn] at hl
        dsimp only at hl
        cases hr : lexM n (operM k t) (p + skipM s + m) ((c :: r).drop m) with
        | error y => rw [hr] at hl; cases hl
        | ok l' =>
          rw [hr] at hl
          injection hl with hl
          subst hl
          intro u hu
          rcases List.mem_cons.1 hu with rfl | hu
          · exact nextM_v hn
          · exact lexM_v n _ _ _ _ hr u hu
theorem lexAllM_v {s : List UInt8} {l : List Tk} (h : lexAllM s = .ok l) : ∀ t ∈ l, t.v < 10 ^ 36 := by
  unfold lexAllM at h
  split at h
  · cases h
  · exact lexM_v _ _ _ _ _ h
theorem tok_hi {v : Nat} (h : v < 10 ^ 36) : v / 18446744073709551616 < 18446744073709551616 := Nat.div_lt_of_lt_mul (Nat.lt_trans h (by decide))
theorem tok_lo (v : Nat) : v % 18446744073709551616 < 18446744073709551616 := Nat.mod_lt _ (by decide)
theorem tok_sum (v : Nat) : v / 18446744073709551616 * 18446744073709551616 + v % 18446744073709551616 = v := by omega
/-- Rows of one length, one behind another. -/
theorem flatten_at {α : Type} {sz : Nat} : ∀ (xs : List (List α)), (∀ x ∈ xs, x.length = sz) → ∀ (k j : Nat) (x : List α), xs[k]? = some x → j < sz → xs.flatten[k * sz + j]? = x[j]?
  | [], _, k, j, x, h, _ => by cases h
  | y :: r, hl, 0, j, x, h, hj => by
    injection h with h
    subst h
    rw [List.flatten_cons, Nat.zero_mul, Nat.zero_add, List.getElem?_append_left (by rw [hl _ (by simp)]; exact hj)]
  | y :: r, hl, k + 1, j, x, h, hj => by
    have hy := hl y (by simp)
    rw [List.flatten_cons, List.getElem?_append_right (by rw [hy, Nat.succ_mul]; omega)]
    have e : (k + 1) * sz + j - y.length = k * sz + j := by rw [hy, Nat.succ_mul]; omega
    rw [e]
    exact flatten_at r (fun x hx => hl x (by simp [hx])) k j x (by simpa using h) hj
end Go.Proofs.YtjfgopihfgljmaaDoor
