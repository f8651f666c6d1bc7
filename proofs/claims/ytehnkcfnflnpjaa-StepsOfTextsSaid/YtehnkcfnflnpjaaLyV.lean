/-
  The steps of a right part are a program (plain law). No conditions.
-/
import Derived.Test.YtehnkcfnflnpjaaGa
import Derived.Test.YtehnkcfnflnpjaaGi
namespace Go.Proofs.Ytehnkcfnflnpjaa
set_option linter.unusedVariables false
set_option linter.unusedSimpArgs false

def AllOk (n : Nat) (L : List Sp) : Prop := ∀ s ∈ L, okP n s = true
theorem AllOk.nil_ (n : Nat) : AllOk n [] := by intro s hs; cases hs
theorem AllOk.app {n : Nat} {L M : List Sp} (h : AllOk n L) (h2 : AllOk n M) : AllOk n (L ++ M) := by
  intro s hs
  rcases List.mem_append.1 hs with h1 | h1
  · exact h s h1
  · exact h2 s h1
theorem AllOk.cons_ {n : Nat} {s : Sp} {M : List Sp} (h : okP n s = true) (h2 : AllOk n M) : AllOk n (s :: M) := by
  intro t ht
  rcases List.mem_cons.1 ht with rfl | h1
  · exact h
  · exact h2 t h1
theorem fork_ok {n x y : Nat} (hx : x < n) (hy : y < n) : okP n (Sp.fork x y) = true := by
  unfold okP Sp.fork Sp.none_
  simp
  omega
theorem times_ok (n : Nat) (f : Nat → List Sp) (s lo : Nat) (hf : ∀ a, a + s < n → AllOk n (f a)) : ∀ k a, a + k * s < n → AllOk n (timesP f s k a)
  | 0, a, _ => AllOk.nil_ _
  | k + 1, a, h => by
    rw [Nat.succ_mul] at h
    rw [timesP]
    exact (hf a (by omega)).app (times_ok n f s lo hf k (a + s) (by omega))
theorem maybe_ok (n : Nat) (f : Nat → List Sp) (s all : Nat) (hall : all < n) (hf : ∀ a, a + s < n → AllOk n (f a)) : ∀ k a, a + k * (s + 1) < n → AllOk n (maybeP f s all k a)
  | 0, a, _ => AllOk.nil_ _
  | k + 1, a, h => by
    rw [Nat.succ_mul] at h
    rw [maybeP]
    exact AllOk.cons_ (fork_ok (by omega) hall) ((hf (a + 1) (by omega)).app (maybe_ok n f s all hall hf k (a + 1 + s) (by omega)))
mutual
theorem layP_ok_ : ∀ (t : PT) (a n : Nat), rightP t = true → a + sizP t < n → AllOk n (layP t a)
  | .mk k s0 s1 s2 s3 mn mx A c l, a, n, hr, hn => by
    have hl := layL_ok_ l
    have ho := layO_ok_ l
    rw [rightP_eq] at hr
    simp only [PT.k, PT.mn, PT.mx, PT.l, Bool.and_eq_true] at hr
    obtain ⟨hk, hi⟩ := hr
    simp only [layP]
    simp only [sizP] at hn
    by_cases h1 : k = 1
    · subst h1
      simp at hn ⊢
      refine AllOk.cons_ ?_ (AllOk.nil_ _)
      simp [okP]; omega
    by_cases h5 : k = 5
    · subst h5
      simp at hn ⊢
      refine AllOk.cons_ ?_ (AllOk.nil_ _)
      simp [okP, Sp.none_]; omega
    by_cases h6 : k = 6
    · subst h6
      simp at hn ⊢
      refine AllOk.cons_ ?_ (AllOk.nil_ _)
      simp [okP, Sp.none_]; omega
    by_cases h2 : k = 2
    · subst h2
      simp [inner] at hi
      simp at hn ⊢
      exact hl a n hi hn
    by_cases h3 : k = 3
    · subst h3
      simp [inner] at hi
      simp at hn ⊢
      exact ho a _ n hi (by omega) (by omega)
    by_cases h4 : k = 4
    · subst h4
      simp [inner] at hi
      simp [rightK] at hk
      have hl' : ∀ b, b + sizL l < n → AllOk n (layL l b) := fun b hb => hl b n hi hb
      simp at hn ⊢
      by_cases hm : mx < 0
      · simp only [if_pos hm] at hn ⊢
        rw [Nat.add_mul, Nat.one_mul] at hn ⊢
        refine (times_ok n _ _ 0 hl' _ _ (by omega)).app (AllOk.cons_ (fork_ok (by omega) (by omega)) ((hl' _ (by omega)).app (AllOk.cons_ (fork_ok (by omega) (by omega)) (AllOk.nil_ _))))
      · simp only [if_neg hm] at hn ⊢
        have h9 : mn.toNat ≤ mx.toNat := by omega
        have ha := rep_arith _ _ (sizL l) h9
        refine (times_ok n _ _ 0 hl' _ _ (by omega)).app (maybe_ok n _ _ _ (by omega) hl' _ _ (by omega))
    · simp only [h1, h2, h3, h4, h5, h6, if_false]
      exact AllOk.nil_ _
theorem layL_ok_ : ∀ (l : List PT) (a n : Nat), rightL l = true → a + sizL l < n → AllOk n (layL l a)
  | [], a, n, _, _ => by simp only [layL]; exact AllOk.nil_ _
  | t :: r, a, n, h, hn => by
    simp only [rightL, Bool.and_eq_true] at h
    simp only [sizL] at hn
    simp only [layL]
    exact (layP_ok_ t a n h.1 (by omega)).app (layL_ok_ r _ n h.2 (by omega))
theorem layO_ok_ : ∀ (l : List PT) (a all n : Nat), rightL l = true → all < n → a + (sizL l + 2 * (l.length - 1)) < n → AllOk n (layO l a all)
  | [], a, all, n, _, _, _ => by simp only [layO]; exact AllOk.nil_ _
  | t :: r, a, all, n, h, ha, hn => by
    simp only [rightL, Bool.and_eq_true] at h
    simp only [sizL, List.length_cons] at hn
    have h1 := layP_ok_ t
    cases r with
    | nil =>
      simp only [sizL, List.length_nil] at hn
      simp only [layO, List.isEmpty_nil, if_true]
      exact h1 a n h.1 (by omega)
    | cons u v =>
      have h2 := layO_ok_ (u :: v) (a + 2 + sizP t) all n h.2 ha (by simp only [List.length_cons] at hn ⊢; omega)
      rw [layO]
      simp only [List.isEmpty_cons, if_false, Bool.false_eq_true]
      simp only [List.length_cons] at hn
      exact AllOk.cons_ (fork_ok (by omega) (by omega)) ((h1 _ n h.1 (by omega)).app (AllOk.cons_ (fork_ok ha ha) h2))
end
theorem valid_found (ok : Sp → Bool) : ∀ (L : List Sp) (f : Bool), (∀ s ∈ L, ok s = true) → ok Sp.found = true → validF ok f (L ++ [Sp.found]) = true
  | [], f, _, h => by rw [List.nil_append, validF, if_pos h, validF]; simp [Sp.found]
  | s :: r, f, h, h2 => by
    rw [List.cons_append, validF, if_pos (h s (List.mem_cons_self ..))]
    exact valid_found ok r _ (fun x hx => h x (List.mem_cons_of_mem _ hx)) h2
theorem valid_prog {t : PT} (h : rightP t = true) : validF (okP ((layP t 0 ++ [Sp.found]).length : Nat)) false (layP t 0 ++ [Sp.found]) = true := by
  have hl := layP_len t 0 h
  have hn : (layP t 0 ++ [Sp.found]).length = sizP t + 1 := by rw [List.length_append, hl]; rfl
  rw [hn]
  exact valid_found _ _ _ (layP_ok_ t 0 (sizP t + 1) h (by omega)) (by simp [okP, Sp.found, Sp.none_])
end Go.Proofs.Ytehnkcfnflnpjaa
