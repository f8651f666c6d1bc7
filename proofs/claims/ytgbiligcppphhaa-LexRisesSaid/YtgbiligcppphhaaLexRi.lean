/-
  The walk of LexRises. No conditions.
-/
import Derived.Test.YtgbiligcppphhaaLexTk
import Derived.Test.YtgbiligcppphhaaLexP
namespace Go.Proofs.Ytgbiligcppphhaa
open Go.RowKit Go.ChangeShapes Go.WideShapes Go.ChangeAt Go.Deep
set_option linter.unusedVariables false
set_option linter.unusedSimpArgs false

theorem rises_at (l : List Tk) : ∀ (p N k : Nat) (t : Tk), risesM p N l → l[k]? = some t →
    p ≤ t.p ∧ t.p ≤ N ∧ (t.k = 0 ↔ k + 1 = l.length) ∧ (k + 1 = l.length → t.p = N) ∧ ∀ u, 0 < k → l[k - 1]? = some u → u.p < t.p := by
  induction l with
  | nil => intro p N k t h; exact h.elim
  | cons a r ih =>
    intro p N k t h hk
    obtain ⟨h1, ⟨rfl, h2, h3⟩ | ⟨h2, h3, h4⟩⟩ := h
    · cases k with
      | zero => injection hk with hk; subst hk; exact ⟨h1, by omega, by simp [h2], fun _ => h3, fun u h => absurd h (by omega)⟩
      | succ k => simp at hk
    · cases k with
      | zero =>
        injection hk with hk; subst hk
        have hr : r ≠ [] := by rintro rfl; exact h4
        have : 0 < r.length := List.length_pos_iff.2 hr
        exact ⟨h1, by omega, by simp [h2]; omega, fun e => by rw [List.length_cons] at e; omega, fun u h => absurd h (by omega)⟩
      | succ k =>
        have hk' : r[k]? = some t := by simpa using hk
        obtain ⟨g1, g2, g3, g4, g5⟩ := ih _ _ _ _ h4 hk'
        refine ⟨by omega, g2, by simpa using g3, fun e => g4 (by simpa using e), fun u _ hu => ?_⟩
        cases k with
        | zero => simp at hu; subst hu; omega
        | succ k => exact g5 u (by omega) (by simpa using hu)
set_option maxRecDepth 100000 in
set_option maxHeartbeats 40000000 in
theorem rises_walk {w : World} {A : Option Addr} {c : Nat} {src : List UInt8} (h : Bytes w A src) (hc : src.length ≤ c) (hA : A = none → c = 0) (hcm : c ≤ maxLen) :
    Calls Try.prog 3 #[.slice A src.length c] w fun e w' => e = .returned (.bool true) ∧ Below w.heap.size w w' := by
  unfold maxLen at hcm
  have hall := fun (w1 : World) (hf : Fr [] w w1) => all_any (h.fr_nil hf) hc hA
  have HALL := Lib.hid hall
  clear h hall hA
  go_enter Try.func3, Try.ntmps3
  go_wp2_with fail
  go_at_call 7
  refine (awake_any w).mono ?_
  rintro e w1 ⟨rfl, hf1⟩
  have HF1 := Lib.hid hf1; clear hf1
  by_cases h40 : 2000 < src.length
  · go_wp2_with fail
    go_ret
    exact ⟨rfl, HF1.out.below_nil⟩
  go_wp2_with fail
  go_at_call 8
  refine (HALL.out w1 HF1.out).mono ?_
  intro e w2 hp
  unfold AllPost at hp
  cases hl : lexAllM src with
  | error q =>
    obtain ⟨code, p⟩ := q
    rw [hl] at hp
    obtain ⟨b, rfl, -, hf2⟩ := hp
    have HF2 := Lib.hid (HF1.out.trans hf2); clear hf2 hl
    go_wp2_with fail
    go_ret
    exact ⟨rfl, HF2.out.below_nil⟩
  | ok ts =>
    rw [hl] at hp
    obtain ⟨L, rfl, ht, -, hf2⟩ := hp
    have hr : risesM 0 src.length ts := by
      unfold lexAllM at hl
      rw [if_neg (by omega)] at hl
      have := lexM_rises _ _ _ _ _ hl
      rwa [Nat.zero_add] at this
    have HF2 := Lib.hid (HF1.out.trans hf2); have HT := Lib.hid ht; have HR := Lib.hid hr
    have hne : ts ≠ [] := by rintro rfl; exact hr
    have hlen := ht.1
    obtain ⟨b, cap, rfl, hcap, hcapm, hbl, hcell⟩ := ht.cells_ hne
    have HCELL := Lib.hid hcell
    clear hf2 hl ht hr hcell
    have hll : ts.length ≤ 9223372036854775807 := Nat.le_trans hcap hcapm
    obtain ⟨n, hn⟩ : ∃ n, ts.length = n + 1 := ⟨ts.length - 1, by have := List.length_pos_iff.2 hne; omega⟩
    have HN := Lib.hid hn
    rw [hn] at hcap hlen hll ⊢
    clear hn hne hcapm
    go_wp2_with fail
    go_loopw [5, 6] (fun vi vl wr => ∃ k : Nat, vi = .int .i64 (k : Int) ∧ k ≤ n + 1 ∧ Fr [] w2 wr) (fun vi vl wr => match vi with
      | .int _ x => n + 1 - x.toNat
      | _ => 0)
    case atStart => exact ⟨0, rfl, by omega, Fr.refl _ _⟩
    case round =>
      obtain ⟨k, rfl, hk, hf⟩ := hrel
      have HF := Lib.hid hf
      have hbr : b < wr.heap.size := Nat.lt_of_lt_of_le hbl hf.size
      have hwr : IntKind.i64.wrap (k : Int) = (k : Int) := by rw [IntKind.wrap_i64]; omega
      have hwn : IntKind.i64.wrap (n : Int) = (n : Int) := by rw [IntKind.wrap_i64]; omega
      by_cases hlt : k < n + 1
      · obtain ⟨t, ht⟩ : ∃ t, ts[k]? = some t := ⟨_, List.getElem?_eq_getElem (by rw [HN.out]; exact hlt)⟩
        obtain ⟨d0, d1, -⟩ := HCELL.out wr hf k t ht
        obtain ⟨r1, r2, r3, r4, r5⟩ := rises_at ts _ _ _ _ HR.out ht
        have hprev : ∀ m, k = m + 1 → ∃ u : Tk, u.p < t.p ∧ wr.cell? ⟨b, m * 6 + 1, none⟩ = some (.int .i64 (u.p : Int)) := by
          rintro m rfl
          obtain ⟨u, hu⟩ : ∃ u, ts[m]? = some u := ⟨_, List.getElem?_eq_getElem (by rw [HN.out]; omega)⟩
          exact ⟨u, r5 u (by omega) hu, (HCELL.out wr hf m u hu).2.1⟩
        clear r5 ht hf
        rw [HN.out] at r3 r4
        obtain ⟨tk, tp, tl, tv⟩ := t
        dsimp only at *
        have r2' : ¬ src.length < tp := by omega
        have HPREV := Lib.hid hprev; clear hprev
        by_cases hkn : k = n
        · obtain rfl : tp = src.length := r4 (by omega)
          obtain rfl : tk = 0 := r3.2 (by omega)
          subst hkn
          clear r3 r4 r1 r2
          by_cases h0 : 0 < k
          · obtain ⟨m, hm⟩ : ∃ m, k = m + 1 := ⟨k - 1, by omega⟩
            obtain ⟨u, hu, du⟩ := HPREV.out m hm
            have hsub : IntKind.i64.wrap ((k : Int) - 1) = (m : Int) := by rw [IntKind.wrap_i64]; omega
            have hml : m < k + 1 := by omega
            have HM := Lib.hid hm
            clear HPREV hm
            have b0 : decide ((0 : Int) < (k : Int)) = true := decide_eq_true (by omega)
            have b2 : (k : Int) < (k : Int) + 1 := by omega
            have b4 : decide ((src.length : Int) < 0) = false := decide_eq_false (by omega)
            have b5 : decide ((src.length : Int) < (src.length : Int)) = false := decide_eq_false (by omega)
            have b1 : (m : Int) < (k : Int) + 1 := by omega
            have b3 : decide ((src.length : Int) ≤ (u.p : Int)) = false := decide_eq_false (by omega)
            go_wp2_with fail
            go_quiet (fail)
            go_wp2_with fail
            go_roundw
            case rel => exact ⟨k + 1, by go_num, by omega, HF.out.drewN _⟩
            case measure => show k + 1 - ((k : Int) + 1).toNat < k + 1 - ((k : Int)).toNat; omega
          · clear HPREV
            have b0 : decide ((0 : Int) < (k : Int)) = false := decide_eq_false (by omega)
            have b2 : (k : Int) < (k : Int) + 1 := by omega
            have b4 : decide ((src.length : Int) < 0) = false := decide_eq_false (by omega)
            have b5 : decide ((src.length : Int) < (src.length : Int)) = false := decide_eq_false (by omega)
            go_wp2_with fail
            go_quiet (fail)
            go_wp2_with fail
            go_roundw
            case rel => exact ⟨k + 1, by go_num, by omega, HF.out.drewN _⟩
            case measure => show k + 1 - ((k : Int) + 1).toNat < k + 1 - ((k : Int)).toNat; omega
        · have hb1 : ((k : Int) == (n : Int)) = false := by simp; omega
          have hb2 : ((tk : Int) == 0) = false := by simp; omega
          clear r3 r4 r1 r2
          by_cases h0 : 0 < k
          · obtain ⟨m, hm⟩ : ∃ m, k = m + 1 := ⟨k - 1, by omega⟩
            obtain ⟨u, hu, du⟩ := HPREV.out m hm
            have hsub : IntKind.i64.wrap ((k : Int) - 1) = (m : Int) := by rw [IntKind.wrap_i64]; omega
            have hml : m < n + 1 := by omega
            have HM := Lib.hid hm
            clear HPREV hm
            have b0 : decide ((0 : Int) < (k : Int)) = true := decide_eq_true (by omega)
            have b2 : (k : Int) < (n : Int) + 1 := by omega
            have b4 : decide ((tp : Int) < 0) = false := decide_eq_false (by omega)
            have b5 : decide ((src.length : Int) < (tp : Int)) = false := decide_eq_false (by omega)
            have b1 : (m : Int) < (n : Int) + 1 := by omega
            have b3 : decide ((tp : Int) ≤ (u.p : Int)) = false := decide_eq_false (by omega)
            go_wp2_with fail
            refine wp_region_M_ (G := fun a b => a = b) (S := fun W => W = wr.drew) ⟨fun _ => rfl, fun a b c h k => h.trans k, fun a b h k => k ▸ h, by kernel_rfl, fun _ _ d _ _ h => by cases d <;> exact h⟩ (by kernel_rfl) fun su => ?_
            have SU := Lib.hid su
            have HS : Hid (wr.drew = wr.drew) := Lib.hid rfl
            clear su
            refine M_move (i := 0) _ SU.out rfl rfl (by kernel_rfl) HS.out rfl ?_
            simp only [Act.put, Act.eval, Array.getD_eq_getD_getElem?, List.setIfInBounds_toArray, List.set_cons_zero, List.set_cons_succ, List.getElem?_toArray, List.getElem?_cons_zero, List.getElem?_cons_succ, Option.getD_some]
            refine M_val (i := 1) (v := .bool true) SU.out rfl (by kernel_rfl) HS.out rfl (fun W hS => ?_) ?_
            · obtain rfl := hS
              go_simp
              first | done | rfl | omega | (intro h; exfalso; omega) | (simp; done) | (simp; omega)
            simp only [Act.put, List.setIfInBounds_toArray, List.set_cons_zero, List.set_cons_succ]
            refine M_move (i := 2) _ SU.out rfl rfl (by kernel_rfl) HS.out rfl ?_
            simp only [Act.put, Act.eval, Array.getD_eq_getD_getElem?, List.setIfInBounds_toArray, List.set_cons_zero, List.set_cons_succ, List.getElem?_toArray, List.getElem?_cons_zero, List.getElem?_cons_succ, Option.getD_some]
            refine M_move (i := 3) _ SU.out rfl rfl (by kernel_rfl) HS.out rfl ?_
            simp only [Act.put, Act.eval, Array.getD_eq_getD_getElem?, List.setIfInBounds_toArray, List.set_cons_zero, List.set_cons_succ, List.getElem?_toArray, List.getElem?_cons_zero, List.getElem?_cons_succ, Option.getD_some]
            refine M_move (i := 4) _ SU.out rfl rfl (by kernel_rfl) HS.out rfl ?_
            simp only [Act.put, Act.eval, Array.getD_eq_getD_getElem?, List.setIfInBounds_toArray, List.set_cons_zero, List.set_cons_succ, List.getElem?_toArray, List.getElem?_cons_zero, List.getElem?_cons_succ, Option.getD_some]
            refine M_val (i := 5) (v := ?_) SU.out rfl (by kernel_rfl) HS.out rfl (fun W hS => ?_) ?_
            rotate_left
            · obtain rfl := hS
              go_simp
              first | done | rfl | omega | (intro h; exfalso; omega) | (simp; done) | (simp; omega)
            simp only [Act.put, List.setIfInBounds_toArray, List.set_cons_zero, List.set_cons_succ]
            refine M_val (i := 6) (v := ?_) SU.out rfl (by kernel_rfl) HS.out rfl (fun W hS => ?_) ?_
            rotate_left
            · obtain rfl := hS
              go_simp
              first | done | rfl | omega | (intro h; exfalso; omega) | (simp; done) | (simp; omega)
            simp only [Act.put, List.setIfInBounds_toArray, List.set_cons_zero, List.set_cons_succ]
            refine M_val (i := 7) (v := .int .i64 (tp : Int)) SU.out rfl (by kernel_rfl) HS.out rfl (fun W hS => ?_) ?_
            · obtain rfl := hS
              go_simp
              first | done | rfl | omega | (intro h; exfalso; omega) | (simp; done) | (simp; omega)
            simp only [Act.put, List.setIfInBounds_toArray, List.set_cons_zero, List.set_cons_succ]
            refine M_move (i := 8) _ SU.out rfl rfl (by kernel_rfl) HS.out rfl ?_
            simp only [Act.put, Act.eval, Array.getD_eq_getD_getElem?, List.setIfInBounds_toArray, List.set_cons_zero, List.set_cons_succ, List.getElem?_toArray, List.getElem?_cons_zero, List.getElem?_cons_succ, Option.getD_some]
            refine M_move (i := 9) _ SU.out rfl rfl (by kernel_rfl) HS.out rfl ?_
            simp only [Act.put, Act.eval, Array.getD_eq_getD_getElem?, List.setIfInBounds_toArray, List.set_cons_zero, List.set_cons_succ, List.getElem?_toArray, List.getElem?_cons_zero, List.getElem?_cons_succ, Option.getD_some]
            refine M_val (i := 10) (v := .int .i64 (m : Int)) SU.out rfl (by kernel_rfl) HS.out rfl (fun W hS => ?_) ?_
            · obtain rfl := hS
              go_simp
              first | done | rfl | omega | (intro h; exfalso; omega) | (simp; done) | (simp; omega)
            simp only [Act.put, List.setIfInBounds_toArray, List.set_cons_zero, List.set_cons_succ]
            refine M_val (i := 11) (v := .pointer (some ⟨b, m * 6, none⟩)) SU.out rfl (by kernel_rfl) HS.out rfl (fun W hS => ?_) ?_
            · obtain rfl := hS
              go_simp
              first | done | rfl | omega | (intro h; exfalso; omega) | (simp; done) | (simp; omega)
            simp only [Act.put, List.setIfInBounds_toArray, List.set_cons_zero, List.set_cons_succ]
            refine M_val (i := 12) (v := .pointer (some ⟨b, m * 6 + 1, none⟩)) SU.out rfl (by kernel_rfl) HS.out rfl (fun W hS => ?_) ?_
            · obtain rfl := hS
              go_simp
              first | done | rfl | omega | (intro h; exfalso; omega) | (simp; done) | (simp; omega)
            simp only [Act.put, List.setIfInBounds_toArray, List.set_cons_zero, List.set_cons_succ]
            refine M_val (i := 13) (v := .int .i64 (u.p : Int)) SU.out rfl (by kernel_rfl) HS.out rfl (fun W hS => ?_) ?_
            · obtain rfl := hS
              go_simp
              first | done | rfl | omega | (intro h; exfalso; omega) | (simp; done) | (simp; omega)
            simp only [Act.put, List.setIfInBounds_toArray, List.set_cons_zero, List.set_cons_succ]
            refine M_val (i := 14) (v := .bool false) SU.out rfl (by kernel_rfl) HS.out rfl (fun W hS => ?_) ?_
            · obtain rfl := hS
              go_simp
              first | done | rfl | omega | (intro h; exfalso; omega) | (simp; done) | (simp; omega)
            simp only [Act.put, List.setIfInBounds_toArray, List.set_cons_zero, List.set_cons_succ]
            refine M_val (i := 15) (v := .bool false) SU.out rfl (by kernel_rfl) HS.out rfl (fun W hS => ?_) ?_
            · obtain rfl := hS
              go_simp
              first | done | rfl | omega | (intro h; exfalso; omega) | (simp; done) | (simp; omega)
            simp only [Act.put, List.setIfInBounds_toArray, List.set_cons_zero, List.set_cons_succ]
            refine M_move (i := 16) _ SU.out rfl rfl (by kernel_rfl) HS.out rfl ?_
            simp only [Act.put, Act.eval, Array.getD_eq_getD_getElem?, List.setIfInBounds_toArray, List.set_cons_zero, List.set_cons_succ, List.getElem?_toArray, List.getElem?_cons_zero, List.getElem?_cons_succ, Option.getD_some]
            refine M_move (i := 17) _ SU.out rfl rfl (by kernel_rfl) HS.out rfl ?_
            simp only [Act.put, Act.eval, Array.getD_eq_getD_getElem?, List.setIfInBounds_toArray, List.set_cons_zero, List.set_cons_succ, List.getElem?_toArray, List.getElem?_cons_zero, List.getElem?_cons_succ, Option.getD_some]
            refine M_move (i := 18) _ SU.out rfl rfl (by kernel_rfl) HS.out rfl ?_
            simp only [Act.put, Act.eval, Array.getD_eq_getD_getElem?, List.setIfInBounds_toArray, List.set_cons_zero, List.set_cons_succ, List.getElem?_toArray, List.getElem?_cons_zero, List.getElem?_cons_succ, Option.getD_some]
            refine M_val (i := 19) (v := ?_) SU.out rfl (by kernel_rfl) HS.out rfl (fun W hS => ?_) ?_
            rotate_left
            · obtain rfl := hS
              go_simp
              first | done | rfl | omega | (intro h; exfalso; omega) | (simp; done) | (simp; omega)
            simp only [Act.put, List.setIfInBounds_toArray, List.set_cons_zero, List.set_cons_succ]
            refine M_val (i := 20) (v := ?_) SU.out rfl (by kernel_rfl) HS.out rfl (fun W hS => ?_) ?_
            rotate_left
            · obtain rfl := hS
              go_simp
              first | done | rfl | omega | (intro h; exfalso; omega) | (simp; done) | (simp; omega)
            simp only [Act.put, List.setIfInBounds_toArray, List.set_cons_zero, List.set_cons_succ]
            refine M_val (i := 21) (v := .int .i64 (tp : Int)) SU.out rfl (by kernel_rfl) HS.out rfl (fun W hS => ?_) ?_
            · obtain rfl := hS
              go_simp
              first | done | rfl | omega | (intro h; exfalso; omega) | (simp; done) | (simp; omega)
            simp only [Act.put, List.setIfInBounds_toArray, List.set_cons_zero, List.set_cons_succ]
            refine M_val (i := 22) (v := .bool false) SU.out rfl (by kernel_rfl) HS.out rfl (fun W hS => ?_) ?_
            · obtain rfl := hS
              go_simp
              first | done | rfl | omega | (intro h; exfalso; omega) | (simp; done) | (simp; omega)
            simp only [Act.put, List.setIfInBounds_toArray, List.set_cons_zero, List.set_cons_succ]
            refine M_val (i := 23) (v := .bool false) SU.out rfl (by kernel_rfl) HS.out rfl (fun W hS => ?_) ?_
            · obtain rfl := hS
              go_simp
              first | done | rfl | omega | (intro h; exfalso; omega) | (simp; done) | (simp; omega)
            simp only [Act.put, List.setIfInBounds_toArray, List.set_cons_zero, List.set_cons_succ]
            refine M_move (i := 24) _ SU.out rfl rfl (by kernel_rfl) HS.out rfl ?_
            simp only [Act.put, Act.eval, Array.getD_eq_getD_getElem?, List.setIfInBounds_toArray, List.set_cons_zero, List.set_cons_succ, List.getElem?_toArray, List.getElem?_cons_zero, List.getElem?_cons_succ, Option.getD_some]
            refine M_move (i := 25) _ SU.out rfl rfl (by kernel_rfl) HS.out rfl ?_
            simp only [Act.put, Act.eval, Array.getD_eq_getD_getElem?, List.setIfInBounds_toArray, List.set_cons_zero, List.set_cons_succ, List.getElem?_toArray, List.getElem?_cons_zero, List.getElem?_cons_succ, Option.getD_some]
            refine M_move (i := 26) _ SU.out rfl rfl (by kernel_rfl) HS.out rfl ?_
            simp only [Act.put, Act.eval, Array.getD_eq_getD_getElem?, List.setIfInBounds_toArray, List.set_cons_zero, List.set_cons_succ, List.getElem?_toArray, List.getElem?_cons_zero, List.getElem?_cons_succ, Option.getD_some]
            refine M_val (i := 27) (v := ?_) SU.out rfl (by kernel_rfl) HS.out rfl (fun W hS => ?_) ?_
            rotate_left
            · obtain rfl := hS
              go_simp
              first | done | rfl | omega | (intro h; exfalso; omega) | (simp; done) | (simp; omega)
            simp only [Act.put, List.setIfInBounds_toArray, List.set_cons_zero, List.set_cons_succ]
            refine M_val (i := 28) (v := ?_) SU.out rfl (by kernel_rfl) HS.out rfl (fun W hS => ?_) ?_
            rotate_left
            · obtain rfl := hS
              go_simp
              first | done | rfl | omega | (intro h; exfalso; omega) | (simp; done) | (simp; omega)
            simp only [Act.put, List.setIfInBounds_toArray, List.set_cons_zero, List.set_cons_succ]
            refine M_val (i := 29) (v := .int .i64 (tp : Int)) SU.out rfl (by kernel_rfl) HS.out rfl (fun W hS => ?_) ?_
            · obtain rfl := hS
              go_simp
              first | done | rfl | omega | (intro h; exfalso; omega) | (simp; done) | (simp; omega)
            simp only [Act.put, List.setIfInBounds_toArray, List.set_cons_zero, List.set_cons_succ]
            refine M_move (i := 30) _ SU.out rfl rfl (by kernel_rfl) HS.out rfl ?_
            simp only [Act.put, Act.eval, Array.getD_eq_getD_getElem?, List.setIfInBounds_toArray, List.set_cons_zero, List.set_cons_succ, List.getElem?_toArray, List.getElem?_cons_zero, List.getElem?_cons_succ, Option.getD_some]
            refine M_val (i := 31) (v := ?_) SU.out rfl (by kernel_rfl) HS.out rfl (fun W hS => ?_) ?_
            rotate_left
            · obtain rfl := hS
              go_simp
              first | done | rfl | omega | (intro h; exfalso; omega) | (simp; done) | (simp; omega)
            simp only [Act.put, List.setIfInBounds_toArray, List.set_cons_zero, List.set_cons_succ]
            refine M_val (i := 32) (v := .bool false) SU.out rfl (by kernel_rfl) HS.out rfl (fun W hS => ?_) ?_
            · obtain rfl := hS
              go_simp
              first | done | rfl | omega | (intro h; exfalso; omega) | (simp; done) | (simp; omega)
            simp only [Act.put, List.setIfInBounds_toArray, List.set_cons_zero, List.set_cons_succ]
            refine M_val (i := 33) (v := .bool false) SU.out rfl (by kernel_rfl) HS.out rfl (fun W hS => ?_) ?_
            · obtain rfl := hS
              go_simp
              first | done | rfl | omega | (intro h; exfalso; omega) | (simp; done) | (simp; omega)
            simp only [Act.put, List.setIfInBounds_toArray, List.set_cons_zero, List.set_cons_succ]
            refine M_move (i := 34) _ SU.out rfl rfl (by kernel_rfl) HS.out rfl ?_
            simp only [Act.put, Act.eval, Array.getD_eq_getD_getElem?, List.setIfInBounds_toArray, List.set_cons_zero, List.set_cons_succ, List.getElem?_toArray, List.getElem?_cons_zero, List.getElem?_cons_succ, Option.getD_some]
            refine M_move (i := 35) _ SU.out rfl rfl (by kernel_rfl) HS.out rfl ?_
            simp only [Act.put, Act.eval, Array.getD_eq_getD_getElem?, List.setIfInBounds_toArray, List.set_cons_zero, List.set_cons_succ, List.getElem?_toArray, List.getElem?_cons_zero, List.getElem?_cons_succ, Option.getD_some]
            refine M_move (i := 36) _ SU.out rfl rfl (by kernel_rfl) HS.out rfl ?_
            simp only [Act.put, Act.eval, Array.getD_eq_getD_getElem?, List.setIfInBounds_toArray, List.set_cons_zero, List.set_cons_succ, List.getElem?_toArray, List.getElem?_cons_zero, List.getElem?_cons_succ, Option.getD_some]
            refine M_move (i := 37) _ SU.out rfl rfl (by kernel_rfl) HS.out rfl ?_
            simp only [Act.put, Act.eval, Array.getD_eq_getD_getElem?, List.setIfInBounds_toArray, List.set_cons_zero, List.set_cons_succ, List.getElem?_toArray, List.getElem?_cons_zero, List.getElem?_cons_succ, Option.getD_some]
            refine M_val (i := 38) (v := ?_) SU.out rfl (by kernel_rfl) HS.out rfl (fun W hS => ?_) ?_
            rotate_left
            · obtain rfl := hS
              go_simp
              first | done | rfl | omega | (intro h; exfalso; omega) | (simp; done) | (simp; omega)
            simp only [Act.put, List.setIfInBounds_toArray, List.set_cons_zero, List.set_cons_succ]
            refine M_val (i := 39) (v := ?_) SU.out rfl (by kernel_rfl) HS.out rfl (fun W hS => ?_) ?_
            rotate_left
            · obtain rfl := hS
              go_simp
              first | done | rfl | omega | (intro h; exfalso; omega) | (simp; done) | (simp; omega)
            simp only [Act.put, List.setIfInBounds_toArray, List.set_cons_zero, List.set_cons_succ]
            refine M_val (i := 40) (v := .int .i64 (tk : Int)) SU.out rfl (by kernel_rfl) HS.out rfl (fun W hS => ?_) ?_
            · obtain rfl := hS
              go_simp
              first | done | rfl | omega | (intro h; exfalso; omega) | (simp; done) | (simp; omega)
            simp only [Act.put, List.setIfInBounds_toArray, List.set_cons_zero, List.set_cons_succ]
            refine M_val (i := 41) (v := .bool false) SU.out rfl (by kernel_rfl) HS.out rfl (fun W hS => ?_) ?_
            · obtain rfl := hS
              go_simp
              first | done | rfl | omega | (intro h; exfalso; omega) | (simp; done) | (simp; omega)
            simp only [Act.put, List.setIfInBounds_toArray, List.set_cons_zero, List.set_cons_succ]
            refine M_val (i := 42) (v := .bool false) SU.out rfl (by kernel_rfl) HS.out rfl (fun W hS => ?_) ?_
            · obtain rfl := hS
              go_simp
              first | done | rfl | omega | (intro h; exfalso; omega) | (simp; done) | (simp; omega)
            simp only [Act.put, List.setIfInBounds_toArray, List.set_cons_zero, List.set_cons_succ]
            refine M_val (i := 43) (v := .bool false) SU.out rfl (by kernel_rfl) HS.out rfl (fun W hS => ?_) ?_
            · obtain rfl := hS
              go_simp
              first | done | rfl | omega | (intro h; exfalso; omega) | (simp; done) | (simp; omega)
            simp only [Act.put, List.setIfInBounds_toArray, List.set_cons_zero, List.set_cons_succ]
            refine M_move (i := 44) _ SU.out rfl rfl (by kernel_rfl) HS.out rfl ?_
            simp only [Act.put, Act.eval, Array.getD_eq_getD_getElem?, List.setIfInBounds_toArray, List.set_cons_zero, List.set_cons_succ, List.getElem?_toArray, List.getElem?_cons_zero, List.getElem?_cons_succ, Option.getD_some]
            refine M_move (i := 45) _ SU.out rfl rfl (by kernel_rfl) HS.out rfl ?_
            simp only [Act.put, Act.eval, Array.getD_eq_getD_getElem?, List.setIfInBounds_toArray, List.set_cons_zero, List.set_cons_succ, List.getElem?_toArray, List.getElem?_cons_zero, List.getElem?_cons_succ, Option.getD_some]
            refine M_move (i := 46) _ SU.out rfl rfl (by kernel_rfl) HS.out rfl ?_
            simp only [Act.put, Act.eval, Array.getD_eq_getD_getElem?, List.setIfInBounds_toArray, List.set_cons_zero, List.set_cons_succ, List.getElem?_toArray, List.getElem?_cons_zero, List.getElem?_cons_succ, Option.getD_some]
            refine M_skip (i := 47) SU.out rfl (by kernel_rfl) HS.out rfl ?_
            simp only [Act.put, List.setIfInBounds_toArray, List.set_cons_zero, List.set_cons_succ]
            refine M_skip (i := 48) SU.out rfl (by kernel_rfl) HS.out rfl ?_
            simp only [Act.put, List.setIfInBounds_toArray, List.set_cons_zero, List.set_cons_succ]
            refine M_skip (i := 49) SU.out rfl (by kernel_rfl) HS.out rfl ?_
            simp only [Act.put, List.setIfInBounds_toArray, List.set_cons_zero, List.set_cons_succ]
            refine M_skip (i := 50) SU.out rfl (by kernel_rfl) HS.out rfl ?_
            simp only [Act.put, List.setIfInBounds_toArray, List.set_cons_zero, List.set_cons_succ]
            refine M_skip (i := 51) SU.out rfl (by kernel_rfl) HS.out rfl ?_
            simp only [Act.put, List.setIfInBounds_toArray, List.set_cons_zero, List.set_cons_succ]
            refine M_skip (i := 52) SU.out rfl (by kernel_rfl) HS.out rfl ?_
            simp only [Act.put, List.setIfInBounds_toArray, List.set_cons_zero, List.set_cons_succ]
            refine M_skip (i := 53) SU.out rfl (by kernel_rfl) HS.out rfl ?_
            simp only [Act.put, List.setIfInBounds_toArray, List.set_cons_zero, List.set_cons_succ]
            refine M_skip (i := 54) SU.out rfl (by kernel_rfl) HS.out rfl ?_
            simp only [Act.put, List.setIfInBounds_toArray, List.set_cons_zero, List.set_cons_succ]
            refine M_val (i := 55) (v := .bool false) SU.out rfl (by kernel_rfl) HS.out rfl (fun W hS => ?_) ?_
            · obtain rfl := hS
              go_simp
              first | done | rfl | omega | (intro h; exfalso; omega) | (simp; done) | (simp; omega)
            simp only [Act.put, List.setIfInBounds_toArray, List.set_cons_zero, List.set_cons_succ]
            refine M_val (i := 56) (v := .bool false) SU.out rfl (by kernel_rfl) HS.out rfl (fun W hS => ?_) ?_
            · obtain rfl := hS
              go_simp
              first | done | rfl | omega | (intro h; exfalso; omega) | (simp; done) | (simp; omega)
            simp only [Act.put, List.setIfInBounds_toArray, List.set_cons_zero, List.set_cons_succ]
            refine wpAnyM_done (by kernel_rfl) (fun w' hG => ?_)
            obtain rfl := hG
            go_wp2_with fail
            go_roundw
            case rel => exact ⟨k + 1, by go_num, by omega, HF.out.drew⟩
            case measure => show n + 1 - ((k : Int) + 1).toNat < n + 1 - ((k : Int)).toNat; omega
          · clear HPREV
            have b0 : decide ((0 : Int) < (k : Int)) = false := decide_eq_false (by omega)
            have b2 : (k : Int) < (n : Int) + 1 := by omega
            have b4 : decide ((tp : Int) < 0) = false := decide_eq_false (by omega)
            have b5 : decide ((src.length : Int) < (tp : Int)) = false := decide_eq_false (by omega)
            go_wp2_with fail
            go_quiet (fail)
            go_wp2_with fail
            go_roundw
            case rel => exact ⟨k + 1, by go_num, by omega, HF.out.drewN _⟩
            case measure => show n + 1 - ((k : Int) + 1).toNat < n + 1 - ((k : Int)).toNat; omega
      · obtain rfl : k = n + 1 := by omega
        go_wp2_with fail
        go_ret
        exact ⟨by simp, (HF2.out.trans HF.out).below_nil⟩
theorem lexRises_open {H : Type} {enc : TypeId × Value → H} (W : World) (base : Nat) (v0 : Value) (d0 : DataW H) (p0 : List MemPlace) (k0 : Value.okWide Try.prog W .any base 22 v0)
    (h0 : DataW.Trod enc Try.prog W 0 (fun _ => true) true 22 v0 d0 p0) :
    Calls Try.prog 3 #[v0] W fun e W' => e = .returned (.bool true) ∧ Below W.heap.size W W' := by
  obtain ⟨A1, c1, b1, rfl, g1, g2, g3, g4⟩ := arg_bytes k0 h0
  exact rises_walk g4 g1 g3 g2
end Go.Proofs.Ytgbiligcppphhaa
