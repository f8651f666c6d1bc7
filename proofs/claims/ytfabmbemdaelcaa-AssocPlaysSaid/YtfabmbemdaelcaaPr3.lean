/-
  The document's list in memory: Drop. No conditions.
-/
import Derived.Test.YtfabmbemdaelcaaPr2
namespace Go.Proofs.Ytfabmbemdaelcaa.C
open Go.RowKit Go.ChangeShapes Go.WideShapes Go.Maps
set_option linter.unusedVariables false
set_option linter.unusedSimpArgs false

/-- A list one longer. -/
theorem pr_snoc {w wa w' : World} {A : Option Addr} {c : Nat} {x : LP} {p : List UInt8 × CV} {v' : Value} (hown : w'.ownsRow 0 63 6 v' (x.length + 1) (x.flatMap cellsP ++ cellsP p)) : PR w' v' (x ++ [p]) := by
  have hl : (x ++ [p]).length = x.length + 1 := by simp
  have hfl : (x ++ [p]).flatMap cellsP = x.flatMap cellsP ++ cellsP p := by simp
  obtain ⟨A', c', rfl⟩ := RR.own_form hown (by omega)
  exact ⟨A', c', by rw [hl], fun e => by simp at e, by rw [hl, hfl]; exact hown⟩
set_option maxRecDepth 100000 in
set_option maxHeartbeats 4000000 in
theorem dropP_any {w : World} {v : Value} {x : LP} (h : PR w v x) (k : List UInt8) (hx : x.length ≤ 900) :
    Calls Try.prog 22 #[v, .string ⟨k.toArray⟩] w (SetPostP w (dropP x k)) := by
  obtain ⟨i0, hi0, hz0, hz1, hz2⟩ := pairParts
  obtain ⟨A, c, rfl⟩ := h.form
  obtain ⟨n, hn⟩ : ∃ n, n = x.length := ⟨_, rfl⟩
  have HP := Lib.hid h; have HN := Lib.hid hn
  rw [← hn] at hx ⊢
  clear h hn
  go_enter Try.func22, Try.ntmps22
  go_wp2_with fail
  go_loopw [5, 6] (fun v5 v6 wr => ∃ (i : Nat), v6 = .int .i64 (i : Int) ∧ i ≤ n ∧ PR wr v5 (dropP (x.take i) k) ∧ Fr [] w wr ∧ ∀ b, v5.ownBlock = some b → w.heap.size ≤ b) (fun _ v6 _ => n - (intOf v6).toNat)
  case atStart => exact ⟨0, rfl, by omega, by simpa [dropP] using PR.nil_ w, Fr.refl _ _, fun b hb => by cases hb⟩
  case round =>
    obtain ⟨i, rfl, hi, hpr, hf, hblk⟩ := hrel
    have HPR := Lib.hid hpr; have HF := Lib.hid hf; have HBLK := Lib.hid hblk
    clear hpr hf hblk
    by_cases hlt : i < n
    · obtain ⟨p, hp⟩ : ∃ p, x[i]? = some p := ⟨_, List.getElem?_eq_getElem (by rw [← HN.out]; exact hlt)⟩
      have htk := dropP_take x k i p hp
      obtain ⟨b, c', hs, hb, c0, c1, c2, c3, c4, c5⟩ := (HP.out.fr_nil HF.out).at_ hp
      injection hs with hs _ _; subst hs
      obtain ⟨q, y⟩ := p
      dsimp only at c0 c1 c2 c3 c4 c5 htk
      have HTK := Lib.hid htk; clear hp htk
      by_cases he : q = k
      · subst he
        go_wp2_with fail
        go_roundw
        case rel => exact ⟨i + 1, by go_num, by omega, by rw [HTK.out, if_pos rfl, List.append_nil]; exact HPR.out, HF.out, HBLK.out⟩
        case measure => first | (simp [intOf]; done) | (simp [intOf]; omega)
      · have g1 : (q == k) = false := beq_eq_false_iff_ne.2 he
        obtain ⟨z, hz⟩ : ∃ z, z = dropP (x.take i) k := ⟨_, rfl⟩
        have hpr := HPR.out
        rw [← hz] at hpr
        obtain ⟨A5, c5', rfl⟩ := hpr.form
        have hzl : z.length ≤ i := by
          rw [hz]; unfold dropP
          have h1 := List.length_filter_le (fun p : List UInt8 × CV => p.1 != k) (x.take i)
          rw [List.length_take] at h1; omega
        have hown : wr.ownsRow 0 63 6 (.slice A5 z.length c5') z.length (z.flatMap cellsP) := by
          obtain ⟨A', c'', e, -, h2⟩ := hpr
          exact h2
        have HOWN := Lib.hid hown; have HZ := Lib.hid hz
        obtain ⟨m, hm⟩ : ∃ m, m = z.length := ⟨_, rfl⟩
        have HM := Lib.hid hm
        rw [← hm] at hzl HOWN HBLK ⊢
        clear hown hz hpr hm HPR
        go_wp2_with (at_builtin; refine RR.wpList_append_R rfl (.tmp 20) (.tmp 25) 53 rfl 0 63 i0 _ 6 64 Try.underlying53 hi0 hz0 hz1 hz2 rfl (by omega) (.slice A5 m c5') m (z.flatMap cellsP) (by first | rfl | (simp [Act.eval]; done)) (RR.own_fr HOWN.out ((Fr.refl [] wr).alloc _) (by simp)) ⟨wr.heap.size, 0, none⟩ 1 1 [.string ⟨q.toArray⟩, .int .i64 y.k, .string ⟨y.s.toArray⟩, .bool y.n, .int .u64 y.h, .int .u64 y.l] (by first | rfl | (simp [Act.eval]; done)) rfl (six_new wr 63 _ _ _ _ _ _) (by simp [Value.oneCell']) (by unfold maxLen; omega) (by omega) (Nat.zero_le _) ?_; intro v' w4 hown4 hgr hat; have HOWN4 := Lib.hid hown4; have HGR := Lib.hid hgr; have HAT := Lib.hid hat; clear hown4 hgr hat)
        go_roundw
        case rel =>
          refine ⟨i + 1, by go_num, by omega, ?_, ?_, ?_⟩
          · rw [HTK.out, if_neg he, ← HZ.out]
            have h1 := HOWN4.out
            rw [HM.out] at h1
            exact pr_snoc (A := none) (c := 0) (w := w4) (wa := w4) h1
          · exact (HF.out.trans ((Fr.refl [] wr).alloc _)).trans' ((Fr.refl (Value.slice A5 m c5').ownBlock.toList _).grown HGR.out (fun g' e => .inl (by simp [e]))) (fun b hb => .inr (HBLK.out b (by simpa using hb)))
          · intro b hb
            have h8 := HF.out.size
            rcases HAT.out with h | h
            · rw [h] at hb; exact HBLK.out b hb
            · rw [h] at hb; injection hb with hb; simp at hb; omega
        case measure => first | (simp [intOf]; done) | (simp [intOf]; omega)
    · obtain rfl : i = n := by omega
      have hpr := HPR.out
      rw [HN.out, List.take_length] at hpr
      have HPR2 := Lib.hid hpr
      clear hpr HPR
      go_wp2_with fail
      go_ret
      exact ⟨_, rfl, HPR2.out, HF.out, HBLK.out⟩
end Go.Proofs.Ytfabmbemdaelcaa.C
