/-
  The lexer's pass. No conditions on the program.
-/
import Derived.Test.YtjfgopihfgljmaaDoorLex1
namespace Go.Proofs.YtjfgopihfgljmaaDoor
open Go.RowKit
set_option linter.unusedVariables false
set_option linter.unusedSimpArgs false

/-- Where the reader stands, out of its cell. -/
def posOf (w : World) (g : Nat) : Nat := match w.cell? ⟨g, 1, none⟩ with
  | some (.int _ n) => n.toNat
  | _ => 0
theorem Rdr.pos {w : World} {g : Nat} {A : Option Addr} {c : Nat} {src : List UInt8} {i : Nat} {L : Value} (h : Rdr w g A c src i L) : posOf w g = i := by
  unfold posOf; rw [h.cells.2.1]; simp
theorem drop_cons_ {src : List UInt8} {j : Nat} (h : j < src.length) : src.drop j = src.getD j 0 :: src.drop (j + 1) := by
  rw [List.drop_eq_getElem_cons h]; simp [List.getD_eq_getElem?_getD, List.getElem?_eq_getElem h]
theorem headD_drop (src : List UInt8) (j : Nat) : (src.drop j).headD 0 = src.getD j 0 := by
  rw [List.headD_eq_head?_getD, List.head?_drop, List.getD_eq_getElem?_getD]

theorem Rdr.step {w wr : World} {g : Nat} {A : Option Addr} {c : Nat} {src : List UInt8} {j : Nat} {L : Value} (h : Rdr wr g A c src j L) (hf : Fr [g] w wr) (m k : Nat) (x : Int) (hx : x = (k : Int)) (hj : j < k) (hk : k ≤ src.length) :
    Rdr ((wr.drewN m).setCell ⟨g, 1, none⟩ (.int .i64 x)) g A c src k L ∧ Fr [g] w ((wr.drewN m).setCell ⟨g, 1, none⟩ (.int .i64 x)) ∧ src.length - posOf ((wr.drewN m).setCell ⟨g, 1, none⟩ (.int .i64 x)) g < src.length - posOf wr g := by
  subst hx
  have h1 := (h.drewN m).move hk
  refine ⟨h1, (hf.drewN m).setCell (.inl (by simp)) _, ?_⟩
  rw [h1.pos, h.pos]
  omega
theorem Rdr.rel {w wr : World} {g : Nat} {A : Option Addr} {c : Nat} {src : List UInt8} {j N : Nat} {L : Value} (h : Rdr wr g A c src j L) (hf : Fr [g] w wr) (k : Nat) {m : Nat} {x : Int} (hx : x = (k : Int)) (hj : j < k) (hk : k ≤ src.length) (hN : k + skipM (src.drop k) = N) :
    ∃ j', Rdr ((wr.drewN m).setCell ⟨g, 1, none⟩ (.int .i64 x)) g A c src j' L ∧ j' + skipM (src.drop j') = N ∧ Fr [g] w ((wr.drewN m).setCell ⟨g, 1, none⟩ (.int .i64 x)) :=
  ⟨k, (h.step hf m k x hx hj hk).1, hN, (h.step hf m k x hx hj hk).2.1⟩
/-- How many bytes stand ahead of the next newline. -/
def twl (s : List UInt8) : Nat := (s.takeWhile fun d => d.toNat != 10).length
theorem twl_cons {c : UInt8} {r : List UInt8} (h : c.toNat ≠ 10) : twl (c :: r) = twl r + 1 := by
  unfold twl; rw [List.takeWhile_cons_of_pos (by simpa using h)]; rfl
theorem twl_nl {c : UInt8} {r : List UInt8} (h : c.toNat = 10) : twl (c :: r) = 0 ∧ skipM (c :: r) = 0 := by
  constructor
  · unfold twl; rw [List.takeWhile_cons_of_neg (by simpa using h)]; rfl
  · rw [skipM_cons]; simp [h]
set_option maxRecDepth 100000 in
set_option maxHeartbeats 4000000 in
theorem pass_any {w : World} {g : Nat} {A : Option Addr} {c : Nat} {src : List UInt8} {i : Nat} {L : Value} (h : Rdr w g A c src i L) :
    Calls Tryd.prog 12 #[.pointer (some ⟨g, 0, none⟩)] w fun e w' => e = .returned (.tuple #[]) ∧ Rdr w' g A c src (i + skipM (src.drop i)) L ∧ Fr [g] w w' := by
  have H := Lib.hid h
  have hl := h.len
  clear h
  obtain ⟨N, hN⟩ : ∃ N, N = i + skipM (src.drop i) := ⟨_, rfl⟩
  rw [← hN]
  have HN := Lib.hid hN; clear hN
  go_enter Tryd.func12, Tryd.ntmps12
  go_wp2_with fail
  go_loopw [2] (fun _ wr => ∃ j, Rdr wr g A c src j L ∧ j + skipM (src.drop j) = N ∧ Fr [g] w wr) (fun _ wr => src.length - posOf wr g)
  case atStart => exact ⟨i, H.out, HN.out.symm, Fr.refl _ _⟩
  case round =>
    obtain ⟨j, hr, hj, hf⟩ := hrel
    clear H HN
    have hat := hr.at_
    obtain ⟨c0, c1, c2, f1⟩ := hr.cells
    by_cases hlt : j < src.length
    · obtain ⟨a, hA, hb, e0⟩ := byte_at hr.byt hlt
      rw [drop_cons_ hlt, skipM_cons] at hj
      rw [headD_drop] at hj
      subst hA
      have HJ := Lib.hid hj; have HR := Lib.hid hr; have HF := Lib.hid hf; clear hj hr hf
      obtain ⟨q, hq⟩ : ∃ q, q = (src.getD j 0).toNat := ⟨_, rfl⟩
      rw [← hq] at e0 HJ
      have HQ := Lib.hid hq; clear hq
      go_wp2_with fail
      go_quiet (fail)
      go_wp2_with fail
      go_quiet (fail)
      by_cases hbl : q = 9 ∨ q = 13 ∨ q = 32
      · have hj' := HJ.out
        rw [if_pos hbl] at hj'
        clear HJ
        have HJ := Lib.hid hj'; clear hj'
        rcases hbl with rfl | rfl | rfl
        all_goals
          go_wp2_with fail
          go_roundw
          case rel => exact HR.out.rel HF.out (j + 1) (by omega) (by omega) (by omega) (by have := HJ.out; omega)
          case measure => exact (HR.out.step HF.out _ (j + 1) ((j : Int) + 1) (by omega) (by omega) (by omega)).2.2
      · have hj' := HJ.out
        rw [if_neg hbl] at hj'
        clear HJ
        have g1 : ((q : Int) == 9) = false := by simp; omega
        have g2 : ((q : Int) == 13) = false := by simp; omega
        have g3 : ((q : Int) == 32) = false := by simp; omega
        by_cases h92 : q = 92
        · rw [if_pos h92] at hj'
          subst h92
          have hba := fun (W : World) (h : Rdr W g (some a) c src j L) => byteAt_any h ((j : Int) + 1) (j + 1) (by omega)
          have HBA := Lib.hid hba; clear hba
          obtain ⟨p, hp⟩ : ∃ p, p = (src.getD (j + 1) 0).toNat := ⟨_, rfl⟩
          rw [← hp] at hj' HBA
          clear g1 g2 g3
          go_wp2_with fail
          go_at_call 28
          refine (HBA.out _ (HR.out.drewN _)).mono ?_
          rintro e w2 ⟨rfl, rfl⟩
          by_cases h10 : p = 10
          · rw [if_pos h10] at hj'
            have hlt2 : j + 1 < src.length := by
              rcases Nat.lt_or_ge (j + 1) src.length with hh | hh
              · exact hh
              · rw [hp] at h10; simp [List.getD_eq_getElem?_getD, List.getElem?_eq_none hh] at h10
            rw [List.drop_drop] at hj'
            subst h10
            have HJ := Lib.hid hj'; clear hj' hp
            go_wp2_with fail
            go_roundw
            case rel => exact HR.out.rel HF.out (j + 2) (by omega) (by omega) (by omega) (by have := HJ.out; rw [show j + 1 + 1 = j + 2 by omega] at this; omega)
            case measure => exact (HR.out.step HF.out _ (j + 2) ((j : Int) + 2) (by omega) (by omega) (by omega)).2.2
          · rw [if_neg h10, Nat.add_zero] at hj'
            have g4 : ((p : Int) == 10) = false := by simp; omega
            have HFIN := Lib.hid (show ∀ m, Rdr (wr.drewN m) g (some a) c src N L ∧ Fr [g] w (wr.drewN m) from fun m => ⟨hj' ▸ HR.out.drewN m, HF.out.drewN m⟩)
            clear hj' hp
            go_wp2_with fail
            refine bodyPost_ret (results_none rfl _ _ _) rfl ?_
            exact ⟨rfl, HFIN.out _⟩
        · rw [if_neg h92] at hj'
          have g5 : ((q : Int) == 92) = false := by simp; omega
          by_cases h35 : q = 35
          · rw [if_pos h35] at hj'
            subst h35
            have hj2 : j + twl (src.drop j) = N := by
              rw [drop_cons_ hlt, twl_cons (by rw [← HQ.out]; omega)]; unfold twl; omega
            have hmj : ∀ W k, Rdr W g (some a) c src k L → k ≤ src.length → j < k → src.length - posOf W g < src.length - posOf wr g := fun W k hW hk hjk' => by rw [hW.pos, HR.out.pos]; omega
            have HMJ := Lib.hid hmj; clear hmj
            have HJ := Lib.hid hj2; clear hj' hj2 g1 g2 g3 g5 e0
            go_wp2_with fail
            go_loopw [75] (fun _ w2 => ∃ k, Rdr w2 g (some a) c src k L ∧ k + twl (src.drop k) = N ∧ Fr [g] w w2 ∧ j ≤ k ∧ (k < src.length → (src.getD k 0).toNat = 10 → j < k)) (fun _ w2 => src.length - posOf w2 g)
            case atStart => exact ⟨j, HR.out.drewN _, HJ.out, HF.out.drewN _, Nat.le_refl _, fun _ e => by have := HQ.out; omega⟩
            case round =>
              obtain ⟨k, hr2, hk2, hf2, hjk, hnl⟩ := hrel
              have hat2 := hr2.at_
              obtain ⟨d0, d1, d2, df⟩ := hr2.cells
              by_cases hlt2 : k < src.length
              · obtain ⟨a2, ha2, hb2, k0⟩ := byte_at hr2.byt hlt2
                injection ha2 with ha2; subst ha2
                rw [drop_cons_ hlt2] at hk2
                have hnl' := hnl hlt2
                obtain ⟨p, hp⟩ : ∃ p, p = (src.getD k 0).toNat := ⟨_, rfl⟩
                rw [← hp] at k0 hnl'
                have HR2 := Lib.hid hr2; have HF2 := Lib.hid hf2
                by_cases h10 : p = 10
                · have hjk' := hnl' h10
                  have HK : Hid (k + skipM (src.drop k) = N) := Lib.hid (by rw [(twl_nl (by omega)).1] at hk2; rw [drop_cons_ hlt2, (twl_nl (by omega)).2]; exact hk2)
                  subst h10
                  clear hk2 hp hr2 hf2 hnl hnl'
                  go_wp2_with fail
                  go_quiet (fail)
                  go_wp2_with fail
                  go_roundw
                  case rel => exact ⟨k, HR2.out.drewN _, HK.out, HF2.out.drewN _⟩
                  case measure => exact HMJ.out _ _ (HR2.out.drewN _) hat2 hjk'
                · rw [twl_cons (by omega)] at hk2
                  have g7 : ((p : Int) == 10) = false := by simp; omega
                  have HK := Lib.hid hk2
                  have HP := Lib.hid hp
                  clear hk2 hp hr2 hf2 hnl hnl'
                  go_wp2_with fail
                  go_quiet (fail)
                  go_wp2_with fail
                  go_roundw
                  case rel =>
                    have hs := fun m => HR2.out.step HF2.out m (k + 1) ((k : Int) + 1) (by omega) (by omega) (by omega)
                    exact ⟨k + 1, (hs _).1, by have := HK.out; omega, (hs _).2.1, by omega, fun _ _ => by omega⟩
                  case measure => exact (HR2.out.step HF2.out _ (k + 1) ((k : Int) + 1) (by omega) (by omega) (by omega)).2.2
              · have HK : Hid (k + skipM (src.drop k) = N) := Lib.hid (by
                  have h0 : src.drop k = [] := List.drop_eq_nil_of_le (by omega)
                  rw [h0] at hk2 ⊢
                  exact hk2)
                have HR2 := Lib.hid hr2; have HF2 := Lib.hid hf2
                have hjk' : j < k := by omega
                clear hk2 hr2 hf2 hnl
                go_wp2_with fail
                go_quiet (fail)
                go_wp2_with fail
                go_roundw
                case rel => exact ⟨k, HR2.out.drewN _, HK.out, HF2.out.drewN _⟩
                case measure => exact HMJ.out _ _ (HR2.out.drewN _) hat2 hjk'
          · rw [if_neg h35, Nat.add_zero] at hj'
            have g6 : ((q : Int) == 35) = false := by simp; omega
            have HFIN := Lib.hid (show ∀ m, Rdr (wr.drewN m) g (some a) c src N L ∧ Fr [g] w (wr.drewN m) from fun m => ⟨hj' ▸ HR.out.drewN m, HF.out.drewN m⟩)
            clear hj'
            go_wp2_with fail
            refine bodyPost_ret (results_none rfl _ _ _) rfl ?_
            exact ⟨rfl, HFIN.out _⟩
    · have hjl : j = src.length := by omega
      have h0 : src.drop j = [] := List.drop_eq_nil_of_le (by omega)
      rw [h0] at hj
      have HFIN := Lib.hid (show ∀ m, Rdr (wr.drewN m) g A c src N L ∧ Fr [g] w (wr.drewN m) from fun m => ⟨(show j = N from hj) ▸ hr.drewN m, hf.drewN m⟩)
      clear hj h0 hr hf
      go_wp2_with fail
      go_quiet (fail)
      go_wp2_with fail
      go_end0
      exact ⟨rfl, HFIN.out _⟩
end Go.Proofs.YtjfgopihfgljmaaDoor
