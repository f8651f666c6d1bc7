/-
  The lexer's quoted and regex. No conditions on the program.
-/
import Derived.Test.YtjfgopihfgljmaaDoorLex3
namespace Go.Proofs.YtjfgopihfgljmaaDoor
open Go.RowKit
set_option linter.unusedVariables false
set_option linter.unusedSimpArgs false

theorem u8parts : ∃ i, Tryd.prog.info? 5 = some i ∧ i.zero = some (.int .u8 0) ∧ i.size = 1 ∧ i.bytes = 1 := info_parts (by kernel_rfl)
/-- What 'quoted' answers: the inside of what is quoted, and the reader behind it; or an error. -/
def QuotPost (w : World) (g : Nat) (A : Option Addr) (c : Nat) (src : List UInt8) (i : Nat) (L : Value) (q : Nat) (e : Ending) (w' : World) : Prop :=
  match quotM q (src.drop (i + 1)) with
  | some n => ∃ X cx, e = .returned (.tuple #[.slice X n cx, .nilIface]) ∧ Bytes w' X ((src.drop (i + 1)).take n) ∧ (∀ a, X = some a → a.block < g) ∧ Rdr w' g A c src (i + n + 2) L ∧ Fr [g] w w' ∧ n ≤ cx ∧ (X = none → cx = 0)
  | none => ∃ b, e = .returned (.tuple #[.slice none 0 0, .iface 34 (.pointer (some ⟨b, 0, none⟩))]) ∧ fltV w' (.iface 34 (.pointer (some ⟨b, 0, none⟩))) i 7 ∧ Rdr w' g A c src i L ∧ Fr [g] w w'
set_option maxRecDepth 100000 in
set_option maxHeartbeats 4000000 in
theorem quoted_any {w : World} {g : Nat} {A : Option Addr} {c : Nat} {src : List UInt8} {i : Nat} {L : Value} (h : Rdr w g A c src i L) (hi : i < src.length) (q : Nat) (hq : q = 34 ∨ q = 47) :
    Calls Tryd.prog 45 #[.pointer (some ⟨g, 0, none⟩), .int .u8 (q : Int)] w (QuotPost w g A c src i L q) := by
  have H := Lib.hid h
  have hl := h.len
  obtain ⟨c0, c1, c2, f1⟩ := h.cells
  obtain ⟨i0, hi0, hz0, hz1, hz2⟩ := u8parts
  have hq10 : q ≠ 10 ∧ q ≠ 92 ∧ q < 256 := by omega
  clear h hq
  go_enter Tryd.func45, Tryd.ntmps45
  go_wp2_with fail
  go_loopw [7] (fun v7 wr => ∃ k : Nat, v7 = .int .i64 (k : Int) ∧ wr = w ∧ i < k ∧ k ≤ src.length + 1 ∧ quotM q (src.drop (i + 1)) = (quotM q (src.drop k)).map (· + (k - (i + 1)))) (fun v7 _ => src.length + 1 - (intOf v7).toNat)
  case atStart => exact ⟨i + 1, by go_num, rfl, by omega, by omega, by simp⟩
  case round =>
    obtain ⟨k, rfl, rfl, hik, hkl, hk⟩ := hrel
    by_cases hlt : k < src.length
    · obtain ⟨a, rfl, hb, e0⟩ := byte_at H.out.byt hlt
      rw [drop_cons_ hlt, quotM_cons, headD_drop] at hk
      obtain ⟨p, hp⟩ : ∃ p, p = (src.getD k 0).toNat := ⟨_, rfl⟩
      rw [← hp] at e0 hk
      have HP := Lib.hid hp; clear hp
      have HK := Lib.hid hk; clear hk
      by_cases h10 : p = 10
      · subst h10
        go_wp2_with fail
        go_at_call 11
        refine (fault_any i 7 _).mono ?_
        rintro e w2 ⟨b, rfl, hfl, hf⟩
        have hfin : QuotPost wr g (some a) c src i L q (.returned (.tuple #[.slice none 0 0, .iface 34 (.pointer (some ⟨b, 0, none⟩))])) w2 := by
          unfold QuotPost; rw [HK.out]; exact ⟨b, rfl, hfl, H.out.fr_nil hf, hf.nil_⟩
        have HFIN := Lib.hid hfin; clear hfin hfl hf
        go_wp2_with fail
        go_ret2
        exact HFIN.out
      rw [if_neg h10] at HK
      have g10 : ((p : Int) == 10) = false := by simp; omega
      by_cases hpq : p = q
      · have hk := HK.out
        rw [if_pos hpq] at hk
        subst hpq
        have HK2 := Lib.hid hk; clear hk HK
        have hmv := H.out.move (j := k + 1) (by omega)
        rw [show ((k + 1 : Nat) : Int) = (k : Int) + 1 by omega] at hmv
        have HMV := Lib.hid hmv; clear hmv
        have HBT : Hid (At (wr.setCell ⟨g, 1, none⟩ (.int .i64 ((k : Int) + 1))) (some a) (byteVals src)) := Lib.hid HMV.out.byt
        have HCP := Lib.hid H.out.cap
        go_wp2_with (refine wpList_cut rfl 22 (.tmp 51) (some (.tmp 53)) (some (.tmp 54)) none rfl 5 i0 Tryd.underlying22 hi0 hz1 (some a) src.length c (by first | rfl | (simp [Act.eval]; done)) (byteVals src) HBT.out (byteVals_length _) HCP.out (by intro h; cases h) (i + 1) k c (.inr (by first | rfl | (simp [Act.eval]; done))) (.inr (by first | rfl | (simp [Act.eval]; done))) (.inl ⟨rfl, rfl⟩) (by omega) (by have := HCP.out; omega) (Nat.le_refl _) (by omega) ?_; intro X hX hX0 hXb; have HXA := Lib.hid hX; have HX0 := Lib.hid hX0; have HXB := Lib.hid hXb; clear hX hX0 hXb)
        go_ret2
        unfold QuotPost
        rw [HK2.out]
        refine ⟨X, c - (i + 1), by simp, ?_, ?_, ?_, (Fr.refl _ _).setCell (.inl (by simp)) _, by have := H.out.cap; simp; omega, fun h => HX0.out h⟩
        · have := HXA.out
          simpa [Bytes, byteVals, List.map_take, List.map_drop] using this
        · intro b hb'
          obtain ⟨a', ha', hbb⟩ := HXB.out b hb'
          rw [hbb]; exact H.out.lt_ (by intro e; rw [e] at hi; simp at hi) a' ha'
        · have := HMV.out
          rw [show i + (0 + (k - (i + 1))) + 2 = k + 1 by omega]
          simpa using this
      rw [if_neg hpq] at HK
      have gq : ((p : Int) == (q : Int)) = false := by simp; omega
      by_cases h92 : p = 92
      · have hk := HK.out
        rw [if_pos h92] at hk
        subst h92
        clear HK
        have hba := byteAt_any H.out ((k : Int) + 1) (k + 1) (by omega)
        obtain ⟨r, hr⟩ : ∃ r, r = (src.getD (k + 1) 0).toNat := ⟨_, rfl⟩
        rw [← hr] at hk hba
        have HBA := Lib.hid hba; clear hba
        by_cases hr10 : r = 10
        · have hlt2 : k + 1 < src.length := by
            rcases Nat.lt_or_ge (k + 1) src.length with hh | hh
            · exact hh
            · rw [hr] at hr10; simp [List.getD_eq_getElem?_getD, List.getElem?_eq_none hh] at hr10
          have HK : Hid (quotM q (src.drop (i + 1)) = (quotM q (src.drop (k + 1))).map (· + (k + 1 - (i + 1)))) := Lib.hid (by
            rw [if_pos (.inr hr10)] at hk
            rw [hk, drop_cons_ hlt2, quotM_cons, if_pos (by rw [← hr]; exact hr10)]; rfl)
          subst hr10
          clear hk hr
          go_wp2_with fail
          go_at_call 28
          refine HBA.out.mono ?_
          rintro e w2 ⟨rfl, rfl⟩
          go_wp2_with fail
          go_roundw
          case rel => exact ⟨k + 1, by go_num, True.intro, by omega, by omega, HK.out⟩
          case measure => simp [intOf]; omega
        · have HK : Hid (quotM q (src.drop (i + 1)) = (quotM q (src.drop (k + 2))).map (· + (k + 2 - (i + 1)))) := Lib.hid (by
            by_cases hz : src.drop (k + 1) = []
            · rw [if_pos (.inl hz)] at hk
              have : src.drop (k + 2) = [] := by rw [← List.drop_drop (i := 1) (j := k + 1), hz]; rfl
              rw [hk, this]; rfl
            · rw [if_neg (by rintro (h | h); exact hz h; exact hr10 h), List.drop_drop] at hk
              rw [hk, Option.map_map]
              congr 1
              funext x
              simp; omega)
          have gr : ((r : Int) == 10) = false := by simp; omega
          clear hk
          have HR := Lib.hid hr; clear hr
          go_wp2_with fail
          go_at_call 28
          refine HBA.out.mono ?_
          rintro e w2 ⟨rfl, rfl⟩
          go_wp2_with fail
          go_roundw
          case rel => exact ⟨k + 2, by go_num, True.intro, by omega, by omega, HK.out⟩
          case measure => simp [intOf]; omega
      · have HK2 : Hid (quotM q (src.drop (i + 1)) = (quotM q (src.drop (k + 1))).map (· + (k + 1 - (i + 1)))) := Lib.hid (by
          have hk := HK.out
          rw [if_neg h92] at hk
          rw [hk, Option.map_map]
          congr 1
          funext x
          simp; omega)
        have g92 : ((p : Int) == 92) = false := by simp; omega
        clear HK
        go_wp2_with fail
        go_roundw
        case rel => exact ⟨k + 1, by go_num, True.intro, by omega, by omega, HK2.out⟩
        case measure => simp [intOf]; omega
    · have h0 : src.drop k = [] := List.drop_eq_nil_of_le (by omega)
      rw [h0] at hk
      have HK := Lib.hid hk; clear hk h0
      go_wp2_with fail
      go_at_call 11
      refine (fault_any i 7 _).mono ?_
      rintro e w2 ⟨b, rfl, hfl, hf⟩
      have hfin : QuotPost wr g A c src i L q (.returned (.tuple #[.slice none 0 0, .iface 34 (.pointer (some ⟨b, 0, none⟩))])) w2 := by
        unfold QuotPost; rw [HK.out]; exact ⟨b, rfl, hfl, H.out.fr_nil hf, hf.nil_⟩
      have HFIN := Lib.hid hfin; clear hfin hfl hf
      go_wp2_with fail
      go_ret2
      exact HFIN.out
end Go.Proofs.YtjfgopihfgljmaaDoor
