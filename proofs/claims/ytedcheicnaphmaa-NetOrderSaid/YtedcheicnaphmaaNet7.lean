/-
  Read, Write of a net's wire. No conditions on the program.
-/
import Derived.Test.YtedcheicnaphmaaNet6
namespace Go.Proofs.Ytedcheicnaphmaa
open Go.RowKit
set_option linter.unusedVariables false
set_option linter.unusedSimpArgs false

/-- How many of m bytes n asks for. -/
def clampN (n : Int) (m : Nat) : Nat := if n < 0 then 0 else if (m : Int) ≤ n then m else n.toNat
theorem clampN_max {n : Int} {m k : Nat} (hk : k = clampN n m) : max 0 (min n (m : Int)) = (k : Int) := by
  subst hk
  unfold clampN
  split
  · omega
  · split <;> omega
theorem clampN_le (n : Int) (m : Nat) : clampN n m ≤ m := by unfold clampN; split; omega; split <;> omega
theorem grown_refl (w : World) (row : Option Nat) : w.grownBy w row := ⟨rfl, rfl, rfl, Nat.le_refl _, fun _ _ _ => rfl⟩
theorem clone_n {w : World} {A : Option Addr} {bs : List UInt8} {n c : Nat} (hn : bs.length = n) (h : Bytes w A bs) (hA : A = none → c = 0) (hc : bs.length ≤ c) (hl : bs.length ≤ 1000000000) : Calls Try.prog 24 #[.slice A n c] w (ClonePost w bs) := by
  subst hn; exact clone_any h hA hc hl
theorem settle_inn (x : Wr) : (settleW x).inn = x.inn := by unfold settleW; split <;> rfl
theorem settle_en (x : Wr) : (settleW x).en = x.en := by unfold settleW; split <;> rfl

set_option maxRecDepth 100000 in
set_option maxHeartbeats 2000000 in
theorem read_yes {w : World} {B n : Nat} {now : Int} {ws : List Wr} (h : NetS w B n now ws) (hB : B ≤ w.heap.size) (hlen : ws.length ≤ 64) {k : Nat} (hk : k < ws.length) (x : Wr) (hx : ws.getD k default = x) (hst : x.st = 1) (hl : x.inn.length ≤ 65536) (most : Int) (kk : Nat) (hkk : kk = clampN most x.inn.length) :
    Calls Try.prog 16 #[.pointer (some ⟨n, 0, none⟩), .int .i64 ((k : Int) + 1), .int .i64 most] w fun e w' => ∃ A c, e = .returned (.tuple #[.slice A kk c, .bool (x.en && decide (x.inn.length = kk)), .nilIface]) ∧ Bytes w' A (x.inn.take kk) ∧
      (∃ v G IV GV, NetR w' B n now (ws.set k (settleW { x with inn := x.inn.drop kk })) v G IV GV ∧ ∀ a, A = some a → (GV k).ownBlock ≠ some a.block ∧ G k ≠ a.block) ∧ NFr B w w' := by
  obtain ⟨v, G, IV, GV, h⟩ := h
  have hkl : kk ≤ x.inn.length := by rw [hkk]; exact clampN_le _ _
  have hw := h.wire k hk
  rw [hx] at hw
  obtain ⟨A, cap, hiv, hat, hl1, hl2, hA, hob⟩ := (h.inn k hk).at_
  rw [hx, byteVals_length] at hiv
  rw [hx] at hat hl1
  rw [byteVals_length] at hl1
  obtain ⟨-, -, d2, -⟩ := w_cells hw
  rw [hiv] at d2
  obtain ⟨i0, hi0, hz0, hz1, hz2⟩ := u8parts
  have htk : (x.inn.take kk).length = kk := by simp; omega
  have tk : ∀ X, At w X (((byteVals x.inn).drop 0).take (kk - 0)) → At w X (byteVals (x.inn.take kk)) := fun X h => by simpa [byteVals] using h
  have HTK := Lib.hid tk; have HV := Lib.hid (clampN_max hkk); have HTL := Lib.hid htk
  have H := Lib.hid h; have HIV := Lib.hid hiv; have HX := Lib.hid hx; have HAT := Lib.hid hat; have HAN := Lib.hid hA
  have hup := up_yes h hlen k hk (by rw [hx]; exact hst)
  have HUP := Lib.hid hup
  clear h hw hat hA hob hiv hx tk htk hkk hup
  unfold maxLen at hl2
  go_enter Try.func16, Try.ntmps16
  go_wp2_with fail
  go_at_call 23
  refine HUP.out.mono ?_
  rintro e w1 ⟨rfl, rfl⟩
  go_wp2_with (first
    | (refine wpList_min rfl (.tmp 20) (.tmp 26) _ rfl _ _ _ (min most (x.inn.length : Int)) (by first | rfl | (simp [Act.eval]; done)) (by first | rfl | (simp [Act.eval]; done)) rfl ?_)
    | (refine wpList_max rfl (.const (.int .i64 0)) (.tmp 27) _ rfl _ _ _ (kk : Int) (by first | rfl | (simp [Act.eval]; done)) (by first | rfl | (simp [Act.eval]; done)) HV.out ?_)
    | (refine wpList_cut rfl 32 (.tmp 33) none (some (.tmp 34)) none rfl 5 i0 Try.underlying32 hi0 hz1 A x.inn.length cap (by first | rfl | (simp [Act.eval]; done)) (byteVals x.inn) HAT.out (byteVals_length _) hl1 HAN.out 0 kk cap (.inl ⟨rfl, rfl⟩) (.inr (by first | rfl | (simp [Act.eval]; done))) (.inl ⟨rfl, rfl⟩) (by omega) (by omega) (by omega) (by omega) ?_; intro X hX hX0 _; have HXA := Lib.hid (HTK.out X hX); have HX0 := Lib.hid hX0; clear hX hX0))
  go_at_call 24
  refine (clone_n HTL.out HXA.out HX0.out (by rw [HTL.out]; omega) (by rw [HTL.out]; omega)).mono ?_
  rintro e w2 ⟨A2, c2, rfl, hb2, -, -, -, hf2, hnw⟩
  rw [HTL.out]
  have h2 := H.out.fr_nil hf2
  have hw2 := h2.wire k hk
  rw [HX.out, HIV.out] at hw2
  have ho2 := h2.inn k hk
  rw [HX.out, HIV.out] at ho2
  have d22 : w2.cell? ⟨G k, 2, none⟩ = some (.slice A x.inn.length cap) := hw2.cell_ (i := 2) rfl
  have f22 := hw2.frozen 2
  have H2 := Lib.hid h2; have HO2 := Lib.hid ho2; have HB2 := Lib.hid hb2; have HF2 := Lib.hid hf2; have HW2 := Lib.hid hw2; have HNW := Lib.hid hnw
  clear h2 hw2 ho2 hb2 hf2 hnw d2
  go_wp2_with (refine wpList_cut_Own rfl 32 (.tmp 42) (some (.tmp 43)) rfl 5 i0 Try.underlying32 hi0 hz1 A x.inn.length cap (by first | rfl | (simp [Act.eval]; done)) (byteVals x.inn) HO2.out (byteVals_length _) hl1 kk (by first | rfl | (simp [Act.eval]; done)) hkl ?_; intro X3 hX3 hX3b; have HX3 := Lib.hid hX3; have HX3B := Lib.hid hX3b; clear hX3 hX3b)
  go_at_call 25
  refine calls_gen fun V hV => ?_
  have hgl : G k < w.heap.size := (H.out.wire k hk).lt
  have hni := net_inn H2.out (Nat.le_trans hB HF2.out.size) hk (.slice X3 (x.inn.length - kk) (cap - kk)) (x.inn.drop kk) (by have := HX3.out; rwa [show (byteVals x.inn).drop kk = byteVals (x.inn.drop kk) by simp [byteVals, List.map_drop]] at this) (grown_refl _ _) (.inl (by rw [HX3B.out, HIV.out]))
  rw [← hV, HX.out] at hni
  obtain ⟨y, hy⟩ : ∃ y : Wr, y = { x with inn := x.inn.drop kk } := ⟨_, rfl⟩
  have hyi : y.inn.length = x.inn.length - kk := by rw [hy]; simp
  have hye : y.en = x.en := by rw [hy]
  rw [← hy] at hni
  have hfV : Fr [G k] w2 V := by rw [hV]; exact (Fr.refl _ _).setCell (.inl (by simp)) _
  refine (settle_any hni.1 (by simpa using hk) y (by rw [getD_set ws y hk, if_pos rfl])).mono ?_
  rintro e w3 ⟨rfl, hs, hn3, hf3⟩
  rw [List.set_set] at hs
  have hw3 := hs.wire k (by simpa using hk)
  rw [getD_set ws _ hk, if_pos rfl] at hw3
  have d2 : w3.cell? ⟨G k, 2, none⟩ = some (.slice X3 (x.inn.length - kk) (cap - kk)) := (hw3.cell_ (i := 2) (v := updV IV k (.slice X3 (x.inn.length - kk) (cap - kk)) k) rfl).trans (by simp [updV])
  have d5 : w3.cell? ⟨G k, 5, none⟩ = some (.bool x.en) := (hw3.cell_ (i := 5) (v := .bool (settleW y).en) rfl).trans (by rw [settle_en, hye])
  have hby : Bytes w3 A2 (x.inn.take kk) := At.fr HB2.out (hfV.trans hf3) (fun a ha _ => by have := HNW.out a ha; simp; omega)
  have HFIN := Lib.hid (show Bytes w3 A2 (x.inn.take kk) ∧ (∃ v G IV GV, NetR w3 B n now (ws.set k (settleW { x with inn := x.inn.drop kk })) v G IV GV ∧ ∀ a, A2 = some a → (GV k).ownBlock ≠ some a.block ∧ G k ≠ a.block) ∧ NFr B w w3 from ⟨hby, ⟨v, G, updV IV k (.slice X3 (x.inn.length - kk) (cap - kk)), updV GV k (GV k), hy ▸ hs, fun a ha => ⟨fun e => by have := HNW.out a ha; have := (H.out.got k hk).lt _ (by simpa [updV] using e); omega, by have := HNW.out a ha; omega⟩⟩, ((NFr.of_fr HF2.out).trans hni.2).trans hn3⟩)
  clear hV hni hfV hs hn3 hf3 hw3 hby d22 f22 hye hyi hgl hy
  cases hen : x.en with
  | false =>
    rw [hen] at d5
    go_wp2_with fail
    go_quiet (fail)
    go_wp2_with fail
    go_ret3
    exact ⟨A2, c2, by simp [hen], HFIN.out.1.fr_nil ((Fr.refl [] w3).drewN _), (by obtain ⟨v, G, IV, GV, q1, q2⟩ := HFIN.out.2.1; exact ⟨v, G, IV, GV, q1.fr_nil ((Fr.refl [] w3).drewN _), q2⟩), HFIN.out.2.2.trans (NFr.of_fr ((Fr.refl [] w3).drewN _))⟩
  | true =>
    rw [hen] at d5
    have hz : (((x.inn.length - kk : Nat) : Int) == 0) = decide (x.inn.length = kk) := by rw [Bool.eq_iff_iff]; simp; omega
    go_wp2_with fail
    go_quiet (fail)
    go_wp2_with fail
    go_ret3
    exact ⟨A2, c2, by simp [hz, hen], HFIN.out.1.fr_nil ((Fr.refl [] w3).drewN _), (by obtain ⟨v, G, IV, GV, q1, q2⟩ := HFIN.out.2.1; exact ⟨v, G, IV, GV, q1.fr_nil ((Fr.refl [] w3).drewN _), q2⟩), HFIN.out.2.2.trans (NFr.of_fr ((Fr.refl [] w3).drewN _))⟩
end Go.Proofs.Ytedcheicnaphmaa
