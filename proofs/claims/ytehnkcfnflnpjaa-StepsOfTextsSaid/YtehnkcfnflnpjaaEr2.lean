/-
  number, interval, sign of the reader of expressions. No conditions but sizes.
-/
import Derived.Test.YtehnkcfnflnpjaaEr1
import Derived.Deep.Cut
namespace Go.Proofs.Ytehnkcfnflnpjaa
open Go.RowKit
set_option linter.unusedVariables false
set_option linter.unusedSimpArgs false

def DigTo (l : List UInt8) (k : Nat) : Prop := ∀ j, j < k → 48 ≤ bn l j ∧ bn l j ≤ 57
theorem tw_take : ∀ (l : List UInt8) (k : Nat), DigTo l k → k ≤ l.length → (k = l.length ∨ ¬ (48 ≤ bn l k ∧ bn l k ≤ 57)) → l.takeWhile isDig = l.take k
  | [], k, h, hk, he => by simp
  | c :: r, 0, h, hk, he => by
    have hc : isDig c = false := by
      rcases he with he | he
      · simp at he
      · unfold isDig; simp [bn] at he ⊢; omega
    simp [List.takeWhile_cons, hc]
  | c :: r, k + 1, h, hk, he => by
    have h0 := h 0 (by omega)
    have hc : isDig c = true := by unfold isDig; simp [bn] at h0 ⊢; omega
    have := tw_take r k (fun j hj => by have := h (j + 1) (by omega); simpa [bn] using this) (by simpa using hk) (by
      rcases he with he | he
      · left; simpa using he
      · right; simpa [bn] using he)
    simp [List.takeWhile_cons, hc, this]
theorem tw_gt : ∀ (l : List UInt8) (k : Nat), DigTo l k → k ≤ l.length → k ≤ (l.takeWhile isDig).length
  | [], k, h, hk => by simpa using hk
  | c :: r, 0, h, hk => by omega
  | c :: r, k + 1, h, hk => by
    have h0 := h 0 (by omega)
    have hc : isDig c = true := by unfold isDig; simp [bn] at h0 ⊢; omega
    have := tw_gt r k (fun j hj => by have := h (j + 1) (by omega); simpa [bn] using this) (by simpa using hk)
    simp [List.takeWhile_cons, hc]; omega
theorem numV_snoc (l : List UInt8) (k : Nat) (hk : k < l.length) : numV (l.take (k + 1)) = numV (l.take k) * 10 + (bn l k - 48) := by
  rw [List.take_succ_eq_append_getElem hk]
  unfold numV
  rw [List.foldl_append]
  simp [bn, List.getD_eq_getElem?_getD, List.getElem?_eq_getElem hk]
theorem numV_le (l : List UInt8) (k : Nat) (h : DigTo l k) (hk : k ≤ l.length) (h3 : k ≤ 3) : numV (l.take k) ≤ 999 := by
  have h0 : numV (l.take 0) = 0 := by simp [numV]
  have st : ∀ j, j < k → numV (l.take (j + 1)) ≤ numV (l.take j) * 10 + 9 := fun j hj => by
    rw [numV_snoc l j (by omega)]
    have := h j hj; omega
  rcases Nat.lt_or_ge 0 k with a | a
  · have s0 : numV (l.take 1) ≤ numV (l.take 0) * 10 + 9 := st 0 a
    rcases Nat.lt_or_ge 1 k with b | b
    · have s1 : numV (l.take 2) ≤ numV (l.take 1) * 10 + 9 := st 1 b
      rcases Nat.lt_or_ge 2 k with c | c
      · have s2 : numV (l.take 3) ≤ numV (l.take 2) * 10 + 9 := st 2 c
        have : k = 3 := by omega
        subst this; omega
      · have : k = 2 := by omega
        subst this; omega
    · have : k = 1 := by omega
      subst this; omega
  · have : k = 0 := by omega
    subst this; omega
theorem DigTo.snoc {l : List UInt8} {k : Nat} (h : DigTo l k) (h1 : 48 ≤ bn l k) (h2 : bn l k ≤ 57) : DigTo l (k + 1) := fun j hj => by
  rcases Nat.lt_or_ge j k with hk | hk
  · exact h j hk
  · have : j = k := by omega
    subst this; exact ⟨h1, h2⟩
theorem numS_at {l : List UInt8} {k : Nat} (h : DigTo l k) (hk : k ≤ l.length) (h3 : k ≤ 3) (he : k = l.length ∨ ¬ (48 ≤ bn l k ∧ bn l k ≤ 57)) : numS l = (numV (l.take k), k) := by
  unfold numS
  rw [tw_take l k h hk he]
  have : (l.take k).length = k := by simp; omega
  rw [this, if_neg (by omega)]
theorem numS_over {l : List UInt8} (h : DigTo l 4) (hk : 4 ≤ l.length) : numS l = (0, 0) := by
  unfold numS
  have := tw_gt l 4 h hk
  rw [if_pos (by omega)]
def NumRel (l : List UInt8) (v n : Value) : Prop := ∃ k : Nat, n = .int .i64 (k : Int) ∧ k ≤ l.length ∧ k ≤ 3 ∧ DigTo l k ∧ v = .int .i64 (numV (l.take k) : Int)
theorem ret_two {a b c d : Int} (h1 : a = c) (h2 : b = d) : Ending.returned (.tuple #[.int .i64 a, .int .i64 b]) = .returned (.tuple #[.int .i64 c, .int .i64 d]) := by rw [h1, h2]
set_option maxRecDepth 100000 in
set_option maxHeartbeats 2000000 in
theorem number_any {w : World} {A : Option Addr} {l : List UInt8} {c : Nat} (h : Bytes w A l) (hl : l.length ≤ 1000) (n : Nat) (hn : l.length = n) :
    Calls Try.prog 47 #[.slice A n c] w fun e w' => e = .returned (.tuple #[.int .i64 (numS l).1, .int .i64 (numS l).2]) ∧ w = w' := by
  have hl' : n ≤ 1000 := by omega
  have HN := Lib.hid hn
  have HB := Lib.hid h
  clear h hn hl
  go_enter Try.func47, Try.ntmps47
  go_wp2_with fail
  go_loop [2, 3] (fun v k => NumRel l v k) (fun _ k => 4 - (intOf k).toNat)
  case atStart => exact ⟨0, rfl, Nat.zero_le _, Nat.zero_le _, fun j hj => by omega, by simp [numV]⟩
  case round =>
    unfold NumRel at hrel
    obtain ⟨k, rfl, hk1, hk2, hd, rfl⟩ := hrel
    rw [HN.out] at hk1
    have hv := numV_le l k hd (by rw [HN.out]; exact hk1) hk2
    obtain ⟨V, hV⟩ : ∃ V, V = numV (l.take k) := ⟨_, rfl⟩
    rw [← hV] at hv ⊢
    have HV := Lib.hid hV
    have HD := Lib.hid hd
    clear hV hd
    by_cases hlt : k < n
    · obtain ⟨b, off, rfl, hb, hc⟩ := byte_at HB.out (i := k) (by rw [HN.out]; exact hlt)
      have e0 := hc k (by rw [HN.out]; exact hlt)
      obtain ⟨q, hq⟩ : ∃ q, q = bn l k := ⟨_, rfl⟩
      rw [← hq] at e0
      have HQ := Lib.hid hq
      have hq256 : q < 256 := by rw [hq]; exact bn_lt _ _
      clear hc hq
      by_cases h1 : 48 ≤ q
      · have g1 : decide (48 ≤ q) = true := by simpa using h1
        by_cases h2 : q ≤ 57
        · have g2 : decide (q ≤ 57) = true := by simpa using h2
          by_cases h3 : k = 3
          · subst h3
            have hn := numS_over (HD.out.snoc (by rw [← HQ.out]; exact h1) (by rw [← HQ.out]; exact h2)) (by rw [HN.out]; omega)
            have HNS := Lib.hid hn
            clear hn
            go_wp2_with fail
            go_ret2
            exact ⟨by rw [HNS.out]; rfl, rfl⟩
          · have h3' : (k : Int) ≠ 3 := by omega
            have hs := numV_snoc l k (by rw [HN.out]; exact hlt)
            rw [← HV.out, ← HQ.out] at hs
            have HS := Lib.hid hs
            clear hs
            go_wp2_with fail
            go_round
            case rel => exact ⟨k + 1, by go_num, by rw [HN.out]; omega, by omega, HD.out.snoc (by rw [← HQ.out]; exact h1) (by rw [← HQ.out]; exact h2), by rw [HS.out]; go_num⟩
            case measure => simp [intOf]; omega
        · have g2 : decide (q ≤ 57) = false := by simpa using h2
          have hn := numS_at HD.out (by rw [HN.out]; exact hk1) hk2 (.inr (by rw [← HQ.out]; omega))
          have HNS := Lib.hid hn
          clear hn
          go_wp2_with fail
          go_ret2
          exact ⟨by rw [HNS.out, ← HV.out]; rfl, rfl⟩
      · have g1 : decide (48 ≤ q) = false := by simpa using h1
        have hn := numS_at HD.out (by rw [HN.out]; exact hk1) hk2 (.inr (by rw [← HQ.out]; omega))
        have HNS := Lib.hid hn
        clear hn
        go_wp2_with fail
        go_ret2
        exact ⟨by rw [HNS.out, ← HV.out]; rfl, rfl⟩
    · have hn := numS_at HD.out (by rw [HN.out]; exact hk1) hk2 (.inl (by rw [HN.out]; omega))
      have HNS := Lib.hid hn
      clear hn
      go_wp2_with fail
      go_ret2
      exact ⟨by rw [HNS.out, ← HV.out]; rfl, rfl⟩

def ivV (r : Int × Int × Nat) : Value := .tuple #[.int .i64 r.1, .int .i64 r.2.1, .int .i64 (r.2.2 : Int)]
theorem ret_iv {a b : Int} {n : Nat} {r : Int × Int × Nat} (h : r = (a, b, n)) {x y z : Int} (hx : x = a) (hy : y = b) (hz : z = (n : Int)) : Ending.returned (.tuple #[.int .i64 x, .int .i64 y, .int .i64 z]) = .returned (ivV r) := by
  subst h hx hy hz; rfl
set_option maxRecDepth 100000 in
set_option maxHeartbeats 4000000 in
theorem interval_any {w : World} {A : Option Addr} {l : List UInt8} {c : Nat} (h : Bytes w A l) (hl : l.length ≤ 1000) (h0 : 0 < l.length) (hc : l.length ≤ c) (hA : A = none → c = 0) (L : Nat) (hL : l.length = L) (hcm : c ≤ maxLen) :
    Calls Try.prog 42 #[.slice A L c] w fun e w' => e = .returned (ivV (intervalS l)) ∧ w = w' := by
  rw [hL] at hl h0 hc
  unfold maxLen at hcm
  have hcut : ∀ (W : World) (X : Option Addr) (k : Nat), k ≤ L → At W X (((byteVals l).drop k).take (L - k)) → Bytes W X (l.drop k) := fun W X k hk hX => by
    have e : ((byteVals l).drop k).take (L - k) = byteVals (l.drop k) := by
      rw [List.take_of_length_le (by rw [List.length_drop, byteVals_length]; omega), byteVals, byteVals, List.map_drop]
    rwa [e] at hX
  obtain ⟨i0, hi0, hz1⟩ : ∃ i0, Try.prog.info? 5 = some i0 ∧ i0.size = 1 := by
    obtain ⟨i0, h1, _, h2, _⟩ : ∃ i, Try.prog.info? 5 = some i ∧ i.zero = some (.int .u8 0) ∧ i.size = 1 ∧ i.bytes = 1 := info_parts (by kernel_rfl)
    exact ⟨i0, h1, h2⟩
  have hnum : ∀ (W : World) (X : Option Addr) (k : Nat), k ≤ L → Bytes W X (l.drop k) → ∀ m cc : Nat, m = L - k → Calls Try.prog 47 #[.slice X m cc] W fun e w' => e = .returned (.tuple #[.int .i64 (numS (l.drop k)).1, .int .i64 (numS (l.drop k)).2]) ∧ W = w' := fun W X k hk hX m cc hm =>
    number_any hX (by simp; omega) m (by simp; omega)
  obtain ⟨v, hv⟩ : ∃ v, v = (numS (l.drop 1)).1 := ⟨_, rfl⟩
  obtain ⟨n, hn⟩ : ∃ n, n = (numS (l.drop 1)).2 := ⟨_, rfl⟩
  have hnum1 := hnum w
  obtain ⟨hn1, hn3, hv9⟩ := numS_le (l.drop 1)
  rw [← hv] at hv9
  rw [← hn] at hn1 hn3
  have hn2 : n + 1 ≤ L := by simp at hn1; omega
  have hiv : intervalS l = intervalT l v n := by unfold intervalS; rw [hv, hn]
  rw [hiv]
  have hnum2 : ∀ (X : Option Addr), Bytes w X (l.drop 1) → ∀ cc : Nat, Calls Try.prog 47 #[.slice X (L - 1) cc] w fun e w' => e = .returned (.tuple #[.int .i64 v, .int .i64 n]) ∧ w = w' := fun X hX cc => by
    rw [hv, hn]; exact hnum w X 1 (by omega) hX (L - 1) cc rfl
  have HCUT := Lib.hid hcut; have HNUM := Lib.hid hnum; have HNUM2 := Lib.hid hnum2; have HL := Lib.hid hL; have HB := Lib.hid h
  have HNIL := Lib.hid hA
  clear hcut hnum hnum1 hnum2 hn1 hL hiv hv hn h hA
  by_cases hn0 : n = 0
  · have hr : intervalT l v n = (0, 0, 0) := by unfold intervalT; rw [if_pos hn0]
    rw [hr]
    subst hn0
    have HR := Lib.hid hr; clear hr
    go_enter Try.func42, Try.ntmps42
    go_wp2_with (first
      | (refine wpList_cut rfl 22 (.tmp 7) (some (.const (.int .i64 1))) none none rfl 5 i0 Try.underlying22 hi0 hz1 _ L c rfl (byteVals l) HB.out (by rw [byteVals_length]; exact HL.out) hc HNIL.out 1 L c (.inr rfl) (.inl ⟨rfl, rfl, rfl⟩) (.inl ⟨rfl, rfl⟩) (by omega) (by omega) (by omega) (by omega) ?_; intro X hX hX0 hX1; have HX := Lib.hid (HCUT.out _ X 1 (by omega) hX); clear hX hX0 hX1)
      | (go_at_call 47; refine (HNUM2.out X HX.out _).mono ?_; rintro e w1 ⟨rfl, rfl⟩))
    go_ret3
    exact ⟨rfl, rfl⟩
  · have hnz : ((n : Int) == 0) = false := by simp; omega
    by_cases hlt : n + 1 < L
    · obtain ⟨b, off, rfl, hb, hcell⟩ := byte_at HB.out (i := n + 1) (by rw [HL.out]; exact hlt)
      have e0 := hcell (n + 1) (by rw [HL.out]; exact hlt)
      have HCELL := Lib.hid hcell; clear hcell
      have hd1 : decide (n + 1 < L) = true := by simpa using hlt
      by_cases h44 : bn l (n + 1) = 44
      · obtain ⟨m, hm⟩ : ∃ m, m = (numS (l.drop (n + 2))).1 := ⟨_, rfl⟩
        obtain ⟨k, hk⟩ : ∃ k, k = (numS (l.drop (n + 2))).2 := ⟨_, rfl⟩
        obtain ⟨hk1, hk3, hm9⟩ := numS_le (l.drop (n + 2))
        rw [← hm] at hm9
        rw [← hk] at hk1 hk3
        have hk2 : n + 2 + k ≤ L := by simp at hk1; have := HL.out; omega
        have hnum3 : ∀ (X : Option Addr), Bytes w X (l.drop (n + 2)) → ∀ cc : Nat, Calls Try.prog 47 #[.slice X (L - (n + 2)) cc] w fun e w' => e = .returned (.tuple #[.int .i64 m, .int .i64 k]) ∧ w = w' := fun X hX cc => by
          rw [hm, hk]; exact HNUM.out w X (n + 2) (by omega) hX (L - (n + 2)) cc rfl
        have hr : intervalT l v n = if bn l (n + 2 + k) = 125 then ((v : Int), (if k = 0 then -1 else (m : Int)), n + 2 + k + 1) else (0, 0, 0) := by
          unfold intervalT; rw [if_neg hn0, if_pos h44, ← hm, ← hk]
        rw [h44] at e0
        have HR := Lib.hid hr; have HNUM3 := Lib.hid hnum3
        clear hr hnum3 hm hk hk1 h44
        by_cases hlt2 : n + 2 + k < L
        · have e1 := HCELL.out (n + 2 + k) (by rw [HL.out]; exact hlt2)
          obtain ⟨q, hq⟩ : ∃ q, q = bn l (n + 2 + k) := ⟨_, rfl⟩
          rw [← hq] at e1
          have hr2 := HR.out
          rw [← hq] at hr2
          have HR2 := Lib.hid hr2
          have hq256 : q < 256 := by rw [hq]; exact bn_lt _ _
          have hd2 : decide (L ≤ n + 2 + k) = false := by simp; omega
          clear hr2 hq HR
          by_cases hk0 : k = 0
          · subst hk0
            by_cases h125 : q = 125
            · subst h125
              go_enter Try.func42, Try.ntmps42
              go_wp2_with (first
                | (refine wpList_cut rfl 22 (.tmp 7) (some (.const (.int .i64 1))) none none rfl 5 i0 Try.underlying22 hi0 hz1 _ L c rfl (byteVals l) HB.out (by rw [byteVals_length]; exact HL.out) hc HNIL.out 1 L c (.inr rfl) (.inl ⟨rfl, rfl, rfl⟩) (.inl ⟨rfl, rfl⟩) (by omega) (by omega) (by omega) (by omega) ?_; intro X hX hX0 hX1; have HX := Lib.hid (HCUT.out _ X 1 (by omega) hX); clear hX hX0 hX1)
                | (refine wpList_cut rfl 22 (.tmp 31) (some (.tmp 32)) none none rfl 5 i0 Try.underlying22 hi0 hz1 _ L c rfl (byteVals l) HB.out (by rw [byteVals_length]; exact HL.out) hc HNIL.out (n + 2) L c (.inr (by first | rfl | (simp [Act.eval]; done) | (simp [Act.eval]; omega))) (.inl ⟨rfl, rfl, rfl⟩) (.inl ⟨rfl, rfl⟩) (by omega) (by omega) (by omega) (by omega) ?_; intro Y hY hY0 hY1; have HY := Lib.hid (HCUT.out _ Y (n + 2) (by omega) hY); clear hY hY0 hY1)
                | (go_at_call 47; refine (HNUM3.out Y HY.out _).mono ?_; rintro e w1 ⟨rfl, rfl⟩)
                | (go_at_call 47; refine (HNUM2.out X HX.out _).mono ?_; rintro e w1 ⟨rfl, rfl⟩))
              go_ret3
              exact ⟨ret_iv HR2.out rfl rfl (by omega), rfl⟩
            · have ht : ((q : Int) != 125) = true := by simp; omega
              go_enter Try.func42, Try.ntmps42
              go_wp2_with (first
                | (refine wpList_cut rfl 22 (.tmp 7) (some (.const (.int .i64 1))) none none rfl 5 i0 Try.underlying22 hi0 hz1 _ L c rfl (byteVals l) HB.out (by rw [byteVals_length]; exact HL.out) hc HNIL.out 1 L c (.inr rfl) (.inl ⟨rfl, rfl, rfl⟩) (.inl ⟨rfl, rfl⟩) (by omega) (by omega) (by omega) (by omega) ?_; intro X hX hX0 hX1; have HX := Lib.hid (HCUT.out _ X 1 (by omega) hX); clear hX hX0 hX1)
                | (refine wpList_cut rfl 22 (.tmp 31) (some (.tmp 32)) none none rfl 5 i0 Try.underlying22 hi0 hz1 _ L c rfl (byteVals l) HB.out (by rw [byteVals_length]; exact HL.out) hc HNIL.out (n + 2) L c (.inr (by first | rfl | (simp [Act.eval]; done) | (simp [Act.eval]; omega))) (.inl ⟨rfl, rfl, rfl⟩) (.inl ⟨rfl, rfl⟩) (by omega) (by omega) (by omega) (by omega) ?_; intro Y hY hY0 hY1; have HY := Lib.hid (HCUT.out _ Y (n + 2) (by omega) hY); clear hY hY0 hY1)
                | (go_at_call 47; refine (HNUM3.out Y HY.out _).mono ?_; rintro e w1 ⟨rfl, rfl⟩)
                | (go_at_call 47; refine (HNUM2.out X HX.out _).mono ?_; rintro e w1 ⟨rfl, rfl⟩))
              go_ret3
              exact ⟨ret_iv (HR2.out.trans (if_neg h125)) rfl rfl rfl, rfl⟩
          · have hkz : ((k : Int) == 0) = false := by simp; omega
            by_cases h125 : q = 125
            · subst h125
              go_enter Try.func42, Try.ntmps42
              go_wp2_with (first
                | (refine wpList_cut rfl 22 (.tmp 7) (some (.const (.int .i64 1))) none none rfl 5 i0 Try.underlying22 hi0 hz1 _ L c rfl (byteVals l) HB.out (by rw [byteVals_length]; exact HL.out) hc HNIL.out 1 L c (.inr rfl) (.inl ⟨rfl, rfl, rfl⟩) (.inl ⟨rfl, rfl⟩) (by omega) (by omega) (by omega) (by omega) ?_; intro X hX hX0 hX1; have HX := Lib.hid (HCUT.out _ X 1 (by omega) hX); clear hX hX0 hX1)
                | (refine wpList_cut rfl 22 (.tmp 31) (some (.tmp 32)) none none rfl 5 i0 Try.underlying22 hi0 hz1 _ L c rfl (byteVals l) HB.out (by rw [byteVals_length]; exact HL.out) hc HNIL.out (n + 2) L c (.inr (by first | rfl | (simp [Act.eval]; done) | (simp [Act.eval]; omega))) (.inl ⟨rfl, rfl, rfl⟩) (.inl ⟨rfl, rfl⟩) (by omega) (by omega) (by omega) (by omega) ?_; intro Y hY hY0 hY1; have HY := Lib.hid (HCUT.out _ Y (n + 2) (by omega) hY); clear hY hY0 hY1)
                | (go_at_call 47; refine (HNUM3.out Y HY.out _).mono ?_; rintro e w1 ⟨rfl, rfl⟩)
                | (go_at_call 47; refine (HNUM2.out X HX.out _).mono ?_; rintro e w1 ⟨rfl, rfl⟩))
              go_ret3
              exact ⟨ret_iv (HR2.out.trans (by simp [hk0]; rfl)) rfl rfl (by omega), rfl⟩
            · have ht : ((q : Int) != 125) = true := by simp; omega
              go_enter Try.func42, Try.ntmps42
              go_wp2_with (first
                | (refine wpList_cut rfl 22 (.tmp 7) (some (.const (.int .i64 1))) none none rfl 5 i0 Try.underlying22 hi0 hz1 _ L c rfl (byteVals l) HB.out (by rw [byteVals_length]; exact HL.out) hc HNIL.out 1 L c (.inr rfl) (.inl ⟨rfl, rfl, rfl⟩) (.inl ⟨rfl, rfl⟩) (by omega) (by omega) (by omega) (by omega) ?_; intro X hX hX0 hX1; have HX := Lib.hid (HCUT.out _ X 1 (by omega) hX); clear hX hX0 hX1)
                | (refine wpList_cut rfl 22 (.tmp 31) (some (.tmp 32)) none none rfl 5 i0 Try.underlying22 hi0 hz1 _ L c rfl (byteVals l) HB.out (by rw [byteVals_length]; exact HL.out) hc HNIL.out (n + 2) L c (.inr (by first | rfl | (simp [Act.eval]; done) | (simp [Act.eval]; omega))) (.inl ⟨rfl, rfl, rfl⟩) (.inl ⟨rfl, rfl⟩) (by omega) (by omega) (by omega) (by omega) ?_; intro Y hY hY0 hY1; have HY := Lib.hid (HCUT.out _ Y (n + 2) (by omega) hY); clear hY hY0 hY1)
                | (go_at_call 47; refine (HNUM3.out Y HY.out _).mono ?_; rintro e w1 ⟨rfl, rfl⟩)
                | (go_at_call 47; refine (HNUM2.out X HX.out _).mono ?_; rintro e w1 ⟨rfl, rfl⟩))
              go_ret3
              exact ⟨ret_iv (HR2.out.trans (if_neg h125)) rfl rfl rfl, rfl⟩
        · have hr2 := HR.out
          rw [bn_past (by rw [HL.out]; omega), if_neg (by omega)] at hr2
          have HR2 := Lib.hid hr2
          have hd2 : decide (L ≤ n + 2 + k) = true := by simp; omega
          clear hr2 HR
          by_cases hk0 : k = 0
          · subst hk0
            go_enter Try.func42, Try.ntmps42
            go_wp2_with (first
              | (refine wpList_cut rfl 22 (.tmp 7) (some (.const (.int .i64 1))) none none rfl 5 i0 Try.underlying22 hi0 hz1 _ L c rfl (byteVals l) HB.out (by rw [byteVals_length]; exact HL.out) hc HNIL.out 1 L c (.inr rfl) (.inl ⟨rfl, rfl, rfl⟩) (.inl ⟨rfl, rfl⟩) (by omega) (by omega) (by omega) (by omega) ?_; intro X hX hX0 hX1; have HX := Lib.hid (HCUT.out _ X 1 (by omega) hX); clear hX hX0 hX1)
              | (refine wpList_cut rfl 22 (.tmp 31) (some (.tmp 32)) none none rfl 5 i0 Try.underlying22 hi0 hz1 _ L c rfl (byteVals l) HB.out (by rw [byteVals_length]; exact HL.out) hc HNIL.out (n + 2) L c (.inr (by first | rfl | (simp [Act.eval]; done) | (simp [Act.eval]; omega))) (.inl ⟨rfl, rfl, rfl⟩) (.inl ⟨rfl, rfl⟩) (by omega) (by omega) (by omega) (by omega) ?_; intro Y hY hY0 hY1; have HY := Lib.hid (HCUT.out _ Y (n + 2) (by omega) hY); clear hY hY0 hY1)
              | (go_at_call 47; refine (HNUM3.out Y HY.out _).mono ?_; rintro e w1 ⟨rfl, rfl⟩)
              | (go_at_call 47; refine (HNUM2.out X HX.out _).mono ?_; rintro e w1 ⟨rfl, rfl⟩))
            go_ret3
            exact ⟨ret_iv HR2.out rfl rfl rfl, rfl⟩
          · have hkz : ((k : Int) == 0) = false := by simp; omega
            go_enter Try.func42, Try.ntmps42
            go_wp2_with (first
              | (refine wpList_cut rfl 22 (.tmp 7) (some (.const (.int .i64 1))) none none rfl 5 i0 Try.underlying22 hi0 hz1 _ L c rfl (byteVals l) HB.out (by rw [byteVals_length]; exact HL.out) hc HNIL.out 1 L c (.inr rfl) (.inl ⟨rfl, rfl, rfl⟩) (.inl ⟨rfl, rfl⟩) (by omega) (by omega) (by omega) (by omega) ?_; intro X hX hX0 hX1; have HX := Lib.hid (HCUT.out _ X 1 (by omega) hX); clear hX hX0 hX1)
              | (refine wpList_cut rfl 22 (.tmp 31) (some (.tmp 32)) none none rfl 5 i0 Try.underlying22 hi0 hz1 _ L c rfl (byteVals l) HB.out (by rw [byteVals_length]; exact HL.out) hc HNIL.out (n + 2) L c (.inr (by first | rfl | (simp [Act.eval]; done) | (simp [Act.eval]; omega))) (.inl ⟨rfl, rfl, rfl⟩) (.inl ⟨rfl, rfl⟩) (by omega) (by omega) (by omega) (by omega) ?_; intro Y hY hY0 hY1; have HY := Lib.hid (HCUT.out _ Y (n + 2) (by omega) hY); clear hY hY0 hY1)
              | (go_at_call 47; refine (HNUM3.out Y HY.out _).mono ?_; rintro e w1 ⟨rfl, rfl⟩)
              | (go_at_call 47; refine (HNUM2.out X HX.out _).mono ?_; rintro e w1 ⟨rfl, rfl⟩))
            go_ret3
            exact ⟨ret_iv HR2.out rfl rfl rfl, rfl⟩
      · have hr : intervalT l v n = if bn l (n + 1) = 125 then ((v : Int), (v : Int), n + 2) else (0, 0, 0) := by
          unfold intervalT; rw [if_neg hn0, if_neg h44]
        obtain ⟨q, hq⟩ : ∃ q, q = bn l (n + 1) := ⟨_, rfl⟩
        rw [← hq] at e0 hr h44
        have hq256 : q < 256 := by rw [hq]; exact bn_lt _ _
        have ht4 : ((q : Int) == 44) = false := by simp; omega
        have hd2 : decide (L ≤ n + 1) = false := by simp; omega
        have HR2 := Lib.hid hr
        clear hr hq h44
        by_cases h125 : q = 125
        · subst h125
          go_enter Try.func42, Try.ntmps42
          go_wp2_with (first
            | (refine wpList_cut rfl 22 (.tmp 7) (some (.const (.int .i64 1))) none none rfl 5 i0 Try.underlying22 hi0 hz1 _ L c rfl (byteVals l) HB.out (by rw [byteVals_length]; exact HL.out) hc HNIL.out 1 L c (.inr rfl) (.inl ⟨rfl, rfl, rfl⟩) (.inl ⟨rfl, rfl⟩) (by omega) (by omega) (by omega) (by omega) ?_; intro X hX hX0 hX1; have HX := Lib.hid (HCUT.out _ X 1 (by omega) hX); clear hX hX0 hX1)
            | (refine wpList_cut rfl 22 (.tmp 31) (some (.tmp 32)) none none rfl 5 i0 Try.underlying22 hi0 hz1 _ L c rfl (byteVals l) HB.out (by rw [byteVals_length]; exact HL.out) hc HNIL.out (n + 2) L c (.inr (by first | rfl | (simp [Act.eval]; done) | (simp [Act.eval]; omega))) (.inl ⟨rfl, rfl, rfl⟩) (.inl ⟨rfl, rfl⟩) (by omega) (by omega) (by omega) (by omega) ?_; intro Y hY hY0 hY1; have HY := Lib.hid (HCUT.out _ Y (n + 2) (by omega) hY); clear hY hY0 hY1)
            | (go_at_call 47; refine (HNUM3.out Y HY.out _).mono ?_; rintro e w1 ⟨rfl, rfl⟩)
            | (go_at_call 47; refine (HNUM2.out X HX.out _).mono ?_; rintro e w1 ⟨rfl, rfl⟩))
          go_ret3
          exact ⟨ret_iv HR2.out rfl rfl (by omega), rfl⟩
        · have ht : ((q : Int) != 125) = true := by simp; omega
          go_enter Try.func42, Try.ntmps42
          go_wp2_with (first
            | (refine wpList_cut rfl 22 (.tmp 7) (some (.const (.int .i64 1))) none none rfl 5 i0 Try.underlying22 hi0 hz1 _ L c rfl (byteVals l) HB.out (by rw [byteVals_length]; exact HL.out) hc HNIL.out 1 L c (.inr rfl) (.inl ⟨rfl, rfl, rfl⟩) (.inl ⟨rfl, rfl⟩) (by omega) (by omega) (by omega) (by omega) ?_; intro X hX hX0 hX1; have HX := Lib.hid (HCUT.out _ X 1 (by omega) hX); clear hX hX0 hX1)
            | (refine wpList_cut rfl 22 (.tmp 31) (some (.tmp 32)) none none rfl 5 i0 Try.underlying22 hi0 hz1 _ L c rfl (byteVals l) HB.out (by rw [byteVals_length]; exact HL.out) hc HNIL.out (n + 2) L c (.inr (by first | rfl | (simp [Act.eval]; done) | (simp [Act.eval]; omega))) (.inl ⟨rfl, rfl, rfl⟩) (.inl ⟨rfl, rfl⟩) (by omega) (by omega) (by omega) (by omega) ?_; intro Y hY hY0 hY1; have HY := Lib.hid (HCUT.out _ Y (n + 2) (by omega) hY); clear hY hY0 hY1)
            | (go_at_call 47; refine (HNUM3.out Y HY.out _).mono ?_; rintro e w1 ⟨rfl, rfl⟩)
            | (go_at_call 47; refine (HNUM2.out X HX.out _).mono ?_; rintro e w1 ⟨rfl, rfl⟩))
          go_ret3
          exact ⟨ret_iv (HR2.out.trans (if_neg h125)) rfl rfl rfl, rfl⟩
    · have hr : intervalT l v n = (0, 0, 0) := by
        unfold intervalT; rw [if_neg hn0, bn_past (by rw [HL.out]; omega), if_neg (by omega), if_neg (by omega)]
      have HR2 := Lib.hid hr
      have hd1 : decide (n + 1 < L) = false := by simpa using hlt
      have hd2 : decide (L ≤ n + 1) = true := by simp; omega
      clear hr
      go_enter Try.func42, Try.ntmps42
      go_wp2_with (first
        | (refine wpList_cut rfl 22 (.tmp 7) (some (.const (.int .i64 1))) none none rfl 5 i0 Try.underlying22 hi0 hz1 _ L c rfl (byteVals l) HB.out (by rw [byteVals_length]; exact HL.out) hc HNIL.out 1 L c (.inr rfl) (.inl ⟨rfl, rfl, rfl⟩) (.inl ⟨rfl, rfl⟩) (by omega) (by omega) (by omega) (by omega) ?_; intro X hX hX0 hX1; have HX := Lib.hid (HCUT.out _ X 1 (by omega) hX); clear hX hX0 hX1)
        | (refine wpList_cut rfl 22 (.tmp 31) (some (.tmp 32)) none none rfl 5 i0 Try.underlying22 hi0 hz1 _ L c rfl (byteVals l) HB.out (by rw [byteVals_length]; exact HL.out) hc HNIL.out (n + 2) L c (.inr (by first | rfl | (simp [Act.eval]; done) | (simp [Act.eval]; omega))) (.inl ⟨rfl, rfl, rfl⟩) (.inl ⟨rfl, rfl⟩) (by omega) (by omega) (by omega) (by omega) ?_; intro Y hY hY0 hY1; have HY := Lib.hid (HCUT.out _ Y (n + 2) (by omega) hY); clear hY hY0 hY1)
        | (go_at_call 47; refine (HNUM3.out Y HY.out _).mono ?_; rintro e w1 ⟨rfl, rfl⟩)
        | (go_at_call 47; refine (HNUM2.out X HX.out _).mono ?_; rintro e w1 ⟨rfl, rfl⟩))
      go_ret3
      exact ⟨ret_iv HR2.out rfl rfl rfl, rfl⟩
end Go.Proofs.Ytehnkcfnflnpjaa
