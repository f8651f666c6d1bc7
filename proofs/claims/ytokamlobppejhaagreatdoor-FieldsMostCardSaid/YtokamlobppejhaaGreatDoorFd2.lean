/-
  words.Split, words.Cut, strings.Join as the fields take them. Cut: of fewer than 4294967281 bytes (a bound of the model).
-/
import Derived.Test.YtokamlobppejhaaGreatDoorFd1
import Derived.Test.YtokamlobppejhaaGreatDoorShelf
namespace Go.Proofs.YtokamlobppejhaaGreatDoor
open Go.RowKit
set_option linter.unusedVariables false
set_option linter.unusedSimpArgs false

/-- The variable that the library's search reads is there. -/
def GlobOk (w : World) : Prop := ∃ m, w.cell? ⟨0, 0, none⟩ = some (.int .i64 m)
theorem GlobOk.fr {w w' : World} (h : GlobOk w) (hf : Fr [] w w') : GlobOk w' := by
  obtain ⟨m, hm⟩ := h
  exact ⟨m, (hf.cell (World.block_lt_of_cell? w _ hm) (by simp)).trans hm⟩
theorem GlobOk.far {w w' : World} (h : GlobOk w) {l : List Nat} (hf : Fr l w w') (hl : 0 ∉ l) : GlobOk w' := by
  obtain ⟨m, hm⟩ := h
  exact ⟨m, (hf.cell (World.block_lt_of_cell? w _ hm) hl).trans hm⟩
theorem strParts : ∃ i, Tryz.prog.info? 9 = some i ∧ i.zero = some (.string ByteArray.empty) ∧ i.size = 1 ∧ i.bytes = 16 := info_parts (by kernel_rfl)
theorem one_str (w : World) (x : Value) : At (w.alloc (.cells #[x] 9)) (some ⟨w.heap.size, 0, none⟩) [x] :=
  At.of_bk (n := 1) (xs := [x]) (Bk.new w 9 #[x]) (by simp)
theorem joins_any {w : World} {A : Option Addr} {n c : Nat} {l : List (List UInt8)} (h : OwnL w (.slice A n c) l) (sep : List UInt8) (hn : l.length ≤ 140737488355328) (hl : (Lib.join l sep).length ≤ 140737488355328) :
    Calls Tryz.prog 20 #[.slice A n c, .string ⟨sep.toArray⟩] w fun e w' => e = .returned (.string ⟨(Lib.join l sep).toArray⟩) ∧ Fr [] w w' := by
  obtain ⟨A', cap, hv, h1, h2, h3⟩ := h
  injection hv with e1 e2 e3
  subst e1 e2 e3
  rcases h3 with ⟨rfl, h3⟩ | ⟨g, off, cur, rfl, hg, h4, h5⟩
  · rw [strVals_length] at h1
    obtain rfl : l = [] := List.eq_nil_of_length_eq_zero (by omega)
    subst h3
    rw [Lib.join_nil]
    exact (Tryz.strings_Join_none none 0 ⟨sep.toArray⟩ w).mono fun e w' h => ⟨h.1, by rw [h.2]; exact Fr.refl _ _⟩
  · have hb : Bk w g 9 cur := hg
    have e1 : (l.map fun b : List UInt8 => (⟨b.toArray⟩ : ByteArray)).map (·.data.toList) = l := by
      rw [List.map_map]
      conv => rhs; rw [← List.map_id l]
      apply List.map_congr_left
      intro b _
      simp
    have e2 : (l.map fun b : List UInt8 => (⟨b.toArray⟩ : ByteArray)).length = (strVals l).length := by rw [List.length_map, strVals_length]
    have e3 : (⟨sep.toArray⟩ : ByteArray).data.toList = sep := by simp
    have hc : ∀ (j : Nat) x, (l.map fun b : List UInt8 => (⟨b.toArray⟩ : ByteArray))[j]? = some x → w.cell? ⟨g, off + j, none⟩ = some (.string x) := by
      intro j x hx
      rw [hb.cell]
      have hj : j < l.length := by
        rcases Nat.lt_or_ge j l.length with h | h
        · exact h
        · rw [List.getElem?_eq_none (by simpa using h)] at hx; cases hx
      have := strVals_get l hj
      rw [← h5, strVals_length, List.getElem?_take, if_pos hj, List.getElem?_drop] at this
      have hx2 : x = ⟨(l.getD j []).toArray⟩ := by simp [hj] at hx; simp [hj, hx]
      rw [hx2]
      simpa using this
    have := Tryz.strings_Join g off c (l.map fun b : List UInt8 => (⟨b.toArray⟩ : ByteArray)) ⟨sep.toArray⟩ w hc hb.lt (by simpa using hn) (by rw [e2]; exact h1) (by rw [e1, e3]; exact hl)
    rw [e1, e2, e3] at this
    exact this.mono fun e w' h => ⟨h.1, Fr.of_below h.2⟩
theorem splitB_list (s sep : List UInt8) (k : Nat) : ((Lib.splitB ⟨sep.toArray⟩ 0 k ⟨s.toArray⟩).map Value.string) = strVals (Lib.splitK sep 0 k s) := by
  have h := Lib.splitB_data ⟨sep.toArray⟩ 0 k ⟨s.toArray⟩
  simp only at h
  have e : ∀ l : List ByteArray, l.map Value.string = strVals (l.map (·.data.toList)) := by
    intro l
    induction l with
    | nil => rfl
    | cons a r ih =>
      simp only [List.map_cons, strVals] at ih ⊢
      rw [ih, ← ba_of]
  rw [e, h]
theorem countB_list (s sep : List UInt8) : Lib.countB ⟨s.toArray⟩ ⟨sep.toArray⟩ = Lib.count s sep := by
  unfold Lib.countB
  simp
theorem split_any {w : World} (hg : GlobOk w) (s : List UInt8) (c : UInt8) (hs : s.length < 4294967281) :
    Calls Tryz.prog 33 #[.string ⟨s.toArray⟩, .string ⟨#[c]⟩] w fun e w' => ∃ v, e = .returned v ∧ OwnL w' v (cutG c s []) ∧ Fr [] w w' := by
  obtain ⟨m, hm⟩ := hg
  have h := Tryz.strings_Split ⟨s.toArray⟩ ⟨[c].toArray⟩ m w (by rw [ba_size]; exact hs) hm (by rw [ba_size]; simp)
  rw [countB_list, splitB_list, cutG_split c s.length s (Nat.le_refl _)] at h
  refine h.mono fun e w' ⟨he, hw⟩ => ⟨_, he, ?_, by rw [hw]; exact (Fr.refl _ _).alloc _⟩
  have hlen : (cutG c s []).length = Lib.count s [c] + 1 := by
    have h1 := Lib.splitB_all ⟨[c].toArray⟩ (by rw [ba_size]; simp) 0 (Lib.count s [c]) ⟨s.toArray⟩ (by rw [countB_list])
    have h2 := congrArg List.length (splitB_list s [c] (Lib.count s [c]))
    rw [List.length_map, h1, strVals_length, cutG_split c s.length s (Nat.le_refl _)] at h2
    exact h2.symm
  have hle := cutG_len c s []
  rw [hw]
  unfold OwnL
  have hsz : (strVals (cutG c s [])).length = Lib.count s [c] + 1 := by rw [strVals_length, hlen]
  exact ⟨_, _, by rw [hsz], by rw [hsz]; exact Nat.le_refl _, by unfold maxLen; omega, .inr ⟨w.heap.size, 0, _, rfl, Bk.new w _ _, by simp [hsz], by simp⟩⟩
theorem cut_any {w : World} (hg : GlobOk w) (s : List UInt8) (c : UInt8) (hs : s.length < 4294967281) :
    Calls Tryz.prog 24 #[.string ⟨s.toArray⟩, .int .u8 (c.toNat : Int)] w fun e w' => ∃ v, e = .returned v ∧ OwnL w' v (cutM s c) ∧ Fr [] w w' := by
  unfold cutM
  by_cases h0 : s = []
  · subst h0
    rw [if_pos rfl]
    go_enter Tryz.func24, Tryz.ntmps24
    go_wp2_with fail
    go_ret
    exact ⟨_, rfl, Own.nil_ _ _, Fr.refl _ _⟩
  rw [if_neg h0]
  have t0 : (s == ([] : List UInt8)) = false := beq_eq_false_iff_ne.2 h0
  have HG := Lib.hid hg
  clear hg
  go_enter Tryz.func24, Tryz.ntmps24
  go_wp2_with (refine wpList_str rfl 31 9 (.tmp 9) rfl 5 Tryz.underlying31 Tryz.underlying5 Tryz.underlying9 (some ⟨w.heap.size, 0, none⟩) 1 1 (by rfl) [c] (At.of_bk (n := 1) (xs := byteVals [c]) (Bk.new w 5 #[.int .u8 (c.toNat : Int)]) (by simp [byteVals])) rfl ?_)
  go_at_call 33
  have hf0 : Fr [] w (w.alloc (.cells #[.int .u8 (c.toNat : Int)] 5)) := (Fr.refl _ _).alloc _
  refine (split_any (HG.out.fr hf0) s c hs).mono ?_
  rintro e w2 ⟨v, rfl, ho, hf⟩
  have HO := Lib.hid ho; have HF := Lib.hid (hf0.trans hf)
  clear ho hf hf0
  go_wp2_with fail
  go_ret
  exact ⟨v, rfl, HO.out, HF.out⟩

/-- Where words.Split's loop stands. -/
def SplRel (w0 : World) (s : List UInt8) (v3 v4 v5 : Value) (wr : World) : Prop :=
  ∃ (i b : Nat) (l : List (List UInt8)), v4 = .int .i64 (b : Int) ∧ v5 = .int .i64 (i : Int) ∧ OwnL wr v3 l ∧ (∀ g, v3.ownBlock = some g → w0.heap.size ≤ g) ∧ Fr [] w0 wr ∧ i ≤ s.length + 1 ∧ b ≤ i ∧ l.length ≤ i ∧
    (i ≤ s.length → l ++ splG (s.drop i) ((s.drop b).take (i - b)) = splM s) ∧ (i = s.length + 1 → l = splM s)
theorem splG_next (s : List UInt8) (i b : Nat) (hi : i < s.length) (hb : b ≤ i) (hc : isBl (s.getD i 0) = false) (l : List (List UInt8)) : l ++ splG (s.drop i) ((s.drop b).take (i - b)) = l ++ splG (s.drop (i + 1)) ((s.drop b).take (i + 1 - b)) := by
  have e : s.drop i = s.getD i 0 :: s.drop (i + 1) := by rw [List.getD_eq_getElem?_getD, List.getElem?_eq_getElem hi]; simp
  have e2 : (s.drop b).take (i + 1 - b) = (s.drop b).take (i - b) ++ [s.getD i 0] := by
    rw [show i + 1 - b = i - b + 1 by omega, List.take_add_one]
    congr 1
    rw [List.getElem?_drop, show b + (i - b) = i by omega, List.getElem?_eq_getElem hi, List.getD_eq_getElem?_getD, List.getElem?_eq_getElem hi]
    rfl
  rw [e2]
  conv => lhs; rw [e, splG, if_neg (by rw [hc]; simp)]
theorem splG_stop (s : List UInt8) (i b : Nat) (hi : i < s.length) (hc : isBl (s.getD i 0) = true) : splG (s.drop i) ((s.drop b).take (i - b)) = (if (s.drop b).take (i - b) = [] then [] else [(s.drop b).take (i - b)]) ++ splG (s.drop (i + 1)) [] := by
  have e : s.drop i = s.getD i 0 :: s.drop (i + 1) := by rw [List.getD_eq_getElem?_getD, List.getElem?_eq_getElem hi]; simp
  conv => lhs; rw [e]
  rw [splG, if_pos hc]
theorem idx_str (s : List UInt8) (i : Nat) (hi : i < s.length) : ∀ W, (Instr.index 9 (.string ⟨s.toArray⟩) (.int .i64 (i : Int))).run Tryz.prog W = .ok (.int .u8 (((s.getD i 0).toNat : Nat) : Int)) W := by
  intro W
  rw [run_index_string W 9 ⟨s.toArray⟩ .i64 (i : Int) Tryz.underlying9, dif_pos ⟨by omega, by rw [ba_size]; omega⟩]
  have e : ((⟨s.toArray⟩ : ByteArray)[(i : Int).toNat]'(by rw [ba_size]; omega)) = s.getD i 0 := by
    have e1 : (i : Int).toNat = i := by omega
    simp only [e1]
    rw [List.getD_eq_getElem?_getD, List.getElem?_eq_getElem hi]
    rfl
  rw [e]
set_option maxRecDepth 100000 in
set_option maxHeartbeats 2000000 in
theorem wsplit_any (w : World) (s : List UInt8) (hs : s.length ≤ 1000000000) : Calls Tryz.prog 23 #[.string ⟨s.toArray⟩] w fun e w' => ∃ v, e = .returned v ∧ OwnL w' v (splM s) ∧ Fr [] w w' := by
  obtain ⟨i0, hi0, hz0, hz1, hz2⟩ := strParts
  go_enter Tryz.func23, Tryz.ntmps23
  go_wp2_with fail
  go_loopw [3, 4, 5] (SplRel w s) (fun _ _ v5 _ => s.length + 1 - (intOf v5).toNat)
  case atStart => exact ⟨0, 0, [], rfl, rfl, Own.nil_ _ _, by simp [Value.ownBlock], Fr.refl _ _, by omega, by omega, by simp, fun _ => by simp [splM], fun h => by omega⟩
  case round =>
    obtain ⟨i, b, l, rfl, rfl, ho, hfr, hf, hi, hb, hll, hq1, hq2⟩ := hrel
    obtain ⟨A, cap, hv, hl1, hl2, -, -⟩ := OwnL.val ho
    subst hv
    have HFR := Lib.hid hfr; clear hfr
    have HO := Lib.hid ho; have HF := Lib.hid hf; have HQ1 := Lib.hid hq1; have HQ2 := Lib.hid hq2
    clear ho hf hq1 hq2
    unfold maxLen at hl2
    by_cases hlt : i < s.length
    · obtain ⟨m, hm⟩ : ∃ m, (s.getD i 0).toNat = m := ⟨_, rfl⟩
      have hidx := idx_str s i hlt
      rw [hm] at hidx
      by_cases hbl : isBl (s.getD i 0) = false
      · have hne : m ≠ 9 ∧ m ≠ 10 ∧ m ≠ 32 := by
          subst hm
          unfold isBl at hbl
          simp only [Bool.or_eq_false_iff, beq_eq_false_iff_ne] at hbl
          obtain ⟨⟨q1, q2⟩, q3⟩ := hbl
          exact ⟨fun e => q1 (UInt8.toNat_inj.1 e), fun e => q2 (UInt8.toNat_inj.1 e), fun e => q3 (UInt8.toNat_inj.1 e)⟩
        have t1 : ((m : Int) != 9) = true := by simp; omega
        have t2 : ((m : Int) != 10) = true := by simp; omega
        have t3 : ((m : Int) != 32) = true := by simp; omega
        have HBL := Lib.hid hbl; clear hbl hne hm
        go_wp2_with fail
        go_roundw
        case rel => exact ⟨i + 1, b, l, rfl, by go_num, HO.out, HFR.out, HF.out, by omega, by omega, by omega, fun _ => by rw [← splG_next s i b hlt hb HBL.out]; exact HQ1.out (by omega), fun h => by omega⟩
        case measure => first | (simp [intOf]; done) | (simp [intOf]; omega)
      · have hbl' : isBl (s.getD i 0) = true := by simpa using hbl
        have hne : m = 9 ∨ m = 10 ∨ m = 32 := by
          subst hm
          unfold isBl at hbl'
          simp only [Bool.or_eq_true, beq_iff_eq] at hbl'
          rcases hbl' with (q | q) | q <;> rw [q] <;> simp
        have HBL := Lib.hid hbl'; clear hbl hbl' hm
        by_cases hib : b < i
        · have hne2 : (s.drop b).take (i - b) ≠ [] := by intro e; have := congrArg List.length e; rw [List.length_take, List.length_drop] at this; simp at this; omega
          have HN2 := Lib.hid hne2; clear hne2
          rcases hne with rfl | rfl | rfl
          all_goals
            go_wp2_with (at_builtin; refine wpList_append_OwnS rfl (.tmp 37) (.tmp 42) 38 rfl 9 i0 _ Tryz.underlying38 hi0 hz0 hz1 rfl (.slice A l.length cap) (strVals l) l.length (strVals_length l) (by rfl) (Own.fr HO.out ((Fr.refl [] wr).alloc _) (by simp)) (some ⟨wr.heap.size, 0, none⟩) 1 1 (by rfl) [.string ((⟨s.toArray⟩ : ByteArray).extract b i)] (one_str wr _) rfl (by simp [Value.oneCell']) (by unfold maxLen; omega) (by rw [hz2]; omega) ?_; intro A5 c5 w5 ho5 hg5 hl5; have HO5 := Lib.hid ho5; have HG5 := Lib.hid hg5; have HL5 := Lib.hid hl5; clear ho5 hg5 hl5)
            have hoL : OwnL w5 (.slice A5 (l.length + 1) c5) (l ++ [(s.drop b).take (i - b)]) := by have := HO5.out; rw [ba_extract] at this; unfold OwnL; rw [strVals_append]; exact this
            have hfr5 : Fr [] w w5 := (HF.out.trans ((Fr.refl [] wr).alloc _)).grown HG5.out (fun g hg => .inr (HFR.out g hg))
            have hnew : ∀ g, (Value.slice A5 (l.length + 1) c5).ownBlock = some g → w.heap.size ≤ g := fun g hg => by
              rcases HL5.out with e | e
              · exact HFR.out g (by rw [← e]; exact hg)
              · rw [hg] at e; injection e with e; have := HF.out.size; simp at e; omega
            have HOL := Lib.hid hoL; have HFR5 := Lib.hid hfr5; have HNEW := Lib.hid hnew
            clear hoL hfr5 hnew
            go_wp2_with fail
            go_roundw
            case rel => exact ⟨i + 1, i + 1, _, by go_num, by go_num, HOL.out, HNEW.out, HFR5.out, by omega, by omega, by simp; omega, fun h => by
              have := HQ1.out (by omega)
              rw [splG_stop s i b hlt HBL.out, if_neg HN2.out, ← List.append_assoc] at this
              simpa using this, fun h => by omega⟩
            case measure => first | (simp [intOf]; done) | (simp [intOf]; omega)
        · obtain rfl : b = i := by omega
          rcases hne with rfl | rfl | rfl
          all_goals
            go_wp2_with fail
            go_roundw
            case rel => exact ⟨b + 1, b + 1, l, by go_num, by go_num, HO.out, HFR.out, HF.out, by omega, by omega, by omega, fun h => by
              have := HQ1.out (by omega)
              rw [splG_stop s b b hlt HBL.out] at this
              simpa using this, fun h => by omega⟩
            case measure => first | (simp [intOf]; done) | (simp [intOf]; omega)
    · by_cases hend : i = s.length
      · have hdr : s.drop i = [] := List.drop_eq_nil_of_le (by omega)
        have hq := HQ1.out (by omega)
        rw [hdr] at hq
        by_cases hib : b < i
        · have hne2 : (s.drop b).take (i - b) ≠ [] := by intro e; have := congrArg List.length e; rw [List.length_take, List.length_drop] at this; simp at this; omega
          rw [splG, if_neg hne2] at hq
          have HQ := Lib.hid hq; clear hq hne2 hdr
          subst hend
          go_wp2_with (at_builtin; refine wpList_append_OwnS rfl (.tmp 37) (.tmp 42) 38 rfl 9 i0 _ Tryz.underlying38 hi0 hz0 hz1 rfl (.slice A l.length cap) (strVals l) l.length (strVals_length l) (by rfl) (Own.fr HO.out ((Fr.refl [] wr).alloc _) (by simp)) (some ⟨wr.heap.size, 0, none⟩) 1 1 (by rfl) [.string ((⟨s.toArray⟩ : ByteArray).extract b s.length)] (one_str wr _) rfl (by simp [Value.oneCell']) (by unfold maxLen; omega) (by rw [hz2]; omega) ?_; intro A5 c5 w5 ho5 hg5 hl5; have HO5 := Lib.hid ho5; have HG5 := Lib.hid hg5; have HL5 := Lib.hid hl5; clear ho5 hg5 hl5)
          have hoL : OwnL w5 (.slice A5 (l.length + 1) c5) (l ++ [(s.drop b).take (s.length - b)]) := by have := HO5.out; rw [ba_extract] at this; unfold OwnL; rw [strVals_append]; exact this
          have hfr5 : Fr [] w w5 := (HF.out.trans ((Fr.refl [] wr).alloc _)).grown HG5.out (fun g hg => .inr (HFR.out g hg))
          have hnew : ∀ g, (Value.slice A5 (l.length + 1) c5).ownBlock = some g → w.heap.size ≤ g := fun g hg => by
            rcases HL5.out with e | e
            · exact HFR.out g (by rw [← e]; exact hg)
            · rw [hg] at e; injection e with e; have := HF.out.size; simp at e; omega
          have HOL := Lib.hid hoL; have HFR5 := Lib.hid hfr5; have HNEW := Lib.hid hnew
          clear hoL hfr5 hnew
          go_wp2_with fail
          go_roundw
          case rel => exact ⟨s.length + 1, s.length + 1, _, by go_num, by go_num, HOL.out, HNEW.out, HFR5.out, by omega, by omega, by simp; omega, fun h => by omega, fun _ => HQ.out⟩
          case measure => first | (simp [intOf]; done) | (simp [intOf]; omega)
        · obtain rfl : b = i := by omega
          have e0 : (s.drop b).take (b - b) = [] := by simp
          rw [e0, splG, if_pos rfl, List.append_nil] at hq
          have HQ := Lib.hid hq; clear hq hdr e0
          subst hend
          go_wp2_with fail
          go_roundw
          case rel => exact ⟨s.length + 1, s.length + 1, l, by go_num, by go_num, HO.out, HFR.out, HF.out, by omega, by omega, by omega, fun h => by omega, fun _ => HQ.out⟩
          case measure => first | (simp [intOf]; done) | (simp [intOf]; omega)
      · have hq := HQ2.out (by omega)
        have hfin : OwnL wr (.slice A l.length cap) (splM s) := by rw [← hq]; exact HO.out
        have HFIN := Lib.hid hfin; clear hq hfin
        go_wp2_with fail
        go_ret
        exact ⟨_, rfl, HFIN.out, HF.out⟩
end Go.Proofs.YtokamlobppejhaaGreatDoor
