/-
  The reference of numbers: rows of digits, double, cut, Less (of equal ones), Of, Same. No conditions but sizes.
-/
import Derived.Test.YtjfgopihfgljmaaDoorLex4
import Derived.Test.YtjfgopihfgljmaaDoorLr5
import Derived.Test.YtjfgopihfgljmaaDoorRwP
import Derived.Deep.Cut
import Derived.BigQuiet
namespace Go.Proofs.YtjfgopihfgljmaaDoor
open Go.RowKit
set_option linter.unusedVariables false
set_option linter.unusedSimpArgs false

/-- Blocks of one type stay. -/
def KeepB (t : TypeId) (w w' : World) : Prop := ∀ b cs, Bk w b t cs → Bk w' b t cs
theorem own_base {w : World} {base n sz : Nat} {v : Value} {e : TypeId} {xs : List Value} (h : w.ownsRow base e sz v n xs) : ∀ g, v.ownBlock = some g → base ≤ g ∧ ∃ cur, Bk w g e cur := by
  obtain ⟨h1, ⟨h2, h3⟩ | ⟨b', cap', cur, h2, h0, hb', h6⟩⟩ := h
  · rw [h2]; intro g hg; simp [Value.ownBlock] at hg
  · rw [h2]; intro g hg; simp [Value.ownBlock] at hg; subst hg; exact ⟨h0, cur, hb'⟩
theorem own_keep {w w' : World} {base n sz : Nat} {v : Value} {e : TypeId} {xs : List Value} (h : w.ownsRow base e sz v n xs) (k : KeepB e w w') : w'.ownsRow base e sz v n xs := by
  obtain ⟨h1, h2 | ⟨b', cap', cur, h2, h0, hb', h6⟩⟩ := h
  · exact ⟨h1, .inl h2⟩
  · exact ⟨h1, .inr ⟨b', cap', cur, h2, h0, k b' cur hb', h6⟩⟩
theorem KeepB.of_nil {t : TypeId} {w w' : World} (h : Fr [] w w') : KeepB t w w' := fun b cs hb => hb.fr h (by simp)
theorem own_nil {w w' : World} {base n sz : Nat} {v : Value} {e : TypeId} {xs : List Value} (h : w.ownsRow base e sz v n xs) (k : Fr [] w w') : w'.ownsRow base e sz v n xs := own_keep h (KeepB.of_nil k)
theorem one_new_ (w : World) (t : TypeId) (a : Value) : ∀ j u, [a][j]? = some u → (w.alloc (.cells #[a] t)).cell? ((⟨w.heap.size, 0, none⟩ : Addr).add j) = some u := by
  intro j u hu
  have hb := Bk.new w t #[a]
  have hadd : (⟨w.heap.size, 0, none⟩ : Addr).add j = ⟨w.heap.size, j, none⟩ := by unfold Addr.add; split <;> simp_all
  rw [hadd, hb.cell]
  simpa using hu
theorem own_any5 {w : World} {base n sz : Nat} {v : Value} {e : TypeId} {xs : List Value} (h : w.ownsRow base e sz v n xs) : ∃ A c, v = .slice A n c := by
  obtain ⟨h1, ⟨h2, h3⟩ | ⟨b', cap', cur, h2, -⟩⟩ := h
  · exact ⟨none, 0, by rw [h2, h3]⟩
  · exact ⟨_, _, h2⟩
theorem own_room {w : World} {base n cap sz : Nat} {A : Option Addr} {e : TypeId} {l : List Value} (h : w.ownsRow base e sz (.slice A n cap) n l) : n ≤ cap ∧ cap ≤ maxLen ∧ (A = none → cap = 0) := by
  obtain ⟨h1, ⟨h2, h3⟩ | ⟨g, cap', cur, h2, h0, hb, h3, h4, h5, h6⟩⟩ := h
  · injection h2 with h2 h2a h2b
    exact ⟨by omega, by subst h2b; simp, fun _ => h2b⟩
  · injection h2 with h2 _ h2'
    subst h2 h2'
    exact ⟨h3, h4, fun e => by cases e⟩
theorem own_addr {w : World} {base n cap sz : Nat} {A : Option Addr} {e : TypeId} {l : List Value} (h : w.ownsRow base e sz (.slice A n cap) n l) : ∀ a, A = some a → base ≤ a.block ∧ ∃ cur, Bk w a.block e cur := by
  obtain ⟨h1, ⟨h2, h3⟩ | ⟨g, cap', cur, h2, h0, hb, h3, h4, h5, h6⟩⟩ := h
  · injection h2 with h2 h2a h2b
    intro a ha; rw [h2] at ha; cases ha
  · injection h2 with h2 _ h2'
    intro a ha; rw [h2] at ha; injection ha with ha; subst ha
    exact ⟨h0, cur, hb⟩
theorem intParts : ∃ i, Tryd.prog.info? 3 = some i ∧ i.zero = some (.int .i64 0) ∧ i.size = 1 ∧ i.bytes = 8 := info_parts (by kernel_rfl)
def ints (l : List Nat) : List Value := l.map fun x : Nat => .int .i64 (x : Int)
theorem ints_len (l : List Nat) : (ints l).length = l.length := by simp [ints]
theorem ints_app (a b : List Nat) : ints (a ++ b) = ints a ++ ints b := by simp [ints]
theorem ints_get {l : List Nat} {i x : Nat} (h : l[i]? = some x) : (ints l)[i]? = some (.int .i64 (x : Int)) := by
  unfold ints; rw [List.getElem?_map, h]; rfl
theorem At.int_ {w : World} {A : Option Addr} {l : List Nat} (h : At w A (ints l)) {i x : Nat} (hi : l[i]? = some x) : ∃ ad, A = some ad ∧ w.cell? (ad.add i) = some (.int .i64 (x : Int)) := by
  obtain ⟨a, h1, -, h3⟩ := At.get h (ints_get hi)
  exact ⟨a, h1, h3⟩
theorem own_new {w : World} {e : TypeId} {sz : Nat} (base : Nat) : w.ownsRow base e sz (.slice none 0 0) 0 [] := ⟨by simp, .inl ⟨rfl, rfl⟩⟩
/-- Where 'double' stands. -/
def DblRel (w : World) (l : List Nat) (b : Nat) (v1 v5 v6 : Value) (wr : World) : Prop := ∃ (i c : Nat) (o : List Nat) (A : Option Addr) (cp : Nat), v6 = .int .i64 (i : Int) ∧ v1 = .int .i64 (c : Int) ∧ v5 = .slice A i cp ∧ i ≤ l.length ∧ c ≤ 1 ∧ o.length = i ∧ o ++ dblD (l.drop i) c = dblD l b ∧ wr.ownsRow w.heap.size 3 1 (.slice A i cp) i (ints o) ∧ Fr [] w wr
def IntsPost (w : World) (l : List Nat) (e : Ending) (w' : World) : Prop := ∃ A c, e = .returned (.slice A l.length c) ∧ w'.ownsRow w.heap.size 3 1 (.slice A l.length c) l.length (ints l) ∧ Fr [] w w'
theorem drop_get6 {α : Type} {l : List α} {k : Nat} {x : α} (h : l[k]? = some x) : l.drop k = x :: l.drop (k + 1) := by
  obtain ⟨h1, h2⟩ := List.getElem?_eq_some_iff.1 h
  rw [List.drop_eq_getElem_cons h1, h2]
set_option maxRecDepth 100000 in
set_option maxHeartbeats 4000000 in
theorem double_any {w : World} {A : Option Addr} {l : List Nat} {n c b : Nat} (hn : n = l.length) (hl : n ≤ 1000) (hd : ∀ x ∈ l, x < 10) (hb : b ≤ 1) (ha : At w A (ints l)) :
    Calls Tryd.prog 26 #[.slice A n c, .int .i64 (b : Int)] w (IntsPost w (dblD l b)) := by
  obtain ⟨i0, hi0, hz0, hz1, hz2⟩ := intParts
  have HA := Lib.hid ha; have HN := Lib.hid hn; have HD := Lib.hid hd
  clear ha hn hd
  go_enter Tryd.func26, Tryd.ntmps26
  go_wp2_with fail
  go_loopw [1, 5, 6, 7] (fun v1 v5 v6 v7 wr => DblRel w l b v1 v5 v6 wr) (fun _ _ v6 _ _ => n + 1 - (intOf v6).toNat)
  case atStart => exact ⟨0, b, [], none, 0, rfl, rfl, rfl, Nat.zero_le _, hb, rfl, rfl, own_new _, Fr.refl _ _⟩
  case round =>
    obtain ⟨i, c, o, A0, c0, rfl, rfl, rfl, hi, hc, hol, hE, hown, hfr⟩ := hrel
    have HOWN := Lib.hid hown; have HFR := Lib.hid hfr; have HE := Lib.hid hE; have HOL := Lib.hid hol
    have hi' : i ≤ n := by rw [HN.out]; exact hi
    clear hown hfr hi hE hol
    rcases Nat.lt_or_ge i n with hin | hin
    · have hinI : (i : Int) < (n : Int) := by omega
      obtain ⟨x, hx⟩ : ∃ x, l[i]? = some x := ⟨_, List.getElem?_eq_getElem (by have := HN.out; omega)⟩
      have hx10 : x < 10 := HD.out x (List.mem_of_getElem? hx)
      obtain ⟨ad, rfl, e0⟩ := (HA.out.fr_nil HFR.out).int_ hx
      have hdr := drop_get6 hx
      obtain ⟨r, hr⟩ : ∃ r, r = (2 * x + c) % 10 := ⟨_, rfl⟩
      obtain ⟨q, hq⟩ : ∃ q, q = (2 * x + c) / 10 := ⟨_, rfl⟩
      have hq1 : q ≤ 1 := by omega
      have hrT : (2 * (x : Int) + (c : Int)).tmod 10 = (r : Int) := by rw [Int.tmod_eq_emod_of_nonneg (by omega)]; omega
      have hqT : (2 * (x : Int) + (c : Int)).tdiv 10 = (q : Int) := by rw [Int.tdiv_eq_ediv_of_nonneg (by omega)]; omega
      have HE2 : Hid ((o ++ [r]) ++ dblD (l.drop (i + 1)) q = dblD l b) := Lib.hid (by
        have h := HE.out
        rw [hdr, dblD, ← hr, ← hq] at h
        rw [← h]; simp)
      obtain ⟨xs, hxs⟩ : ∃ xs, xs = ints o := ⟨_, rfl⟩
      rw [← hxs] at HOWN
      have HXS := Lib.hid hxs
      have HX := Lib.hid hx
      clear hx hdr hr hq hxs
      go_wp2_with (at_builtin; refine RR.wpList_append_R rfl (.tmp 21) (.tmp 24) 45 rfl w.heap.size 3 i0 _ 1 8 Tryd.underlying45 hi0 hz0 hz1 hz2 rfl (by omega) (.slice A0 i c0) i xs (by first | rfl | (simp [Act.eval]; done)) (own_nil HOWN.out ((Fr.refl [] wr).alloc _)) ⟨wr.heap.size, 0, none⟩ 1 1 [.int .i64 (r : Int)] (by first | rfl | (simp [Act.eval]; done)) rfl (one_new_ wr _ _) (by simp [Value.oneCell']) (by unfold maxLen; omega) (by omega) (by have := HFR.out.size; simp; omega) ?_; intro v' w4 hown4 hgr hat4; obtain ⟨A4, c4, rfl⟩ := own_any5 hown4; have HGR := Lib.hid hgr; have HOWN4 := Lib.hid hown4; clear hown4 hgr hat4)
      go_roundw
      case rel => exact ⟨i + 1, q, o ++ [r], A4, c4, by go_num, by first | rfl | (simp; done), rfl, by have := HN.out; omega, hq1, by rw [List.length_append, HOL.out]; rfl, HE2.out, by have h := HOWN4.out; rw [HXS.out] at h; rw [ints_app]; exact h, (HFR.out.alloc _).grown HGR.out (fun g hg => .inr (own_base HOWN.out g hg).1)⟩
      case measure => first | (simp [intOf]; done) | (simp [intOf]; omega)
    · have hinI : ¬ ((i : Int) < (n : Int)) := by omega
      have hdn : l.drop i = [] := List.drop_of_length_le (by rw [← HN.out]; exact hin)
      have hE2 := HE.out
      rw [hdn, dblD] at hE2
      clear hdn
      rcases Nat.lt_or_ge 0 c with h0 | h0
      · have h0I : (0 : Int) < (c : Int) := by omega
        rw [if_pos h0] at hE2
        have HE2 := Lib.hid hE2
        obtain ⟨xs, hxs⟩ : ∃ xs, xs = ints o := ⟨_, rfl⟩
        rw [← hxs] at HOWN
        have HXS := Lib.hid hxs
        clear hE2 hxs
        go_wp2_with (at_builtin; refine RR.wpList_append_R rfl (.tmp 30) (.tmp 32) 45 rfl w.heap.size 3 i0 _ 1 8 Tryd.underlying45 hi0 hz0 hz1 hz2 rfl (by omega) (.slice A0 i c0) i xs (by first | rfl | (simp [Act.eval]; done)) (own_nil HOWN.out ((Fr.refl [] wr).alloc _)) ⟨wr.heap.size, 0, none⟩ 1 1 [.int .i64 (c : Int)] (by first | rfl | (simp [Act.eval]; done)) rfl (one_new_ wr _ _) (by simp [Value.oneCell']) (by unfold maxLen; omega) (by omega) (by have := HFR.out.size; simp; omega) ?_; intro v' w4 hown4 hgr hat4; obtain ⟨A4, c4, rfl⟩ := own_any5 hown4; have HGR := Lib.hid hgr; have HOWN4 := Lib.hid hown4; clear hown4 hgr hat4)
        go_ret
        have hll : (dblD l b).length = i + 1 := by rw [← HE2.out, List.length_append, HOL.out]; rfl
        refine ⟨A4, c4, by rw [hll]; rfl, ?_, (HFR.out.alloc _).grown HGR.out (fun g hg => .inr (own_base HOWN.out g hg).1)⟩
        have h := HOWN4.out
        rw [HXS.out] at h
        rw [hll, ← HE2.out, ints_app]; exact h
      · have h0I : ¬ ((0 : Int) < (c : Int)) := by omega
        rw [if_neg (by omega), List.append_nil] at hE2
        have HE2 := Lib.hid hE2
        clear hE2
        go_wp2_with fail
        go_ret
        have hll : (dblD l b).length = i := by rw [← HE2.out]; exact HOL.out
        refine ⟨A0, c0, by rw [hll]; rfl, ?_, HFR.out⟩
        rw [hll, ← HE2.out]; exact HOWN.out
theorem new_blk {w : World} {m : Nat} {A : Option Addr} {o : Obj} (h : (m = 0 ∧ A = some ⟨w.heap.size, 0, none⟩) ∨ A = some ⟨(w.alloc o).heap.size, 0, none⟩) : ∀ a, A = some a → w.heap.size ≤ a.block := by
  intro a ha
  rcases h with ⟨-, h⟩ | h
  · rw [h] at ha; injection ha with ha; subst ha; exact Nat.le_refl _
  · rw [h] at ha; injection ha with ha; subst ha; unfold World.alloc; simp
/-- A slice of just these ints, new. -/
def IntsAt (w : World) (l : List Nat) (e : Ending) (w' : World) : Prop := ∃ A c, e = .returned (.slice A l.length c) ∧ l.length ≤ c ∧ At w' A (ints l) ∧ Fr [] w w' ∧ ∀ a, A = some a → w.heap.size ≤ a.block
set_option maxRecDepth 100000 in
set_option maxHeartbeats 4000000 in
theorem cut_any {w : World} {A : Option Addr} {l : List Nat} {n c : Nat} (hn : n = l.length) (hl : n ≤ 1000) (hc : n ≤ c) (hA : A = none → c = 0) (ha : At w A (ints l)) :
    Calls Tryd.prog 27 #[.slice A n c] w (IntsAt w (l.take (topD l))) := by
  obtain ⟨i0, hi0, hz0, hz1, hz2⟩ := intParts
  obtain ⟨T, hT⟩ : ∃ T, T = topD l := ⟨_, rfl⟩
  have hTn : T ≤ n := by rw [hT, hn]; exact topD_le l
  rw [← hT]
  have HA := Lib.hid ha; have HN := Lib.hid hn; have HT := Lib.hid hT; have HNIL := Lib.hid hA
  have HLT : Hid ((l.take T).length = T) := Lib.hid (by rw [List.length_take, ← hn]; omega)
  clear ha hn hT hA
  go_enter Tryd.func27, Tryd.ntmps27
  go_wp2_with fail
  go_loopw [3] (fun v3 wr => ∃ i : Nat, v3 = .int .i64 (i : Int) ∧ i ≤ n ∧ T ≤ i ∧ topD (l.take i) = T ∧ wr = w) (fun v3 _ => (intOf v3).toNat)
  case atStart => exact ⟨n, rfl, Nat.le_refl _, hTn, by rw [List.take_of_length_le (by rw [← HN.out]; exact Nat.le_refl _)]; exact HT.out.symm, rfl⟩
  case round =>
    obtain ⟨i, rfl, hi, hTi, htk, rfl⟩ := hrel
    have HTK := Lib.hid htk
    have hstep := topD_take (l := l) (n := i) (by rw [← HN.out]; exact hi) (by rw [HTK.out, HT.out])
    rw [← HT.out] at hstep
    clear htk
    rcases hstep with h0 | ⟨hz, h2⟩ | ⟨hz, h2⟩
    · skip
      obtain rfl : i = T := by omega
      have h0I : ¬ (0 : Int) < (i : Int) := by omega
      clear h0
      go_wp2_with (first
        | (refine wpList_cut rfl 45 (.tmp 19) none (some (.tmp 20)) none rfl 3 i0 Tryd.underlying45 hi0 hz1 A n c (by first | rfl | (simp [Act.eval]; done)) (ints l) (At.alloc HA.out _) (by rw [ints_len, ← HN.out]) hc HNIL.out 0 i c (.inl ⟨rfl, rfl⟩) (.inr (by first | rfl | (simp [Act.eval]; done))) (.inl ⟨rfl, rfl⟩) (by omega) (by omega) (by omega) (by omega) ?_; intro X hX hX0 _; have HX := Lib.hid hX; clear hX hX0)
        | (at_builtin; refine wpList_append_full rfl (.tmp 18) (.tmp 21) 45 rfl 3 i0 _ Tryd.underlying45 hi0 hz0 hz1 rfl (some ⟨wr.heap.size, 0, none⟩) X 0 i c (by first | rfl | (simp [Act.eval]; done)) (by first | rfl | (simp [Act.eval]; done)) [] (ints (l.take i)) (.inl rfl) rfl (by have h := HX.out; simpa [ints, List.map_take] using h) (by rw [ints_len, List.length_take]; have := HN.out; omega) (fun h => by cases h) (by rw [hz2]; omega) (by unfold maxLen; omega) ?_; intro A5 c5 w5 hat hle hmx hnil hfr hwh; have HAT := Lib.hid hat; have HF5 := Lib.hid hfr; have HLE := Lib.hid hle; have HWH := Lib.hid hwh; clear hat hfr hnil hwh hle hmx))
      go_ret
      exact ⟨A5, c5, by rw [HLT.out]; simp, by rw [HLT.out]; have := HLE.out; omega, by simpa using HAT.out, ((Fr.refl [] wr).alloc _).trans HF5.out, new_blk HWH.out⟩
    · by_cases h0 : i = 0
      · skip
        obtain rfl : i = T := by omega
        have h0I : ¬ (0 : Int) < (i : Int) := by omega
        clear h0
        go_wp2_with (first
          | (refine wpList_cut rfl 45 (.tmp 19) none (some (.tmp 20)) none rfl 3 i0 Tryd.underlying45 hi0 hz1 A n c (by first | rfl | (simp [Act.eval]; done)) (ints l) (At.alloc HA.out _) (by rw [ints_len, ← HN.out]) hc HNIL.out 0 i c (.inl ⟨rfl, rfl⟩) (.inr (by first | rfl | (simp [Act.eval]; done))) (.inl ⟨rfl, rfl⟩) (by omega) (by omega) (by omega) (by omega) ?_; intro X hX hX0 _; have HX := Lib.hid hX; clear hX hX0)
          | (at_builtin; refine wpList_append_full rfl (.tmp 18) (.tmp 21) 45 rfl 3 i0 _ Tryd.underlying45 hi0 hz0 hz1 rfl (some ⟨wr.heap.size, 0, none⟩) X 0 i c (by first | rfl | (simp [Act.eval]; done)) (by first | rfl | (simp [Act.eval]; done)) [] (ints (l.take i)) (.inl rfl) rfl (by have h := HX.out; simpa [ints, List.map_take] using h) (by rw [ints_len, List.length_take]; have := HN.out; omega) (fun h => by cases h) (by rw [hz2]; omega) (by unfold maxLen; omega) ?_; intro A5 c5 w5 hat hle hmx hnil hfr hwh; have HAT := Lib.hid hat; have HF5 := Lib.hid hfr; have HLE := Lib.hid hle; have HWH := Lib.hid hwh; clear hat hfr hnil hwh hle hmx))
        go_ret
        exact ⟨A5, c5, by rw [HLT.out]; simp, by rw [HLT.out]; have := HLE.out; omega, by simpa using HAT.out, ((Fr.refl [] wr).alloc _).trans HF5.out, new_blk HWH.out⟩
      · have h0I : (0 : Int) < (i : Int) := by omega
        obtain ⟨j, rfl⟩ : ∃ j, i = j + 1 := ⟨i - 1, by omega⟩
        rw [Nat.add_sub_cancel] at hz h2
        obtain ⟨x, hx⟩ : ∃ x, l[j]? = some x := ⟨_, List.getElem?_eq_getElem (by have := HN.out; omega)⟩
        have hx0 : x = 0 := by rw [List.getD_eq_getElem?_getD, hx] at hz; exact hz
        subst hx0
        obtain ⟨ad, rfl, e0⟩ := HA.out.int_ hx
        have hTj : T ≤ j := by
          have := topD_le (l.take j)
          rw [h2, List.length_take] at this; omega
        have H2 := Lib.hid h2
        clear hz h2 hx
        go_wp2_with fail
        go_roundw
        case rel => exact ⟨j, by go_num, by omega, hTj, H2.out, trivial⟩
        case measure => first | (simp [intOf]; done) | (simp [intOf]; omega)
    · by_cases h0 : i = 0
      · skip
        obtain rfl : i = T := by omega
        have h0I : ¬ (0 : Int) < (i : Int) := by omega
        clear h0
        go_wp2_with (first
          | (refine wpList_cut rfl 45 (.tmp 19) none (some (.tmp 20)) none rfl 3 i0 Tryd.underlying45 hi0 hz1 A n c (by first | rfl | (simp [Act.eval]; done)) (ints l) (At.alloc HA.out _) (by rw [ints_len, ← HN.out]) hc HNIL.out 0 i c (.inl ⟨rfl, rfl⟩) (.inr (by first | rfl | (simp [Act.eval]; done))) (.inl ⟨rfl, rfl⟩) (by omega) (by omega) (by omega) (by omega) ?_; intro X hX hX0 _; have HX := Lib.hid hX; clear hX hX0)
          | (at_builtin; refine wpList_append_full rfl (.tmp 18) (.tmp 21) 45 rfl 3 i0 _ Tryd.underlying45 hi0 hz0 hz1 rfl (some ⟨wr.heap.size, 0, none⟩) X 0 i c (by first | rfl | (simp [Act.eval]; done)) (by first | rfl | (simp [Act.eval]; done)) [] (ints (l.take i)) (.inl rfl) rfl (by have h := HX.out; simpa [ints, List.map_take] using h) (by rw [ints_len, List.length_take]; have := HN.out; omega) (fun h => by cases h) (by rw [hz2]; omega) (by unfold maxLen; omega) ?_; intro A5 c5 w5 hat hle hmx hnil hfr hwh; have HAT := Lib.hid hat; have HF5 := Lib.hid hfr; have HLE := Lib.hid hle; have HWH := Lib.hid hwh; clear hat hfr hnil hwh hle hmx))
        go_ret
        exact ⟨A5, c5, by rw [HLT.out]; simp, by rw [HLT.out]; have := HLE.out; omega, by simpa using HAT.out, ((Fr.refl [] wr).alloc _).trans HF5.out, new_blk HWH.out⟩
      · have h0I : (0 : Int) < (i : Int) := by omega
        obtain ⟨j, rfl⟩ : ∃ j, i = j + 1 := ⟨i - 1, by omega⟩
        rw [Nat.add_sub_cancel] at hz
        obtain ⟨x, hx⟩ : ∃ x, l[j]? = some x := ⟨_, List.getElem?_eq_getElem (by have := HN.out; omega)⟩
        have hx0 : x ≠ 0 := by rw [List.getD_eq_getElem?_getD, hx] at hz; exact hz
        obtain ⟨ad, rfl, e0⟩ := HA.out.int_ hx
        have hxI : ((x : Int) == 0) = false := by simp; omega
        obtain rfl : T = j + 1 := by rw [h2]
        clear hz hx hx0 h2
        go_wp2_with (first
          | (refine wpList_cut rfl 45 (.tmp 19) none (some (.tmp 20)) none rfl 3 i0 Tryd.underlying45 hi0 hz1 (some ad) n c (by first | rfl | (simp [Act.eval]; done)) (ints l) (At.alloc HA.out _) (by rw [ints_len, ← HN.out]) hc HNIL.out 0 (j + 1) c (.inl ⟨rfl, rfl⟩) (.inr (by first | rfl | (simp [Act.eval]; done))) (.inl ⟨rfl, rfl⟩) (by omega) (by omega) (by omega) (by omega) ?_; intro X hX hX0 _; have HX := Lib.hid hX; clear hX hX0)
          | (at_builtin; refine wpList_append_full rfl (.tmp 18) (.tmp 21) 45 rfl 3 i0 _ Tryd.underlying45 hi0 hz0 hz1 rfl (some ⟨wr.heap.size, 0, none⟩) X 0 (j + 1) c (by first | rfl | (simp [Act.eval]; done)) (by first | rfl | (simp [Act.eval]; done)) [] (ints (l.take (j + 1))) (.inl rfl) rfl (by have h := HX.out; simpa [ints, List.map_take] using h) (by rw [ints_len, List.length_take]; have := HN.out; omega) (fun h => by cases h) (by rw [hz2]; omega) (by unfold maxLen; omega) ?_; intro A5 c5 w5 hat hle hmx hnil hfr hwh; have HAT := Lib.hid hat; have HF5 := Lib.hid hfr; have HLE := Lib.hid hle; have HWH := Lib.hid hwh; clear hat hfr hnil hwh hle hmx))
        go_ret
        exact ⟨A5, c5, by rw [HLT.out]; simp, by rw [HLT.out]; have := HLE.out; omega, by simpa using HAT.out, ((Fr.refl [] wr).alloc _).trans HF5.out, new_blk HWH.out⟩
set_option maxRecDepth 100000 in
set_option maxHeartbeats 4000000 in
theorem less_eq {w : World} {A B : Option Addr} {l : List Nat} {n c d : Nat} (hn : n = l.length) (hl : n ≤ 1000) (ha : At w A (ints l)) (hb : At w B (ints l)) :
    Calls Tryd.prog 25 #[.slice A n c, .slice B n d] w fun e w' => e = .returned (.bool false) ∧ Fr [] w w' := by
  have HA := Lib.hid ha; have HB := Lib.hid hb; have HN := Lib.hid hn
  clear ha hb hn
  go_enter Tryd.func25, Tryd.ntmps25
  go_wp2_with fail
  go_loopw [5] (fun v5 wr => ∃ i : Nat, v5 = .int .i64 ((i : Int) - 1) ∧ i ≤ n ∧ Fr [] w wr) (fun v5 _ => (intOf v5 + 1).toNat)
  case atStart => exact ⟨n, by go_num, Nat.le_refl _, Fr.refl _ _⟩
  case round =>
    obtain ⟨i, rfl, hi, hfr⟩ := hrel
    have HFR := Lib.hid hfr
    clear hfr
    by_cases h0 : i = 0
    · have h0I : ¬ (0 : Int) ≤ (i : Int) - 1 := by omega
      clear h0
      go_wp2_with fail
      go_ret
      exact ⟨rfl, HFR.out⟩
    · obtain ⟨j, rfl⟩ : ∃ j, i = j + 1 := ⟨i - 1, by omega⟩
      clear h0
      obtain ⟨x, hx⟩ : ∃ x, l[j]? = some x := ⟨_, List.getElem?_eq_getElem (by have := HN.out; omega)⟩
      obtain ⟨ad, rfl, e0⟩ := (HA.out.fr_nil HFR.out).int_ hx
      obtain ⟨bd, rfl, e1⟩ := (HB.out.fr_nil HFR.out).int_ hx
      have hjn : (j : Int) < (n : Int) := by omega
      clear hx
      go_upto_region 6 with fail
      go_quiet (fail)
      go_wp2_with fail
      go_roundw
      case rel => exact ⟨j, by go_num, by omega, by first | exact HFR.out | exact HFR.out.drewN _⟩
      case measure => first | (simp [intOf]; done) | (simp [intOf]; omega)
end Go.Proofs.YtjfgopihfgljmaaDoor
