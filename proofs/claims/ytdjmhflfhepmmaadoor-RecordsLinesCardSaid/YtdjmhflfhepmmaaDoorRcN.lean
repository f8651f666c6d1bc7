/-
  The walk of RecordsLines. No conditions.
-/
import Derived.Test.YtdjmhflfhepmmaaDoorRc4
import Derived.Test.YtdjmhflfhepmmaaDoorRc6
import Derived.Test.YtdjmhflfhepmmaaDoorRead
namespace Go.Proofs.YtdjmhflfhepmmaaDoor
open Go.RowKit Go.ChangeShapes Go.WideShapes Go.ChangeAt Go.Deep
set_option linter.unusedVariables false
set_option linter.unusedSimpArgs false

theorem u8c : Tryd.prog.cellsOf 5 = 1 := by kernel_rfl
/-- Where the bytes lie, one by one. -/
def ByteAt (w : World) (A : Option Addr) (bs : List UInt8) : Prop := ∀ i, i < bs.length → ∃ b off, A = some ⟨b, off, none⟩ ∧ b < w.heap.size ∧ w.cell? ⟨b, off + i, none⟩ = some (.int .u8 ((bs.getD i 0).toNat : Int))
theorem ByteAt.fr_nil {w w' : World} {A : Option Addr} {bs : List UInt8} (h : ByteAt w A bs) (hf : Fr [] w w') : ByteAt w' A bs := by
  intro i hi
  obtain ⟨b, off, h1, h2, h3⟩ := h i hi
  exact ⟨b, off, h1, Nat.lt_of_lt_of_le h2 hf.size, (hf.cell h2 (by simp)).trans h3⟩
set_option maxRecDepth 100000 in
theorem arg_bytes {H : Type} {enc : TypeId × Value → H} {w : World} {base base' : Nat} {spare : Nat → Bool} {held : Bool} {r : Reach} {v : Value} {d : DataW H} {p : List MemPlace}
    (hv : Value.okWide Tryd.prog w r base' 24 v) (h : DataW.Trod enc Tryd.prog w base spare held 24 v d p) :
    ∃ (A : Option Addr) (c : Nat) (bs : List UInt8), v = .slice A bs.length c ∧ bs.length ≤ c ∧ c ≤ maxLen ∧ (A = none → c = 0) ∧ Bytes w A bs ∧ ByteAt w A bs := by
  obtain ⟨A, n, c, rfl, h1, h2, h3, hi⟩ := arg_slice Tryd.underlying24 (by rw [u8c]; omega) hv h
  obtain ⟨A', c', bs, hbs, g1, g2, g3, g4⟩ := (Rd.of_trod h).bytes_ Tryd.underlying24 Tryd.underlying5 u8c
  have : (Value.slice A n c).cells.toList = [Value.slice A n c] := rfl
  rw [this] at hbs
  injection hbs with hbs
  injection hbs with e1 e2 e3
  subst e1 e2 e3
  refine ⟨A, c, bs, rfl, g1, g2, g3, g4, fun i hil => ?_⟩
  obtain ⟨b, off, es, hA, hb, -⟩ := hi i hil
  have hu : (byteVals bs)[i]? = some (.int .u8 ((bs.getD i 0).toNat : Int)) := by simp [byteVals, hil]
  obtain ⟨a, ha, -, hcell⟩ := At.get g4 hu
  rw [hA] at ha
  injection ha with ha
  subst ha
  have hadd : (⟨b, off, none⟩ : Addr).add i = ⟨b, off + i, none⟩ := by unfold Addr.add; split <;> simp_all
  rw [hadd] at hcell
  exact ⟨b, off, hA, hb, hcell⟩
theorem count_next (bs : List UInt8) (c : UInt8) (i : Nat) (hi : i < bs.length) : (bs.take (i + 1)).count c = (bs.take i).count c + if bs.getD i 0 = c then 1 else 0 := by
  rw [List.take_add_one, List.count_append, List.getElem?_eq_getElem hi]
  have e : bs.getD i 0 = bs[i] := by rw [List.getD_eq_getElem?_getD, List.getElem?_eq_getElem hi]; rfl
  rw [e, Option.toList_some, List.count_singleton]
  simp
theorem flat_next (l : List (List UInt8)) (c : UInt8) (i : Nat) (hi : i < l.length) : ((l.take (i + 1)).map (· ++ [c])).flatten = ((l.take i).map (· ++ [c])).flatten ++ (l.getD i [] ++ [c]) := by
  rw [List.take_add_one, List.getElem?_eq_getElem hi]
  have e : l.getD i [] = l[i] := by rw [List.getD_eq_getElem?_getD, List.getElem?_eq_getElem hi]; rfl
  rw [e, Option.toList_some, List.map_append, List.flatten_append]
  simp
theorem flat_le (l : List (List UInt8)) (c : UInt8) (i : Nat) : ((l.take i).map (· ++ [c])).flatten.length ≤ ((l.map (· ++ [c])).flatten).length := by
  conv => rhs; rw [← List.take_append_drop i l, List.map_append, List.flatten_append, List.length_append]
  omega
theorem closed_len (c : UInt8) (s : List UInt8) : (closed c s).length ≤ s.length + 1 := by
  unfold closed; split <;> simp
theorem ba_add (a b : List UInt8) : (⟨a.toArray⟩ : ByteArray) ++ ⟨b.toArray⟩ = ⟨(a ++ b).toArray⟩ := by
  apply ByteArray.ext
  rw [ByteArray.data_append]
  simp
theorem ba_add1 (a : List UInt8) (c : UInt8) : (⟨a.toArray⟩ : ByteArray) ++ ⟨#[c]⟩ = ⟨(a ++ [c]).toArray⟩ := ba_add a [c]
theorem ba_add3 (p r : List UInt8) (c : UInt8) : (⟨p.toArray⟩ : ByteArray) ++ ⟨r.toArray⟩ ++ ⟨#[c]⟩ = ⟨(p ++ (r ++ [c])).toArray⟩ := by
  rw [← List.append_assoc, ← ba_add1, ← ba_add]
def CntR (w0 : World) (bs : List UInt8) (v5 v7 : Value) (wr : World) : Prop :=
  ∃ i, v7 = .int .i64 ((i : Nat) : Int) ∧ v5 = .int .i64 (((bs.take i).count 10 : Nat) : Int) ∧ i ≤ bs.length ∧ w0 = wr
def AllR (w0 : World) (l : List (List UInt8)) (v6 v8 : Value) (wr : World) : Prop :=
  ∃ (i : Nat) (p : List UInt8), v8 = .int .i64 (i : Int) ∧ v6 = .string ⟨p.toArray⟩ ∧ p = ((l.take i).map (· ++ [10])).flatten ∧ i ≤ l.length ∧ w0 = wr
set_option maxRecDepth 100000 in
set_option maxHeartbeats 4000000 in
theorem lines_walk {w : World} {A : Option Addr} {cp : Nat} {bs : List UInt8} (h : Bytes w A bs) (hat : ByteAt w A bs) (hA : A = none → cp = 0) (hc : bs.length ≤ cp) (hm : cp ≤ maxLen) :
    Calls Tryd.prog 4 #[.slice A bs.length cp] w fun e w' => e = .returned (.bool true) ∧ Fr [] w w' := by
  unfold maxLen at hm
  have HH := Lib.hid h; have HAT := Lib.hid hat
  clear h hat
  go_enter Tryd.func4, Tryd.ntmps4
  go_wp2_with fail
  go_at_call 6
  refine (awake_any w).mono ?_
  rintro e w1 ⟨rfl, hf1⟩
  have HF1 : Hid (Fr [] w w1) := Lib.hid (Fr.of_below hf1); clear hf1
  by_cases h100 : 100 < bs.length
  · go_wp2_with fail
    go_ret
    exact ⟨rfl, HF1.out⟩
  go_wp2_with fail
  go_at_call 7
  refine (rsplit_any 10 (by decide) rfl (At.fr_nil HH.out HF1.out) hA hc (by omega)).mono ?_
  rintro e w2 ⟨v, rfl, ho, -, hf⟩
  have HF2 := Lib.hid (HF1.out.trans hf)
  have HAT2 := Lib.hid (HAT.out.fr_nil HF2.out)
  obtain ⟨L, lc, rfl, hl1, hl2, -, -⟩ := OwnL.val ho
  have HO := Lib.hid ho
  obtain ⟨hq1, hq2⟩ := rec_lines 10 bs.length bs (Nat.le_refl _)
  have hlen := recM_len 10 bs.length bs (Nat.le_refl _)
  obtain ⟨l, hl⟩ : ∃ l, recM 10 bs = l := ⟨_, rfl⟩
  rw [hl] at hq1 hq2 hlen hl1 HO ⊢
  have HQ1 := Lib.hid hq1; have HQ2 := Lib.hid hq2
  clear hf ho hl HF1 HAT hq1 hq2
  unfold maxLen at hl2
  go_wp2_with fail
  go_loopw [5, 7] (CntR w2 bs) (fun _ v7 _ => bs.length - (intOf v7).toNat)
  case atStart => exact ⟨0, rfl, by simp, by omega, rfl⟩
  case round =>
    obtain ⟨i, rfl, rfl, hi, rfl⟩ := hrel
    by_cases hlt : i < bs.length
    · have hn := count_next bs 10 i hlt
      have hcb : (bs.take i).count 10 ≤ i := by have := List.count_le_length (a := (10 : UInt8)) (l := bs.take i); rw [List.length_take] at this; omega
      obtain ⟨b, off, rfl, -, hcell⟩ := HAT2.out i hlt
      by_cases h10 : bs.getD i 0 = 10
      · rw [h10] at hcell
        rw [if_pos h10] at hn
        have HN := Lib.hid hn; clear hn h10
        go_wp2_with fail
        go_roundw
        case rel => exact ⟨i + 1, by go_num, by rw [HN.out]; go_num, by omega, rfl⟩
        case measure => first | (simp [intOf]; done) | (simp [intOf]; omega)
      · obtain ⟨m, hm2⟩ : ∃ m, (bs.getD i 0).toNat = m := ⟨_, rfl⟩
        have hne : m ≠ 10 := fun e => h10 (UInt8.toNat_inj.1 (by rw [hm2, e]; rfl))
        rw [hm2] at hcell
        rw [if_neg h10] at hn
        have HN := Lib.hid hn; clear hn h10
        go_wp2_with fail
        go_roundw
        case rel => exact ⟨i + 1, by go_num, by rw [HN.out]; go_num, by omega, rfl⟩
        case measure => first | (simp [intOf]; done) | (simp [intOf]; omega)
    · obtain rfl : i = bs.length := by omega
      rw [List.take_length]
      have hcb : bs.count 10 ≤ bs.length := List.count_le_length
      rcases Nat.eq_zero_or_pos bs.length with h0 | h0
      · obtain rfl : bs = [] := List.eq_nil_of_length_eq_zero h0
        have hl0 : l = [] := List.eq_nil_of_length_eq_zero (by have := HQ2.out; simpa [ends] using this)
        subst hl0
        go_wp2_with fail
        go_loopw [6, 8] (AllR w2 []) (fun _ v8 _ => 0)
        case atStart => exact ⟨0, [], rfl, rfl, by simp, by omega, rfl⟩
        case round =>
          obtain ⟨i, p, rfl, rfl, hp, hi2, rfl⟩ := hrel
          obtain rfl : i = 0 := by simpa using hi2
          have hpq : p = [] := by simpa using hp
          subst hpq
          clear hp
          go_wp2_with (refine wpList_str rfl 24 9 (.tmp 60) rfl 5 Tryd.underlying24 Tryd.underlying5 Tryd.underlying9 A _ _ (by rfl) [] (At.nil_ _ _) (by rfl) ?_)
          go_ret
          exact ⟨by simp, HF2.out⟩
      · obtain ⟨k, hk⟩ : ∃ k, bs.length = k + 1 := ⟨bs.length - 1, by omega⟩
        have hki : (bs.length : Int) - 1 = (k : Int) := by omega
        obtain ⟨b, off, rfl, -, hcell⟩ := HAT2.out k (by omega)
        have hgl : bs.getLast? = some (bs.getD k 0) := by
          rw [List.getLast?_eq_getElem?, hk, Nat.add_sub_cancel, List.getD_eq_getElem?_getD, List.getElem?_eq_getElem (by omega)]; rfl
        have hbne : bs ≠ [] := by rintro rfl; simp at h0
        by_cases h10 : bs.getD k 0 = 10
        · have hyes : bs = [] ∨ bs.getLast? = some 10 := .inr (by rw [hgl, h10])
          have he1 : ends 10 bs = bs.count 10 := by unfold ends; rw [if_pos hyes]; rfl
          have he2 : closed 10 bs = bs := by unfold closed; rw [if_pos hyes]
          have HE1 := Lib.hid (HQ2.out.trans he1); have HE2 := Lib.hid (HQ1.out.trans he2)
          rw [h10] at hcell
          clear he1 he2 hgl h10 hyes hbne
          go_wp2_with fail
          go_loopw [6, 8] (AllR w2 l) (fun _ v8 _ => l.length - (intOf v8).toNat)
          case atStart => exact ⟨0, [], rfl, rfl, by simp, by omega, rfl⟩
          case round =>
            obtain ⟨i, p, rfl, rfl, hp, hi2, rfl⟩ := hrel
            by_cases hlt2 : i < l.length
            · have hn := flat_next l 10 i hlt2
              rw [← hp] at hn
              obtain ⟨d, doff, rfl, dcell⟩ := OwnL.cell HO.out hlt2
              obtain ⟨r, hr⟩ : ∃ r, l.getD i [] = r := ⟨_, rfl⟩
              rw [hr] at hn dcell
              have hle := flat_le l 10 (i + 1)
              have hcl := closed_len 10 bs
              have HN := Lib.hid hn
              have hpl : p.length + r.length + 1 ≤ 101 := by
                have := HQ1.out
                rw [hn, this] at hle
                simp at hle
                omega
              clear hn hr hp hle hcl
              go_wp2_with fail
              go_roundw
              case rel => exact ⟨i + 1, _, by go_num, congrArg Value.string (ba_add3 p r 10), HN.out.symm, by omega, rfl⟩
              case measure => first | (simp [intOf]; done) | (simp [intOf]; omega)
            · obtain rfl : i = l.length := by omega
              have hpq : bs = p := by rw [hp, List.take_length]; exact HE2.out.symm
              subst hpq
              have hnl := HE1.out
              clear hp
              go_wp2_with (refine wpList_str rfl 24 9 (.tmp 60) rfl 5 Tryd.underlying24 Tryd.underlying5 Tryd.underlying9 (some ⟨b, off, none⟩) _ _ (by rfl) bs (At.fr_nil HH.out HF2.out) (by first | rfl | exact hk) ?_)
              go_ret
              exact ⟨by simp, HF2.out⟩
        · obtain ⟨m, hm2⟩ : ∃ m, (bs.getD k 0).toNat = m := ⟨_, rfl⟩
          have hne : m ≠ 10 := fun e => h10 (UInt8.toNat_inj.1 (by rw [hm2, e]; rfl))
          have t1 : ((m : Int) != 10) = true := by simp; omega
          have hnot : ¬ (bs = [] ∨ bs.getLast? = some 10) := by rintro (h | h); exact hbne h; rw [hgl] at h; injection h with h; exact h10 h
          have he1 : ends 10 bs = bs.count 10 + 1 := by unfold ends; rw [if_neg hnot]
          have he2 : closed 10 bs = bs ++ [10] := by unfold closed; rw [if_neg hnot]
          have HE1 := Lib.hid (HQ2.out.trans he1); have HE2 := Lib.hid (HQ1.out.trans he2)
          rw [hm2] at hcell
          clear he1 he2 hgl h10 hm2 hnot hbne
          go_wp2_with fail
          go_loopw [6, 8] (AllR w2 l) (fun _ v8 _ => l.length - (intOf v8).toNat)
          case atStart => exact ⟨0, [], rfl, rfl, by simp, by omega, rfl⟩
          case round =>
            obtain ⟨i, p, rfl, rfl, hp, hi2, rfl⟩ := hrel
            by_cases hlt2 : i < l.length
            · have hn := flat_next l 10 i hlt2
              rw [← hp] at hn
              obtain ⟨d, doff, rfl, dcell⟩ := OwnL.cell HO.out hlt2
              obtain ⟨r, hr⟩ : ∃ r, l.getD i [] = r := ⟨_, rfl⟩
              rw [hr] at hn dcell
              have hle := flat_le l 10 (i + 1)
              have hcl := closed_len 10 bs
              have HN := Lib.hid hn
              have hpl : p.length + r.length + 1 ≤ 101 := by
                have := HQ1.out
                rw [hn, this] at hle
                simp at hle
                omega
              clear hn hr hp hle hcl
              go_wp2_with fail
              go_roundw
              case rel => exact ⟨i + 1, _, by go_num, congrArg Value.string (ba_add3 p r 10), HN.out.symm, by omega, rfl⟩
              case measure => first | (simp [intOf]; done) | (simp [intOf]; omega)
            · obtain rfl : i = l.length := by omega
              have hpq : p = bs ++ [10] := by rw [hp, List.take_length]; exact HE2.out
              subst hpq
              have hnl := HE1.out
              clear hp
              go_wp2_with (refine wpList_str rfl 24 9 (.tmp 60) rfl 5 Tryd.underlying24 Tryd.underlying5 Tryd.underlying9 (some ⟨b, off, none⟩) _ _ (by rfl) bs (At.fr_nil HH.out HF2.out) (by first | rfl | exact hk) ?_)
              go_ret
              exact ⟨by rw [ba_add1]; simp, HF2.out⟩
set_option maxRecDepth 100000 in
theorem recordsLines_open {H : Type} {enc : TypeId × Value → H} (W : World) (base : Nat) (v0 : Value) (d0 : DataW H) (p0 : List MemPlace) (k0 : Value.okWide Tryd.prog W .any base 24 v0) (h0 : DataW.Trod enc Tryd.prog W 0 (fun _ => true) true 24 v0 d0 p0) :
    Calls Tryd.prog 4 #[v0] W fun e W' => e = .returned (.bool true) ∧ Below W.heap.size W W' := by
  obtain ⟨A, c, bs, rfl, g1, g2, g3, g4, g5⟩ := arg_bytes k0 h0
  exact (lines_walk g4 g5 g3 g1 g2).mono fun e w' h => ⟨h.1, h.2.below_nil⟩
end Go.Proofs.YtdjmhflfhepmmaaDoor
