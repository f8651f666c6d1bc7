/-
 Member, Member2: several small texts in one. No conditions.
-/
import Derived.Test.YtfbmogccmlikaaaGreatDoorGe
import Derived.Test.YtfbmogccmlikaaaGreatDoorGd
namespace Go.Proofs.YtfbmogccmlikaaaGreatDoor
open Go.RowKit
set_option linter.unusedVariables false
set_option linter.unusedSimpArgs false
def memberS (bs : List UInt8) (i : Nat) : Except (Nat × Nat) (S4 × Nat) :=
 if opensS bs i = true then
  if Lib.index (bs.drop (i + 2)) [58, 93] < 0 then .error (bs.length, 7)
  else match classS ((bs.drop (i + 2)).take (Lib.index (bs.drop (i + 2)) [58, 93]).toNat) with
   | none => .error (i, 8)
   | some R => .ok (R, i + 2 + (Lib.index (bs.drop (i + 2)) [58, 93]).toNat + 2)
 else match singleS bs i with
  | none => .error (bs.length, 7)
  | some (f, nx) =>
   if bs.length ≤ nx + 1 ∨ bn bs nx ≠ 45 ∨ bn bs (nx + 1) = 93 then .ok (S4.range f f, nx)
   else if opensS bs (nx + 1) = true then .error (i, 4)
   else match singleS bs (nx + 1) with
    | none => .error (bs.length, 7)
    | some (t, nx2) => if t < f then .error (i, 4) else .ok (S4.range f t, nx2)
def MemberPost (w : World) (r : Except (Nat × Nat) (S4 × Nat)) (e : Ending) (w' : World) : Prop := match r with
 | .ok (R, n) => e = .returned (.tuple #[R.val, .int .i64 (n : Int), .nilIface]) ∧ Fr [] w w'
 | .error (p, c) => ∃ v, e = .returned (.tuple #[S4.empty.val, .int .i64 0, v]) ∧ FaultV w' v p c ∧ Fr [] w w'
theorem MemberPost.err {w w' : World} {e : Ending} {p c : Nat} {v : Value} (h1 : e = .returned (.tuple #[S4.empty.val, .int .i64 0, v])) (h2 : FaultV w' v p c) (h3 : Fr [] w w') : MemberPost w (.error (p, c)) e w' := by
 unfold MemberPost; exact ⟨v, h1, h2, h3⟩
theorem MemberPost.ok_ {w w' : World} {e : Ending} {R : S4} {n : Nat} (h1 : e = .returned (.tuple #[R.val, .int .i64 (n : Int), .nilIface])) (h3 : Fr [] w w') : MemberPost w (.ok (R, n)) e w' := by
 unfold MemberPost; exact ⟨h1, h3⟩
theorem classS_ok (l : List UInt8) (R : S4) (h : classS l = some R) : R.ok := by
 unfold classS at h
 by_cases h_xdigit : l = [120, 100, 105, 103, 105, 116]
 ·rw [if_pos h_xdigit] at h; injection h with h; subst h; first | exact S4.range_ok _ _ | exact S4.both_ok _ _ _ _ | exact S4.not_ok _ | exact S4.or_ok (S4.range_ok _ _) (S4.both_ok _ _ _ _) | exact S4.or_ok S4.empty_ok (S4.both_ok _ _ _ _)
 rw [if_neg h_xdigit] at h
 by_cases h_punct : l = [112, 117, 110, 99, 116]
 ·rw [if_pos h_punct] at h; injection h with h; subst h; first | exact S4.range_ok _ _ | exact S4.both_ok _ _ _ _ | exact S4.not_ok _ | exact S4.or_ok (S4.range_ok _ _) (S4.both_ok _ _ _ _) | exact S4.or_ok S4.empty_ok (S4.both_ok _ _ _ _)
 rw [if_neg h_punct] at h
 by_cases h_alnum : l = [97, 108, 110, 117, 109]
 ·rw [if_pos h_alnum] at h; injection h with h; subst h; first | exact S4.range_ok _ _ | exact S4.both_ok _ _ _ _ | exact S4.not_ok _ | exact S4.or_ok (S4.range_ok _ _) (S4.both_ok _ _ _ _) | exact S4.or_ok S4.empty_ok (S4.both_ok _ _ _ _)
 rw [if_neg h_alnum] at h
 by_cases h_alpha : l = [97, 108, 112, 104, 97]
 ·rw [if_pos h_alpha] at h; injection h with h; subst h; first | exact S4.range_ok _ _ | exact S4.both_ok _ _ _ _ | exact S4.not_ok _ | exact S4.or_ok (S4.range_ok _ _) (S4.both_ok _ _ _ _) | exact S4.or_ok S4.empty_ok (S4.both_ok _ _ _ _)
 rw [if_neg h_alpha] at h
 by_cases h_digit : l = [100, 105, 103, 105, 116]
 ·rw [if_pos h_digit] at h; injection h with h; subst h; first | exact S4.range_ok _ _ | exact S4.both_ok _ _ _ _ | exact S4.not_ok _ | exact S4.or_ok (S4.range_ok _ _) (S4.both_ok _ _ _ _) | exact S4.or_ok S4.empty_ok (S4.both_ok _ _ _ _)
 rw [if_neg h_digit] at h
 by_cases h_upper : l = [117, 112, 112, 101, 114]
 ·rw [if_pos h_upper] at h; injection h with h; subst h; first | exact S4.range_ok _ _ | exact S4.both_ok _ _ _ _ | exact S4.not_ok _ | exact S4.or_ok (S4.range_ok _ _) (S4.both_ok _ _ _ _) | exact S4.or_ok S4.empty_ok (S4.both_ok _ _ _ _)
 rw [if_neg h_upper] at h
 by_cases h_lower : l = [108, 111, 119, 101, 114]
 ·rw [if_pos h_lower] at h; injection h with h; subst h; first | exact S4.range_ok _ _ | exact S4.both_ok _ _ _ _ | exact S4.not_ok _ | exact S4.or_ok (S4.range_ok _ _) (S4.both_ok _ _ _ _) | exact S4.or_ok S4.empty_ok (S4.both_ok _ _ _ _)
 rw [if_neg h_lower] at h
 by_cases h_space : l = [115, 112, 97, 99, 101]
 ·rw [if_pos h_space] at h; injection h with h; subst h; first | exact S4.range_ok _ _ | exact S4.both_ok _ _ _ _ | exact S4.not_ok _ | exact S4.or_ok (S4.range_ok _ _) (S4.both_ok _ _ _ _) | exact S4.or_ok S4.empty_ok (S4.both_ok _ _ _ _)
 rw [if_neg h_space] at h
 by_cases h_blank : l = [98, 108, 97, 110, 107]
 ·rw [if_pos h_blank] at h; injection h with h; subst h; first | exact S4.range_ok _ _ | exact S4.both_ok _ _ _ _ | exact S4.not_ok _ | exact S4.or_ok (S4.range_ok _ _) (S4.both_ok _ _ _ _) | exact S4.or_ok S4.empty_ok (S4.both_ok _ _ _ _)
 rw [if_neg h_blank] at h
 by_cases h_print : l = [112, 114, 105, 110, 116]
 ·rw [if_pos h_print] at h; injection h with h; subst h; first | exact S4.range_ok _ _ | exact S4.both_ok _ _ _ _ | exact S4.not_ok _ | exact S4.or_ok (S4.range_ok _ _) (S4.both_ok _ _ _ _) | exact S4.or_ok S4.empty_ok (S4.both_ok _ _ _ _)
 rw [if_neg h_print] at h
 by_cases h_graph : l = [103, 114, 97, 112, 104]
 ·rw [if_pos h_graph] at h; injection h with h; subst h; first | exact S4.range_ok _ _ | exact S4.both_ok _ _ _ _ | exact S4.not_ok _ | exact S4.or_ok (S4.range_ok _ _) (S4.both_ok _ _ _ _) | exact S4.or_ok S4.empty_ok (S4.both_ok _ _ _ _)
 rw [if_neg h_graph] at h
 by_cases h_cntrl : l = [99, 110, 116, 114, 108]
 ·rw [if_pos h_cntrl] at h; injection h with h; subst h; first | exact S4.range_ok _ _ | exact S4.both_ok _ _ _ _ | exact S4.not_ok _ | exact S4.or_ok (S4.range_ok _ _) (S4.both_ok _ _ _ _) | exact S4.or_ok S4.empty_ok (S4.both_ok _ _ _ _)
 rw [if_neg h_cntrl] at h
 cases h
theorem singleS_lt {bs : List UInt8} {i f n : Nat} (h : singleS bs i = some (f, n)) : f < 256 ∧ n ≤ i + 2 ∧ i < n ∧ n ≤ bs.length := by
 unfold singleS at h
 split at h
 ·cases h
 ·split at h
  ·injection h with h; injection h with h1 h2; subst h1 h2
   exact ⟨bn_lt _ _, by omega, by omega, by omega⟩
  ·split at h
   ·cases h
   ·injection h with h; injection h with h1 h2; subst h1 h2
    exact ⟨escN_lt (bn_lt _ _), by omega, by omega, by omega⟩
theorem index_bd (bs sub : List UInt8) : -1 ≤ Lib.index bs sub ∧ Lib.index bs sub ≤ bs.length := by
 induction bs with
 | nil => unfold Lib.index; split <;> simp
 | cons b l ih =>
  unfold Lib.index
  split
  ·simp; omega
  ·split
   ·simp; omega
   ·simp at *; omega
theorem sep_at (w : World) (o : Obj) : At ((w.alloc o).alloc (.cells #[.int .u8 58, .int .u8 93] 5)) (some ⟨w.heap.size + 1, 0, none⟩) (byteVals [58, 93]) := by
 have h := Bk.new (w.alloc o) 5 #[.int .u8 58, .int .u8 93]
 have e : (w.alloc o).heap.size = w.heap.size + 1 := by simp only [World.size_alloc]
 rw [e] at h
 exact At.of_bk (n := 2) h (by simp [byteVals])
theorem FaultV.four {w : World} {v : Value} {p c : Int} {g : Nat} {cs : Array Value} (h : FaultV w v p c) (hk : Bk w g 101 cs) (x0 x1 x2 x3 : Value) : FaultV ((((w.setCell ⟨g, 0, none⟩ x0).setCell ⟨g, 1, none⟩ x1).setCell ⟨g, 2, none⟩ x2).setCell ⟨g, 3, none⟩ x3) v p c := by
 obtain ⟨f, h1, h2⟩ := h
 have hne : f ≠ g := h2.ne_ hk (by decide)
 exact ⟨f, h1, (((h2.far hne _).far hne _).far hne _).far hne _⟩
theorem ret_bk {w : World} {g : Nat} {t : TypeId} (h : Bk w g t S4.empty.cells) (R : S4) (o : Obj) :
    Bk (((((w.setCell ⟨g, 0, none⟩ (.int .u64 (R.a : Int))).setCell ⟨g, 1, none⟩ (.int .u64 (R.b : Int))).setCell ⟨g, 2, none⟩ (.int .u64 (R.c : Int))).setCell ⟨g, 3, none⟩ (.int .u64 (R.d : Int))).alloc o) g t R.cells :=
 ((((h.put 0 _).put 1 _).put 2 _).put 3 _).alloc o
theorem res_cells {w w1 : World} {t : TypeId} (hf : Fr [] (w.alloc (.cells S4.empty.cells t)) w1) : Bk w1 w.heap.size t S4.empty.cells := (Bk.new w _ _).fr hf (by simp)
set_option maxRecDepth 100000 in
set_option maxHeartbeats 4000000 in
theorem member_class {w : World} {A : Option Addr} {bs : List UInt8} {c : Nat} (h : Bytes w A bs) (i : Nat) (hl : bs.length ≤ 1000000000) (hi : i ≤ bs.length) (hc : bs.length ≤ c) (hA : A = none → c = 0) (hcm : c ≤ maxLen) (hg : GlobOk w) (ho : opensS bs i = true) :
    Calls Tryz.prog 100 #[.slice A bs.length c, .int .i64 (i : Int)] w (MemberPost w (memberS bs i)) := by
 have hi2 : i + 2 ≤ bs.length := by unfold opensS at ho; simp at ho; omega
 obtain ⟨hb1, hb2⟩ := index_bd (bs.drop (i + 2)) [58, 93]
 have hdl : (bs.drop (i + 2)).length = bs.length - (i + 2) := by simp
 obtain ⟨i0, hi0, hz1⟩ : ∃ i0, Tryz.prog.info? 5 = some i0 ∧ i0.size = 1 := by
  obtain ⟨i0, h1, _, h2, _⟩ : ∃ i, Tryz.prog.info? 5 = some i ∧ i.zero = some (.int .u8 0) ∧ i.size = 1 ∧ i.bytes = 1 := info_parts (by kernel_rfl)
  exact ⟨i0, h1, h2⟩
 have hcut : ∀ W X, At W X (((byteVals bs).drop (i + 2)).take (bs.length - (i + 2))) → Bytes W X (bs.drop (i + 2)) := fun W X hX => by
  have e : ((byteVals bs).drop (i + 2)).take (bs.length - (i + 2)) = byteVals (bs.drop (i + 2)) := by
   rw [List.take_of_length_le (by rw [List.length_drop, byteVals_length]; omega), byteVals, byteVals, List.map_drop]
  rwa [e] at hX
 unfold maxLen at hcm
 have hs0 : memberS bs i = if Lib.index (bs.drop (i + 2)) [58, 93] < 0 then .error (bs.length, 7) else match classS ((bs.drop (i + 2)).take (Lib.index (bs.drop (i + 2)) [58, 93]).toNat) with
     | none => .error (i, 8)
     | some R => .ok (R, i + 2 + (Lib.index (bs.drop (i + 2)) [58, 93]).toNat + 2) := by unfold memberS; rw [if_pos ho]
 generalize hr : memberS bs i = r at *
 have HC := Lib.hid hcut; have HO := Lib.hid ho; have HS := Lib.hid hs0; have HD := Lib.hid hdl; clear hcut ho hs0 hdl
 have HB := Lib.hid h; clear h
 generalize hix : Lib.index (bs.drop (i + 2)) [58, 93] = ix at *
 have HIX := Lib.hid hix; clear hix
 go_enter Tryz.func100, Tryz.ntmps100
 go_wp2_with fail
 refine (opens_any (At.alloc HB.out _) i hl (by omega)).mono ?_
 rintro e w1 ⟨rfl, rfl⟩
 rw [HO.out]
 have hF0 : Fr [] w (w.alloc (.cells S4.empty.cells 101)) := (Fr.refl [] w).alloc _
 have HF0 := Lib.hid hF0; clear hF0
 go_wp2_with (first
  | (refine wpList_cut rfl 34 (.tmp 16) (some (.tmp 18)) none none rfl 5 i0 Tryz.underlying34 hi0 hz1 A bs.length c rfl (byteVals bs) (At.fr_nil HB.out HF0.out) (byteVals_length _) hc hA (i + 2) bs.length c (.inr (by first | rfl | (simp [Act.eval]; done))) (.inl ⟨rfl, rfl, rfl⟩) (.inl ⟨rfl, rfl⟩) (by omega) (by omega) (by omega) (by omega) ?_; intro X hX hX0 hX1; have HX := Lib.hid (HC.out _ X hX); clear hX hX0 hX1)
  | (refine wpList_same rfl 34 (.tmp 20) rfl 5 Tryz.underlying34 Tryz.underlying5 ⟨w.heap.size + 1, 0, none⟩ 2 2 (by first | rfl | (simp [Act.eval]; done)) (byteVals [58, 93]) (sep_at w _) ?_; intro w2 hS hF2; have HS2 := Lib.hid hS; have HF2 := Lib.hid (((Fr.refl [] (w.alloc (.cells S4.empty.cells 101))).alloc _).trans' hF2 (by simp)); clear hS hF2))
 go_at_call 61
 refine (index_any (At.fr_nil HX.out HF2.out) HS2.out (by simp) (by simp) (by rw [HD.out]; omega) (by rw [HD.out]; omega) (hg.fr (HF0.out.trans HF2.out)) _ _ HD.out rfl).mono ?_
 rintro e w3 ⟨rfl, hf3⟩
 rw [HIX.out]
 have HF3 := Lib.hid (HF2.out.trans hf3)
 clear hf3
 by_cases hneg : ix < 0
 ·go_wp2_with (go_at_call 99; refine (fault_any _ _ _).mono ?_; rintro e w4 ⟨v4, rfl, hv4, hf4⟩; have HV4 := Lib.hid hv4; have HF4 := Lib.hid (HF3.out.trans hf4); clear hv4 hf4; obtain ⟨⟨k0, k1, k2, k3⟩, z0, z1, z2, z3⟩ := S4.four (res_cells HF4.out); have hlt := (res_cells HF4.out).lt)
  refine bodyPost_ret (v := .tuple #[S4.empty.val, .int .i64 0, v4]) (by simp [results, Tryz.results100, go_sem, k0, k1, k2, k3, S4.val, S4.empty]) rfl ?_
  obtain rfl : r = .error (bs.length, 7) := by rw [HS.out, if_pos hneg]
  exact MemberPost.err rfl (HV4.out.four (res_cells HF4.out) _ _ _ _) (four_set (t := 0) _ _ _ _ (HF0.out.trans HF4.out) (Nat.le_refl _))
 ·obtain ⟨k, rfl⟩ := Int.eq_ofNat_of_zero_le (by omega : 0 ≤ ix)
  have hk2 : i + 2 + k ≤ bs.length := by rw [HD.out] at hb2; omega
  generalize hl2 : (bs.drop (i + 2)).take k = l at *
  have hll : l.length = k := by rw [← hl2, List.length_take, HD.out]; omega
  have hcut2 : ∀ W X, At W X (((byteVals bs).drop (i + 2)).take (i + 2 + k - (i + 2))) → At W X (byteVals l) := fun W X hX => by
   have e : ((byteVals bs).drop (i + 2)).take (i + 2 + k - (i + 2)) = byteVals l := by
    rw [← hl2, byteVals, byteVals, List.map_take, List.map_drop]
    congr 1; omega
   rwa [e] at hX
  have HC2 := Lib.hid hcut2; clear hcut2
  have HL2 := Lib.hid hl2; clear hl2
  cases hcl : classS l with
  | none =>
   have HCL := Lib.hid hcl
   go_wp2_with (first
    | (refine wpList_cut rfl 34 (.tmp 30) (some (.tmp 32)) (some (.tmp 36)) none rfl 5 i0 Tryz.underlying34 hi0 hz1 A bs.length c rfl (byteVals bs) (At.fr_nil HB.out (HF0.out.trans HF3.out)) (byteVals_length _) hc hA (i + 2) (i + 2 + k) c (.inr (by first | rfl | (simp [Act.eval]; done))) (.inr (by first | rfl | (simp [Act.eval]; done))) (.inl ⟨rfl, rfl⟩) (by omega) (by omega) (by omega) (by omega) ?_; intro X2 hX hX0 hX1; have HX2 := Lib.hid (HC2.out _ X2 hX); clear hX hX0 hX1)
    | (refine wpList_str rfl 34 9 (.tmp 37) rfl 5 Tryz.underlying34 Tryz.underlying5 Tryz.underlying9 X2 (i + 2 + k - (i + 2)) (c - (i + 2)) (by first | rfl | (simp [Act.eval]; done)) l HX2.out (by omega) ?_)
    | (go_at_call 105; refine (class_any l (by omega) _).mono ?_; rintro e w4 ⟨rfl, hf4⟩; rw [HCL.out]; unfold classV S4.val S4.empty; have HF4 := Lib.hid (HF3.out.trans hf4); clear hf4)
    | (go_at_call 99; refine (fault_any _ _ _).mono ?_; rintro e w5 ⟨v5, rfl, hv5, hf5⟩; have HV5 := Lib.hid hv5; have HF5 := Lib.hid (HF4.out.trans (((Fr.refl [] w4).alloc _).trans hf5)); clear hv5 hf5; obtain ⟨⟨k0, k1, k2, k3⟩, z0, z1, z2, z3⟩ := S4.four (res_cells HF5.out); have hlt := (res_cells HF5.out).lt))
   refine bodyPost_ret (v := .tuple #[S4.empty.val, .int .i64 0, v5]) (by simp [results, Tryz.results100, go_sem, k0, k1, k2, k3, S4.val, S4.empty]) rfl ?_
   obtain rfl : r = .error (i, 8) := by rw [HS.out, if_neg (by omega), Int.toNat_natCast, HL2.out, hcl]
   exact MemberPost.err rfl (HV5.out.four (res_cells HF5.out) _ _ _ _) (four_set (t := 0) _ _ _ _ (HF0.out.trans HF5.out) (Nat.le_refl _))
  | some R =>
   have HCL := Lib.hid hcl
   go_wp2_with (first
    | (refine wpList_cut rfl 34 (.tmp 30) (some (.tmp 32)) (some (.tmp 36)) none rfl 5 i0 Tryz.underlying34 hi0 hz1 A bs.length c rfl (byteVals bs) (At.fr_nil HB.out (HF0.out.trans HF3.out)) (byteVals_length _) hc hA (i + 2) (i + 2 + k) c (.inr (by first | rfl | (simp [Act.eval]; done))) (.inr (by first | rfl | (simp [Act.eval]; done))) (.inl ⟨rfl, rfl⟩) (by omega) (by omega) (by omega) (by omega) ?_; intro X2 hX hX0 hX1; have HX2 := Lib.hid (HC2.out _ X2 hX); clear hX hX0 hX1)
    | (refine wpList_str rfl 34 9 (.tmp 37) rfl 5 Tryz.underlying34 Tryz.underlying5 Tryz.underlying9 X2 (i + 2 + k - (i + 2)) (c - (i + 2)) (by first | rfl | (simp [Act.eval]; done)) l HX2.out (by omega) ?_)
    | (go_at_call 105; refine (class_any l (by omega) _).mono ?_; rintro e w4 ⟨rfl, hf4⟩; rw [HCL.out]; unfold classV S4.val; have HF4 := Lib.hid (HF3.out.trans hf4); clear hf4; obtain ⟨⟨k0, k1, k2, k3⟩, z0, z1, z2, z3⟩ := S4.four (res_cells HF4.out); have hlt := (res_cells HF4.out).lt))
   obtain ⟨⟨j0, j1, j2, j3⟩, _⟩ := S4.four (ret_bk (res_cells HF4.out) R (.cells #[.int .u64 (R.a : Int), .int .u64 (R.b : Int), .int .u64 (R.c : Int), .int .u64 (R.d : Int)] 101))
   refine bodyPost_ret (v := .tuple #[R.val, .int .i64 ((i + 2 + k + 2 : Nat) : Int), .nilIface]) (by simp [results, Tryz.results100, go_sem, j0, j1, j2, j3, S4.val]) rfl ?_
   obtain rfl : r = .ok (R, i + 2 + k + 2) := by rw [HS.out, if_neg (by omega), Int.toNat_natCast, HL2.out, hcl]
   exact MemberPost.ok_ rfl ((four_set (t := 0) _ _ _ _ (HF0.out.trans HF4.out) (Nat.le_refl _)).alloc _)
end Go.Proofs.YtfbmogccmlikaaaGreatDoor
namespace Go.Proofs.YtfbmogccmlikaaaGreatDoor
open Go.RowKit
set_option linter.unusedVariables false
set_option linter.unusedSimpArgs false
set_option maxRecDepth 100000 in
set_option maxHeartbeats 4000000 in
theorem member_none {w : World} {A : Option Addr} {bs : List UInt8} {c : Nat} (h : Bytes w A bs) (i : Nat) (hl : bs.length ≤ 1000000000) (hi : i ≤ bs.length) (ho : opensS bs i = false) (hg : singleS bs i = none) :
    Calls Tryz.prog 100 #[.slice A bs.length c, .int .i64 (i : Int)] w (MemberPost w (.error (bs.length, 7))) := by
 have HB := Lib.hid h; have HO := Lib.hid ho; have HG := Lib.hid hg; clear h ho hg
 go_enter Tryz.func100, Tryz.ntmps100
 go_wp2_with fail
 go_at_call 104
 refine (opens_any (At.alloc HB.out _) i hl (by omega)).mono ?_
 rintro e w1 ⟨rfl, rfl⟩
 rw [HO.out]
 go_wp2_with fail
 go_at_call 106
 refine (single_any (At.alloc HB.out _) i hl (by omega)).mono ?_
 rintro e w1 ⟨rfl, rfl⟩
 rw [HG.out]
 unfold singleV
 dsimp only
 go_wp2_with fail
 go_at_call 99
 refine (fault_any _ _ _).mono ?_
 rintro e w4 ⟨v4, rfl, hv4, hf4⟩
 have HV4 := Lib.hid hv4
 have HF4 := Lib.hid hf4
 clear hv4 hf4
 obtain ⟨⟨k0, k1, k2, k3⟩, z0, z1, z2, z3⟩ := S4.four (res_cells HF4.out)
 have hlt := (res_cells HF4.out).lt
 go_wp2_with fail
 refine bodyPost_ret (v := .tuple #[S4.empty.val, .int .i64 0, v4]) (by simp [results, Tryz.results100, go_sem, k0, k1, k2, k3, S4.val, S4.empty]) rfl ?_
 exact MemberPost.err rfl (HV4.out.four (res_cells HF4.out) _ _ _ _) (four_set (t := 0) _ _ _ _ (((Fr.refl [] w).alloc _).trans HF4.out) (Nat.le_refl _))
set_option maxRecDepth 100000 in
set_option maxHeartbeats 4000000 in
theorem member_end {w : World} {A : Option Addr} {bs : List UInt8} {c : Nat} (h : Bytes w A bs) (i : Nat) (hl : bs.length ≤ 1000000000) (hi : i ≤ bs.length) (ho : opensS bs i = false) {f nx : Nat} (hg : singleS bs i = some (f, nx)) (h1 : bs.length ≤ nx + 1) :
    Calls Tryz.prog 100 #[.slice A bs.length c, .int .i64 (i : Int)] w (MemberPost w (.ok (S4.range f f, nx))) := by
 have hlt0 := singleS_lt hg
 have HB := Lib.hid h; have HO := Lib.hid ho; have HG := Lib.hid hg; clear h ho hg
 go_enter Tryz.func100, Tryz.ntmps100
 go_wp2_with fail
 go_at_call 104
 refine (opens_any (At.alloc HB.out _) i hl (by omega)).mono ?_
 rintro e w1 ⟨rfl, rfl⟩
 rw [HO.out]
 go_wp2_with fail
 go_at_call 106
 refine (single_any (At.alloc HB.out _) i hl (by omega)).mono ?_
 rintro e w1 ⟨rfl, rfl⟩
 rw [HG.out]
 unfold singleV
 dsimp only
 go_wp2_with fail
 go_at_call 96
 refine (range_any f f _ (by omega) (by omega)).mono ?_
 rintro e w4 ⟨rfl, hf4⟩
 have HF4 := Lib.hid hf4
 clear hf4
 obtain ⟨⟨k0, k1, k2, k3⟩, z0, z1, z2, z3⟩ := S4.four (res_cells HF4.out)
 have hlt := (res_cells HF4.out).lt
 unfold S4.val
 go_wp2_with fail
 refine bodyPost_ret (v := .tuple #[(S4.range f f).val, .int .i64 (nx : Int), .nilIface]) (by simp [results, Tryz.results100, go_sem, k0, k1, k2, k3, S4.val]) rfl ?_
 exact MemberPost.ok_ rfl (four_set (t := 0) _ _ _ _ (((Fr.refl [] w).alloc _).trans HF4.out) (Nat.le_refl _))
set_option maxRecDepth 100000 in
set_option maxHeartbeats 4000000 in
theorem member_nodash {w : World} {A : Option Addr} {bs : List UInt8} {c : Nat} (h : Bytes w A bs) (i : Nat) (hl : bs.length ≤ 1000000000) (hi : i ≤ bs.length) (ho : opensS bs i = false) {f nx : Nat} (hg : singleS bs i = some (f, nx)) (h1 : nx + 1 < bs.length) (h2 : bn bs nx ≠ 45) :
    Calls Tryz.prog 100 #[.slice A bs.length c, .int .i64 (i : Int)] w (MemberPost w (.ok (S4.range f f, nx))) := by
 have hlt0 := singleS_lt hg
 obtain ⟨b, off, rfl, hb, hc⟩ := byte_at h (i := nx) (by omega)
 have c0 := hc nx (by omega)
 have b0 := bn_lt bs nx
 have g1 : (!((bn bs nx : Int) == 45)) = true := by simp; omega
 have g2 : ((bn bs nx : Int) != 45) = true := by simp; omega
 clear hc h2
 have HB := Lib.hid h; have HO := Lib.hid ho; have HG := Lib.hid hg; clear h ho hg
 go_enter Tryz.func100, Tryz.ntmps100
 go_wp2_with fail
 go_at_call 104
 refine (opens_any (At.alloc HB.out _) i hl (by omega)).mono ?_
 rintro e w1 ⟨rfl, rfl⟩
 rw [HO.out]
 go_wp2_with fail
 go_at_call 106
 refine (single_any (At.alloc HB.out _) i hl (by omega)).mono ?_
 rintro e w1 ⟨rfl, rfl⟩
 rw [HG.out]
 unfold singleV
 dsimp only
 go_wp2_with fail
 go_at_call 96
 refine (range_any f f _ (by omega) (by omega)).mono ?_
 rintro e w4 ⟨rfl, hf4⟩
 have HF4 := Lib.hid hf4
 clear hf4
 obtain ⟨⟨k0, k1, k2, k3⟩, z0, z1, z2, z3⟩ := S4.four (res_cells HF4.out)
 have hlt := (res_cells HF4.out).lt
 unfold S4.val
 go_wp2_with fail
 refine bodyPost_ret (v := .tuple #[(S4.range f f).val, .int .i64 (nx : Int), .nilIface]) (by simp [results, Tryz.results100, go_sem, k0, k1, k2, k3, S4.val]) rfl ?_
 exact MemberPost.ok_ rfl (four_set (t := 0) _ _ _ _ (((Fr.refl [] w).alloc _).trans HF4.out) (Nat.le_refl _))
set_option maxRecDepth 100000 in
set_option maxHeartbeats 4000000 in
theorem member_last {w : World} {A : Option Addr} {bs : List UInt8} {c : Nat} (h : Bytes w A bs) (i : Nat) (hl : bs.length ≤ 1000000000) (hi : i ≤ bs.length) (ho : opensS bs i = false) {f nx : Nat} (hg : singleS bs i = some (f, nx)) (h1 : nx + 1 < bs.length) (h2 : bn bs nx = 45) (h3 : bn bs (nx + 1) = 93) :
    Calls Tryz.prog 100 #[.slice A bs.length c, .int .i64 (i : Int)] w (MemberPost w (.ok (S4.range f f, nx))) := by
 have hlt0 := singleS_lt hg
 obtain ⟨b, off, rfl, hb, hc⟩ := byte_at h (i := nx) (by omega)
 have c0 := hc nx (by omega)
 have c1 := hc (nx + 1) (by omega)
 rw [h2] at c0
 rw [h3] at c1
 clear hc h2 h3
 have HB := Lib.hid h; have HO := Lib.hid ho; have HG := Lib.hid hg; clear h ho hg
 go_enter Tryz.func100, Tryz.ntmps100
 go_wp2_with fail
 go_at_call 104
 refine (opens_any (At.alloc HB.out _) i hl (by omega)).mono ?_
 rintro e w1 ⟨rfl, rfl⟩
 rw [HO.out]
 go_wp2_with fail
 go_at_call 106
 refine (single_any (At.alloc HB.out _) i hl (by omega)).mono ?_
 rintro e w1 ⟨rfl, rfl⟩
 rw [HG.out]
 unfold singleV
 dsimp only
 go_wp2_with fail
 go_at_call 96
 refine (range_any f f _ (by omega) (by omega)).mono ?_
 rintro e w4 ⟨rfl, hf4⟩
 have HF4 := Lib.hid hf4
 clear hf4
 obtain ⟨⟨k0, k1, k2, k3⟩, z0, z1, z2, z3⟩ := S4.four (res_cells HF4.out)
 have hlt := (res_cells HF4.out).lt
 unfold S4.val
 go_wp2_with fail
 refine bodyPost_ret (v := .tuple #[(S4.range f f).val, .int .i64 (nx : Int), .nilIface]) (by simp [results, Tryz.results100, go_sem, k0, k1, k2, k3, S4.val]) rfl ?_
 exact MemberPost.ok_ rfl (four_set (t := 0) _ _ _ _ (((Fr.refl [] w).alloc _).trans HF4.out) (Nat.le_refl _))
set_option maxRecDepth 100000 in
set_option maxHeartbeats 4000000 in
theorem member_opens2 {w : World} {A : Option Addr} {bs : List UInt8} {c : Nat} (h : Bytes w A bs) (i : Nat) (hl : bs.length ≤ 1000000000) (hi : i ≤ bs.length) (ho : opensS bs i = false) {f nx : Nat} (hg : singleS bs i = some (f, nx)) (h1 : nx + 1 < bs.length) (h2 : bn bs nx = 45) (h3 : bn bs (nx + 1) ≠ 93) (ho2 : opensS bs (nx + 1) = true) :
    Calls Tryz.prog 100 #[.slice A bs.length c, .int .i64 (i : Int)] w (MemberPost w (.error (i, 4))) := by
 have hlt0 := singleS_lt hg
 obtain ⟨b, off, rfl, hb, hc⟩ := byte_at h (i := nx) (by omega)
 have c0 := hc nx (by omega)
 have c1 := hc (nx + 1) (by omega)
 rw [h2] at c0
 have b1 := bn_lt bs (nx + 1)
 have g1 : ((bn bs (nx + 1) : Int) == 93) = false := by simp; omega
 clear hc h2 h3
 have HB := Lib.hid h; have HO := Lib.hid ho; have HG := Lib.hid hg; clear h ho hg
 have HO2 := Lib.hid ho2; clear ho2
 go_enter Tryz.func100, Tryz.ntmps100
 go_wp2_with fail
 go_at_call 104
 refine (opens_any (At.alloc HB.out _) i hl (by omega)).mono ?_
 rintro e w1 ⟨rfl, rfl⟩
 rw [HO.out]
 go_wp2_with fail
 go_at_call 106
 refine (single_any (At.alloc HB.out _) i hl (by omega)).mono ?_
 rintro e w1 ⟨rfl, rfl⟩
 rw [HG.out]
 unfold singleV
 dsimp only
 go_wp2_with fail
 go_at_call 104
 refine (opens_any (At.alloc HB.out _) (nx + 1) hl (by omega)).mono ?_
 rintro e w1 ⟨rfl, rfl⟩
 rw [HO2.out]
 go_wp2_with fail
 go_at_call 99
 refine (fault_any _ _ _).mono ?_
 rintro e w4 ⟨v4, rfl, hv4, hf4⟩
 have HV4 := Lib.hid hv4
 have HF4 := Lib.hid hf4
 clear hv4 hf4
 obtain ⟨⟨k0, k1, k2, k3⟩, z0, z1, z2, z3⟩ := S4.four (res_cells HF4.out)
 have hlt := (res_cells HF4.out).lt
 go_wp2_with fail
 refine bodyPost_ret (v := .tuple #[S4.empty.val, .int .i64 0, v4]) (by simp [results, Tryz.results100, go_sem, k0, k1, k2, k3, S4.val, S4.empty]) rfl ?_
 exact MemberPost.err rfl (HV4.out.four (res_cells HF4.out) _ _ _ _) (four_set (t := 0) _ _ _ _ (((Fr.refl [] w).alloc _).trans HF4.out) (Nat.le_refl _))
set_option maxRecDepth 100000 in
set_option maxHeartbeats 4000000 in
theorem member_none2 {w : World} {A : Option Addr} {bs : List UInt8} {c : Nat} (h : Bytes w A bs) (i : Nat) (hl : bs.length ≤ 1000000000) (hi : i ≤ bs.length) (ho : opensS bs i = false) {f nx : Nat} (hg : singleS bs i = some (f, nx)) (h1 : nx + 1 < bs.length) (h2 : bn bs nx = 45) (h3 : bn bs (nx + 1) ≠ 93) (ho2 : opensS bs (nx + 1) = false) (hg2 : singleS bs (nx + 1) = none) :
    Calls Tryz.prog 100 #[.slice A bs.length c, .int .i64 (i : Int)] w (MemberPost w (.error (bs.length, 7))) := by
 have hlt0 := singleS_lt hg
 obtain ⟨b, off, rfl, hb, hc⟩ := byte_at h (i := nx) (by omega)
 have c0 := hc nx (by omega)
 have c1 := hc (nx + 1) (by omega)
 rw [h2] at c0
 have b1 := bn_lt bs (nx + 1)
 have g1 : ((bn bs (nx + 1) : Int) == 93) = false := by simp; omega
 clear hc h2 h3
 have HB := Lib.hid h; have HO := Lib.hid ho; have HG := Lib.hid hg; clear h ho hg
 have HO2 := Lib.hid ho2; have HG2 := Lib.hid hg2; clear ho2 hg2
 go_enter Tryz.func100, Tryz.ntmps100
 go_wp2_with fail
 go_at_call 104
 refine (opens_any (At.alloc HB.out _) i hl (by omega)).mono ?_
 rintro e w1 ⟨rfl, rfl⟩
 rw [HO.out]
 go_wp2_with fail
 go_at_call 106
 refine (single_any (At.alloc HB.out _) i hl (by omega)).mono ?_
 rintro e w1 ⟨rfl, rfl⟩
 rw [HG.out]
 unfold singleV
 dsimp only
 go_wp2_with fail
 go_at_call 104
 refine (opens_any (At.alloc HB.out _) (nx + 1) hl (by omega)).mono ?_
 rintro e w1 ⟨rfl, rfl⟩
 rw [HO2.out]
 go_wp2_with fail
 go_at_call 106
 refine (single_any (At.alloc HB.out _) (nx + 1) hl (by omega)).mono ?_
 rintro e w1 ⟨rfl, rfl⟩
 rw [HG2.out]
 unfold singleV
 dsimp only
 go_wp2_with fail
 go_at_call 99
 refine (fault_any _ _ _).mono ?_
 rintro e w4 ⟨v4, rfl, hv4, hf4⟩
 have HV4 := Lib.hid hv4
 have HF4 := Lib.hid hf4
 clear hv4 hf4
 obtain ⟨⟨k0, k1, k2, k3⟩, z0, z1, z2, z3⟩ := S4.four (res_cells HF4.out)
 have hlt := (res_cells HF4.out).lt
 go_wp2_with fail
 refine bodyPost_ret (v := .tuple #[S4.empty.val, .int .i64 0, v4]) (by simp [results, Tryz.results100, go_sem, k0, k1, k2, k3, S4.val, S4.empty]) rfl ?_
 exact MemberPost.err rfl (HV4.out.four (res_cells HF4.out) _ _ _ _) (four_set (t := 0) _ _ _ _ (((Fr.refl [] w).alloc _).trans HF4.out) (Nat.le_refl _))
set_option maxRecDepth 100000 in
set_option maxHeartbeats 4000000 in
theorem member_less {w : World} {A : Option Addr} {bs : List UInt8} {c : Nat} (h : Bytes w A bs) (i : Nat) (hl : bs.length ≤ 1000000000) (hi : i ≤ bs.length) (ho : opensS bs i = false) {f nx : Nat} (hg : singleS bs i = some (f, nx)) (h1 : nx + 1 < bs.length) (h2 : bn bs nx = 45) (h3 : bn bs (nx + 1) ≠ 93) (ho2 : opensS bs (nx + 1) = false) {t nx2 : Nat} (hg2 : singleS bs (nx + 1) = some (t, nx2)) (hlt2 : t < f) :
    Calls Tryz.prog 100 #[.slice A bs.length c, .int .i64 (i : Int)] w (MemberPost w (.error (i, 4))) := by
 have hlt0 := singleS_lt hg
 obtain ⟨b, off, rfl, hb, hc⟩ := byte_at h (i := nx) (by omega)
 have c0 := hc nx (by omega)
 have c1 := hc (nx + 1) (by omega)
 rw [h2] at c0
 have b1 := bn_lt bs (nx + 1)
 have g1 : ((bn bs (nx + 1) : Int) == 93) = false := by simp; omega
 clear hc h2 h3
 have HB := Lib.hid h; have HO := Lib.hid ho; have HG := Lib.hid hg; clear h ho hg
 have hlt1 := singleS_lt hg2
 have HO2 := Lib.hid ho2; have HG2 := Lib.hid hg2; clear ho2 hg2
 go_enter Tryz.func100, Tryz.ntmps100
 go_wp2_with fail
 go_at_call 104
 refine (opens_any (At.alloc HB.out _) i hl (by omega)).mono ?_
 rintro e w1 ⟨rfl, rfl⟩
 rw [HO.out]
 go_wp2_with fail
 go_at_call 106
 refine (single_any (At.alloc HB.out _) i hl (by omega)).mono ?_
 rintro e w1 ⟨rfl, rfl⟩
 rw [HG.out]
 unfold singleV
 dsimp only
 go_wp2_with fail
 go_at_call 104
 refine (opens_any (At.alloc HB.out _) (nx + 1) hl (by omega)).mono ?_
 rintro e w1 ⟨rfl, rfl⟩
 rw [HO2.out]
 go_wp2_with fail
 go_at_call 106
 refine (single_any (At.alloc HB.out _) (nx + 1) hl (by omega)).mono ?_
 rintro e w1 ⟨rfl, rfl⟩
 rw [HG2.out]
 unfold singleV
 dsimp only
 go_wp2_with fail
 go_at_call 99
 refine (fault_any _ _ _).mono ?_
 rintro e w4 ⟨v4, rfl, hv4, hf4⟩
 have HV4 := Lib.hid hv4
 have HF4 := Lib.hid hf4
 clear hv4 hf4
 obtain ⟨⟨k0, k1, k2, k3⟩, z0, z1, z2, z3⟩ := S4.four (res_cells HF4.out)
 have hlt := (res_cells HF4.out).lt
 go_wp2_with fail
 refine bodyPost_ret (v := .tuple #[S4.empty.val, .int .i64 0, v4]) (by simp [results, Tryz.results100, go_sem, k0, k1, k2, k3, S4.val, S4.empty]) rfl ?_
 exact MemberPost.err rfl (HV4.out.four (res_cells HF4.out) _ _ _ _) (four_set (t := 0) _ _ _ _ (((Fr.refl [] w).alloc _).trans HF4.out) (Nat.le_refl _))
set_option maxRecDepth 100000 in
set_option maxHeartbeats 4000000 in
theorem member_range {w : World} {A : Option Addr} {bs : List UInt8} {c : Nat} (h : Bytes w A bs) (i : Nat) (hl : bs.length ≤ 1000000000) (hi : i ≤ bs.length) (ho : opensS bs i = false) {f nx : Nat} (hg : singleS bs i = some (f, nx)) (h1 : nx + 1 < bs.length) (h2 : bn bs nx = 45) (h3 : bn bs (nx + 1) ≠ 93) (ho2 : opensS bs (nx + 1) = false) {t nx2 : Nat} (hg2 : singleS bs (nx + 1) = some (t, nx2)) (hlt2 : f ≤ t) :
    Calls Tryz.prog 100 #[.slice A bs.length c, .int .i64 (i : Int)] w (MemberPost w (.ok (S4.range f t, nx2))) := by
 have hlt0 := singleS_lt hg
 obtain ⟨b, off, rfl, hb, hc⟩ := byte_at h (i := nx) (by omega)
 have c0 := hc nx (by omega)
 have c1 := hc (nx + 1) (by omega)
 rw [h2] at c0
 have b1 := bn_lt bs (nx + 1)
 have g1 : ((bn bs (nx + 1) : Int) == 93) = false := by simp; omega
 clear hc h2 h3
 have HB := Lib.hid h; have HO := Lib.hid ho; have HG := Lib.hid hg; clear h ho hg
 have hlt1 := singleS_lt hg2
 have HO2 := Lib.hid ho2; have HG2 := Lib.hid hg2; clear ho2 hg2
 go_enter Tryz.func100, Tryz.ntmps100
 go_wp2_with fail
 go_at_call 104
 refine (opens_any (At.alloc HB.out _) i hl (by omega)).mono ?_
 rintro e w1 ⟨rfl, rfl⟩
 rw [HO.out]
 go_wp2_with fail
 go_at_call 106
 refine (single_any (At.alloc HB.out _) i hl (by omega)).mono ?_
 rintro e w1 ⟨rfl, rfl⟩
 rw [HG.out]
 unfold singleV
 dsimp only
 go_wp2_with fail
 go_at_call 104
 refine (opens_any (At.alloc HB.out _) (nx + 1) hl (by omega)).mono ?_
 rintro e w1 ⟨rfl, rfl⟩
 rw [HO2.out]
 go_wp2_with fail
 go_at_call 106
 refine (single_any (At.alloc HB.out _) (nx + 1) hl (by omega)).mono ?_
 rintro e w1 ⟨rfl, rfl⟩
 rw [HG2.out]
 unfold singleV
 dsimp only
 go_wp2_with fail
 go_at_call 96
 refine (range_any f t _ (by omega) (by omega)).mono ?_
 rintro e w4 ⟨rfl, hf4⟩
 have HF4 := Lib.hid hf4
 clear hf4
 obtain ⟨⟨k0, k1, k2, k3⟩, z0, z1, z2, z3⟩ := S4.four (res_cells HF4.out)
 have hlt := (res_cells HF4.out).lt
 unfold S4.val
 go_wp2_with fail
 refine bodyPost_ret (v := .tuple #[(S4.range f t).val, .int .i64 (nx2 : Int), .nilIface]) (by simp [results, Tryz.results100, go_sem, k0, k1, k2, k3, S4.val]) rfl ?_
 exact MemberPost.ok_ rfl (four_set (t := 0) _ _ _ _ (((Fr.refl [] w).alloc _).trans HF4.out) (Nat.le_refl _))
theorem member_any {w : World} {A : Option Addr} {bs : List UInt8} {c : Nat} (h : Bytes w A bs) (i : Nat) (hl : bs.length ≤ 1000000000) (hi : i ≤ bs.length) (hc : bs.length ≤ c) (hA : A = none → c = 0) (hcm : c ≤ maxLen) (hg : GlobOk w) :
    Calls Tryz.prog 100 #[.slice A bs.length c, .int .i64 (i : Int)] w (MemberPost w (memberS bs i)) := by
 cases ho : opensS bs i with
 | true => exact member_class h i hl hi hc hA hcm hg ho
 | false =>
  unfold memberS
  rw [if_neg (by simp [ho])]
  cases hs : singleS bs i with
  | none => exact member_none h i hl hi ho hs
  | some p =>
   obtain ⟨f, nx⟩ := p
   dsimp only
   by_cases h1 : bs.length ≤ nx + 1
   ·rw [if_pos (.inl h1)]; exact member_end h i hl hi ho hs h1
   by_cases h2 : bn bs nx = 45
   ·by_cases h3 : bn bs (nx + 1) = 93
    ·rw [if_pos (.inr (.inr h3))]; exact member_last h i hl hi ho hs (by omega) h2 h3
    ·rw [if_neg (by simp [h1, h2, h3])]
     cases ho2 : opensS bs (nx + 1) with
     | true => rw [if_pos rfl]; exact member_opens2 h i hl hi ho hs (by omega) h2 h3 ho2
     | false =>
      rw [if_neg (by simp)]
      cases hs2 : singleS bs (nx + 1) with
      | none => exact member_none2 h i hl hi ho hs (by omega) h2 h3 ho2 hs2
      | some q =>
       obtain ⟨t, nx2⟩ := q
       dsimp only
       by_cases h4 : t < f
       ·rw [if_pos h4]; exact member_less h i hl hi ho hs (by omega) h2 h3 ho2 hs2 h4
       ·rw [if_neg h4]; exact member_range h i hl hi ho hs (by omega) h2 h3 ho2 hs2 (by omega)
   ·rw [if_pos (.inr (.inl h2))]; exact member_nodash h i hl hi ho hs (by omega) h2
end Go.Proofs.YtfbmogccmlikaaaGreatDoor
