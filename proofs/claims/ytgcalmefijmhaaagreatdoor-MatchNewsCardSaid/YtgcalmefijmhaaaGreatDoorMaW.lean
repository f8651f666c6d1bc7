/-
  awake of the laws of finds. No conditions.
-/
import Derived.Test.YtgcalmefijmhaaaGreatDoorGk
import Derived.Test.YtgcalmefijmhaaaGreatDoorFi3
import Derived.Deep.Cut
namespace Go.Proofs.YtgcalmefijmhaaaGreatDoor
open Go.RowKit
set_option linter.unusedVariables false
set_option linter.unusedSimpArgs false

def FdL (L : List Sp) : Prop := ProgOk L ∧ 0 < L.length ∧ L.length ≤ 5000
theorem fdl_of {bs : List UInt8} {t : RT} (h : parseS bs = .ok t) (hs : sizP (toP t) < 4000) : FdL (progT t) := by
  obtain ⟨h1, h2, h3, -, -⟩ := parse_prog h
  exact ⟨h1, h2, by omega⟩
theorem FinderAt.fr {w w' : World} {lo fb : Nat} {L : List Sp} (h : FinderAt w lo fb L) (hf : Fr [] w w') : FinderAt w' lo fb L := by
  obtain ⟨A, c, h1, h2⟩ := h
  exact ⟨A, c, h1.fr hf (by simp), own_keep h2 (KeepB.of_nil hf)⟩
theorem new_at {w : World} {A : Option Addr} {bs : List UInt8} {c : Nat} (n : Nat) (hn : bs.length = n) (t : RT) (hp : parseS bs = .ok t) (hs : sizP (toP t) < 4000) (h : Bytes w A bs) (hl : n ≤ 150) (hc : n ≤ c) (hA : A = none → c = 0) (hcm : c ≤ maxLen) (hg : GlobOk w) :
    Calls Tryz.prog 5 #[.slice A n c] w fun e w' => ∃ fb, e = .returned (.tuple #[.pointer (some ⟨fb, 0, none⟩), .nilIface]) ∧ FinderAt w' w.heap.size fb (progT t) ∧ Fr [] w w' := by
  subst hn
  refine (new_any h hl hc hA hcm hg).mono ?_
  rintro e w' ⟨hf, hr⟩
  rw [hp] at hr
  dsimp only at hr
  rw [if_neg (by omega)] at hr
  obtain ⟨fb, h1, -, h3⟩ := hr
  exact ⟨fb, h1, h3, hf⟩
theorem find_at {w : World} {lo fb : Nat} {L : List Sp} {A2 : Option Addr} {tx : List UInt8} {c2 : Nat} (n from_ : Nat) (hn : tx.length = n) (r : Option (Nat × Nat)) (hr : findS L tx from_ = r) (h : FinderAt w lo fb L) (hL : FdL L) (ht : Bytes w A2 tx) (htc : n ≤ c2) (htl : ∀ a, A2 = some a → a.block < w.heap.size) (htx : n ≤ 10000) (hfr : from_ ≤ n) :
    Calls Tryz.prog 11 #[.pointer (some ⟨fb, 0, none⟩), .slice A2 n c2, .int .i64 (from_ : Int)] w fun e w' => e = .returned (found3 r) ∧ Fr [] w w' := by
  subst hn hr
  exact Find_any h ht htc htl hL.2.1 hL.2.2 hL.1 htx hfr
theorem takes_at {w : World} {lo fb : Nat} {L : List Sp} {A2 : Option Addr} {tx : List UInt8} {c2 : Nat} (n : Nat) (hn : tx.length = n) (r : Bool) (hr : takesS L tx = r) (h : FinderAt w lo fb L) (hL : FdL L) (ht : Bytes w A2 tx) (htc : n ≤ c2) (htl : ∀ a, A2 = some a → a.block < w.heap.size) (htx : n ≤ 10000) :
    Calls Tryz.prog 13 #[.pointer (some ⟨fb, 0, none⟩), .slice A2 n c2] w fun e w' => e = .returned (.bool r) ∧ Fr [] w w' := by
  subst hn hr
  exact Takes_any h ht htc htl hL.2.1 hL.2.2 hL.1 htx
theorem split_at {w : World} {lo fb : Nat} {L : List Sp} {A2 : Option Addr} {tx : List UInt8} {c2 : Nat} (n : Nat) (hn : tx.length = n) (r : List (List UInt8)) (hr : splitS L tx = r) (h : FinderAt w lo fb L) (hL : FdL L) (ht : Bytes w A2 tx) (hA : A2 = none → c2 = 0) (htc : n ≤ c2) (htx : n ≤ 10000) :
    Calls Tryz.prog 12 #[.pointer (some ⟨fb, 0, none⟩), .slice A2 n c2] w (SplitPost w r) := by
  subst hn hr
  exact Split_any h ht hA htc hL.2.1 hL.2.2 hL.1 htx
theorem bytes_new (w : World) (bs : List UInt8) : Bytes (w.alloc (.cells (byteVals bs).toArray 5)) (some ⟨w.heap.size, 0, none⟩) bs :=
  At.of_bk (n := bs.length) (Bk.new w 5 (byteVals bs).toArray) (by rw [List.take_of_length_le (by simp [byteVals])])
theorem ex6_af : FdL (progT (tOf [97, 124, 97, 98])) := fdl_of ex6_a ex6_as
theorem ex6_bf : FdL (progT (tOf [91, 48, 45, 57, 93, 43])) := fdl_of ex6_b ex6_bs
set_option maxRecDepth 100000 in
set_option maxHeartbeats 8000000 in
theorem awake_any {w : World} (hg : GlobOk w) : Calls Tryz.prog 4 #[] w fun e w' => e = .returned (.bool true) ∧ Fr [] w w' := by
  have HG := Lib.hid hg
  clear hg
  obtain ⟨LA, hLA⟩ : ∃ LA, LA = progT (tOf [97, 124, 97, 98]) := ⟨_, rfl⟩
  obtain ⟨LB, hLB⟩ : ∃ LB, LB = progT (tOf [91, 48, 45, 57, 93, 43]) := ⟨_, rfl⟩
  have hfa := ex6_find; have hsb := ex6_split; have ht1 := ex6_t1; have ht2 := ex6_t2; have hga := ex6_af; have hgb := ex6_bf
  rw [← hLA] at hfa hga
  rw [← hLB] at hsb ht1 ht2 hgb
  have HLA := Lib.hid hLA; have HLB := Lib.hid hLB; have HFA := Lib.hid hfa; have HSB := Lib.hid hsb; have HT1 := Lib.hid ht1; have HT2 := Lib.hid ht2; have HGA := Lib.hid hga; have HGB := Lib.hid hgb
  clear hLA hLB hfa hsb ht1 ht2 hga hgb
  go_enter Tryz.func4, Tryz.ntmps4
  go_upto_region 2 with (first | (refine wpList_same rfl 22 (.tmp 10) rfl 5 Tryz.underlying22 Tryz.underlying5 ⟨w.heap.size, 0, none⟩ 4 4 (by first | rfl | (simp [Act.eval]; done)) (byteVals [97, 124, 97, 98]) (bytes_new w [97, 124, 97, 98]) ?_; intro v1 hS hF; have HS1 := Lib.hid hS; have HV1 : Hid (Fr [] w v1) := Lib.hid (((Fr.refl [] w).alloc (.cells (byteVals [97, 124, 97, 98]).toArray 5)).trans' hF (by simp)); have HZ1 : Hid (w.heap.size < v1.heap.size) := Lib.hid (by have := hF.size; simp at this; omega); clear hS hF) | (go_at_call 5; refine (new_at 4 rfl _ ex6_a ex6_as HS1.out (by omega) (Nat.le_refl _) (by intro h; cases h) (by decide) (HG.out.fr HV1.out)).mono ?_; rintro e w1 ⟨fa, rfl, hn, hf⟩; rw [← HLA.out] at hn; have HN1 := Lib.hid hn; have HX1 := Lib.hid (HV1.out.trans hf); clear hn hf))
  go_upto_region 3 with (first | (refine wpList_same rfl 22 (.tmp 16) rfl 5 Tryz.underlying22 Tryz.underlying5 ⟨w1.heap.size, 0, none⟩ 6 6 (by first | rfl | (simp [Act.eval]; done)) (byteVals [91, 48, 45, 57, 93, 43]) (bytes_new w1 [91, 48, 45, 57, 93, 43]) ?_; intro v2 hS hF; have HS2 := Lib.hid hS; have HV2 : Hid (Fr [] w1 v2) := Lib.hid (((Fr.refl [] w1).alloc (.cells (byteVals [91, 48, 45, 57, 93, 43]).toArray 5)).trans' hF (by simp)); have HZ2 : Hid (w1.heap.size < v2.heap.size) := Lib.hid (by have := hF.size; simp at this; omega); clear hS hF) | (go_at_call 5; refine (new_at 6 rfl _ ex6_b ex6_bs HS2.out (by omega) (Nat.le_refl _) (by intro h; cases h) (by decide) (HG.out.fr (HX1.out.trans HV2.out))).mono ?_; rintro e w2 ⟨fb, rfl, hn, hf⟩; rw [← HLB.out] at hn; have HN2 := Lib.hid hn; have HX2 := Lib.hid (HX1.out.trans (HV2.out.trans hf)); have HM1 := Lib.hid ((HN1.out.fr HV2.out).fr hf); clear hn hf))
  go_upto_region 6 with (first | (refine wpList_same rfl 22 (.tmp 37) rfl 5 Tryz.underlying22 Tryz.underlying5 ⟨w2.heap.size, 0, none⟩ 4 4 (by first | rfl | (simp [Act.eval]; done)) (byteVals [120, 97, 98, 99]) (bytes_new w2 [120, 97, 98, 99]) ?_; intro v3 hS hF; have HS3 := Lib.hid hS; have HV3 : Hid (Fr [] w2 v3) := Lib.hid (((Fr.refl [] w2).alloc (.cells (byteVals [120, 97, 98, 99]).toArray 5)).trans' hF (by simp)); have HZ3 : Hid (w2.heap.size < v3.heap.size) := Lib.hid (by have := hF.size; simp at this; omega); clear hS hF) | (go_at_call 11; refine (find_at 4 0 rfl _ HFA.out (HM1.out.fr HV3.out) HGA.out HS3.out (Nat.le_refl _) (by intro a ha; injection ha with ha; subst ha; exact HZ3.out) (by omega) (by omega)).mono ?_; rintro e w3 ⟨rfl, hf⟩; have HX3 := Lib.hid (HX2.out.trans (HV3.out.trans hf)); have HM3 := Lib.hid ((HN2.out.fr HV3.out).fr hf); clear hf; simp only [found3]))
  go_upto_region 7 with (first | (refine wpList_same rfl 22 (.tmp 44) rfl 5 Tryz.underlying22 Tryz.underlying5 ⟨w3.heap.size, 0, none⟩ 6 6 (by first | rfl | (simp [Act.eval]; done)) (byteVals [97, 49, 98, 50, 50, 99]) (bytes_new w3 [97, 49, 98, 50, 50, 99]) ?_; intro v4 hS hF; have HS4 := Lib.hid hS; have HV4 : Hid (Fr [] w3 v4) := Lib.hid (((Fr.refl [] w3).alloc (.cells (byteVals [97, 49, 98, 50, 50, 99]).toArray 5)).trans' hF (by simp)); have HZ4 : Hid (w3.heap.size < v4.heap.size) := Lib.hid (by have := hF.size; simp at this; omega); clear hS hF) | (go_at_call 12; refine (split_at 6 rfl _ HSB.out (HM3.out.fr HV4.out) HGB.out HS4.out (by intro h; cases h) (Nat.le_refl _) (by omega)).mono ?_; rintro e w4 ⟨SA, sc, es, rfl, hown, hpt, hf⟩; have HX4 := Lib.hid (HX3.out.trans (HV4.out.trans hf)); have HM4 := Lib.hid ((HM3.out.fr HV4.out).fr hf); have HOW := Lib.hid hown; have HPT := Lib.hid hpt; clear hf hown hpt))
  simp only [List.length_cons, List.length_nil, Nat.reduceAdd] at HOW ⊢
  obtain ⟨BA, cb, hes, hby, hbl, hbn, hbd⟩ := HPT.out 1 [98] rfl
  have hne : es ≠ [] := by intro e; rw [e] at hes; cases hes
  obtain ⟨SB, rfl, -, -, hcl⟩ := own_cells HOW.out hne
  have e1 : w4.cell? ⟨SB, 1, none⟩ = some (.slice BA 1 cb) := hcl 1 _ hes
  have HBY := Lib.hid hby
  clear hes hby hbl hbn hbd hne hcl
  go_wp2_with (first
    | (refine wpList_str rfl 22 9 (.tmp 64) rfl 5 Tryz.underlying22 Tryz.underlying5 Tryz.underlying9 BA 1 cb (by first | rfl | (simp [Act.eval]; done)) [98] HBY.out rfl ?_)
    | (refine wpList_same rfl 22 (.tmp 70) rfl 5 Tryz.underlying22 Tryz.underlying5 ⟨w4.heap.size, 0, none⟩ 2 2 (by first | rfl | (simp [Act.eval]; done)) (byteVals [49, 50]) (bytes_new w4 [49, 50]) ?_; intro v5 hS hF; have HS5 := Lib.hid hS; have HV5 : Hid (Fr [] w4 v5) := Lib.hid (((Fr.refl [] w4).alloc (.cells (byteVals [49, 50]).toArray 5)).trans' hF (by simp)); have HZ5 : Hid (w4.heap.size < v5.heap.size) := Lib.hid (by have := hF.size; simp at this; omega); clear hS hF)
    | (refine wpList_same rfl 22 (.tmp 76) rfl 5 Tryz.underlying22 Tryz.underlying5 ⟨w5.heap.size, 0, none⟩ 2 2 (by first | rfl | (simp [Act.eval]; done)) (byteVals [49, 120]) (bytes_new w5 [49, 120]) ?_; intro v6 hS hF; have HS6 := Lib.hid hS; have HV6 : Hid (Fr [] w5 v6) := Lib.hid (((Fr.refl [] w5).alloc (.cells (byteVals [49, 120]).toArray 5)).trans' hF (by simp)); have HZ6 : Hid (w5.heap.size < v6.heap.size) := Lib.hid (by have := hF.size; simp at this; omega); clear hS hF)
    | (go_at_call 13; refine (takes_at 2 rfl _ HT2.out (HM5.out.fr HV6.out) HGB.out HS6.out (Nat.le_refl _) (by intro a ha; injection ha with ha; subst ha; exact HZ6.out) (by omega)).mono ?_; rintro e w6 ⟨rfl, hf⟩; have HX6 := Lib.hid (HX5.out.trans (HV6.out.trans hf)); clear hf)
    | (go_at_call 13; refine (takes_at 2 rfl _ HT1.out (HM4.out.fr HV5.out) HGB.out HS5.out (Nat.le_refl _) (by intro a ha; injection ha with ha; subst ha; exact HZ5.out) (by omega)).mono ?_; rintro e w5 ⟨rfl, hf⟩; have HX5 := Lib.hid (HX4.out.trans (HV5.out.trans hf)); have HM5 := Lib.hid ((HM4.out.fr HV5.out).fr hf); clear hf))
  go_ret
  exact ⟨rfl, HX6.out⟩
end Go.Proofs.YtgcalmefijmhaaaGreatDoor
