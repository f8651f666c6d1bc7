/-
  EreJoins: the walk. No conditions. (Printed by a program of the prover's.)
-/
import Derived.Test.YtmecogilhoebgaaErK
import Derived.Test.YtmecogilhoebgaaErE
import Derived.Deep.Cut
namespace Go.Proofs.Ytmecogilhoebgaa
open Go.RowKit
set_option linter.unusedVariables false
set_option linter.unusedSimpArgs false

theorem MyB.cat {w wr w' : World} {v v' : Value} {bs cs : List UInt8} (h : MyB w wr v bs) (h1 : Own w' 5 v' (byteVals bs ++ byteVals cs)) (h2 : wr.grownBy w' v.ownBlock) (h3 : v'.ownBlock = v.ownBlock ∨ v'.ownBlock = some wr.heap.size) : MyB w w' v' (bs ++ cs) := by
  obtain ⟨-, k2, k3⟩ := h
  refine ⟨by rw [byteVals_append]; exact h1, fun b hb => ?_, k3.grown h2 (fun g hg => .inr (k2 g hg))⟩
  rcases h3 with h3 | h3
  · exact k2 b (by rw [← h3]; exact hb)
  · rw [h3] at hb; injection hb with hb
    have := k3.size
    omega
theorem len_ok (xs : List UInt8) (m : Nat) {bytes : Nat} (hb : bytes = 1) (hx : xs.length + m ≤ 1000) : (byteVals xs).length + m ≤ maxLen ∧ ((byteVals xs).length + m) * bytes ≤ 140737488355328 := by
  rw [byteVals_length, hb]; unfold maxLen; omega
theorem MyB.alloc {w wr : World} {v : Value} {bs : List UInt8} (h : MyB w wr v bs) (O : Obj) : MyB w (wr.alloc O) v bs :=
  ⟨h.1.fr ((Fr.refl [] wr).alloc O) (by simp), h.2.1, h.2.2.alloc O⟩
theorem own_new (w : World) (bs : List UInt8) (hl : bs.length ≤ maxLen) : MyB w (w.alloc (.cells (byteVals bs).toArray 5)) (.slice (some ⟨w.heap.size, 0, none⟩) bs.length bs.length) bs := by
  refine ⟨⟨_, bs.length, by rw [byteVals_length], by rw [byteVals_length]; exact Nat.le_refl _, hl, .inr ⟨w.heap.size, 0, (byteVals bs).toArray, rfl, heap_alloc_new w _, by simp [byteVals], by simp⟩⟩, fun b hb => ?_, (Fr.refl [] w).alloc _⟩
  simp [Value.ownBlock] at hb; omega
theorem MyB.form {w wr : World} {v : Value} {bs : List UInt8} (h : MyB w wr v bs) : ∃ A c, v = .slice A (byteVals bs).length c ∧ Bytes wr A bs ∧ (byteVals bs).length ≤ c ∧ c ≤ maxLen ∧ (A = none → c = 0) ∧ Fr [] w wr := by
  obtain ⟨A, c, hv, hat, h1, h2, h3, -⟩ := h.1.at_
  exact ⟨A, c, hv, hat, h1, h2, h3, h.2.2⟩
theorem ParsePost.any_ {w : World} {r : Except (Nat × Nat) RT} {e : Ending} {w' : World} (h : ParsePost w r e w') : ∃ v0 v1, e = .returned (.tuple #[.agg v0, v1]) ∧ v0.size = 8 ∧ Fr [] w w' := by
  cases r with
  | error p => obtain ⟨v, h1, h2, h3⟩ := h; exact ⟨_, v, h1, rfl, h3⟩
  | ok t => obtain ⟨p, h1, h2, h3⟩ := h; exact ⟨_, _, h1, rfl, h3⟩
/-- Two lists that parts are made of: how many there are. -/
theorem join_count {l : List RT} {t : RT} {wa : Prop} (hl : l ≠ []) (ht : t = joinT l) (hw : ∀ t1, l = [t1] → t1.k = 3 → wa) : (t.k ≠ 3 → l.length = 1) ∧ (t.k = 3 → wa ∨ t.l.length = l.length) := by
  match l, hl with
  | [x], _ =>
    have e : t = x := ht
    exact ⟨fun _ => rfl, fun hk => .inl (hw x rfl (by rw [← e]; exact hk))⟩
  | x :: y :: r, _ =>
    have e : t = .mk 3 S4.empty 0 0 (x :: y :: r) := ht
    exact ⟨fun hk => absurd (by rw [e]; rfl) hk, fun _ => .inr (by rw [e]; rfl)⟩
set_option maxRecDepth 100000 in
set_option maxHeartbeats 32000000 in
theorem ereJoins_walk {w : World} (hg : GlobOk w) {A B : Option Addr} {a b : List UInt8} {ca cb : Nat} (hA : Bytes w A a) (hB : Bytes w B b) (hca : a.length ≤ ca) (hcb : b.length ≤ cb) (hna : A = none → ca = 0) (hnb : B = none → cb = 0) (hma : ca ≤ maxLen) (hmb : cb ≤ maxLen) :
    Calls Try.prog 3 #[.slice A a.length ca, .slice B b.length cb] w fun e w' => e = .returned (.bool true) ∧ Fr [] w w' := by
  obtain ⟨na, hnae⟩ : ∃ n, n = a.length := ⟨_, rfl⟩
  obtain ⟨nb, hnbe⟩ : ∃ n, n = b.length := ⟨_, rfl⟩
  rw [← hnae] at hca ⊢
  rw [← hnbe] at hcb ⊢
  have HNA := Lib.hid hnae; have HNB := Lib.hid hnbe; have HA := Lib.hid hA; have HB := Lib.hid hB; have HG := Lib.hid hg; have HNIA := Lib.hid hna; have HNIB := Lib.hid hnb
  obtain ⟨i0, hi0, hz0, hz1, hz2⟩ := u8Parts
  clear hnae hnbe hA hB hg hna hnb
  unfold maxLen at hma hmb
  by_cases hba : 60 < na
  · have t1 : decide (60 < na) = true := by simpa using hba
    go_enter Try.func3, Try.ntmps3
    go_wp2_with (go_at_call 5; refine (awake_any HG.out).mono ?_; rintro e w1 ⟨rfl, hf1⟩; have HF1 := Lib.hid hf1; clear hf1)
    go_ret
    exact ⟨rfl, HF1.out⟩
  have t1 : decide (60 < na) = false := by simpa using hba
  by_cases hbb : 60 < nb
  · have t2 : decide (60 < nb) = true := by simpa using hbb
    go_enter Try.func3, Try.ntmps3
    go_wp2_with (go_at_call 5; refine (awake_any HG.out).mono ?_; rintro e w1 ⟨rfl, hf1⟩; have HF1 := Lib.hid hf1; clear hf1)
    go_ret
    exact ⟨rfl, HF1.out⟩
  have t2 : decide (60 < nb) = false := by simpa using hbb
  go_enter Try.func3, Try.ntmps3
  go_upto_region 5 with (go_at_call 5; refine (awake_any HG.out).mono ?_; rintro e w1 ⟨rfl, hf1⟩; have HF1 := Lib.hid hf1; clear hf1)
  clear t1 t2
  go_wp2_with fail
  go_at_call 6
  cases hpa : parseS a with
  | error pe =>
    obtain ⟨pp, pcd⟩ := pe
    refine (parse_at na HNA.out.symm _ hpa (HA.out.fr_nil HF1.out) hca HNIA.out (by unfold maxLen; exact hma) (HG.out.fr HF1.out)).mono ?_
    rintro e w2 ⟨v, rfl, ⟨fg, rfl, -⟩, hf⟩
    have HF2 := Lib.hid (HF1.out.trans hf)
    clear hf hpa
    unfold zeroP
    go_wp2_with fail
    go_at_call 6
    cases hpb : parseS b with
    | error pe =>
      obtain ⟨pp, pcd⟩ := pe
      refine (parse_at nb HNB.out.symm _ hpb (HB.out.fr_nil (HF2.out.alloc _)) hcb HNIB.out (by unfold maxLen; exact hmb) (HG.out.fr (HF2.out.alloc _))).mono ?_
      rintro e w3 ⟨v, rfl, ⟨fg2, rfl, -⟩, hf⟩
      have HF3 := Lib.hid ((HF2.out.alloc _).trans hf)
      clear hf hpb
      unfold zeroP
      go_wp2_with fail
      go_ret
      exact ⟨rfl, HF3.out.alloc _⟩
    | ok u =>
      refine (parse_at nb HNB.out.symm _ hpb (HB.out.fr_nil (HF2.out.alloc _)) hcb HNIB.out (by unfold maxLen; exact hmb) (HG.out.fr (HF2.out.alloc _))).mono ?_
      rintro e w3 ⟨q, rfl, hnq, hf⟩
      rw [hnq.val]
      obtain ⟨qn, hqn⟩ : ∃ n, n = u.l.length := ⟨_, rfl⟩
      rw [← hqn]
      have HF3 := Lib.hid ((HF2.out.alloc _).trans hf)
      clear hf hpb hnq hqn
      go_wp2_with fail
      go_ret
      exact ⟨rfl, HF3.out.alloc _⟩
  | ok t =>
    refine (parse_at na HNA.out.symm _ hpa (HA.out.fr_nil HF1.out) hca HNIA.out (by unfold maxLen; exact hma) (HG.out.fr HF1.out)).mono ?_
    rintro e w2 ⟨p, rfl, hnp, hf⟩
    have HF2 := Lib.hid (HF1.out.trans hf); have HNP := Lib.hid hnp; have HPA := Lib.hid hpa
    rw [hnp.val]
    obtain ⟨pn, hpn⟩ : ∃ n, n = t.l.length := ⟨_, rfl⟩
    rw [← hpn]
    have HPN := Lib.hid hpn
    clear hf hpa hnp hpn
    go_upto_region 6 with fail
    refine code_gen1 fun W5 hW => ?_
    have hf5 : Fr [] w2 W5 := by rw [hW]; exact (Fr.refl [] w2).alloc _
    obtain ⟨s5, hs5⟩ : ∃ x, x = w2.heap.size := ⟨_, rfl⟩
    have hk5 : Bk W5 s5 29 #[.int .i64 t.k, .int .u64 t.s.a, .int .u64 t.s.b, .int .u64 t.s.c, .int .u64 t.s.d, .int .i64 t.mn, .int .i64 t.mx, .slice p.A pn p.c] := by rw [hW, hs5]; exact Bk.new w2 _ _
    rw [← hs5]
    have HF5 := Lib.hid (HF2.out.trans hf5); have HK5 := Lib.hid hk5; have HNP5 := Lib.hid (HNP.out.fr_nil hf5)
    clear hW hf5 hs5 hk5 HNP
    go_wp2_with fail
    go_at_call 6
    cases hpb : parseS b with
    | error pe =>
      obtain ⟨pp, pcd⟩ := pe
      refine (parse_at nb HNB.out.symm _ hpb (HB.out.fr_nil HF5.out) hcb HNIB.out (by unfold maxLen; exact hmb) (HG.out.fr HF5.out)).mono ?_
      rintro e w3 ⟨v, rfl, ⟨fg, rfl, -⟩, hf⟩
      have HF3 := Lib.hid (HF5.out.trans hf)
      clear hf hpb
      unfold zeroP
      go_wp2_with fail
      go_ret
      exact ⟨rfl, HF3.out.alloc _⟩
    | ok u =>
      refine (parse_at nb HNB.out.symm _ hpb (HB.out.fr_nil HF5.out) hcb HNIB.out (by unfold maxLen; exact hmb) (HG.out.fr HF5.out)).mono ?_
      rintro e w3 ⟨q, rfl, hnq, hf⟩
      have HF3 := Lib.hid (HF5.out.trans hf)
      rw [hnq.val]
      obtain ⟨qn, hqn⟩ : ∃ n, n = u.l.length := ⟨_, rfl⟩
      rw [← hqn]
      have HQN := Lib.hid hqn
      obtain ⟨la, lb, hla, hlb, hta, htb, hwa, hwb, hor⟩ := parse_or (by rw [← HNA.out]; omega) (by rw [← HNB.out]; omega) HPA.out hpb
      have hin := parse_in (a := a) (by rw [← HNA.out]; omega) HPA.out
      have hca1 := join_count hla hta hwa
      have hcb1 := join_count hlb htb hwb
      have HPB := Lib.hid hpb; have HOR := Lib.hid hor; have HIN := Lib.hid hin; have HCA := Lib.hid hca1; have HCB := Lib.hid hcb1
      clear hpb hqn hla hlb hta htb hwa hwb hor hin hca1 hcb1
      go_upto_region 9 with fail
      refine code_gen1 fun W6 hW => ?_
      have hf6 : Fr [] w3 W6 := by rw [hW]; exact (Fr.refl [] w3).alloc _
      obtain ⟨s7, hs7⟩ : ∃ x, x = w3.heap.size := ⟨_, rfl⟩
      have hk7 : Bk W6 s7 29 #[.int .i64 u.k, .int .u64 u.s.a, .int .u64 u.s.b, .int .u64 u.s.c, .int .u64 u.s.d, .int .i64 u.mn, .int .i64 u.mx, .slice q.A qn q.c] := by rw [hW, hs7]; exact Bk.new w3 _ _
      rw [← hs7]
      have HF6 := Lib.hid (HF3.out.trans hf6); have HK7 := Lib.hid hk7; have HK5' := Lib.hid ((HK5.out.fr hf (by simp)).fr hf6 (by simp)); have HNP6 := Lib.hid ((HNP5.out.fr_nil hf).fr_nil hf6)
      clear hW hf6 hs7 hk7 HK5 HNP5 hf hnq
      have HMZ := Lib.hid (own_new W6 [] (by simp))
      have hla60 : a.length = na := HNA.out.symm
      have hlb60 : b.length = nb := HNB.out.symm
      go_upto_region 10 with (first
        | (at_builtin; refine wpList_append_Own rfl (.tmp 41) (.tmp 42) 22 rfl 5 i0 _ Try.underlying22 hi0 hz0 hz1 rfl (.slice (some ⟨W6.heap.size, 0, none⟩) 0 0) (byteVals ([])) (by first | rfl | (simp [Act.eval]; done)) (HMZ.out.1) A na ca (by first | rfl | (simp [Act.eval]; done)) (byteVals a) (HA.out.fr_nil (HF6.out.trans HMZ.out.2.2)) (by rw [byteVals_length]; exact HNA.out.symm) (byteVals_one _) (len_ok _ _ hz2 (by simp only [List.length_append, List.length_cons, List.length_nil]; omega)).1 (len_ok _ _ hz2 (by simp only [List.length_append, List.length_cons, List.length_nil]; omega)).2 ?_; intro v1 x1 hown hgr hat; have HM1 := Lib.hid (MyB.cat HMZ.out hown hgr hat); clear hown hgr hat)
        | (at_builtin; refine wpList_append_Own rfl (.tmp 43) (.tmp 44) 22 rfl 5 i0 _ Try.underlying22 hi0 hz0 hz1 rfl (v1) (byteVals ([] ++ a)) (by first | rfl | (simp [Act.eval]; done)) ((HM1.out.alloc _).1) (some ⟨x1.heap.size, 0, none⟩) 1 1 (by first | rfl | (simp [Act.eval]; done)) ([.int .u8 124]) (one_byte _ _) rfl (by simp [Value.oneCell']) (len_ok _ _ hz2 (by simp only [List.length_append, List.length_cons, List.length_nil]; omega)).1 (len_ok _ _ hz2 (by simp only [List.length_append, List.length_cons, List.length_nil]; omega)).2 ?_; intro v2 x2 hown hgr hat; have HM2 := Lib.hid (MyB.snoc (x := 124) HM1.out hown hgr hat); clear hown hgr hat)
        | (at_builtin; refine wpList_append_Own rfl (.tmp 45) (.tmp 46) 22 rfl 5 i0 _ Try.underlying22 hi0 hz0 hz1 rfl (v2) (byteVals ([] ++ a ++ [124])) (by first | rfl | (simp [Act.eval]; done)) (HM2.out.1) B nb cb (by first | rfl | (simp [Act.eval]; done)) (byteVals b) (HB.out.fr_nil (HF6.out.trans HM2.out.2.2)) (by rw [byteVals_length]; exact HNB.out.symm) (byteVals_one _) (len_ok _ _ hz2 (by simp only [List.length_append, List.length_cons, List.length_nil]; omega)).1 (len_ok _ _ hz2 (by simp only [List.length_append, List.length_cons, List.length_nil]; omega)).2 ?_; intro v3 x3 hown hgr hat; have HM3 := Lib.hid (MyB.cat HM2.out hown hgr hat); clear hown hgr hat; have hm3e := HM3.out; rw [show (([] : List UInt8) ++ a ++ [124] ++ b) = a ++ 124 :: b by simp] at hm3e; obtain ⟨A3, c3, rfl, hb3, hl3, hm3, hn3, hf3⟩ := hm3e.form; have HF63 := Lib.hid hf3; clear hm3e HM3; have HB3 := Lib.hid hb3; have HL3 := Lib.hid hl3; have HMM3 := Lib.hid hm3; have HN3 := Lib.hid hn3; have HF9 := Lib.hid (HF6.out.trans hf3); clear hb3 hl3 hm3 hn3 hf3)
        | (go_at_call 6; refine (parse_at _ (byteVals_length _).symm _ HOR.out HB3.out HL3.out HN3.out HMM3.out (HG.out.fr HF9.out)).mono ?_; rintro e w4 ⟨pb, rfl, hnb', hf⟩; rw [hnb'.val]; have HF4 := Lib.hid (HF9.out.trans hf); have HF64 := Lib.hid (HF63.out.trans hf); clear hf hnb'))
      obtain ⟨bn2, hbn2⟩ : ∃ n, n = (la ++ lb).length := ⟨_, rfl⟩
      obtain ⟨pbA, hpbA⟩ : ∃ x, x = pb.A := ⟨_, rfl⟩
      obtain ⟨pbc, hpbc⟩ : ∃ x, x = pb.c := ⟨_, rfl⟩
      simp only [RT.k, RT.s, RT.mn, RT.mx, RT.l, S4.empty, Int.natCast_zero]
      rw [← hbn2, ← hpbA, ← hpbc]
      have HBN := Lib.hid hbn2
      clear hbn2 hpbA hpbc
      refine code_gen1 fun W9 hW => ?_
      have hf9 : Fr [] w4 W9 := by rw [hW]; exact (Fr.refl [] w4).alloc _
      obtain ⟨s9, hs9⟩ : ∃ x, x = w4.heap.size := ⟨_, rfl⟩
      have hk9 : Bk W9 s9 29 #[.int .i64 3, .int .u64 0, .int .u64 0, .int .u64 0, .int .u64 0, .int .i64 0, .int .i64 0, .slice pbA bn2 pbc] := by rw [hW, hs9]; exact Bk.new w4 _ _
      rw [← hs9]
      have hfr69 := HF64.out.trans hf9
      have HF9' := Lib.hid (HF6.out.trans hfr69); have HK9 := Lib.hid hk9; have HK59 := Lib.hid (HK5'.out.fr hfr69 (by simp)); have HK79 := Lib.hid (HK7.out.fr hfr69 (by simp)); have HNP9 := Lib.hid (HNP6.out.fr_nil hfr69)
      clear hW hf9 hs9 hk9 hfr69 HK5' HK7 HNP6 HMZ HM1 HM2 HB3 HL3 HMM3 HN3 HF9 HF63 HF64 HF4
      have HMY := Lib.hid (own_new W9 [40] (by decide))
      rcases HIN.out with hin | ⟨qq, hin⟩
      · go_upto_region 12 with (first
          | (at_builtin; refine wpList_append_Own rfl (.tmp 52) (.tmp 53) 22 rfl 5 i0 _ Try.underlying22 hi0 hz0 hz1 rfl (.slice (some ⟨W9.heap.size, 0, none⟩) 1 1) (byteVals ([40])) (by first | rfl | (simp [Act.eval]; done)) (HMY.out.1) A na ca (by first | rfl | (simp [Act.eval]; done)) (byteVals a) (HA.out.fr_nil (HF9'.out.trans HMY.out.2.2)) (by rw [byteVals_length]; exact HNA.out.symm) (byteVals_one _) (len_ok _ _ hz2 (by simp only [List.length_append, List.length_cons, List.length_nil]; omega)).1 (len_ok _ _ hz2 (by simp only [List.length_append, List.length_cons, List.length_nil]; omega)).2 ?_; intro v1 x1 hown hgr hat; have HM1 := Lib.hid (MyB.cat HMY.out hown hgr hat); clear hown hgr hat)
          | (at_builtin; refine wpList_append_Own rfl (.tmp 54) (.tmp 55) 22 rfl 5 i0 _ Try.underlying22 hi0 hz0 hz1 rfl (v1) (byteVals ([40] ++ a)) (by first | rfl | (simp [Act.eval]; done)) ((HM1.out.alloc _).1) (some ⟨x1.heap.size, 0, none⟩) 1 1 (by first | rfl | (simp [Act.eval]; done)) ([.int .u8 41]) (one_byte _ _) rfl (by simp [Value.oneCell']) (len_ok _ _ hz2 (by simp only [List.length_append, List.length_cons, List.length_nil]; omega)).1 (len_ok _ _ hz2 (by simp only [List.length_append, List.length_cons, List.length_nil]; omega)).2 ?_; intro v2 x2 hown hgr hat; have HM2 := Lib.hid (MyB.snoc (x := 41) HM1.out hown hgr hat); clear hown hgr hat; obtain ⟨A3, c3, rfl, hb3, hl3, hm3, hn3, hf3⟩ := HM2.out.form; have HB3 := Lib.hid hb3; have HL3 := Lib.hid hl3; have HMM3 := Lib.hid hm3; have HN3 := Lib.hid hn3; have HFA := Lib.hid (HF9'.out.trans hf3); have HF93 := Lib.hid hf3; clear hb3 hl3 hm3 hn3 hf3 HM2)
          | (go_at_call 6; refine (parse_at _ (byteVals_length _).symm _ hin HB3.out HL3.out HN3.out HMM3.out (HG.out.fr HFA.out)).mono ?_; rintro e wB ⟨pi, rfl, hn, hf⟩; rw [hn.val, ← HPN.out]; have HNI := Lib.hid hn; clear hn; have HFB := Lib.hid (HFA.out.trans hf); have HF9B := Lib.hid (HF93.out.trans hf); clear hf))
        refine code_gen1 fun WA hW => ?_
        have hfa : Fr [] wB WA := by rw [hW]; exact (Fr.refl [] wB).alloc _
        have hkb : Bk WA wB.heap.size 29 #[.int .i64 t.k, .int .u64 t.s.a, .int .u64 t.s.b, .int .u64 t.s.c, .int .u64 t.s.d, .int .i64 t.mn, .int .i64 t.mx, .slice pi.A pn pi.c] := by rw [hW]; exact Bk.new wB _ _
        have HNIA' := Lib.hid (HNI.out.fr_nil hfa)
        have hfr := HF9B.out.trans hfa
        have HFW := Lib.hid (HFB.out.trans hfa); have HKA9 := Lib.hid (HK9.out.fr hfr (by simp)); have HKA5 := Lib.hid (HK59.out.fr hfr (by simp)); have HKA7 := Lib.hid (HK79.out.fr hfr (by simp)); have HNPA := Lib.hid (HNP9.out.fr_nil hfr)
        clear hW hfa hfr hin
        obtain ⟨⟨a0, -, -, -, -, -, -, a7⟩, -, -, -, -, -, -, -, -, al⟩ := HKA5.out.eightc
        obtain ⟨⟨b0, -, -, -, -, -, -, b7⟩, -, -, -, -, -, -, -, -, bl⟩ := HKA7.out.eightc
        obtain ⟨kt, hkt⟩ : ∃ x, x = t.k := ⟨_, rfl⟩
        obtain ⟨ku, hku⟩ : ∃ x, x = u.k := ⟨_, rfl⟩
        rw [← hkt] at a0
        rw [← hku] at b0
        have HKT := Lib.hid hkt; have HKU := Lib.hid hku
        clear hkt hku
        have hpn1 : pn ≤ 1001 := by
          have h := parse_small HPA.out
          rw [okT_eq] at h
          rw [HPN.out]; exact h.1
        have hqn1 : qn ≤ 1001 := by
          have h := parse_small HPB.out
          rw [okT_eq] at h
          rw [HQN.out]; exact h.1
        obtain ⟨sB, hsB⟩ : ∃ x, x = wB.heap.size := ⟨_, rfl⟩
        rw [← hsB] at hkb ⊢
        obtain ⟨⟨e0, e1, e2, e3, e4, e5, e6, e7⟩, -, -, -, -, -, -, -, -, el⟩ := hkb.eightc
        obtain ⟨⟨-, a1, a2, a3, a4, a5, a6, -⟩, -⟩ := HKA5.out.eightc
        obtain ⟨⟨d0, -, -, -, -, -, -, d7⟩, -, -, -, -, -, -, -, -, dl⟩ := HKA9.out.eightc
        have hone : Calls Try.prog 9 #[.agg #[.int .i64 t.k, .int .u64 t.s.a, .int .u64 t.s.b, .int .u64 t.s.c, .int .u64 t.s.d, .int .i64 t.mn, .int .i64 t.mx, .slice pi.A pn pi.c], .agg #[.int .i64 t.k, .int .u64 t.s.a, .int .u64 t.s.b, .int .u64 t.s.c, .int .u64 t.s.d, .int .i64 t.mn, .int .i64 t.mx, .slice p.A pn p.c]] WA fun e w' => e = .returned (.bool true) ∧ Fr [] WA w' := by
          have h := one_ok t (parse_small HPA.out) pi p WA HNIA'.out.rep HNPA.out.rep HNIA'.out.mem HNPA.out.mem
          rw [HNIA'.out.val, HNPA.out.val, ← HPN.out] at h
          exact h
        rw [← HKT.out] at hone e0
        have HONE := Lib.hid hone
        clear hone hkb hsB
        by_cases hk1 : kt = 3
        · subst hk1
          by_cases hk2 : ku = 3
          · subst hk2
            by_cases hD : (bn2 : Int) = 2 + (pn : Int) - 1 + (qn : Int) - 1
            · have hd : ((bn2 : Int) == 2 + (pn : Int) - 1 + (qn : Int) - 1) = true := by simpa using hD
              go_wp2_with fail
              go_at_call 9
              refine (HONE.out).mono ?_
              rintro e w8 ⟨rfl, hf8⟩
              have HF8 := Lib.hid (HFW.out.trans hf8)
              clear hf8
              go_wp2_with fail
              go_ret
              exact ⟨rfl, HF8.out⟩
            have hd : ((bn2 : Int) == 2 + (pn : Int) - 1 + (qn : Int) - 1) = false := by simpa using hD
            by_cases hA40 : bn a 0 = 40
            · have HWX := Lib.hid (stB_yes hA40)
              go_wp2_with fail
              go_at_call 8
              refine (wrapped_any (HA.out.fr_nil HFW.out) na HNA.out.symm (by omega)).mono ?_
              rintro e w7 ⟨rfl, rfl⟩
              rw [HWX.out]
              go_wp2_with fail
              go_at_call 9
              refine (HONE.out).mono ?_
              rintro e w8 ⟨rfl, hf8⟩
              have HF8 := Lib.hid (HFW.out.trans hf8)
              clear hf8
              go_wp2_with fail
              go_ret
              exact ⟨rfl, HF8.out⟩
            have HWA := Lib.hid (stB_no hA40)
            have hB40 : bn b 0 = 40 := by
              by_cases hB : bn b 0 = 40
              · exact hB
              · exfalso
                apply hD
                have hbl := HBN.out
                rw [List.length_append] at hbl
                have c1 := HCA.out
                have c2 := HCB.out
                rw [← HPN.out] at c1
                rw [← HQN.out] at c2
                have d1 := c1.2 HKT.out.symm
                have d2 := c2.2 HKU.out.symm
                omega
            have HWB := Lib.hid (stB_yes hB40)
            go_wp2_with fail
            go_at_call 8
            refine (wrapped_any (HA.out.fr_nil HFW.out) na HNA.out.symm (by omega)).mono ?_
            rintro e w7 ⟨rfl, rfl⟩
            rw [HWA.out]
            go_wp2_with fail
            go_at_call 8
            refine (wrapped_any (HB.out.fr_nil HFW.out) nb HNB.out.symm (by omega)).mono ?_
            rintro e w7 ⟨rfl, rfl⟩
            rw [HWB.out]
            go_wp2_with fail
            go_at_call 9
            refine (HONE.out).mono ?_
            rintro e w8 ⟨rfl, hf8⟩
            have HF8 := Lib.hid (HFW.out.trans hf8)
            clear hf8
            go_wp2_with fail
            go_ret
            exact ⟨rfl, HF8.out⟩
          · have hp2 : (ku == 3) = false := by simp [hk2]
            by_cases hD : (bn2 : Int) = 2 + (pn : Int) - 1
            · have hd : ((bn2 : Int) == 2 + (pn : Int) - 1) = true := by simpa using hD
              go_wp2_with fail
              go_at_call 9
              refine (HONE.out).mono ?_
              rintro e w8 ⟨rfl, hf8⟩
              have HF8 := Lib.hid (HFW.out.trans hf8)
              clear hf8
              go_wp2_with fail
              go_ret
              exact ⟨rfl, HF8.out⟩
            have hd : ((bn2 : Int) == 2 + (pn : Int) - 1) = false := by simpa using hD
            by_cases hA40 : bn a 0 = 40
            · have HWX := Lib.hid (stB_yes hA40)
              go_wp2_with fail
              go_at_call 8
              refine (wrapped_any (HA.out.fr_nil HFW.out) na HNA.out.symm (by omega)).mono ?_
              rintro e w7 ⟨rfl, rfl⟩
              rw [HWX.out]
              go_wp2_with fail
              go_at_call 9
              refine (HONE.out).mono ?_
              rintro e w8 ⟨rfl, hf8⟩
              have HF8 := Lib.hid (HFW.out.trans hf8)
              clear hf8
              go_wp2_with fail
              go_ret
              exact ⟨rfl, HF8.out⟩
            have HWA := Lib.hid (stB_no hA40)
            have hB40 : bn b 0 = 40 := by
              by_cases hB : bn b 0 = 40
              · exact hB
              · exfalso
                apply hD
                have hbl := HBN.out
                rw [List.length_append] at hbl
                have c1 := HCA.out
                have c2 := HCB.out
                rw [← HPN.out] at c1
                rw [← HQN.out] at c2
                have d1 := c1.2 HKT.out.symm
                have d2 := c2.1 (by rw [← HKU.out]; exact hk2)
                omega
            have HWB := Lib.hid (stB_yes hB40)
            go_wp2_with fail
            go_at_call 8
            refine (wrapped_any (HA.out.fr_nil HFW.out) na HNA.out.symm (by omega)).mono ?_
            rintro e w7 ⟨rfl, rfl⟩
            rw [HWA.out]
            go_wp2_with fail
            go_at_call 8
            refine (wrapped_any (HB.out.fr_nil HFW.out) nb HNB.out.symm (by omega)).mono ?_
            rintro e w7 ⟨rfl, rfl⟩
            rw [HWB.out]
            go_wp2_with fail
            go_at_call 9
            refine (HONE.out).mono ?_
            rintro e w8 ⟨rfl, hf8⟩
            have HF8 := Lib.hid (HFW.out.trans hf8)
            clear hf8
            go_wp2_with fail
            go_ret
            exact ⟨rfl, HF8.out⟩
        · have hp1 : (kt == 3) = false := by simp [hk1]
          by_cases hk2 : ku = 3
          · subst hk2
            by_cases hD : (bn2 : Int) = 2 + (qn : Int) - 1
            · have hd : ((bn2 : Int) == 2 + (qn : Int) - 1) = true := by simpa using hD
              go_wp2_with fail
              go_at_call 9
              refine (HONE.out).mono ?_
              rintro e w8 ⟨rfl, hf8⟩
              have HF8 := Lib.hid (HFW.out.trans hf8)
              clear hf8
              go_wp2_with fail
              go_ret
              exact ⟨rfl, HF8.out⟩
            have hd : ((bn2 : Int) == 2 + (qn : Int) - 1) = false := by simpa using hD
            by_cases hA40 : bn a 0 = 40
            · have HWX := Lib.hid (stB_yes hA40)
              go_wp2_with fail
              go_at_call 8
              refine (wrapped_any (HA.out.fr_nil HFW.out) na HNA.out.symm (by omega)).mono ?_
              rintro e w7 ⟨rfl, rfl⟩
              rw [HWX.out]
              go_wp2_with fail
              go_at_call 9
              refine (HONE.out).mono ?_
              rintro e w8 ⟨rfl, hf8⟩
              have HF8 := Lib.hid (HFW.out.trans hf8)
              clear hf8
              go_wp2_with fail
              go_ret
              exact ⟨rfl, HF8.out⟩
            have HWA := Lib.hid (stB_no hA40)
            have hB40 : bn b 0 = 40 := by
              by_cases hB : bn b 0 = 40
              · exact hB
              · exfalso
                apply hD
                have hbl := HBN.out
                rw [List.length_append] at hbl
                have c1 := HCA.out
                have c2 := HCB.out
                rw [← HPN.out] at c1
                rw [← HQN.out] at c2
                have d1 := c1.1 (by rw [← HKT.out]; exact hk1)
                have d2 := c2.2 HKU.out.symm
                omega
            have HWB := Lib.hid (stB_yes hB40)
            go_wp2_with fail
            go_at_call 8
            refine (wrapped_any (HA.out.fr_nil HFW.out) na HNA.out.symm (by omega)).mono ?_
            rintro e w7 ⟨rfl, rfl⟩
            rw [HWA.out]
            go_wp2_with fail
            go_at_call 8
            refine (wrapped_any (HB.out.fr_nil HFW.out) nb HNB.out.symm (by omega)).mono ?_
            rintro e w7 ⟨rfl, rfl⟩
            rw [HWB.out]
            go_wp2_with fail
            go_at_call 9
            refine (HONE.out).mono ?_
            rintro e w8 ⟨rfl, hf8⟩
            have HF8 := Lib.hid (HFW.out.trans hf8)
            clear hf8
            go_wp2_with fail
            go_ret
            exact ⟨rfl, HF8.out⟩
          · have hp2 : (ku == 3) = false := by simp [hk2]
            by_cases hD : (bn2 : Int) = 2
            · have hd : ((bn2 : Int) == 2) = true := by simpa using hD
              go_wp2_with fail
              go_at_call 9
              refine (HONE.out).mono ?_
              rintro e w8 ⟨rfl, hf8⟩
              have HF8 := Lib.hid (HFW.out.trans hf8)
              clear hf8
              go_wp2_with fail
              go_ret
              exact ⟨rfl, HF8.out⟩
            have hd : ((bn2 : Int) == 2) = false := by simpa using hD
            by_cases hA40 : bn a 0 = 40
            · have HWX := Lib.hid (stB_yes hA40)
              go_wp2_with fail
              go_at_call 8
              refine (wrapped_any (HA.out.fr_nil HFW.out) na HNA.out.symm (by omega)).mono ?_
              rintro e w7 ⟨rfl, rfl⟩
              rw [HWX.out]
              go_wp2_with fail
              go_at_call 9
              refine (HONE.out).mono ?_
              rintro e w8 ⟨rfl, hf8⟩
              have HF8 := Lib.hid (HFW.out.trans hf8)
              clear hf8
              go_wp2_with fail
              go_ret
              exact ⟨rfl, HF8.out⟩
            have HWA := Lib.hid (stB_no hA40)
            have hB40 : bn b 0 = 40 := by
              by_cases hB : bn b 0 = 40
              · exact hB
              · exfalso
                apply hD
                have hbl := HBN.out
                rw [List.length_append] at hbl
                have c1 := HCA.out
                have c2 := HCB.out
                rw [← HPN.out] at c1
                rw [← HQN.out] at c2
                have d1 := c1.1 (by rw [← HKT.out]; exact hk1)
                have d2 := c2.1 (by rw [← HKU.out]; exact hk2)
                omega
            have HWB := Lib.hid (stB_yes hB40)
            go_wp2_with fail
            go_at_call 8
            refine (wrapped_any (HA.out.fr_nil HFW.out) na HNA.out.symm (by omega)).mono ?_
            rintro e w7 ⟨rfl, rfl⟩
            rw [HWA.out]
            go_wp2_with fail
            go_at_call 8
            refine (wrapped_any (HB.out.fr_nil HFW.out) nb HNB.out.symm (by omega)).mono ?_
            rintro e w7 ⟨rfl, rfl⟩
            rw [HWB.out]
            go_wp2_with fail
            go_at_call 9
            refine (HONE.out).mono ?_
            rintro e w8 ⟨rfl, hf8⟩
            have HF8 := Lib.hid (HFW.out.trans hf8)
            clear hf8
            go_wp2_with fail
            go_ret
            exact ⟨rfl, HF8.out⟩
      · go_upto_region 12 with (first
          | (at_builtin; refine wpList_append_Own rfl (.tmp 52) (.tmp 53) 22 rfl 5 i0 _ Try.underlying22 hi0 hz0 hz1 rfl (.slice (some ⟨W9.heap.size, 0, none⟩) 1 1) (byteVals ([40])) (by first | rfl | (simp [Act.eval]; done)) (HMY.out.1) A na ca (by first | rfl | (simp [Act.eval]; done)) (byteVals a) (HA.out.fr_nil (HF9'.out.trans HMY.out.2.2)) (by rw [byteVals_length]; exact HNA.out.symm) (byteVals_one _) (len_ok _ _ hz2 (by simp only [List.length_append, List.length_cons, List.length_nil]; omega)).1 (len_ok _ _ hz2 (by simp only [List.length_append, List.length_cons, List.length_nil]; omega)).2 ?_; intro v1 x1 hown hgr hat; have HM1 := Lib.hid (MyB.cat HMY.out hown hgr hat); clear hown hgr hat)
          | (at_builtin; refine wpList_append_Own rfl (.tmp 54) (.tmp 55) 22 rfl 5 i0 _ Try.underlying22 hi0 hz0 hz1 rfl (v1) (byteVals ([40] ++ a)) (by first | rfl | (simp [Act.eval]; done)) ((HM1.out.alloc _).1) (some ⟨x1.heap.size, 0, none⟩) 1 1 (by first | rfl | (simp [Act.eval]; done)) ([.int .u8 41]) (one_byte _ _) rfl (by simp [Value.oneCell']) (len_ok _ _ hz2 (by simp only [List.length_append, List.length_cons, List.length_nil]; omega)).1 (len_ok _ _ hz2 (by simp only [List.length_append, List.length_cons, List.length_nil]; omega)).2 ?_; intro v2 x2 hown hgr hat; have HM2 := Lib.hid (MyB.snoc (x := 41) HM1.out hown hgr hat); clear hown hgr hat; obtain ⟨A3, c3, rfl, hb3, hl3, hm3, hn3, hf3⟩ := HM2.out.form; have HB3 := Lib.hid hb3; have HL3 := Lib.hid hl3; have HMM3 := Lib.hid hm3; have HN3 := Lib.hid hn3; have HFA := Lib.hid (HF9'.out.trans hf3); have HF93 := Lib.hid hf3; clear hb3 hl3 hm3 hn3 hf3 HM2)
          | (go_at_call 6; refine (parse_at _ (byteVals_length _).symm _ hin HB3.out HL3.out HN3.out HMM3.out (HG.out.fr HFA.out)).mono ?_; rintro e wB ⟨vv, rfl, ⟨fg, rfl, hfb⟩, hf⟩; have HVB := Lib.hid (show FaultV wB _ (qq : Int) ((6 : Nat) : Int) from ⟨fg, rfl, hfb⟩); clear hfb; unfold zeroP; have HFB := Lib.hid (HFA.out.trans hf); have HF9B := Lib.hid (HF93.out.trans hf); clear hf))
        refine code_gen1 fun WA hW => ?_
        have hfa : Fr [] wB WA := by rw [hW]; exact (Fr.refl [] wB).alloc _
        have HVA := Lib.hid (HVB.out.fr hfa)
        have hfr := HF9B.out.trans hfa
        have HFW := Lib.hid (HFB.out.trans hfa); have HKA9 := Lib.hid (HK9.out.fr hfr (by simp)); have HKA5 := Lib.hid (HK59.out.fr hfr (by simp)); have HKA7 := Lib.hid (HK79.out.fr hfr (by simp)); have HNPA := Lib.hid (HNP9.out.fr_nil hfr)
        clear hW hfa hfr hin
        obtain ⟨⟨a0, -, -, -, -, -, -, a7⟩, -, -, -, -, -, -, -, -, al⟩ := HKA5.out.eightc
        obtain ⟨⟨b0, -, -, -, -, -, -, b7⟩, -, -, -, -, -, -, -, -, bl⟩ := HKA7.out.eightc
        obtain ⟨kt, hkt⟩ : ∃ x, x = t.k := ⟨_, rfl⟩
        obtain ⟨ku, hku⟩ : ∃ x, x = u.k := ⟨_, rfl⟩
        rw [← hkt] at a0
        rw [← hku] at b0
        have HKT := Lib.hid hkt; have HKU := Lib.hid hku
        clear hkt hku
        have hpn1 : pn ≤ 1001 := by
          have h := parse_small HPA.out
          rw [okT_eq] at h
          rw [HPN.out]; exact h.1
        have hqn1 : qn ≤ 1001 := by
          have h := parse_small HPB.out
          rw [okT_eq] at h
          rw [HQN.out]; exact h.1
        by_cases hk1 : kt = 3
        · subst hk1
          by_cases hk2 : ku = 3
          · subst hk2
            go_wp2_with fail
            go_at_call 7
            refine (code_fault HVA.out (by decide) (by decide)).mono ?_
            rintro e w7 ⟨rfl, rfl⟩
            go_wp2_with fail
            go_ret
            exact ⟨rfl, HFW.out⟩
          · have hp2 : (ku == 3) = false := by simp [hk2]
            go_wp2_with fail
            go_at_call 7
            refine (code_fault HVA.out (by decide) (by decide)).mono ?_
            rintro e w7 ⟨rfl, rfl⟩
            go_wp2_with fail
            go_ret
            exact ⟨rfl, HFW.out⟩
        · have hp1 : (kt == 3) = false := by simp [hk1]
          by_cases hk2 : ku = 3
          · subst hk2
            go_wp2_with fail
            go_at_call 7
            refine (code_fault HVA.out (by decide) (by decide)).mono ?_
            rintro e w7 ⟨rfl, rfl⟩
            go_wp2_with fail
            go_ret
            exact ⟨rfl, HFW.out⟩
          · have hp2 : (ku == 3) = false := by simp [hk2]
            go_wp2_with fail
            go_at_call 7
            refine (code_fault HVA.out (by decide) (by decide)).mono ?_
            rintro e w7 ⟨rfl, rfl⟩
            go_wp2_with fail
            go_ret
            exact ⟨rfl, HFW.out⟩
end Go.Proofs.Ytmecogilhoebgaa
