/-
 Er6, Er7: several small texts in one. No conditions.
-/
import Derived.Test.YtfbmogccmlikaaaGreatDoorGo
import Derived.OwnWalk
namespace Go.Proofs.YtfbmogccmlikaaaGreatDoor
open Go.RowKit
set_option linter.unusedVariables false
set_option linter.unusedSimpArgs false
def PieceOk (f : Nat) : Prop := ∀ (w : World) (g : Nat) (A : Option Addr) (c : Nat) (bs : List UInt8) (i d : Nat), Rdr w g A c bs i d → i < bs.length → 6 * (bs.length - i) + 3 ≤ f →
 Calls Tryz.prog 84 #[.pointer (some ⟨g, 0, none⟩)] w (ReadPost w g A c bs d (pieceF bs f d i))
def timesT (a b : Int) (B : Nat) (p : PT) : PT := .mk 4 0 0 0 0 a b (some ⟨B, 0, none⟩) 1 [p]
theorem times_new {lo : Nat} {w w' : World} {t : RT} {p : PT} (h : NewP lo w t p) (a b : Int) (hb : Bk w' w.heap.size 104 p.cells.toArray) (hf : Fr [] w w') (hlo : lo ≤ w.heap.size) :
    NewP lo w' (tTimes a b t) (timesT a b w.heap.size p) :=
 ⟨by rw [RepP_eq]; refine ⟨rfl, rfl, rfl, rfl, rfl, rfl, rfl, ?_⟩; show RepL [t] [p]; rw [RepL_cons]; exact ⟨h.rep, by rw [RepL_nil]⟩,
  by
   unfold timesT
   rw [PMem, LMem]
   exact ⟨⟨w.heap.size, 0, rfl, _, hb, fun j u hu => by simpa using hu⟩, h.mem.fr_ hf _ (by simp), by rw [LMem]; trivial⟩,
  by
   intro b hb'
   unfold timesT at hb'
   rw [blkP] at hb'
   simp [blkL] at hb'
   have hl := hb.lt
   rcases hb' with rfl | hb'
   ·exact ⟨hlo, hl⟩
   ·exact ⟨(h.new b hb').1, Nat.lt_of_lt_of_le (h.new b hb').2 hf.size⟩⟩
theorem Bk.put8 {W : World} {b : Nat} {t : TypeId} {v0 v1 v2 v3 v4 v5 v6 v7 : Value} (h : Bk W b t #[v0, v1, v2, v3, v4, v5, v6, v7]) (x0 x1 x2 x3 x4 x5 x6 x7 : Value) :
    Bk ((((((((W.setCell ⟨b, 0, none⟩ x0).setCell ⟨b, 1, none⟩ x1).setCell ⟨b, 2, none⟩ x2).setCell ⟨b, 3, none⟩ x3).setCell ⟨b, 4, none⟩ x4).setCell ⟨b, 5, none⟩ x5).setCell ⟨b, 6, none⟩ x6).setCell ⟨b, 7, none⟩ x7) b t #[x0, x1, x2, x3, x4, x5, x6, x7] := by
 have := (((((((h.put 0 x0).put 1 x1).put 2 x2).put 3 x3).put 4 x4).put 5 x5).put 6 x6).put 7 x7
 simpa using this
def PieceRel (w : World) (g : Nat) (A : Option Addr) (c : Nat) (bs : List UInt8) (d : Nat) (R : Res) (rb pb : Nat) (v : Value) (wr : World) : Prop :=
 ∃ (k i : Nat) (t : RT) (p : PT), v = .int .i64 (k : Int) ∧ k ≤ 8 ∧ signsL bs (8 - k) t i = R ∧ Rdr wr g A c bs i d ∧ NewP w.heap.size wr t p ∧ (∀ b ∈ blkP p, b ≠ pb ∧ b ≠ rb) ∧ Bk wr rb 104 zeroP ∧
  Bk wr pb 104 #[.int .i64 p.k, .int .u64 p.s0, .int .u64 p.s1, .int .u64 p.s2, .int .u64 p.s3, .int .i64 p.mn, .int .i64 p.mx, .slice p.A p.l.length p.c] ∧ Fr [g] w wr
theorem signsL_stop {bs : List UInt8} {m : Nat} {t : RT} {i : Nat} (h : (signS bs i).2.2 = 0) : signsL bs m t i = .ok (t, i) := by
 cases m <;> rw [signsL, if_pos h]
theorem signsL_bad {bs : List UInt8} {m : Nat} {t : RT} {i : Nat} (h : (signS bs i).2.2 ≠ 0) (hb : badS (signS bs i) = true) : signsL bs m t i = .error (i, 5) := by
 cases m <;> rw [signsL, if_neg h, if_pos hb]
theorem signsL_many {bs : List UInt8} {t : RT} {i : Nat} (h : (signS bs i).2.2 ≠ 0) (hb : badS (signS bs i) ≠ true) : signsL bs 0 t i = .error (i, 6) := by
 rw [signsL, if_neg h, if_neg hb]
theorem signsL_more {bs : List UInt8} {m : Nat} {t : RT} {i : Nat} (h : (signS bs i).2.2 ≠ 0) (hb : badS (signS bs i) ≠ true) : signsL bs (m + 1) t i = signsL bs m (tTimes (signS bs i).1 (signS bs i).2.1 t) (i + (signS bs i).2.2) := by
 rw [signsL, if_neg h, if_neg hb]
set_option maxRecDepth 100000 in
set_option maxHeartbeats 8000000 in
theorem piece_of (f : Nat) (hA : AtomOk f) : PieceOk (f + 1) := by
 intro w g A c bs i d h hi hf
 have hlen := h.len
 have hgl := h.blk.lt
 obtain ⟨R, hR⟩ : ∃ R, R = pieceF bs (f + 1) d i := ⟨_, rfl⟩
 rw [← hR]
 rw [pieceF] at hR
 have HRD := Lib.hid h; have HAK := Lib.hid hA; have HR := Lib.hid hR
 obtain ⟨rb, hrb⟩ : ∃ rb, rb = w.heap.size := ⟨_, rfl⟩
 have HRB := Lib.hid hrb
 clear h hA hR
 go_enter Tryz.func84, Tryz.ntmps84
 go_wp2_with fail
 go_at_call 90
 refine calls_gen1 fun W hW => ?_
 have hfr1 : Fr [] w W := by rw [hW]; exact (Fr.refl [] w).alloc _
 have hz1 : Bk W rb 104 zeroP := by rw [hW, hrb]; exact Bk.new w _ _
 rw [← hrb] at hgl ⊢
 have hrg : ¬ (rb = g) := by omega
 clear hW hrb
 have HRW := Lib.hid (HRD.out.fr_nil hfr1); have HZW := Lib.hid hz1; have HFW := Lib.hid hfr1
 clear hz1 hfr1
 refine (HAK.out W g A c bs i d HRW.out hi (by omega)).mono ?_
 intro e w2 hp
 rcases hX : atomF bs f d i with ⟨p, code⟩ | ⟨t, j⟩
 ·rw [hX] at hp
  have hr := HR.out
  rw [hX] at hr
  have HR2 : Hid (R = .error (p, code)) := Lib.hid hr
  obtain ⟨v, rfl, ⟨fg, rfl, hfb⟩, hf2⟩ := hp
  have HV := Lib.hid (show FaultV w2 _ (p : Int) (code : Int) from ⟨fg, rfl, hfb⟩)
  have HZ2 := Lib.hid (HZW.out.fr hf2 (by simpa using hrg)); have HF2 := Lib.hid (HFW.out.nil_.trans hf2)
  clear hfb hf2 hX hr HR
  obtain ⟨⟨k0, k1, k2, k3, k4, k5, k6, k7⟩, z0, z1, z2, z3, z4, z5, z6, z7, hrl⟩ := HZ2.out.eightc
  unfold zeroP
  go_wp2_with fail
  refine body_gen1 fun W' hW => ?_
  refine bodyPost_ret (v := .tuple #[.agg zeroP, .iface 110 (.pointer (some ⟨fg, 0, none⟩))]) (by simp [results, Tryz.results84, go_sem, hW, k0, k1, k2, k3, k4, k5, k6, k7, hrl, zeroP, PT.val]) rfl ?_
  have hset : Fr [rb] w2 W' := by rw [hW]; exact (fr8 w2 rb _ _ _ _ _ _ _ _).alloc _
  exact ReadPost.err HR2.out rfl (HV.out.far8 HZ2.out hset) (HF2.out.trans' hset (by simp; have := HRB.out; omega))
 ·rw [hX] at hp
  have hr := HR.out
  rw [hX] at hr
  obtain ⟨p, rfl, hn, hrd, hf2⟩ := hp
  have HRD2 := Lib.hid hrd
  have HZ2 := Lib.hid (HZW.out.fr hf2 (by simpa using hrg)); have HF2 := Lib.hid (HFW.out.nil_.trans hf2)
  have HN := Lib.hid (hn.lower HFW.out.size)
  have hbl : ∀ b ∈ blkP p, b ≠ w2.heap.size ∧ b ≠ rb := fun b hb => ⟨by have := (hn.new b hb).2; omega, by have h1 := (hn.new b hb).1; have h2 := HZW.out.lt; omega⟩
  have HBL := Lib.hid hbl
  have HRR : Hid (signsL bs 8 t j = R) := Lib.hid hr.symm
  clear hn hrd hf2 hX HR hr hbl
  unfold PT.val
  obtain ⟨pb, hpb⟩ : ∃ pb, pb = w2.heap.size := ⟨_, rfl⟩
  rw [← hpb] at HBL
  have HPB := Lib.hid hpb
  have hrpb : rb < pb := by rw [hpb]; exact HZ2.out.lt
  have hgpb : g < pb := by rw [hpb]; exact HRD2.out.blk.lt
  obtain ⟨pn, hpn⟩ : ∃ pn, pn = p.l.length := ⟨_, rfl⟩
  rw [← hpn]
  have HPN := Lib.hid hpn
  clear hpn
  go_wp2_with fail
  rw [← HPB.out]
  go_loopw [6] (fun v wr => PieceRel w g A c bs d R rb pb v wr) (fun v _ => 9 - (intOf v).toNat)
  case atStart =>
   have ha : Fr [] w2 (w2.alloc (.cells #[.int .i64 p.k, .int .u64 p.s0, .int .u64 p.s1, .int .u64 p.s2, .int .u64 p.s3, .int .i64 p.mn, .int .i64 p.mx, .slice p.A pn p.c] 104)) := (Fr.refl [] w2).alloc _
   exact ⟨0, j, t, p, rfl, by omega, HRR.out, HRD2.out.fr_nil ha, HN.out.fr_nil ha, HBL.out, HZ2.out.fr ha (by simp), by rw [HPB.out, ← HPN.out]; exact Bk.new w2 _ _, HF2.out.trans ha.nil_⟩
  case round =>
   clear HRR HRD2 HZ2 HF2 HN HBL HPB HPN hpb HRW HZW HFW
   obtain ⟨k, i2, t2, p2, rfl, hk, hsig, hrd, hnew, hbl, hz, hpc, hfr⟩ := hrel
   have hpr : ¬ (pb = rb) := by omega
   have hpg : ¬ (pb = g) := by omega
   have HSG := Lib.hid hsig; have HRD2 := Lib.hid hrd; have HN2 := Lib.hid hnew; have HBL2 := Lib.hid hbl; have HZ2 := Lib.hid hz; have HPC2 := Lib.hid hpc; have HF2 := Lib.hid hfr
   clear hsig hrd hnew hbl hz hpc hfr
   obtain ⟨a, b, n, hs⟩ : ∃ a b n, signS bs i2 = (a, b, n) := ⟨(signS bs i2).1, (signS bs i2).2.1, (signS bs i2).2.2, rfl⟩
   have HS := Lib.hid hs
   have hle := signS_le bs i2 HRD2.out.at_
   rw [hs] at hle
   have hlen2 := HRD2.out.len
   have hin : i2 + n ≤ 1000 := by simp only [] at hle; omega
   have HLE : Hid (i2 + n ≤ bs.length) := Lib.hid hle
   clear hs hle hlen2 hlen hi hf
   go_wp2_with fail
   go_at_call 91
   refine (sign_any HRD2.out).mono ?_
   rintro e w4 ⟨rfl, hq4⟩
   have hf4 := hq4.fr
   have HRD4 := Lib.hid (HRD2.out.fr_nil hf4); have HN4 := Lib.hid (HN2.out.fr_nil hf4); have HZ4 := Lib.hid (HZ2.out.fr hf4 (by simp)); have HF4 := Lib.hid (HF2.out.trans hf4.nil_); have HPC4 := Lib.hid (HPC2.out.fr hf4 (by simp))
   clear hq4 hf4
   rw [HS.out]
   unfold ivV
   simp only []
   obtain ⟨-, c1, -, f1, -⟩ := HRD4.out.cells
   have hgl4 := HRD4.out.blk.lt
   obtain ⟨⟨k0, k1, k2, k3, k4, k5, k6, k7⟩, z0, z1, z2, z3, z4, z5, z6, z7, hrl⟩ := HZ4.out.eightc
   obtain ⟨⟨l0, l1, l2, l3, l4, l5, l6, l7⟩, y0, y1, y2, y3, y4, y5, y6, y7, hpl⟩ := HPC4.out.eightc
   obtain ⟨pn, hpn⟩ : ∃ pn, pn = p2.l.length := ⟨_, rfl⟩
   rw [← hpn] at l7
   have HPN := Lib.hid hpn
   clear hpn
   by_cases hn0 : n = 0
   ·have hr : R = .ok (t2, i2) := by rw [← HSG.out]; exact signsL_stop (by rw [HS.out]; exact hn0)
    have HR2 := Lib.hid hr
    subst hn0
    clear hr
    go_wp2_with fail
    refine body_gen1 fun W' hW => ?_
    refine bodyPost_ret (v := .tuple #[p2.val, .nilIface]) (by simp [results, Tryz.results84, go_sem, hW, k0, k1, k2, k3, k4, k5, k6, k7, hrl, zeroP, PT.val, HPN.out]) rfl ?_
    have hset : Fr [rb] w4 W' := by rw [hW]; exact fr8 w4 rb _ _ _ _ _ _ _ _
    exact ReadPost.ok_ HR2.out rfl (HN4.out.fr hset (by simp; right; intro hm; exact (HBL2.out _ hm).2 rfl)) (HRD4.out.fr_far hset (by simpa using hgl)) (HF4.out.trans' hset (by simp; have := HRB.out; omega))
   have hnz : ((n : Int) == 0) = false := by simp; omega
   by_cases h1 : 255 < a
   ·have t1 : decide (255 < a) = true := by simpa using h1
    have hr : R = .error (i2, 5) := by rw [← HSG.out]; exact signsL_bad (by rw [HS.out]; exact hn0) (by rw [HS.out]; unfold badS; simp [h1])
    have HR2 := Lib.hid hr
    clear hr
    go_wp2_with fail
    go_at_call 64
    refine (efault_any _ _ w4).mono ?_
    rintro e w5 ⟨v, rfl, hv, hf5⟩
    have HV := Lib.hid hv; have HZ5 := Lib.hid (HZ4.out.fr hf5 (by simp)); have HF5 := Lib.hid (HF4.out.trans hf5.nil_)
    clear hv hf5 k0 k1 k2 k3 k4 k5 k6 k7 z0 z1 z2 z3 z4 z5 z6 z7 hrl
    obtain ⟨⟨k0, k1, k2, k3, k4, k5, k6, k7⟩, z0, z1, z2, z3, z4, z5, z6, z7, hrl⟩ := HZ5.out.eightc
    go_wp2_with fail
    refine body_gen1 fun W' hW => ?_
    refine bodyPost_ret (v := .tuple #[.agg zeroP, v]) (by simp [results, Tryz.results84, go_sem, hW, k0, k1, k2, k3, k4, k5, k6, k7, hrl, zeroP, PT.val]) rfl ?_
    have hset : Fr [rb] w5 W' := by rw [hW]; exact fr8 w5 rb _ _ _ _ _ _ _ _
    exact ReadPost.err HR2.out rfl (HV.out.far8 HZ5.out hset) (HF5.out.trans' hset (by simp; have := HRB.out; omega))
   have t1 : decide (255 < a) = false := by simp; omega
   by_cases h2 : 255 < b
   ·have t2' : decide (255 < b) = true := by simpa using h2
    have hr : R = .error (i2, 5) := by rw [← HSG.out]; exact signsL_bad (by rw [HS.out]; exact hn0) (by rw [HS.out]; unfold badS; simp [h2])
    have HR2 := Lib.hid hr
    clear hr
    go_wp2_with fail
    go_at_call 64
    refine (efault_any _ _ w4).mono ?_
    rintro e w5 ⟨v, rfl, hv, hf5⟩
    have HV := Lib.hid hv; have HZ5 := Lib.hid (HZ4.out.fr hf5 (by simp)); have HF5 := Lib.hid (HF4.out.trans hf5.nil_)
    clear hv hf5 k0 k1 k2 k3 k4 k5 k6 k7 z0 z1 z2 z3 z4 z5 z6 z7 hrl
    obtain ⟨⟨k0, k1, k2, k3, k4, k5, k6, k7⟩, z0, z1, z2, z3, z4, z5, z6, z7, hrl⟩ := HZ5.out.eightc
    go_wp2_with fail
    refine body_gen1 fun W' hW => ?_
    refine bodyPost_ret (v := .tuple #[.agg zeroP, v]) (by simp [results, Tryz.results84, go_sem, hW, k0, k1, k2, k3, k4, k5, k6, k7, hrl, zeroP, PT.val]) rfl ?_
    have hset : Fr [rb] w5 W' := by rw [hW]; exact fr8 w5 rb _ _ _ _ _ _ _ _
    exact ReadPost.err HR2.out rfl (HV.out.far8 HZ5.out hset) (HF5.out.trans' hset (by simp; have := HRB.out; omega))
   have t2' : decide (255 < b) = false := by simp; omega
   by_cases h3 : b = -1
   ·have hnb : badS (signS bs i2) ≠ true := by rw [HS.out]; unfold badS; simp; omega
    subst h3
    by_cases h8 : k = 8
    ·have hr : R = .error (i2, 6) := by rw [← HSG.out, h8]; exact signsL_many (by rw [HS.out]; exact hn0) hnb
     have HR2 := Lib.hid hr
     subst h8
     clear hr hnb
     go_wp2_with fail
     go_at_call 64
     refine (efault_any _ _ w4).mono ?_
     rintro e w5 ⟨v, rfl, hv, hf5⟩
     have HV := Lib.hid hv; have HZ5 := Lib.hid (HZ4.out.fr hf5 (by simp)); have HF5 := Lib.hid (HF4.out.trans hf5.nil_)
     clear hv hf5 k0 k1 k2 k3 k4 k5 k6 k7 z0 z1 z2 z3 z4 z5 z6 z7 hrl
     obtain ⟨⟨k0, k1, k2, k3, k4, k5, k6, k7⟩, z0, z1, z2, z3, z4, z5, z6, z7, hrl⟩ := HZ5.out.eightc
     go_wp2_with fail
     refine body_gen1 fun W' hW => ?_
     refine bodyPost_ret (v := .tuple #[.agg zeroP, v]) (by simp [results, Tryz.results84, go_sem, hW, k0, k1, k2, k3, k4, k5, k6, k7, hrl, zeroP, PT.val]) rfl ?_
     have hset : Fr [rb] w5 W' := by rw [hW]; exact fr8 w5 rb _ _ _ _ _ _ _ _
     exact ReadPost.err HR2.out rfl (HV.out.far8 HZ5.out hset) (HF5.out.trans' hset (by simp; have := HRB.out; omega))
    ·have hr : signsL bs (8 - (k + 1)) (tTimes a (-1) t2) (i2 + n) = R := by
      have h := HSG.out
      rw [show 8 - k = (8 - (k + 1)) + 1 by omega, signsL_more (by rw [HS.out]; exact hn0) hnb, HS.out] at h
      exact h
     have HR2 := Lib.hid hr
     have t8 : ((k : Int) == 8) = false := by simp; omega
     clear hr hnb
     go_wp2_with fail
     go_roundw
     case rel =>
      have e : ((i2 : Int) + (n : Int)) = ((i2 + n : Nat) : Int) := by omega
      rw [e]
      have hrdm := (HRD4.out.fr_far (fr8 w4 pb (.int .i64 4) (.int .u64 0) (.int .u64 0) (.int .u64 0) (.int .u64 0) (.int .i64 a) (.int .i64 (-1)) (.slice (some ⟨w4.heap.size, 0, none⟩) 1 1)) (by simpa using hgpb)).move (j := i2 + n) HLE.out
      have hpcm := (HPC4.out.put8 (.int .i64 4) (.int .u64 0) (.int .u64 0) (.int .u64 0) (.int .u64 0) (.int .i64 a) (.int .i64 (-1)) (.slice (some ⟨w4.heap.size, 0, none⟩) 1 1)).far (p := ⟨g, 1, none⟩) hpg (.int .i64 ((i2 + n : Nat) : Int))
      have hfm : Fr [pb, g] w4 _ := ((fr8 w4 pb (.int .i64 4) (.int .u64 0) (.int .u64 0) (.int .u64 0) (.int .u64 0) (.int .i64 a) (.int .i64 (-1)) (.slice (some ⟨w4.heap.size, 0, none⟩) 1 1)).mono (l' := [pb, g]) (by simp)).setCell (p := ⟨g, 1, none⟩) (.inl (by simp)) (.int .i64 ((i2 + n : Nat) : Int))
      have hsz : (World.setCell ((((((((w4.setCell ⟨pb, 0, none⟩ (.int .i64 4)).setCell ⟨pb, 1, none⟩ (.int .u64 0)).setCell ⟨pb, 2, none⟩ (.int .u64 0)).setCell ⟨pb, 3, none⟩ (.int .u64 0)).setCell ⟨pb, 4, none⟩ (.int .u64 0)).setCell ⟨pb, 5, none⟩ (.int .i64 a)).setCell ⟨pb, 6, none⟩ (.int .i64 (-1))).setCell ⟨pb, 7, none⟩ (.slice (some ⟨w4.heap.size, 0, none⟩) 1 1)) ⟨g, 1, none⟩ (.int .i64 ((i2 + n : Nat) : Int))).heap.size = w4.heap.size := by simp
      generalize hWm : World.setCell _ ⟨g, 1, none⟩ _ = Wm at hrdm hpcm hfm hsz ⊢
      have hal : Fr [] Wm (Wm.alloc (.cells #[.int .i64 p2.k, .int .u64 p2.s0, .int .u64 p2.s1, .int .u64 p2.s2, .int .u64 p2.s3, .int .i64 p2.mn, .int .i64 p2.mx, .slice p2.A pn p2.c] 104)) := (Fr.refl [] Wm).alloc _
      have hnm : NewP w.heap.size Wm t2 p2 := HN4.out.fr hfm (by
       intro b hb
       simp at hb
       rcases hb with rfl | rfl
       ·right; intro hm; exact (HBL2.out _ hm).1 rfl
       ·left; have := HRB.out; omega)
      have hpb4 : pb < w4.heap.size := HPC4.out.lt
      have hrb4 : rb < w4.heap.size := HZ4.out.lt
      have hnew := times_new hnm a (-1) (by have := Bk.new Wm 104 #[.int .i64 p2.k, .int .u64 p2.s0, .int .u64 p2.s1, .int .u64 p2.s2, .int .u64 p2.s3, .int .i64 p2.mn, .int .i64 p2.mx, .slice p2.A pn p2.c]; rw [HPN.out] at this; exact this) (by rw [← HPN.out]; exact hal) (by rw [hsz]; have := HRB.out; omega)
      rw [hsz, ← HPN.out] at hnew
      refine ⟨k + 1, i2 + n, tTimes a (-1) t2, timesT a (-1) w4.heap.size p2, by go_num, by omega, HR2.out, hrdm.fr_nil hal, hnew, ?_, (HZ4.out.fr hfm (by simp; omega)).fr hal (by simp), hpcm.fr hal (by simp), (HF4.out.trans' hfm (by simp; have := HRB.out; omega)).trans hal.nil_⟩
      intro b hb
      unfold timesT at hb
      rw [blkP] at hb
      simp [blkL] at hb
      rcases hb with rfl | hb
      ·omega
      ·exact HBL2.out b hb
     case measure => simp [intOf]; omega
   have t3 : (b != -1) = true := by simp; omega
   by_cases h4 : b < a
   ·have t4 : decide (b < a) = true := by simpa using h4
    have hr : R = .error (i2, 5) := by rw [← HSG.out]; exact signsL_bad (by rw [HS.out]; exact hn0) (by rw [HS.out]; unfold badS; simp; omega)
    have HR2 := Lib.hid hr
    clear hr
    go_wp2_with fail
    go_at_call 64
    refine (efault_any _ _ w4).mono ?_
    rintro e w5 ⟨v, rfl, hv, hf5⟩
    have HV := Lib.hid hv; have HZ5 := Lib.hid (HZ4.out.fr hf5 (by simp)); have HF5 := Lib.hid (HF4.out.trans hf5.nil_)
    clear hv hf5 k0 k1 k2 k3 k4 k5 k6 k7 z0 z1 z2 z3 z4 z5 z6 z7 hrl
    obtain ⟨⟨k0, k1, k2, k3, k4, k5, k6, k7⟩, z0, z1, z2, z3, z4, z5, z6, z7, hrl⟩ := HZ5.out.eightc
    go_wp2_with fail
    refine body_gen1 fun W' hW => ?_
    refine bodyPost_ret (v := .tuple #[.agg zeroP, v]) (by simp [results, Tryz.results84, go_sem, hW, k0, k1, k2, k3, k4, k5, k6, k7, hrl, zeroP, PT.val]) rfl ?_
    have hset : Fr [rb] w5 W' := by rw [hW]; exact fr8 w5 rb _ _ _ _ _ _ _ _
    exact ReadPost.err HR2.out rfl (HV.out.far8 HZ5.out hset) (HF5.out.trans' hset (by simp; have := HRB.out; omega))
   ·have t4 : decide (b < a) = false := by simp; omega
    have hnb : badS (signS bs i2) ≠ true := by rw [HS.out]; unfold badS; simp; omega
    by_cases h8 : k = 8
    ·have hr : R = .error (i2, 6) := by rw [← HSG.out, h8]; exact signsL_many (by rw [HS.out]; exact hn0) hnb
     have HR2 := Lib.hid hr
     subst h8
     clear hr hnb
     go_wp2_with fail
     go_at_call 64
     refine (efault_any _ _ w4).mono ?_
     rintro e w5 ⟨v, rfl, hv, hf5⟩
     have HV := Lib.hid hv; have HZ5 := Lib.hid (HZ4.out.fr hf5 (by simp)); have HF5 := Lib.hid (HF4.out.trans hf5.nil_)
     clear hv hf5 k0 k1 k2 k3 k4 k5 k6 k7 z0 z1 z2 z3 z4 z5 z6 z7 hrl
     obtain ⟨⟨k0, k1, k2, k3, k4, k5, k6, k7⟩, z0, z1, z2, z3, z4, z5, z6, z7, hrl⟩ := HZ5.out.eightc
     go_wp2_with fail
     refine body_gen1 fun W' hW => ?_
     refine bodyPost_ret (v := .tuple #[.agg zeroP, v]) (by simp [results, Tryz.results84, go_sem, hW, k0, k1, k2, k3, k4, k5, k6, k7, hrl, zeroP, PT.val]) rfl ?_
     have hset : Fr [rb] w5 W' := by rw [hW]; exact fr8 w5 rb _ _ _ _ _ _ _ _
     exact ReadPost.err HR2.out rfl (HV.out.far8 HZ5.out hset) (HF5.out.trans' hset (by simp; have := HRB.out; omega))
    ·have hr : signsL bs (8 - (k + 1)) (tTimes a b t2) (i2 + n) = R := by
      have h := HSG.out
      rw [show 8 - k = (8 - (k + 1)) + 1 by omega, signsL_more (by rw [HS.out]; exact hn0) hnb, HS.out] at h
      exact h
     have HR2 := Lib.hid hr
     have t8 : ((k : Int) == 8) = false := by simp; omega
     clear hr hnb
     go_wp2_with fail
     go_roundw
     case rel =>
      have e : ((i2 : Int) + (n : Int)) = ((i2 + n : Nat) : Int) := by omega
      rw [e]
      have hrdm := (HRD4.out.fr_far (fr8 w4 pb (.int .i64 4) (.int .u64 0) (.int .u64 0) (.int .u64 0) (.int .u64 0) (.int .i64 a) (.int .i64 b) (.slice (some ⟨w4.heap.size, 0, none⟩) 1 1)) (by simpa using hgpb)).move (j := i2 + n) HLE.out
      have hpcm := (HPC4.out.put8 (.int .i64 4) (.int .u64 0) (.int .u64 0) (.int .u64 0) (.int .u64 0) (.int .i64 a) (.int .i64 b) (.slice (some ⟨w4.heap.size, 0, none⟩) 1 1)).far (p := ⟨g, 1, none⟩) hpg (.int .i64 ((i2 + n : Nat) : Int))
      have hfm : Fr [pb, g] w4 _ := ((fr8 w4 pb (.int .i64 4) (.int .u64 0) (.int .u64 0) (.int .u64 0) (.int .u64 0) (.int .i64 a) (.int .i64 b) (.slice (some ⟨w4.heap.size, 0, none⟩) 1 1)).mono (l' := [pb, g]) (by simp)).setCell (p := ⟨g, 1, none⟩) (.inl (by simp)) (.int .i64 ((i2 + n : Nat) : Int))
      have hsz : (World.setCell ((((((((w4.setCell ⟨pb, 0, none⟩ (.int .i64 4)).setCell ⟨pb, 1, none⟩ (.int .u64 0)).setCell ⟨pb, 2, none⟩ (.int .u64 0)).setCell ⟨pb, 3, none⟩ (.int .u64 0)).setCell ⟨pb, 4, none⟩ (.int .u64 0)).setCell ⟨pb, 5, none⟩ (.int .i64 a)).setCell ⟨pb, 6, none⟩ (.int .i64 b)).setCell ⟨pb, 7, none⟩ (.slice (some ⟨w4.heap.size, 0, none⟩) 1 1)) ⟨g, 1, none⟩ (.int .i64 ((i2 + n : Nat) : Int))).heap.size = w4.heap.size := by simp
      generalize hWm : World.setCell _ ⟨g, 1, none⟩ _ = Wm at hrdm hpcm hfm hsz ⊢
      have hal : Fr [] Wm (Wm.alloc (.cells #[.int .i64 p2.k, .int .u64 p2.s0, .int .u64 p2.s1, .int .u64 p2.s2, .int .u64 p2.s3, .int .i64 p2.mn, .int .i64 p2.mx, .slice p2.A pn p2.c] 104)) := (Fr.refl [] Wm).alloc _
      have hnm : NewP w.heap.size Wm t2 p2 := HN4.out.fr hfm (by
       intro b hb
       simp at hb
       rcases hb with rfl | rfl
       ·right; intro hm; exact (HBL2.out _ hm).1 rfl
       ·left; have := HRB.out; omega)
      have hpb4 : pb < w4.heap.size := HPC4.out.lt
      have hrb4 : rb < w4.heap.size := HZ4.out.lt
      have hnew := times_new hnm a b (by have := Bk.new Wm 104 #[.int .i64 p2.k, .int .u64 p2.s0, .int .u64 p2.s1, .int .u64 p2.s2, .int .u64 p2.s3, .int .i64 p2.mn, .int .i64 p2.mx, .slice p2.A pn p2.c]; rw [HPN.out] at this; exact this) (by rw [← HPN.out]; exact hal) (by rw [hsz]; have := HRB.out; omega)
      rw [hsz, ← HPN.out] at hnew
      refine ⟨k + 1, i2 + n, tTimes a b t2, timesT a b w4.heap.size p2, by go_num, by omega, HR2.out, hrdm.fr_nil hal, hnew, ?_, (HZ4.out.fr hfm (by simp; omega)).fr hal (by simp), hpcm.fr hal (by simp), (HF4.out.trans' hfm (by simp; have := HRB.out; omega)).trans hal.nil_⟩
      intro b hb
      unfold timesT at hb
      rw [blkP] at hb
      simp [blkL] at hb
      rcases hb with rfl | hb
      ·omega
      ·exact HBL2.out b hb
     case measure => simp [intOf]; omega
end Go.Proofs.YtfbmogccmlikaaaGreatDoor
namespace Go.Proofs.YtfbmogccmlikaaaGreatDoor
open Go.RowKit
set_option linter.unusedVariables false
set_option linter.unusedSimpArgs false
def BranchOk (f : Nat) : Prop := ∀ (w : World) (g : Nat) (A : Option Addr) (c : Nat) (bs : List UInt8) (i d : Nat), Rdr w g A c bs i d → 6 * (bs.length - i) + 4 ≤ f →
 Calls Tryz.prog 76 #[.pointer (some ⟨g, 0, none⟩)] w (ReadPost w g A c bs d (branchF bs f d i []))
theorem partParts : ∃ i, Tryz.prog.info? 104 = some i ∧ i.zero = some (.agg zeroP) ∧ i.size = 8 ∧ i.bytes = 80 := info_parts (by kernel_rfl)
def rdM (bs : List UInt8) (g : Nat) (wr : World) : Nat := match wr.cell? ⟨g, 1, none⟩ with
 | some (.int _ i) => bs.length + 1 - i.toNat
 | _ => 0
theorem rdM_at {w : World} {g : Nat} {A : Option Addr} {c : Nat} {bs : List UInt8} {i d : Nat} (h : Rdr w g A c bs i d) : rdM bs g w = bs.length + 1 - i := by
 unfold rdM; rw [h.cells.2.1]; simp
theorem eight_new (w : World) (t : TypeId) (a b c d e f g h : Value) : ∀ j u, [a, b, c, d, e, f, g, h][j]? = some u → (w.alloc (.cells #[a, b, c, d, e, f, g, h] t)).cell? ((⟨w.heap.size, 0, none⟩ : Addr).add j) = some u := by
 intro j u hu
 have hb := Bk.new w t #[a, b, c, d, e, f, g, h]
 rw [addr_add, Nat.zero_add, hb.cell]
 simpa using hu
theorem RepL.one_ {t : RT} {p : PT} (h : RepL [t] [p]) : RepP t p := by rw [RepL_cons] at h; exact h.1
theorem NewL.single {lo : Nat} {w : World} {v : Value} {t : RT} {p : PT} (h : NewL lo w v [t] [p]) : NewP lo w t p :=
 ⟨h.rep.one_, h.mem p (by simp), fun b hb => h.new b (by simp [blkL]; exact hb)⟩
theorem NewL.none_ {lo : Nat} {w : World} {v : Value} {ts : List RT} (h : NewL lo w v ts []) : ts = [] := List.eq_nil_of_length_eq_zero (by simpa using h.rep.len)
def BranchRel (w : World) (g : Nat) (A : Option Addr) (c : Nat) (bs : List UInt8) (d : Nat) (R : Res) (rb f : Nat) (v : Value) (wr : World) : Prop :=
 ∃ (k i : Nat) (ts : List RT) (ps : List PT), k ≤ f ∧ 6 * (bs.length - i) + 4 ≤ k ∧ branchF bs k d i ts = R ∧ Rdr wr g A c bs i d ∧ NewL (rb + 1) wr v ts ps ∧ ps.length ≤ i ∧ Bk wr rb 104 zeroP ∧ Fr [g] w wr
theorem goesOn_no {bs : List UInt8} {f d i : Nat} {acc : List RT} {R : Res} (h : ¬ goesOn bs i) (hf : 0 < f) (hR : branchF bs f d i acc = R) : R = .ok (rowT acc, i) := by
 obtain ⟨f', rfl⟩ : ∃ f', f = f' + 1 := ⟨f - 1, by omega⟩
 rw [branchF, if_neg h] at hR
 exact hR.symm
def EndsB (w : World) (g : Nat) (A : Option Addr) (c : Nat) (bs : List UInt8) (d : Nat) (R : Res) (rb : Nat) (i : Nat) (ts : List RT) (ps : List PT) (v : Value) (wr : World) : Prop :=
 R = .ok (rowT ts, i) ∧ Rdr wr g A c bs i d ∧ NewL (rb + 1) wr v ts ps ∧ ps.length ≤ i ∧ Bk wr rb 104 zeroP ∧ Fr [g] w wr
set_option maxRecDepth 100000 in
set_option maxHeartbeats 16000000 in
theorem branch_of (f : Nat) (hP : ∀ k, k < f → PieceOk k) : BranchOk f := by
 intro w g A c bs i d h hf
 have hlen := h.len
 have hgl := h.blk.lt
 obtain ⟨R, hR⟩ : ∃ R, R = branchF bs f d i [] := ⟨_, rfl⟩
 rw [← hR]
 have HRD := Lib.hid h; have HPK := Lib.hid hP; have HR := Lib.hid hR
 obtain ⟨rb, hrb⟩ : ∃ rb, rb = w.heap.size := ⟨_, rfl⟩
 have HRB := Lib.hid hrb
 obtain ⟨i0, hi0, hzz, hz1, hz2⟩ := partParts
 clear h hP hR
 go_enter Tryz.func76, Tryz.ntmps76
 go_wp2_with fail
 rw [← hrb] at hgl ⊢
 clear hrb
 go_loopw [4] (fun v wr => BranchRel w g A c bs d R rb f v wr) (fun _ wr => rdM bs g wr)
 case atStart =>
  have ha : Fr [] w (w.alloc (.cells zeroP 104)) := (Fr.refl [] w).alloc _
  exact ⟨f, i, [], [], Nat.le_refl _, hf, HR.out.symm, HRD.out.fr_nil ha, NewL.nil _ _, by simp, by rw [HRB.out]; exact Bk.new w _ _, ha.nil_⟩
 case round =>
  clear HR HRD hf
  obtain ⟨k, i2, ts, ps, hk, hfk, hbr, hrd, hnl, hpi, hz, hfr⟩ := hrel
  have hrg : ¬ (rb = g) := by omega
  have HBR := Lib.hid hbr; have HRD := Lib.hid hrd; have HNL := Lib.hid hnl; have HZ := Lib.hid hz; have HF := Lib.hid hfr
  obtain ⟨pn, hpn⟩ : ∃ pn, pn = ps.length := ⟨_, rfl⟩
  have hform := hnl.form
  have hat_ := hrd.at_
  rw [← hpn] at hform hpi
  obtain ⟨lA, lc, rfl⟩ := hform
  have HPN := Lib.hid hpn
  obtain ⟨L, hL⟩ : ∃ L, L = bs.length := ⟨_, rfl⟩
  rw [← hL] at hfk hat_ hlen
  have HL := Lib.hid hL
  obtain ⟨c0, c1, -, f1, -⟩ := hrd.cells
  rw [← hL] at c0
  have hgl4 := hrd.blk.lt
  have hs : ∀ (x : Nat) (V : Bool), 0 < x → stB bs i2 x = V → ∀ n, Calls Tryz.prog 77 #[.pointer (some ⟨g, 0, none⟩), .int .u8 (x : Int)] (wr.drewN n) fun e w' => e = .returned (.bool V) ∧ ∃ m, w' = (wr.drewN n).drewN m := fun x V hx hV n => by
   have := stands_any (hrd.drewN n) x hx
   rw [hV] at this; exact this
  obtain ⟨V, hV⟩ : ∃ V : Int → Bool, V = fun x => stB bs i2 x.toNat := ⟨_, rfl⟩
  have hsv : ∀ (x : Int) (n : Nat), 0 < x → Calls Tryz.prog 77 #[.pointer (some ⟨g, 0, none⟩), .int .u8 x] (wr.drewN n) fun e w' => e = .returned (.bool (V x)) ∧ ∃ m, w' = (wr.drewN n).drewN m := fun x n hx => by
   obtain ⟨y, rfl⟩ : ∃ y : Nat, x = (y : Int) := ⟨x.toNat, by omega⟩
   exact hs y _ (by omega) (by rw [hV]; simp) n
  have HSV := Lib.hid hsv; have HVD := Lib.hid hV
  clear hbr hrd hnl hz hfr hpn hs hL hV hsv
  have hRest : ∀ (W : World), Qt wr W → ¬ goesOn bs i2 → EndsB w g A c bs d R rb i2 ts ps (.slice lA pn lc) W := fun W hq hgo =>
   ⟨goesOn_no hgo (by omega) HBR.out, HRD.out.fr_nil hq.fr, HNL.out.fr_nil hq.fr, by rw [← HPN.out]; exact hpi, HZ.out.fr hq.fr (by simp), HF.out.trans hq.fr.nil_⟩
  have HREST := Lib.hid hRest
  clear hRest
  by_cases hgo : goesOn bs i2
  ·have HGO := Lib.hid hgo
   have h1 : i2 < L := by have := HL.out; have := hgo.1; omega
   have hd1 : decide (i2 < L) = true := by simpa using h1
   have hd2 : (i2 : Int) < (L : Int) := by omega
   have hv1 : V 124 = false := by rw [HVD.out]; exact stB_no hgo.2.1
   have hv2 : V 41 = false := by rw [HVD.out]; exact stB_no hgo.2.2
   clear hgo
   go_wp2_with fail
   go_quiet ((go_at_call 77; exact Calls.quiet_of (HSV.out _ _ (by decide))))
   go_wp2_with fail
   go_at_call 84
   refine calls_gen1 fun W hW => ?_
   have hfq : Fr [] wr W := by rw [hW]; exact (Fr.refl [] wr).drewN _
   have HRW := Lib.hid (HRD.out.fr_nil hfq); have HNW := Lib.hid (HNL.out.fr_nil hfq); have HZW := Lib.hid (HZ.out.fr hfq (by simp)); have HFW := Lib.hid (HF.out.trans hfq.nil_)
   clear hW hfq c0 c1 f1 hgl4
   obtain ⟨k', hk'⟩ : ∃ k', k = k' + 1 := ⟨k - 1, by omega⟩
   have HKK := Lib.hid hk'
   refine (HPK.out k' (by omega) W g A c bs i2 d HRW.out (by rw [← HL.out]; exact h1) (by rw [← HL.out]; omega)).mono ?_
   intro e w2 hp
   have hbr := HBR.out
   rw [hk', branchF, if_pos HGO.out] at hbr
   have hle := (readF_le bs k').2.2.1 d i2
   rcases hX : pieceF bs k' d i2 with ⟨p, code⟩ | ⟨t, j⟩
   ·rw [hX] at hp hbr
    have HR2 : Hid (R = .error (p, code)) := Lib.hid hbr.symm
    obtain ⟨v, rfl, ⟨fg, rfl, hfb⟩, hf2⟩ := hp
    have HV := Lib.hid (show FaultV w2 _ (p : Int) (code : Int) from ⟨fg, rfl, hfb⟩)
    have HZ2 := Lib.hid (HZW.out.fr hf2 (by simpa using hrg)); have HF2 := Lib.hid (HFW.out.trans hf2)
    clear hfb hf2 hX hbr HBR hle hk'
    obtain ⟨⟨k0, k1, k2, k3, k4, k5, k6, k7⟩, z0, z1, z2, z3, z4, z5, z6, z7, hrl⟩ := HZ2.out.eightc
    unfold zeroP
    go_wp2_with fail
    refine body_gen1 fun W' hW => ?_
    refine bodyPost_ret (v := .tuple #[.agg zeroP, .iface 110 (.pointer (some ⟨fg, 0, none⟩))]) (by simp [results, Tryz.results76, go_sem, hW, k0, k1, k2, k3, k4, k5, k6, k7, hrl, zeroP, PT.val]) rfl ?_
    have hset : Fr [rb] w2 W' := by rw [hW]; exact (fr8 w2 rb _ _ _ _ _ _ _ _).alloc _
    exact ReadPost.err HR2.out rfl (HV.out.far8 HZ2.out hset) (HF2.out.trans' hset (by simp; have := HRB.out; omega))
   ·have hjj := hle t j (by rw [← HL.out]; exact h1) hX
    rw [hX] at hp hbr
    obtain ⟨p, rfl, hn, hrd, hf2⟩ := hp
    have HRD2 := Lib.hid hrd
    have HZ2 := Lib.hid (HZW.out.fr hf2 (by simpa using hrg)); have HF2 := Lib.hid (HFW.out.trans hf2)
    have HN2 := Lib.hid hn
    have hgr1 : g < rb + 1 := by omega
    have HNL2 := Lib.hid (HNW.out.fr hf2 (by simpa using hgr1))
    have hblk : ∀ b ∈ blkP p, (Value.slice lA pn lc).ownBlock ≠ some b := fun b hb e => by
     have h1 := (HNW.out.blk b e).2
     have h2 := (hn.new b hb).1
     omega
    have HBK := Lib.hid hblk
    have HBR2 : Hid (branchF bs k' d j (ts ++ [t]) = R) := Lib.hid hbr
    have HJ := Lib.hid hjj
    have hlo : rb + 1 ≤ W.heap.size := HZW.out.lt
    have hlo2 : W.heap.size ≤ w2.heap.size := hf2.size
    have hown : ∀ O1 O2, ((w2.alloc O1).alloc O2).ownsRow (rb + 1) 104 8 (.slice lA pn lc) pn (ps.flatMap PT.cells) := fun O1 O2 => by
     have := own_frv HNL2.out.own (((Fr.refl [] w2).alloc O1).alloc O2) (by simp)
     rw [← HPN.out] at this; exact this
    have HOWN := Lib.hid hown
    clear hn hrd hf2 hX hbr HBR hle hk' hblk hjj hown
    unfold PT.val
    obtain ⟨qn, hqn⟩ : ∃ qn, qn = p.l.length := ⟨_, rfl⟩
    rw [← hqn]
    have HQN := Lib.hid hqn
    clear hqn
    go_wp2_with (at_builtin; refine wpList_append_R rfl (.tmp 36) (.tmp 38) 102 rfl (rb + 1) 104 i0 _ 8 80 Tryz.underlying102 hi0 hzz hz1 hz2 rfl (by omega) (.slice lA pn lc) pn (ps.flatMap PT.cells) (by first | rfl | (simp [Act.eval]; done)) (HOWN.out _ _) ⟨w2.heap.size + 1, 0, none⟩ 1 1 [.int .i64 p.k, .int .u64 p.s0, .int .u64 p.s1, .int .u64 p.s2, .int .u64 p.s3, .int .i64 p.mn, .int .i64 p.mx, .slice p.A qn p.c] (by first | rfl | (simp [Act.eval]; done)) rfl (by have := eight_new (w2.alloc (.cells #[.int .i64 p.k, .int .u64 p.s0, .int .u64 p.s1, .int .u64 p.s2, .int .u64 p.s3, .int .i64 p.mn, .int .i64 p.mx, .slice p.A qn p.c] 104)) 104 (.int .i64 p.k) (.int .u64 p.s0) (.int .u64 p.s1) (.int .u64 p.s2) (.int .u64 p.s3) (.int .i64 p.mn) (.int .i64 p.mx) (.slice p.A qn p.c); simpa using this) (by simp [Value.oneCell']) (by unfold maxLen; omega) (by omega) (by simp; omega) ?_; intro v' w6 hown6 hgr6 hat6; have HOWN6 := Lib.hid hown6; have HGR6 := Lib.hid hgr6; have HAT6 := Lib.hid hat6; clear hown6 hgr6 hat6)
    have hfin : BranchRel w g A c bs d R rb f v' w6 ∧ rdM bs g w6 < rdM bs g wr := by
     have hb := HNL2.out.blk
     have hown6 := HOWN6.out
     rw [HPN.out, HQN.out] at hown6
     obtain ⟨h1, h2⟩ := NewL.snoc HNL2.out (HN2.out.lower hlo) HBK.out (((Fr.refl [] w2).alloc _).alloc _) hown6 HGR6.out HAT6.out
     have hge : ∀ b ∈ (Value.slice lA pn lc).ownBlock.toList, rb + 1 ≤ b := fun b hb' => (hb b (by simpa using hb')).1
     have hrd6 := HRD2.out.fr_far h2 (fun b hb' => by have := hge b hb'; omega)
     have hjj := HJ.out
     refine ⟨⟨k', j, ts ++ [t], ps ++ [p], by have := HKK.out; omega, by have := HKK.out; have := HL.out; omega, HBR2.out, hrd6, h1, by simp; have := HPN.out; omega, HZ2.out.fr h2 (fun hm => by have := hge rb hm; omega), HF2.out.trans' h2 (fun b hb' => by have := hge b hb'; have := HRB.out; right; omega)⟩, ?_⟩
     rw [rdM_at hrd6, rdM_at HRD.out]
     have := HL.out
     omega
    have HFIN := Lib.hid hfin
    clear hfin
    go_roundw
    case rel => exact HFIN.out.1
    case measure => exact HFIN.out.2
  ·have hcases : L ≤ i2 ∨ (i2 < L ∧ bn bs i2 = 124) ∨ (i2 < L ∧ bn bs i2 = 41) := by
    unfold goesOn at hgo
    rw [← HL.out] at hgo
    by_cases h1 : i2 < L
    ·by_cases h2 : bn bs i2 = 124
     ·exact .inr (.inl ⟨h1, h2⟩)
     ·by_cases h3 : bn bs i2 = 41
      ·exact .inr (.inr ⟨h1, h3⟩)
      ·exact absurd ⟨h1, h2, h3⟩ hgo
    ·left; omega
   have hcs2 : L ≤ i2 ∨ (i2 < L ∧ V 124 = true) ∨ (i2 < L ∧ V 124 = false ∧ V 41 = true) := by
    rcases hcases with h | ⟨h, h2⟩ | ⟨h, h2⟩
    ·exact .inl h
    ·exact .inr (.inl ⟨h, by rw [HVD.out]; exact stB_yes h2⟩)
    ·exact .inr (.inr ⟨h, by rw [HVD.out]; exact stB_no (by show bn bs i2 ≠ 124; omega), by rw [HVD.out]; exact stB_yes h2⟩)
   have HCS := Lib.hid hcs2
   have HGO := Lib.hid hgo
   clear hgo hcases hcs2
   obtain ⟨⟨k0, k1, k2, k3, k4, k5, k6, k7⟩, z0, z1, z2, z3, z4, z5, z6, z7, hrl⟩ := HZ.out.eightc
   rcases ps with _ | ⟨p, _ | ⟨q, r⟩⟩
   ·obtain rfl : pn = 0 := HPN.out
    rcases HCS.out with h1 | ⟨h1, h2⟩ | ⟨h1, h2, h3⟩
    ·have hd1 : decide (i2 < L) = false := by simp; omega
     have hd2 : decide ((i2 : Int) < (L : Int)) = false := by simp; omega
     go_wp2_with fail
     go_quiet ((go_at_call 77; exact Calls.quiet_of (HSV.out _ _ (by decide))))
     go_wp2_with fail
     refine body_gen1 fun W' hW => ?_
     refine bodyPost_ret (v := .tuple #[.agg zeroP, .nilIface]) (by simp [results, Tryz.results76, go_sem, hW, k0, k1, k2, k3, k4, k5, k6, k7, hrl, zeroP]) rfl ?_
     have hset : Fr [rb] (wr.drewN nq) W' := by rw [hW]; exact fr8 _ rb _ _ _ _ _ _ _ _
     obtain ⟨hr, hrd, hnl, -, hz, hf⟩ := HREST.out (wr.drewN nq) ⟨nq, rfl⟩ HGO.out
     have hfe : Fr [g] w W' := hf.trans' hset (by simp; have := HRB.out; omega)
     have hre : Rdr W' g A c bs i2 d := hrd.fr_far hset (by simpa using hgl)
     have e := hnl.none_
     subst e
     rw [← zero_val]
     exact ReadPost.ok_ hr rfl (leaf_new _ _ _ _) hre hfe
    ·have hd1 : decide (i2 < L) = true := by simpa using h1
     have hd2 : (i2 : Int) < (L : Int) := by omega
     go_wp2_with fail
     go_quiet ((go_at_call 77; exact Calls.quiet_of (HSV.out _ _ (by decide))))
     go_wp2_with fail
     refine body_gen1 fun W' hW => ?_
     refine bodyPost_ret (v := .tuple #[.agg zeroP, .nilIface]) (by simp [results, Tryz.results76, go_sem, hW, k0, k1, k2, k3, k4, k5, k6, k7, hrl, zeroP]) rfl ?_
     have hset : Fr [rb] (wr.drewN nq) W' := by rw [hW]; exact fr8 _ rb _ _ _ _ _ _ _ _
     obtain ⟨hr, hrd, hnl, -, hz, hf⟩ := HREST.out (wr.drewN nq) ⟨nq, rfl⟩ HGO.out
     have hfe : Fr [g] w W' := hf.trans' hset (by simp; have := HRB.out; omega)
     have hre : Rdr W' g A c bs i2 d := hrd.fr_far hset (by simpa using hgl)
     have e := hnl.none_
     subst e
     rw [← zero_val]
     exact ReadPost.ok_ hr rfl (leaf_new _ _ _ _) hre hfe
    ·have hd1 : decide (i2 < L) = true := by simpa using h1
     have hd2 : (i2 : Int) < (L : Int) := by omega
     go_wp2_with fail
     go_quiet ((go_at_call 77; exact Calls.quiet_of (HSV.out _ _ (by decide))))
     go_wp2_with fail
     refine body_gen1 fun W' hW => ?_
     refine bodyPost_ret (v := .tuple #[.agg zeroP, .nilIface]) (by simp [results, Tryz.results76, go_sem, hW, k0, k1, k2, k3, k4, k5, k6, k7, hrl, zeroP]) rfl ?_
     have hset : Fr [rb] (wr.drewN nq) W' := by rw [hW]; exact fr8 _ rb _ _ _ _ _ _ _ _
     obtain ⟨hr, hrd, hnl, -, hz, hf⟩ := HREST.out (wr.drewN nq) ⟨nq, rfl⟩ HGO.out
     have hfe : Fr [g] w W' := hf.trans' hset (by simp; have := HRB.out; omega)
     have hre : Rdr W' g A c bs i2 d := hrd.fr_far hset (by simpa using hgl)
     have e := hnl.none_
     subst e
     rw [← zero_val]
     exact ReadPost.ok_ hr rfl (leaf_new _ _ _ _) hre hfe
   ·obtain rfl : pn = 1 := HPN.out
    have ho := HNL.out.own
    have hxs : [p].flatMap PT.cells = p.cells := by simp
    rw [hxs] at ho
    obtain ⟨qn, hqn⟩ : ∃ qn, qn = p.l.length := ⟨_, rfl⟩
    obtain ⟨lb, rfl, hlb, -, hcl⟩ := own_cells ho (by unfold PT.cells; simp)
    have e0 := hcl 0 _ rfl
    have e1 := hcl 1 _ rfl
    have e2 := hcl 2 _ rfl
    have e3 := hcl 3 _ rfl
    have e4 := hcl 4 _ rfl
    have e5 := hcl 5 _ rfl
    have e6 := hcl 6 _ rfl
    have e7 := hcl 7 _ rfl
    rw [← hqn] at e7
    have HQN := Lib.hid hqn
    clear hqn hcl ho hxs
    rcases HCS.out with h1 | ⟨h1, h2⟩ | ⟨h1, h2, h3⟩
    ·have hd1 : decide (i2 < L) = false := by simp; omega
     have hd2 : decide ((i2 : Int) < (L : Int)) = false := by simp; omega
     go_wp2_with fail
     go_quiet ((go_at_call 77; exact Calls.quiet_of (HSV.out _ _ (by decide))))
     go_wp2_with fail
     refine body_gen1 fun W' hW => ?_
     refine bodyPost_ret (v := .tuple #[p.val, .nilIface]) (by simp [results, Tryz.results76, go_sem, hW, k0, k1, k2, k3, k4, k5, k6, k7, hrl, PT.val, HQN.out]) rfl ?_
     have hset : Fr [rb] (wr.drewN nq) W' := by rw [hW]; exact fr8 _ rb _ _ _ _ _ _ _ _
     obtain ⟨hr, hrd, hnl, -, hz, hf⟩ := HREST.out (wr.drewN nq) ⟨nq, rfl⟩ HGO.out
     have hfe : Fr [g] w W' := hf.trans' hset (by simp; have := HRB.out; omega)
     have hre : Rdr W' g A c bs i2 d := hrd.fr_far hset (by simpa using hgl)
     obtain ⟨t, rfl⟩ : ∃ t, ts = [t] := List.length_eq_one_iff.1 (by simpa using hnl.rep.len)
     have hs1 := hnl.single
     exact ReadPost.ok_ hr rfl ((hs1.fr hset (by simp)).lower (by have := HRB.out; omega)) hre hfe
    ·have hd1 : decide (i2 < L) = true := by simpa using h1
     have hd2 : (i2 : Int) < (L : Int) := by omega
     go_wp2_with fail
     go_quiet ((go_at_call 77; exact Calls.quiet_of (HSV.out _ _ (by decide))))
     go_wp2_with fail
     refine body_gen1 fun W' hW => ?_
     refine bodyPost_ret (v := .tuple #[p.val, .nilIface]) (by simp [results, Tryz.results76, go_sem, hW, k0, k1, k2, k3, k4, k5, k6, k7, hrl, PT.val, HQN.out]) rfl ?_
     have hset : Fr [rb] (wr.drewN nq) W' := by rw [hW]; exact fr8 _ rb _ _ _ _ _ _ _ _
     obtain ⟨hr, hrd, hnl, -, hz, hf⟩ := HREST.out (wr.drewN nq) ⟨nq, rfl⟩ HGO.out
     have hfe : Fr [g] w W' := hf.trans' hset (by simp; have := HRB.out; omega)
     have hre : Rdr W' g A c bs i2 d := hrd.fr_far hset (by simpa using hgl)
     obtain ⟨t, rfl⟩ : ∃ t, ts = [t] := List.length_eq_one_iff.1 (by simpa using hnl.rep.len)
     have hs1 := hnl.single
     exact ReadPost.ok_ hr rfl ((hs1.fr hset (by simp)).lower (by have := HRB.out; omega)) hre hfe
    ·have hd1 : decide (i2 < L) = true := by simpa using h1
     have hd2 : (i2 : Int) < (L : Int) := by omega
     go_wp2_with fail
     go_quiet ((go_at_call 77; exact Calls.quiet_of (HSV.out _ _ (by decide))))
     go_wp2_with fail
     refine body_gen1 fun W' hW => ?_
     refine bodyPost_ret (v := .tuple #[p.val, .nilIface]) (by simp [results, Tryz.results76, go_sem, hW, k0, k1, k2, k3, k4, k5, k6, k7, hrl, PT.val, HQN.out]) rfl ?_
     have hset : Fr [rb] (wr.drewN nq) W' := by rw [hW]; exact fr8 _ rb _ _ _ _ _ _ _ _
     obtain ⟨hr, hrd, hnl, -, hz, hf⟩ := HREST.out (wr.drewN nq) ⟨nq, rfl⟩ HGO.out
     have hfe : Fr [g] w W' := hf.trans' hset (by simp; have := HRB.out; omega)
     have hre : Rdr W' g A c bs i2 d := hrd.fr_far hset (by simpa using hgl)
     obtain ⟨t, rfl⟩ : ∃ t, ts = [t] := List.length_eq_one_iff.1 (by simpa using hnl.rep.len)
     have hs1 := hnl.single
     exact ReadPost.ok_ hr rfl ((hs1.fr hset (by simp)).lower (by have := HRB.out; omega)) hre hfe
   ·have hp0 : ((pn : Int) == 0) = false := by have := HPN.out; simp at this ⊢; omega
    have hp1 : ((pn : Int) == 1) = false := by have := HPN.out; simp at this ⊢; omega
    rcases HCS.out with h1 | ⟨h1, h2⟩ | ⟨h1, h2, h3⟩
    ·have hd1 : decide (i2 < L) = false := by simp; omega
     have hd2 : decide ((i2 : Int) < (L : Int)) = false := by simp; omega
     go_wp2_with fail
     go_quiet ((go_at_call 77; exact Calls.quiet_of (HSV.out _ _ (by decide))))
     go_wp2_with fail
     refine body_gen1 fun W' hW => ?_
     refine bodyPost_ret (v := .tuple #[(PT.mk 2 0 0 0 0 0 0 lA lc (p :: q :: r)).val, .nilIface]) (by simp [results, Tryz.results76, go_sem, hW, k0, k1, k2, k3, k4, k5, k6, k7, hrl, PT.val, PT.k, PT.s0, PT.s1, PT.s2, PT.s3, PT.mn, PT.mx, PT.A, PT.c, PT.l, HPN.out]) rfl ?_
     have hset : Fr [rb] (wr.drewN nq) W' := by rw [hW]; exact fr8 _ rb _ _ _ _ _ _ _ _
     obtain ⟨hr, hrd, hnl, -, hz, hf⟩ := HREST.out (wr.drewN nq) ⟨nq, rfl⟩ HGO.out
     have hfe : Fr [g] w W' := hf.trans' hset (by simp; have := HRB.out; omega)
     have hre : Rdr W' g A c bs i2 d := hrd.fr_far hset (by simpa using hgl)
     obtain ⟨hp1, hp2⟩ := hnl.part 2 0 0
     have hrow : rowT ts = .mk 2 S4.empty 0 0 ts := by
      have := hnl.rep.len
      match ts, this with
      | a :: b :: r', _ => rfl
     rw [hrow] at hr
     exact ReadPost.ok_ hr rfl ((hp1.fr hset (by simp)).lower (by have := HRB.out; omega)) hre hfe
    ·have hd1 : decide (i2 < L) = true := by simpa using h1
     have hd2 : (i2 : Int) < (L : Int) := by omega
     go_wp2_with fail
     go_quiet ((go_at_call 77; exact Calls.quiet_of (HSV.out _ _ (by decide))))
     go_wp2_with fail
     refine body_gen1 fun W' hW => ?_
     refine bodyPost_ret (v := .tuple #[(PT.mk 2 0 0 0 0 0 0 lA lc (p :: q :: r)).val, .nilIface]) (by simp [results, Tryz.results76, go_sem, hW, k0, k1, k2, k3, k4, k5, k6, k7, hrl, PT.val, PT.k, PT.s0, PT.s1, PT.s2, PT.s3, PT.mn, PT.mx, PT.A, PT.c, PT.l, HPN.out]) rfl ?_
     have hset : Fr [rb] (wr.drewN nq) W' := by rw [hW]; exact fr8 _ rb _ _ _ _ _ _ _ _
     obtain ⟨hr, hrd, hnl, -, hz, hf⟩ := HREST.out (wr.drewN nq) ⟨nq, rfl⟩ HGO.out
     have hfe : Fr [g] w W' := hf.trans' hset (by simp; have := HRB.out; omega)
     have hre : Rdr W' g A c bs i2 d := hrd.fr_far hset (by simpa using hgl)
     obtain ⟨hp1, hp2⟩ := hnl.part 2 0 0
     have hrow : rowT ts = .mk 2 S4.empty 0 0 ts := by
      have := hnl.rep.len
      match ts, this with
      | a :: b :: r', _ => rfl
     rw [hrow] at hr
     exact ReadPost.ok_ hr rfl ((hp1.fr hset (by simp)).lower (by have := HRB.out; omega)) hre hfe
    ·have hd1 : decide (i2 < L) = true := by simpa using h1
     have hd2 : (i2 : Int) < (L : Int) := by omega
     go_wp2_with fail
     go_quiet ((go_at_call 77; exact Calls.quiet_of (HSV.out _ _ (by decide))))
     go_wp2_with fail
     refine body_gen1 fun W' hW => ?_
     refine bodyPost_ret (v := .tuple #[(PT.mk 2 0 0 0 0 0 0 lA lc (p :: q :: r)).val, .nilIface]) (by simp [results, Tryz.results76, go_sem, hW, k0, k1, k2, k3, k4, k5, k6, k7, hrl, PT.val, PT.k, PT.s0, PT.s1, PT.s2, PT.s3, PT.mn, PT.mx, PT.A, PT.c, PT.l, HPN.out]) rfl ?_
     have hset : Fr [rb] (wr.drewN nq) W' := by rw [hW]; exact fr8 _ rb _ _ _ _ _ _ _ _
     obtain ⟨hr, hrd, hnl, -, hz, hf⟩ := HREST.out (wr.drewN nq) ⟨nq, rfl⟩ HGO.out
     have hfe : Fr [g] w W' := hf.trans' hset (by simp; have := HRB.out; omega)
     have hre : Rdr W' g A c bs i2 d := hrd.fr_far hset (by simpa using hgl)
     obtain ⟨hp1, hp2⟩ := hnl.part 2 0 0
     have hrow : rowT ts = .mk 2 S4.empty 0 0 ts := by
      have := hnl.rep.len
      match ts, this with
      | a :: b :: r', _ => rfl
     rw [hrow] at hr
     exact ReadPost.ok_ hr rfl ((hp1.fr hset (by simp)).lower (by have := HRB.out; omega)) hre hfe
end Go.Proofs.YtfbmogccmlikaaaGreatDoor
