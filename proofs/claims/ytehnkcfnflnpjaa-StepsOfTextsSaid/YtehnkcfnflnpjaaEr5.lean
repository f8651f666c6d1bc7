/-
  group of the reader of expressions, given what stands in it. No conditions but sizes.
-/
import Derived.Test.YtehnkcfnflnpjaaEr4
namespace Go.Proofs.Ytehnkcfnflnpjaa
open Go.RowKit
set_option linter.unusedVariables false
set_option linter.unusedSimpArgs false

set_option maxRecDepth 100000 in
set_option maxHeartbeats 8000000 in
theorem group_of (f : Nat) (hE : ExprOk f) : GroupOk (f + 1) := by
  intro w g A c bs i d h hi hf h40
  obtain ⟨c0, c1, c2, f1, f2⟩ := h.cells
  have hlen := h.len
  have hgl := h.blk.lt
  have hd64 := h.deep
  obtain ⟨L, hL⟩ : ∃ L, L = bs.length := ⟨_, rfl⟩
  rw [← hL] at c0 hi hlen hf
  obtain ⟨R, hR⟩ : ∃ R, R = atomF bs (f + 1) d i := ⟨_, rfl⟩
  rw [← hR]
  rw [atomF, if_pos h40] at hR
  have HRD := Lib.hid h; have HL := Lib.hid hL; have HEK := Lib.hid hE; have H40 := Lib.hid h40
  obtain ⟨rb, hrb⟩ : ∃ rb, rb = w.heap.size := ⟨_, rfl⟩
  have HRB := Lib.hid hrb
  clear h hL hE h40
  by_cases hdd : d = 64
  · rw [if_pos hdd] at hR
    have HR := Lib.hid hR
    subst hdd
    clear hR
    go_enter Try.func38, Try.ntmps38
    go_wp2_with fail
    go_at_call 12
    refine calls_gen1 fun W hW => ?_
    have hfr1 : Fr [] w W := by rw [hW]; exact (Fr.refl [] w).alloc _
    have hz1 : Bk W rb 29 zeroP := by rw [hW, hrb]; exact Bk.new w _ _
    rw [← hrb] at hgl ⊢
    clear hW hrb
    refine (efault_any _ _ W).mono ?_
    rintro e w2 ⟨v, rfl, hv, hf2⟩
    have HV := Lib.hid hv; have HZ2 := Lib.hid (hz1.fr hf2 (by simp)); have HF2 := Lib.hid (hfr1.trans hf2)
    clear hv hf2 hz1 hfr1
    obtain ⟨⟨k0, k1, k2, k3, k4, k5, k6, k7⟩, z0, z1, z2, z3, z4, z5, z6, z7, hrl⟩ := HZ2.out.eightc
    go_wp2_with fail
    refine body_gen1 fun W' hW => ?_
    refine bodyPost_ret (v := .tuple #[.agg zeroP, v]) (by simp [results, Try.results38, go_sem, hW, k0, k1, k2, k3, k4, k5, k6, k7, hrl, zeroP, PT.val]) rfl ?_
    have hset : Fr [rb] w2 W' := by rw [hW]; exact fr8 w2 rb _ _ _ _ _ _ _ _
    exact ReadPost.err HR.out rfl (HV.out.far8 HZ2.out hset) (HF2.out.nil_.trans' hset (by simp; have := HRB.out; omega))
  · rw [if_neg hdd] at hR
    have HR := Lib.hid hR
    have t64 : ((d : Int) == 64) = false := by simp; omega
    clear hR
    go_enter Try.func38, Try.ntmps38
    go_wp2_with fail
    go_at_call 13
    refine calls_gen1 fun W hW => ?_
    have hat : W = ((w.setCell ⟨g, 1, none⟩ (.int .i64 ((i + 1 : Nat) : Int))).setCell ⟨g, 2, none⟩ (.int .i64 ((d + 1 : Nat) : Int))).alloc (.cells zeroP 29) := by rw [hW]; first | rfl | (simp [zeroP]; done)
    have HRW : Hid (Rdr W g A c bs (i + 1) (d + 1)) := Lib.hid (by rw [hat]; exact ((HRD.out.move (by rw [← HL.out]; omega)).open_ (by omega)).fr_nil ((Fr.refl [] _).alloc _))
    have HFW : Hid (Fr [g] w W) := Lib.hid (by rw [hat]; exact (((Fr.refl [g] w).setCell (.inl (by simp)) _).setCell (.inl (by simp)) _).alloc _)
    have HZW : Hid (Bk W rb 29 zeroP) := Lib.hid (by
      rw [hat, hrb]
      have := Bk.new ((w.setCell ⟨g, 1, none⟩ (.int .i64 ((i + 1 : Nat) : Int))).setCell ⟨g, 2, none⟩ (.int .i64 ((d + 1 : Nat) : Int))) 29 zeroP
      simpa using this)
    rw [← hrb] at hgl ⊢
    have hgr : ¬ (g = rb) := by omega
    have hrg : ¬ (rb = g) := by omega
    clear hat hW hrb c0 c1 c2 f1 f2
    refine (HEK.out W g A c bs (i + 1) (d + 1) HRW.out (by rw [← HL.out]; omega)).mono ?_
    intro e w2 hp
    rcases hX : exprF bs f (d + 1) (i + 1) [] with ⟨p, code⟩ | ⟨t, j⟩
    · rw [hX] at hp
      have hr := HR.out
      rw [hX] at hr
      have HR2 : Hid (R = .error (p, code)) := Lib.hid hr
      obtain ⟨v, rfl, ⟨fg, rfl, hfb⟩, hf2⟩ := hp
      have HV := Lib.hid (show FaultV w2 _ (p : Int) (code : Int) from ⟨fg, rfl, hfb⟩)
      have HZ2 := Lib.hid (HZW.out.fr hf2 (by simpa using hrg)); have HF2 := Lib.hid (HFW.out.trans hf2)
      clear hfb hf2 hX hr HR
      obtain ⟨⟨k0, k1, k2, k3, k4, k5, k6, k7⟩, z0, z1, z2, z3, z4, z5, z6, z7, hrl⟩ := HZ2.out.eightc
      unfold zeroP
      go_wp2_with fail
      refine body_gen1 fun W' hW => ?_
      refine bodyPost_ret (v := .tuple #[.agg zeroP, .iface 65 (.pointer (some ⟨fg, 0, none⟩))]) (by simp [results, Try.results38, go_sem, hW, k0, k1, k2, k3, k4, k5, k6, k7, hrl, zeroP, PT.val]) rfl ?_
      have hset : Fr [rb] w2 W' := by rw [hW]; exact (fr8 w2 rb _ _ _ _ _ _ _ _).alloc _
      exact ReadPost.err HR2.out rfl (HV.out.far8 HZ2.out hset) (HF2.out.trans' hset (by simp; have := HRB.out; omega))
    · rw [hX] at hp
      have hr := HR.out
      rw [hX] at hr
      unfold closeT at hr
      obtain ⟨p, rfl, hn, hrd, hf2⟩ := hp
      have HN := Lib.hid hn; have HRD2 := Lib.hid hrd
      have HZ2 := Lib.hid (HZW.out.fr hf2 (by simpa using hrg)); have HF2 := Lib.hid (HFW.out.trans hf2)
      have hwl := HFW.out.size
      have HWZ : Hid (rb < W.heap.size) := Lib.hid HZW.out.lt
      clear hn hrd hf2 hX HR
      unfold PT.val
      obtain ⟨pn, hpn⟩ : ∃ pn, pn = p.l.length := ⟨_, rfl⟩
      rw [← hpn]
      have HPN := Lib.hid hpn
      clear hpn
      have HRR := Lib.hid hr
      clear hr
      go_wp2_with fail
      go_at_call 21
      refine calls_gen1 fun W3 hW => ?_
      have hf3 : Fr [] w2 W3 := by rw [hW]; exact (Fr.refl [] w2).alloc _
      have hpc : Bk W3 w2.heap.size 29 #[.int .i64 p.k, .int .u64 p.s0, .int .u64 p.s1, .int .u64 p.s2, .int .u64 p.s3, .int .i64 p.mn, .int .i64 p.mx, .slice p.A pn p.c] := by rw [hW]; exact Bk.new w2 _ _
      have HRD3 := Lib.hid (HRD2.out.fr_nil hf3); have HN3 := Lib.hid (HN.out.fr_nil hf3); have HZ3 := Lib.hid (HZ2.out.fr hf3 (by simp)); have HF3 := Lib.hid (HF2.out.trans hf3.nil_)
      have hpb : rb < w2.heap.size := HZ2.out.lt
      have hgw2 : g < w2.heap.size := HRD2.out.blk.lt
      obtain ⟨pb, hpbe⟩ : ∃ pb, pb = w2.heap.size := ⟨_, rfl⟩
      rw [← hpbe] at hpc hpb hgw2 ⊢
      have HPC := Lib.hid hpc
      clear hW hf3 hpc hpbe
      by_cases h41 : bn bs j = 41
      · have hr := HRR.out
        rw [if_pos h41] at hr
        have HR2 := Lib.hid hr
        have hjl : j < bs.length := bn_pos h41 (by omega)
        refine (stands_q HRD3.out 41 (by omega) true (stB_yes h41)).mono ?_
        rintro e w4 ⟨rfl, hq4⟩
        have hf4 := hq4.fr
        have HRD4 := Lib.hid (HRD3.out.fr_nil hf4); have HN4 := Lib.hid (HN3.out.fr_nil hf4); have HZ4 := Lib.hid (HZ3.out.fr hf4 (by simp)); have HF4 := Lib.hid (HF3.out.trans hf4.nil_); have HPC4 := Lib.hid (HPC.out.fr hf4 (by simp))
        have HJL := Lib.hid hjl
        have hjb : j < 1000 := by have := HRD4.out.len; omega
        clear hq4 hf4 h41 hr hjl
        obtain ⟨-, c1, c2, f1, f2⟩ := HRD4.out.cells
        have hgl4 := HRD4.out.blk.lt
        obtain ⟨⟨k0, k1, k2, k3, k4, k5, k6, k7⟩, z0, z1, z2, z3, z4, z5, z6, z7, hrl⟩ := HZ4.out.eightc
        obtain ⟨⟨l0, l1, l2, l3, l4, l5, l6, l7⟩, -, -, -, -, -, -, -, -, hpl⟩ := HPC4.out.eightc
        have hpr : ¬ (pb = rb) := by omega
        have hpg : ¬ (pb = g) := by omega
        go_wp2_with fail
        refine body_gen1 fun W' hW => ?_
        refine bodyPost_ret (v := .tuple #[p.val, .nilIface]) (by simp [results, Try.results38, go_sem, hW, k0, k1, k2, k3, k4, k5, k6, k7, hrl, zeroP, PT.val, HPN.out]) rfl ?_
        have hset : Fr [rb] ((w4.setCell ⟨g, 1, none⟩ (.int .i64 ((j + 1 : Nat) : Int))).setCell ⟨g, 2, none⟩ (.int .i64 (d : Int))) W' := by rw [hW]; exact fr8 _ rb _ _ _ _ _ _ _ _
        have hrdm := (HRD4.out.move (j := j + 1) HJL.out).open_ (e := d) hd64
        have hmid : Fr [g] w4 ((w4.setCell ⟨g, 1, none⟩ (.int .i64 ((j + 1 : Nat) : Int))).setCell ⟨g, 2, none⟩ (.int .i64 (d : Int))) := ((Fr.refl [g] w4).setCell (.inl (by simp)) _).setCell (.inl (by simp)) _
        have hWl := HWZ.out
        refine ReadPost.ok_ HR2.out rfl ((((HN4.out.fr hmid (by simp; left; omega)).fr hset (by simp; left; omega))).lower hwl) (hrdm.fr_far hset (by simpa using hgl)) ((HF4.out.trans hmid).trans' hset (by simp; have := HRB.out; omega))
      · have hr := HRR.out
        rw [if_neg h41, ← HL.out] at hr
        have HR2 := Lib.hid hr
        refine (stands_q HRD3.out 41 (by omega) false (stB_no h41)).mono ?_
        rintro e w4 ⟨rfl, hq4⟩
        have hf4 := hq4.fr
        have HRD4 := Lib.hid (HRD3.out.fr_nil hf4); have HZ4 := Lib.hid (HZ3.out.fr hf4 (by simp)); have HF4 := Lib.hid (HF3.out.trans hf4.nil_); have HPC4 := Lib.hid (HPC.out.fr hf4 (by simp))
        clear hq4 hf4 h41 hr
        obtain ⟨c0, c1, c2, f1, f2⟩ := HRD4.out.cells
        rw [← HL.out] at c0
        have hgl4 := HRD4.out.blk.lt
        go_wp2_with fail
        go_at_call 12
        refine (efault_any _ _ w4).mono ?_
        rintro e w5 ⟨v, rfl, hv, hf5⟩
        have HV := Lib.hid hv; have HZ5 := Lib.hid (HZ4.out.fr hf5 (by simp)); have HF5 := Lib.hid (HF4.out.trans hf5.nil_)
        clear hv hf5
        obtain ⟨⟨k0, k1, k2, k3, k4, k5, k6, k7⟩, z0, z1, z2, z3, z4, z5, z6, z7, hrl⟩ := HZ5.out.eightc
        go_wp2_with fail
        refine body_gen1 fun W' hW => ?_
        refine bodyPost_ret (v := .tuple #[.agg zeroP, v]) (by simp [results, Try.results38, go_sem, hW, k0, k1, k2, k3, k4, k5, k6, k7, hrl, zeroP, PT.val]) rfl ?_
        have hset : Fr [rb] w5 W' := by rw [hW]; exact fr8 w5 rb _ _ _ _ _ _ _ _
        exact ReadPost.err HR2.out rfl (HV.out.far8 HZ5.out hset) (HF5.out.trans' hset (by simp; have := HRB.out; omega))
end Go.Proofs.Ytehnkcfnflnpjaa
