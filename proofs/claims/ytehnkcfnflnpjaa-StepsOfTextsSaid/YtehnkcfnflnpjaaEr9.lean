/-
  ere.Parse. Of bytes that are read within the model's bounds.
-/
import Derived.Test.YtehnkcfnflnpjaaEr8
namespace Go.Proofs.Ytehnkcfnflnpjaa
open Go.RowKit
set_option linter.unusedVariables false
set_option linter.unusedSimpArgs false

def ParsePost (w : World) (r : Except (Nat × Nat) RT) (e : Ending) (w' : World) : Prop := match r with
  | .error (p, code) => ∃ v, e = .returned (.tuple #[.agg zeroP, v]) ∧ FaultV w' v p code ∧ Fr [] w w'
  | .ok t => ∃ p : PT, e = .returned (.tuple #[p.val, .nilIface]) ∧ NewP w.heap.size w' t p ∧ Fr [] w w'
theorem ParsePost.err {w : World} {r : Except (Nat × Nat) RT} {e : Ending} {w' : World} {p code : Nat} {v : Value} (hr : r = .error (p, code)) (h1 : e = .returned (.tuple #[.agg zeroP, v])) (h2 : FaultV w' v p code) (h3 : Fr [] w w') : ParsePost w r e w' := by
  subst hr; exact ⟨v, h1, h2, h3⟩
theorem ParsePost.ok_ {w : World} {r : Except (Nat × Nat) RT} {e : Ending} {w' : World} {t : RT} {p : PT} (hr : r = .ok t) (h1 : e = .returned (.tuple #[p.val, .nilIface])) (h2 : NewP w.heap.size w' t p) (h3 : Fr [] w w') : ParsePost w r e w' := by
  subst hr; exact ⟨p, h1, h2, h3⟩
set_option maxRecDepth 100000 in
set_option maxHeartbeats 8000000 in
theorem parse_any {w : World} {A : Option Addr} {bs : List UInt8} {c : Nat} (h : Bytes w A bs) (hc : bs.length ≤ c) (hA : A = none → c = 0) (hcm : c ≤ maxLen) (hg : GlobOk w) :
    Calls Try.prog 5 #[.slice A bs.length c] w (ParsePost w (parseS bs)) := by
  obtain ⟨rb, hrb⟩ : ∃ rb, rb = w.heap.size := ⟨_, rfl⟩
  have HRB := Lib.hid hrb
  obtain ⟨R, hR⟩ : ∃ R, R = parseS bs := ⟨_, rfl⟩
  rw [← hR]
  unfold parseS at hR
  obtain ⟨L, hL⟩ : ∃ L, L = bs.length := ⟨_, rfl⟩
  rw [← hL] at hc hR ⊢
  obtain ⟨F, hF⟩ : ∃ F, F = 6 * L + 5 := ⟨_, rfl⟩
  rw [← hF] at hR
  have HFU := Lib.hid hF
  clear hF
  have HL := Lib.hid hL
  have h0 : 0 < w.heap.size := by
    obtain ⟨m, hm⟩ := hg
    exact World.block_lt_of_cell? w _ hm
  have H0 := Lib.hid h0
  unfold maxLen at hcm
  by_cases hbig : 1000 < L
  · rw [if_pos hbig] at hR
    have HR := Lib.hid hR
    have hd : decide (1000 < L) = true := by simpa using hbig
    clear hR h hg hL h0
    go_enter Try.func5, Try.ntmps5
    go_wp2_with fail
    go_at_call 12
    refine calls_gen1 fun W hW => ?_
    have hfr1 : Fr [] w W := by rw [hW]; exact (Fr.refl [] w).alloc _
    have hz1 : Bk W rb 29 zeroP := by rw [hW, hrb]; exact Bk.new w _ _
    rw [← hrb]
    clear hW hrb
    refine (efault_any _ _ W).mono ?_
    rintro e w2 ⟨v, rfl, hv, hf2⟩
    have HV := Lib.hid hv; have HZ2 := Lib.hid (hz1.fr hf2 (by simp)); have HF2 := Lib.hid (hfr1.trans hf2)
    clear hv hf2 hz1 hfr1
    obtain ⟨⟨k0, k1, k2, k3, k4, k5, k6, k7⟩, z0, z1, z2, z3, z4, z5, z6, z7, hrl⟩ := HZ2.out.eightc
    go_wp2_with fail
    refine body_gen1 fun W' hW => ?_
    refine bodyPost_ret (v := .tuple #[.agg zeroP, v]) (by simp [results, Try.results5, go_sem, hW, k0, k1, k2, k3, k4, k5, k6, k7, hrl, zeroP]) rfl ?_
    have hset : Fr [rb] w2 W' := by rw [hW]; exact fr8 w2 rb _ _ _ _ _ _ _ _
    exact ParsePost.err HR.out rfl (HV.out.far8 HZ2.out hset) (HF2.out.trans' hset (by simp; have := HRB.out; omega))
  · rw [if_neg hbig] at hR
    have HR := Lib.hid hR; have HB := Lib.hid h; have HG := Lib.hid hg; have HA := Lib.hid hA
    have hd : decide (1000 < L) = false := by simpa using hbig
    clear hR h hg hL hA
    go_enter Try.func5, Try.ntmps5
    go_wp2_with fail
    go_at_call 13
    refine calls_gen1 fun W hW => ?_
    have hfr1 : Fr [] w W := by rw [hW]; exact ((Fr.refl [] w).alloc _).alloc _
    have hz1 : Bk W rb 29 zeroP := by rw [hW, hrb]; exact (Bk.new w _ _).alloc _
    have hrd0 : Bk W (w.heap.size + 1) 50 #[.slice A L c, .int .i64 0, .int .i64 0] := by
      rw [hW]
      have := Bk.new (w.alloc (.cells zeroP 29)) 50 #[.slice A L c, .int .i64 0, .int .i64 0]
      simpa [zeroP] using this
    have hrd : Rdr W (w.heap.size + 1) A c bs 0 0 :=
      { blk := by rw [← HL.out]; exact hrd0
        byt := HB.out.fr_nil hfr1
        lt_ := fun hne a ha => by
          rcases HB.out with hx | ⟨a', ha', hb', -⟩
          · exfalso; apply hne; simpa [byteVals] using hx
          · rw [ha] at ha'; injection ha' with ha'; subst ha'; omega
        cap := by rw [← HL.out]; exact hc
        nil := HA.out
        capm := by unfold maxLen; exact hcm
        len := by rw [← HL.out]; omega
        at_ := Nat.zero_le _
        deep := by omega
        glob := HG.out.fr hfr1
        far := by omega }
    rw [← hrb] at hrd ⊢
    have HRD := Lib.hid hrd; have HZ := Lib.hid hz1; have HF := Lib.hid hfr1
    clear hW hrb hrd0 hrd hz1 hfr1
    refine ((read_ok F).1 W (rb + 1) A c bs 0 0 HRD.out (by rw [← HL.out, HFU.out]; omega)).mono ?_
    intro e w2 hp
    rcases hX : exprF bs F 0 0 [] with ⟨p, code⟩ | ⟨t, j⟩
    · rw [hX] at hp
      have hr := HR.out
      rw [hX] at hr
      have HR2 : Hid (R = .error (p, code)) := Lib.hid hr
      obtain ⟨v, rfl, ⟨fg, rfl, hfb⟩, hf2⟩ := hp
      have HV := Lib.hid (show FaultV w2 _ (p : Int) (code : Int) from ⟨fg, rfl, hfb⟩)
      have HZ2 := Lib.hid (HZ.out.fr hf2 (by simp)); have HF2 : Hid (Fr [] w w2) := Lib.hid (HF.out.trans' hf2 (by simp; have := HRB.out; omega))
      clear hfb hf2 hX hr HR
      obtain ⟨⟨k0, k1, k2, k3, k4, k5, k6, k7⟩, z0, z1, z2, z3, z4, z5, z6, z7, hrl⟩ := HZ2.out.eightc
      unfold zeroP
      go_wp2_with fail
      refine body_gen1 fun W' hW => ?_
      have hbW : Bk W' rb 29 zeroP := by rw [hW]; exact (HZ2.out.put8 _ _ _ _ _ _ _ _).put8 _ _ _ _ _ _ _ _
      obtain ⟨⟨m0, m1, m2, m3, m4, m5, m6, m7⟩, -⟩ := hbW.eightc
      refine bodyPost_ret (v := .tuple #[.agg zeroP, .iface 65 (.pointer (some ⟨fg, 0, none⟩))]) (by simp [results, Try.results5, go_sem, m0, m1, m2, m3, m4, m5, m6, m7, zeroP]) rfl ?_
      have hset : Fr [rb] w2 W' := by rw [hW]; exact (fr8 w2 rb _ _ _ _ _ _ _ _).trans (fr8 _ rb _ _ _ _ _ _ _ _)
      exact ParsePost.err HR2.out rfl (HV.out.far8 HZ2.out hset) (HF2.out.trans' hset (by simp; have := HRB.out; omega))
    · rw [hX] at hp
      have hr := HR.out
      rw [hX] at hr
      obtain ⟨p, rfl, hn, hrd, hf2⟩ := hp
      have HRD2 := Lib.hid hrd
      have HZ2 := Lib.hid (HZ.out.fr hf2 (by simp)); have HF2 : Hid (Fr [] w w2) := Lib.hid (HF.out.trans' hf2 (by simp; have := HRB.out; omega))
      have HN2 := Lib.hid hn
      have HRR : Hid ((if j < L then .error (j, 4) else .ok t) = R) := Lib.hid hr.symm
      have hlo : rb < W.heap.size := HZ.out.lt
      have hjl := HRD2.out.at_
      rw [← HL.out] at hjl
      clear hn hrd hf2 hX hr HR
      unfold PT.val
      obtain ⟨qn, hqn⟩ : ∃ qn, qn = p.l.length := ⟨_, rfl⟩
      rw [← hqn]
      have HQN := Lib.hid hqn
      clear hqn
      obtain ⟨-, c1, -, -, -⟩ := HRD2.out.cells
      have hgl2 := HRD2.out.blk.lt
      obtain ⟨⟨k0, k1, k2, k3, k4, k5, k6, k7⟩, z0, z1, z2, z3, z4, z5, z6, z7, hrl⟩ := HZ2.out.eightc
      by_cases hj : j < L
      · have hr := HRR.out
        rw [if_pos hj] at hr
        have HR2 : Hid (R = .error (j, 4)) := Lib.hid hr.symm
        have hdj : decide (j < L) = true := by simpa using hj
        clear hr
        go_wp2_with fail
        go_at_call 12
        refine calls_gen1 fun W3 hW => ?_
        have hset : Fr [rb] w2 W3 := by rw [hW]; exact fr8 w2 rb _ _ _ _ _ _ _ _
        have hz3 : ∃ x0 x1 x2 x3 x4 x5 x6 x7, Bk W3 rb 29 #[x0, x1, x2, x3, x4, x5, x6, x7] := ⟨_, _, _, _, _, _, _, _, by rw [hW]; exact HZ2.out.put8 _ _ _ _ _ _ _ _⟩
        obtain ⟨x0, x1, x2, x3, x4, x5, x6, x7, hz3⟩ := hz3
        have HZ3 := Lib.hid hz3
        have HF3 : Hid (Fr [] w W3) := Lib.hid (HF2.out.trans' hset (by simp; have := HRB.out; omega))
        clear hW hset hz3 k0 k1 k2 k3 k4 k5 k6 k7 z0 z1 z2 z3 z4 z5 z6 z7 hrl
        refine (efault_any _ _ W3).mono ?_
        rintro e w4 ⟨v, rfl, hv, hf4⟩
        have HV := Lib.hid hv; have HZ4 := Lib.hid (HZ3.out.fr hf4 (by simp)); have HF4 := Lib.hid (HF3.out.trans hf4)
        clear hv hf4
        obtain ⟨⟨k0, k1, k2, k3, k4, k5, k6, k7⟩, z0, z1, z2, z3, z4, z5, z6, z7, hrl⟩ := HZ4.out.eightc
        go_wp2_with fail
        refine body_gen1 fun W' hW => ?_
        refine bodyPost_ret (v := .tuple #[.agg zeroP, v]) (by simp [results, Try.results5, go_sem, hW, k0, k1, k2, k3, k4, k5, k6, k7, hrl, zeroP]) rfl ?_
        have hset : Fr [rb] w4 W' := by rw [hW]; exact fr8 w4 rb _ _ _ _ _ _ _ _
        exact ParsePost.err HR2.out rfl (HV.out.far8 HZ4.out hset) (HF4.out.trans' hset (by simp; have := HRB.out; omega))
      · have hr := HRR.out
        rw [if_neg hj] at hr
        have HR2 : Hid (R = .ok t) := Lib.hid hr.symm
        have hdj : decide (j < L) = false := by simpa using hj
        clear hr
        go_wp2_with fail
        refine body_gen1 fun W' hW => ?_
        have hbW : Bk W' rb 29 #[.int .i64 p.k, .int .u64 p.s0, .int .u64 p.s1, .int .u64 p.s2, .int .u64 p.s3, .int .i64 p.mn, .int .i64 p.mx, .slice p.A qn p.c] := by rw [hW]; exact (HZ2.out.put8 _ _ _ _ _ _ _ _).put8 _ _ _ _ _ _ _ _
        obtain ⟨⟨m0, m1, m2, m3, m4, m5, m6, m7⟩, -⟩ := hbW.eightc
        refine bodyPost_ret (v := .tuple #[p.val, .nilIface]) (by simp [results, Try.results5, go_sem, m0, m1, m2, m3, m4, m5, m6, m7, PT.val, HQN.out]) rfl ?_
        have hset : Fr [rb] w2 W' := by rw [hW]; exact (fr8 w2 rb _ _ _ _ _ _ _ _).trans (fr8 _ rb _ _ _ _ _ _ _ _)
        exact ParsePost.ok_ HR2.out rfl ((HN2.out.fr hset (by simp; omega)).lower HF.out.size) (HF2.out.trans' hset (by simp; have := HRB.out; omega))
end Go.Proofs.Ytehnkcfnflnpjaa
