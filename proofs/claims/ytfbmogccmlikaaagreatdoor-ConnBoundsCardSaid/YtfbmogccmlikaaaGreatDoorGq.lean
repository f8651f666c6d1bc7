/-
 Er8, Er9, Ma2: several small texts in one. No conditions.
-/
import Derived.Test.YtfbmogccmlikaaaGreatDoorGp
import Derived.Test.YtfbmogccmlikaaaGreatDoorGm
import Derived.OwnWalk
namespace Go.Proofs.YtfbmogccmlikaaaGreatDoor
open Go.RowKit
set_option linter.unusedVariables false
set_option linter.unusedSimpArgs false
def ExprRel (w : World) (g : Nat) (A : Option Addr) (c : Nat) (bs : List UInt8) (d : Nat) (R : Res) (rb f : Nat) (v : Value) (wr : World) : Prop :=
 ∃ (k i : Nat) (ts : List RT) (ps : List PT), k ≤ f ∧ 6 * (bs.length - i) + 5 ≤ k ∧ exprF bs k d i ts = R ∧ Rdr wr g A c bs i d ∧ NewL (rb + 1) wr v ts ps ∧ ps.length ≤ i ∧ Bk wr rb 104 zeroP ∧ Fr [g] w wr
set_option maxRecDepth 100000 in
set_option maxHeartbeats 16000000 in
theorem expr_of (f : Nat) (hP : ∀ k, k < f → BranchOk k) : ExprOk f := by
 intro w g A c bs i d h hf
 have hlen := h.len
 have hgl := h.blk.lt
 obtain ⟨R, hR⟩ : ∃ R, R = exprF bs f d i [] := ⟨_, rfl⟩
 rw [← hR]
 have HRD := Lib.hid h; have HPK := Lib.hid hP; have HR := Lib.hid hR
 obtain ⟨rb, hrb⟩ : ∃ rb, rb = w.heap.size := ⟨_, rfl⟩
 have HRB := Lib.hid hrb
 obtain ⟨i0, hi0, hzz, hz1, hz2⟩ := partParts
 clear h hP hR
 go_enter Tryz.func65, Tryz.ntmps65
 go_wp2_with fail
 rw [← hrb] at hgl ⊢
 clear hrb
 go_loopw [4] (fun v wr => ExprRel w g A c bs d R rb f v wr) (fun _ wr => rdM bs g wr)
 case atStart =>
  have ha : Fr [] w (w.alloc (.cells zeroP 104)) := (Fr.refl [] w).alloc _
  exact ⟨f, i, [], [], Nat.le_refl _, hf, HR.out.symm, HRD.out.fr_nil ha, NewL.nil _ _, by simp, by rw [HRB.out]; exact Bk.new w _ _, ha.nil_⟩
 case round =>
  clear HR HRD hf
  obtain ⟨k, i2, ts, ps, hk, hfk, hbr, hrd, hnl, hpi, hz, hfr⟩ := hrel
  have hrg : ¬ (rb = g) := by omega
  have HBR := Lib.hid hbr; have HRD := Lib.hid hrd; have HNL := Lib.hid hnl; have HZ := Lib.hid hz; have HF := Lib.hid hfr
  obtain ⟨pn, hpn⟩ : ∃ pn, pn = ps.length := ⟨_, rfl⟩
  have hform := hnl.form
  have hat_ := hrd.at_
  rw [← hpn] at hform hpi
  obtain ⟨lA, lc, rfl⟩ := hform
  have HPN := Lib.hid hpn
  obtain ⟨L, hL⟩ : ∃ L, L = bs.length := ⟨_, rfl⟩
  rw [← hL] at hfk hat_ hlen
  have HL := Lib.hid hL
  clear hbr hrd hnl hz hfr hpn hL
  go_wp2_with fail
  go_at_call 76
  obtain ⟨k', hk'⟩ : ∃ k', k = k' + 1 := ⟨k - 1, by omega⟩
  have HKK := Lib.hid hk'
  refine (HPK.out k' (by omega) wr g A c bs i2 d HRD.out (by rw [← HL.out]; omega)).mono ?_
  intro e w2 hp
  have hbr := HBR.out
  rw [hk', exprF] at hbr
  have hle := (readF_le bs k').2.1 d i2 []
  rcases hX : branchF bs k' d i2 [] with ⟨p, code⟩ | ⟨t, j⟩
  ·rw [hX] at hp hbr
   have HR2 : Hid (R = .error (p, code)) := Lib.hid hbr.symm
   obtain ⟨v, rfl, ⟨fg, rfl, hfb⟩, hf2⟩ := hp
   have HV := Lib.hid (show FaultV w2 _ (p : Int) (code : Int) from ⟨fg, rfl, hfb⟩)
   have HZ2 := Lib.hid (HZ.out.fr hf2 (by simpa using hrg)); have HF2 := Lib.hid (HF.out.trans hf2)
   clear hfb hf2 hX hbr HBR hle hk'
   obtain ⟨⟨k0, k1, k2, k3, k4, k5, k6, k7⟩, z0, z1, z2, z3, z4, z5, z6, z7, hrl⟩ := HZ2.out.eightc
   unfold zeroP
   go_wp2_with fail
   refine body_gen1 fun W' hW => ?_
   refine bodyPost_ret (v := .tuple #[.agg zeroP, .iface 110 (.pointer (some ⟨fg, 0, none⟩))]) (by simp [results, Tryz.results65, go_sem, hW, k0, k1, k2, k3, k4, k5, k6, k7, hrl, zeroP]) rfl ?_
   have hset : Fr [rb] w2 W' := by rw [hW]; exact (fr8 w2 rb _ _ _ _ _ _ _ _).alloc _
   exact ReadPost.err HR2.out rfl (HV.out.far8 HZ2.out hset) (HF2.out.trans' hset (by simp; have := HRB.out; omega))
  ·have hjj := hle t j (by rw [← HL.out]; exact hat_) hX
   rw [hX] at hp hbr
   obtain ⟨p, rfl, hn, hrd, hf2⟩ := hp
   have HRD2 := Lib.hid hrd
   have HZ2 := Lib.hid (HZ.out.fr hf2 (by simpa using hrg)); have HF2 := Lib.hid (HF.out.trans hf2)
   have HN2 := Lib.hid hn
   have hgr1 : g < rb + 1 := by omega
   have HNL2 := Lib.hid (HNL.out.fr hf2 (by simpa using hgr1))
   have hblk : ∀ b ∈ blkP p, (Value.slice lA pn lc).ownBlock ≠ some b := fun b hb e => by
    have h1 := (HNL.out.blk b e).2
    have h2 := (hn.new b hb).1
    omega
   have HBK := Lib.hid hblk
   have HBR2 : Hid ((if bn bs j = 124 then exprF bs k' d (j + 1) (ts ++ [t]) else .ok (joinT (ts ++ [t]), j)) = R) := Lib.hid hbr
   have HJ := Lib.hid hjj
   have hlo : rb + 1 ≤ wr.heap.size := HZ.out.lt
   have hlo2 : wr.heap.size ≤ w2.heap.size := hf2.size
   have hown : ∀ O1 O2, ((w2.alloc O1).alloc O2).ownsRow (rb + 1) 104 8 (.slice lA pn lc) pn (ps.flatMap PT.cells) := fun O1 O2 => by
    have := own_frv HNL2.out.own (((Fr.refl [] w2).alloc O1).alloc O2) (by simp)
    rw [← HPN.out] at this; exact this
   have HOWN := Lib.hid hown
   clear hn hrd hf2 hX hbr HBR hle hk' hblk hjj hown
   unfold PT.val
   obtain ⟨qn, hqn⟩ : ∃ qn, qn = p.l.length := ⟨_, rfl⟩
   rw [← hqn]
   have HQN := Lib.hid hqn
   clear hqn
   go_wp2_with (at_builtin; refine wpList_append_R rfl (.tmp 16) (.tmp 18) 102 rfl (rb + 1) 104 i0 _ 8 80 Tryz.underlying102 hi0 hzz hz1 hz2 rfl (by omega) (.slice lA pn lc) pn (ps.flatMap PT.cells) (by first | rfl | (simp [Act.eval]; done)) (HOWN.out _ _) ⟨w2.heap.size + 1, 0, none⟩ 1 1 [.int .i64 p.k, .int .u64 p.s0, .int .u64 p.s1, .int .u64 p.s2, .int .u64 p.s3, .int .i64 p.mn, .int .i64 p.mx, .slice p.A qn p.c] (by first | rfl | (simp [Act.eval]; done)) rfl (by have := eight_new (w2.alloc (.cells #[.int .i64 p.k, .int .u64 p.s0, .int .u64 p.s1, .int .u64 p.s2, .int .u64 p.s3, .int .i64 p.mn, .int .i64 p.mx, .slice p.A qn p.c] 104)) 104 (.int .i64 p.k) (.int .u64 p.s0) (.int .u64 p.s1) (.int .u64 p.s2) (.int .u64 p.s3) (.int .i64 p.mn) (.int .i64 p.mx) (.slice p.A qn p.c); simpa using this) (by simp [Value.oneCell']) (by unfold maxLen; omega) (by omega) (by simp; omega) ?_; intro v' w6 hown6 hgr6 hat6; have HOWN6 := Lib.hid hown6; have HGR6 := Lib.hid hgr6; have HAT6 := Lib.hid hat6; clear hown6 hgr6 hat6)
   go_at_call 77
   have hfin : Rdr w6 g A c bs j d ∧ NewL (rb + 1) w6 v' (ts ++ [t]) (ps ++ [p]) ∧ Bk w6 rb 104 zeroP ∧ Fr [g] w w6 := by
    have hb := HNL2.out.blk
    have hown6 := HOWN6.out
    rw [HPN.out, HQN.out] at hown6
    obtain ⟨h1, h2⟩ := NewL.snoc HNL2.out (HN2.out.lower hlo) HBK.out (((Fr.refl [] w2).alloc _).alloc _) hown6 HGR6.out HAT6.out
    have hge : ∀ b ∈ (Value.slice lA pn lc).ownBlock.toList, rb + 1 ≤ b := fun b hb' => (hb b (by simpa using hb')).1
    have hrd6 := HRD2.out.fr_far h2 (fun b hb' => by have := hge b hb'; omega)
    exact ⟨hrd6, h1, HZ2.out.fr h2 (fun hm => by have := hge rb hm; omega), HF2.out.trans' h2 (fun b hb' => by have := hge b hb'; have := HRB.out; right; omega)⟩
   obtain ⟨h1, h2, h3, h4⟩ := hfin
   have hform := h2.form
   have hln : (ps ++ [p]).length = pn + 1 := by simp; exact HPN.out.symm
   rw [hln] at hform
   obtain ⟨A', c', rfl⟩ := hform
   have HRD6 := Lib.hid h1; have HNL6 := Lib.hid h2; have HZ6 := Lib.hid h3; have HF6 := Lib.hid h4
   clear h1 h2 h3 h4 hln HOWN6 HGR6 HAT6 HOWN
   by_cases h124 : bn bs j = 124
   ·have hbr := HBR2.out
    rw [if_pos h124] at hbr
    have HBR3 := Lib.hid hbr
    have hjl : j < bs.length := bn_pos h124 (by omega)
    rw [← HL.out] at hjl
    refine (stands_q HRD6.out 124 (by omega) true (stB_yes h124)).mono ?_
    rintro e w7 ⟨rfl, hq7⟩
    have hf7 := hq7.fr
    have HRD7 := Lib.hid (HRD6.out.fr_nil hf7); have HNL7 := Lib.hid (HNL6.out.fr_nil hf7); have HZ7 := Lib.hid (HZ6.out.fr hf7 (by simp)); have HF7 := Lib.hid (HF6.out.trans hf7.nil_)
    clear hq7 hf7 hbr h124
    obtain ⟨-, c1, -, f1, -⟩ := HRD7.out.cells
    have hgl7 := HRD7.out.blk.lt
    have hfin : ExprRel w g A c bs d R rb f (.slice A' (pn + 1) c') (w7.setCell ⟨g, 1, none⟩ (.int .i64 ((j : Int) + 1))) ∧ rdM bs g (w7.setCell ⟨g, 1, none⟩ (.int .i64 ((j : Int) + 1))) < rdM bs g wr := by
     have e : ((j : Int) + 1) = ((j + 1 : Nat) : Int) := by omega
     rw [e]
     have hs : Fr [g] w7 (w7.setCell ⟨g, 1, none⟩ (.int .i64 ((j + 1 : Nat) : Int))) := (Fr.refl [g] w7).setCell (.inl (by simp)) _
     have hrd := HRD7.out.move (j := j + 1) (by rw [← HL.out]; omega)
     have hjj := HJ.out
     refine ⟨⟨k', j + 1, ts ++ [t], ps ++ [p], by have := HKK.out; omega, by have := HKK.out; have := HL.out; omega, HBR3.out, hrd, HNL7.out.fr hs (by simpa using hgr1), by simp; have := HPN.out; omega, HZ7.out.fr hs (by simpa using hrg), HF7.out.trans hs⟩, ?_⟩
     rw [rdM_at hrd, rdM_at HRD.out]
     have := HL.out
     omega
    have HFIN := Lib.hid hfin
    clear hfin
    go_wp2_with fail
    go_roundw
    case rel => exact HFIN.out.1
    case measure => exact HFIN.out.2
   ·have hbr := HBR2.out
    rw [if_neg h124] at hbr
    have HBR3 := Lib.hid hbr.symm
    refine (stands_q HRD6.out 124 (by omega) false (stB_no h124)).mono ?_
    rintro e w7 ⟨rfl, hq7⟩
    have hf7 := hq7.fr
    have HRD7 := Lib.hid (HRD6.out.fr_nil hf7); have HNL7 := Lib.hid (HNL6.out.fr_nil hf7); have HZ7 := Lib.hid (HZ6.out.fr hf7 (by simp)); have HF7 := Lib.hid (HF6.out.trans hf7.nil_)
    clear hq7 hf7 hbr h124
    obtain ⟨⟨k0, k1, k2, k3, k4, k5, k6, k7⟩, z0, z1, z2, z3, z4, z5, z6, z7, hrl⟩ := HZ7.out.eightc
    by_cases hp0 : pn = 0
    ·have hps : ps = [] := List.eq_nil_of_length_eq_zero (by have := HPN.out; omega)
     have hts : ts = [] := List.eq_nil_of_length_eq_zero (by have := HNL.out.rep.len; rw [hps] at this; simpa using this)
     subst hp0 hps hts
     have ho := HNL7.out.own
     have hxs : ([] ++ [p]).flatMap PT.cells = p.cells := by simp
     rw [hxs] at ho
     obtain ⟨lb, rfl, hlb, -, hcl⟩ := own_cells ho (by unfold PT.cells; simp)
     have e0 := hcl 0 _ rfl
     have e1 := hcl 1 _ rfl
     have e2 := hcl 2 _ rfl
     have e3 := hcl 3 _ rfl
     have e4 := hcl 4 _ rfl
     have e5 := hcl 5 _ rfl
     have e6 := hcl 6 _ rfl
     have e7 := hcl 7 _ rfl
     rw [← HQN.out] at e7
     clear hcl ho hxs
     go_wp2_with fail
     refine body_gen1 fun W' hW => ?_
     refine bodyPost_ret (v := .tuple #[p.val, .nilIface]) (by simp [results, Tryz.results65, go_sem, hW, k0, k1, k2, k3, k4, k5, k6, k7, hrl, PT.val, HQN.out]) rfl ?_
     have hset : Fr [rb] w7 W' := by rw [hW]; exact fr8 w7 rb _ _ _ _ _ _ _ _
     have hs1 : NewP (rb + 1) w7 t p := NewL.single (v := .slice (some ⟨lb, 0, none⟩) (0 + 1) c') (by simpa using HNL7.out)
     exact ReadPost.ok_ HBR3.out rfl ((hs1.fr hset (by simp)).lower (by have := HRB.out; omega)) (HRD7.out.fr_far hset (by simpa using hgl)) (HF7.out.trans' hset (by simp; have := HRB.out; omega))
    ·have hp1 : (((pn : Int) + 1) == 1) = false := by simp; omega
     go_wp2_with fail
     refine body_gen1 fun W' hW => ?_
     obtain ⟨hpp, hpn2⟩ := HNL7.out.part 3 0 0
     refine bodyPost_ret (v := .tuple #[(PT.mk 3 0 0 0 0 0 0 A' c' (ps ++ [p])).val, .nilIface]) (by simp [results, Tryz.results65, go_sem, hW, k0, k1, k2, k3, k4, k5, k6, k7, hrl, PT.val, PT.k, PT.s0, PT.s1, PT.s2, PT.s3, PT.mn, PT.mx, PT.A, PT.c, PT.l, HPN.out]) rfl ?_
     have hset : Fr [rb] w7 W' := by rw [hW]; exact fr8 w7 rb _ _ _ _ _ _ _ _
     have hjoin : joinT (ts ++ [t]) = .mk 3 S4.empty 0 0 (ts ++ [t]) := by
      have := HNL.out.rep.len
      have := HPN.out
      match ts with
      | [] => simp at *; omega
      | [a] => rfl
      | a :: b :: r => rfl
     have hr := HBR3.out
     rw [hjoin] at hr
     exact ReadPost.ok_ hr rfl ((hpp.fr hset (by simp)).lower (by have := HRB.out; omega)) (HRD7.out.fr_far hset (by simpa using hgl)) (HF7.out.trans' hset (by simp; have := HRB.out; omega))
theorem read_ok : ∀ f : Nat, ExprOk f ∧ BranchOk f ∧ PieceOk f ∧ AtomOk f ∧ GroupOk f := by
 intro f
 induction f using Nat.strongRecOn with
 | _ f ih =>
  have hg : GroupOk f := by
   rcases f with _ | f
   ·intro w g A c bs i d h hi hf; omega
   ·exact group_of f (ih f (by omega)).1
  have ha := atom_of f hg
  have hp : PieceOk f := by
   rcases f with _ | f
   ·intro w g A c bs i d h hi hf; omega
   ·exact piece_of f (ih f (by omega)).2.2.2.1
  exact ⟨expr_of f (fun k hk => (ih k hk).2.1), branch_of f (fun k hk => (ih k hk).2.2.1), hp, ha, hg⟩
end Go.Proofs.YtfbmogccmlikaaaGreatDoor
namespace Go.Proofs.YtfbmogccmlikaaaGreatDoor
open Go.RowKit
set_option linter.unusedVariables false
set_option linter.unusedSimpArgs false
def ParsePost (w : World) (r : Except (Nat × Nat) RT) (e : Ending) (w' : World) : Prop := match r with
 | .error (p, code) => ∃ v, e = .returned (.tuple #[.agg zeroP, v]) ∧ FaultV w' v p code ∧ Fr [] w w'
 | .ok t => ∃ p : PT, e = .returned (.tuple #[p.val, .nilIface]) ∧ NewP w.heap.size w' t p ∧ Fr [] w w'
theorem ParsePost.err {w : World} {r : Except (Nat × Nat) RT} {e : Ending} {w' : World} {p code : Nat} {v : Value} (hr : r = .error (p, code)) (h1 : e = .returned (.tuple #[.agg zeroP, v])) (h2 : FaultV w' v p code) (h3 : Fr [] w w') : ParsePost w r e w' := by
 subst hr; exact ⟨v, h1, h2, h3⟩
theorem ParsePost.ok_ {w : World} {r : Except (Nat × Nat) RT} {e : Ending} {w' : World} {t : RT} {p : PT} (hr : r = .ok t) (h1 : e = .returned (.tuple #[p.val, .nilIface])) (h2 : NewP w.heap.size w' t p) (h3 : Fr [] w w') : ParsePost w r e w' := by
 subst hr; exact ⟨p, h1, h2, h3⟩
set_option maxRecDepth 100000 in
set_option maxHeartbeats 8000000 in
theorem parse_any {w : World} {A : Option Addr} {bs : List UInt8} {c : Nat} (h : Bytes w A bs) (hc : bs.length ≤ c) (hA : A = none → c = 0) (hcm : c ≤ maxLen) (hg : GlobOk w) :
    Calls Tryz.prog 53 #[.slice A bs.length c] w (ParsePost w (parseS bs)) := by
 obtain ⟨rb, hrb⟩ : ∃ rb, rb = w.heap.size := ⟨_, rfl⟩
 have HRB := Lib.hid hrb
 obtain ⟨R, hR⟩ : ∃ R, R = parseS bs := ⟨_, rfl⟩
 rw [← hR]
 unfold parseS at hR
 obtain ⟨L, hL⟩ : ∃ L, L = bs.length := ⟨_, rfl⟩
 rw [← hL] at hc hR ⊢
 obtain ⟨F, hF⟩ : ∃ F, F = 6 * L + 5 := ⟨_, rfl⟩
 rw [← hF] at hR
 have HFU := Lib.hid hF
 clear hF
 have HL := Lib.hid hL
 have h0 : 1 < w.heap.size := by
  obtain ⟨m, hm⟩ := hg
  exact World.block_lt_of_cell? w _ hm
 have H0 := Lib.hid h0
 unfold maxLen at hcm
 by_cases hbig : 1000 < L
 ·rw [if_pos hbig] at hR
  have HR := Lib.hid hR
  have hd : decide (1000 < L) = true := by simpa using hbig
  clear hR h hg hL h0
  go_enter Tryz.func53, Tryz.ntmps53
  go_wp2_with fail
  go_at_call 64
  refine calls_gen1 fun W hW => ?_
  have hfr1 : Fr [] w W := by rw [hW]; exact (Fr.refl [] w).alloc _
  have hz1 : Bk W rb 104 zeroP := by rw [hW, hrb]; exact Bk.new w _ _
  rw [← hrb]
  clear hW hrb
  refine (efault_any _ _ W).mono ?_
  rintro e w2 ⟨v, rfl, hv, hf2⟩
  have HV := Lib.hid hv; have HZ2 := Lib.hid (hz1.fr hf2 (by simp)); have HF2 := Lib.hid (hfr1.trans hf2)
  clear hv hf2 hz1 hfr1
  obtain ⟨⟨k0, k1, k2, k3, k4, k5, k6, k7⟩, z0, z1, z2, z3, z4, z5, z6, z7, hrl⟩ := HZ2.out.eightc
  go_wp2_with fail
  refine body_gen1 fun W' hW => ?_
  refine bodyPost_ret (v := .tuple #[.agg zeroP, v]) (by simp [results, Tryz.results53, go_sem, hW, k0, k1, k2, k3, k4, k5, k6, k7, hrl, zeroP]) rfl ?_
  have hset : Fr [rb] w2 W' := by rw [hW]; exact fr8 w2 rb _ _ _ _ _ _ _ _
  exact ParsePost.err HR.out rfl (HV.out.far8 HZ2.out hset) (HF2.out.trans' hset (by simp; have := HRB.out; omega))
 ·rw [if_neg hbig] at hR
  have HR := Lib.hid hR; have HB := Lib.hid h; have HG := Lib.hid hg; have HA := Lib.hid hA
  have hd : decide (1000 < L) = false := by simpa using hbig
  clear hR h hg hL hA
  go_enter Tryz.func53, Tryz.ntmps53
  go_wp2_with fail
  go_at_call 65
  refine calls_gen1 fun W hW => ?_
  have hfr1 : Fr [] w W := by rw [hW]; exact ((Fr.refl [] w).alloc _).alloc _
  have hz1 : Bk W rb 104 zeroP := by rw [hW, hrb]; exact (Bk.new w _ _).alloc _
  have hrd0 : Bk W (w.heap.size + 1) 138 #[.slice A L c, .int .i64 0, .int .i64 0] := by
   rw [hW]
   have := Bk.new (w.alloc (.cells zeroP 104)) 138 #[.slice A L c, .int .i64 0, .int .i64 0]
   simpa [zeroP] using this
  have hrd : Rdr W (w.heap.size + 1) A c bs 0 0 :=
   { blk := by rw [← HL.out]; exact hrd0
     byt := HB.out.fr_nil hfr1
     lt_ := fun hne a ha => by
      rcases HB.out with hx | ⟨a', ha', hb', -⟩
      ·exfalso; apply hne; simpa [byteVals] using hx
      ·rw [ha] at ha'; injection ha' with ha'; subst ha'; omega
     cap := by rw [← HL.out]; exact hc
     nil := HA.out
     capm := by unfold maxLen; exact hcm
     len := by rw [← HL.out]; omega
     at_ := Nat.zero_le _
     deep := by omega
     glob := HG.out.fr hfr1
     far := by omega }
  rw [← hrb] at hrd ⊢
  have HRD := Lib.hid hrd; have HZ := Lib.hid hz1; have HF := Lib.hid hfr1
  clear hW hrb hrd0 hrd hz1 hfr1
  refine ((read_ok F).1 W (rb + 1) A c bs 0 0 HRD.out (by rw [← HL.out, HFU.out]; omega)).mono ?_
  intro e w2 hp
  rcases hX : exprF bs F 0 0 [] with ⟨p, code⟩ | ⟨t, j⟩
  ·rw [hX] at hp
   have hr := HR.out
   rw [hX] at hr
   have HR2 : Hid (R = .error (p, code)) := Lib.hid hr
   obtain ⟨v, rfl, ⟨fg, rfl, hfb⟩, hf2⟩ := hp
   have HV := Lib.hid (show FaultV w2 _ (p : Int) (code : Int) from ⟨fg, rfl, hfb⟩)
   have HZ2 := Lib.hid (HZ.out.fr hf2 (by simp)); have HF2 : Hid (Fr [] w w2) := Lib.hid (HF.out.trans' hf2 (by simp; have := HRB.out; omega))
   clear hfb hf2 hX hr HR
   obtain ⟨⟨k0, k1, k2, k3, k4, k5, k6, k7⟩, z0, z1, z2, z3, z4, z5, z6, z7, hrl⟩ := HZ2.out.eightc
   unfold zeroP
   go_wp2_with fail
   refine body_gen1 fun W' hW => ?_
   have hbW : Bk W' rb 104 zeroP := by rw [hW]; exact (HZ2.out.put8 _ _ _ _ _ _ _ _).put8 _ _ _ _ _ _ _ _
   obtain ⟨⟨m0, m1, m2, m3, m4, m5, m6, m7⟩, -⟩ := hbW.eightc
   refine bodyPost_ret (v := .tuple #[.agg zeroP, .iface 110 (.pointer (some ⟨fg, 0, none⟩))]) (by simp [results, Tryz.results53, go_sem, m0, m1, m2, m3, m4, m5, m6, m7, zeroP]) rfl ?_
   have hset : Fr [rb] w2 W' := by rw [hW]; exact (fr8 w2 rb _ _ _ _ _ _ _ _).trans (fr8 _ rb _ _ _ _ _ _ _ _)
   exact ParsePost.err HR2.out rfl (HV.out.far8 HZ2.out hset) (HF2.out.trans' hset (by simp; have := HRB.out; omega))
  ·rw [hX] at hp
   have hr := HR.out
   rw [hX] at hr
   obtain ⟨p, rfl, hn, hrd, hf2⟩ := hp
   have HRD2 := Lib.hid hrd
   have HZ2 := Lib.hid (HZ.out.fr hf2 (by simp)); have HF2 : Hid (Fr [] w w2) := Lib.hid (HF.out.trans' hf2 (by simp; have := HRB.out; omega))
   have HN2 := Lib.hid hn
   have HRR : Hid ((if j < L then .error (j, 4) else .ok t) = R) := Lib.hid hr.symm
   have hlo : rb < W.heap.size := HZ.out.lt
   have hjl := HRD2.out.at_
   rw [← HL.out] at hjl
   clear hn hrd hf2 hX hr HR
   unfold PT.val
   obtain ⟨qn, hqn⟩ : ∃ qn, qn = p.l.length := ⟨_, rfl⟩
   rw [← hqn]
   have HQN := Lib.hid hqn
   clear hqn
   obtain ⟨-, c1, -, -, -⟩ := HRD2.out.cells
   have hgl2 := HRD2.out.blk.lt
   obtain ⟨⟨k0, k1, k2, k3, k4, k5, k6, k7⟩, z0, z1, z2, z3, z4, z5, z6, z7, hrl⟩ := HZ2.out.eightc
   by_cases hj : j < L
   ·have hr := HRR.out
    rw [if_pos hj] at hr
    have HR2 : Hid (R = .error (j, 4)) := Lib.hid hr.symm
    have hdj : decide (j < L) = true := by simpa using hj
    clear hr
    go_wp2_with fail
    go_at_call 64
    refine calls_gen1 fun W3 hW => ?_
    have hset : Fr [rb] w2 W3 := by rw [hW]; exact fr8 w2 rb _ _ _ _ _ _ _ _
    have hz3 : ∃ x0 x1 x2 x3 x4 x5 x6 x7, Bk W3 rb 104 #[x0, x1, x2, x3, x4, x5, x6, x7] := ⟨_, _, _, _, _, _, _, _, by rw [hW]; exact HZ2.out.put8 _ _ _ _ _ _ _ _⟩
    obtain ⟨x0, x1, x2, x3, x4, x5, x6, x7, hz3⟩ := hz3
    have HZ3 := Lib.hid hz3
    have HF3 : Hid (Fr [] w W3) := Lib.hid (HF2.out.trans' hset (by simp; have := HRB.out; omega))
    clear hW hset hz3 k0 k1 k2 k3 k4 k5 k6 k7 z0 z1 z2 z3 z4 z5 z6 z7 hrl
    refine (efault_any _ _ W3).mono ?_
    rintro e w4 ⟨v, rfl, hv, hf4⟩
    have HV := Lib.hid hv; have HZ4 := Lib.hid (HZ3.out.fr hf4 (by simp)); have HF4 := Lib.hid (HF3.out.trans hf4)
    clear hv hf4
    obtain ⟨⟨k0, k1, k2, k3, k4, k5, k6, k7⟩, z0, z1, z2, z3, z4, z5, z6, z7, hrl⟩ := HZ4.out.eightc
    go_wp2_with fail
    refine body_gen1 fun W' hW => ?_
    refine bodyPost_ret (v := .tuple #[.agg zeroP, v]) (by simp [results, Tryz.results53, go_sem, hW, k0, k1, k2, k3, k4, k5, k6, k7, hrl, zeroP]) rfl ?_
    have hset : Fr [rb] w4 W' := by rw [hW]; exact fr8 w4 rb _ _ _ _ _ _ _ _
    exact ParsePost.err HR2.out rfl (HV.out.far8 HZ4.out hset) (HF4.out.trans' hset (by simp; have := HRB.out; omega))
   ·have hr := HRR.out
    rw [if_neg hj] at hr
    have HR2 : Hid (R = .ok t) := Lib.hid hr.symm
    have hdj : decide (j < L) = false := by simpa using hj
    clear hr
    go_wp2_with fail
    refine body_gen1 fun W' hW => ?_
    have hbW : Bk W' rb 104 #[.int .i64 p.k, .int .u64 p.s0, .int .u64 p.s1, .int .u64 p.s2, .int .u64 p.s3, .int .i64 p.mn, .int .i64 p.mx, .slice p.A qn p.c] := by rw [hW]; exact (HZ2.out.put8 _ _ _ _ _ _ _ _).put8 _ _ _ _ _ _ _ _
    obtain ⟨⟨m0, m1, m2, m3, m4, m5, m6, m7⟩, -⟩ := hbW.eightc
    refine bodyPost_ret (v := .tuple #[p.val, .nilIface]) (by simp [results, Tryz.results53, go_sem, m0, m1, m2, m3, m4, m5, m6, m7, PT.val, HQN.out]) rfl ?_
    have hset : Fr [rb] w2 W' := by rw [hW]; exact (fr8 w2 rb _ _ _ _ _ _ _ _).trans (fr8 _ rb _ _ _ _ _ _ _ _)
    exact ParsePost.ok_ HR2.out rfl ((HN2.out.fr hset (by simp; omega)).lower HF.out.size) (HF2.out.trans' hset (by simp; have := HRB.out; omega))
end Go.Proofs.YtfbmogccmlikaaaGreatDoor
namespace Go.Proofs.YtfbmogccmlikaaaGreatDoor
open Go.RowKit Go.ChangeMaps
set_option linter.unusedVariables false
set_option linter.unusedSimpArgs false
def FinderAt (w : World) (lo fb : Nat) (L : List Sp) : Prop := ∃ A cap, Bk w fb 114 #[.slice A L.length cap] ∧ w.ownsRow lo 150 7 (.slice A L.length cap) L.length (L.flatMap Sp.cells)
def NewPost (w : World) (r : Except (Nat × Nat) RT) (e : Ending) (w' : World) : Prop := Fr [] w w' ∧ match r with
 | .error (p, code) => ∃ v, e = .returned (.tuple #[.pointer none, v]) ∧ FaultV w' v p code
 | .ok t => if 4000 ≤ sizP (toP t) then ∃ v, e = .returned (.tuple #[.pointer none, v]) ∧ FaultV w' v 0 5
  else ∃ fb, e = .returned (.tuple #[.pointer (some ⟨fb, 0, none⟩), .nilIface]) ∧ w.heap.size ≤ fb ∧ FinderAt w' w.heap.size fb (progT t)
theorem NewPost.big {w w' : World} {t : RT} {e : Ending} {v : Value} (hs : 4000 ≤ sizP (toP t)) (he : e = .returned (.tuple #[.pointer none, v])) (hv : FaultV w' v 0 5) (hf : Fr [] w w') : NewPost w (.ok t) e w' := by
 refine ⟨hf, ?_⟩
 show if _ then _ else _
 rw [if_pos hs]; exact ⟨v, he, hv⟩
theorem NewPost.fin {w w' : World} {t : RT} {e : Ending} {fb : Nat} (hs : sizP (toP t) < 4000) (he : e = .returned (.tuple #[.pointer (some ⟨fb, 0, none⟩), .nilIface])) (hb : w.heap.size ≤ fb) (hv : FinderAt w' w.heap.size fb (progT t)) (hf : Fr [] w w') : NewPost w (.ok t) e w' := by
 refine ⟨hf, ?_⟩
 show if _ then _ else _
 rw [if_neg (by omega)]; exact ⟨fb, he, hb, hv⟩
theorem comp_read {w : World} {t : RT} {p : PT} {n : Nat} (hn : NewP n w t p) (hr : rightT t = true) (hc : cntT t ≤ 1199) :
    Calls Tryz.prog 54 #[p.val] w fun e w' => Fr [] w w' ∧ (4000 ≤ sizP (toP t) ∧ e = .returned (.tuple #[.slice none 0 0, .iface 52 (.int .i64 5)]) ∨
     sizP (toP t) < 4000 ∧ ∃ v, e = .returned (.tuple #[v, .nilIface]) ∧ StepsNew w (progT t) v w') := by
 refine (compile_all hn.mem (by rw [RepP.cnt t p hn.rep]; exact hc)).mono ?_
 rintro e w' ⟨hf, h⟩
 rw [RepP.right t p hn.rep, hr, RepP.siz t p hn.rep, RepP.lay t p 0 hn.rep] at h
 refine ⟨hf, ?_⟩
 rcases h with ⟨h1, -⟩ | ⟨-, h1, h2⟩ | ⟨-, h1, h2⟩
 ·cases h1
 ·exact .inl ⟨h1, h2⟩
 ·exact .inr ⟨h1, h2⟩
set_option maxRecDepth 100000 in
set_option maxHeartbeats 8000000 in
theorem new_any {w : World} {A : Option Addr} {bs : List UInt8} {c : Nat} (h : Bytes w A bs) (hl : bs.length ≤ 150) (hc : bs.length ≤ c) (hA : A = none → c = 0) (hcm : c ≤ maxLen) (hg : GlobOk w) :
    Calls Tryz.prog 45 #[.slice A bs.length c] w (NewPost w (parseS bs)) := by
 have hpar := parse_any h hc hA hcm hg
 obtain ⟨R, hR⟩ : ∃ R, R = parseS bs := ⟨_, rfl⟩
 rw [← hR] at hpar ⊢
 obtain ⟨n, hn⟩ : ∃ n, n = bs.length := ⟨_, rfl⟩
 rw [← hn] at hl hpar ⊢
 have HP := Lib.hid hpar; have HR := Lib.hid hR; have HN := Lib.hid hn
 clear h hpar hR hn hg
 go_enter Tryz.func45, Tryz.ntmps45
 go_wp2_with fail
 go_at_call 53
 refine HP.out.mono ?_
 intro e w1 hp
 rcases R with ⟨p, code⟩ | t
 ·obtain ⟨v, rfl, ⟨fg, rfl, hfb⟩, hf⟩ := hp
  have HF := Lib.hid hf; have HFB := Lib.hid hfb
  clear hf hfb
  unfold zeroP
  go_wp2_with fail
  go_ret2
  exact ⟨HF.out.alloc _, _, rfl, fg, rfl, HFB.out.fr ((Fr.refl [] w1).alloc _) (by simp)⟩
 ·obtain ⟨p, rfl, hn, hf⟩ := hp
  obtain ⟨hrt, hct⟩ := parse_good HR.out.symm
  have HF := Lib.hid hf; have HNP := Lib.hid hn; have HRT := Lib.hid hrt
  have HCT : Hid (cntT t ≤ 1199) := Lib.hid (by rw [← HN.out] at hct; omega)
  clear hf hn hrt hct HP
  unfold PT.val
  go_wp2_with fail
  go_at_call 54
  refine (comp_read (HNP.out.fr_nil ((Fr.refl [] w1).alloc _)) HRT.out HCT.out).mono ?_
  rintro e w2 ⟨hf2, ⟨hs, rfl⟩ | ⟨hs, v, rfl, A', cap, rfl, hown⟩⟩
  ·have HF2 := Lib.hid ((HF.out.alloc _).trans hf2)
   clear hf2
   go_wp2_with fail
   go_ret2
   exact NewPost.big hs rfl ⟨w2.heap.size, rfl, Bk.new _ _ _⟩ (HF2.out.alloc _)
  ·have HF2 := Lib.hid ((HF.out.alloc _).trans hf2); have HOWN := Lib.hid hown
   have hsz : w.heap.size ≤ w2.heap.size := HF2.out.size
   clear hf2 hown
   go_wp2_with fail
   go_ret2
   refine NewPost.fin hs rfl hsz ⟨A', cap, Bk.new _ _ _, ?_⟩ (HF2.out.alloc _)
   exact own_rebase (own_fr HOWN.out ((Fr.refl [] w2).alloc _) (by simp)) (fun g hg => Nat.le_trans (by have h1 := HF.out.size; simp; omega) (own_base HOWN.out g hg).1)
end Go.Proofs.YtfbmogccmlikaaaGreatDoor
