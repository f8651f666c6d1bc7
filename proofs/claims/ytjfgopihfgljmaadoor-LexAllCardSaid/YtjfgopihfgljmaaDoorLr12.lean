/-
  LexAll: the walk, under what the listed variables hold. (Under way.)
-/
import Derived.Test.YtjfgopihfgljmaaDoorLr11
import Derived.Test.YtjfgopihfgljmaaDoorCodeL
import Derived.Test.YtjfgopihfgljmaaDoorAs
import Derived.Test.YtjfgopihfgljmaaDoorLexE
import Derived.Test.YtjfgopihfgljmaaDoorLexV
import Derived.Deep.MidRow
namespace Go.Proofs.YtjfgopihfgljmaaDoor
open Go.RowKit
set_option linter.unusedVariables false
set_option linter.unusedSimpArgs false

section
variable {P : Program} {Q : Exit → Act → World → Prop} {md : Region.Mode} {G : World → World → Prop} {S : World → Prop} {l r : List Oper} {o : Oper} {i n : Nat} {listed : Array Bool} {a : Act} {w : World} {v : Value}
theorem M_row (ty : TypeId) (x : Operand) (su : Setup P l Q G S) (ho : l.drop i = o :: r) (hop : o.op = .load ty x) (b off : Nat) (hx : a.eval x = .pointer (some ⟨b, off, none⟩)) (cs : List Value) (d : TypeDesc) (hc : ∀ W, S W → W.rangeAt b off cs) (hu : P.underlying ty = some d) (hd : d.isRow = true) (hi : (P.info? ty).map (·.size) = some cs.length)
    (hB : ((Region.ready md l.toArray listed).contains i && Region.free md l.toArray listed i) = true) (hS : S w) (hw : Region.wanted o (yielded l.toArray a.tmps) = true)
    (hr : wpAnyM P md l.toArray Q G S n (listed.setIfInBounds i true) (a.put o.dst (.agg cs.toArray)) w) : wpAnyM P md l.toArray Q G S (n + 1) listed a w := by
  refine M_val su ho hB hS hw (fun w' hS' => ?_) hr
  unfold execOp
  simp only [hop, hx, Instr.loadAt, Instr.sureAddr, Sem.run_bind, Sem.run_pure, Result.andThen_ok, run_loadVar_mid w' b off ty cs d (hc w' hS') hu hd hi]
theorem wp_call_ {K : Act → World → Prop} {f : FuncId} {args : Array Value} {R : Value → World → Prop} (hr : (execOp a.eval o).run P w = .ok (.enter f args) w) (hc : Calls P f args w fun e w' => ∃ v, e = .returned v ∧ R v w') (hK : ∀ v w', R v w' → K (a.put o.dst v) w') : o.wp P a w K Q := by
  unfold Oper.wp
  rw [hr, Oper.upon_enter]
  exact hc.mono fun e w' ⟨v, he, h⟩ => by subst he; exact hK v w' h
end
theorem rowDec : (Tryd.prog.info? 41).map (·.size) = some 3 := by kernel_rfl
/-- The library's variable. -/
def ErrT (w : World) : Prop := w.cell? ⟨0, 0, none⟩ = some (.iface 89 (.agg #[.pointer (some ⟨2, 26, none⟩)]))
theorem ErrT.fr {w w' : World} (h : ErrT w) (hf : Fr [] w w') : ErrT w' := (hf.cell (World.block_lt_of_cell? w _ h) (by simp)).trans h
theorem gotL_arr (L N : Value) (e p : Int) : (gotL L N e p).toArray = #[L, N, .int .i64 e, .int .i64 p] := rfl
theorem as_fault {w : World} {v : Value} {p c : Int} {t : Nat} {old : Value} (h : ∃ b, v = .iface 34 (.pointer (some ⟨b, 0, none⟩)) ∧ Bk w b 38 #[.int .i64 p, .iface 51 (.int .i64 c)]) (hg : ErrT w) (ht : Bk w t 34 #[old]) :
    Calls Tryd.prog 8 #[v, .iface 36 (.pointer (some ⟨t, 0, none⟩))] w fun e w' => e = .returned (.bool true) ∧ ∃ g, Bk w' t 34 #[.pointer (some ⟨g, 0, none⟩)] ∧ Bk w' g 38 #[.int .i64 p, .iface 51 (.int .i64 c)] ∧ Fr [t] w w' := by
  obtain ⟨g, rfl, hb⟩ := h
  refine (as_hit ⟨g, 0, none⟩ ⟨t, 0, none⟩ old w hg (ht.cell_ rfl) (ht.frozen 0)).mono ?_
  rintro e w' ⟨rfl, rfl⟩
  have hne : g ≠ t := hb.ne_ ht (by decide)
  refine ⟨rfl, g, ?_, ?_, ?_⟩
  · exact ((((ht.alloc _).alloc _).alloc _).alloc _).put 0 _
  · exact ((((hb.alloc _).alloc _).alloc _).alloc _).far hne _
  · exact (((((Fr.refl [t] w).alloc _).alloc _).alloc _).alloc _).setCell (.inl (by simp)) _
set_option maxRecDepth 100000 in
set_option maxHeartbeats 16000000 in
theorem lexAll_walk {w : World} (ht : ErrT w) {A : Option Addr} {c : Nat} {bs : List UInt8} (hb : Bytes w A bs) (hc : bs.length ≤ c) (hcm : c ≤ maxLen) (hA : A = none → c = 0) :
    Calls Tryd.prog 3 #[.slice A bs.length c] w fun e w' => e = .returned (.bool true) ∧ Fr [] w w' := by
  obtain ⟨n, hn⟩ : ∃ n, n = bs.length := ⟨_, rfl⟩
  have hnm : n ≤ 9223372036854775807 := by unfold maxLen at hcm; omega
  rw [← hn]
  have HT := Lib.hid ht; have HB := Lib.hid hb; have HC := Lib.hid hc; have HA := Lib.hid hA; have HN := Lib.hid hn
  clear ht hb hc hcm hA hn
  go_enter Tryd.func3, Tryd.ntmps3
  go_upto_region 3 with (go_at_call 4; refine (awake_any _).mono ?_; rintro e w1 ⟨rfl, hf1⟩; have HF1 := Lib.hid hf1; clear hf1)
  obtain ⟨MID, hMID⟩ : ∃ MID : Bool, MID = decide (400 < n ∧ n ≤ 16384) := ⟨_, rfl⟩
  have HMID := Lib.hid hMID
  clear hMID
  go_cut [17] from 10 to 17 (fun v17 wx => v17 = .bool MID ∧ wx = w1)
  case first =>
    by_cases h1 : 400 < n
    · have m1 : (400 : Int) < (n : Int) := by omega
      by_cases h2 : n ≤ 16384
      · have m2 : (n : Int) ≤ 16384 := by omega
        have HX : Hid (MID = true) := Lib.hid (by rw [HMID.out]; simp [h1, h2])
        clear h1 h2
        go_wp2_with fail
        go_meet
        case rel => exact ⟨by rw [HX.out], rfl⟩
      · have m2 : ¬ (n : Int) ≤ 16384 := by omega
        have HX : Hid (MID = false) := Lib.hid (by rw [HMID.out]; simp [h2])
        clear h1 h2
        go_wp2_with fail
        go_meet
        case rel => exact ⟨by rw [HX.out], rfl⟩
    · have m1 : ¬ (400 : Int) < (n : Int) := by omega
      have HX : Hid (MID = false) := Lib.hid (by rw [HMID.out]; simp [h1])
      clear h1
      go_wp2_with fail
      go_meet
      case rel => exact ⟨by rw [HX.out], rfl⟩
  case rest =>
    obtain ⟨rfl, rfl⟩ := hcut
    cases MID with
    | true =>
      go_wp2_with fail
      go_ret
      exact ⟨rfl, HF1.out⟩
    | false =>
      have HAL := Lib.hid (all_any (w := wc) (src := bs) (HB.out.fr_nil HF1.out) HC.out HA.out)
      rw [← HN.out] at HAL
      go_upto_region 6 with (go_at_call 5; refine HAL.out.mono ?_; intro e w2 hp; rcases hlx : lexAllM bs with ⟨er, pl⟩ | ts <;> (unfold AllPost at hp; rw [hlx] at hp; have HLX := Lib.hid hlx; clear hlx) <;> first | (obtain ⟨b, rfl, hv, hf2⟩ := hp; have HV := Lib.hid hv; have HF2 := Lib.hid hf2; clear hv hf2) | (obtain ⟨L, rfl, hts, hlo, hf2⟩ := hp; have HTS := Lib.hid hts; have HF2 := Lib.hid hf2; clear hts hlo hf2))
      · have hat2 := (HB.out.fr_nil HF1.out).fr_nil HF2.out
        have HB2 := Lib.hid hat2
        have HRA := Lib.hid (rall_any w2 bs (by rw [← HN.out]; exact hnm))
        clear hat2
        go_upto_region 7 with (first
          | (refine wpList_str rfl 22 9 (.tmp 23) rfl 5 Tryd.underlying22 Tryd.underlying5 Tryd.underlying9 A n c (by first | rfl | (simp [Act.eval]; done)) bs HB2.out HN.out.symm ?_)
          | (go_at_call 6; refine HRA.out.mono ?_; rintro e w3 ⟨hf3, hp⟩; rw [HLX.out] at hp; dsimp only at hp; rw [gotL_arr] at hp; obtain rfl := hp; have HF3 := Lib.hid hf3; clear hf3))
        obtain ⟨g, hg⟩ : ∃ g, g = w3.heap.size := ⟨_, rfl⟩
        obtain ⟨w4, hw4⟩ : ∃ w4, w4 = w3.alloc (.cells #[.slice none 0 0, .slice none 0 0, .int .i64 (er : Int), .int .i64 (pl : Int)] 31) := ⟨_, rfl⟩
        have hb4 : Bk w4 g 31 #[.slice none 0 0, .slice none 0 0, .int .i64 (er : Int), .int .i64 (pl : Int)] := by rw [hw4, hg]; exact Bk.new w3 _ _
        have hf4 : Fr [] w2 w4 := by rw [hw4]; exact HF3.out.alloc _
        rw [← hw4, ← hg]
        clear hw4 hg
        have her := lexAllM_err HLX.out
        have HCD : Hid (∀ W, Fr [] w4 W → Calls Tryd.prog 7 #[.iface 34 (.pointer (some ⟨b, 0, none⟩))] W fun e w' => e = .returned (.int .i64 (er : Int)) ∧ W = w') := Lib.hid (fun W hW => by
          refine code_fault (p := (pl : Int)) ?_ (by omega) (by omega)
          obtain ⟨b', h1, h2⟩ := HV.out
          exact ⟨b', h1, (h2.fr hf4 (by simp)).fr hW (by simp)⟩)
        have e0 : w4.cell? ⟨g, 0, none⟩ = some (.slice none 0 0) := hb4.cell_ rfl
        have e2 : w4.cell? ⟨g, 2, none⟩ = some (.int .i64 (er : Int)) := hb4.cell_ rfl
        have e3 : w4.cell? ⟨g, 3, none⟩ = some (.int .i64 (pl : Int)) := hb4.cell_ rfl
        have hn1 : ((er : Int) != (er : Int)) = false := by simp
        have her0 : ((er : Int) != 0) = true := by simp; omega
        have HB4 := Lib.hid hb4; have HF4 := Lib.hid hf4
        clear hb4 hf4 her
        go_quiet ((go_at_call 7; exact Calls.quiet_of_same ((HCD.out _ (by first | exact Fr.refl _ _ | exact (Fr.refl _ _).drewN _ | exact (Fr.refl _ _).drew)).mono fun _ _ h => ⟨h.1, h.2.symm⟩)))
        obtain ⟨wq, hwq⟩ : ∃ wq, wq = w4.drewN nq := ⟨_, rfl⟩
        rw [← hwq]
        have hfq : Fr [] w4 wq := by rw [hwq]; exact (Fr.refl [] w4).drewN nq
        clear hwq e0 e2 e3
        have hbq := HB4.out.fr hfq (by simp)
        have e2 : wq.cell? ⟨g, 2, none⟩ = some (.int .i64 (er : Int)) := hbq.cell_ rfl
        have e3 : wq.cell? ⟨g, 3, none⟩ = some (.int .i64 (pl : Int)) := hbq.cell_ rfl
        have HFQ := Lib.hid (HF4.out.trans hfq); have HBQ := Lib.hid hbq
        clear hfq hbq
        go_upto_region 11 with fail
        obtain ⟨t, hgt⟩ : ∃ t, t = wq.heap.size := ⟨_, rfl⟩
        obtain ⟨w5, hw5⟩ : ∃ w5, w5 = wq.alloc (.cells #[.pointer none] 34) := ⟨_, rfl⟩
        have hbt : Bk w5 t 34 #[.pointer none] := by rw [hw5, hgt]; exact Bk.new _ _ _
        have hf5 : Fr [] wq w5 := by rw [hw5]; exact (Fr.refl [] wq).alloc _
        rw [← hw5, ← hgt]
        have htl : w.heap.size ≤ t := by have h1 := HF1.out.size; have h2 := HF2.out.size; have h3 := HFQ.out.size; omega
        have HTL := Lib.hid htl
        have HAS : Hid (∀ W, Fr [] w5 W → Calls Tryd.prog 8 #[.iface 34 (.pointer (some ⟨b, 0, none⟩)), .iface 36 (.pointer (some ⟨t, 0, none⟩))] W fun e w' => e = .returned (.bool true) ∧ ∃ gg, Bk w' t 34 #[.pointer (some ⟨gg, 0, none⟩)] ∧ Bk w' gg 38 #[.int .i64 (pl : Int), .iface 51 (.int .i64 (er : Int))] ∧ Fr [t] W w') := Lib.hid (fun W hW => by
          refine as_fault (old := .pointer none) ?_ (HT.out.fr ((((HF1.out.trans HF2.out).trans HFQ.out).trans hf5).trans hW)) (hbt.fr hW (by simp))
          obtain ⟨b', h1, h2⟩ := HV.out
          exact ⟨b', h1, (h2.fr ((HFQ.out.trans hf5)) (by simp)).fr hW (by simp)⟩)
        have HB5 := Lib.hid (HBQ.out.fr hf5 (by simp))
        have HF5 := Lib.hid (((HF1.out.trans HF2.out).trans HFQ.out).trans hf5)
        have HBT := Lib.hid hbt
        clear hw5 hgt hbt hf5 e2 e3 htl
        go_region_with (go_at_call 8; refine (HAS.out _ (by first | exact Fr.refl _ _ | exact (Fr.refl _ _).drew | exact (Fr.refl _ _).drewN _)).mono ?_; rintro e w7 ⟨rfl, gg, h1, h2, h3⟩; have d0 : w7.cell? ⟨t, 0, none⟩ = some (.pointer (some ⟨gg, 0, none⟩)) := h1.cell_ rfl; have d1 : w7.cell? ⟨gg, 0, none⟩ = some (.int .i64 (pl : Int)) := h2.cell_ rfl; have hlt1 := h1.lt; have hlt2 := h2.lt; have hgt2 : g ≠ t := HB5.out.ne_ HBT.out (by decide); have d3 : w7.cell? ⟨g, 3, none⟩ = some (.int .i64 (pl : Int)) := (Bk.fr (by first | exact HB5.out | exact HB5.out.drew | exact HB5.out.drewN _) h3 (by simpa using hgt2)).cell_ rfl; have HF7 := Lib.hid h3; clear h1 h2 h3)
        all_goals
          go_wp2_with fail
          go_ret
          refine ⟨rfl, (HF5.out.trans' (l' := [t]) (by first | exact HF7.out | exact (Fr.refl [t] _).drew.trans HF7.out | exact ((Fr.refl [t] _).drewN _).trans HF7.out) (by simp; exact HTL.out))⟩
      · have HTS := HV
        have HF2x := HF2
        clear HF2 HV
        have HF2 := Lib.hid HF2x.out.2
        clear HF2x
        obtain ⟨bL, cap, rfl, hl1, hl2, hbl, hcl⟩ := Toks.cells_ HTS.out (lexAllM_ne HLX.out)
        obtain ⟨m, hm⟩ : ∃ m, m = ts.length := ⟨_, rfl⟩
        have hm63 : m ≤ 9223372036854775807 := by unfold maxLen at hl2; omega
        rw [← hm]
        have HCL := Lib.hid hcl; have HM := Lib.hid hm
        have hat2 := (HB.out.fr_nil HF1.out).fr_nil HF2.out
        have HB2 := Lib.hid hat2
        have HRA := Lib.hid (rall_any w2 bs (by rw [← HN.out]; exact hnm))
        clear hat2 hcl hm hl1 hl2 hbl
        go_upto_region 7 with (first
          | (refine wpList_str rfl 22 9 (.tmp 23) rfl 5 Tryd.underlying22 Tryd.underlying5 Tryd.underlying9 A n c (by first | rfl | (simp [Act.eval]; done)) bs HB2.out HN.out.symm ?_)
          | (go_at_call 6; refine HRA.out.mono ?_; rintro e w3 ⟨hf3, hp⟩; rw [HLX.out] at hp; dsimp only at hp; obtain ⟨GA, gc, GB, gd, xs, he, ho1, ho2, hnr⟩ := hp; rw [gotL_arr, ← HM.out] at he; obtain rfl := he; rw [← HM.out] at ho1 ho2; have HO1 := Lib.hid ho1; have HO2 := Lib.hid ho2; have HNR := Lib.hid hnr; have HF3 := Lib.hid hf3; clear hf3 ho1 ho2 hnr))
        obtain ⟨g, hg⟩ : ∃ g, g = w3.heap.size := ⟨_, rfl⟩
        obtain ⟨w4, hw4⟩ : ∃ w4, w4 = w3.alloc (.cells #[.slice GA m gc, .slice GB m gd, .int .i64 0, .int .i64 0] 31) := ⟨_, rfl⟩
        have hb4 : Bk w4 g 31 #[.slice GA m gc, .slice GB m gd, .int .i64 0, .int .i64 0] := by rw [hw4, hg]; exact Bk.new w3 _ _
        have hf34 : Fr [] w3 w4 := by rw [hw4]; exact (Fr.refl [] w3).alloc _
        rw [← hw4, ← hg]
        have e0 : w4.cell? ⟨g, 0, none⟩ = some (.slice GA m gc) := hb4.cell_ rfl
        have e2 : w4.cell? ⟨g, 2, none⟩ = some (.int .i64 0) := hb4.cell_ rfl
        have hn1 : ((m : Int) != (m : Int)) = false := by simp
        have HB4 := Lib.hid hb4; have HF34 := Lib.hid hf34
        clear hw4 hg hb4 hf34
        go_quiet ((go_at_call 7; exact Calls.quiet_of_same ((code_nil _).mono fun _ _ h => ⟨h.1, h.2.symm⟩)))
        obtain ⟨wq, hwq⟩ : ∃ wq, wq = w4.drewN nq := ⟨_, rfl⟩
        rw [← hwq]
        have hfq : Fr [] w4 wq := by rw [hwq]; exact (Fr.refl [] w4).drewN nq
        clear hwq e0 e2
        have hbq := HB4.out.fr hfq (by simp)
        have e2 : wq.cell? ⟨g, 2, none⟩ = some (.int .i64 0) := hbq.cell_ rfl
        have HBQ := Lib.hid hbq
        have HF3Q := Lib.hid (HF34.out.trans hfq)
        have HFWQ := Lib.hid ((HF1.out.trans HF2.out).trans (HF3.out.trans (HF34.out.trans hfq)))
        clear hfq hbq hn1
        go_upto_region 13 with fail
        go_wp2_with fail
        clear e2
        go_loopw [7] (fun v7 wr => ∃ i : Nat, v7 = .int .i64 (i : Int) ∧ i ≤ m ∧ Fr [] wq wr) (fun v7 _ => m + 1 - (intOf v7).toNat)
        case atStart => exact ⟨0, rfl, Nat.zero_le _, Fr.refl _ _⟩
        case round =>
          obtain ⟨i, rfl, hi, hfr⟩ := hrel
          have HFR := Lib.hid hfr
          clear hfr
          rcases Nat.lt_or_ge i m with him | him
          · have himI : (i : Int) < (m : Int) := by omega
            obtain ⟨t, ht⟩ : ∃ t, ts[i]? = some t := ⟨ts[i]'(by rw [← HM.out]; exact him), List.getElem?_eq_getElem _⟩
            obtain ⟨x, hx⟩ : ∃ x, xs[i]? = some x := ⟨xs[i]'(by rw [HNR.out.1, ← HM.out]; exact him), List.getElem?_eq_getElem _⟩
            obtain ⟨wz, hwz⟩ : ∃ wz, wz = wr.drew := ⟨_, rfl⟩
            have hfz : Fr [] wq wz := by rw [hwz]; exact HFR.out.drew
            have h3z : Fr [] w3 wz := HF3Q.out.trans hfz
            have htv := lexAllM_v HLX.out t (List.mem_of_getElem? ht)
            have hlast := tok_hi htv
            have hnx := HNR.out.2 i t x ht hx
            obtain ⟨DA, dc, rfl, hdl, hda, -⟩ := hnx
            have hx2 : ∀ y ∈ xs, y.length = 2 := fun y hy => by
              obtain ⟨k, hk⟩ := List.mem_iff_getElem?.1 hy
              have hkl : k < ts.length := by rw [← HNR.out.1]; exact (List.getElem?_eq_some_iff.1 hk).1
              obtain ⟨_, _, he, -⟩ := HNR.out.2 k _ y (List.getElem?_eq_getElem hkl) hk
              rw [he]; rfl
            obtain ⟨ga, rfl, -, -, hga⟩ := RR.own_cells (own_keep HO1.out (KeepB.of_nil HF3Q.out)) (fun h0 => by have h1 := RR.flat_at tk0_len t 0 (by omega) ts i ht; rw [h0] at h1; cases h1)
            obtain ⟨gb, rfl, -, -, hgb⟩ := RR.own_cells (own_keep HO2.out (KeepB.of_nil HF3Q.out)) (fun h0 => by have h1 := flatten_at xs hx2 i 0 _ hx (by omega); rw [h0] at h1; cases h1)
            obtain ⟨l, hl⟩ : ∃ l, l = digs t.v := ⟨_, rfl⟩
            have hll : l.length ≤ 1000 := by rw [hl]; have := digs_len htv; omega
            rw [← hl] at hdl hda hx
            obtain ⟨dl, hdln⟩ : ∃ n, n = l.length := ⟨_, rfl⟩
            rw [← hdln] at hdl hx
            have hsum : digs (t.v / 18446744073709551616 * 18446744073709551616 + t.v % 18446744073709551616) = l := by rw [tok_sum, hl]
            have hlow := tok_lo t.v
            have hall : ∀ W, Fr [] wz W → TkAt W bL i t ∧ (W.cell? ⟨ga, i * 6, none⟩ = some (.int .i64 (t.k : Int)) ∧ W.cell? ⟨ga, i * 6 + 1, none⟩ = some (.int .i64 (t.p : Int)) ∧ W.cell? ⟨ga, i * 6 + 2, none⟩ = some (.string ⟨t.s.toArray⟩)) ∧ W.cell? ⟨g, 0, none⟩ = some (.slice (some ⟨ga, 0, none⟩) m gc) ∧ W.cell? ⟨g, 1, none⟩ = some (.slice (some ⟨gb, 0, none⟩) m gd) ∧ W.rangeAt gb (i * 2) [.bool false, .slice DA dl dc] := fun W hW => by
              have hqW := hfz.trans hW
              have hgl : ∀ j v, wq.cell? ⟨ga, j, none⟩ = some v → W.cell? ⟨ga, j, none⟩ = some v := fun j v h => (hqW.cell (World.block_lt_of_cell? _ _ h) (by simp)).trans h
              have hgm : ∀ j v, wq.cell? ⟨gb, j, none⟩ = some v → W.cell? ⟨gb, j, none⟩ = some v := fun j v h => (hqW.cell (World.block_lt_of_cell? _ _ h) (by simp)).trans h
              have hbW := HBQ.out.fr hqW (by simp)
              refine ⟨HCL.out W ((HF3.out.trans h3z).trans hW) i t ht, ⟨hgl _ _ (hga _ _ (RR.flat_at tk0_len t 0 (by omega) ts i ht)), hgl _ _ (hga _ _ (RR.flat_at tk0_len t 1 (by omega) ts i ht)), hgl _ _ (hga _ _ (RR.flat_at tk0_len t 2 (by omega) ts i ht))⟩, hbW.cell_ rfl, hbW.cell_ rfl, fun j v hv => ?_⟩
              have hj : j < 2 := (List.getElem?_eq_some_iff.1 hv).1
              exact hgm _ _ (hgb _ _ ((flatten_at xs hx2 i j _ hx hj).trans hv))
            have hnu : NumV wz [.bool false, .slice DA dl dc] false l := ⟨DA, dc, by rw [hdln], by rw [← hdln]; exact hdl, hda.fr_nil h3z⟩
            obtain ⟨tk, htk⟩ : ∃ n, n = t.k := ⟨_, rfl⟩
            obtain ⟨tp, htp⟩ : ∃ n, n = t.p := ⟨_, rfl⟩
            obtain ⟨TS, hTS⟩ : ∃ S, S = (⟨t.s.toArray⟩ : ByteArray) := ⟨_, rfl⟩
            obtain ⟨hi_, hhi⟩ : ∃ x : Nat, x = t.v / 18446744073709551616 := ⟨_, rfl⟩
            obtain ⟨lo_, hlo⟩ : ∃ x : Nat, x = t.v % 18446744073709551616 := ⟨_, rfl⟩
            unfold TkAt at hall
            rw [← htk, ← htp, ← hTS, ← hhi, ← hlo] at hall
            rw [← hhi, ← hlo] at hsum
            rw [← hhi] at hlast
            rw [← hlo] at hlow
            have hdec : ∀ W, Fr [] wz W → W.rangeAt bL (i * 6 + 3) [.bool false, .int .u64 (hi_ : Int), .int .u64 (lo_ : Int)] := fun W hW j v hv => by
              obtain ⟨⟨-, -, -, d3, d4, d5⟩, -⟩ := hall W hW
              rcases j with _ | _ | _ | j
              · injection hv with hv; subst hv; exact d3
              · injection hv with hv; subst hv; exact d4
              · injection hv with hv; subst hv; exact d5
              · simp at hv
            have hrow : ∀ W, Fr [] wz W → W.rangeAt gb (i * 2) [.bool false, .slice DA dl dc] := fun W hW => (hall W hW).2.2.2.2
            have hall2 : ∀ W, Fr [] wz W → W.cell? ⟨bL, i * 6, none⟩ = some (.int .i64 (tk : Int)) ∧ W.cell? ⟨bL, i * 6 + 1, none⟩ = some (.int .i64 (tp : Int)) ∧ W.cell? ⟨bL, i * 6 + 2, none⟩ = some (.string TS) ∧ W.cell? ⟨ga, i * 6, none⟩ = some (.int .i64 (tk : Int)) ∧ W.cell? ⟨ga, i * 6 + 1, none⟩ = some (.int .i64 (tp : Int)) ∧ W.cell? ⟨ga, i * 6 + 2, none⟩ = some (.string TS) ∧ W.cell? ⟨g, 0, none⟩ = some (.slice (some ⟨ga, 0, none⟩) m gc) ∧ W.cell? ⟨g, 1, none⟩ = some (.slice (some ⟨gb, 0, none⟩) m gd) := fun W hW => by
              obtain ⟨⟨a0, a1, a2, -⟩, ⟨b0, b1, b2⟩, c0, c1, -⟩ := hall W hW
              exact ⟨a0, a1, a2, b0, b1, b2, c0, c1⟩
            have HALL := Lib.hid hall2; have HDEC := Lib.hid hdec; have HROW := Lib.hid hrow; have HNU := Lib.hid hnu; have HFZ := Lib.hid hfz; have HLL := Lib.hid hll; have HSUM := Lib.hid hsum; have HHI := Lib.hid hlast; have HLO := Lib.hid hlow
            clear ht hx h3z htv hlast hdl hda hx2 hga hgb hl hll hdln hsum hlow hall hnu htk htp hTS hhi hlo hdec hrow hall2 hfz
            go_upto_region 15 with fail
            refine wp_region_M_ (G := fun a b => Fr [] a b) (S := fun W => Fr [] wz W) ⟨fun _ => Fr.refl _ _, fun a b c h k => h.trans k, fun a b h k => h.trans k, by kernel_rfl, fun _ _ d _ _ h => by cases d <;> exact h⟩ (by kernel_rfl) fun su => ?_
            have SU := Lib.hid su
            rw [← hwz]
            have HS : Hid (Fr [] wz wz) := Lib.hid (Fr.refl _ _)
            clear su hwz
            refine M_move (i := 0) _ SU.out rfl rfl (by kernel_rfl) HS.out rfl ?_
            simp only [Act.put, Act.eval, PE]
            refine M_move (i := 1) _ SU.out rfl rfl (by kernel_rfl) HS.out rfl ?_
            simp only [Act.put, Act.eval, PE]
            refine M_val (i := 2) (v := .pointer (some ⟨bL, i * 6, none⟩)) SU.out rfl (by kernel_rfl) HS.out rfl (fun W hS => ?_) ?_
            · obtain ⟨a0, a1, a2, b0, b1, b2, c0, c1⟩ := HALL.out W hS; have hS2 := hS
              go_simp
              first | done | rfl | omega | (simp; done) | (simp; omega)
            simp only [Act.put, PU]
            refine M_val (i := 3) (v := .pointer (some ⟨bL, i * 6, none⟩)) SU.out rfl (by kernel_rfl) HS.out rfl (fun W hS => ?_) ?_
            · obtain ⟨a0, a1, a2, b0, b1, b2, c0, c1⟩ := HALL.out W hS; have hS2 := hS
              go_simp
              first | done | rfl | omega | (simp; done) | (simp; omega)
            simp only [Act.put, PU]
            refine M_val (i := 4) (v := .int .i64 (tk : Int)) SU.out rfl (by kernel_rfl) HS.out rfl (fun W hS => ?_) ?_
            · obtain ⟨a0, a1, a2, b0, b1, b2, c0, c1⟩ := HALL.out W hS; have hS2 := hS
              go_simp
              first | done | rfl | omega | (simp; done) | (simp; omega)
            simp only [Act.put, PU]
            refine M_val (i := 5) (v := .pointer (some ⟨g, 0, none⟩)) SU.out rfl (by kernel_rfl) HS.out rfl (fun W hS => ?_) ?_
            · obtain ⟨a0, a1, a2, b0, b1, b2, c0, c1⟩ := HALL.out W hS; have hS2 := hS
              go_simp
              first | done | rfl | omega | (simp; done) | (simp; omega)
            simp only [Act.put, PU]
            refine M_val (i := 6) (v := .slice (some ⟨ga, 0, none⟩) m gc) SU.out rfl (by kernel_rfl) HS.out rfl (fun W hS => ?_) ?_
            · obtain ⟨a0, a1, a2, b0, b1, b2, c0, c1⟩ := HALL.out W hS; have hS2 := hS
              go_simp
              first | done | rfl | omega | (simp; done) | (simp; omega)
            simp only [Act.put, PU]
            refine M_move (i := 7) _ SU.out rfl rfl (by kernel_rfl) HS.out rfl ?_
            simp only [Act.put, Act.eval, PE]
            refine M_val (i := 8) (v := .pointer (some ⟨ga, i * 6, none⟩)) SU.out rfl (by kernel_rfl) HS.out rfl (fun W hS => ?_) ?_
            · obtain ⟨a0, a1, a2, b0, b1, b2, c0, c1⟩ := HALL.out W hS; have hS2 := hS
              go_simp
              first | done | rfl | omega | (simp; done) | (simp; omega)
            simp only [Act.put, PU]
            refine M_val (i := 9) (v := .pointer (some ⟨ga, i * 6, none⟩)) SU.out rfl (by kernel_rfl) HS.out rfl (fun W hS => ?_) ?_
            · obtain ⟨a0, a1, a2, b0, b1, b2, c0, c1⟩ := HALL.out W hS; have hS2 := hS
              go_simp
              first | done | rfl | omega | (simp; done) | (simp; omega)
            simp only [Act.put, PU]
            refine M_val (i := 10) (v := .int .i64 (tk : Int)) SU.out rfl (by kernel_rfl) HS.out rfl (fun W hS => ?_) ?_
            · obtain ⟨a0, a1, a2, b0, b1, b2, c0, c1⟩ := HALL.out W hS; have hS2 := hS
              go_simp
              first | done | rfl | omega | (simp; done) | (simp; omega)
            simp only [Act.put, PU]
            refine M_val (i := 11) (v := .bool false) SU.out rfl (by kernel_rfl) HS.out rfl (fun W hS => ?_) ?_
            · obtain ⟨a0, a1, a2, b0, b1, b2, c0, c1⟩ := HALL.out W hS; have hS2 := hS
              go_simp
              first | done | rfl | omega | (simp; done) | (simp; omega)
            simp only [Act.put, PU]
            refine M_move (i := 12) _ SU.out rfl rfl (by kernel_rfl) HS.out rfl ?_
            simp only [Act.put, Act.eval, PE]
            refine M_move (i := 13) _ SU.out rfl rfl (by kernel_rfl) HS.out rfl ?_
            simp only [Act.put, Act.eval, PE]
            refine M_move (i := 14) _ SU.out rfl rfl (by kernel_rfl) HS.out rfl ?_
            simp only [Act.put, Act.eval, PE]
            refine M_val (i := 15) (v := .pointer (some ⟨bL, i * 6, none⟩)) SU.out rfl (by kernel_rfl) HS.out rfl (fun W hS => ?_) ?_
            · obtain ⟨a0, a1, a2, b0, b1, b2, c0, c1⟩ := HALL.out W hS; have hS2 := hS
              go_simp
              first | done | rfl | omega | (simp; done) | (simp; omega)
            simp only [Act.put, PU]
            refine M_val (i := 16) (v := .pointer (some ⟨bL, i * 6 + 1, none⟩)) SU.out rfl (by kernel_rfl) HS.out rfl (fun W hS => ?_) ?_
            · obtain ⟨a0, a1, a2, b0, b1, b2, c0, c1⟩ := HALL.out W hS; have hS2 := hS
              go_simp
              first | done | rfl | omega | (simp; done) | (simp; omega)
            simp only [Act.put, PU]
            refine M_val (i := 17) (v := .int .i64 (tp : Int)) SU.out rfl (by kernel_rfl) HS.out rfl (fun W hS => ?_) ?_
            · obtain ⟨a0, a1, a2, b0, b1, b2, c0, c1⟩ := HALL.out W hS; have hS2 := hS
              go_simp
              first | done | rfl | omega | (simp; done) | (simp; omega)
            simp only [Act.put, PU]
            refine M_val (i := 18) (v := .pointer (some ⟨g, 0, none⟩)) SU.out rfl (by kernel_rfl) HS.out rfl (fun W hS => ?_) ?_
            · obtain ⟨a0, a1, a2, b0, b1, b2, c0, c1⟩ := HALL.out W hS; have hS2 := hS
              go_simp
              first | done | rfl | omega | (simp; done) | (simp; omega)
            simp only [Act.put, PU]
            refine M_val (i := 19) (v := .slice (some ⟨ga, 0, none⟩) m gc) SU.out rfl (by kernel_rfl) HS.out rfl (fun W hS => ?_) ?_
            · obtain ⟨a0, a1, a2, b0, b1, b2, c0, c1⟩ := HALL.out W hS; have hS2 := hS
              go_simp
              first | done | rfl | omega | (simp; done) | (simp; omega)
            simp only [Act.put, PU]
            refine M_move (i := 20) _ SU.out rfl rfl (by kernel_rfl) HS.out rfl ?_
            simp only [Act.put, Act.eval, PE]
            refine M_val (i := 21) (v := .pointer (some ⟨ga, i * 6, none⟩)) SU.out rfl (by kernel_rfl) HS.out rfl (fun W hS => ?_) ?_
            · obtain ⟨a0, a1, a2, b0, b1, b2, c0, c1⟩ := HALL.out W hS; have hS2 := hS
              go_simp
              first | done | rfl | omega | (simp; done) | (simp; omega)
            simp only [Act.put, PU]
            refine M_val (i := 22) (v := .pointer (some ⟨ga, i * 6 + 1, none⟩)) SU.out rfl (by kernel_rfl) HS.out rfl (fun W hS => ?_) ?_
            · obtain ⟨a0, a1, a2, b0, b1, b2, c0, c1⟩ := HALL.out W hS; have hS2 := hS
              go_simp
              first | done | rfl | omega | (simp; done) | (simp; omega)
            simp only [Act.put, PU]
            refine M_val (i := 23) (v := .int .i64 (tp : Int)) SU.out rfl (by kernel_rfl) HS.out rfl (fun W hS => ?_) ?_
            · obtain ⟨a0, a1, a2, b0, b1, b2, c0, c1⟩ := HALL.out W hS; have hS2 := hS
              go_simp
              first | done | rfl | omega | (simp; done) | (simp; omega)
            simp only [Act.put, PU]
            refine M_val (i := 24) (v := .bool false) SU.out rfl (by kernel_rfl) HS.out rfl (fun W hS => ?_) ?_
            · obtain ⟨a0, a1, a2, b0, b1, b2, c0, c1⟩ := HALL.out W hS; have hS2 := hS
              go_simp
              first | done | rfl | omega | (simp; done) | (simp; omega)
            simp only [Act.put, PU]
            refine M_val (i := 25) (v := .bool false) SU.out rfl (by kernel_rfl) HS.out rfl (fun W hS => ?_) ?_
            · obtain ⟨a0, a1, a2, b0, b1, b2, c0, c1⟩ := HALL.out W hS; have hS2 := hS
              go_simp
              first | done | rfl | omega | (simp; done) | (simp; omega)
            simp only [Act.put, PU]
            refine M_move (i := 26) _ SU.out rfl rfl (by kernel_rfl) HS.out rfl ?_
            simp only [Act.put, Act.eval, PE]
            refine M_move (i := 27) _ SU.out rfl rfl (by kernel_rfl) HS.out rfl ?_
            simp only [Act.put, Act.eval, PE]
            refine M_move (i := 28) _ SU.out rfl rfl (by kernel_rfl) HS.out rfl ?_
            simp only [Act.put, Act.eval, PE]
            refine M_val (i := 29) (v := .pointer (some ⟨bL, i * 6, none⟩)) SU.out rfl (by kernel_rfl) HS.out rfl (fun W hS => ?_) ?_
            · obtain ⟨a0, a1, a2, b0, b1, b2, c0, c1⟩ := HALL.out W hS; have hS2 := hS
              go_simp
              first | done | rfl | omega | (simp; done) | (simp; omega)
            simp only [Act.put, PU]
            refine M_val (i := 30) (v := .pointer (some ⟨bL, i * 6 + 2, none⟩)) SU.out rfl (by kernel_rfl) HS.out rfl (fun W hS => ?_) ?_
            · obtain ⟨a0, a1, a2, b0, b1, b2, c0, c1⟩ := HALL.out W hS; have hS2 := hS
              go_simp
              first | done | rfl | omega | (simp; done) | (simp; omega)
            simp only [Act.put, PU]
            refine M_val (i := 31) (v := .string TS) SU.out rfl (by kernel_rfl) HS.out rfl (fun W hS => ?_) ?_
            · obtain ⟨a0, a1, a2, b0, b1, b2, c0, c1⟩ := HALL.out W hS; have hS2 := hS
              go_simp
              first | done | rfl | omega | (simp; done) | (simp; omega)
            simp only [Act.put, PU]
            refine M_val (i := 32) (v := .pointer (some ⟨g, 0, none⟩)) SU.out rfl (by kernel_rfl) HS.out rfl (fun W hS => ?_) ?_
            · obtain ⟨a0, a1, a2, b0, b1, b2, c0, c1⟩ := HALL.out W hS; have hS2 := hS
              go_simp
              first | done | rfl | omega | (simp; done) | (simp; omega)
            simp only [Act.put, PU]
            refine M_val (i := 33) (v := .slice (some ⟨ga, 0, none⟩) m gc) SU.out rfl (by kernel_rfl) HS.out rfl (fun W hS => ?_) ?_
            · obtain ⟨a0, a1, a2, b0, b1, b2, c0, c1⟩ := HALL.out W hS; have hS2 := hS
              go_simp
              first | done | rfl | omega | (simp; done) | (simp; omega)
            simp only [Act.put, PU]
            refine M_move (i := 34) _ SU.out rfl rfl (by kernel_rfl) HS.out rfl ?_
            simp only [Act.put, Act.eval, PE]
            refine M_val (i := 35) (v := .pointer (some ⟨ga, i * 6, none⟩)) SU.out rfl (by kernel_rfl) HS.out rfl (fun W hS => ?_) ?_
            · obtain ⟨a0, a1, a2, b0, b1, b2, c0, c1⟩ := HALL.out W hS; have hS2 := hS
              go_simp
              first | done | rfl | omega | (simp; done) | (simp; omega)
            simp only [Act.put, PU]
            refine M_val (i := 36) (v := .pointer (some ⟨ga, i * 6 + 2, none⟩)) SU.out rfl (by kernel_rfl) HS.out rfl (fun W hS => ?_) ?_
            · obtain ⟨a0, a1, a2, b0, b1, b2, c0, c1⟩ := HALL.out W hS; have hS2 := hS
              go_simp
              first | done | rfl | omega | (simp; done) | (simp; omega)
            simp only [Act.put, PU]
            refine M_val (i := 37) (v := .string TS) SU.out rfl (by kernel_rfl) HS.out rfl (fun W hS => ?_) ?_
            · obtain ⟨a0, a1, a2, b0, b1, b2, c0, c1⟩ := HALL.out W hS; have hS2 := hS
              go_simp
              first | done | rfl | omega | (simp; done) | (simp; omega)
            simp only [Act.put, PU]
            refine M_val (i := 38) (v := .bool false) SU.out rfl (by kernel_rfl) HS.out rfl (fun W hS => ?_) ?_
            · obtain ⟨a0, a1, a2, b0, b1, b2, c0, c1⟩ := HALL.out W hS; have hS2 := hS
              go_simp
              first | done | rfl | omega | (simp; done) | (simp; omega)
            simp only [Act.put, PU]
            refine M_val (i := 39) (v := .bool false) SU.out rfl (by kernel_rfl) HS.out rfl (fun W hS => ?_) ?_
            · obtain ⟨a0, a1, a2, b0, b1, b2, c0, c1⟩ := HALL.out W hS; have hS2 := hS
              go_simp
              first | done | rfl | omega | (simp; done) | (simp; omega)
            simp only [Act.put, PU]
            refine M_move (i := 40) _ SU.out rfl rfl (by kernel_rfl) HS.out rfl ?_
            simp only [Act.put, Act.eval, PE]
            refine M_move (i := 41) _ SU.out rfl rfl (by kernel_rfl) HS.out rfl ?_
            simp only [Act.put, Act.eval, PE]
            refine M_move (i := 42) _ SU.out rfl rfl (by kernel_rfl) HS.out rfl ?_
            simp only [Act.put, Act.eval, PE]
            refine M_val (i := 43) (v := .pointer (some ⟨bL, i * 6, none⟩)) SU.out rfl (by kernel_rfl) HS.out rfl (fun W hS => ?_) ?_
            · obtain ⟨a0, a1, a2, b0, b1, b2, c0, c1⟩ := HALL.out W hS; have hS2 := hS
              go_simp
              first | done | rfl | omega | (simp; done) | (simp; omega)
            simp only [Act.put, PU]
            refine M_val (i := 44) (v := .pointer (some ⟨bL, i * 6 + 3, none⟩)) SU.out rfl (by kernel_rfl) HS.out rfl (fun W hS => ?_) ?_
            · obtain ⟨a0, a1, a2, b0, b1, b2, c0, c1⟩ := HALL.out W hS; have hS2 := hS
              go_simp
              first | done | rfl | omega | (simp; done) | (simp; omega)
            simp only [Act.put, PU]
            refine M_row (i := 45) 41 (.tmp 104) SU.out rfl rfl bL (i * 6 + 3) (by first | rfl | (simp [Act.eval]; done)) [.bool false, .int .u64 (hi_ : Int), .int .u64 (lo_ : Int)] _ (fun W hS => HDEC.out W hS) Tryd.underlying41 rfl rowDec (by kernel_rfl) HS.out rfl ?_
            simp only [Act.put, PU]
            refine M_val (i := 47) (v := .pointer (some ⟨g, 1, none⟩)) SU.out rfl (by kernel_rfl) HS.out rfl (fun W hS => ?_) ?_
            · obtain ⟨a0, a1, a2, b0, b1, b2, c0, c1⟩ := HALL.out W hS; have hS2 := hS
              go_simp
              first | done | rfl | omega | (simp; done) | (simp; omega)
            simp only [Act.put, PU]
            refine M_val (i := 48) (v := .slice (some ⟨gb, 0, none⟩) m gd) SU.out rfl (by kernel_rfl) HS.out rfl (fun W hS => ?_) ?_
            · obtain ⟨a0, a1, a2, b0, b1, b2, c0, c1⟩ := HALL.out W hS; have hS2 := hS
              go_simp
              first | done | rfl | omega | (simp; done) | (simp; omega)
            simp only [Act.put, PU]
            refine M_move (i := 49) _ SU.out rfl rfl (by kernel_rfl) HS.out rfl ?_
            simp only [Act.put, Act.eval, PE]
            refine M_val (i := 50) (v := .pointer (some ⟨gb, i * 2, none⟩)) SU.out rfl (by kernel_rfl) HS.out rfl (fun W hS => ?_) ?_
            · obtain ⟨a0, a1, a2, b0, b1, b2, c0, c1⟩ := HALL.out W hS; have hS2 := hS
              go_simp
              first | done | rfl | omega | (simp; done) | (simp; omega)
            simp only [Act.put, PU]
            refine M_row (i := 51) 47 (.tmp 110) SU.out rfl rfl gb (i * 2) (by first | rfl | (simp [Act.eval]; done)) [.bool false, .slice DA dl dc] _ (fun W hS => HROW.out W hS) Tryd.underlying47 rfl num_size (by kernel_rfl) HS.out rfl ?_
            simp only [Act.put, PU]
            refine wpAnyM_all (rs := [46]) (by kernel_rfl) (by simp) (fun wx hG => ?_)
            have HGX := Lib.hid hG
            clear hG
            refine allM.head rfl rfl (fun K9 hK9 => ?_) allM.nil
            refine wp_call_ (f := 10) (args := #[.agg #[.bool false, .int .u64 (hi_ : Int), .int .u64 (lo_ : Int)]]) (R := fun v V => ∃ u : List Value, v = .agg u.toArray ∧ NumV V u false l ∧ Fr [] wz V) (by go_simp; first | done | rfl) ?_ ?_
            · refine (of_any (w := wx) (neg := false) HHI.out HLO.out).mono ?_
              rintro e V ⟨u, he, h1, h2⟩
              rw [HSUM.out] at h1
              exact ⟨_, he, u, rfl, h1, HGX.out.trans h2⟩
            rintro v w6 ⟨u, rfl, hnu, hf6⟩
            have HNU6 := Lib.hid hnu; have HF6 := Lib.hid hf6
            refine hK9.out _ _ hf6 ?_
            clear hK9 K9 hnu hf6 HGX
            simp only [Act.put, PU]
            refine wpAnyM_all (rs := [52]) (by kernel_rfl) (by simp) (fun wy hG => ?_)
            have HGY := Lib.hid hG
            clear hG
            refine allM.head rfl rfl (fun K9 hK9 => ?_) allM.nil
            refine wp_call_ (f := 9) (args := #[.agg u.toArray, .agg [.bool false, .slice DA dl dc].toArray]) (R := fun v V => v = .bool true ∧ Fr [] wz V) (by go_simp; first | done | rfl) ?_ ?_
            · have hu6 : NumV wy u false l := by obtain ⟨A1, c1, h1, h2, h3⟩ := HNU6.out; exact ⟨A1, c1, h1, h2, h3.fr_nil HGY.out⟩
              have hv6 : NumV wy [.bool false, .slice DA dl dc] false l := by obtain ⟨A1, c1, h1, h2, h3⟩ := HNU.out; exact ⟨A1, c1, h1, h2, h3.fr_nil (HF6.out.trans HGY.out)⟩
              refine (same_eq (w := wy) HLL.out hu6 hv6).mono ?_
              rintro e V ⟨he, h2⟩
              exact ⟨_, he, rfl, (HF6.out.trans HGY.out).trans h2⟩
            rintro v w8 ⟨rfl, hf8⟩
            have HS8 := Lib.hid hf8
            refine hK9.out _ _ hf8 ?_
            clear hK9 K9 hf8 HGY HS
            simp only [Act.put, PU]
            refine M_val (i := 53) (v := .bool false) SU.out rfl (by kernel_rfl) HS8.out rfl (fun W hS => ?_) ?_
            · obtain ⟨a0, a1, a2, b0, b1, b2, c0, c1⟩ := HALL.out W hS; have hS2 := hS
              go_simp
              first | done | rfl | omega | (simp; done) | (simp; omega)
            simp only [Act.put, PU]
            refine M_val (i := 54) (v := .bool false) SU.out rfl (by kernel_rfl) HS8.out rfl (fun W hS => ?_) ?_
            · obtain ⟨a0, a1, a2, b0, b1, b2, c0, c1⟩ := HALL.out W hS; have hS2 := hS
              go_simp
              first | done | rfl | omega | (simp; done) | (simp; omega)
            simp only [Act.put, PU]
            refine wpAnyM_done (by kernel_rfl) (fun w9 hG => ?_)
            have HF9 := Lib.hid ((HFZ.out.trans HS8.out).trans hG)
            clear hG SU HNU HNU6 HF6 HS8
            go_wp2_with fail
            go_roundw
            case rel => exact ⟨i + 1, by go_num, by omega, HF9.out⟩
            case measure => first | (simp [intOf]; done) | (simp [intOf]; omega)
          · have himI : ¬ ((i : Int) < (m : Int)) := by omega
            go_wp2_with fail
            go_ret
            exact ⟨rfl, HFWQ.out.trans HFR.out⟩
end Go.Proofs.YtjfgopihfgljmaaDoor
