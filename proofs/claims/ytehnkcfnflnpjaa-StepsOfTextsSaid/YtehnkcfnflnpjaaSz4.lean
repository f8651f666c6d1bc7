/-
  The reference's Compile of right parts; same of two rows that hold the same steps. No conditions but sizes. (Printed by a program of the prover's.)
-/
import Derived.Test.YtehnkcfnflnpjaaSz3
import Derived.Test.YtehnkcfnflnpjaaSz2
import Derived.Test.YtehnkcfnflnpjaaDrawn
import Derived.Test.YtehnkcfnflnpjaaStW
namespace Go.Proofs.Ytehnkcfnflnpjaa
open Go.RowKit Go.ChangeMaps
set_option linter.unusedVariables false
set_option linter.unusedSimpArgs false

theorem info_sz {t : TypeId} {n : Nat} (h : (Try.prog.info? t).map (·.size) = some n) : ∃ i, Try.prog.info? t = some i ∧ i.size = n := by
  cases e : Try.prog.info? t with
  | none => rw [e] at h; cases h
  | some i => rw [e] at h; exact ⟨i, rfl, by simpa using h⟩
theorem set_self (w : World) (a b c d : Int) : (Op.equalIn 9999 26 (.agg #[.int .u64 a, .int .u64 b, .int .u64 c, .int .u64 d]) (.agg #[.int .u64 a, .int .u64 b, .int .u64 c, .int .u64 d])).run Try.prog w = .ok true w := by
  obtain ⟨i, hi, hz⟩ := info_sz u64_one
  obtain ⟨q0, q1, q2, q3⟩ := set_part w a b c d
  have e := run_equalIn_u64 w 9997
  show (Op.equalIn (9997 + 1 + 1) _ _ _).run Try.prog w = _
  unfold Op.equalIn
  simp [run_underlying Try.underlying26, sizeOf, typeInfo, hi, hz, List.range'_succ, q0, q1, q2, q3, e]
theorem int_self (w : World) (d : Nat) (a : Int) : (Op.equalIn (d + 1) 3 (.int .i64 a) (.int .i64 a)).run Try.prog w = .ok true w := by
  simp [Op.equalIn, run_underlying Try.underlying3]
theorem step_part (w : World) (k a b c d x y : Int) : (part 3 #[.int .i64 k, .int .u64 a, .int .u64 b, .int .u64 c, .int .u64 d, .int .i64 x, .int .i64 y] 0).run Try.prog w = .ok (.int .i64 k) w ∧ (part 26 #[.int .i64 k, .int .u64 a, .int .u64 b, .int .u64 c, .int .u64 d, .int .i64 x, .int .i64 y] 1).run Try.prog w = .ok (.agg #[.int .u64 a, .int .u64 b, .int .u64 c, .int .u64 d]) w ∧
    (part 3 #[.int .i64 k, .int .u64 a, .int .u64 b, .int .u64 c, .int .u64 d, .int .i64 x, .int .i64 y] 5).run Try.prog w = .ok (.int .i64 x) w ∧ (part 3 #[.int .i64 k, .int .u64 a, .int .u64 b, .int .u64 c, .int .u64 d, .int .i64 x, .int .i64 y] 6).run Try.prog w = .ok (.int .i64 y) w := ⟨by kernel_rfl, by kernel_rfl, by kernel_rfl, by kernel_rfl⟩
theorem step_self (w : World) (s : Sp) : (binOp .neq 45 (.agg s.cells.toArray) (.agg s.cells.toArray)).run Try.prog w = .ok (.bool false) w := by
  obtain ⟨k, a, b, c, d, x, y⟩ := s
  have h : (Op.equal 45 (.agg #[.int .i64 k, .int .u64 a, .int .u64 b, .int .u64 c, .int .u64 d, .int .i64 x, .int .i64 y]) (.agg #[.int .i64 k, .int .u64 a, .int .u64 b, .int .u64 c, .int .u64 d, .int .i64 x, .int .i64 y])).run Try.prog w = .ok true w := by
    obtain ⟨i, hi, hz⟩ := info_sz (t := 3) (n := 1) (by kernel_rfl)
    obtain ⟨j, hj, hy⟩ := info_sz (t := 26) (n := 4) (by kernel_rfl)
    obtain ⟨q0, q1, q2, q3⟩ := step_part w k a b c d x y
    have e := int_self w 9998
    have e4 := set_self w a b c d
    show (Op.equalIn (9998 + 1 + 1) _ _ _).run Try.prog w = _
    unfold Op.equalIn
    simp [run_underlying Try.underlying45, sizeOf, typeInfo, hi, hz, hj, hy, List.range'_succ, q0, q1, q2, q3, e, e4]
  simp [binOp, Sp.cells, h]
theorem step_size7 : (Try.prog.info? 45).map (·.size) = some 7 := by kernel_rfl
section
variable {P : Program} {Q : Exit → Act → World → Prop} {md : Region.Mode} {G : World → World → Prop} {S : World → Prop} {l r : List Oper} {o : Oper} {i n : Nat} {listed : Array Bool} {a : Act} {w : World}
theorem M_row (ty : TypeId) (x : Operand) (su : Setup P l Q G S) (ho : l.drop i = o :: r) (hop : o.op = .load ty x) (b off : Nat) (hx : a.eval x = .pointer (some ⟨b, off, none⟩)) (cs : List Value) (d : TypeDesc) (hc : ∀ W, S W → W.rangeAt b off cs) (hu : P.underlying ty = some d) (hd : d.isRow = true) (hi : (P.info? ty).map (·.size) = some cs.length)
    (hB : ((Region.ready md l.toArray listed).contains i && Region.free md l.toArray listed i) = true) (hS : S w) (hw : Region.wanted o (yielded l.toArray a.tmps) = true)
    (hr : wpAnyM P md l.toArray Q G S n (listed.setIfInBounds i true) (a.put o.dst (.agg cs.toArray)) w) : wpAnyM P md l.toArray Q G S (n + 1) listed a w := by
  refine M_val su ho hB hS hw (fun w' hS' => ?_) hr
  unfold execOp
  simp only [hop, hx, Instr.loadAt, Instr.sureAddr, Sem.run_bind, Sem.run_pure, Result.andThen_ok, run_loadVar_mid w' b off ty cs d (hc w' hS') hu hd hi]
theorem M_neq (ty : TypeId) (x y : Operand) (su : Setup P l Q G S) (ho : l.drop i = o :: r) (hop : o.op = .binOp .neq ty x y ty) (xs ys : Array Value) (hx : a.eval x = .agg xs) (hy : a.eval y = .agg ys) (hm : P.eqGuardType P.depth ty = false) (b : Bool) (hb : ∀ W, S W → (binOp .neq ty (.agg xs) (.agg ys)).run P W = .ok (.bool b) W)
    (hB : ((Region.ready md l.toArray listed).contains i && Region.free md l.toArray listed i) = true) (hS : S w) (hw : Region.wanted o (yielded l.toArray a.tmps) = true)
    (hr : wpAnyM P md l.toArray Q G S n (listed.setIfInBounds i true) (a.put o.dst (.bool b)) w) : wpAnyM P md l.toArray Q G S (n + 1) listed a w := by
  refine M_val su ho hB hS hw (fun w' hS' => ?_) hr
  unfold execOp
  simp only [hop, hx, hy, Sem.run_bind, run_eqGuard_agg (P := P) (w := w') .neq ty x y xs ys hm, Sem.run_pure, Result.andThen_ok, hb w' hS']
end
set_option maxRecDepth 100000 in
set_option maxHeartbeats 4000000 in
theorem same_any {w : World} {A B : Option Addr} {ca cb n : Nat} {L : List Sp} (hn : n = L.length) (hl : n ≤ 4001) (ha : StAt w A L) (hb : StAt w B L) :
    Calls Try.prog 9 #[.slice A n ca, .slice B n cb] w fun e w' => e = .returned (.bool true) ∧ Fr [] w w' := by
  have HA := Lib.hid ha; have HB := Lib.hid hb; have HN := Lib.hid hn
  clear ha hb hn
  go_enter Try.func9, Try.ntmps9
  go_wp2_with fail
  go_loopw [5] (fun v5 wr => ∃ i : Nat, v5 = .int .i64 (i : Int) ∧ i ≤ n ∧ Fr [] w wr) (fun v5 _ => n + 1 - (intOf v5).toNat)
  case atStart => exact ⟨0, rfl, Nat.zero_le _, Fr.refl _ _⟩
  case round =>
    obtain ⟨i, rfl, hi, hfr⟩ := hrel
    have HFR := Lib.hid hfr
    clear hfr
    rcases Nat.lt_or_ge i n with hin | hin
    · have hinI : (i : Int) < (n : Int) := by omega
      obtain ⟨s, hs⟩ : ∃ s, L[i]? = some s := ⟨_, List.getElem?_eq_getElem (by rw [← HN.out]; exact hin)⟩
      obtain ⟨b1, o1, hA1, -, hc1⟩ := (HA.out.fr HFR.out) i s hs
      obtain ⟨b2, o2, hA2, -, hc2⟩ := (HB.out.fr HFR.out) i s hs
      subst hA1 hA2
      obtain ⟨cs, hcs⟩ : ∃ cs, cs = s.cells := ⟨_, rfl⟩
      have H1 : Hid (wr.drew.rangeAt b1 (o1 + i * 7) cs) := Lib.hid (fun j u hu => by rw [hcs] at hu; exact hc1 j u hu)
      have H2 : Hid (wr.drew.rangeAt b2 (o2 + i * 7) cs) := Lib.hid (fun j u hu => by rw [hcs] at hu; exact hc2 j u hu)
      have HCL : Hid (cs.length = 7) := Lib.hid (by rw [hcs]; rfl)
      have HNE : Hid (∀ W : World, (binOp .neq 45 (.agg cs.toArray) (.agg cs.toArray)).run Try.prog W = .ok (.bool false) W) := Lib.hid (fun W => by rw [hcs]; exact step_self W s)
      clear hc1 hc2 hs hcs
      go_upto_region 6 with fail
      refine wp_region_M_ (G := fun a b => a = b) (S := fun W => W = wr.drew) ⟨fun _ => rfl, fun a b c h k => h.trans k, fun a b h k => k ▸ h, by kernel_rfl, fun _ _ d _ _ h => by cases d <;> exact h⟩ (by kernel_rfl) fun su => ?_
      have SU := Lib.hid su
      have HS : Hid (wr.drew = wr.drew) := Lib.hid rfl
      clear su
      refine M_move (i := 0) _ SU.out rfl rfl (by kernel_rfl) HS.out rfl ?_
      simp only [Act.put, Act.eval, PE]
      refine M_move (i := 1) _ SU.out rfl rfl (by kernel_rfl) HS.out rfl ?_
      simp only [Act.put, Act.eval, PE]
      refine M_val (i := 2) (v := ?_) SU.out rfl (by kernel_rfl) HS.out rfl (fun W hS => ?_) ?_
      rotate_left
      · obtain rfl := hS
        go_simp
        first | done | rfl | (simp only [HNE.out]; done) | omega
      simp only [Act.put, PU]
      refine M_row (i := 3) 45 (.tmp 19) SU.out rfl rfl b1 (o1 + i * 7) (by first | rfl | (simp [Act.eval]; done)) cs _ (fun W hS => by obtain rfl := hS; exact H1.out) Try.underlying45 rfl (by rw [HCL.out]; exact step_size7) (by kernel_rfl) HS.out rfl ?_
      simp only [Act.put, PU]
      refine M_move (i := 4) _ SU.out rfl rfl (by kernel_rfl) HS.out rfl ?_
      simp only [Act.put, Act.eval, PE]
      refine M_move (i := 5) _ SU.out rfl rfl (by kernel_rfl) HS.out rfl ?_
      simp only [Act.put, Act.eval, PE]
      refine M_val (i := 6) (v := ?_) SU.out rfl (by kernel_rfl) HS.out rfl (fun W hS => ?_) ?_
      rotate_left
      · obtain rfl := hS
        go_simp
        first | done | rfl | (simp only [HNE.out]; done) | omega
      simp only [Act.put, PU]
      refine M_row (i := 7) 45 (.tmp 23) SU.out rfl rfl b2 (o2 + i * 7) (by first | rfl | (simp [Act.eval]; done)) cs _ (fun W hS => by obtain rfl := hS; exact H2.out) Try.underlying45 rfl (by rw [HCL.out]; exact step_size7) (by kernel_rfl) HS.out rfl ?_
      simp only [Act.put, PU]
      refine M_neq (i := 8) 45 (.tmp 20) (.tmp 24) SU.out rfl rfl cs.toArray cs.toArray (by first | rfl | (simp [Act.eval]; done)) (by first | rfl | (simp [Act.eval]; done)) (by kernel_rfl) false (fun W _ => HNE.out W) (by kernel_rfl) HS.out rfl ?_
      simp only [Act.put, PU]
      refine wpAnyM_done (by kernel_rfl) (fun w' hG => ?_)
      obtain rfl := hG
      go_wp2_with fail
      go_roundw
      case rel => exact ⟨i + 1, by go_num, by omega, HFR.out.drew⟩
      case measure => first | (simp [intOf]; done) | (simp [intOf]; omega)
    · have hinI : ¬ ((i : Int) < (n : Int)) := by omega
      go_wp2_with fail
      go_ret
      exact ⟨rfl, HFR.out⟩
def RCompPost (w : World) (p : PT) (e : Ending) (w' : World) : Prop :=
  Fr [] w w' ∧ (4000 ≤ sizP p ∧ e = .returned (.tuple #[.slice none 0 0, .int .i64 5]) ∨
    sizP p < 4000 ∧ ∃ A c, e = .returned (.tuple #[.slice A (sizP p + 1) c, .int .i64 0]) ∧ StAt w' A (layP p 0 ++ [Sp.found]))
set_option maxRecDepth 100000 in
set_option maxHeartbeats 8000000 in
theorem rcompile_any {w : World} {p : PT} (hr : rightP p = true) (hcn : cntP p ≤ 1199) (hm : PMem w p) :
    Calls Try.prog 7 #[p.val] w (RCompPost w p) := by
  have HW : Hid (∀ W, Fr [] w W → Calls Try.prog 16 #[p.val, .int .i64 1] W fun e w' => e = .returned (.int .i64 0) ∧ Fr [] W w') := Lib.hid (fun W hW => rwrong_any (cntP p + 1) p (by omega) hr 1 W (by omega) (hm.keep (KeepT.of_nil hW)))
  have HS : Hid (∀ W, Fr [] w W → Calls Try.prog 17 #[p.val] W fun e w' => e = .returned (.int .i64 ((min (sizP p) 4001 : Nat) : Int)) ∧ Fr [] W w') := Lib.hid (fun W hW => rsz_any (cntP p + 1) p (by omega) hcn hr W (hm.keep (KeepT.of_nil hW)))
  have HL : Hid (sizP p < 4000 → ∀ W, Fr [] w W → Calls Try.prog 18 #[p.val, .int .i64 0] W fun e w' => ∃ A c, e = .returned (.slice A (sizP p) c) ∧ RowS w' W.heap.size A c (layP p 0) ∧ Fr [] W w') := Lib.hid (fun hs W hW => rlay_any (cntP p + 1) p (by omega) hcn hr 0 W (by omega) (hm.keep (KeepT.of_nil hW)))
  have HLL : Hid ((layP p 0).length = sizP p) := Lib.hid (layP_len p 0 hr)
  unfold RCompPost
  obtain ⟨R, hR⟩ : ∃ R, R = sizP p := ⟨_, rfl⟩
  obtain ⟨L, hL⟩ : ∃ L, L = layP p 0 := ⟨_, rfl⟩
  simp only [← hR, ← hL] at HS HL HLL ⊢
  clear hR hL hm hr hcn
  obtain ⟨o, ho⟩ : ∃ o, o = min R 4001 := ⟨_, rfl⟩
  simp only [← ho] at HS
  unfold PT.val at HW HS HL ⊢
  obtain ⟨m, hm⟩ : ∃ m, m = p.l.length := ⟨_, rfl⟩
  simp only [← hm] at HW HS HL ⊢
  clear hm
  go_enter Try.func7, Try.ntmps7
  go_upto_region 1 with fail
  obtain ⟨g, hg⟩ : ∃ g, g = w.heap.size := ⟨_, rfl⟩
  obtain ⟨w1, hw1⟩ : ∃ w1, w1 = w.alloc (.cells #[.int .i64 p.k, .int .u64 p.s0, .int .u64 p.s1, .int .u64 p.s2, .int .u64 p.s3, .int .i64 p.mn, .int .i64 p.mx, .slice p.A m p.c] 29) := ⟨_, rfl⟩
  have hb : Bk w1 g 29 #[.int .i64 p.k, .int .u64 p.s0, .int .u64 p.s1, .int .u64 p.s2, .int .u64 p.s3, .int .i64 p.mn, .int .i64 p.mx, .slice p.A m p.c] := by rw [hw1, hg]; exact Bk.new w _ _
  have hf : Fr [] w w1 := by rw [hw1]; exact (Fr.refl [] w).alloc _
  rw [← hw1, ← hg]
  have HB := Lib.hid hb; have HF := Lib.hid hf
  clear hw1 hg hb hf
  have HRA : Hid (∀ W, Fr [] w1 W → W.rangeAt g 0 [.int .i64 p.k, .int .u64 p.s0, .int .u64 p.s1, .int .u64 p.s2, .int .u64 p.s3, .int .i64 p.mn, .int .i64 p.mx, .slice p.A m p.c]) := Lib.hid (fun W hW j v hv => by rw [Nat.zero_add]; exact (HB.out.fr hW (by simp)).cell_ (i := j) (by simpa using hv))
  have HR0 : Hid (w1.rangeAt g 0 [.int .i64 p.k, .int .u64 p.s0, .int .u64 p.s1, .int .u64 p.s2, .int .u64 p.s3, .int .i64 p.mn, .int .i64 p.mx, .slice p.A m p.c]) := Lib.hid (HRA.out w1 (Fr.refl _ _))
  go_upto_region 2 with (first
    | (refine wpList_load_mid rfl 29 _ rfl g 0 rfl [.int .i64 p.k, .int .u64 p.s0, .int .u64 p.s1, .int .u64 p.s2, .int .u64 p.s3, .int .i64 p.mn, .int .i64 p.mx, .slice p.A m p.c] _ HR0.out Try.underlying29 rfl part_size8 ?_)
    | (go_at_call 16; refine (HW.out w1 HF.out).mono ?_; rintro e w2 ⟨rfl, hf2⟩; have HF2 := Lib.hid hf2; clear hf2))
  have HR2 : Hid (w2.rangeAt g 0 [.int .i64 p.k, .int .u64 p.s0, .int .u64 p.s1, .int .u64 p.s2, .int .u64 p.s3, .int .i64 p.mn, .int .i64 p.mx, .slice p.A m p.c]) := Lib.hid (HRA.out w2 HF2.out)
  by_cases hbig : 4000 ≤ R
  · have hoI : (o : Int) ≥ 4000 := by omega
    have HBG := Lib.hid hbig
    clear hbig ho
    go_wp2_with (first
      | (refine wpList_load_mid rfl 29 _ rfl g 0 rfl [.int .i64 p.k, .int .u64 p.s0, .int .u64 p.s1, .int .u64 p.s2, .int .u64 p.s3, .int .i64 p.mn, .int .i64 p.mx, .slice p.A m p.c] _ HR2.out Try.underlying29 rfl part_size8 ?_)
      | (go_at_call 17; refine (HS.out w2 (HF.out.trans HF2.out)).mono ?_; rintro e w3 ⟨rfl, hf3⟩; have HF3 := Lib.hid hf3; clear hf3))
    go_ret2
    exact ⟨HF.out.trans (HF2.out.trans HF3.out), .inl ⟨HBG.out, rfl⟩⟩
  · have hoI : ¬ ((o : Int) ≥ 4000) := by omega
    have hRb : R < 4000 := by omega
    have HLC := Lib.hid (HL.out hRb)
    clear hbig ho HL
    go_upto_region 6 with (first
      | (refine wpList_load_mid rfl 29 _ rfl g 0 rfl [.int .i64 p.k, .int .u64 p.s0, .int .u64 p.s1, .int .u64 p.s2, .int .u64 p.s3, .int .i64 p.mn, .int .i64 p.mx, .slice p.A m p.c] _ HR2.out Try.underlying29 rfl part_size8 ?_)
      | (go_at_call 17; refine (HS.out w2 (HF.out.trans HF2.out)).mono ?_; rintro e w3 ⟨rfl, hf3⟩; have HF3 := Lib.hid hf3; clear hf3))
    have HR3 : Hid (w3.rangeAt g 0 [.int .i64 p.k, .int .u64 p.s0, .int .u64 p.s1, .int .u64 p.s2, .int .u64 p.s3, .int .i64 p.mn, .int .i64 p.mx, .slice p.A m p.c]) := Lib.hid (HRA.out w3 (HF2.out.trans HF3.out))
    go_wp2_with (first
      | (refine wpList_load_mid rfl 29 _ rfl g 0 rfl [.int .i64 p.k, .int .u64 p.s0, .int .u64 p.s1, .int .u64 p.s2, .int .u64 p.s3, .int .i64 p.mn, .int .i64 p.mx, .slice p.A m p.c] _ HR3.out Try.underlying29 rfl part_size8 ?_)
      | (go_at_call 18; refine (HLC.out w3 (HF.out.trans (HF2.out.trans HF3.out))).mono ?_; rintro e w4 ⟨CA, cc, rfl, hro, hf4⟩; have HRO := Lib.hid hro; have HF4 := Lib.hid hf4; clear hro hf4)
      | (at_builtin; refine wpList_app1 rfl (.tmp 16) (.tmp 18) rfl w3.heap.size CA R cc L Sp.found w4.heap.size HLL.out.symm (by first | rfl | (simp [Act.eval]; done)) (by first | rfl | (simp [Act.eval]; done)) (HRO.out.fr ((Fr.refl [] w4).alloc _)) (by have h := Bk.new w4 45 Sp.found.cells.toArray; simpa [Sp.cells, Sp.found] using h) (by omega) (by have := HF4.out.size; simp; omega) ?_; intro A5 c5 w5 hr5 hf5; have HR5 := Lib.hid hr5; have HF5 : Hid (Fr [] w w5) := Lib.hid (((HF.out.trans (HF2.out.trans (HF3.out.trans HF4.out))).alloc _).trans' hf5 (fun x hx => .inr (by simp only [Option.mem_toList] at hx; have h := (own_base HRO.out x (by rw [HLL.out]; exact hx)).1; have := HF.out.size; have := HF2.out.size; have := HF3.out.size; omega))); clear hr5 hf5))
    go_ret2
    refine ⟨HF5.out, .inr ⟨hRb, A5, c5, rfl, ?_⟩⟩
    exact StAt.of_own HR5.out
end Go.Proofs.Ytehnkcfnflnpjaa
