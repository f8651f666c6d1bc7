/-
  The lexer's name. No conditions on the program.
-/
import Derived.Test.YtjfgopihfgljmaaDoorLex10
import Derived.Deep.CutBlock
namespace Go.Proofs.YtjfgopihfgljmaaDoor
open Go.RowKit
set_option linter.unusedVariables false
set_option linter.unusedSimpArgs false

section
variable {P : Program} {Q : Exit → Act → World → Prop} {md : Region.Mode} {G : World → World → Prop} {S : World → Prop} {l r : List Oper} {o : Oper} {i n : Nat} {listed : Array Bool} {a : Act} {w : World}
/-- 'string(b)' in a region that draws. -/
theorem M_str (src dst : TypeId) (x : Operand) (su : Setup P l Q G S) (ho : l.drop i = o :: r) (hop : o.op = .convert src dst x) (e : TypeId) (hs : P.underlying src = some (.slice e)) (he : P.underlying e = some (.int .u8)) (hd : P.underlying dst = some .string)
    (A : Option Addr) (bs : List UInt8) (k c : Nat) (hx : a.eval x = .slice A k c) (hb : ∀ w, S w → At w A (byteVals bs)) (hk : bs.length = k)
    (hB : ((Region.ready md l.toArray listed).contains i && Region.free md l.toArray listed i) = true) (hS : S w) (hw : Region.wanted o (yielded l.toArray a.tmps) = true)
    (hr : wpAnyM P md l.toArray Q G S n (listed.setIfInBounds i true) (a.put o.dst (.string ⟨bs.toArray⟩)) w) : wpAnyM P md l.toArray Q G S (n + 1) listed a w := by
  refine M_val su ho hB hS hw (fun w' hS' => ?_) hr
  have hrun := run_str_ (P := P) (w := w') src dst e hs he hd A bs k c (hb w' hS') hk
  unfold execOp
  simp only [hop, hx, hrun, Sem.run_bind, Result.andThen_ok, Sem.run_pure]
end
/-- How many letters and digits begin bytes. -/
def wdl (s : List UInt8) : Nat := (s.takeWhile wrdM).length
theorem wdl_cons {c : UInt8} {r : List UInt8} (h : wrdM c = true) : wdl (c :: r) = wdl r + 1 := by
  unfold wdl; rw [List.takeWhile_cons_of_pos h]; rfl
theorem wdl_no {c : UInt8} {r : List UInt8} (h : wrdM c = false) : wdl (c :: r) = 0 := by
  unfold wdl; rw [List.takeWhile_cons_of_neg (by simp [h])]; rfl
theorem wdl_le (s : List UInt8) : wdl s ≤ s.length := (List.takeWhile_sublist _).length_le
theorem wrdM_zero : wrdM 0 = false := by decide
def kindM (l : List UInt8) (nx : Nat) : Nat := if l ∈ words then 7 else if l ∈ builts then 8 else if nx = 40 then 6 else 5
def NamePost (w : World) (g : Nat) (A : Option Addr) (c : Nat) (src : List UInt8) (i : Nat) (L : Value) (e : Ending) (w' : World) : Prop :=
  e = .returned (tokV (kindM ((src.drop i).takeWhile wrdM) (src.getD (i + wdl (src.drop i)) 0).toNat) i ((src.drop i).takeWhile wrdM) 0) ∧ Rdr w' g A c src (i + wdl (src.drop i)) L ∧ Fr [g] w w'
set_option maxRecDepth 100000 in
set_option maxHeartbeats 16000000 in
theorem name_any {w : World} {g : Nat} {A : Option Addr} {c : Nat} {src : List UInt8} {i : Nat} {L : Value} (h : Rdr w g A c src i L) (hi : i < src.length) :
    Calls Tryd.prog 35 #[.pointer (some ⟨g, 0, none⟩)] w (NamePost w g A c src i L) := by
  obtain ⟨c0, c1, c2, f1⟩ := h.cells
  obtain ⟨i0, hi0, hz0, hz1, hz2⟩ := u8parts
  have hl := h.len
  have hgl := h.blk.lt
  have H := Lib.hid h; clear h
  go_enter Tryd.func35, Tryd.ntmps35
  go_wp2_with fail
  refine code_gen fun W hW => ?_
  have hfW : Fr [] w W := by rw [hW]; exact (Fr.refl [] w).alloc _
  have hb2 : Bk W w.heap.size 43 #[.int .i64 0, .int .i64 0, .string ⟨#[]⟩, .bool false, .int .u64 0, .int .u64 0] := by rw [hW]; exact Bk.new w _ _
  have hRW := H.out.fr_nil hfW
  have HB2 := Lib.hid hb2; have HFW := Lib.hid hfW; have HRW := Lib.hid hRW
  clear hW hb2 hfW hRW c0 c1 c2 f1
  have hgb : w.heap.size ≠ g := by omega
  obtain ⟨b2, hbe⟩ : ∃ b2, b2 = w.heap.size := ⟨_, rfl⟩
  rw [← hbe] at HB2 hgb
  have hgb2 : g < b2 := by omega
  rw [← hbe]
  have HBE := Lib.hid hbe; clear hbe
  obtain ⟨M, hM⟩ : ∃ M, M = i + wdl (src.drop i) := ⟨_, rfl⟩
  have HM := Lib.hid hM; clear hM
  go_loopw [25] (fun _ wr => ∃ j, Rdr wr g A c src j L ∧ j + wdl (src.drop j) = M ∧ Fr [g] W wr) (fun _ wr => src.length - posOf wr g)
  case atStart => exact ⟨i, HRW.out, HM.out.symm, Fr.refl _ _⟩
  case round =>
    obtain ⟨j, hr, hj, hf⟩ := hrel
    obtain ⟨c0, c1, c2, f1⟩ := hr.cells
    have hat := hr.at_
    obtain ⟨p, hp⟩ : ∃ p, p = src.getD j 0 := ⟨_, rfl⟩
    have hba := byteAt_any hr (j : Int) j rfl
    rw [← hp] at hba
    have hle := letter_any p wr
    have hdi := digit_any p wr
    have hwd : wrdM p = (letM p || digM p) := rfl
    have HBA := Lib.hid hba; clear hba
    cases hlt : letM p with
    | true =>
      have hin : j < src.length := by
        rcases Nat.lt_or_ge j src.length with hh | hh
        · exact hh
        · rw [hlt] at hwd; rw [hp, List.getD_eq_getElem?_getD, List.getElem?_eq_none hh, Option.getD_none, wrdM_zero] at hwd; simp at hwd
      rw [hlt] at hle hwd
      have hmv := hr.move (j := j + 1) (by omega)
      rw [show ((j + 1 : Nat) : Int) = (j : Int) + 1 by omega] at hmv
      have HJ : Hid (j + 1 + wdl (src.drop (j + 1)) = M) := Lib.hid (by rw [drop_cons_ hin, wdl_cons (by rw [← hp, hwd]; rfl)] at hj; omega)
      have HMV := Lib.hid hmv; have HR := Lib.hid hr; have HF := Lib.hid hf; have HLE := Lib.hid hle
      clear hr hj hf hp hdi hle hwd hlt hmv
      go_wp2_with fail
      go_at_call 28
      refine HBA.out.mono ?_
      rintro e w1 ⟨rfl, rfl⟩
      go_wp2_with fail
      go_at_call 34
      refine HLE.out.mono ?_
      rintro e w1 ⟨rfl, rfl⟩
      go_wp2_with fail
      go_roundw
      case rel => exact ⟨j + 1, HMV.out, HJ.out, HF.out.setCell (.inl (by simp)) _⟩
      case measure => rw [HMV.out.pos, HR.out.pos]; omega
    | false =>
      rw [hlt] at hle hwd
      cases hdg : digM p with
      | true =>
        have hin : j < src.length := by
          rcases Nat.lt_or_ge j src.length with hh | hh
          · exact hh
          · rw [hdg] at hwd; rw [hp, List.getD_eq_getElem?_getD, List.getElem?_eq_none hh, Option.getD_none, wrdM_zero] at hwd; simp at hwd
        rw [hdg] at hdi hwd
        have hmv := hr.move (j := j + 1) (by omega)
        rw [show ((j + 1 : Nat) : Int) = (j : Int) + 1 by omega] at hmv
        have HJ : Hid (j + 1 + wdl (src.drop (j + 1)) = M) := Lib.hid (by rw [drop_cons_ hin, wdl_cons (by rw [← hp, hwd]; rfl)] at hj; omega)
        have HMV := Lib.hid hmv; have HR := Lib.hid hr; have HF := Lib.hid hf; have HLE := Lib.hid hle; have HDI := Lib.hid hdi
        clear hr hj hf hp hdi hle hwd hlt hdg hmv
        go_wp2_with fail
        go_at_call 28
        refine HBA.out.mono ?_
        rintro e w1 ⟨rfl, rfl⟩
        go_wp2_with fail
        go_at_call 34
        refine HLE.out.mono ?_
        rintro e w1 ⟨rfl, rfl⟩
        go_wp2_with fail
        go_at_call 28
        refine HBA.out.mono ?_
        rintro e w1 ⟨rfl, rfl⟩
        go_wp2_with fail
        go_at_call 29
        refine HDI.out.mono ?_
        rintro e w1 ⟨rfl, rfl⟩
        go_wp2_with fail
        go_roundw
        case rel => exact ⟨j + 1, HMV.out, HJ.out, HF.out.setCell (.inl (by simp)) _⟩
        case measure => rw [HMV.out.pos, HR.out.pos]; omega
      | false =>
        rw [hdg] at hdi hwd
        have hjM : j = i + wdl (src.drop i) := by
          rw [← HM.out]
          rcases Nat.lt_or_ge j src.length with hh | hh
          · rw [drop_cons_ hh, wdl_no (by rw [← hp, hwd]; rfl)] at hj; omega
          · rw [List.drop_eq_nil_of_le hh] at hj; exact hj
        have HJM := Lib.hid hjM
        have HRD := Lib.hid hr; have HFD := Lib.hid hf; have HLE := Lib.hid hle; have HDI := Lib.hid hdi
        clear hr hj hf hp hdi hle hwd hlt hdg hjM
        go_wp2_with fail
        go_at_call 28
        refine HBA.out.mono ?_
        rintro e w1 ⟨rfl, rfl⟩
        go_wp2_with fail
        go_at_call 34
        refine HLE.out.mono ?_
        rintro e w1 ⟨rfl, rfl⟩
        go_wp2_with fail
        go_at_call 28
        refine HBA.out.mono ?_
        rintro e w1 ⟨rfl, rfl⟩
        go_wp2_with fail
        go_at_call 29
        refine HDI.out.mono ?_
        rintro e w1 ⟨rfl, rfl⟩
        go_wp2_with fail
        obtain ⟨l, hle1⟩ : ∃ l, l = (src.drop i).takeWhile wrdM := ⟨_, rfl⟩
        have hll : l.length = wdl (src.drop i) := by rw [hle1]; rfl
        have hij : i ≤ j := by rw [HJM.out]; omega
        have HCAP := Lib.hid HRD.out.cap; have HAT := Lib.hid HRD.out.at_
        have hcut : ∀ W, Bytes W A src → At W (if c = i then A else A.map (·.add (i * 1))) (byteVals l) := fun W hb => by
          have := (cut_bytes (lo := i) (h := j) (c := c) hb hij HRD.out.at_ HRD.out.cap HRD.out.nil).1
          have e : (src.drop i).take (j - i) = l := by rw [show j - i = l.length by rw [hll]; have := HJM.out; omega, hle1]; exact List.take_length_takeWhile_ _ _
          rwa [e] at this
        have HCUT := Lib.hid hcut; have HLE1 := Lib.hid hle1; have HLL := Lib.hid (show l.length = j - i by rw [hll]; have := HJM.out; omega)
        clear hcut hle1 hll
        have HS : Hid (wr.drew.cell? ⟨g, 0, none⟩ = some (.slice A src.length c) ∧ wr.drew.cell? ⟨g, 1, none⟩ = some (.int .i64 (j : Int)) ∧ Bytes wr.drew A src) := Lib.hid ⟨c0, c1, HRD.out.byt.fr_nil (Fr.refl [] wr).drew⟩
        have hslt := HRD.out.blk.lt
        refine wp_region_M_ (G := fun a b => Fr [] a b) (S := fun W => W.cell? ⟨g, 0, none⟩ = some (.slice A src.length c) ∧ W.cell? ⟨g, 1, none⟩ = some (.int .i64 (j : Int)) ∧ Bytes W A src) ⟨fun w => Fr.refl [] w, fun a b c h k => h.trans k, fun a b h k' => ⟨(k'.cell (World.block_lt_of_cell? a _ h.1) (by simp)).trans h.1, (k'.cell (World.block_lt_of_cell? a _ h.2.1) (by simp)).trans h.2.1, h.2.2.fr_nil k'⟩, by kernel_rfl, fun _ _ d _ _ h => by cases d <;> exact h⟩ (by kernel_rfl) fun su => ?_
        have SU := Lib.hid su
        clear su c0 c1 c2 f1 HM HRW HBA HLE HDI
        refine M_move (i := 0) _ SU.out rfl rfl (by kernel_rfl) HS.out rfl ?_
        simp only [Act.put, Act.eval, List.setIfInBounds_toArray, List.set_cons_zero, List.set_cons_succ, List.getElem?_toArray, List.getElem?_cons_zero, List.getElem?_cons_succ, Option.getD_some]
        refine M_move (i := 1) _ SU.out rfl rfl (by kernel_rfl) HS.out rfl ?_
        simp only [Act.put, Act.eval, List.setIfInBounds_toArray, List.set_cons_zero, List.set_cons_succ, List.getElem?_toArray, List.getElem?_cons_zero, List.getElem?_cons_succ, Option.getD_some]
        refine M_val (i := 2) (v := ?_) SU.out rfl (by kernel_rfl) HS.out rfl (fun W hS => ?_) ?_
        rotate_left
        · go_simp
          first | done | rfl
        simp only [Act.put, List.setIfInBounds_toArray, List.set_cons_zero, List.set_cons_succ]
        refine M_val (i := 3) (v := ?_) SU.out rfl (by kernel_rfl) HS.out rfl (fun W hS => ?_) ?_
        rotate_left
        · go_simp
          first | done | rfl
        simp only [Act.put, List.setIfInBounds_toArray, List.set_cons_zero, List.set_cons_succ]
        refine M_val (i := 4) (v := .slice A src.length c) SU.out rfl (by kernel_rfl) HS.out rfl (fun W hS => ?_) ?_
        · obtain ⟨s0, s1, s2⟩ := hS
          go_simp
          first | done | rfl
        simp only [Act.put, List.setIfInBounds_toArray, List.set_cons_zero, List.set_cons_succ]
        refine M_move (i := 5) _ SU.out rfl rfl (by kernel_rfl) HS.out rfl ?_
        simp only [Act.put, Act.eval, List.setIfInBounds_toArray, List.set_cons_zero, List.set_cons_succ, List.getElem?_toArray, List.getElem?_cons_zero, List.getElem?_cons_succ, Option.getD_some]
        refine M_move (i := 6) _ SU.out rfl rfl (by kernel_rfl) HS.out rfl ?_
        simp only [Act.put, Act.eval, List.setIfInBounds_toArray, List.set_cons_zero, List.set_cons_succ, List.getElem?_toArray, List.getElem?_cons_zero, List.getElem?_cons_succ, Option.getD_some]
        refine M_val (i := 7) (v := ?_) SU.out rfl (by kernel_rfl) HS.out rfl (fun W hS => ?_) ?_
        rotate_left
        · go_simp
          first | done | rfl
        simp only [Act.put, List.setIfInBounds_toArray, List.set_cons_zero, List.set_cons_succ]
        refine M_val (i := 8) (v := ?_) SU.out rfl (by kernel_rfl) HS.out rfl (fun W hS => ?_) ?_
        rotate_left
        · go_simp
          first | done | rfl
        simp only [Act.put, List.setIfInBounds_toArray, List.set_cons_zero, List.set_cons_succ]
        refine M_val (i := 9) (v := .int .i64 (j : Int)) SU.out rfl (by kernel_rfl) HS.out rfl (fun W hS => ?_) ?_
        · obtain ⟨s0, s1, s2⟩ := hS
          go_simp
          first | done | rfl
        simp only [Act.put, List.setIfInBounds_toArray, List.set_cons_zero, List.set_cons_succ]
        refine M_cut2 (i := 10) 22 (.tmp 36) (.tmp 37) (.tmp 41) SU.out rfl rfl 5 i0 Tryd.underlying22 hi0 hz1 A src.length c i j (by first | rfl | (simp [Act.eval]; done)) (by first | rfl | (simp [Act.eval]; done)) (by first | rfl | (simp [Act.eval]; done)) hij HAT.out HCAP.out (by kernel_rfl) HS.out rfl ?_
        simp only [Act.put, List.setIfInBounds_toArray, List.set_cons_zero, List.set_cons_succ]
        generalize hX : (if c = i then A else A.map (·.add (i * 1))) = X at *
        clear hX
        refine M_str (i := 11) 22 9 (.tmp 42) SU.out rfl rfl 5 Tryd.underlying22 Tryd.underlying5 Tryd.underlying9 X l (j - i) (c - i) (by first | rfl | (simp [Act.eval]; done)) (fun W hS => HCUT.out W hS.2.2) HLL.out (by kernel_rfl) HS.out rfl ?_
        simp only [Act.put, List.setIfInBounds_toArray, List.set_cons_zero, List.set_cons_succ]
        refine M_val (i := 12) (v := ?_) SU.out rfl (by kernel_rfl) HS.out rfl (fun W hS => ?_) ?_
        rotate_left
        · go_simp
          first | done | rfl
        simp only [Act.put, List.setIfInBounds_toArray, List.set_cons_zero, List.set_cons_succ]
        refine wpAnyM_all (rs := [13]) (by kernel_rfl) (by simp) (fun w2 hG2 => ?_)
        refine allM.head rfl rfl (fun K5 hK5 => ?_) allM.nil
        go_simp
        refine hK5.out _ _ (SU.out.sg _ _ HS.out (hG2.trans ((Fr.refl [] w2).alloc _))) ?_
        clear hK5 K5
        refine wpAnyM_all (rs := [14]) (by kernel_rfl) (by simp) (fun w3 hG3 => ?_)
        refine allM.head rfl rfl (fun K6 hK6 => ?_) allM.nil
        have hB : Bk w3 w2.heap.size 43 #[.int .i64 0, .int .i64 0, .string ⟨#[]⟩, .bool false, .int .u64 0, .int .u64 0] := (Bk.new w2 _ _).fr hG3 (by simp)
        have hgw2 : g < w2.heap.size := Nat.lt_of_lt_of_le hslt hG2.size
        have hf23 : Fr [] wr.drew w3 := (hG2.trans ((Fr.refl [] w2).alloc _)).trans hG3
        obtain ⟨y0, y1, y2, y3, y4, y5, x0, x1, x2, x3, x4, x5⟩ := hB.sixc
        go_simp
        have hf4 := hf23.six (b := w2.heap.size) (.inr hG2.size) (.int .i64 5) (.int .i64 (i : Int)) (.string ⟨l.toArray⟩) (.bool false) (.int .u64 0) (.int .u64 0)
        have hB4 := hB.six (.int .i64 5) (.int .i64 (i : Int)) (.string ⟨l.toArray⟩) (.bool false) (.int .u64 0) (.int .u64 0)
        have hS4 := SU.out.sg _ _ HS.out hf4
        refine hK6.out _ _ hS4 ?_
        have HS4 := Lib.hid hS4; have HF4 := Lib.hid hf4; have HB4 := Lib.hid hB4
        clear hK6 K6 hS4 hf4 hB4 hf23 hB hG3 y0 y1 y2 y3 y4 y5 x0 x1 x2 x3 x4 x5
        obtain ⟨D, hD⟩ : ∃ D, D = w2.heap.size := ⟨_, rfl⟩
        rw [← hD] at HS4 HF4 HB4 hgw2
        rw [← hD]
        have hDb : b2 < D := by rw [hD]; exact Nat.lt_of_lt_of_le (HB2.out.fr (HFD.out) (by simpa using hgb)).lt hG2.size
        clear hD hG2
        generalize ((((((w3.setCell ⟨D, 0, none⟩ (.int .i64 5)).setCell ⟨D, 1, none⟩ (.int .i64 (i : Int))).setCell ⟨D, 2, none⟩ (.string ⟨l.toArray⟩)).setCell ⟨D, 3, none⟩ (.bool false)).setCell ⟨D, 4, none⟩ (.int .u64 0)).setCell ⟨D, 5, none⟩ (.int .u64 0)) = w4 at *
        refine wpAnyM_done (by kernel_rfl) (fun w5 hG5 => ?_)
        have hf5 := HF4.out.trans hG5
        have hRd : Rdr w5 g A c src j L := HRD.out.fr_nil ((Fr.refl [] wr).drew.trans hf5)
        have hF5 : Fr [g] W w5 := HFD.out.trans ((Fr.refl [] wr).drew.trans hf5).nil_
        have h3 : Bk w5 b2 43 #[.int .i64 0, .int .i64 0, .string ⟨#[]⟩, .bool false, .int .u64 0, .int .u64 0] := HB2.out.fr hF5 (by simpa using hgb)
        have hD5 := HB4.out.fr hG5 (by simp)
        have HRD5 := Lib.hid hRd; have HF5 := Lib.hid hF5; have H35 := Lib.hid h3; have HD5 := Lib.hid hD5
        clear hf5 hRd hF5 h3 hD5 hG5 HS4 HF4 HB4 SU HS HCUT
        have hgD : g < D := hgw2
        have hbD : b2 ≠ D := by omega
        obtain ⟨y0, y1, y2, y3, y4, y5, z0, z1, z2, z3, z4, z5⟩ := H35.out.sixc
        obtain ⟨u0, u1, u2, u3, u4, u5, t0, -⟩ := HD5.out.sixc
        obtain ⟨c0, c1, c2, -⟩ := HRD5.out.cells
        obtain ⟨l', hl'⟩ : ∃ l', l' = l := ⟨_, rfl⟩
        have HLP := Lib.hid hl'; have HLQ : Hid (l' = (src.drop i).takeWhile wrdM) := Lib.hid (hl'.trans HLE1.out)
        clear hl' HLE1 HLL
        obtain ⟨kd, hkd⟩ : ∃ kd, kd = kindM l' (src.getD (i + wdl (src.drop i)) 0).toNat := ⟨_, rfl⟩
        have HKD := Lib.hid hkd; clear hkd
        go_upto_block 2 with fail
        go_cut [55] from 47 to 90 (fun _ wx => Bk wx D 43 #[.int .i64 (kd : Int), .int .i64 (i : Int), .string ⟨l'.toArray⟩, .bool false, .int .u64 0, .int .u64 0] ∧ Fr [D] w5 wx)
        case first =>
          by_cases hnw : l ∈ words
          · have HK : Hid (kd = 7) := Lib.hid (by rw [HKD.out]; unfold kindM; rw [HLP.out, if_pos hnw])
            clear HKD
            simp only [words, List.mem_cons, List.not_mem_nil, or_false] at hnw
            rcases hnw with rfl | rfl | rfl | rfl | rfl | rfl | rfl | rfl | rfl | rfl | rfl | rfl | rfl | rfl | rfl | rfl | rfl | rfl | rfl | rfl
            all_goals
              go_wp2_with fail
              go_meet
              case rel => exact ⟨by rw [HK.out, HLP.out]; exact HD5.out.put 0 _, (Fr.refl _ _).setCell (.inl (by simp)) _⟩
          · by_cases hnb : l ∈ builts
            · have HK : Hid (kd = 8) := Lib.hid (by rw [HKD.out]; unfold kindM; rw [HLP.out, if_neg hnw, if_pos hnb])
              clear HKD hnw
              simp only [builts, List.mem_cons, List.not_mem_nil, or_false] at hnb
              rcases hnb with rfl | rfl | rfl | rfl | rfl | rfl | rfl | rfl | rfl | rfl | rfl | rfl
              all_goals
                go_wp2_with fail
                go_meet
                case rel => exact ⟨by rw [HK.out, HLP.out]; exact HD5.out.put 0 _, (Fr.refl _ _).setCell (.inl (by simp)) _⟩
            · have hba := byteAt_any HRD5.out (j : Int) j rfl
              obtain ⟨nx, hnx⟩ : ∃ nx, nx = (src.getD j 0).toNat := ⟨_, rfl⟩
              rw [← hnx] at hba
              have hkx : kd = if nx = 40 then 6 else 5 := by rw [HKD.out]; unfold kindM; rw [HLP.out, if_neg hnw, if_neg hnb, ← HJM.out, hnx]
              have HKX := Lib.hid hkx
              have HBA := Lib.hid hba; clear hba hnx hkx HKD
              have w0 : (l == [66, 69, 71, 73, 78]) = false := beq_eq_false_iff_ne.2 (fun e => hnw (by rw [e]; decide))
              have w1 : (l == [69, 78, 68]) = false := beq_eq_false_iff_ne.2 (fun e => hnw (by rw [e]; decide))
              have w2 : (l == [79, 80, 69, 78]) = false := beq_eq_false_iff_ne.2 (fun e => hnw (by rw [e]; decide))
              have w3 : (l == [67, 76, 79, 83, 69]) = false := beq_eq_false_iff_ne.2 (fun e => hnw (by rw [e]; decide))
              have w4 : (l == [102, 117, 110, 99, 116, 105, 111, 110]) = false := beq_eq_false_iff_ne.2 (fun e => hnw (by rw [e]; decide))
              have w5 : (l == [105, 102]) = false := beq_eq_false_iff_ne.2 (fun e => hnw (by rw [e]; decide))
              have w6 : (l == [101, 108, 115, 101]) = false := beq_eq_false_iff_ne.2 (fun e => hnw (by rw [e]; decide))
              have w7 : (l == [119, 104, 105, 108, 101]) = false := beq_eq_false_iff_ne.2 (fun e => hnw (by rw [e]; decide))
              have w8 : (l == [102, 111, 114]) = false := beq_eq_false_iff_ne.2 (fun e => hnw (by rw [e]; decide))
              have w9 : (l == [100, 111]) = false := beq_eq_false_iff_ne.2 (fun e => hnw (by rw [e]; decide))
              have w10 : (l == [98, 114, 101, 97, 107]) = false := beq_eq_false_iff_ne.2 (fun e => hnw (by rw [e]; decide))
              have w11 : (l == [99, 111, 110, 116, 105, 110, 117, 101]) = false := beq_eq_false_iff_ne.2 (fun e => hnw (by rw [e]; decide))
              have w12 : (l == [110, 101, 120, 116]) = false := beq_eq_false_iff_ne.2 (fun e => hnw (by rw [e]; decide))
              have w13 : (l == [101, 120, 105, 116]) = false := beq_eq_false_iff_ne.2 (fun e => hnw (by rw [e]; decide))
              have w14 : (l == [114, 101, 116, 117, 114, 110]) = false := beq_eq_false_iff_ne.2 (fun e => hnw (by rw [e]; decide))
              have w15 : (l == [100, 101, 108, 101, 116, 101]) = false := beq_eq_false_iff_ne.2 (fun e => hnw (by rw [e]; decide))
              have w16 : (l == [105, 110]) = false := beq_eq_false_iff_ne.2 (fun e => hnw (by rw [e]; decide))
              have w17 : (l == [103, 101, 116, 108, 105, 110, 101]) = false := beq_eq_false_iff_ne.2 (fun e => hnw (by rw [e]; decide))
              have w18 : (l == [112, 114, 105, 110, 116]) = false := beq_eq_false_iff_ne.2 (fun e => hnw (by rw [e]; decide))
              have w19 : (l == [112, 114, 105, 110, 116, 102]) = false := beq_eq_false_iff_ne.2 (fun e => hnw (by rw [e]; decide))
              have v0 : (l == [108, 101, 110, 103, 116, 104]) = false := beq_eq_false_iff_ne.2 (fun e => hnb (by rw [e]; decide))
              have v1 : (l == [115, 117, 98, 115, 116, 114]) = false := beq_eq_false_iff_ne.2 (fun e => hnb (by rw [e]; decide))
              have v2 : (l == [105, 110, 100, 101, 120]) = false := beq_eq_false_iff_ne.2 (fun e => hnb (by rw [e]; decide))
              have v3 : (l == [115, 112, 108, 105, 116]) = false := beq_eq_false_iff_ne.2 (fun e => hnb (by rw [e]; decide))
              have v4 : (l == [115, 117, 98]) = false := beq_eq_false_iff_ne.2 (fun e => hnb (by rw [e]; decide))
              have v5 : (l == [103, 115, 117, 98]) = false := beq_eq_false_iff_ne.2 (fun e => hnb (by rw [e]; decide))
              have v6 : (l == [109, 97, 116, 99, 104]) = false := beq_eq_false_iff_ne.2 (fun e => hnb (by rw [e]; decide))
              have v7 : (l == [115, 112, 114, 105, 110, 116, 102]) = false := beq_eq_false_iff_ne.2 (fun e => hnb (by rw [e]; decide))
              have v8 : (l == [105, 110, 116]) = false := beq_eq_false_iff_ne.2 (fun e => hnb (by rw [e]; decide))
              have v9 : (l == [116, 111, 108, 111, 119, 101, 114]) = false := beq_eq_false_iff_ne.2 (fun e => hnb (by rw [e]; decide))
              have v10 : (l == [116, 111, 117, 112, 112, 101, 114]) = false := beq_eq_false_iff_ne.2 (fun e => hnb (by rw [e]; decide))
              have v11 : (l == [99, 108, 111, 115, 101]) = false := beq_eq_false_iff_ne.2 (fun e => hnb (by rw [e]; decide))
              clear hnw hnb
              by_cases h40 : nx = 40
              · have HK : Hid (kd = 6) := Lib.hid (by rw [HKX.out, if_pos h40])
                clear HKX
                subst h40
                go_wp2_with fail
                go_at_call 28
                refine HBA.out.mono ?_
                rintro e w1 ⟨rfl, rfl⟩
                go_wp2_with fail
                go_meet
                case rel => exact ⟨by rw [HK.out, HLP.out]; exact HD5.out.put 0 _, (Fr.refl _ _).setCell (.inl (by simp)) _⟩
              · have HK : Hid (kd = 5) := Lib.hid (by rw [HKX.out, if_neg h40])
                have g40 : ((nx : Int) == 40) = false := by simp; omega
                clear HKX
                go_wp2_with fail
                go_at_call 28
                refine HBA.out.mono ?_
                rintro e w1 ⟨rfl, rfl⟩
                go_wp2_with fail
                go_meet
                case rel => exact ⟨by rw [HK.out, HLP.out]; exact HD5.out, Fr.refl _ _⟩
        case rest =>
          obtain ⟨hDc, hfc⟩ := hcut
          have h3c := H35.out.fr hfc (by simpa using hbD)
          have HRc := Lib.hid (HRD5.out.fr_far hfc (by simpa using hgD))
          have HFc : Hid (Fr [g, D] W wc) := Lib.hid ((HF5.out.mono (l' := [g, D]) (by simp)).trans (hfc.mono (l' := [g, D]) (by simp)))
          obtain ⟨s0, s1, s2, s3, s4, s5, -⟩ := hDc.sixc
          obtain ⟨y0, y1, y2, y3, y4, y5, z0, z1, z2, z3, z4, z5⟩ := h3c.sixc
          have H3c := Lib.hid h3c
          clear hDc hfc h3c u0 u1 u2 u3 u4 u5 t0 c0 c1 c2
          go_wp2_with fail
          refine body_gen fun V hV => ?_
          have hb6 : Bk V b2 43 #[.int .i64 (kd : Int), .int .i64 (i : Int), .string ⟨l'.toArray⟩, .bool false, .int .u64 0, .int .u64 0] := by rw [hV]; exact H3c.out.six _ _ _ _ _ _
          have hf6 : Fr [b2] wc V := by rw [hV]; exact (Fr.refl _ _).six (b := b2) (.inl (by simp)) _ _ _ _ _ _
          clear hV
          obtain ⟨k0, k1, k2, k3, k4, k5, -⟩ := hb6.sixc
          refine bodyPost_ret (v := .agg #[.int .i64 (kd : Int), .int .i64 (i : Int), .string ⟨l'.toArray⟩, .bool false, .int .u64 0, .int .u64 0]) (by simp [results, Tryd.results35, go_sem, k0, k1, k2, k3, k4, k5]) rfl ?_
          unfold NamePost
          rw [← HLQ.out, ← HKD.out]
          refine ⟨by unfold tokV; simp, ?_, ((HFW.out.mono (l' := [g]) (by simp)).trans' HFc.out ?_).trans' hf6 ?_⟩
          · have := HRc.out.fr_far hf6 (by simpa using hgb2)
            rwa [HJM.out] at this
          · have := HBE.out; simp; omega
          · have := HBE.out; simp; omega
end Go.Proofs.YtjfgopihfgljmaaDoor
