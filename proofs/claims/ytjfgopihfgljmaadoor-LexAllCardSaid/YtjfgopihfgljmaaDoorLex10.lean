/-
  The lexer's number. No conditions on the program.
-/
import Derived.Test.YtjfgopihfgljmaaDoorLex9
import Derived.Deep.CutRange
import Derived.Deep.RegionWith
namespace Go.Proofs.YtjfgopihfgljmaaDoor
open Go.RowKit
set_option linter.unusedVariables false
set_option linter.unusedSimpArgs false

def numR (s : List UInt8) : Except Nat (Nat × List UInt8 × Nat × Nat) := match decM (s.take (numM s)) with
  | none => .error 2
  | some v => .ok (2, [], v, numM s)
/-- How many digits begin bytes. -/
def dgl (s : List UInt8) : Nat := (s.takeWhile digM).length
theorem dgl_cons {c : UInt8} {r : List UInt8} (h : digM c = true) : dgl (c :: r) = dgl r + 1 := by
  unfold dgl; rw [List.takeWhile_cons_of_pos h]; rfl
theorem dgl_no {c : UInt8} {r : List UInt8} (h : digM c = false) : dgl (c :: r) = 0 := by
  unfold dgl; rw [List.takeWhile_cons_of_neg (by simp [h])]; rfl
theorem dgl_le (s : List UInt8) : dgl s ≤ s.length := (List.takeWhile_sublist _).length_le
theorem numM_eq (s : List UInt8) : numM s = if ((s.drop (dgl s)).headD 0).toNat = 46 then dgl s + 1 + dgl (s.drop (dgl s + 1)) else dgl s := by
  unfold numM
  simp only
  rw [show (s.takeWhile digM).length = dgl s from rfl]
  cases h : s.drop (dgl s) with
  | nil => simp
  | cons c r =>
    have : s.drop (dgl s + 1) = r := by rw [← List.drop_drop, h]; rfl
    rw [this]
    rfl
def NumAt (s : List UInt8) : Prop := digM (s.headD 0) = true ∨ ((s.headD 0).toNat = 46 ∧ digM ((s.drop 1).headD 0) = true)
theorem digM_zero : digM 0 = false := by decide
theorem numAt_facts {s : List UInt8} (h : NumAt s) : 0 < numM s ∧ numM s ≤ s.length ∧ 46 ≤ ((s.take (numM s)).getD 0 0).toNat ∧ 0 < (wholeM (s.take (numM s))).length + (behM (s.take (numM s))).length ∧ 0 < numM (s.take (numM s)) := by
  have hle : numM s ≤ s.length := by
    rw [numM_eq]
    have h1 := dgl_le s
    have h2 := dgl_le (s.drop (dgl s + 1))
    split
    · rename_i h46
      have : s.drop (dgl s) ≠ [] := by intro e; rw [e] at h46; simp at h46
      have : dgl s < s.length := by
        rcases Nat.lt_or_ge (dgl s) s.length with hh | hh
        · exact hh
        · exact absurd (List.drop_eq_nil_of_le hh) this
      simp at h2; omega
    · exact h1
  rcases h with hd | ⟨h46, hd⟩
  · cases s with
    | nil => rw [show ([] : List UInt8).headD 0 = 0 from rfl, digM_zero] at hd; cases hd
    | cons c r =>
      have hd' : digM c = true := hd
      have hp : 0 < numM (c :: r) := by rw [numM_eq, dgl_cons hd']; split <;> omega
      obtain ⟨m, hm⟩ : ∃ m, numM (c :: r) = m + 1 := ⟨numM (c :: r) - 1, by omega⟩
      refine ⟨hp, hle, ?_, ?_, ?_⟩
      · rw [hm]; simp; simp [digM] at hd'; omega
      · rw [hm, List.take_succ_cons]; unfold wholeM; rw [List.takeWhile_cons_of_pos hd']; simp; omega
      · rw [hm, List.take_succ_cons, numM_eq, dgl_cons hd']; split <;> omega
  · cases s with
    | nil => simp at h46
    | cons c r =>
      cases r with
      | nil => rw [show (([c] : List UInt8).drop 1).headD 0 = 0 from rfl, digM_zero] at hd; cases hd
      | cons d r' =>
        have h46' : c.toNat = 46 := h46
        have hd' : digM d = true := hd
        have hc : digM c = false := by simp [digM, h46']
        have hn : numM (c :: d :: r') = dgl r' + 2 := by
          rw [numM_eq, dgl_no hc]
          rw [if_pos (by simpa using h46')]
          rw [show (c :: d :: r').drop (0 + 1) = d :: r' from rfl, dgl_cons hd']; omega
        refine ⟨by omega, hle, ?_, ?_, ?_⟩
        · rw [hn]; simp; omega
        · rw [hn, List.take_succ_cons, List.take_succ_cons]
          unfold wholeM behM
          rw [List.takeWhile_cons_of_neg (by simp [hc])]
          simp only [List.length_nil, List.drop_zero]
          rw [if_pos h46', List.takeWhile_cons_of_pos hd']
          simp
        · rw [hn, List.take_succ_cons, numM_eq, dgl_no hc, if_pos (by simpa using h46')]; omega
section
variable {P : Program} {Q : Exit → Act → World → Prop} {md : Region.Mode} {G : World → World → Prop} {S : World → Prop} {l r : List Oper} {o : Oper} {i n : Nat} {listed : Array Bool} {a : Act} {w : World}
/-- 's[l:h]' in a region that draws. -/
theorem M_cut2 (t : TypeId) (x ol oh : Operand) (su : Setup P l Q G S) (ho : l.drop i = o :: r) (hop : o.op = .slice t x (some ol) (some oh) none) (e : TypeId) (ti : TypeInfo) (ht : P.underlying t = some (.slice e)) (hi : P.info? e = some ti) (hs : ti.size = 1)
    (A : Option Addr) (len c lo h : Nat) (hxv : a.eval x = .slice A len c) (hl : a.eval ol = .int .i64 (lo : Int)) (hh : a.eval oh = .int .i64 (h : Int)) (h0 : lo ≤ h) (h1 : h ≤ len) (h2 : len ≤ c)
    (hB : ((Region.ready md l.toArray listed).contains i && Region.free md l.toArray listed i) = true) (hS : S w) (hw : Region.wanted o (yielded l.toArray a.tmps) = true)
    (hr : wpAnyM P md l.toArray Q G S n (listed.setIfInBounds i true) (a.put o.dst (.slice (if c = lo then A else A.map (·.add (lo * 1))) (h - lo) (c - lo))) w) : wpAnyM P md l.toArray Q G S (n + 1) listed a w := by
  refine M_val su ho hB hS hw (fun w' _ => ?_) hr
  have hrun : (Instr.sliceAt t (a.eval x) (some (a.eval ol)) (some (a.eval oh)) none).run P w' = .ok (.slice (if c = lo then A else A.map (·.add (lo * 1))) (h - lo) (c - lo)) w' := by
    rw [hxv, hl, hh]
    have hb := run_bounds_ (P := P) len c (some (.int .i64 (lo : Int))) (some (.int .i64 (h : Int))) none lo h c w' (.inr rfl) (.inr rfl) (.inl ⟨rfl, rfl⟩) h0 (Nat.le_trans h1 h2) (Nat.le_refl _)
    simp [Instr.sliceAt, Instr.slice, run_underlying ht, sizeOf, typeInfo, hi, hs, hb]
  unfold execOp
  simp only [hop, Option.map_none, Option.map_some, hrun, Sem.run_bind, Result.andThen_ok, Sem.run_pure]
end
/-- What lies at a cut. -/
theorem cut_bytes {w : World} {A : Option Addr} {bs : List UInt8} {c lo h : Nat} (hb : Bytes w A bs) (h0 : lo ≤ h) (h1 : h ≤ bs.length) (h2 : bs.length ≤ c) (hA : A = none → c = 0) :
    Bytes w (if c = lo then A else A.map (·.add (lo * 1))) ((bs.drop lo).take (h - lo)) ∧ ((if c = lo then A else A.map (·.add (lo * 1))) = none → c - lo = 0) := by
  refine ⟨?_, ?_⟩
  · by_cases e : c = lo
    · have : h - lo = 0 := by omega
      rw [this]; exact .inl (by simp [byteVals])
    · rw [if_neg e, Nat.mul_one]
      have := (At.cut hb (k := lo) (cap := c) (by rw [byteVals_length]; exact h2)).take (h - lo)
      rw [if_neg e] at this
      simpa [Bytes, byteVals, List.map_take, List.map_drop] using this
  · intro hX
    split at hX
    · omega
    · have : A = none := by simpa using hX
      have := hA this; omega
set_option maxRecDepth 100000 in
set_option maxHeartbeats 4000000 in
theorem number_any {w : World} {g : Nat} {A : Option Addr} {c : Nat} {src : List UInt8} {i : Nat} {L : Value} (h : Rdr w g A c src i L) (hi : i < src.length) (hs : NumAt (src.drop i)) :
    Calls Tryd.prog 30 #[.pointer (some ⟨g, 0, none⟩)] w (TokPost w g A c src i L (numR (src.drop i))) := by
  obtain ⟨c0, c1, c2, f1⟩ := h.cells
  obtain ⟨i0, hi0, hz0, hz1, hz2⟩ := u8parts
  have hl := h.len
  have hgl := h.blk.lt
  have H := Lib.hid h; clear h
  go_enter Tryd.func30, Tryd.ntmps30
  go_wp2_with fail
  refine code_gen fun W hW => ?_
  have hfW : Fr [] w W := by rw [hW]; exact (Fr.refl [] w).alloc _
  have hb2 : Bk W w.heap.size 43 #[.int .i64 0, .int .i64 0, .string ⟨#[]⟩, .bool false, .int .u64 0, .int .u64 0] := by rw [hW]; exact Bk.new w _ _
  have hRW := H.out.fr_nil hfW
  have HB2 := Lib.hid hb2; have HFW := Lib.hid hfW; have HRW := Lib.hid hRW
  clear hW hb2 hfW hRW c0 c1 c2 f1
  have hgb : w.heap.size ≠ g := by omega
  obtain ⟨b2, hbe⟩ : ∃ b2, b2 = w.heap.size := ⟨_, rfl⟩
  rw [← hbe] at HB2 hgb
  have hgb2 : g < b2 := by omega
  rw [← hbe]
  have HBE := Lib.hid hbe; clear hbe
  obtain ⟨M, hM⟩ : ∃ M, M = i + dgl (src.drop i) := ⟨_, rfl⟩
  have HM := Lib.hid hM; clear hM
  have hfin := numAt_facts hs
  have HFIN := Lib.hid hfin; clear hfin hs
  go_loopw [19] (fun _ wr => ∃ j, Rdr wr g A c src j L ∧ j + dgl (src.drop j) = M ∧ Fr [g] W wr) (fun _ wr => src.length - posOf wr g)
  case atStart => exact ⟨i, HRW.out, HM.out.symm, Fr.refl _ _⟩
  case round =>
    obtain ⟨j, hr, hj, hf⟩ := hrel
    obtain ⟨c0, c1, c2, f1⟩ := hr.cells
    have hat := hr.at_
    obtain ⟨p, hp⟩ : ∃ p, p = src.getD j 0 := ⟨_, rfl⟩
    have hba := byteAt_any hr (j : Int) j rfl
    rw [← hp] at hba
    have hdi := digit_any p wr
    cases hd : digM p with
    | true =>
      have hlt : j < src.length := by
        rcases Nat.lt_or_ge j src.length with hh | hh
        · exact hh
        · rw [hp, List.getD_eq_getElem?_getD, List.getElem?_eq_none hh, Option.getD_none, digM_zero] at hd; cases hd
      rw [hd] at hdi
      have hmv := hr.move (j := j + 1) (by omega)
      have HJ : Hid (j + 1 + dgl (src.drop (j + 1)) = M) := Lib.hid (by rw [drop_cons_ hlt, dgl_cons (by rw [← hp]; exact hd)] at hj; omega)
      have HMV := Lib.hid hmv; have HR := Lib.hid hr; have HF := Lib.hid hf; have HBA := Lib.hid hba; have HDI := Lib.hid hdi
      clear hr hj hf hp hba hdi hd hmv
      go_wp2_with fail
      go_at_call 28
      refine HBA.out.mono ?_
      rintro e w1 ⟨rfl, rfl⟩
      go_wp2_with fail
      go_at_call 29
      refine HDI.out.mono ?_
      rintro e w1 ⟨rfl, rfl⟩
      go_wp2_with fail
      go_roundw
      case rel => exact ⟨j + 1, by have := HMV.out; rwa [show ((j + 1 : Nat) : Int) = (j : Int) + 1 by omega] at this, HJ.out, HF.out.setCell (.inl (by simp)) _⟩
      case measure =>
        have := HMV.out
        rw [show ((j + 1 : Nat) : Int) = (j : Int) + 1 by omega] at this
        rw [this.pos, HR.out.pos]; omega
    | false =>
      rw [hd] at hdi
      have hjM : j = M := by
        rcases Nat.lt_or_ge j src.length with hh | hh
        · rw [drop_cons_ hh, dgl_no (by rw [← hp]; exact hd)] at hj; omega
        · rw [List.drop_eq_nil_of_le hh] at hj; exact hj
      subst hjM
      have HR := Lib.hid hr; have HF := Lib.hid hf; have HBA := Lib.hid hba; have HDI := Lib.hid hdi; have HP := Lib.hid hp
      clear hr hj hf hp hba hdi hd
      go_wp2_with fail
      go_at_call 28
      refine HBA.out.mono ?_
      rintro e w1 ⟨rfl, rfl⟩
      go_wp2_with fail
      go_at_call 29
      refine HDI.out.mono ?_
      rintro e w1 ⟨rfl, rfl⟩
      by_cases h46 : p.toNat = 46
      case' neg =>
        have hnm : j = i + numM (src.drop i) := by
          rw [numM_eq, if_neg]
          · exact HM.out
          · rw [headD_drop, List.getD_eq_getElem?_getD, List.getElem?_drop, ← HM.out, ← List.getD_eq_getElem?_getD, ← HP.out]; exact h46
        have g46 : ((p.toNat : Int) == 46) = false := by simp; omega
        have HJN := Lib.hid hnm; have HRD := Lib.hid HR.out; have HFD := Lib.hid HF.out
        clear HR HF HP h46 hat hnm
        generalize p.toNat = pn at *
        go_wp2_with fail
        go_at_call 28
        refine HBA.out.mono ?_
        rintro e w1 ⟨rfl, rfl⟩
        go_wp2_with fail
      case' pos =>
        have hlt : j < src.length := by
          rcases Nat.lt_or_ge j src.length with hh | hh
          · exact hh
          · have := HP.out; rw [List.getD_eq_getElem?_getD, List.getElem?_eq_none hh, Option.getD_none] at this; rw [this] at h46; simp at h46
        obtain ⟨N, hN⟩ : ∃ N, N = i + numM (src.drop i) := ⟨_, rfl⟩
        have hnm : j + 1 + dgl (src.drop (j + 1)) = N := by
          rw [hN, numM_eq, if_pos]
          · rw [List.drop_drop, show i + (dgl (src.drop i) + 1) = j + 1 by rw [HM.out]; omega, HM.out]; omega
          · rw [headD_drop, List.getD_eq_getElem?_getD, List.getElem?_drop, ← HM.out, ← List.getD_eq_getElem?_getD, ← HP.out]; exact h46
        have HN := Lib.hid hN; have HNM := Lib.hid hnm
        have hmv := HR.out.move (j := j + 1) (by omega)
        rw [show ((j + 1 : Nat) : Int) = (j : Int) + 1 by omega] at hmv
        have HMV := Lib.hid hmv
        rw [h46] at HBA
        clear HP h46 hN hnm hmv hat HR
        go_wp2_with fail
        go_at_call 28
        refine HBA.out.mono ?_
        rintro e w1 ⟨rfl, rfl⟩
        go_wp2_with fail
        go_loopw [47] (fun _ wr => ∃ j, Rdr wr g A c src j L ∧ j + dgl (src.drop j) = N ∧ Fr [g] W wr) (fun _ wr => src.length - posOf wr g)
      case' atStart => exact ⟨j + 1, HMV.out, HNM.out, HF.out.setCell (.inl (by simp)) _⟩
      case' round =>
        clear HMV HNM HF HBA HDI c0 c1 c2 f1
        obtain ⟨j, hr, hj, hf⟩ := hrel
        obtain ⟨c0, c1, c2, f1⟩ := hr.cells
        have hat := hr.at_
        obtain ⟨p, hp⟩ : ∃ p, p = src.getD j 0 := ⟨_, rfl⟩
        have hba := byteAt_any hr (j : Int) j rfl
        rw [← hp] at hba
        have hdi := digit_any p wr
        cases hd : digM p
      case' true =>
        have hlt : j < src.length := by
          rcases Nat.lt_or_ge j src.length with hh | hh
          · exact hh
          · rw [hp, List.getD_eq_getElem?_getD, List.getElem?_eq_none hh, Option.getD_none, digM_zero] at hd; cases hd
        rw [hd] at hdi
        have hmv := hr.move (j := j + 1) (by omega)
        rw [show ((j + 1 : Nat) : Int) = (j : Int) + 1 by omega] at hmv
        have HJ : Hid (j + 1 + dgl (src.drop (j + 1)) = N) := Lib.hid (by rw [drop_cons_ hlt, dgl_cons (by rw [← hp]; exact hd)] at hj; omega)
        have HMV := Lib.hid hmv; have HR := Lib.hid hr; have HF := Lib.hid hf; have HBA := Lib.hid hba; have HDI := Lib.hid hdi
        clear hr hj hf hp hba hdi hd hmv
        go_wp2_with fail
        go_at_call 28
        refine HBA.out.mono ?_
        rintro e w1 ⟨rfl, rfl⟩
        go_wp2_with fail
        go_at_call 29
        refine HDI.out.mono ?_
        rintro e w1 ⟨rfl, rfl⟩
        go_wp2_with fail
        go_roundw
        case rel => exact ⟨j + 1, HMV.out, HJ.out, HF.out.setCell (.inl (by simp)) _⟩
        case measure => rw [HMV.out.pos, HR.out.pos]; omega
      case' false =>
        rw [hd] at hdi
        have hjM : j = N := by
          rcases Nat.lt_or_ge j src.length with hh | hh
          · rw [drop_cons_ hh, dgl_no (by rw [← hp]; exact hd)] at hj; omega
          · rw [List.drop_eq_nil_of_le hh] at hj; exact hj
        have HJN : Hid (j = i + numM (src.drop i)) := Lib.hid (hjM.trans HN.out)
        have HRD := Lib.hid hr; have HFD := Lib.hid hf; have HBA := Lib.hid hba; have HDI := Lib.hid hdi
        clear hr hj hf hp hba hdi hd hjM
        go_wp2_with fail
        go_at_call 28
        refine HBA.out.mono ?_
        rintro e w1 ⟨rfl, rfl⟩
        go_wp2_with fail
        go_at_call 29
        refine HDI.out.mono ?_
        rintro e w1 ⟨rfl, rfl⟩
        go_wp2_with fail
      all_goals
        have hj := HJN.out
        obtain ⟨s, hse⟩ : ∃ s, s = src.drop i := ⟨_, rfl⟩
        have hfn := HFIN.out
        rw [← hse] at hfn hj
        have hsl : s.length = src.length - i := by rw [hse]; simp
        have hcut : ∀ W, Bytes W A src → Bytes W (if c = i then A else A.map (·.add (i * 1))) (s.take (numM s)) ∧ ((if c = i then A else A.map (·.add (i * 1))) = none → c - i = 0) := fun W hb => by
          have := cut_bytes (lo := i) (h := j) (c := c) hb (by omega) (by have := HRD.out.at_; omega) HRD.out.cap HRD.out.nil
          rwa [← hse, show j - i = numM s by omega] at this
        have hpre := fun (W : World) (hb : Bytes W A src) => prefix_any (bs := s.take (numM s)) (n := j - i) (cc := c - i) (hcut W hb).1 (by rw [List.length_take]; omega) (by have := HRD.out.at_; have := HRD.out.cap; omega) (hcut W hb).2 (by rw [List.length_take]; omega) (by rw [List.length_take]; omega) hfn.2.2.1 hfn.2.2.2.1 hfn.2.2.2.2
        have HPRE := Lib.hid hpre
        have hnr : numR (src.drop i) = match decM (s.take (numM s)) with | none => .error 2 | some v => .ok (2, [], v, numM s) := by rw [← hse]; rfl
        have hij : i ≤ j := by omega
        have HCAP := Lib.hid HRD.out.cap; have HAT := Lib.hid HRD.out.at_
        have HSE := Lib.hid hse; have HJS := Lib.hid hj
        clear hpre hcut hfn hj hse hsl HM HFIN HRW
        have HS : Hid (wr.drew.cell? ⟨g, 0, none⟩ = some (.slice A src.length c) ∧ wr.drew.cell? ⟨g, 1, none⟩ = some (.int .i64 (j : Int)) ∧ Bytes wr.drew A src) := Lib.hid ⟨c0, c1, HRD.out.byt.fr_nil (Fr.refl [] wr).drew⟩
        have hslt := HRD.out.blk.lt
        cases hdm : decM (s.take (numM s)) with
        | none =>
          rw [hdm] at hnr
          have HNR := Lib.hid hnr; have HDM := Lib.hid hdm; clear hnr hdm
          refine wp_region_M_ (G := fun a b => Fr [] a b) (S := fun W => W.cell? ⟨g, 0, none⟩ = some (.slice A src.length c) ∧ W.cell? ⟨g, 1, none⟩ = some (.int .i64 (j : Int)) ∧ Bytes W A src) ⟨fun w => Fr.refl [] w, fun a b c h k => h.trans k, fun a b h k' => ⟨(k'.cell (World.block_lt_of_cell? a _ h.1) (by simp)).trans h.1, (k'.cell (World.block_lt_of_cell? a _ h.2.1) (by simp)).trans h.2.1, h.2.2.fr_nil k'⟩, by kernel_rfl, fun _ _ d _ _ h => by cases d <;> exact h⟩ (by kernel_rfl) fun su => ?_
          have SU := Lib.hid su
          clear su c0 c1 c2 f1
          refine M_move (i := 0) _ SU.out rfl rfl (by kernel_rfl) HS.out rfl ?_
          simp only [Act.put, Act.eval, List.setIfInBounds_toArray, List.set_cons_zero, List.set_cons_succ, List.getElem?_toArray, List.getElem?_cons_zero, List.getElem?_cons_succ, Option.getD_some]
          refine M_val (i := 1) (v := ?_) SU.out rfl (by kernel_rfl) HS.out rfl (fun W hS => ?_) ?_
          rotate_left
          · go_simp
            first | done | rfl
          simp only [Act.put, List.setIfInBounds_toArray, List.set_cons_zero, List.set_cons_succ]
          refine M_val (i := 2) (v := ?_) SU.out rfl (by kernel_rfl) HS.out rfl (fun W hS => ?_) ?_
          rotate_left
          · go_simp
            first | done | rfl
          simp only [Act.put, List.setIfInBounds_toArray, List.set_cons_zero, List.set_cons_succ]
          refine M_val (i := 3) (v := .slice A src.length c) SU.out rfl (by kernel_rfl) HS.out rfl (fun W hS => ?_) ?_
          · obtain ⟨s0, s1, s2⟩ := hS
            go_simp
            first | done | rfl
          simp only [Act.put, List.setIfInBounds_toArray, List.set_cons_zero, List.set_cons_succ]
          refine M_move (i := 4) _ SU.out rfl rfl (by kernel_rfl) HS.out rfl ?_
          simp only [Act.put, Act.eval, List.setIfInBounds_toArray, List.set_cons_zero, List.set_cons_succ, List.getElem?_toArray, List.getElem?_cons_zero, List.getElem?_cons_succ, Option.getD_some]
          refine M_move (i := 5) _ SU.out rfl rfl (by kernel_rfl) HS.out rfl ?_
          simp only [Act.put, Act.eval, List.setIfInBounds_toArray, List.set_cons_zero, List.set_cons_succ, List.getElem?_toArray, List.getElem?_cons_zero, List.getElem?_cons_succ, Option.getD_some]
          refine M_val (i := 6) (v := ?_) SU.out rfl (by kernel_rfl) HS.out rfl (fun W hS => ?_) ?_
          rotate_left
          · go_simp
            first | done | rfl
          simp only [Act.put, List.setIfInBounds_toArray, List.set_cons_zero, List.set_cons_succ]
          refine M_val (i := 7) (v := ?_) SU.out rfl (by kernel_rfl) HS.out rfl (fun W hS => ?_) ?_
          rotate_left
          · go_simp
            first | done | rfl
          simp only [Act.put, List.setIfInBounds_toArray, List.set_cons_zero, List.set_cons_succ]
          refine M_val (i := 8) (v := .int .i64 (j : Int)) SU.out rfl (by kernel_rfl) HS.out rfl (fun W hS => ?_) ?_
          · obtain ⟨s0, s1, s2⟩ := hS
            go_simp
            first | done | rfl
          simp only [Act.put, List.setIfInBounds_toArray, List.set_cons_zero, List.set_cons_succ]
          refine M_cut2 (i := 9) 22 (.tmp 58) (.tmp 59) (.tmp 63) SU.out rfl rfl 5 i0 Tryd.underlying22 hi0 hz1 A src.length c i j (by first | rfl | (simp [Act.eval]; done)) (by first | rfl | (simp [Act.eval]; done)) (by first | rfl | (simp [Act.eval]; done)) hij HAT.out HCAP.out (by kernel_rfl) HS.out rfl ?_
          simp only [Act.put, List.setIfInBounds_toArray, List.set_cons_zero, List.set_cons_succ]
          generalize hX : (if c = i then A else A.map (·.add (i * 1))) = X at *
          clear hX
          obtain ⟨hi', lo', hdc⟩ := decC_form 0
          have hdv : decVal 0 = .agg #[.bool false, .int .u64 (hi' : Int), .int .u64 (lo' : Int)] := by unfold decVal; exact congrArg Value.agg hdc
          have HDV := Lib.hid hdv; clear hdv hdc
          obtain ⟨n2, hn2⟩ : ∃ n2, n2 = numM (s.take (numM s)) := ⟨_, rfl⟩
          have HN2 := Lib.hid hn2; clear hn2
          refine M_call (i := 10) (v := .tuple #[.agg #[.bool false, .int .u64 (hi' : Int), .int .u64 (lo' : Int)], .int .i64 (n2 : Int), .iface 51 (.int .i64 2)]) SU.out rfl (by kernel_rfl) HS.out rfl (fun W hS => (HPRE.out W hS.2.2).mono (by intro e w' h; unfold PrefPost at h; rw [HDM.out, HDV.out, ← HN2.out] at h; exact h)) (fun W => ?_) ?_
          · go_simp
            first | done | rfl
          simp only [Act.put, List.setIfInBounds_toArray, List.set_cons_zero, List.set_cons_succ]
          refine M_move (i := 11) _ SU.out rfl rfl (by kernel_rfl) HS.out rfl ?_
          simp only [Act.put, Act.eval, List.setIfInBounds_toArray, List.set_cons_zero, List.set_cons_succ, List.getElem?_toArray, List.getElem?_cons_zero, List.getElem?_cons_succ, Option.getD_some]
          refine M_val (i := 12) (v := ?_) SU.out rfl (by kernel_rfl) HS.out rfl (fun W hS => ?_) ?_
          rotate_left
          · go_simp
            first | done | rfl
          simp only [Act.put, List.setIfInBounds_toArray, List.set_cons_zero, List.set_cons_succ]
          refine M_val (i := 13) (v := ?_) SU.out rfl (by kernel_rfl) HS.out rfl (fun W hS => ?_) ?_
          rotate_left
          · go_simp
            first | done | rfl
          simp only [Act.put, List.setIfInBounds_toArray, List.set_cons_zero, List.set_cons_succ]
          refine M_val (i := 14) (v := ?_) SU.out rfl (by kernel_rfl) HS.out rfl (fun W hS => ?_) ?_
          rotate_left
          · go_simp
            first | done | rfl
          simp only [Act.put, List.setIfInBounds_toArray, List.set_cons_zero, List.set_cons_succ]
          refine wpAnyM_all (rs := [15]) (by kernel_rfl) (by simp) (fun w2 hG2 => ?_)
          refine allM.head rfl rfl (fun K5 hK5 => ?_) allM.nil
          go_simp
          refine hK5.out _ _ (SU.out.sg _ _ HS.out (hG2.trans ((Fr.refl [] w2).alloc _))) ?_
          clear hK5 K5
          refine wpAnyM_all (rs := [16]) (by kernel_rfl) (by simp) (fun w3 hG3 => ?_)
          refine allM.head rfl rfl (fun K6 hK6 => ?_) allM.nil
          have hB : Bk w3 w2.heap.size 41 #[.bool false, .int .u64 0, .int .u64 0] := (Bk.new w2 _ _).fr hG3 (by simp)
          have hgw2 : g < w2.heap.size := Nat.lt_of_lt_of_le hslt hG2.size
          have hf23 : Fr [] wr.drew w3 := (hG2.trans ((Fr.refl [] w2).alloc _)).trans hG3
          have hS3 := SU.out.sg _ _ HS.out hf23
          have y0 := hB.cell_ (i := 0) (v := .bool false) rfl; have y1 := hB.cell_ (i := 1) (v := .int .u64 0) rfl; have y2 := hB.cell_ (i := 2) (v := .int .u64 0) rfl
          have x0 := hB.frozen 0; have x1 := hB.frozen 1; have x2 := hB.frozen 2
          go_simp
          have hf4 : Fr [] wr.drew (((w3.setCell ⟨w2.heap.size, 0, none⟩ (.bool false)).setCell ⟨w2.heap.size, 1, none⟩ (.int .u64 (hi' : Int))).setCell ⟨w2.heap.size, 2, none⟩ (.int .u64 (lo' : Int))) := ((hf23.setCell (.inr hG2.size) _).setCell (.inr hG2.size) _).setCell (.inr hG2.size) _
          have hB4 : Bk (((w3.setCell ⟨w2.heap.size, 0, none⟩ (.bool false)).setCell ⟨w2.heap.size, 1, none⟩ (.int .u64 (hi' : Int))).setCell ⟨w2.heap.size, 2, none⟩ (.int .u64 (lo' : Int))) w2.heap.size 41 #[.bool false, .int .u64 (hi' : Int), .int .u64 (lo' : Int)] := ((hB.put 0 _).put 1 _).put 2 _
          have hS4 := SU.out.sg _ _ HS.out hf4
          refine hK6.out _ _ hS4 ?_
          have HS4 := Lib.hid hS4; have HF4 := Lib.hid hf4; have HB4 := Lib.hid hB4
          clear hK6 K6 hS3 hS4 hf4 hB4 hf23 hB hG3 y0 y1 y2 x0 x1 x2
          obtain ⟨D, hD⟩ : ∃ D, D = w2.heap.size := ⟨_, rfl⟩
          rw [← hD] at HS4 HF4 HB4 hgw2
          rw [← hD]
          have hDb : b2 < D := by rw [hD]; exact Nat.lt_of_lt_of_le (HB2.out.fr (HFD.out) (by simpa using hgb)).lt hG2.size
          clear hD hG2
          generalize (((w3.setCell ⟨D, 0, none⟩ (.bool false)).setCell ⟨D, 1, none⟩ (.int .u64 (hi' : Int))).setCell ⟨D, 2, none⟩ (.int .u64 (lo' : Int))) = w4 at *
          refine M_val (i := 17) (v := ?_) SU.out rfl (by kernel_rfl) HS4.out rfl (fun W hS => ?_) ?_
          rotate_left
          · go_simp
            first | done | rfl
          simp only [Act.put, List.setIfInBounds_toArray, List.set_cons_zero, List.set_cons_succ]
          refine M_val (i := 18) (v := ?_) SU.out rfl (by kernel_rfl) HS4.out rfl (fun W hS => ?_) ?_
          rotate_left
          · go_simp
            first | done | rfl
          simp only [Act.put, List.setIfInBounds_toArray, List.set_cons_zero, List.set_cons_succ]
          refine wpAnyM_done (by kernel_rfl) (fun w5 hG5 => ?_)
          have hf5 := HF4.out.trans hG5
          have hRd : Rdr w5 g A c src j L := HRD.out.fr_nil ((Fr.refl [] wr).drew.trans hf5)
          have hF5 : Fr [g] W w5 := HFD.out.trans ((Fr.refl [] wr).drew.trans hf5).nil_
          have h3 : Bk w5 b2 43 #[.int .i64 0, .int .i64 0, .string ⟨#[]⟩, .bool false, .int .u64 0, .int .u64 0] := HB2.out.fr hF5 (by simpa using hgb)
          have hD5 := HB4.out.fr hG5 (by simp)
          have HRD5 := Lib.hid hRd; have HF5 := Lib.hid hF5; have H35 := Lib.hid h3; have HD5 := Lib.hid hD5
          clear hf5 hRd hF5 h3 hD5 hG5
          go_wp2_with fail
          go_at_call 11
          refine (fault_any i 2 _).mono ?_
          rintro e w6 ⟨b, rfl, hfl, hf6⟩
          have h3 := H35.out.fr hf6 (by simp)
          obtain ⟨y0, y1, y2, y3, y4, y5, z0, z1, z2, z3, z4, z5⟩ := h3.sixc
          obtain ⟨fb, hfe, hfb⟩ := hfl
          have H3 := Lib.hid h3; have HFL := Lib.hid hfb; have HR := Lib.hid (HRD5.out.fr_nil hf6); have HF := Lib.hid (HF5.out.trans hf6.nil_)
          clear h3 hfb hf6
          go_wp2_with fail
          refine body_gen fun V hV => ?_
          have hb4 : Bk V b2 43 #[.int .i64 0, .int .i64 0, .string ⟨#[]⟩, .bool false, .int .u64 0, .int .u64 0] := by rw [hV]; exact H3.out.six _ _ _ _ _ _
          have hf4 : Fr [b2] w6 V := by rw [hV]; exact (Fr.refl _ _).six (.inl (by simp)) _ _ _ _ _ _
          clear hV
          obtain ⟨k0, k1, k2, k3, k4, k5, -⟩ := hb4.sixc
          refine bodyPost_ret (v := .tuple #[tokZ, .iface 34 (.pointer (some ⟨b, 0, none⟩))]) (by unfold tokZ; simp [results, Tryd.results30, go_sem, k0, k1, k2, k3, k4, k5]) rfl ?_
          rw [HNR.out]
          exact ⟨b, j, rfl, ⟨b, rfl, HFL.out.fr hf4 (by simpa using HFL.out.ne_ H3.out (by decide))⟩, HR.out.fr_far hf4 (by simpa using hgb2), (HFW.out.nil_.trans HF.out).trans' hf4 (by simp [HBE.out])⟩
        | some v =>
          rw [hdm] at hnr
          have HNR := Lib.hid hnr; have HDM := Lib.hid hdm; clear hnr hdm
          refine wp_region_M_ (G := fun a b => Fr [] a b) (S := fun W => W.cell? ⟨g, 0, none⟩ = some (.slice A src.length c) ∧ W.cell? ⟨g, 1, none⟩ = some (.int .i64 (j : Int)) ∧ Bytes W A src) ⟨fun w => Fr.refl [] w, fun a b c h k => h.trans k, fun a b h k' => ⟨(k'.cell (World.block_lt_of_cell? a _ h.1) (by simp)).trans h.1, (k'.cell (World.block_lt_of_cell? a _ h.2.1) (by simp)).trans h.2.1, h.2.2.fr_nil k'⟩, by kernel_rfl, fun _ _ d _ _ h => by cases d <;> exact h⟩ (by kernel_rfl) fun su => ?_
          have SU := Lib.hid su
          clear su c0 c1 c2 f1
          refine M_move (i := 0) _ SU.out rfl rfl (by kernel_rfl) HS.out rfl ?_
          simp only [Act.put, Act.eval, List.setIfInBounds_toArray, List.set_cons_zero, List.set_cons_succ, List.getElem?_toArray, List.getElem?_cons_zero, List.getElem?_cons_succ, Option.getD_some]
          refine M_val (i := 1) (v := ?_) SU.out rfl (by kernel_rfl) HS.out rfl (fun W hS => ?_) ?_
          rotate_left
          · go_simp
            first | done | rfl
          simp only [Act.put, List.setIfInBounds_toArray, List.set_cons_zero, List.set_cons_succ]
          refine M_val (i := 2) (v := ?_) SU.out rfl (by kernel_rfl) HS.out rfl (fun W hS => ?_) ?_
          rotate_left
          · go_simp
            first | done | rfl
          simp only [Act.put, List.setIfInBounds_toArray, List.set_cons_zero, List.set_cons_succ]
          refine M_val (i := 3) (v := .slice A src.length c) SU.out rfl (by kernel_rfl) HS.out rfl (fun W hS => ?_) ?_
          · obtain ⟨s0, s1, s2⟩ := hS
            go_simp
            first | done | rfl
          simp only [Act.put, List.setIfInBounds_toArray, List.set_cons_zero, List.set_cons_succ]
          refine M_move (i := 4) _ SU.out rfl rfl (by kernel_rfl) HS.out rfl ?_
          simp only [Act.put, Act.eval, List.setIfInBounds_toArray, List.set_cons_zero, List.set_cons_succ, List.getElem?_toArray, List.getElem?_cons_zero, List.getElem?_cons_succ, Option.getD_some]
          refine M_move (i := 5) _ SU.out rfl rfl (by kernel_rfl) HS.out rfl ?_
          simp only [Act.put, Act.eval, List.setIfInBounds_toArray, List.set_cons_zero, List.set_cons_succ, List.getElem?_toArray, List.getElem?_cons_zero, List.getElem?_cons_succ, Option.getD_some]
          refine M_val (i := 6) (v := ?_) SU.out rfl (by kernel_rfl) HS.out rfl (fun W hS => ?_) ?_
          rotate_left
          · go_simp
            first | done | rfl
          simp only [Act.put, List.setIfInBounds_toArray, List.set_cons_zero, List.set_cons_succ]
          refine M_val (i := 7) (v := ?_) SU.out rfl (by kernel_rfl) HS.out rfl (fun W hS => ?_) ?_
          rotate_left
          · go_simp
            first | done | rfl
          simp only [Act.put, List.setIfInBounds_toArray, List.set_cons_zero, List.set_cons_succ]
          refine M_val (i := 8) (v := .int .i64 (j : Int)) SU.out rfl (by kernel_rfl) HS.out rfl (fun W hS => ?_) ?_
          · obtain ⟨s0, s1, s2⟩ := hS
            go_simp
            first | done | rfl
          simp only [Act.put, List.setIfInBounds_toArray, List.set_cons_zero, List.set_cons_succ]
          refine M_cut2 (i := 9) 22 (.tmp 58) (.tmp 59) (.tmp 63) SU.out rfl rfl 5 i0 Tryd.underlying22 hi0 hz1 A src.length c i j (by first | rfl | (simp [Act.eval]; done)) (by first | rfl | (simp [Act.eval]; done)) (by first | rfl | (simp [Act.eval]; done)) hij HAT.out HCAP.out (by kernel_rfl) HS.out rfl ?_
          simp only [Act.put, List.setIfInBounds_toArray, List.set_cons_zero, List.set_cons_succ]
          generalize hX : (if c = i then A else A.map (·.add (i * 1))) = X at *
          clear hX
          obtain ⟨hi', lo', hdc⟩ := decC_form v
          have hdv : decVal v = .agg #[.bool false, .int .u64 (hi' : Int), .int .u64 (lo' : Int)] := by unfold decVal; exact congrArg Value.agg hdc
          have HDV := Lib.hid hdv; have HDC := Lib.hid hdc; clear hdv hdc
          obtain ⟨n2, hn2⟩ : ∃ n2, n2 = numM (s.take (numM s)) := ⟨_, rfl⟩
          have HN2 := Lib.hid hn2; clear hn2
          refine M_call (i := 10) (v := .tuple #[.agg #[.bool false, .int .u64 (hi' : Int), .int .u64 (lo' : Int)], .int .i64 (n2 : Int), .nilIface]) SU.out rfl (by kernel_rfl) HS.out rfl (fun W hS => (HPRE.out W hS.2.2).mono (by intro e w' h; unfold PrefPost at h; rw [HDM.out] at h; dsimp only at h; rw [HDV.out, ← HN2.out] at h; exact h)) (fun W => ?_) ?_
          · go_simp
            first | done | rfl
          simp only [Act.put, List.setIfInBounds_toArray, List.set_cons_zero, List.set_cons_succ]
          refine M_move (i := 11) _ SU.out rfl rfl (by kernel_rfl) HS.out rfl ?_
          simp only [Act.put, Act.eval, List.setIfInBounds_toArray, List.set_cons_zero, List.set_cons_succ, List.getElem?_toArray, List.getElem?_cons_zero, List.getElem?_cons_succ, Option.getD_some]
          refine M_val (i := 12) (v := ?_) SU.out rfl (by kernel_rfl) HS.out rfl (fun W hS => ?_) ?_
          rotate_left
          · go_simp
            first | done | rfl
          simp only [Act.put, List.setIfInBounds_toArray, List.set_cons_zero, List.set_cons_succ]
          refine M_val (i := 13) (v := ?_) SU.out rfl (by kernel_rfl) HS.out rfl (fun W hS => ?_) ?_
          rotate_left
          · go_simp
            first | done | rfl
          simp only [Act.put, List.setIfInBounds_toArray, List.set_cons_zero, List.set_cons_succ]
          refine M_val (i := 14) (v := ?_) SU.out rfl (by kernel_rfl) HS.out rfl (fun W hS => ?_) ?_
          rotate_left
          · go_simp
            first | done | rfl
          simp only [Act.put, List.setIfInBounds_toArray, List.set_cons_zero, List.set_cons_succ]
          refine wpAnyM_all (rs := [15]) (by kernel_rfl) (by simp) (fun w2 hG2 => ?_)
          refine allM.head rfl rfl (fun K5 hK5 => ?_) allM.nil
          go_simp
          refine hK5.out _ _ (SU.out.sg _ _ HS.out (hG2.trans ((Fr.refl [] w2).alloc _))) ?_
          clear hK5 K5
          refine wpAnyM_all (rs := [16]) (by kernel_rfl) (by simp) (fun w3 hG3 => ?_)
          refine allM.head rfl rfl (fun K6 hK6 => ?_) allM.nil
          have hB : Bk w3 w2.heap.size 41 #[.bool false, .int .u64 0, .int .u64 0] := (Bk.new w2 _ _).fr hG3 (by simp)
          have hgw2 : g < w2.heap.size := Nat.lt_of_lt_of_le hslt hG2.size
          have hf23 : Fr [] wr.drew w3 := (hG2.trans ((Fr.refl [] w2).alloc _)).trans hG3
          have hS3 := SU.out.sg _ _ HS.out hf23
          have y0 := hB.cell_ (i := 0) (v := .bool false) rfl; have y1 := hB.cell_ (i := 1) (v := .int .u64 0) rfl; have y2 := hB.cell_ (i := 2) (v := .int .u64 0) rfl
          have x0 := hB.frozen 0; have x1 := hB.frozen 1; have x2 := hB.frozen 2
          go_simp
          have hf4 : Fr [] wr.drew (((w3.setCell ⟨w2.heap.size, 0, none⟩ (.bool false)).setCell ⟨w2.heap.size, 1, none⟩ (.int .u64 (hi' : Int))).setCell ⟨w2.heap.size, 2, none⟩ (.int .u64 (lo' : Int))) := ((hf23.setCell (.inr hG2.size) _).setCell (.inr hG2.size) _).setCell (.inr hG2.size) _
          have hB4 : Bk (((w3.setCell ⟨w2.heap.size, 0, none⟩ (.bool false)).setCell ⟨w2.heap.size, 1, none⟩ (.int .u64 (hi' : Int))).setCell ⟨w2.heap.size, 2, none⟩ (.int .u64 (lo' : Int))) w2.heap.size 41 #[.bool false, .int .u64 (hi' : Int), .int .u64 (lo' : Int)] := ((hB.put 0 _).put 1 _).put 2 _
          have hS4 := SU.out.sg _ _ HS.out hf4
          refine hK6.out _ _ hS4 ?_
          have HS4 := Lib.hid hS4; have HF4 := Lib.hid hf4; have HB4 := Lib.hid hB4
          clear hK6 K6 hS3 hS4 hf4 hB4 hf23 hB hG3 y0 y1 y2 x0 x1 x2
          obtain ⟨D, hD⟩ : ∃ D, D = w2.heap.size := ⟨_, rfl⟩
          rw [← hD] at HS4 HF4 HB4 hgw2
          rw [← hD]
          have hDb : b2 < D := by rw [hD]; exact Nat.lt_of_lt_of_le (HB2.out.fr (HFD.out) (by simpa using hgb)).lt hG2.size
          clear hD hG2
          generalize (((w3.setCell ⟨D, 0, none⟩ (.bool false)).setCell ⟨D, 1, none⟩ (.int .u64 (hi' : Int))).setCell ⟨D, 2, none⟩ (.int .u64 (lo' : Int))) = w4 at *
          refine M_val (i := 17) (v := ?_) SU.out rfl (by kernel_rfl) HS4.out rfl (fun W hS => ?_) ?_
          rotate_left
          · go_simp
            first | done | rfl
          simp only [Act.put, List.setIfInBounds_toArray, List.set_cons_zero, List.set_cons_succ]
          refine M_val (i := 18) (v := ?_) SU.out rfl (by kernel_rfl) HS4.out rfl (fun W hS => ?_) ?_
          rotate_left
          · go_simp
            first | done | rfl
          simp only [Act.put, List.setIfInBounds_toArray, List.set_cons_zero, List.set_cons_succ]
          refine wpAnyM_done (by kernel_rfl) (fun w5 hG5 => ?_)
          have hf5 := HF4.out.trans hG5
          have hRd : Rdr w5 g A c src j L := HRD.out.fr_nil ((Fr.refl [] wr).drew.trans hf5)
          have hF5 : Fr [g] W w5 := HFD.out.trans ((Fr.refl [] wr).drew.trans hf5).nil_
          have h3 : Bk w5 b2 43 #[.int .i64 0, .int .i64 0, .string ⟨#[]⟩, .bool false, .int .u64 0, .int .u64 0] := HB2.out.fr hF5 (by simpa using hgb)
          have hD5 := HB4.out.fr hG5 (by simp)
          have HRD5 := Lib.hid hRd; have HF5 := Lib.hid hF5; have H35 := Lib.hid h3; have HD5 := Lib.hid hD5
          clear hf5 hRd hF5 h3 hD5 hG5
          have u0 := HD5.out.cell_ (i := 0) (v := .bool false) rfl; have u1 := HD5.out.cell_ (i := 1) (v := .int .u64 (hi' : Int)) rfl; have u2 := HD5.out.cell_ (i := 2) (v := .int .u64 (lo' : Int)) rfl
          obtain ⟨y0, y1, y2, y3, y4, y5, z0, z1, z2, z3, z4, z5⟩ := H35.out.sixc
          have htv : tokV 2 i [] v = .agg #[.int .i64 2, .int .i64 (i : Int), .string ⟨#[]⟩, .bool false, .int .u64 (hi' : Int), .int .u64 (lo' : Int)] := by
            have e := HDC.out
            unfold decC at e
            simp only [Array.mk.injEq, List.cons.injEq, and_true, true_and] at e
            unfold tokV
            rw [e.1, e.2]
            rfl
          have HTV := Lib.hid htv; clear htv
          go_wp2_with fail
          refine body_gen fun V hV => ?_
          have hb4 : Bk V b2 43 #[.int .i64 2, .int .i64 (i : Int), .string ⟨#[]⟩, .bool false, .int .u64 (hi' : Int), .int .u64 (lo' : Int)] := by rw [hV]; exact H35.out.six _ _ _ _ _ _
          have hf4 : Fr [b2] w5 V := by rw [hV]; exact (Fr.refl _ _).six (.inl (by simp)) _ _ _ _ _ _
          clear hV
          obtain ⟨k0, k1, k2, k3, k4, k5, -⟩ := hb4.sixc
          refine bodyPost_ret (v := .tuple #[.agg #[.int .i64 2, .int .i64 (i : Int), .string ⟨#[]⟩, .bool false, .int .u64 (hi' : Int), .int .u64 (lo' : Int)], .nilIface]) (by simp [results, Tryd.results30, go_sem, k0, k1, k2, k3, k4, k5]) rfl ?_
          rw [HNR.out]
          refine ⟨by rw [HTV.out], ?_, (HFW.out.nil_.trans HF5.out).trans' hf4 (by simp [HBE.out])⟩
          have := HRD5.out.fr_far hf4 (by simpa using hgb2)
          rwa [HJS.out] at this
end Go.Proofs.YtjfgopihfgljmaaDoor
