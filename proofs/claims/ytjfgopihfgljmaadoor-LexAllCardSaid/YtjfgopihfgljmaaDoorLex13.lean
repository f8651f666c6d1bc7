/-
  The lexer's next. No conditions on the program.
-/
import Derived.Test.YtjfgopihfgljmaaDoorLex6
import Derived.Test.YtjfgopihfgljmaaDoorLex11
import Derived.Test.YtjfgopihfgljmaaDoorLex12
namespace Go.Proofs.YtjfgopihfgljmaaDoor
open Go.RowKit
set_option linter.unusedVariables false
set_option linter.unusedSimpArgs false

theorem nextM_eq (op : Bool) (s : List UInt8) (hs : s ≠ []) : nextM op s =
    if (s.headD 0).toNat = 10 then .ok (1, [], 0, 1)
    else if (s.headD 0).toNat = 46 ∧ digM ((s.drop 1).headD 0) = true ∨ digM (s.headD 0) = true then numR s
    else if (s.headD 0).toNat = 34 then textR (s.drop 1)
    else if (s.headD 0).toNat = 47 ∧ op = true then ereR (s.drop 1)
    else if letM (s.headD 0) = true then .ok (kindM (s.takeWhile wrdM) ((s.drop (wdl s)).headD 0).toNat, s.takeWhile wrdM, 0, wdl s)
    else signR s := by
  cases s with
  | nil => exact absurd rfl hs
  | cons c r =>
    unfold nextM
    simp only [List.headD_cons, List.drop_succ_cons, List.drop_zero]
    split
    · rfl
    · split
      · unfold numR; rfl
      · split
        · unfold textR; rfl
        · split
          · unfold ereR; rfl
          · split
            · rename_i hlet; refine Eq.trans ?_ (if_pos (show letM ((c :: r).headD 0) = true from hlet)).symm; unfold kindM wdl; rfl
            · rename_i hlet; refine Eq.trans ?_ (if_neg (show ¬ letM ((c :: r).headD 0) = true from hlet)).symm; unfold signR; rfl
theorem tokV_form (k p : Nat) (s : List UInt8) (v : Nat) : ∃ hi lo : Nat, tokV k p s v = .agg #[.int .i64 (k : Int), .int .i64 (p : Int), .string ⟨s.toArray⟩, .bool false, .int .u64 (hi : Int), .int .u64 (lo : Int)] := ⟨_, _, rfl⟩
theorem TokPost.form {w w' : World} {g : Nat} {A : Option Addr} {c : Nat} {src : List UInt8} {i : Nat} {L : Value} {r : Except Nat (Nat × List UInt8 × Nat × Nat)} {e : Ending} (h : TokPost w g A c src i L r e w') :
    ∃ (a0 a1 : Int) (a2 : ByteArray) (a4 a5 : Int) (er : Value), e = .returned (.tuple #[.agg #[.int .i64 a0, .int .i64 a1, .string a2, .bool false, .int .u64 a4, .int .u64 a5], er]) ∧ Fr [g] w w' := by
  unfold TokPost at h
  split at h
  · rename_i k s v m
    obtain ⟨rfl, -, hf⟩ := h
    exact ⟨_, _, _, _, _, _, rfl, hf⟩
  · obtain ⟨b, j, rfl, -, -, hf⟩ := h
    exact ⟨_, _, _, _, _, _, rfl, hf⟩
theorem TokPost.far {w W w' V : World} {g : Nat} {A : Option Addr} {c : Nat} {src : List UInt8} {i : Nat} {L : Value} {r : Except Nat (Nat × List UInt8 × Nat × Nat)} {e : Ending} (h : TokPost W g A c src i L r e w') (hw : Fr [] w W) {b : Nat} {cs : Array Value} (hb : Bk w' b 43 cs) (hf : Fr [b] w' V) (hg : g < b) (hwb : w.heap.size ≤ b) : TokPost w g A c src i L r e V := by
  unfold TokPost at h ⊢
  split at h
  · obtain ⟨he, hr, hf1⟩ := h
    exact ⟨he, hr.fr_far hf (by simpa using hg), (hw.nil_.trans hf1).trans' hf (by simpa using .inr hwb)⟩
  · obtain ⟨b', j, he, ⟨b2, hv, hbk⟩, hr, hf1⟩ := h
    exact ⟨b', j, he, ⟨b2, hv, hbk.fr hf (by simpa using hbk.ne_ hb (by decide))⟩, hr.fr_far hf (by simpa using hg), (hw.nil_.trans hf1).trans' hf (by simpa using .inr hwb)⟩
set_option maxRecDepth 100000 in
set_option maxHeartbeats 8000000 in
theorem next_any {w : World} {g : Nat} {A : Option Addr} {c : Nat} {src : List UInt8} {i : Nat} {L : Value} (h : Rdr w g A c src i L) (hi : i < src.length) (ts : List Tk) (hL : Toks w L ts) (hk : ∀ t ∈ ts, t.k ≤ 9) :
    Calls Tryd.prog 13 #[.pointer (some ⟨g, 0, none⟩)] w (TokPost w g A c src i L (nextM (lastOp ts) (src.drop i))) := by
  have hnm := nextM_eq (lastOp ts) (src.drop i) (by intro e; have := congrArg List.length e; simp at this; omega)
  rw [headD_drop, List.drop_drop, headD_drop] at hnm
  have hl := h.len
  have hgl := h.blk.lt
  obtain ⟨c0, c1, c2, f1⟩ := h.cells
  obtain ⟨a, rfl, hb, e0⟩ := byte_at h.byt hi
  obtain ⟨p, hp⟩ : ∃ p, p = src.getD i 0 := ⟨_, rfl⟩
  obtain ⟨p2, hp2⟩ : ∃ p2, p2 = src.getD (i + 1) 0 := ⟨_, rfl⟩
  rw [← hp] at e0
  rw [← hp, ← hp2] at hnm
  have hop := fun (W : World) (hf : Fr [] w W) => operand_any (h.fr_nil hf) ts (by
    have := hL
    obtain ⟨q1, q2 | ⟨gg, cap, cur, q3, q4, q5, q6⟩⟩ := this
    · exact ⟨q1, .inl q2⟩
    · exact ⟨q1, .inr ⟨gg, cap, cur, q3, q4, (Bk.fr (g := gg) (t := 43) (cs := cur) q5 hf (by simp)), q6⟩⟩) hk
  have hba := fun (W : World) (hf : Fr [] w W) => byteAt_any (h.fr_nil hf) ((i : Int) + 1) (i + 1) (by omega)
  rw [← hp2] at hba
  have hbq : ∀ W, Fr [] w W → Calls Tryd.prog 28 #[.pointer (some ⟨g, 0, none⟩), .int .i64 ((i : Int) + 1)] W fun e w' => e = .returned (.int .u8 (p2.toNat : Int)) ∧ w' = W := fun W hf => (hba W hf).mono fun _ _ ⟨a, b⟩ => ⟨a, b.symm⟩
  have HOP := Lib.hid hop; have HBA := Lib.hid hbq; have HNM := Lib.hid hnm; have HP := Lib.hid hp; have HP2 := Lib.hid hp2
  have H := Lib.hid h
  have e0' : ∀ o : Obj, (w.alloc o).cell? (a.add i) = some (.int .u8 (p.toNat : Int)) := fun o => (((Fr.refl [] w).alloc o).cell (p := a.add i) (by rw [blk_add]; exact hb) (by simp)).trans e0
  clear h hL hop hba hbq hnm hp hp2
  have hdp := fun W => digit_any p W
  have hdp2 := fun W => digit_any p2 W
  have hlp := fun W => letter_any p W
  have HDP := Lib.hid hdp; have HDP2 := Lib.hid hdp2; have HLP := Lib.hid hlp
  clear hdp hdp2 hlp
  have hframe : ∀ n, Fr [] w ((w.alloc (.cells #[.int .i64 0, .int .i64 0, .string ⟨#[]⟩, .bool false, .int .u64 0, .int .u64 0] 43)).drewN n) := fun n => ((Fr.refl [] w).alloc _).drewN n
  have hblock : ∀ n, Bk ((w.alloc (.cells #[.int .i64 0, .int .i64 0, .string ⟨#[]⟩, .bool false, .int .u64 0, .int .u64 0] 43)).drewN n) w.heap.size 43 #[.int .i64 0, .int .i64 0, .string ⟨#[]⟩, .bool false, .int .u64 0, .int .u64 0] := fun n => (Bk.new w _ _).drewN n
  have FRAME := Lib.hid hframe; have BLOCK := Lib.hid hblock; clear hframe hblock
  have numcase : ¬ p.toNat = 10 → (p.toNat = 46 ∧ digM p2 = true ∨ digM p = true) → nextM (lastOp ts) (src.drop i) = numR (src.drop i) := fun h1 h => by rw [HNM.out, if_neg h1, if_pos h]
  have numat : (p.toNat = 46 ∧ digM p2 = true ∨ digM p = true) → NumAt (src.drop i) := fun h => by
    unfold NumAt
    rw [headD_drop, List.drop_drop, headD_drop, ← HP.out, ← HP2.out]
    rcases h with h | h
    · exact .inr h
    · exact .inl h
  have NUMC := Lib.hid numcase; have NUMAT := Lib.hid numat; clear numcase numat
  go_enter Tryd.func13, Tryd.ntmps13
  go_wp2_with fail
  go_quiet (first | (go_at_call 28; refine Calls.quiet_of_same (HBA.out _ ?_); first | exact ((Fr.refl [] w).alloc _).drewN _ | exact (((Fr.refl [] w).alloc _).drew).drewN _))
  by_cases q10 : p.toNat = 10
  · have hnm := HNM.out
    rw [if_pos q10] at hnm
    have HNM2 := Lib.hid hnm; clear hnm
    have g10 : ((p.toNat : Int) == 10) = true := by simp; omega
    clear q10
    go_wp2_with fail
    refine body_gen fun V hV => ?_
    have h2 := (H.out.fr_nil (FRAME.out nq)).move (j := i + 1) (by omega)
    rw [show ((i + 1 : Nat) : Int) = (i : Int) + 1 by omega] at h2
    have hRV : Rdr V g (some a) c src (i + 1) L := by
      rw [hV]; exact h2.fr_far (l := [w.heap.size]) ((Fr.refl _ _).six (b := w.heap.size) (.inl (by simp)) _ _ _ _ _ _) (by simpa using hgl)
    have hFV : Fr [g] w V := by rw [hV]; exact (((FRAME.out nq).nil_).setCell (.inl (by simp)) _).six (b := w.heap.size) (.inr (Nat.le_refl _)) _ _ _ _ _ _
    have hBV : Bk V w.heap.size 43 #[.int .i64 1, .int .i64 (i : Int), .string ⟨#[]⟩, .bool false, .int .u64 0, .int .u64 0] := by
      rw [hV]; exact ((BLOCK.out nq).far (p := ⟨g, 1, none⟩) (by simp; omega) _).six _ _ _ _ _ _
    clear hV
    obtain ⟨k0, k1, k2, k3, k4, k5, -⟩ := hBV.sixc
    refine bodyPost_ret (v := .tuple #[.agg #[.int .i64 1, .int .i64 (i : Int), .string ⟨#[]⟩, .bool false, .int .u64 0, .int .u64 0], .nilIface]) (by simp [results, Tryd.results13, go_sem, k0, k1, k2, k3, k4, k5]) rfl ?_
    rw [HNM2.out]
    exact ⟨by unfold tokV; simp, hRV, hFV⟩
  have g10 : ((p.toNat : Int) == 10) = false := by simp; omega
  have hne := HNM.out
  rw [if_neg q10] at hne
  have HNE := Lib.hid hne; clear hne HNM
  have hnum := NUMC.out q10
  have NUMEQ := Lib.hid hnum; clear hnum NUMC q10
  have rest : ¬ (p.toNat = 46 ∧ digM p2 = true ∨ digM p = true) → nextM (lastOp ts) (src.drop i) = if p.toNat = 34 then textR (src.drop (i + 1)) else if p.toNat = 47 ∧ lastOp ts = true then ereR (src.drop (i + 1)) else if letM p = true then .ok (kindM ((src.drop i).takeWhile wrdM) ((src.drop (i + wdl (src.drop i))).headD 0).toNat, (src.drop i).takeWhile wrdM, 0, wdl (src.drop i)) else signR (src.drop i) := fun h => by rw [HNE.out, if_neg h]; try rw [List.drop_drop]
  have REST := Lib.hid rest; clear rest HNE
  by_cases q46 : p.toNat = 46
  · have g46 : ((p.toNat : Int) == 46) = true := by simp; omega
    have hdf : digM p = false := by unfold digM; rw [q46]; rfl
    have hlf : letM p = false := by unfold letM; rw [q46]; rfl
    have g34 : ((p.toNat : Int) == 34) = false := by simp; omega
    have g47 : ((p.toNat : Int) == 47) = false := by simp; omega
    have Q46 := Lib.hid q46; have HDF := Lib.hid hdf; have HLF := Lib.hid hlf
    clear q46 hdf hlf
    cases hd2 : digM p2 with
    | true =>
      have HD2 := Lib.hid hd2
      rw [hd2] at HDP2
      clear hd2
      go_wp2_with fail
      go_at_call 29
      refine (HDP2.out _).mono ?_
      rintro e w1 ⟨rfl, rfl⟩
      go_wp2_with fail
      go_at_call 30
      refine calls_gen fun W hW => ?_
      have hfW : Fr [] w W := by rw [hW]; exact FRAME.out _
      have hb2 : Bk W w.heap.size 43 #[.int .i64 0, .int .i64 0, .string ⟨#[]⟩, .bool false, .int .u64 0, .int .u64 0] := by rw [hW]; exact BLOCK.out _
      clear hW
      refine (number_any (H.out.fr_nil hfW) hi (NUMAT.out (Or.inl ⟨Q46.out, HD2.out⟩))).mono ?_
      intro e w2 hp
      obtain ⟨a0, a1, a2, a4, a5, er, rfl, hf2⟩ := hp.form
      have hb3 := hb2.fr hf2 (by simp; omega)
      obtain ⟨y0, y1, y2, y3, y4, y5, z0, z1, z2, z3, z4, z5⟩ := hb3.sixc
      have HPO := Lib.hid hp; have HB3 := Lib.hid hb3; have HFW := Lib.hid hfW
      clear hp hb3 hfW hb2 hf2
      go_wp2_with fail
      refine body_gen fun V hV => ?_
      have hb6 : Bk V w.heap.size 43 #[.int .i64 a0, .int .i64 a1, .string a2, .bool false, .int .u64 a4, .int .u64 a5] := by rw [hV]; exact HB3.out.six _ _ _ _ _ _
      have hf6 : Fr [w.heap.size] w2 V := by rw [hV]; exact (Fr.refl _ _).six (b := w.heap.size) (.inl (by simp)) _ _ _ _ _ _
      clear hV
      obtain ⟨k0, k1, k2, k3, k4, k5, -⟩ := hb6.sixc
      refine bodyPost_ret (v := .tuple #[.agg #[.int .i64 a0, .int .i64 a1, .string a2, .bool false, .int .u64 a4, .int .u64 a5], er]) (by simp [results, Tryd.results13, go_sem, k0, k1, k2, k3, k4, k5]) rfl ?_
      rw [NUMEQ.out (Or.inl ⟨Q46.out, HD2.out⟩)]
      exact TokPost.far HPO.out HFW.out HB3.out hf6 hgl (Nat.le_refl _)
    | false =>
      have HD2 := Lib.hid hd2
      rw [hd2] at HDP2
      rw [HDF.out] at HDP
      rw [HLF.out] at HLP
      clear hd2
      have hfin : nextM (lastOp ts) (src.drop i) = signR (src.drop i) := by
        rw [REST.out (by rw [HD2.out, HDF.out]; simp), if_neg (by have := Q46.out; omega), if_neg (by have := Q46.out; omega), if_neg (by rw [HLF.out]; simp)]
      have HFI := Lib.hid hfin; clear hfin REST
      go_wp2_with fail
      go_at_call 29
      refine (HDP2.out _).mono ?_
      rintro e w1 ⟨rfl, rfl⟩
      go_wp2_with fail
      go_at_call 29
      refine (HDP.out _).mono ?_
      rintro e w1 ⟨rfl, rfl⟩
      go_wp2_with fail
      go_at_call 34
      refine (HLP.out _).mono ?_
      rintro e w1 ⟨rfl, rfl⟩
      go_wp2_with fail
      go_at_call 36
      refine calls_gen fun W hW => ?_
      have hfW : Fr [] w W := by rw [hW]; exact FRAME.out _
      have hb2 : Bk W w.heap.size 43 #[.int .i64 0, .int .i64 0, .string ⟨#[]⟩, .bool false, .int .u64 0, .int .u64 0] := by rw [hW]; exact BLOCK.out _
      clear hW
      refine (sign_any (H.out.fr_nil hfW) hi).mono ?_
      intro e w2 hp
      obtain ⟨a0, a1, a2, a4, a5, er, rfl, hf2⟩ := hp.form
      have hb3 := hb2.fr hf2 (by simp; omega)
      obtain ⟨y0, y1, y2, y3, y4, y5, z0, z1, z2, z3, z4, z5⟩ := hb3.sixc
      have HPO := Lib.hid hp; have HB3 := Lib.hid hb3; have HFW := Lib.hid hfW
      clear hp hb3 hfW hb2 hf2
      go_wp2_with fail
      refine body_gen fun V hV => ?_
      have hb6 : Bk V w.heap.size 43 #[.int .i64 a0, .int .i64 a1, .string a2, .bool false, .int .u64 a4, .int .u64 a5] := by rw [hV]; exact HB3.out.six _ _ _ _ _ _
      have hf6 : Fr [w.heap.size] w2 V := by rw [hV]; exact (Fr.refl _ _).six (b := w.heap.size) (.inl (by simp)) _ _ _ _ _ _
      clear hV
      obtain ⟨k0, k1, k2, k3, k4, k5, -⟩ := hb6.sixc
      refine bodyPost_ret (v := .tuple #[.agg #[.int .i64 a0, .int .i64 a1, .string a2, .bool false, .int .u64 a4, .int .u64 a5], er]) (by simp [results, Tryd.results13, go_sem, k0, k1, k2, k3, k4, k5]) rfl ?_
      rw [HFI.out]
      exact TokPost.far HPO.out HFW.out HB3.out hf6 hgl (Nat.le_refl _)
  have g46 : ((p.toNat : Int) == 46) = false := by simp; omega
  cases hd1 : digM p with
  | true =>
    have HD1 := Lib.hid hd1
    rw [hd1] at HDP
    clear hd1
    go_wp2_with fail
    go_at_call 29
    refine (HDP.out _).mono ?_
    rintro e w1 ⟨rfl, rfl⟩
    go_wp2_with fail
    go_at_call 30
    refine calls_gen fun W hW => ?_
    have hfW : Fr [] w W := by rw [hW]; exact FRAME.out _
    have hb2 : Bk W w.heap.size 43 #[.int .i64 0, .int .i64 0, .string ⟨#[]⟩, .bool false, .int .u64 0, .int .u64 0] := by rw [hW]; exact BLOCK.out _
    clear hW
    refine (number_any (H.out.fr_nil hfW) hi (NUMAT.out (Or.inr HD1.out))).mono ?_
    intro e w2 hp
    obtain ⟨a0, a1, a2, a4, a5, er, rfl, hf2⟩ := hp.form
    have hb3 := hb2.fr hf2 (by simp; omega)
    obtain ⟨y0, y1, y2, y3, y4, y5, z0, z1, z2, z3, z4, z5⟩ := hb3.sixc
    have HPO := Lib.hid hp; have HB3 := Lib.hid hb3; have HFW := Lib.hid hfW
    clear hp hb3 hfW hb2 hf2
    go_wp2_with fail
    refine body_gen fun V hV => ?_
    have hb6 : Bk V w.heap.size 43 #[.int .i64 a0, .int .i64 a1, .string a2, .bool false, .int .u64 a4, .int .u64 a5] := by rw [hV]; exact HB3.out.six _ _ _ _ _ _
    have hf6 : Fr [w.heap.size] w2 V := by rw [hV]; exact (Fr.refl _ _).six (b := w.heap.size) (.inl (by simp)) _ _ _ _ _ _
    clear hV
    obtain ⟨k0, k1, k2, k3, k4, k5, -⟩ := hb6.sixc
    refine bodyPost_ret (v := .tuple #[.agg #[.int .i64 a0, .int .i64 a1, .string a2, .bool false, .int .u64 a4, .int .u64 a5], er]) (by simp [results, Tryd.results13, go_sem, k0, k1, k2, k3, k4, k5]) rfl ?_
    rw [NUMEQ.out (Or.inr HD1.out)]
    exact TokPost.far HPO.out HFW.out HB3.out hf6 hgl (Nat.le_refl _)
  | false =>
    have hrest := REST.out (by rw [hd1]; rintro (⟨h, -⟩ | h); exact q46 h; cases h)
    have REST2 := Lib.hid hrest; clear hrest REST q46
    rw [hd1] at HDP
    clear hd1
    by_cases q34 : p.toNat = 34
    · have g34 : ((p.toNat : Int) == 34) = true := by simp; omega
      have hfin := REST2.out
      rw [if_pos q34] at hfin
      have HFI := Lib.hid hfin; clear hfin REST2 q34
      go_wp2_with fail
      go_at_call 29
      refine (HDP.out _).mono ?_
      rintro e w1 ⟨rfl, rfl⟩
      go_wp2_with fail
      go_at_call 31
      refine calls_gen fun W hW => ?_
      have hfW : Fr [] w W := by rw [hW]; exact FRAME.out _
      have hb2 : Bk W w.heap.size 43 #[.int .i64 0, .int .i64 0, .string ⟨#[]⟩, .bool false, .int .u64 0, .int .u64 0] := by rw [hW]; exact BLOCK.out _
      clear hW
      refine (text_any (H.out.fr_nil hfW) hi).mono ?_
      intro e w2 hp
      obtain ⟨a0, a1, a2, a4, a5, er, rfl, hf2⟩ := hp.form
      have hb3 := hb2.fr hf2 (by simp; omega)
      obtain ⟨y0, y1, y2, y3, y4, y5, z0, z1, z2, z3, z4, z5⟩ := hb3.sixc
      have HPO := Lib.hid hp; have HB3 := Lib.hid hb3; have HFW := Lib.hid hfW
      clear hp hb3 hfW hb2 hf2
      go_wp2_with fail
      refine body_gen fun V hV => ?_
      have hb6 : Bk V w.heap.size 43 #[.int .i64 a0, .int .i64 a1, .string a2, .bool false, .int .u64 a4, .int .u64 a5] := by rw [hV]; exact HB3.out.six _ _ _ _ _ _
      have hf6 : Fr [w.heap.size] w2 V := by rw [hV]; exact (Fr.refl _ _).six (b := w.heap.size) (.inl (by simp)) _ _ _ _ _ _
      clear hV
      obtain ⟨k0, k1, k2, k3, k4, k5, -⟩ := hb6.sixc
      refine bodyPost_ret (v := .tuple #[.agg #[.int .i64 a0, .int .i64 a1, .string a2, .bool false, .int .u64 a4, .int .u64 a5], er]) (by simp [results, Tryd.results13, go_sem, k0, k1, k2, k3, k4, k5]) rfl ?_
      rw [HFI.out]
      exact TokPost.far HPO.out HFW.out HB3.out hf6 hgl (Nat.le_refl _)
    have g34 : ((p.toNat : Int) == 34) = false := by simp; omega
    have hr3 := REST2.out
    rw [if_neg q34] at hr3
    have REST3 := Lib.hid hr3; clear hr3 REST2 q34
    by_cases q47 : p.toNat = 47
    · have g47 : ((p.toNat : Int) == 47) = true := by simp; omega
      have hlf : letM p = false := by unfold letM; rw [q47]; rfl
      rw [hlf] at HLP
      have hr4 := REST3.out
      cases hop : lastOp ts with
      | true =>
        rw [if_pos ⟨q47, hop⟩] at hr4
        have HFI := Lib.hid hr4
        rw [hop] at HOP
        clear hr4 REST3 hop q47 hlf
        go_wp2_with fail
        go_at_call 29
        refine (HDP.out _).mono ?_
        rintro e w1 ⟨rfl, rfl⟩
        go_wp2_with fail
        go_at_call 32
        refine calls_gen fun U hU => ?_
        have hfU : Fr [] w U := by rw [hU]; exact FRAME.out _
        have hbU : Bk U w.heap.size 43 #[.int .i64 0, .int .i64 0, .string ⟨#[]⟩, .bool false, .int .u64 0, .int .u64 0] := by rw [hU]; exact BLOCK.out _
        clear hU
        refine (HOP.out U hfU).mono ?_
        rintro e w5 ⟨rfl, hfo⟩
        have HF5 := Lib.hid (hfU.trans hfo); have HB5 := Lib.hid (hbU.fr hfo (by simp))
        clear hfU hbU hfo
        go_wp2_with fail
        go_at_call 33
        refine calls_gen fun W hW => ?_
        have hfW : Fr [] w W := by rw [hW]; exact HF5.out
        have hb2 : Bk W w.heap.size 43 #[.int .i64 0, .int .i64 0, .string ⟨#[]⟩, .bool false, .int .u64 0, .int .u64 0] := by rw [hW]; exact HB5.out
        clear hW
        refine (regex_any (H.out.fr_nil hfW) hi).mono ?_
        intro e w2 hp
        obtain ⟨a0, a1, a2, a4, a5, er, rfl, hf2⟩ := hp.form
        have hb3 := hb2.fr hf2 (by simp; omega)
        obtain ⟨y0, y1, y2, y3, y4, y5, z0, z1, z2, z3, z4, z5⟩ := hb3.sixc
        have HPO := Lib.hid hp; have HB3 := Lib.hid hb3; have HFW := Lib.hid hfW
        clear hp hb3 hfW hb2 hf2
        go_wp2_with fail
        refine body_gen fun V hV => ?_
        have hb6 : Bk V w.heap.size 43 #[.int .i64 a0, .int .i64 a1, .string a2, .bool false, .int .u64 a4, .int .u64 a5] := by rw [hV]; exact HB3.out.six _ _ _ _ _ _
        have hf6 : Fr [w.heap.size] w2 V := by rw [hV]; exact (Fr.refl _ _).six (b := w.heap.size) (.inl (by simp)) _ _ _ _ _ _
        clear hV
        obtain ⟨k0, k1, k2, k3, k4, k5, -⟩ := hb6.sixc
        refine bodyPost_ret (v := .tuple #[.agg #[.int .i64 a0, .int .i64 a1, .string a2, .bool false, .int .u64 a4, .int .u64 a5], er]) (by simp [results, Tryd.results13, go_sem, k0, k1, k2, k3, k4, k5]) rfl ?_
        rw [HFI.out]
        exact TokPost.far HPO.out HFW.out HB3.out hf6 hgl (Nat.le_refl _)
      | false =>
        rw [if_neg (by rw [hop]; simp), if_neg (by rw [hlf]; simp)] at hr4
        have HFI := Lib.hid hr4
        rw [hop] at HOP
        clear hr4 REST3 hop q47 hlf
        go_wp2_with fail
        go_at_call 29
        refine (HDP.out _).mono ?_
        rintro e w1 ⟨rfl, rfl⟩
        go_wp2_with fail
        go_at_call 32
        refine calls_gen fun U hU => ?_
        have hfU : Fr [] w U := by rw [hU]; exact FRAME.out _
        have hbU : Bk U w.heap.size 43 #[.int .i64 0, .int .i64 0, .string ⟨#[]⟩, .bool false, .int .u64 0, .int .u64 0] := by rw [hU]; exact BLOCK.out _
        clear hU
        refine (HOP.out U hfU).mono ?_
        rintro e w5 ⟨rfl, hfo⟩
        have HF5 := Lib.hid (hfU.trans hfo); have HB5 := Lib.hid (hbU.fr hfo (by simp))
        clear hfU hbU hfo
        go_wp2_with fail
        go_at_call 34
        refine (HLP.out _).mono ?_
        rintro e w1 ⟨rfl, rfl⟩
        go_wp2_with fail
        go_at_call 36
        refine calls_gen fun W hW => ?_
        have hfW : Fr [] w W := by rw [hW]; exact HF5.out
        have hb2 : Bk W w.heap.size 43 #[.int .i64 0, .int .i64 0, .string ⟨#[]⟩, .bool false, .int .u64 0, .int .u64 0] := by rw [hW]; exact HB5.out
        clear hW
        refine (sign_any (H.out.fr_nil hfW) hi).mono ?_
        intro e w2 hp
        obtain ⟨a0, a1, a2, a4, a5, er, rfl, hf2⟩ := hp.form
        have hb3 := hb2.fr hf2 (by simp; omega)
        obtain ⟨y0, y1, y2, y3, y4, y5, z0, z1, z2, z3, z4, z5⟩ := hb3.sixc
        have HPO := Lib.hid hp; have HB3 := Lib.hid hb3; have HFW := Lib.hid hfW
        clear hp hb3 hfW hb2 hf2
        go_wp2_with fail
        refine body_gen fun V hV => ?_
        have hb6 : Bk V w.heap.size 43 #[.int .i64 a0, .int .i64 a1, .string a2, .bool false, .int .u64 a4, .int .u64 a5] := by rw [hV]; exact HB3.out.six _ _ _ _ _ _
        have hf6 : Fr [w.heap.size] w2 V := by rw [hV]; exact (Fr.refl _ _).six (b := w.heap.size) (.inl (by simp)) _ _ _ _ _ _
        clear hV
        obtain ⟨k0, k1, k2, k3, k4, k5, -⟩ := hb6.sixc
        refine bodyPost_ret (v := .tuple #[.agg #[.int .i64 a0, .int .i64 a1, .string a2, .bool false, .int .u64 a4, .int .u64 a5], er]) (by simp [results, Tryd.results13, go_sem, k0, k1, k2, k3, k4, k5]) rfl ?_
        rw [HFI.out]
        exact TokPost.far HPO.out HFW.out HB3.out hf6 hgl (Nat.le_refl _)
    have g47 : ((p.toNat : Int) == 47) = false := by simp; omega
    have hr4 := REST3.out
    rw [if_neg (fun h => q47 h.1)] at hr4
    have REST4 := Lib.hid hr4; clear hr4 REST3 q47
    cases hlt : letM p with
    | true =>
      have hr5 := REST4.out
      rw [if_pos hlt] at hr5
      have HFI := Lib.hid hr5
      rw [hlt] at HLP
      clear hr5 REST4 hlt
      go_wp2_with fail
      go_at_call 29
      refine (HDP.out _).mono ?_
      rintro e w1 ⟨rfl, rfl⟩
      go_wp2_with fail
      go_at_call 34
      refine (HLP.out _).mono ?_
      rintro e w1 ⟨rfl, rfl⟩
      go_wp2_with fail
      go_at_call 35
      refine calls_gen fun W hW => ?_
      have hfW : Fr [] w W := by rw [hW]; exact FRAME.out _
      have hb2 : Bk W w.heap.size 43 #[.int .i64 0, .int .i64 0, .string ⟨#[]⟩, .bool false, .int .u64 0, .int .u64 0] := by rw [hW]; exact BLOCK.out _
      clear hW
      refine (name_any (H.out.fr_nil hfW) hi).mono ?_
      rintro e w2 ⟨rfl, hr2, hf2⟩
      have htok : TokPost W g (some a) c src i L (nextM (lastOp ts) (src.drop i)) (.returned (.tuple #[tokV (kindM ((src.drop i).takeWhile wrdM) (src.getD (i + wdl (src.drop i)) 0).toNat) i ((src.drop i).takeWhile wrdM) 0, .nilIface])) w2 := by
        rw [HFI.out, headD_drop]
        exact ⟨rfl, hr2, hf2⟩
      obtain ⟨hi', lo', htf⟩ := tokV_form (kindM ((src.drop i).takeWhile wrdM) (src.getD (i + wdl (src.drop i)) 0).toNat) i ((src.drop i).takeWhile wrdM) 0
      rw [htf] at htok ⊢
      have hb3 := hb2.fr hf2 (by simp; omega)
      obtain ⟨y0, y1, y2, y3, y4, y5, z0, z1, z2, z3, z4, z5⟩ := hb3.sixc
      have HPO := Lib.hid htok; have HB3 := Lib.hid hb3; have HFW := Lib.hid hfW
      clear htok hb3 hfW hb2 hf2 hr2 htf
      generalize kindM ((src.drop i).takeWhile wrdM) (src.getD (i + wdl (src.drop i)) 0).toNat = kd at *
      generalize (src.drop i).takeWhile wrdM = l at *
      go_wp2_with fail
      refine body_gen fun V hV => ?_
      have hb6 : Bk V w.heap.size 43 #[.int .i64 (kd : Int), .int .i64 (i : Int), .string ⟨l.toArray⟩, .bool false, .int .u64 (hi' : Int), .int .u64 (lo' : Int)] := by rw [hV]; exact HB3.out.six _ _ _ _ _ _
      have hf6 : Fr [w.heap.size] w2 V := by rw [hV]; exact (Fr.refl _ _).six (b := w.heap.size) (.inl (by simp)) _ _ _ _ _ _
      clear hV
      obtain ⟨k0, k1, k2, k3, k4, k5, -⟩ := hb6.sixc
      refine bodyPost_ret (v := .tuple #[.agg #[.int .i64 (kd : Int), .int .i64 (i : Int), .string ⟨l.toArray⟩, .bool false, .int .u64 (hi' : Int), .int .u64 (lo' : Int)], .nilIface]) (by simp [results, Tryd.results13, go_sem, k0, k1, k2, k3, k4, k5]) rfl ?_
      exact TokPost.far HPO.out HFW.out HB3.out hf6 hgl (Nat.le_refl _)
    | false =>
      have hr5 := REST4.out
      rw [if_neg (by rw [hlt]; simp)] at hr5
      have HFI := Lib.hid hr5
      rw [hlt] at HLP
      clear hr5 REST4 hlt
      go_wp2_with fail
      go_at_call 29
      refine (HDP.out _).mono ?_
      rintro e w1 ⟨rfl, rfl⟩
      go_wp2_with fail
      go_at_call 34
      refine (HLP.out _).mono ?_
      rintro e w1 ⟨rfl, rfl⟩
      go_wp2_with fail
      go_at_call 36
      refine calls_gen fun W hW => ?_
      have hfW : Fr [] w W := by rw [hW]; exact FRAME.out _
      have hb2 : Bk W w.heap.size 43 #[.int .i64 0, .int .i64 0, .string ⟨#[]⟩, .bool false, .int .u64 0, .int .u64 0] := by rw [hW]; exact BLOCK.out _
      clear hW
      refine (sign_any (H.out.fr_nil hfW) hi).mono ?_
      intro e w2 hp
      obtain ⟨a0, a1, a2, a4, a5, er, rfl, hf2⟩ := hp.form
      have hb3 := hb2.fr hf2 (by simp; omega)
      obtain ⟨y0, y1, y2, y3, y4, y5, z0, z1, z2, z3, z4, z5⟩ := hb3.sixc
      have HPO := Lib.hid hp; have HB3 := Lib.hid hb3; have HFW := Lib.hid hfW
      clear hp hb3 hfW hb2 hf2
      go_wp2_with fail
      refine body_gen fun V hV => ?_
      have hb6 : Bk V w.heap.size 43 #[.int .i64 a0, .int .i64 a1, .string a2, .bool false, .int .u64 a4, .int .u64 a5] := by rw [hV]; exact HB3.out.six _ _ _ _ _ _
      have hf6 : Fr [w.heap.size] w2 V := by rw [hV]; exact (Fr.refl _ _).six (b := w.heap.size) (.inl (by simp)) _ _ _ _ _ _
      clear hV
      obtain ⟨k0, k1, k2, k3, k4, k5, -⟩ := hb6.sixc
      refine bodyPost_ret (v := .tuple #[.agg #[.int .i64 a0, .int .i64 a1, .string a2, .bool false, .int .u64 a4, .int .u64 a5], er]) (by simp [results, Tryd.results13, go_sem, k0, k1, k2, k3, k4, k5]) rfl ?_
      rw [HFI.out]
      exact TokPost.far HPO.out HFW.out HB3.out hf6 hgl (Nat.le_refl _)
end Go.Proofs.YtjfgopihfgljmaaDoor
