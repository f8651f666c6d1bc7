/-
  The lexer's sign. No conditions on the program.
-/
import Derived.Test.YtjfgopihfgljmaaDoorLex10
import Derived.Laws.Externs
import Derived.Lib.Bytealg
import Derived.Lib.IndexLaws
import Derived.Deep.Cut
import Derived.Deep.Cut
import Derived.Deep.Cut
namespace Go.Proofs.YtjfgopihfgljmaaDoor
open Go.RowKit
set_option linter.unusedVariables false
set_option linter.unusedSimpArgs false

section
variable {P : Program} {Q : Exit → Act → World → Prop} {md : Region.Mode} {G : World → World → Prop} {S : World → Prop} {l r : List Oper} {o : Oper} {i n : Nat} {listed : Array Bool} {a : Act} {w : World}
/-- 'string(b)' in a region that draws. -/
theorem M_str2 (src dst : TypeId) (x : Operand) (su : Setup P l Q G S) (ho : l.drop i = o :: r) (hop : o.op = .convert src dst x) (e : TypeId) (hs : P.underlying src = some (.slice e)) (he : P.underlying e = some (.int .u8)) (hd : P.underlying dst = some .string)
    (A : Option Addr) (bs : List UInt8) (k c : Nat) (hx : a.eval x = .slice A k c) (hb : ∀ w, S w → At w A (byteVals bs)) (hk : bs.length = k)
    (hB : ((Region.ready md l.toArray listed).contains i && Region.free md l.toArray listed i) = true) (hS : S w) (hw : Region.wanted o (yielded l.toArray a.tmps) = true)
    (hr : wpAnyM P md l.toArray Q G S n (listed.setIfInBounds i true) (a.put o.dst (.string ⟨bs.toArray⟩)) w) : wpAnyM P md l.toArray Q G S (n + 1) listed a w := by
  refine M_val su ho hB hS hw (fun w' hS' => ?_) hr
  have hrun := run_str_ (P := P) (w := w') src dst e hs he hd A bs k c (hb w' hS') hk
  unfold execOp
  simp only [hop, hx, hrun, Sem.run_bind, Result.andThen_ok, Sem.run_pure]
end
theorem singles_idx (c : UInt8) : decide (0 ≤ firstIdx ⟨singles.toArray⟩ ((c.toNat : Int).toNat.toUInt8)) = decide (c ∈ singles) := by
  rw [Lib.firstIdx_eq]
  have e : ((c.toNat : Int).toNat.toUInt8) = c := by simp
  rw [e]
  show decide (0 ≤ Lib.indexByte singles c) = _
  rw [Bool.eq_iff_iff, decide_eq_true_eq, decide_eq_true_eq]
  constructor
  · intro h
    obtain ⟨o, ho⟩ := Int.eq_ofNat_of_zero_le h
    exact List.mem_of_getElem? (Lib.indexByte_some ho).1
  · intro h
    rcases Int.lt_or_le (Lib.indexByte singles c) 0 with hl | hl
    · have h1 : Lib.indexByte singles c = -1 := by have := Lib.indexByte_ge singles c; omega
      obtain ⟨k, hk⟩ := List.getElem?_of_mem h
      exact absurd hk (Lib.indexByte_none h1 k)
    · exact hl
theorem sidx_any (c : UInt8) (w : World) : Calls Tryd.prog 47 #[.string ⟨#[123, 125, 40, 41, 91, 93, 59, 44, 43, 45, 42, 47, 37, 94, 33, 62, 60, 63, 58, 126, 36, 61]⟩, .int .u8 (c.toNat : Int)] w fun e w' => ∃ v : Int, e = .returned (.int .i64 v) ∧ decide (0 ≤ v) = decide (c ∈ singles) ∧ w = w' := by
  obtain ⟨v, hv⟩ : ∃ v, v = firstIdx ⟨singles.toArray⟩ ((c.toNat : Int).toNat.toUInt8) := ⟨_, rfl⟩
  have hs := singles_idx c
  rw [← hv] at hs
  have hrun : ∀ w, (callFunc 55 #[.string ⟨#[123, 125, 40, 41, 91, 93, 59, 44, 43, 45, 42, 47, 37, 94, 33, 62, 60, 63, 58, 126, 36, 61]⟩, .int .u8 (c.toNat : Int)]).run Tryd.prog w = .ok (.value (.int .i64 v)) w := fun w => by
    rw [run_callFunc_extern Tryd.func55 (by kernel_rfl) (by kernel_rfl) (by kernel_rfl) (e := Extern.BytealgIndexByte.indexByte) (by kernel_rfl), run_indexByte_string, hv]
    rfl
  have hin : ∀ w, Calls Tryd.prog 50 #[.string ⟨#[123, 125, 40, 41, 91, 93, 59, 44, 43, 45, 42, 47, 37, 94, 33, 62, 60, 63, 58, 126, 36, 61]⟩, .int .u8 (c.toNat : Int)] w fun e w' => e = .returned (.int .i64 v) ∧ w = w' := fun w => by
    clear hs hv
    go_enter Tryd.func50, Tryd.ntmps50
    go_wp2_with fail
    go_ret
    exact ⟨rfl, rfl⟩
  have HIN := Lib.hid hin
  clear hin hv hrun
  go_enter Tryd.func47, Tryd.ntmps47
  go_wp2_with fail
  go_at_call 50
  refine (HIN.out _).mono ?_
  rintro e w1 ⟨rfl, rfl⟩
  go_wp2_with fail
  go_ret
  exact ⟨v, rfl, hs, rfl⟩
def signR (s : List UInt8) : Except Nat (Nat × List UInt8 × Nat × Nat) := if s.take 2 ∈ pairs then .ok (9, s.take 2, 0, 2) else if s.headD 0 ∈ singles then .ok (9, s.take 1, 0, 1) else .error 4
set_option maxRecDepth 100000 in
set_option maxHeartbeats 8000000 in
theorem sign_any {w : World} {g : Nat} {A : Option Addr} {c : Nat} {src : List UInt8} {i : Nat} {L : Value} (h : Rdr w g A c src i L) (hi : i < src.length) :
    Calls Tryd.prog 36 #[.pointer (some ⟨g, 0, none⟩)] w (TokPost w g A c src i L (signR (src.drop i))) := by
  obtain ⟨c0, c1, c2, f1⟩ := h.cells
  obtain ⟨i0, hi0, hz0, hz1, hz2⟩ := u8parts
  have hl := h.len
  have hgl := h.blk.lt
  obtain ⟨a, rfl, hb, e0⟩ := byte_at h.byt hi
  obtain ⟨q, hq⟩ : ∃ q, q = src.getD i 0 := ⟨_, rfl⟩
  rw [← hq] at e0
  have hsi := sidx_any q
  have HSI := Lib.hid hsi; have HQ := Lib.hid hq; clear hsi hq
  have H := Lib.hid h; clear h
  have e0' : ∀ o : Obj, (w.alloc o).cell? (a.add i) = some (.int .u8 (q.toNat : Int)) := fun o => (((Fr.refl [] w).alloc o).cell (p := a.add i) (by rw [blk_add]; exact hb) (by simp)).trans e0
  generalize hqn : (q.toNat : Int) = qn at *
  clear hqn
  obtain ⟨b2, hbe⟩ : ∃ b2, b2 = w.heap.size := ⟨_, rfl⟩
  have HBE := Lib.hid hbe; clear hbe
  obtain ⟨n1, hn1⟩ : ∃ n1 : Nat, n1 = if q ∈ singles then 1 else 0 := ⟨_, rfl⟩
  obtain ⟨n2, hn2⟩ : ∃ n2 : Nat, n2 = if (src.drop i).take 2 ∈ pairs then 2 else n1 := ⟨_, rfl⟩
  have HN1 := Lib.hid hn1; have HN2 := Lib.hid hn2; clear hn1 hn2
  go_enter Tryd.func36, Tryd.ntmps36
  go_wp2_with fail
  go_at_call 47
  refine (HSI.out _).mono ?_
  rintro e w1 ⟨v, rfl, hv, rfl⟩
  have HV := Lib.hid hv; clear hv
  go_upto_if 18 with fail
  go_cut [5] from 18 to 78 (fun v5 wx => v5 = .int .i64 (n1 : Int) ∧ wx = w.alloc (.cells #[.int .i64 0, .int .i64 0, .string ⟨#[]⟩, .bool false, .int .u64 0, .int .u64 0] 43))
  case first =>
    by_cases hsg : q ∈ singles
    · have hv2 : 0 ≤ v := by have := HV.out; rw [decide_eq_true hsg] at this; simpa using this
      have HN : Hid (n1 = 1) := Lib.hid (by rw [HN1.out, if_pos hsg])
      clear hsg
      go_wp2_with fail
      go_meet
      case rel => exact ⟨by rw [HN.out]; rfl, rfl⟩
    · have hv2 : ¬ 0 ≤ v := by have := HV.out; rw [decide_eq_false hsg] at this; simpa using this
      have HN : Hid (n1 = 0) := Lib.hid (by rw [HN1.out, if_neg hsg])
      clear hsg
      go_wp2_with fail
      go_meet
      case rel => exact ⟨by rw [HN.out]; rfl, rfl⟩
  case rest =>
    obtain ⟨rfl, rfl⟩ := hcut
    go_upto_if 26 with fail
    go_cut [5] from 26 to 78 (fun v5 wx => v5 = .int .i64 (n2 : Int) ∧ wx = w.alloc (.cells #[.int .i64 0, .int .i64 0, .string ⟨#[]⟩, .bool false, .int .u64 0, .int .u64 0] 43))
    case first =>
      by_cases hlt2 : i + 1 < src.length
      · have HLEN : Hid (i + 2 ≤ src.length) := Lib.hid (by omega)
        obtain ⟨l2, hl2⟩ : ∃ l2, l2 = (src.drop i).take 2 := ⟨_, rfl⟩
        have HBY : Hid (∀ W X, At W X (((byteVals src).drop i).take (i + 2 - i)) → At W X (byteVals l2)) := Lib.hid (fun W X h => by rw [hl2]; simpa [byteVals, List.map_take, List.map_drop] using h)
        have HLL : Hid (l2.length = i + 2 - i) := Lib.hid (by rw [hl2, List.length_take, List.length_drop]; omega)
        have HL2 := Lib.hid hl2; clear hl2
        by_cases hnp : (src.drop i).take 2 ∈ pairs
        · have HN : Hid (n2 = 2) := Lib.hid (by rw [HN2.out, if_pos hnp])
          rw [← HL2.out] at hnp
          clear HL2 HN2
          simp only [pairs, List.mem_cons, List.not_mem_nil, or_false] at hnp
          rcases hnp with rfl | rfl | rfl | rfl | rfl | rfl | rfl | rfl | rfl | rfl | rfl | rfl | rfl | rfl | rfl | rfl
          all_goals
            go_wp2_with (first
              | (refine wpList_cut rfl 22 (.tmp 30) (some (.tmp 31)) (some (.tmp 33)) none rfl 5 i0 Tryd.underlying22 hi0 hz1 (some a) src.length c (by first | rfl | (simp [Act.eval]; done)) (byteVals src) (H.out.byt.fr_nil ((Fr.refl [] w).alloc _)) (byteVals_length _) H.out.cap (by intro h; cases h) i (i + 2) c (.inr (by first | rfl | (simp [Act.eval]; done))) (.inr (by first | rfl | (simp [Act.eval]; done))) (.inl ⟨rfl, rfl⟩) (by omega) (by have := H.out.cap; have := HLEN.out; omega) (Nat.le_refl _) HLEN.out ?_; intro X hX hX0 hXb; have HXA := Lib.hid hX; clear hX hX0 hXb)
              | (refine wpList_str rfl 22 9 (.tmp 34) rfl 5 Tryd.underlying22 Tryd.underlying5 Tryd.underlying9 X (i + 2 - i) (c - i) (by first | rfl | (simp [Act.eval]; done)) _ (HBY.out _ _ HXA.out) HLL.out ?_))
            go_meet
            case rel => exact ⟨by rw [HN.out]; rfl, rfl⟩
        · have HN : Hid (n2 = n1) := Lib.hid (by rw [HN2.out, if_neg hnp])
          have w0 : (l2 == [124, 38]) = false := beq_eq_false_iff_ne.2 (fun e => hnp (by rw [← HL2.out, e]; decide))
          have w1 : (l2 == [124, 124]) = false := beq_eq_false_iff_ne.2 (fun e => hnp (by rw [← HL2.out, e]; decide))
          have w2 : (l2 == [38, 38]) = false := beq_eq_false_iff_ne.2 (fun e => hnp (by rw [← HL2.out, e]; decide))
          have w3 : (l2 == [33, 126]) = false := beq_eq_false_iff_ne.2 (fun e => hnp (by rw [← HL2.out, e]; decide))
          have w4 : (l2 == [61, 61]) = false := beq_eq_false_iff_ne.2 (fun e => hnp (by rw [← HL2.out, e]; decide))
          have w5 : (l2 == [33, 61]) = false := beq_eq_false_iff_ne.2 (fun e => hnp (by rw [← HL2.out, e]; decide))
          have w6 : (l2 == [60, 61]) = false := beq_eq_false_iff_ne.2 (fun e => hnp (by rw [← HL2.out, e]; decide))
          have w7 : (l2 == [62, 61]) = false := beq_eq_false_iff_ne.2 (fun e => hnp (by rw [← HL2.out, e]; decide))
          have w8 : (l2 == [43, 43]) = false := beq_eq_false_iff_ne.2 (fun e => hnp (by rw [← HL2.out, e]; decide))
          have w9 : (l2 == [45, 45]) = false := beq_eq_false_iff_ne.2 (fun e => hnp (by rw [← HL2.out, e]; decide))
          have w10 : (l2 == [43, 61]) = false := beq_eq_false_iff_ne.2 (fun e => hnp (by rw [← HL2.out, e]; decide))
          have w11 : (l2 == [45, 61]) = false := beq_eq_false_iff_ne.2 (fun e => hnp (by rw [← HL2.out, e]; decide))
          have w12 : (l2 == [42, 61]) = false := beq_eq_false_iff_ne.2 (fun e => hnp (by rw [← HL2.out, e]; decide))
          have w13 : (l2 == [47, 61]) = false := beq_eq_false_iff_ne.2 (fun e => hnp (by rw [← HL2.out, e]; decide))
          have w14 : (l2 == [37, 61]) = false := beq_eq_false_iff_ne.2 (fun e => hnp (by rw [← HL2.out, e]; decide))
          have w15 : (l2 == [94, 61]) = false := beq_eq_false_iff_ne.2 (fun e => hnp (by rw [← HL2.out, e]; decide))
          clear hnp HL2 HN2
          go_wp2_with (first
            | (refine wpList_cut rfl 22 (.tmp 30) (some (.tmp 31)) (some (.tmp 33)) none rfl 5 i0 Tryd.underlying22 hi0 hz1 (some a) src.length c (by first | rfl | (simp [Act.eval]; done)) (byteVals src) (H.out.byt.fr_nil ((Fr.refl [] w).alloc _)) (byteVals_length _) H.out.cap (by intro h; cases h) i (i + 2) c (.inr (by first | rfl | (simp [Act.eval]; done))) (.inr (by first | rfl | (simp [Act.eval]; done))) (.inl ⟨rfl, rfl⟩) (by omega) (by have := H.out.cap; have := HLEN.out; omega) (Nat.le_refl _) HLEN.out ?_; intro X hX hX0 hXb; have HXA := Lib.hid hX; clear hX hX0 hXb)
            | (refine wpList_str rfl 22 9 (.tmp 34) rfl 5 Tryd.underlying22 Tryd.underlying5 Tryd.underlying9 X (i + 2 - i) (c - i) (by first | rfl | (simp [Act.eval]; done)) l2 (HBY.out _ _ HXA.out) HLL.out ?_))
          go_meet
          case rel => exact ⟨by rw [HN.out], rfl⟩
      · have HN : Hid (n2 = n1) := Lib.hid (by
          rw [HN2.out, if_neg]
          intro hnp
          have h2 : ((src.drop i).take 2).length = 2 := by
            revert hnp; generalize (src.drop i).take 2 = l2; intro hnp
            simp only [pairs, List.mem_cons, List.not_mem_nil, or_false] at hnp
            rcases hnp with rfl | rfl | rfl | rfl | rfl | rfl | rfl | rfl | rfl | rfl | rfl | rfl | rfl | rfl | rfl | rfl <;> rfl
          simp at h2; omega)
        clear HN2
        go_wp2_with fail
        go_meet
        case rel => exact ⟨by rw [HN.out], rfl⟩
    case rest =>
      obtain ⟨rfl, rfl⟩ := hcut
      obtain ⟨l', hl'⟩ : ∃ l', l' = (src.drop i).take n2 := ⟨_, rfl⟩
      have hq1 : (src.drop i).headD 0 = q := by rw [drop_cons_ hi, HQ.out]; rfl
      have hn3 : n2 = 0 ∨ n2 = 1 ∨ n2 = 2 := by rw [HN2.out, HN1.out]; split <;> (try split) <;> simp
      have hlen : i + n2 ≤ src.length := by
        rcases hn3 with h | h | h
        · omega
        · omega
        · have h2 : ((src.drop i).take 2).length = 2 := by
            by_cases hnp : (src.drop i).take 2 ∈ pairs
            · revert hnp; generalize (src.drop i).take 2 = l2; intro hnp
              simp only [pairs, List.mem_cons, List.not_mem_nil, or_false] at hnp
              rcases hnp with rfl | rfl | rfl | rfl | rfl | rfl | rfl | rfl | rfl | rfl | rfl | rfl | rfl | rfl | rfl | rfl <;> rfl
            · exfalso
              have := HN2.out
              rw [if_neg hnp, HN1.out] at this
              split at this <;> omega
          simp at h2; omega
      have hll : l'.length = n2 := by rw [hl', List.length_take, List.length_drop]; omega
      have hsr : signR (src.drop i) = if n2 = 0 then .error 4 else .ok (9, l', 0, n2) := by
        unfold signR
        rw [hq1, hl']
        by_cases hnp : (src.drop i).take 2 ∈ pairs
        · have e2 : n2 = 2 := by rw [HN2.out, if_pos hnp]
          rw [if_pos hnp, e2]; rfl
        · have e2 : n2 = n1 := by rw [HN2.out, if_neg hnp]
          rw [if_neg hnp, e2]
          by_cases hsg : q ∈ singles
          · have e1 : n1 = 1 := by rw [HN1.out, if_pos hsg]
            rw [if_pos hsg, e1]; rfl
          · have e1 : n1 = 0 := by rw [HN1.out, if_neg hsg]
            rw [if_neg hsg, e1]; rfl
      have HLP := Lib.hid hl'; have HLL := Lib.hid hll; have HLEN := Lib.hid hlen
      clear hl' hll hlen hq1 HN1 HN2 HQ
      by_cases h0 : n2 = 0
      · rw [if_pos h0] at hsr
        have HSR := Lib.hid hsr; clear hsr hn3 HLP HLL HLEN
        subst h0
        go_wp2_with fail
        go_at_call 11
        refine calls_gen fun W hW => ?_
        have hfW : Fr [] w W := by rw [hW]; exact (Fr.refl [] w).alloc _
        have hbW : Bk W b2 43 #[.int .i64 0, .int .i64 0, .string ⟨#[]⟩, .bool false, .int .u64 0, .int .u64 0] := by rw [hW, HBE.out]; exact Bk.new w _ _
        clear hW
        refine (fault_any i 4 W).mono ?_
        rintro e w6 ⟨b, rfl, hfl, hf6⟩
        have h3 := hbW.fr hf6 (by simp)
        have hRW := H.out.fr_nil (hfW.trans hf6)
        have hgb2 : g < b2 := by rw [HBE.out]; exact hgl
        obtain ⟨y0, y1, y2, y3, y4, y5, z0, z1, z2, z3, z4, z5⟩ := h3.sixc
        obtain ⟨fb, hfe, hfb⟩ := hfl
        have H3 := Lib.hid h3; have HFL := Lib.hid hfb; have HR := Lib.hid hRW; have HF := Lib.hid (hfW.trans hf6)
        clear h3 hfb hf6 hfW hbW hRW
        rw [← HBE.out]
        go_wp2_with fail
        refine body_gen fun V hV => ?_
        have hb4 : Bk V b2 43 #[.int .i64 0, .int .i64 0, .string ⟨#[]⟩, .bool false, .int .u64 0, .int .u64 0] := by rw [hV]; exact H3.out.six _ _ _ _ _ _
        have hf4 : Fr [b2] w6 V := by rw [hV]; exact (Fr.refl _ _).six (b := b2) (.inl (by simp)) _ _ _ _ _ _
        clear hV
        obtain ⟨k0, k1, k2, k3, k4, k5, -⟩ := hb4.sixc
        refine bodyPost_ret (v := .tuple #[tokZ, .iface 34 (.pointer (some ⟨b, 0, none⟩))]) (by unfold tokZ; simp [results, Tryd.results36, go_sem, k0, k1, k2, k3, k4, k5]) rfl ?_
        rw [HSR.out]
        exact ⟨b, i, rfl, ⟨b, rfl, HFL.out.fr hf4 (by simpa using HFL.out.ne_ H3.out (by decide))⟩, HR.out.fr_far hf4 (by simpa using hgb2), (HF.out.nil_).trans' hf4 (by simp [HBE.out])⟩
      · rw [if_neg h0] at hsr
        have HSR := Lib.hid hsr; clear hsr
        have g0 : ((n2 : Int) == 0) = false := by simp; omega
        go_wp2_with fail
        refine code_gen fun V hV => ?_
        have hRV : Rdr V g (some a) c src (i + n2) L := by
          rw [hV]
          have := (H.out.move (j := i + n2) HLEN.out).fr_nil ((Fr.refl [] _).alloc (.cells #[.int .i64 0, .int .i64 0, .string ⟨#[]⟩, .bool false, .int .u64 0, .int .u64 0] 43))
          rwa [show ((i + n2 : Nat) : Int) = (i : Int) + (n2 : Int) by omega] at this
        have hFV : Fr [g] w V := by rw [hV]; exact ((Fr.refl [g] w).setCell (.inl (by simp)) _).alloc _
        have hBV : Bk V b2 43 #[.int .i64 0, .int .i64 0, .string ⟨#[]⟩, .bool false, .int .u64 0, .int .u64 0] := by
          rw [hV, HBE.out]
          have := Bk.new (w.setCell ⟨g, 1, none⟩ (.int .i64 ((i : Int) + (n2 : Int)))) 43 #[.int .i64 0, .int .i64 0, .string ⟨#[]⟩, .bool false, .int .u64 0, .int .u64 0]
          simpa using this
        rw [← HBE.out]
        clear hV
        have HRV := Lib.hid hRV; have HFV := Lib.hid hFV; have HBV := Lib.hid hBV; have HCAP := Lib.hid hRV.cap
        obtain ⟨d0, d1, -, -⟩ := hRV.cells
        rw [show ((i + n2 : Nat) : Int) = (i : Int) + (n2 : Int) by omega] at d1
        have hgb2 : g < b2 := by rw [HBE.out]; exact hgl
        have HS : Hid (V.drew.cell? ⟨g, 0, none⟩ = some (.slice (some a) src.length c) ∧ V.drew.cell? ⟨g, 1, none⟩ = some (.int .i64 ((i : Int) + (n2 : Int))) ∧ Rdr V.drew g (some a) c src (i + n2) L) := Lib.hid ⟨d0, d1, hRV.fr_nil (Fr.refl [] V).drew⟩
        clear hRV hFV hBV d0 d1
        refine wp_region_M_ (G := fun a b => Fr [] a b) (S := fun W => W.cell? ⟨g, 0, none⟩ = some (.slice (some a) src.length c) ∧ W.cell? ⟨g, 1, none⟩ = some (.int .i64 ((i : Int) + (n2 : Int))) ∧ Rdr W g (some a) c src (i + n2) L) ⟨fun w => Fr.refl [] w, fun a b c h k => h.trans k, fun a b h k' => ⟨(k'.cell (World.block_lt_of_cell? a _ h.1) (by simp)).trans h.1, (k'.cell (World.block_lt_of_cell? a _ h.2.1) (by simp)).trans h.2.1, h.2.2.fr_nil k'⟩, by kernel_rfl, fun _ _ d _ _ h => by cases d <;> exact h⟩ (by kernel_rfl) fun su => ?_
        have SU := Lib.hid su
        clear su
        refine M_move (i := 0) _ SU.out rfl rfl (by kernel_rfl) HS.out rfl ?_
        simp only [Act.put, Act.eval, List.setIfInBounds_toArray, List.set_cons_zero, List.set_cons_succ, List.getElem?_toArray, List.getElem?_cons_zero, List.getElem?_cons_succ, Option.getD_some]
        refine M_move (i := 1) _ SU.out rfl rfl (by kernel_rfl) HS.out rfl ?_
        simp only [Act.put, Act.eval, List.setIfInBounds_toArray, List.set_cons_zero, List.set_cons_succ, List.getElem?_toArray, List.getElem?_cons_zero, List.getElem?_cons_succ, Option.getD_some]
        refine M_val (i := 2) (v := ?_) SU.out rfl (by kernel_rfl) HS.out rfl (fun W hS => ?_) ?_
        rotate_left
        · go_simp
          first | done | rfl
        simp only [Act.put, List.setIfInBounds_toArray, List.set_cons_zero, List.set_cons_succ]
        refine M_val (i := 3) (v := ?_) SU.out rfl (by kernel_rfl) HS.out rfl (fun W hS => ?_) ?_
        rotate_left
        · go_simp
          first | done | rfl
        simp only [Act.put, List.setIfInBounds_toArray, List.set_cons_zero, List.set_cons_succ]
        refine M_val (i := 4) (v := .slice (some a) src.length c) SU.out rfl (by kernel_rfl) HS.out rfl (fun W hS => ?_) ?_
        · obtain ⟨s0, s1, s2⟩ := hS
          go_simp
          first | done | rfl
        simp only [Act.put, List.setIfInBounds_toArray, List.set_cons_zero, List.set_cons_succ]
        refine M_move (i := 5) _ SU.out rfl rfl (by kernel_rfl) HS.out rfl ?_
        simp only [Act.put, Act.eval, List.setIfInBounds_toArray, List.set_cons_zero, List.set_cons_succ, List.getElem?_toArray, List.getElem?_cons_zero, List.getElem?_cons_succ, Option.getD_some]
        refine M_move (i := 6) _ SU.out rfl rfl (by kernel_rfl) HS.out rfl ?_
        simp only [Act.put, Act.eval, List.setIfInBounds_toArray, List.set_cons_zero, List.set_cons_succ, List.getElem?_toArray, List.getElem?_cons_zero, List.getElem?_cons_succ, Option.getD_some]
        refine M_val (i := 7) (v := ?_) SU.out rfl (by kernel_rfl) HS.out rfl (fun W hS => ?_) ?_
        rotate_left
        · go_simp
          first | done | rfl
        simp only [Act.put, List.setIfInBounds_toArray, List.set_cons_zero, List.set_cons_succ]
        refine M_val (i := 8) (v := ?_) SU.out rfl (by kernel_rfl) HS.out rfl (fun W hS => ?_) ?_
        rotate_left
        · go_simp
          first | done | rfl
        simp only [Act.put, List.setIfInBounds_toArray, List.set_cons_zero, List.set_cons_succ]
        refine M_val (i := 9) (v := .int .i64 ((i : Int) + (n2 : Int))) SU.out rfl (by kernel_rfl) HS.out rfl (fun W hS => ?_) ?_
        · obtain ⟨s0, s1, s2⟩ := hS
          go_simp
          first | done | rfl
        simp only [Act.put, List.setIfInBounds_toArray, List.set_cons_zero, List.set_cons_succ]
        refine M_cut2 (i := 10) 22 (.tmp 70) (.tmp 71) (.tmp 75) SU.out rfl rfl 5 i0 Tryd.underlying22 hi0 hz1 (some a) src.length c i (i + n2) (by first | rfl | (simp [Act.eval]; done)) (by first | rfl | (simp [Act.eval]; done)) (by first | rfl | (simp [Act.eval]; done)) (by omega) HLEN.out HCAP.out (by kernel_rfl) HS.out rfl ?_
        simp only [Act.put, List.setIfInBounds_toArray, List.set_cons_zero, List.set_cons_succ]
        have HCUT : Hid (∀ W, Rdr W g (some a) c src (i + n2) L → At W (if c = i then some a else (some a).map (·.add (i * 1))) (byteVals l')) := Lib.hid (fun W hb => by
          have := (cut_bytes (lo := i) (h := i + n2) (c := c) hb.byt (by omega) HLEN.out hb.cap hb.nil).1
          rw [show i + n2 - i = n2 by omega, ← HLP.out] at this
          exact this)
        generalize hX : (if c = i then some a else (some a).map (·.add (i * 1))) = X at *
        clear hX
        refine M_str2 (i := 11) 22 9 (.tmp 76) SU.out rfl rfl 5 Tryd.underlying22 Tryd.underlying5 Tryd.underlying9 X l' (i + n2 - i) (c - i) (by first | rfl | (simp [Act.eval]; done)) (fun W hS => HCUT.out W hS.2.2) (by rw [HLL.out]; omega) (by kernel_rfl) HS.out rfl ?_
        simp only [Act.put, List.setIfInBounds_toArray, List.set_cons_zero, List.set_cons_succ]
        refine M_val (i := 12) (v := ?_) SU.out rfl (by kernel_rfl) HS.out rfl (fun W hS => ?_) ?_
        rotate_left
        · go_simp
          first | done | rfl
        simp only [Act.put, List.setIfInBounds_toArray, List.set_cons_zero, List.set_cons_succ]
        refine wpAnyM_all (rs := [13]) (by kernel_rfl) (by simp) (fun w3 hG3 => ?_)
        refine allM.head rfl rfl (fun K6 hK6 => ?_) allM.nil
        have hB : Bk w3 b2 43 #[.int .i64 0, .int .i64 0, .string ⟨#[]⟩, .bool false, .int .u64 0, .int .u64 0] := HBV.out.drew.fr hG3 (by simp)
        obtain ⟨y0, y1, y2, y3, y4, y5, x0, x1, x2, x3, x4, x5⟩ := hB.sixc
        go_simp
        have hB4 := hB.six (.int .i64 9) (.int .i64 (i : Int)) (.string ⟨l'.toArray⟩) (.bool false) (.int .u64 0) (.int .u64 0)
        have hR4 := (HRV.out.fr_nil ((Fr.refl [] V).drew.trans hG3)).fr_far (l := [b2]) ((Fr.refl [b2] w3).six (b := b2) (.inl (by simp)) (.int .i64 9) (.int .i64 (i : Int)) (.string ⟨l'.toArray⟩) (.bool false) (.int .u64 0) (.int .u64 0)) (by simpa using hgb2)
        have hF4 : Fr [g] w _ := ((HFV.out.trans (((Fr.refl [] V).drew.trans hG3).nil_)).six (b := b2) (.inr (by rw [HBE.out]; exact Nat.le_refl _)) (.int .i64 9) (.int .i64 (i : Int)) (.string ⟨l'.toArray⟩) (.bool false) (.int .u64 0) (.int .u64 0))
        have hc4 := hR4.cells
        refine hK6.out _ _ ⟨hc4.1, by have := hc4.2.1; rwa [show ((i + n2 : Nat) : Int) = (i : Int) + (n2 : Int) by omega] at this, hR4⟩ ?_
        have HS4 : Hid _ := Lib.hid (show _ ∧ _ ∧ _ from ⟨hc4.1, (by have := hc4.2.1; rwa [show ((i + n2 : Nat) : Int) = (i : Int) + (n2 : Int) by omega] at this), hR4⟩)
        have HB4 := Lib.hid hB4; have HF4 := Lib.hid hF4
        clear hK6 K6 hB4 hF4 hR4 hc4 hB hG3 y0 y1 y2 y3 y4 y5 x0 x1 x2 x3 x4 x5
        generalize ((((((w3.setCell ⟨b2, 0, none⟩ (.int .i64 9)).setCell ⟨b2, 1, none⟩ (.int .i64 (i : Int))).setCell ⟨b2, 2, none⟩ (.string ⟨l'.toArray⟩)).setCell ⟨b2, 3, none⟩ (.bool false)).setCell ⟨b2, 4, none⟩ (.int .u64 0)).setCell ⟨b2, 5, none⟩ (.int .u64 0)) = w4 at *
        refine M_val (i := 14) (v := ?_) SU.out rfl (by kernel_rfl) HS4.out rfl (fun W hS => ?_) ?_
        rotate_left
        · go_simp
          first | done | rfl
        simp only [Act.put, List.setIfInBounds_toArray, List.set_cons_zero, List.set_cons_succ]
        refine wpAnyM_done (by kernel_rfl) (fun w5 hG5 => ?_)
        have hR5 := HS4.out.2.2.fr_nil hG5
        have hF5 := HF4.out.trans hG5.nil_
        obtain ⟨k0, k1, k2, k3, k4, k5, -⟩ := (HB4.out.fr hG5 (by simp)).sixc
        have HR5 := Lib.hid hR5; have HF5 := Lib.hid hF5
        clear hR5 hF5 hG5
        go_wp2_with fail
        refine bodyPost_ret (v := .tuple #[.agg #[.int .i64 9, .int .i64 (i : Int), .string ⟨l'.toArray⟩, .bool false, .int .u64 0, .int .u64 0], .nilIface]) (by simp [results, Tryd.results36, go_sem, k0, k1, k2, k3, k4, k5]) rfl ?_
        rw [HSR.out]
        exact ⟨by unfold tokV; simp, HR5.out, HF5.out⟩
end Go.Proofs.YtjfgopihfgljmaaDoor
