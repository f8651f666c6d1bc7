/-
  The reference of steps: lay, of right parts that are not too great. No conditions but sizes. (Printed by a program of the prover's.)
-/
import Derived.Test.YtehnkcfnflnpjaaSz1
import Derived.Test.YtehnkcfnflnpjaaGi
namespace Go.Proofs.Ytehnkcfnflnpjaa
open Go.RowKit
set_option linter.unusedVariables false
set_option linter.unusedSimpArgs false

theorem own_any7 {w : World} {base n sz : Nat} {v : Value} {e : TypeId} {xs : List Value} (h : w.ownsRow base e sz v n xs) : ∃ A c, v = .slice A n c := by
  obtain ⟨h1, ⟨h2, h3⟩ | ⟨b', cap', cur, h2, -⟩⟩ := h
  · exact ⟨none, 0, by rw [h2, h3]⟩
  · exact ⟨_, _, h2⟩
def RowS (w : World) (base : Nat) (A : Option Addr) (c : Nat) (L : List Sp) : Prop := w.ownsRow base 45 7 (.slice A L.length c) L.length (L.flatMap Sp.cells)
theorem flat7 (L : List Sp) : (L.flatMap Sp.cells).length = L.length * 7 := flat_len sp_len L
theorem sp_one (L : List Sp) : ∀ u ∈ L.flatMap Sp.cells, u.oneCell' = true := by
  intro u hu
  obtain ⟨s, -, hs⟩ := List.mem_flatMap.1 hu
  simp [Sp.cells] at hs
  rcases hs with h | h | h | h | h | h | h <;> subst h <;> rfl
theorem RowS.nil_ (w : World) (b : Nat) : RowS w b none 0 [] := World.ownsRow_nil _ _ _ _
theorem RowS.fr {w w' : World} {b c : Nat} {A : Option Addr} {L : List Sp} (h : RowS w b A c L) (hf : Fr [] w w') : RowS w' b A c L := own_keep h (KeepB.of_nil hf)
theorem RowS.cap {w : World} {b c : Nat} {A : Option Addr} {L : List Sp} (h : RowS w b A c L) : L.length ≤ c := by
  obtain ⟨h1, ⟨h2, h3⟩ | ⟨g, cap', cur, h2, h0, hb, h3, h4, h5, h6⟩⟩ := h
  · injection h2 with e1 e2 e3; omega
  · injection h2 with e1 e2 e3; omega
theorem RowS.low {w : World} {b b' c : Nat} {A : Option Addr} {L : List Sp} (h : RowS w b A c L) (hb : b' ≤ b) : RowS w b' A c L := own_rebase h (fun x hx => Nat.le_trans hb (own_base h x hx).1)
section
variable {P : Program}
theorem wpList_app {ops : Array Oper} {rest : List Oper} {o : Oper} {a : Act} {w : World} {Q : Exit → Act → World → Prop} (hgd : Region.wanted o (yielded ops a.tmps) = true) (s x : Operand)
    (ho : o.op = .call { callee := .builtin .append, args := #[s, x], argTypes := #[34, 34] })
    (base bx : Nat) (A B : Option Addr) (n c m d : Nat) (L M : List Sp) (hn : n = L.length) (hm : m = M.length) (hs : a.eval s = .slice A n c) (hx : a.eval x = .slice B m d) (h1 : RowS w base A c L) (h2 : RowS w bx B d M) (hl : n + m ≤ 100000) (hb : base ≤ w.heap.size)
    (hK : ∀ A' c' w', RowS w' base A' c' (L ++ M) → Fr (Value.slice A n c).ownBlock.toList w w' → wpList Try.prog ops Q rest (a.put o.dst (.slice A' (n + m) c')) w') :
    wpList Try.prog ops Q (o :: rest) a w := by
  subst hn hm
  obtain ⟨i0, hi0, hz0, hz1, hz2⟩ := stepParts
  by_cases hM : M = []
  · subst hM
    refine wpList_wanted hgd fun K hKK => ?_
    have hr := run_append_none (P := Try.prog) (w := w) 34 o.type 45 i0 Try.underlying34 hi0 A B L.length c d h1.cap (fun _ _ => .inr trivial)
    unfold Oper.wp execOp
    simp only [List.length_nil] at hx
    simp only [ho, resolve, invoke, builtin, Sem.run_bind, Sem.run_pure, Result.andThen_ok, List.map_toArray, List.map_cons, List.map_nil, hs, hx, hr]
    have h := hK A c w (by rw [List.append_nil]; exact h1) (Fr.refl _ _)
    exact hKK _ _ h
  · have hne : M.flatMap Sp.cells ≠ [] := fun e => by
      have h := flat7 M
      rw [e] at h
      cases M with
      | nil => exact hM rfl
      | cons y r => simp at h
    obtain ⟨g, rfl, -, -, hcl⟩ := own_cells h2 hne
    refine wpList_append_R hgd s x 34 ho base 45 i0 _ 7 56 Try.underlying34 hi0 hz0 hz1 hz2 rfl (by omega) (.slice A L.length c) L.length (L.flatMap Sp.cells) hs h1 ⟨g, 0, none⟩ M.length d (M.flatMap Sp.cells) hx (flat7 M) (fun j u hu => ?_) (sp_one M) (by unfold maxLen; omega) (by omega) hb ?_
    · have e : (⟨g, 0, none⟩ : Addr).add j = ⟨g, j, none⟩ := by cases j <;> simp [Addr.add]
      rw [e]; exact hcl j u hu
    · intro v' w' k1 k2 k3
      obtain ⟨A', c', rfl⟩ := own_any7 k1
      refine hK A' c' w' ?_ ((Fr.refl _ w).grown k2 (fun g hg => .inl (by simp [hg])))
      unfold RowS
      rw [List.length_append, List.flatMap_append]
      exact k1
theorem wpList_app1 {ops : Array Oper} {rest : List Oper} {o : Oper} {a : Act} {w : World} {Q : Exit → Act → World → Prop} (hgd : Region.wanted o (yielded ops a.tmps) = true) (s x : Operand)
    (ho : o.op = .call { callee := .builtin .append, args := #[s, x], argTypes := #[34, 34] })
    (base : Nat) (A : Option Addr) (n c : Nat) (L : List Sp) (sp : Sp) (g : Nat) (hn : n = L.length) (hs : a.eval s = .slice A n c) (hx : a.eval x = .slice (some ⟨g, 0, none⟩) 1 1) (h1 : RowS w base A c L) (h2 : Bk w g 45 sp.cells.toArray) (hl : n + 1 ≤ 100000) (hb : base ≤ w.heap.size)
    (hK : ∀ A' c' w', RowS w' base A' c' (L ++ [sp]) → Fr (Value.slice A n c).ownBlock.toList w w' → wpList Try.prog ops Q rest (a.put o.dst (.slice A' (n + 1) c')) w') :
    wpList Try.prog ops Q (o :: rest) a w := by
  subst hn
  obtain ⟨i0, hi0, hz0, hz1, hz2⟩ := stepParts
  refine wpList_append_R hgd s x 34 ho base 45 i0 _ 7 56 Try.underlying34 hi0 hz0 hz1 hz2 rfl (by omega) (.slice A L.length c) L.length (L.flatMap Sp.cells) hs h1 ⟨g, 0, none⟩ 1 1 sp.cells hx rfl (fun j u hu => ?_) (by have h := sp_one [sp]; simpa using h) (by unfold maxLen; omega) (by omega) hb ?_
  · have e : (⟨g, 0, none⟩ : Addr).add j = ⟨g, j, none⟩ := by cases j <;> simp [Addr.add]
    rw [e, h2.cell]; simpa using hu
  · intro v' w' k1 k2 k3
    obtain ⟨A', c', rfl⟩ := own_any7 k1
    refine hK A' c' w' ?_ ((Fr.refl _ w).grown k2 (fun g hg => .inl (by simp [hg])))
    unfold RowS
    rw [List.length_append, List.flatMap_append]
    simpa using k1
end
theorem RowS.one (w : World) (b : Nat) (s : Sp) (g : Nat) (hg : b ≤ g) (h : Bk w g 45 s.cells.toArray) : RowS w b (some ⟨g, 0, none⟩) 1 [s] := by
  refine ⟨by simp [Sp.cells], .inr ⟨g, 1, s.cells.toArray, rfl, hg, h, Nat.le_refl _, by unfold maxLen; omega, by simp [Sp.cells], by simp [Sp.cells]⟩⟩
theorem len_le7 {L R T : List Sp} (h : L ++ R = T) : L.length ≤ T.length := by rw [← h, List.length_append]; omega
theorem len_le8 {L M R T : List Sp} (h : L ++ M ++ R = T) : L.length + M.length ≤ T.length := by rw [← h, List.length_append, List.length_append]; omega
theorem drop_cons7 {α : Type} {l : List α} {k : Nat} {x : α} (h : l[k]? = some x) : l.drop k = x :: l.drop (k + 1) := by
  obtain ⟨h1, h2⟩ := List.getElem?_eq_some_iff.1 h
  rw [List.drop_eq_getElem_cons h1, h2]
set_option maxRecDepth 100000 in
set_option maxHeartbeats 32000000 in
theorem rlay_any : ∀ (n : Nat) (p : PT), cntP p < n → cntP p ≤ 1199 → rightP p = true → ∀ (at_ : Nat) (w : World), at_ + sizP p ≤ 4000 → PMem w p → Calls Try.prog 18 #[p.val, .int .i64 (at_ : Int)] w fun e w' => ∃ A c, e = .returned (.slice A (sizP p) c) ∧ RowS w' w.heap.size A c (layP p at_) ∧ Fr [] w w' := by
  intro n
  induction n with
  | zero => intro p h; omega
  | succ n ih =>
    intro p hp hcn hr at_ w hat hm
    have HKID : Hid (∀ (i : Nat) (q : PT), inner p.k = true → p.l[i]? = some q → ∀ W, Fr [] w W → ∃ b off, p.A = some ⟨b, off, none⟩ ∧ W.rangeAt b (off + i * 8) q.cells ∧ rightP q = true ∧ ∀ a2 : Nat, a2 + sizP q ≤ 4000 → Calls Try.prog 18 #[q.val, .int .i64 (a2 : Int)] W fun e w' => ∃ A c, e = .returned (.slice A (sizP q) c) ∧ RowS w' W.heap.size A c (layP q a2) ∧ Fr [] W w') := Lib.hid (fun i q hk hq W hW => by
      obtain ⟨⟨b, off, h1, h2⟩, h3⟩ := kid_mem (hm.keep (KeepT.of_nil hW)) hq
      have := kid_cnt hq
      have hrq := inner_kid hr hk hq
      exact ⟨b, off, h1, fun j v hv => h2.cell hv, hrq, fun a2 ha2 => ih q (by omega) (by omega) hrq a2 W ha2 h3⟩)
    have HSELF : Hid (∀ W, Fr [] w W → Calls Try.prog 17 #[p.val] W fun e w' => e = .returned (.int .i64 ((sizP p : Nat) : Int)) ∧ Fr [] W w') := Lib.hid (fun W hW => by
      have h := rsz_any (cntP p + 1) p (by omega) hcn hr W (hm.keep (KeepT.of_nil hW))
      rw [Nat.min_eq_left (by omega)] at h; exact h)
    have hkc := k_cases (right_k hr)
    have hsz := sizP_eq p
    have hll := layP_len p at_ hr
    have hlay : layP p at_ = layP (.mk p.k p.s0 p.s1 p.s2 p.s3 p.mn p.mx p.A p.c p.l) at_ := by rw [← PT.eta p]
    rw [layP] at hlay
    obtain ⟨TOT, hTOT⟩ : ∃ T, T = layP p at_ := ⟨_, rfl⟩
    rw [← hTOT] at hlay hll ⊢
    obtain ⟨R, hR⟩ : ∃ R, R = sizP p := ⟨_, rfl⟩
    obtain ⟨m, hmm⟩ : ∃ m, m = p.l.length := ⟨_, rfl⟩
    have hml : m ≤ 1199 := by have := cntL_len p.l; have := cntP_eq p; omega
    have hrl : inner p.k = true → rightL p.l = true := fun hk => by
      have h := hr; rw [rightP_eq, hk] at h; simp at h; exact h.2
    obtain ⟨l, hl⟩ : ∃ l, l = p.l := ⟨_, rfl⟩
    obtain ⟨k, hk⟩ : ∃ k, k = p.k := ⟨_, rfl⟩
    obtain ⟨mn, hmn⟩ : ∃ k, k = p.mn := ⟨_, rfl⟩
    obtain ⟨mx, hmx⟩ : ∃ k, k = p.mx := ⟨_, rfl⟩
    obtain ⟨A, hA⟩ : ∃ k, k = p.A := ⟨_, rfl⟩
    obtain ⟨PV, hPV⟩ : ∃ v, v = p.val := ⟨_, rfl⟩
    rw [← hPV] at HSELF
    rw [← hR, ← hk, ← hmn, ← hmx, ← hl] at hsz
    rw [← hk, ← hmn, ← hmx, ← hl] at hlay
    rw [← hk, ← hl] at hrl
    rw [← hk, ← hmn, ← hmx, ← hmm] at hkc
    rw [← hR] at hll hat HSELF ⊢
    unfold PT.val at hPV ⊢
    rw [← hmm, ← hk, ← hmn, ← hmx, ← hA] at hPV ⊢
    rw [← hl] at hmm
    simp only [← hk, ← hl, ← hA] at HKID
    have HMM := Lib.hid hmm; have HSZ := Lib.hid hsz; have HLAY := Lib.hid hlay; have HLL := Lib.hid hll; have HRL := Lib.hid hrl; have HPV := Lib.hid hPV; have HAT := Lib.hid hat
    have hat2 : at_ ≤ 4000 := by omega
    have hR2 : R ≤ 4000 := by omega
    clear ih hp hcn hr hm hTOT hR hk hmn hmx hA hsz hl hmm hlay hll hrl hPV hat
    go_enter Try.func18, Try.ntmps18
    go_upto_region 1 with fail
    obtain ⟨g, hg⟩ : ∃ g, g = w.heap.size := ⟨_, rfl⟩
    obtain ⟨w1, hw1⟩ : ∃ w1, w1 = w.alloc (.cells #[.int .i64 k, .int .u64 p.s0, .int .u64 p.s1, .int .u64 p.s2, .int .u64 p.s3, .int .i64 mn, .int .i64 mx, .slice A m p.c] 29) := ⟨_, rfl⟩
    have hb : Bk w1 g 29 #[.int .i64 k, .int .u64 p.s0, .int .u64 p.s1, .int .u64 p.s2, .int .u64 p.s3, .int .i64 mn, .int .i64 mx, .slice A m p.c] := by rw [hw1, hg]; exact Bk.new w _ _
    have hf : Fr [] w w1 := by rw [hw1]; exact (Fr.refl [] w).alloc _
    rw [← hw1, ← hg]
    have HB := Lib.hid hb; have HF := Lib.hid hf
    have c0 : w1.cell? ⟨g, 0, none⟩ = some (.int .i64 k) := hb.cell_ (i := 0) rfl
    clear hw1 hg hb hf
    rcases hkc with rfl | rfl | rfl | ⟨rfl, hpos⟩ | ⟨rfl, h1n, hm0, hm1, hx0, hx1, hmx⟩ | rfl | rfl
    · have HR : Hid (R = 0) := Lib.hid (by rw [HSZ.out]; rfl)
      have HT : Hid (TOT = []) := Lib.hid (by rw [HLAY.out]; rfl)
      go_wp2_with fail
      go_ret
      exact ⟨none, 0, by (rw [HR.out]; first | done | rfl), by rw [HT.out]; exact RowS.nil_ _ _, HF.out⟩
    · have HR : Hid (R = 1) := Lib.hid (by rw [HSZ.out]; rfl)
      have HT : Hid (TOT = [⟨0, p.s0, p.s1, p.s2, p.s3, (at_ : Int) + 1, 0⟩]) := Lib.hid (by rw [HLAY.out]; rfl)
      have c1 : w1.cell? ⟨g, 1, none⟩ = some (.int .u64 p.s0) := HB.out.cell_ (i := 1) rfl
      have c2 : w1.cell? ⟨g, 2, none⟩ = some (.int .u64 p.s1) := HB.out.cell_ (i := 2) rfl
      have c3 : w1.cell? ⟨g, 3, none⟩ = some (.int .u64 p.s2) := HB.out.cell_ (i := 3) rfl
      have c4 : w1.cell? ⟨g, 4, none⟩ = some (.int .u64 p.s3) := HB.out.cell_ (i := 4) rfl
      go_wp2_with fail
      go_ret
      refine ⟨some ⟨w1.heap.size, 0, none⟩, 1, by (rw [HR.out]; first | done | rfl), ?_, HF.out.alloc _⟩
      rw [HT.out]
      exact RowS.one _ _ _ _ HF.out.size (Bk.new w1 45 _)
    · have HT : Hid (TOT = layL l at_) := Lib.hid (by rw [HLAY.out]; rfl)
      go_upto_region 11 with fail
      go_loopw [5, 6] (fun v5 v6 wr => ∃ (i : Nat) (L : List Sp) (A5 : Option Addr) (c5 : Nat), v6 = .int .i64 (i : Int) ∧ v5 = .slice A5 L.length c5 ∧ i ≤ m ∧ RowS wr w1.heap.size A5 c5 L ∧ L ++ layL (l.drop i) (at_ + L.length) = TOT ∧ Fr [] w1 wr) (fun _ v6 _ => m + 1 - (intOf v6).toNat)
      case atStart => exact ⟨0, [], none, 0, rfl, rfl, Nat.zero_le _, RowS.nil_ _ _, by rw [HT.out]; rfl, Fr.refl _ _⟩
      case round =>
        obtain ⟨i, L, A5, c5, rfl, rfl, hi, hrow, heq, hfr⟩ := hrel
        have hb := HB.out.fr hfr (by simp)
        have d7 : wr.cell? ⟨g, 7, none⟩ = some (.slice A m p.c) := hb.cell_ (i := 7) rfl
        obtain ⟨ln, hln⟩ : ∃ n, n = L.length := ⟨_, rfl⟩
        have hle : ln ≤ R := by rw [hln, ← HLL.out]; exact len_le7 heq
        rw [← hln]
        have HFR := Lib.hid hfr; have HROW := Lib.hid hrow; have HEQ := Lib.hid heq; have HLN := Lib.hid hln
        clear hfr hb hrow heq hln
        rcases Nat.lt_or_ge i m with hin | hin
        · have hinI : (i : Int) < (m : Int) := by omega
          obtain ⟨q, hq⟩ : ∃ q, l[i]? = some q := ⟨_, List.getElem?_eq_getElem (by rw [← HMM.out]; exact hin)⟩
          obtain ⟨b, off, hA, hrg, hrq, hcl⟩ := HKID.out i q rfl hq wr (HF.out.trans HFR.out)
          have hst : L ++ layP q (at_ + ln) ++ layL (l.drop (i + 1)) (at_ + ln + sizP q) = TOT := by
            have h := HEQ.out
            rw [drop_cons7 hq, layL, ← HLN.out] at h
            rw [← h]; simp [List.append_assoc]
          have hlq := layP_len q (at_ + ln) hrq
          have hbd : ln + sizP q ≤ R := by have h := len_le8 hst; rw [hlq, HLL.out, ← HLN.out] at h; exact h
          obtain ⟨sq, hsq⟩ : ∃ s, s = sizP q := ⟨_, rfl⟩
          have hcl2 := hcl (at_ + ln) (by have := HAT.out; omega)
          rw [← hsq] at hcl2 hlq hst hbd
          have HCL : Hid (Calls Try.prog 18 #[q.val, .int .i64 ((at_ : Int) + (ln : Int))] wr fun e w' => ∃ A c, e = .returned (.slice A sq c) ∧ RowS w' wr.heap.size A c (layP q (at_ + ln)) ∧ Fr [] wr w') := Lib.hid (by simpa using hcl2)
          have HRG := Lib.hid hrg; have HST := Lib.hid hst; have HLQ := Lib.hid hlq
          subst hA
          clear hcl hcl2 hrg hst hlq hq hrq hsq
          go_wp2_with (first
            | (refine wpList_load_mid rfl 29 _ rfl b (off + i * 8) rfl q.cells _ HRG.out Try.underlying29 rfl part_size8 ?_)
            | (go_at_call 18; refine (HCL.out).mono ?_; rintro e w3 ⟨CA, cc, rfl, hro, hf3⟩; have HRO := Lib.hid hro; have HF3 := Lib.hid hf3; clear hro hf3)
            | (at_builtin; refine wpList_app rfl (.tmp 47) (.tmp 57) rfl w1.heap.size wr.heap.size A5 CA ln c5 sq cc L (layP q (at_ + ln)) HLN.out HLQ.out.symm (by first | rfl | (simp [Act.eval]; done)) (by first | rfl | (simp [Act.eval]; done)) (HROW.out.fr HF3.out) HRO.out (by omega) (Nat.le_trans HFR.out.size HF3.out.size) ?_; intro A6 c6 w6 hr6 hf6; have HR6 := Lib.hid hr6; have HF6 : Hid (Fr [] w1 w6) := Lib.hid ((HFR.out.trans HF3.out).trans' hf6 (fun x hx => .inr (by simp only [Option.mem_toList] at hx; exact (own_base HROW.out x (by rw [← HLN.out]; exact hx)).1))); clear hr6 hf6))
          go_roundw
          case rel =>
            have el : (L ++ layP q (at_ + ln)).length = ln + sq := by rw [List.length_append, ← HLN.out, HLQ.out]
            exact ⟨i + 1, L ++ layP q (at_ + ln), A6, c6, by go_num, by rw [el], by omega, HR6.out, by rw [el, ← HST.out, Nat.add_assoc], HF6.out⟩
          case measure => first | (simp [intOf]; done) | (simp [intOf]; omega)
        · have hinI : ¬ ((i : Int) < (m : Int)) := by omega
          have hdr : l.drop i = [] := List.drop_of_length_le (by rw [← HMM.out]; exact hin)
          have hLT : L = TOT := by have h := HEQ.out; rw [hdr, layL, List.append_nil] at h; exact h
          have HLT := Lib.hid hLT
          have hlnR : ln = R := by rw [HLN.out, hLT, HLL.out]
          have HLR := Lib.hid hlnR
          clear hdr hLT hlnR
          go_wp2_with fail
          go_ret
          exact ⟨A5, c5, by (rw [← HLR.out]; first | done | rfl), by rw [← HLT.out]; exact HROW.out.low HF.out.size, HF.out.trans HFR.out⟩
    · have HRX : Hid (R = sizL l + 2 * (l.length - 1)) := Lib.hid (by rw [HSZ.out]; rfl)
      obtain ⟨al, hal⟩ : ∃ al, al = at_ + R := ⟨_, rfl⟩
      have HT : Hid (TOT = layO l at_ al) := Lib.hid (by rw [HLAY.out, hal, HRX.out]; rfl)
      have halb : al ≤ 8000 := by omega
      have halI : (at_ : Int) + (R : Int) = (al : Int) := by omega
      have HSF : Hid (Calls Try.prog 17 #[.agg [.int .i64 3, .int .u64 p.s0, .int .u64 p.s1, .int .u64 p.s2, .int .u64 p.s3, .int .i64 mn, .int .i64 mx, .slice A m p.c].toArray] w1 fun e w' => e = .returned (.int .i64 (R : Int)) ∧ Fr [] w1 w') := Lib.hid (by have h := HSELF.out w1 HF.out; rw [HPV.out] at h; exact h)
      clear hal
      go_upto_region 16 with (first
        | (refine wpList_load_mid rfl 29 _ rfl g 0 rfl [.int .i64 3, .int .u64 p.s0, .int .u64 p.s1, .int .u64 p.s2, .int .u64 p.s3, .int .i64 mn, .int .i64 mx, .slice A m p.c] _ (fun j v hv => by rw [Nat.zero_add]; exact HB.out.cell_ (i := j) (by simpa using hv)) Try.underlying29 rfl part_size8 ?_)
        | (go_at_call 17; refine HSF.out.mono ?_; rintro e w2 ⟨rfl, hf2⟩; have HF2 := Lib.hid hf2; clear hf2))
      go_upto_region 17 with fail
      go_loopw [5, 8, 9, 10] (fun v5 v8 v9 v10 wr => ∃ (i : Nat) (L : List Sp) (A5 : Option Addr) (c5 : Nat), v8 = .int .i64 (i : Int) ∧ v5 = .slice A5 L.length c5 ∧ i < m ∧ RowS wr w1.heap.size A5 c5 L ∧ L ++ layO (l.drop i) (at_ + L.length) al = TOT ∧ Fr [] w1 wr) (fun _ v8 _ _ _ => m + 1 - (intOf v8).toNat)
      case atStart => exact ⟨0, [], none, 0, rfl, rfl, hpos, RowS.nil_ _ _, by rw [HT.out]; rfl, HF2.out⟩
      case round =>
        obtain ⟨i, L, A5, c5, rfl, rfl, hin, hrow, heq, hfr⟩ := hrel
        have hb := HB.out.fr hfr (by simp)
        have d7 : wr.cell? ⟨g, 7, none⟩ = some (.slice A m p.c) := hb.cell_ (i := 7) rfl
        obtain ⟨ln, hln⟩ : ∃ n, n = L.length := ⟨_, rfl⟩
        have hle : ln ≤ R := by rw [hln, ← HLL.out]; exact len_le7 heq
        rw [← hln]
        have hinI : (i : Int) < (m : Int) := by omega
        obtain ⟨q, hq⟩ : ∃ q, l[i]? = some q := ⟨_, List.getElem?_eq_getElem (by rw [← HMM.out]; exact hin)⟩
        obtain ⟨b, off, hA, hrg, hrq, hcl⟩ := HKID.out i q rfl hq wr (HF.out.trans hfr)
        have hdr := drop_cons7 hq
        rw [hdr, layO, ← hln] at heq
        obtain ⟨sq, hsq⟩ : ∃ s, s = sizP q := ⟨_, rfl⟩
        rw [← hsq] at heq hcl
        have HFR := Lib.hid hfr; have HROW := Lib.hid hrow; have HLN := Lib.hid hln; have HRG := Lib.hid hrg
        clear hfr hb hrow hln hrg hdr
        by_cases hlast : i + 1 = m
        · have hlI : ((i : Int) == (m : Int) - 1) = true := by rw [beq_iff_eq]; omega
          have hdn : l.drop (i + 1) = [] := List.drop_of_length_le (by rw [← HMM.out]; omega)
          rw [hdn] at heq; simp only [List.isEmpty_nil, if_true] at heq
          have hlq : (layP q (at_ + ln)).length = sq := by rw [hsq]; exact layP_len q (at_ + ln) hrq
          have hbd : ln + sq = R := by rw [← HLL.out, ← heq, List.length_append, hlq, ← HLN.out]
          have HCL : Hid (Calls Try.prog 18 #[q.val, .int .i64 ((at_ : Int) + (ln : Int))] wr fun e w' => ∃ A c, e = .returned (.slice A sq c) ∧ RowS w' wr.heap.size A c (layP q (at_ + ln)) ∧ Fr [] wr w') := Lib.hid (by have h := hcl (at_ + ln) (by have := HAT.out; omega); simpa using h)
          have HEQ := Lib.hid heq; have HLQ := Lib.hid hlq; have HBD := Lib.hid hbd
          subst hA
          clear hcl heq hlq hq hrq hsq hdn hlast hbd
          go_wp2_with (first
            | (refine wpList_load_mid rfl 29 _ rfl b (off + i * 8) rfl q.cells _ HRG.out Try.underlying29 rfl part_size8 ?_)
            | (go_at_call 18; refine (HCL.out).mono ?_; rintro e w3 ⟨CA, cc, rfl, hro, hf3⟩; have HRO := Lib.hid hro; have HF3 := Lib.hid hf3; clear hro hf3)
            | (at_builtin; refine wpList_app rfl (.tmp 78) (.tmp 88) rfl w1.heap.size wr.heap.size A5 CA ln c5 sq cc L (layP q (at_ + ln)) HLN.out HLQ.out.symm (by first | rfl | (simp [Act.eval]; done)) (by first | rfl | (simp [Act.eval]; done)) (HROW.out.fr HF3.out) HRO.out (by have := HBD.out; omega) (Nat.le_trans HFR.out.size HF3.out.size) ?_; intro A6 c6 w6 hr6 hf6; have HR6 := Lib.hid hr6; have HF6 : Hid (Fr [] w1 w6) := Lib.hid ((HFR.out.trans HF3.out).trans' hf6 (fun x hx => .inr (by simp only [Option.mem_toList] at hx; exact (own_base HROW.out x (by rw [← HLN.out]; exact hx)).1))); clear hr6 hf6))
          go_ret
          exact ⟨A6, c6, by (rw [← HBD.out]; first | done | rfl), by rw [← HEQ.out]; exact HR6.out.low HF.out.size, HF.out.trans HF6.out⟩
        · have hlI : ((i : Int) == (m : Int) - 1) = false := beq_eq_false_iff_ne.2 (by omega)
          have hdn : (l.drop (i + 1)).isEmpty = false := by
            cases hd : l.drop (i + 1) with
            | nil => have h := congrArg List.length hd; rw [List.length_drop, ← HMM.out] at h; simp at h; omega
            | cons y r => rfl
          rw [hdn, if_neg (by simp)] at heq
          have hlq : (layP q (at_ + ln + 1)).length = sq := by rw [hsq]; exact layP_len q (at_ + ln + 1) hrq
          have hst : (L ++ [Sp.fork (at_ + ln + 1) (at_ + ln + 2 + sq)] ++ layP q (at_ + ln + 1) ++ [Sp.fork al al]) ++ layO (l.drop (i + 1)) (at_ + ln + 2 + sq) al = TOT := by rw [← heq]; simp [List.append_assoc]
          have hbd : ln + 1 + sq + 1 ≤ R := by
            have h := len_le7 hst
            rw [HLL.out] at h
            simp only [List.length_append, List.length_cons, List.length_nil, hlq, ← HLN.out] at h
            omega
          have HCL : Hid (Calls Try.prog 18 #[q.val, .int .i64 ((at_ : Int) + (ln : Int) + 1)] wr fun e w' => ∃ A c, e = .returned (.slice A sq c) ∧ RowS w' wr.heap.size A c (layP q (at_ + ln + 1)) ∧ Fr [] wr w') := Lib.hid (by have h := hcl (at_ + ln + 1) (by have := HAT.out; omega); simpa using h)
          have HST := Lib.hid hst; have HLQ := Lib.hid hlq
          have hlt : ∀ x, (Value.slice A5 ln c5).ownBlock = some x → x < wr.heap.size := fun x hx => by
            obtain ⟨-, cur, hc⟩ := own_base HROW.out x (by rw [← HLN.out]; exact hx)
            exact hc.lt
          have HLT := Lib.hid hlt
          subst hA
          clear hcl heq hlq hq hrq hsq hdn hst hlt
          go_wp2_with (first
            | (refine wpList_load_mid rfl 29 _ rfl b (off + i * 8) rfl q.cells _ HRG.out Try.underlying29 rfl part_size8 ?_)
            | (go_at_call 18; refine (HCL.out).mono ?_; rintro e w3 ⟨CA, cc, rfl, hro, hf3⟩; have HRO := Lib.hid hro; have HF3 := Lib.hid hf3; clear hro hf3)
            | (at_builtin; refine wpList_app1 rfl (.tmp 102) (.tmp 111) rfl w1.heap.size A5 ln c5 L (Sp.fork (at_ + ln + 1) (at_ + ln + 2 + sq)) w3.heap.size HLN.out (by first | rfl | (simp [Act.eval]; done)) (by first | rfl | (simp [Act.eval]; done)) ((HROW.out.fr HF3.out).fr ((Fr.refl [] w3).alloc _)) (by have h := Bk.new w3 45 (Sp.fork (at_ + ln + 1) (at_ + ln + 2 + sq)).cells.toArray; simpa [Sp.cells, Sp.fork] using h) (by omega) (by have := HFR.out.size; have := HF3.out.size; simp; omega) ?_; intro A6 c6 w6 hr6 hf6; have HR6 := Lib.hid hr6; have HF6 : Hid (Fr [] w1 w6) := Lib.hid (((HFR.out.trans HF3.out).alloc _).trans' hf6 (fun x hx => .inr (by simp only [Option.mem_toList] at hx; exact (own_base HROW.out x (by rw [← HLN.out]; exact hx)).1))); have HRO6 : Hid (RowS w6 wr.heap.size CA cc (layP q (at_ + ln + 1))) := Lib.hid (own_fr (HRO.out.fr ((Fr.refl [] w3).alloc _)) hf6 (fun x hx hm => by have h1 := (own_base HRO.out x hx).1; have h2 := HLT.out x (by simpa using hm); omega)); clear hr6 hf6)
            | (at_builtin; refine wpList_app rfl (.tmp 113) (.tmp 114) rfl w1.heap.size wr.heap.size A6 CA (ln + 1) c6 sq cc (L ++ [Sp.fork (at_ + ln + 1) (at_ + ln + 2 + sq)]) (layP q (at_ + ln + 1)) (by rw [List.length_append, ← HLN.out]; rfl) HLQ.out.symm (by first | rfl | (simp [Act.eval]; done)) (by first | rfl | (simp [Act.eval]; done)) HR6.out HRO6.out (by omega) HF6.out.size ?_; intro A7 c7 w7 hr7 hf7; have HR7 := Lib.hid hr7; have HF7 : Hid (Fr [] w1 w7) := Lib.hid (HF6.out.trans' hf7 (fun x hx => .inr (by simp only [Option.mem_toList] at hx; exact (own_base HR6.out x (by rw [List.length_append, ← HLN.out]; exact hx)).1))); clear hr7 hf7)
            | (at_builtin; refine wpList_app1 rfl (.tmp 116) (.tmp 120) rfl w1.heap.size A7 (ln + 1 + sq) c7 (L ++ [Sp.fork (at_ + ln + 1) (at_ + ln + 2 + sq)] ++ layP q (at_ + ln + 1)) (Sp.fork al al) w7.heap.size (by rw [List.length_append, List.length_append, ← HLN.out, HLQ.out]; rfl) (by first | rfl | (simp [Act.eval]; done)) (by first | rfl | (simp [Act.eval]; done)) (HR7.out.fr ((Fr.refl [] w7).alloc _)) (by have h := Bk.new w7 45 (Sp.fork al al).cells.toArray; simpa [Sp.cells, Sp.fork] using h) (by omega) (by have := HF7.out.size; simp; omega) ?_; intro A8 c8 w8 hr8 hf8; have HR8 := Lib.hid hr8; have HF8 : Hid (Fr [] w1 w8) := Lib.hid ((HF7.out.alloc _).trans' hf8 (fun x hx => .inr (by simp only [Option.mem_toList] at hx; exact (own_base HR7.out x (by rw [List.length_append, List.length_append, ← HLN.out, HLQ.out]; exact hx)).1))); clear hr8 hf8))
          go_roundw
          case rel =>
            have el : (L ++ [Sp.fork (at_ + ln + 1) (at_ + ln + 2 + sq)] ++ layP q (at_ + ln + 1) ++ [Sp.fork al al]).length = ln + 1 + sq + 1 := by rw [List.length_append, List.length_append, List.length_append, ← HLN.out, HLQ.out]; rfl
            exact ⟨i + 1, _, A8, c8, by go_num, by rw [el], by omega, HR8.out, by rw [el, show at_ + (ln + 1 + sq + 1) = at_ + ln + 2 + sq by omega]; exact HST.out, HF8.out⟩
          case measure => first | (simp [intOf]; done) | (simp [intOf]; omega)
    · subst h1n
      obtain ⟨q, hq⟩ : ∃ q, l = [q] := by
        match l, HMM.out with
        | [x], _ => exact ⟨x, rfl⟩
        | [], h => simp at h
        | x :: y :: r, h => simp at h
      subst hq
      obtain ⟨b, off, hA, hrg0, hrq, hcl0⟩ := HKID.out 0 q rfl rfl w1 HF.out
      obtain ⟨s, hs⟩ : ∃ s, s = sizP q := ⟨_, rfl⟩
      have HRGA : Hid (∀ W, Fr [] w W → W.rangeAt b off q.cells) := Lib.hid (fun W hW => by
        obtain ⟨b', off', hA', hrg, -⟩ := HKID.out 0 q rfl rfl W hW
        have e := hA.symm.trans hA'
        injection e with e
        injection e with e1 e2
        rw [e1, e2]; rwa [Nat.zero_mul, Nat.add_zero] at hrg)
      have HCLA : Hid (∀ W, Fr [] w W → ∀ a2 : Nat, a2 + s ≤ 4000 → Calls Try.prog 18 #[q.val, .int .i64 (a2 : Int)] W fun e w' => ∃ A c, e = .returned (.slice A s c) ∧ RowS w' W.heap.size A c (layP q a2) ∧ Fr [] W w') := Lib.hid (fun W hW => by
        obtain ⟨b', off', hA', hrg, -, hcl⟩ := HKID.out 0 q rfl rfl W hW
        rw [hs]; exact hcl)
      have HLQ : Hid (∀ a, (layP q a).length = s) := Lib.hid (fun a => by rw [hs]; exact layP_len q a hrq)
      have hsl : sizL [q] = s := by rw [hs]; simp [sizL]
      have hlf : layL [q] = layP q := by funext a; rw [layL, layL, List.append_nil]
      obtain ⟨MN, rfl⟩ : ∃ n : Nat, mn = (n : Int) := ⟨mn.toNat, by omega⟩
      have HRX : Hid (R = if mx < 0 then (MN + 1) * s + 2 else mx.toNat * s + (mx.toNat - MN)) := Lib.hid (by rw [HSZ.out, hsl]; simp)
      obtain ⟨al, hal⟩ : ∃ al, al = at_ + R := ⟨_, rfl⟩
      obtain ⟨T2, hT2⟩ : ∃ T2, T2 = (if mx < 0 then Sp.fork (at_ + MN * s + 1) al :: (layP q (at_ + MN * s + 1) ++ [Sp.fork (at_ + MN * s) (at_ + MN * s)]) else maybeP (layP q) s al (mx.toNat - MN) (at_ + MN * s)) := ⟨_, rfl⟩
      have HT : Hid (TOT = timesP (layP q) s MN at_ ++ T2) := Lib.hid (by
        rw [HLAY.out, hT2, hlf, hsl, hal, HRX.out]
        by_cases hneg : mx < 0
        · simp [hneg, Nat.add_assoc]
        · simp [hneg])
      have HT2 := Lib.hid hT2
      have halb : al ≤ 8000 := by omega
      have halI : (at_ : Int) + (R : Int) = (al : Int) := by omega
      have HSF : Hid (Calls Try.prog 17 #[.agg [.int .i64 4, .int .u64 p.s0, .int .u64 p.s1, .int .u64 p.s2, .int .u64 p.s3, .int .i64 (MN : Int), .int .i64 mx, .slice A 1 p.c].toArray] w1 fun e w' => e = .returned (.int .i64 (R : Int)) ∧ Fr [] w1 w') := Lib.hid (by have h := HSELF.out w1 HF.out; rw [HPV.out] at h; exact h)
      subst hA
      clear hal hT2 hcl0 hrg0 hsl hlf hs
      go_upto_region 28 with (first
        | (refine wpList_load_mid rfl 29 _ rfl g 0 rfl [.int .i64 4, .int .u64 p.s0, .int .u64 p.s1, .int .u64 p.s2, .int .u64 p.s3, .int .i64 (MN : Int), .int .i64 mx, .slice (some ⟨b, off, none⟩) 1 p.c] _ (fun j v hv => by rw [Nat.zero_add]; exact HB.out.cell_ (i := j) (by simpa using hv)) Try.underlying29 rfl part_size8 ?_)
        | (go_at_call 17; refine HSF.out.mono ?_; rintro e w2 ⟨rfl, hf2⟩; have HF2 := Lib.hid hf2; clear hf2))
      go_upto_region 29 with fail
      go_loopw [5, 12] (fun v5 v12 wr => ∃ (i : Nat) (L : List Sp) (A5 : Option Addr) (c5 : Nat), v12 = .int .i64 (i : Int) ∧ v5 = .slice A5 L.length c5 ∧ i ≤ MN ∧ L.length = i * s ∧ RowS wr w1.heap.size A5 c5 L ∧ L ++ (timesP (layP q) s (MN - i) (at_ + L.length) ++ T2) = TOT ∧ Fr [] w1 wr) (fun _ v12 _ => MN + 1 - (intOf v12).toNat)
      case atStart => exact ⟨0, [], none, 0, rfl, rfl, Nat.zero_le _, by simp, RowS.nil_ _ _, by rw [HT.out]; rfl, HF2.out⟩
      case round =>
        obtain ⟨i, L, A5, c5, rfl, rfl, hi, his, hrow, heq, hfr⟩ := hrel
        have hb := HB.out.fr hfr (by simp)
        have d5 : wr.cell? ⟨g, 5, none⟩ = some (.int .i64 (MN : Int)) := hb.cell_ (i := 5) rfl
        have d6 : wr.cell? ⟨g, 6, none⟩ = some (.int .i64 mx) := hb.cell_ (i := 6) rfl
        have d7 : wr.cell? ⟨g, 7, none⟩ = some (.slice (some ⟨b, off, none⟩) 1 p.c) := hb.cell_ (i := 7) rfl
        obtain ⟨ln, hln⟩ : ∃ n, n = L.length := ⟨_, rfl⟩
        have hle : ln ≤ R := by rw [hln, ← HLL.out]; exact len_le7 heq
        rw [← hln] at his heq ⊢
        have HFR := Lib.hid hfr; have HROW := Lib.hid hrow; have HLN := Lib.hid hln; have HIS := Lib.hid his
        clear hfr hb hrow hln his
        rcases Nat.lt_or_ge i MN with hin | hin
        · have hinI : (i : Int) < (MN : Int) := by omega
          have hst : (L ++ layP q (at_ + ln)) ++ (timesP (layP q) s (MN - (i + 1)) (at_ + ln + s) ++ T2) = TOT := by
            rw [show MN - i = (MN - (i + 1)) + 1 by omega, timesP] at heq
            rw [← heq]; simp [List.append_assoc]
          have hbd : ln + s ≤ R := by have h := len_le7 hst; rw [List.length_append, HLQ.out, HLL.out, ← HLN.out] at h; exact h
          have HST := Lib.hid hst
          have HCL : Hid (Calls Try.prog 18 #[q.val, .int .i64 ((at_ : Int) + (ln : Int))] wr fun e w' => ∃ A c, e = .returned (.slice A s c) ∧ RowS w' wr.heap.size A c (layP q (at_ + ln)) ∧ Fr [] wr w') := Lib.hid (by have h := HCLA.out wr (HF.out.trans HFR.out) (at_ + ln) (by have := HAT.out; omega); simpa using h)
          have HRG : Hid (wr.rangeAt b off q.cells) := Lib.hid (HRGA.out wr (HF.out.trans HFR.out))
          clear hst heq
          go_wp2_with (first
            | (refine wpList_load_mid rfl 29 _ rfl b off rfl q.cells _ HRG.out Try.underlying29 rfl part_size8 ?_)
            | (go_at_call 18; refine (HCL.out).mono ?_; rintro e w3 ⟨CA, cc, rfl, hro, hf3⟩; have HRO := Lib.hid hro; have HF3 := Lib.hid hf3; clear hro hf3)
            | (at_builtin; refine wpList_app rfl (.tmp 134) (.tmp 143) rfl w1.heap.size wr.heap.size A5 CA ln c5 s cc L (layP q (at_ + ln)) HLN.out (HLQ.out _).symm (by first | rfl | (simp [Act.eval]; done)) (by first | rfl | (simp [Act.eval]; done)) (HROW.out.fr HF3.out) HRO.out (by omega) (Nat.le_trans HFR.out.size HF3.out.size) ?_; intro A6 c6 w6 hr6 hf6; have HR6 := Lib.hid hr6; have HF6 : Hid (Fr [] w1 w6) := Lib.hid ((HFR.out.trans HF3.out).trans' hf6 (fun x hx => .inr (by simp only [Option.mem_toList] at hx; exact (own_base HROW.out x (by rw [← HLN.out]; exact hx)).1))); clear hr6 hf6))
          go_roundw
          case rel =>
            have el : (L ++ layP q (at_ + ln)).length = ln + s := by rw [List.length_append, ← HLN.out, HLQ.out]
            exact ⟨i + 1, L ++ layP q (at_ + ln), A6, c6, by go_num, by rw [el], by omega, by rw [el, HIS.out, Nat.add_mul, Nat.one_mul], HR6.out, by rw [el, ← HST.out, Nat.add_assoc], HF6.out⟩
          case measure => first | (simp [intOf]; done) | (simp [intOf]; omega)
        · have hinI : ¬ ((i : Int) < (MN : Int)) := by omega
          have hiM : i = MN := by omega
          have heq2 : L ++ T2 = TOT := by rw [show MN - i = 0 by omega, timesP, List.nil_append] at heq; exact heq
          have HIM : Hid (ln = MN * s) := Lib.hid (by rw [HIS.out, hiM])
          clear heq hiM
          by_cases hneg : mx < 0
          · have hT3 : T2 = Sp.fork (at_ + ln + 1) al :: (layP q (at_ + ln + 1) ++ [Sp.fork (at_ + ln) (at_ + ln)]) := by rw [HT2.out, if_pos hneg, ← HIM.out]
            have hst : (L ++ [Sp.fork (at_ + ln + 1) al] ++ layP q (at_ + ln + 1)) ++ [Sp.fork (at_ + ln) (at_ + ln)] = TOT := by rw [← heq2, hT3]; simp [List.append_assoc]
            have hbd : ln + 1 + s + 1 = R := by
              rw [← HLL.out, ← hst]; simp only [List.length_append, List.length_cons, List.length_nil, HLQ.out, ← HLN.out]
            have HCL : Hid (∀ W, Fr [] w W → Calls Try.prog 18 #[q.val, .int .i64 ((at_ : Int) + (ln : Int) + 1)] W fun e w' => ∃ A c, e = .returned (.slice A s c) ∧ RowS w' W.heap.size A c (layP q (at_ + ln + 1)) ∧ Fr [] W w') := Lib.hid (fun W hW => by have h := HCLA.out W hW (at_ + ln + 1) (by have := HAT.out; omega); simpa using h)
            have HST := Lib.hid hst; have HBD := Lib.hid hbd
            clear hst heq2 hT3
            go_wp2_with (first
              | (at_builtin; refine wpList_app1 rfl (.tmp 152) (.tmp 157) rfl w1.heap.size A5 ln c5 L (Sp.fork (at_ + ln + 1) al) wr.heap.size HLN.out (by first | rfl | (simp [Act.eval]; done)) (by first | rfl | (simp [Act.eval]; done)) (HROW.out.fr ((Fr.refl [] wr).alloc _)) (by have h := Bk.new wr 45 (Sp.fork (at_ + ln + 1) al).cells.toArray; simpa [Sp.cells, Sp.fork] using h) (by omega) (by have := HFR.out.size; simp; omega) ?_; intro A6 c6 w6 hr6 hf6; have HR6 := Lib.hid hr6; have HF6 : Hid (Fr [] w1 w6) := Lib.hid ((HFR.out.alloc _).trans' hf6 (fun x hx => .inr (by simp only [Option.mem_toList] at hx; exact (own_base HROW.out x (by rw [← HLN.out]; exact hx)).1))); have d7b : w6.cell? ⟨g, 7, none⟩ = some (.slice (some ⟨b, off, none⟩) 1 p.c) := (HB.out.fr HF6.out (by simp)).cell_ (i := 7) rfl; have HRG : Hid (w6.rangeAt b off q.cells) := Lib.hid (HRGA.out w6 (HF.out.trans HF6.out)); clear hr6 hf6)
              | (refine wpList_load_mid rfl 29 _ rfl b off rfl q.cells _ HRG.out Try.underlying29 rfl part_size8 ?_)
              | (go_at_call 18; refine (HCL.out w6 (HF.out.trans HF6.out)).mono ?_; rintro e w3 ⟨CA, cc, rfl, hro, hf3⟩; have HRO := Lib.hid hro; have HF3 := Lib.hid hf3; clear hro hf3)
              | (at_builtin; refine wpList_app rfl (.tmp 159) (.tmp 166) rfl w1.heap.size w6.heap.size A6 CA (ln + 1) c6 s cc (L ++ [Sp.fork (at_ + ln + 1) al]) (layP q (at_ + ln + 1)) (by rw [List.length_append, ← HLN.out]; rfl) (HLQ.out _).symm (by first | rfl | (simp [Act.eval]; done)) (by first | rfl | (simp [Act.eval]; done)) (HR6.out.fr HF3.out) HRO.out (by omega) (Nat.le_trans HF6.out.size HF3.out.size) ?_; intro A7 c7 w7 hr7 hf7; have HR7 := Lib.hid hr7; have HF7 : Hid (Fr [] w1 w7) := Lib.hid ((HF6.out.trans HF3.out).trans' hf7 (fun x hx => .inr (by simp only [Option.mem_toList] at hx; exact (own_base HR6.out x (by rw [List.length_append, ← HLN.out]; exact hx)).1))); clear hr7 hf7)
              | (at_builtin; refine wpList_app1 rfl (.tmp 168) (.tmp 172) rfl w1.heap.size A7 (ln + 1 + s) c7 (L ++ [Sp.fork (at_ + ln + 1) al] ++ layP q (at_ + ln + 1)) (Sp.fork (at_ + ln) (at_ + ln)) w7.heap.size (by rw [List.length_append, List.length_append, ← HLN.out, HLQ.out]; rfl) (by first | rfl | (simp [Act.eval]; done)) (by first | rfl | (simp [Act.eval]; done)) (HR7.out.fr ((Fr.refl [] w7).alloc _)) (by have h := Bk.new w7 45 (Sp.fork (at_ + ln) (at_ + ln)).cells.toArray; simpa [Sp.cells, Sp.fork] using h) (by omega) (by have := HF7.out.size; simp; omega) ?_; intro A8 c8 w8 hr8 hf8; have HR8 := Lib.hid hr8; have HF8 : Hid (Fr [] w1 w8) := Lib.hid ((HF7.out.alloc _).trans' hf8 (fun x hx => .inr (by simp only [Option.mem_toList] at hx; exact (own_base HR7.out x (by rw [List.length_append, List.length_append, ← HLN.out, HLQ.out]; exact hx)).1))); clear hr8 hf8))
            go_ret
            exact ⟨A8, c8, by (rw [← HBD.out]; first | done | rfl), by rw [← HST.out]; exact HR8.out.low HF.out.size, HF.out.trans HF8.out⟩
          · obtain ⟨X, rfl⟩ : ∃ x : Nat, mx = (x : Int) := ⟨mx.toNat, by omega⟩
            have hMX : MN ≤ X := by have := hmx (by omega); omega
            have hT3 : T2 = maybeP (layP q) s al (X - MN) (at_ + ln) := by rw [HT2.out, if_neg hneg, ← HIM.out]; rfl
            rw [hT3] at heq2
            have HEQ := Lib.hid heq2
            clear heq2 hT3 hi HIM
            go_upto_region 38 with fail
            go_loopw [5, 14, 15] (fun v5 v14 v15 wx => ∃ (j : Nat) (M : List Sp) (A6 : Option Addr) (c6 : Nat), v14 = .int .i64 (j : Int) ∧ v5 = .slice A6 M.length c6 ∧ MN ≤ j ∧ j ≤ X ∧ RowS wx w1.heap.size A6 c6 M ∧ M ++ maybeP (layP q) s al (X - j) (at_ + M.length) = TOT ∧ Fr [] w1 wx) (fun _ v14 _ _ => X + 1 - (intOf v14).toNat)
            case atStart => exact ⟨MN, L, A5, c5, rfl, by rw [← HLN.out], Nat.le_refl _, hMX, HROW.out, by rw [← HLN.out]; exact HEQ.out, HFR.out⟩
            case round =>
              obtain ⟨j, M, A6, c6, rfl, rfl, hj1, hj, hrow, heq, hfr⟩ := hrel
              have hb := HB.out.fr hfr (by simp)
              have d6 : wr.cell? ⟨g, 6, none⟩ = some (.int .i64 (X : Int)) := hb.cell_ (i := 6) rfl
              obtain ⟨lm, hlm⟩ : ∃ n, n = M.length := ⟨_, rfl⟩
              have hle2 : lm ≤ R := by rw [hlm, ← HLL.out]; exact len_le7 heq
              rw [← hlm] at heq ⊢
              have HFX := Lib.hid hfr; have HROX := Lib.hid hrow; have HLM := Lib.hid hlm
              clear hfr hb hrow hlm
              rcases Nat.lt_or_ge j X with hjn | hjn
              · have hjI : (j : Int) < (X : Int) := by omega
                have hst : (M ++ [Sp.fork (at_ + lm + 1) al] ++ layP q (at_ + lm + 1)) ++ maybeP (layP q) s al (X - (j + 1)) (at_ + lm + 1 + s) = TOT := by
                  rw [show X - j = (X - (j + 1)) + 1 by omega, maybeP] at heq
                  rw [← heq]; simp [List.append_assoc]
                have hbd : lm + 1 + s ≤ R := by
                  have h := len_le7 hst
                  rw [HLL.out] at h
                  simp only [List.length_append, List.length_cons, List.length_nil, HLQ.out, ← HLM.out] at h
                  omega
                have HCL : Hid (∀ W, Fr [] w W → Calls Try.prog 18 #[q.val, .int .i64 ((at_ : Int) + (lm : Int) + 1)] W fun e w' => ∃ A c, e = .returned (.slice A s c) ∧ RowS w' W.heap.size A c (layP q (at_ + lm + 1)) ∧ Fr [] W w') := Lib.hid (fun W hW => by have h := HCLA.out W hW (at_ + lm + 1) (by have := HAT.out; omega); simpa using h)
                have HST := Lib.hid hst
                clear hst heq
                go_wp2_with (first
                  | (at_builtin; refine wpList_app1 rfl (.tmp 186) (.tmp 191) rfl w1.heap.size A6 lm c6 M (Sp.fork (at_ + lm + 1) al) wr.heap.size HLM.out (by first | rfl | (simp [Act.eval]; done)) (by first | rfl | (simp [Act.eval]; done)) (HROX.out.fr ((Fr.refl [] wr).alloc _)) (by have h := Bk.new wr 45 (Sp.fork (at_ + lm + 1) al).cells.toArray; simpa [Sp.cells, Sp.fork] using h) (by omega) (by have := HFX.out.size; simp; omega) ?_; intro A7 c7 w6 hr6 hf6; have HR6 := Lib.hid hr6; have HF6 : Hid (Fr [] w1 w6) := Lib.hid ((HFX.out.alloc _).trans' hf6 (fun x hx => .inr (by simp only [Option.mem_toList] at hx; exact (own_base HROX.out x (by rw [← HLM.out]; exact hx)).1))); have d7b : w6.cell? ⟨g, 7, none⟩ = some (.slice (some ⟨b, off, none⟩) 1 p.c) := (HB.out.fr HF6.out (by simp)).cell_ (i := 7) rfl; have HRG : Hid (w6.rangeAt b off q.cells) := Lib.hid (HRGA.out w6 (HF.out.trans HF6.out)); clear hr6 hf6)
                  | (refine wpList_load_mid rfl 29 _ rfl b off rfl q.cells _ HRG.out Try.underlying29 rfl part_size8 ?_)
                  | (go_at_call 18; refine (HCL.out w6 (HF.out.trans HF6.out)).mono ?_; rintro e w3 ⟨CA, cc, rfl, hro, hf3⟩; have HRO := Lib.hid hro; have HF3 := Lib.hid hf3; clear hro hf3)
                  | (at_builtin; refine wpList_app rfl (.tmp 193) (.tmp 200) rfl w1.heap.size w6.heap.size A7 CA (lm + 1) c7 s cc (M ++ [Sp.fork (at_ + lm + 1) al]) (layP q (at_ + lm + 1)) (by rw [List.length_append, ← HLM.out]; rfl) (HLQ.out _).symm (by first | rfl | (simp [Act.eval]; done)) (by first | rfl | (simp [Act.eval]; done)) (HR6.out.fr HF3.out) HRO.out (by omega) (Nat.le_trans HF6.out.size HF3.out.size) ?_; intro A8 c8 w7 hr7 hf7; have HR7 := Lib.hid hr7; have HF7 : Hid (Fr [] w1 w7) := Lib.hid ((HF6.out.trans HF3.out).trans' hf7 (fun x hx => .inr (by simp only [Option.mem_toList] at hx; exact (own_base HR6.out x (by rw [List.length_append, ← HLM.out]; exact hx)).1))); clear hr7 hf7))
                go_roundw
                case rel =>
                  have el : (M ++ [Sp.fork (at_ + lm + 1) al] ++ layP q (at_ + lm + 1)).length = lm + 1 + s := by rw [List.length_append, List.length_append, ← HLM.out, HLQ.out]; rfl
                  exact ⟨j + 1, _, A8, c8, by go_num, by rw [el], by omega, by omega, HR7.out, by rw [el, show at_ + (lm + 1 + s) = at_ + lm + 1 + s by omega]; exact HST.out, HF7.out⟩
                case measure => first | (simp [intOf]; done) | (simp [intOf]; omega)
              · have hjI : ¬ ((j : Int) < (X : Int)) := by omega
                have hLT : M = TOT := by rw [show X - j = 0 by omega, maybeP, List.append_nil] at heq; exact heq
                have HLT := Lib.hid hLT
                have hlnR : lm = R := by rw [HLM.out, hLT, HLL.out]
                have HLR := Lib.hid hlnR
                clear hLT hlnR heq
                go_wp2_with fail
                go_ret
                exact ⟨A6, c6, by (rw [← HLR.out]; first | done | rfl), by rw [← HLT.out]; exact HROX.out.low HF.out.size, HF.out.trans HFX.out⟩
    · have HR : Hid (R = 1) := Lib.hid (by rw [HSZ.out]; rfl)
      have HT : Hid (TOT = [⟨2, 0, 0, 0, 0, (at_ : Int) + 1, 0⟩]) := Lib.hid (by rw [HLAY.out]; rfl)
      go_wp2_with fail
      go_ret
      refine ⟨some ⟨w1.heap.size, 0, none⟩, 1, by (rw [HR.out]; first | done | rfl), ?_, HF.out.alloc _⟩
      rw [HT.out]
      exact RowS.one _ _ _ _ HF.out.size (Bk.new w1 45 _)
    · have HR : Hid (R = 1) := Lib.hid (by rw [HSZ.out]; rfl)
      have HT : Hid (TOT = [⟨3, 0, 0, 0, 0, (at_ : Int) + 1, 0⟩]) := Lib.hid (by rw [HLAY.out]; rfl)
      go_wp2_with fail
      go_ret
      refine ⟨some ⟨w1.heap.size, 0, none⟩, 1, by (rw [HR.out]; first | done | rfl), ?_, HF.out.alloc _⟩
      rw [HT.out]
      exact RowS.one _ _ _ _ HF.out.size (Bk.new w1 45 _)
end Go.Proofs.Ytehnkcfnflnpjaa
