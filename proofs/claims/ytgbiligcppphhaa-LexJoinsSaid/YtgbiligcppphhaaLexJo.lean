/-
  The walk of LexJoins. No conditions.
-/
import Derived.Test.YtgbiligcppphhaaLexOw
import Derived.Test.YtgbiligcppphhaaLexJ
namespace Go.Proofs.Ytgbiligcppphhaa
open Go.RowKit Go.ChangeShapes Go.WideShapes Go.ChangeAt Go.Deep
set_option linter.unusedVariables false
set_option linter.unusedSimpArgs false

theorem AllPost.any_ {w w' : World} {e : Ending} {bs : List UInt8} (h : AllPost w bs e w') : ∃ L E, e = .returned (.tuple #[L, E]) ∧ (E = .nilIface ∨ ∃ p, E = .iface 43 (.pointer (some ⟨p, 0, none⟩))) ∧ Fr [] w w' := by
  unfold AllPost at h
  cases hl : lexAllM bs with
  | error q => rw [hl] at h; obtain ⟨b, rfl, -, hf⟩ := h; exact ⟨_, _, rfl, .inr ⟨b, rfl⟩, hf⟩
  | ok ts => rw [hl] at h; obtain ⟨L, rfl, -, -, hf⟩ := h; exact ⟨_, _, rfl, .inl rfl, hf⟩
theorem AllPost.err_ {w w' : World} {e : Ending} {bs : List UInt8} {q : Nat × Nat} (h : AllPost w bs e w') (hl : lexAllM bs = .error q) : ∃ L p, e = .returned (.tuple #[L, .iface 43 (.pointer (some ⟨p, 0, none⟩))]) ∧ Fr [] w w' := by
  unfold AllPost at h
  rw [hl] at h
  obtain ⟨b, rfl, -, hf⟩ := h
  exact ⟨_, b, rfl, hf⟩
theorem frX {W wx wy : World} {Xx : Option Addr} {n cx : Nat} (g1 : (W.alloc (.cells #[] 5)).grownBy wx (Value.slice (some ⟨W.heap.size, 0, none⟩) 0 0).ownBlock)
    (l1 : (Value.slice Xx n cx).ownBlock = (Value.slice (some ⟨W.heap.size, 0, none⟩) 0 0).ownBlock ∨ (Value.slice Xx n cx).ownBlock = some (W.alloc (.cells #[] 5)).heap.size)
    (g2 : (wx.alloc (.cells #[.int .u8 10] 5)).grownBy wy (Value.slice Xx n cx).ownBlock) : Fr [] W wy := by
  have hb : ∀ g', (Value.slice Xx n cx).ownBlock = some g' → W.heap.size ≤ g' := by
    intro g' hg
    rcases l1 with h | h
    · rw [hg] at h; simp [Value.ownBlock] at h; omega
    · rw [hg] at h; simp at h; omega
  exact ((((Fr.refl [] W).alloc _).grown g1 (fun g' e => .inr (by simp [Value.ownBlock] at e; omega))).alloc _).grown g2 (fun g' e => .inr (hb g' e))
theorem frY {W wx wy wz : World} {Xx Xy : Option Addr} {n cx n2 cy : Nat} (g1 : (W.alloc (.cells #[] 5)).grownBy wx (Value.slice (some ⟨W.heap.size, 0, none⟩) 0 0).ownBlock)
    (l1 : (Value.slice Xx n cx).ownBlock = (Value.slice (some ⟨W.heap.size, 0, none⟩) 0 0).ownBlock ∨ (Value.slice Xx n cx).ownBlock = some (W.alloc (.cells #[] 5)).heap.size)
    (g2 : (wx.alloc (.cells #[.int .u8 10] 5)).grownBy wy (Value.slice Xx n cx).ownBlock)
    (l2 : (Value.slice Xy n2 cy).ownBlock = (Value.slice Xx n cx).ownBlock ∨ (Value.slice Xy n2 cy).ownBlock = some (wx.alloc (.cells #[.int .u8 10] 5)).heap.size)
    (g3 : wy.grownBy wz (Value.slice Xy n2 cy).ownBlock) : Fr [] W wz := by
  have h1 : W.heap.size ≤ wx.heap.size := by have h := ((((Fr.refl [] W).alloc (.cells #[] 5))).grown g1 (fun g' e => .inr (by simp [Value.ownBlock] at e; omega))).size; exact h
  have hb : ∀ g', (Value.slice Xx n cx).ownBlock = some g' → W.heap.size ≤ g' := by
    intro g' hg
    rcases l1 with h | h
    · rw [hg] at h; simp [Value.ownBlock] at h; omega
    · rw [hg] at h; simp at h; omega
  have hb2 : ∀ g', (Value.slice Xy n2 cy).ownBlock = some g' → W.heap.size ≤ g' := by
    intro g' hg
    rcases l2 with h | h
    · rw [hg] at h; exact hb g' h.symm
    · rw [hg] at h; simp at h; omega
  exact (frX g1 l1 g2).grown g3 (fun g' e => .inr (hb2 g' e))
theorem risesM.le_ {l : List Tk} : ∀ {p N : Nat}, risesM p N l → ∀ t ∈ l, t.p ≤ N := by
  induction l with
  | nil => intro p N h; exact h.elim
  | cons a r ih =>
    intro p N h t ht
    obtain ⟨h1, ⟨rfl, h2, h3⟩ | ⟨h2, h3, h4⟩⟩ := h
    · simp at ht; subst ht; omega
    · rcases List.mem_cons.1 ht with rfl | ht
      · omega
      · exact ih h4 t ht
theorem all_le {bs : List UInt8} {ts : List Tk} (h : lexAllM bs = .ok ts) : ∀ t ∈ ts, t.p ≤ bs.length := by
  unfold lexAllM at h
  split at h
  · cases h
  · have := lexM_rises _ _ _ _ _ h
    rw [Nat.zero_add] at this
    exact this.le_
theorem all_ne {bs : List UInt8} {ts : List Tk} (h : lexAllM bs = .ok ts) : ts ≠ [] := by
  unfold lexAllM at h
  split at h
  · cases h
  · have := lexM_rises _ _ _ _ _ h
    rintro rfl
    exact this
set_option maxRecDepth 100000 in
set_option maxHeartbeats 40000000 in
theorem joins_walk {w : World} {A B : Option Addr} {ca cb : Nat} {a b : List UInt8} (h1 : Bytes w A a) (h2 : Bytes w B b) (hc1 : a.length ≤ ca) (hA : A = none → ca = 0) (hcm1 : ca ≤ maxLen) (hc2 : b.length ≤ cb) (hB : B = none → cb = 0) (hcm2 : cb ≤ maxLen) :
    Calls Try.prog 4 #[.slice A a.length ca, .slice B b.length cb] w fun e w' => e = .returned (.bool true) ∧ Below w.heap.size w w' := by
  unfold maxLen at hcm1 hcm2
  obtain ⟨i0, hi0, hz0, hz1, hz2⟩ := u8parts
  have hga := fun (w1 : World) (hf : Fr [] w w1) => all_any (h1.fr_nil hf) hc1 hA
  have hgb := fun (w1 : World) (hf : Fr [] w w1) => all_any (h2.fr_nil hf) hc2 hB
  have hba := fun (w1 : World) (hf : Fr [] w w1) => h1.fr_nil hf
  have hbb := fun (w1 : World) (hf : Fr [] w w1) => h2.fr_nil hf
  have HGA := Lib.hid hga; have HGB := Lib.hid hgb; have HBA0 := Lib.hid hba; have HBB0 := Lib.hid hbb
  clear hga hgb hba hbb hA hB h1 h2
  go_enter Try.func4, Try.ntmps4
  go_wp2_with fail
  go_at_call 7
  refine (awake_any w).mono ?_
  rintro e w1 ⟨rfl, hf1⟩
  have HF1 := Lib.hid hf1
  by_cases h40 : 400 < a.length
  · go_wp2_with fail
    go_ret
    exact ⟨rfl, HF1.out.below_nil⟩
  by_cases h41 : 400 < b.length
  · go_wp2_with fail
    go_ret
    exact ⟨rfl, HF1.out.below_nil⟩
  have hfirst : a.length = 0 ∨ ∃ m q : Nat, a.length = m + 1 ∧ (∃ x : Addr, A = some x ∧ w1.cell? (x.add m) = some (.int .u8 (q : Int))) ∧ ((q = 92 ∧ True) ∨ (q ≠ 92 ∧ ∀ x, a.getLast? = some x → x.toNat ≠ 92)) := by
    rcases Nat.eq_zero_or_pos a.length with h | h
    · exact .inl h
    · obtain ⟨x, hx, -, hc⟩ := byte_at (HBA0.out w1 hf1) (i := a.length - 1) (by omega)
      refine .inr ⟨a.length - 1, _, by omega, ⟨x, hx, hc⟩, ?_⟩
      have hlast : a.getLast? = some (a.getD (a.length - 1) 0) := by
        rw [List.getLast?_eq_getElem?, List.getD_eq_getElem?_getD, List.getElem?_eq_getElem (by omega)]; rfl
      rw [hlast]
      by_cases hq : (a.getD (a.length - 1) 0).toNat = 92
      · exact .inl ⟨hq, True.intro⟩
      · exact .inr ⟨hq, fun y hy => by injection hy with hy; rw [← hy]; exact hq⟩
  clear hf1
  rcases hfirst with h0 | ⟨m, q, hm, ⟨x, rfl, hc⟩, ⟨rfl, -⟩ | ⟨hq, hla⟩⟩
  case' inl =>
    have HLA : Hid (∀ x, a.getLast? = some x → x.toNat ≠ 92) := Lib.hid (by have e : a = [] := List.eq_nil_of_length_eq_zero h0; subst e; intro x hx; cases hx)
    have hp0 : ¬ 0 < a.length := by omega
    have HZ0 := Lib.hid h0; clear h0
    go_wp2_with fail
    go_at_call 8
  case inr.inl =>
    have hsub : IntKind.i64.wrap ((a.length : Int) - 1) = (m : Int) := by rw [IntKind.wrap_i64]; omega
    have hp0 : 0 < a.length := by omega
    have hml : m < a.length := by omega
    have hml2 : (m : Int) < (a.length : Int) := by omega
    have HM := Lib.hid hm; clear hm
    go_wp2_with fail
    go_ret
    exact ⟨rfl, HF1.out.below_nil⟩
  case' inr.inr =>
    have hsub : IntKind.i64.wrap ((a.length : Int) - 1) = (m : Int) := by rw [IntKind.wrap_i64]; omega
    have hp0 : 0 < a.length := by omega
    have hml : m < a.length := by omega
    have hml2 : (m : Int) < (a.length : Int) := by omega
    have hq' : ((q : Int) == 92) = false := beq_eq_false_iff_ne.2 (by omega)
    have HLA := Lib.hid hla; have HM := Lib.hid hm; clear hm hla hq
    go_wp2_with fail
    go_at_call 8
    clear hc hsub hml hml2
    generalize hax : (some x : Option Addr) = A at *
    have HAX := Lib.hid hax; clear hax
  all_goals
    refine (HGA.out w1 HF1.out).mono ?_
    intro e w2 hp
    cases hl : lexAllM a with
    | error q =>
      obtain ⟨L, p, rfl, hf2⟩ := hp.err_ hl
      have HF2 := Lib.hid (HF1.out.trans hf2); clear hp hf2 hl
      go_wp2_with fail
      go_at_call 8
      refine (HGB.out w2 HF2.out).mono ?_
      intro e w3 hp
      obtain ⟨L3, E3, rfl, -, hf3⟩ := hp.any_
      have HF3 := Lib.hid (HF2.out.trans hf3)
      have HBA : Hid (∀ w', Fr [] w3 w' → At w' A (byteVals a)) := Lib.hid (fun w' h => HBA0.out w' (HF3.out.trans h))
      have HBB : Hid (∀ w', Fr [] w3 w' → At w' B (byteVals b)) := Lib.hid (fun w' h => HBB0.out w' (HF3.out.trans h))
      clear hp hf3
      go_wp2_with (first
        | (at_builtin; refine wpList_append_OwnS rfl (.tmp 50) (.tmp 51) 22 rfl 5 i0 _ Try.underlying22 hi0 hz0 hz1 rfl (.slice (some ⟨w3.heap.size, 0, none⟩) 0 0) ([] : List Value) 0 rfl (by first | rfl | (simp [Act.eval]; done)) (own_empty w3 5) A a.length ca (by first | rfl | (simp [Act.eval]; done)) (byteVals a) (HBA.out _ ((Fr.refl [] w3).alloc _)) (byteVals_length _) (byteVals_one _) (by unfold maxLen; omega) (by rw [hz2]; omega) ?_; intro Xx cx wx hown hgr hloc; have HOWNx := Lib.hid hown; have HGRx := Lib.hid hgr; have HLOCx := Lib.hid hloc; clear hown hgr hloc)
        | (at_builtin; refine wpList_append_OwnS rfl (.tmp 52) (.tmp 53) 22 rfl 5 i0 _ Try.underlying22 hi0 hz0 hz1 rfl (.slice Xx (0 + a.length) cx) ([] ++ byteVals a) (0 + a.length) (by rw [List.nil_append, byteVals_length, Nat.zero_add]) (by first | rfl | (simp [Act.eval]; done)) (HOWNx.out.fr ((Fr.refl [] wx).alloc (.cells #[.int .u8 10] 5)) (by simp)) (some ⟨wx.heap.size, 0, none⟩) 1 1 (by first | rfl | (simp [Act.eval]; done)) [.int .u8 10] (one_newb _ _) rfl (by simp [Value.oneCell']) (by unfold maxLen; omega) (by rw [hz2]; omega) ?_; intro Xy cy wy hown hgr hloc; have HOWNy := Lib.hid hown; have HGRy := Lib.hid hgr; have HLOCy := Lib.hid hloc; clear hown hgr hloc)
        | (at_builtin; refine wpList_append_OwnS rfl (.tmp 54) (.tmp 55) 22 rfl 5 i0 _ Try.underlying22 hi0 hz0 hz1 rfl (.slice Xy (0 + a.length + 1) cy) (([] ++ byteVals a) ++ [.int .u8 10]) (0 + a.length + 1) (by rw [List.length_append, List.nil_append, byteVals_length, Nat.zero_add]; rfl) (by first | rfl | (simp [Act.eval]; done)) HOWNy.out B b.length cb (by first | rfl | (simp [Act.eval]; done)) (byteVals b) (HBB.out _ (frX HGRx.out HLOCx.out HGRy.out)) (byteVals_length _) (byteVals_one _) (by unfold maxLen; omega) (by rw [hz2]; omega) ?_; intro Xz cz wz hown hgr hloc; have HOWNz := Lib.hid hown; have HGRz := Lib.hid hgr; have HLOCz := Lib.hid hloc; clear hown hgr hloc))
      go_at_call 8
      have hfz : Fr [] w3 wz := frY HGRx.out HLOCx.out HGRy.out HLOCy.out HGRz.out
      have ho3 : Own wz 5 (.slice Xz (a.length + 1 + b.length) cz) (byteVals (a ++ 10 :: b)) := by
        have h := HOWNz.out
        rw [List.nil_append, Nat.zero_add] at h
        have e : byteVals (a ++ 10 :: b) = (byteVals a ++ [.int .u8 10]) ++ byteVals b := by rw [byteVals_append, List.append_assoc]; rfl
        rw [e]; exact h
      clear HOWNx HOWNy HOWNz HGRx HGRy HGRz HLOCx HLOCy HLOCz
      refine (all_own ho3 (by simp; omega)).mono ?_
      clear ho3
      intro e w4 hp
      obtain ⟨L4, E4, rfl, hE, hf4⟩ := hp.any_
      have HF4 := Lib.hid (HF3.out.trans (hfz.trans hf4)); clear hfz hf4 hp
      rcases hE with rfl | ⟨p4, rfl⟩
      · go_wp2_with fail
        go_ret
        exact ⟨rfl, HF4.out.below_nil⟩
      · go_wp2_with fail
        go_ret
        exact ⟨rfl, HF4.out.below_nil⟩
    | ok l =>
      obtain ⟨l0, hl0, hj⟩ := joins_ok (b := b) (by omega) (by omega) hl HLA.out
      obtain ⟨bl, pl, rfl, hpl, hplm, hf2, hcl⟩ := hp.ok_ hl (all_ne hl)
      have HF2 := Lib.hid (HF1.out.trans hf2); have HCL := Lib.hid hcl; have HJ := Lib.hid hj; have HL0 := Lib.hid hl0
      have hll : l.length = l0.length + 1 := by rw [hl0]; simp
      rw [hll] at hpl ⊢
      clear hp hf2 hl hcl hj hl0 hll
      go_wp2_with fail
      go_at_call 8
      refine (HGB.out w2 HF2.out).mono ?_
      intro e w3 hp
      cases hm : lexAllM b with
      | error q =>
        obtain ⟨L3, p3, rfl, hf3⟩ := hp.err_ hm
        have HF3 := Lib.hid (HF2.out.trans hf3)
        have HBA : Hid (∀ w', Fr [] w3 w' → At w' A (byteVals a)) := Lib.hid (fun w' h => HBA0.out w' (HF3.out.trans h))
        have HBB : Hid (∀ w', Fr [] w3 w' → At w' B (byteVals b)) := Lib.hid (fun w' h => HBB0.out w' (HF3.out.trans h))
        have HE : Hid (lexAllM (a ++ 10 :: b) = .error (q.1, q.2 + (a.length + 1))) := Lib.hid (by rw [HJ.out, hm]; rfl)
        clear hp hf3 hm
        go_wp2_with (first
          | (at_builtin; refine wpList_append_OwnS rfl (.tmp 50) (.tmp 51) 22 rfl 5 i0 _ Try.underlying22 hi0 hz0 hz1 rfl (.slice (some ⟨w3.heap.size, 0, none⟩) 0 0) ([] : List Value) 0 rfl (by first | rfl | (simp [Act.eval]; done)) (own_empty w3 5) A a.length ca (by first | rfl | (simp [Act.eval]; done)) (byteVals a) (HBA.out _ ((Fr.refl [] w3).alloc _)) (byteVals_length _) (byteVals_one _) (by unfold maxLen; omega) (by rw [hz2]; omega) ?_; intro Xx cx wx hown hgr hloc; have HOWNx := Lib.hid hown; have HGRx := Lib.hid hgr; have HLOCx := Lib.hid hloc; clear hown hgr hloc)
          | (at_builtin; refine wpList_append_OwnS rfl (.tmp 52) (.tmp 53) 22 rfl 5 i0 _ Try.underlying22 hi0 hz0 hz1 rfl (.slice Xx (0 + a.length) cx) ([] ++ byteVals a) (0 + a.length) (by rw [List.nil_append, byteVals_length, Nat.zero_add]) (by first | rfl | (simp [Act.eval]; done)) (HOWNx.out.fr ((Fr.refl [] wx).alloc (.cells #[.int .u8 10] 5)) (by simp)) (some ⟨wx.heap.size, 0, none⟩) 1 1 (by first | rfl | (simp [Act.eval]; done)) [.int .u8 10] (one_newb _ _) rfl (by simp [Value.oneCell']) (by unfold maxLen; omega) (by rw [hz2]; omega) ?_; intro Xy cy wy hown hgr hloc; have HOWNy := Lib.hid hown; have HGRy := Lib.hid hgr; have HLOCy := Lib.hid hloc; clear hown hgr hloc)
          | (at_builtin; refine wpList_append_OwnS rfl (.tmp 54) (.tmp 55) 22 rfl 5 i0 _ Try.underlying22 hi0 hz0 hz1 rfl (.slice Xy (0 + a.length + 1) cy) (([] ++ byteVals a) ++ [.int .u8 10]) (0 + a.length + 1) (by rw [List.length_append, List.nil_append, byteVals_length, Nat.zero_add]; rfl) (by first | rfl | (simp [Act.eval]; done)) HOWNy.out B b.length cb (by first | rfl | (simp [Act.eval]; done)) (byteVals b) (HBB.out _ (frX HGRx.out HLOCx.out HGRy.out)) (byteVals_length _) (byteVals_one _) (by unfold maxLen; omega) (by rw [hz2]; omega) ?_; intro Xz cz wz hown hgr hloc; have HOWNz := Lib.hid hown; have HGRz := Lib.hid hgr; have HLOCz := Lib.hid hloc; clear hown hgr hloc))
        go_at_call 8
        have hfz : Fr [] w3 wz := frY HGRx.out HLOCx.out HGRy.out HLOCy.out HGRz.out
        have ho3 : Own wz 5 (.slice Xz (a.length + 1 + b.length) cz) (byteVals (a ++ 10 :: b)) := by
          have h := HOWNz.out
          rw [List.nil_append, Nat.zero_add] at h
          have e : byteVals (a ++ 10 :: b) = (byteVals a ++ [.int .u8 10]) ++ byteVals b := by rw [byteVals_append, List.append_assoc]; rfl
          rw [e]; exact h
        clear HOWNx HOWNy HOWNz HGRx HGRy HGRz HLOCx HLOCy HLOCz
        refine (all_own ho3 (by simp; omega)).mono ?_
        clear ho3
        intro e w4 hp
        obtain ⟨L4, p4, rfl, hf4⟩ := hp.err_ HE.out
        have HF4 := Lib.hid (HF3.out.trans (hfz.trans hf4)); clear hfz hf4 hp
        go_wp2_with fail
        go_ret
        exact ⟨rfl, HF4.out.below_nil⟩
      | ok ms =>
        obtain ⟨bm, pm, rfl, hpm, hpmm, hf3, hcm⟩ := hp.ok_ hm (all_ne hm)
        have HF3 := Lib.hid (HF2.out.trans hf3); have HCM := Lib.hid hcm
        have HLE := Lib.hid (all_le hm)
        have HBA : Hid (∀ w', Fr [] w3 w' → At w' A (byteVals a)) := Lib.hid (fun w' h => HBA0.out w' (HF3.out.trans h))
        have HBB : Hid (∀ w', Fr [] w3 w' → At w' B (byteVals b)) := Lib.hid (fun w' h => HBB0.out w' (HF3.out.trans h))
        obtain ⟨us, hus⟩ : ∃ us, us = (l0 ++ [⟨1, a.length, [], 0⟩]) ++ ms.map (Tk.up (a.length + 1)) := ⟨_, rfl⟩
        have HE : Hid (lexAllM (a ++ 10 :: b) = .ok us) := Lib.hid (by rw [HJ.out, hm, hus]; rfl)
        have hul : us.length = l0.length + 1 + ms.length := by rw [hus]; simp; omega
        have hune : us ≠ [] := by rw [hus]; simp
        have HU := Lib.hid hus
        have HFX := Lib.hid hf3
        clear hp hf3 hm hcm hus
        go_wp2_with (first
          | (at_builtin; refine wpList_append_OwnS rfl (.tmp 50) (.tmp 51) 22 rfl 5 i0 _ Try.underlying22 hi0 hz0 hz1 rfl (.slice (some ⟨w3.heap.size, 0, none⟩) 0 0) ([] : List Value) 0 rfl (by first | rfl | (simp [Act.eval]; done)) (own_empty w3 5) A a.length ca (by first | rfl | (simp [Act.eval]; done)) (byteVals a) (HBA.out _ ((Fr.refl [] w3).alloc _)) (byteVals_length _) (byteVals_one _) (by unfold maxLen; omega) (by rw [hz2]; omega) ?_; intro Xx cx wx hown hgr hloc; have HOWNx := Lib.hid hown; have HGRx := Lib.hid hgr; have HLOCx := Lib.hid hloc; clear hown hgr hloc)
          | (at_builtin; refine wpList_append_OwnS rfl (.tmp 52) (.tmp 53) 22 rfl 5 i0 _ Try.underlying22 hi0 hz0 hz1 rfl (.slice Xx (0 + a.length) cx) ([] ++ byteVals a) (0 + a.length) (by rw [List.nil_append, byteVals_length, Nat.zero_add]) (by first | rfl | (simp [Act.eval]; done)) (HOWNx.out.fr ((Fr.refl [] wx).alloc (.cells #[.int .u8 10] 5)) (by simp)) (some ⟨wx.heap.size, 0, none⟩) 1 1 (by first | rfl | (simp [Act.eval]; done)) [.int .u8 10] (one_newb _ _) rfl (by simp [Value.oneCell']) (by unfold maxLen; omega) (by rw [hz2]; omega) ?_; intro Xy cy wy hown hgr hloc; have HOWNy := Lib.hid hown; have HGRy := Lib.hid hgr; have HLOCy := Lib.hid hloc; clear hown hgr hloc)
          | (at_builtin; refine wpList_append_OwnS rfl (.tmp 54) (.tmp 55) 22 rfl 5 i0 _ Try.underlying22 hi0 hz0 hz1 rfl (.slice Xy (0 + a.length + 1) cy) (([] ++ byteVals a) ++ [.int .u8 10]) (0 + a.length + 1) (by rw [List.length_append, List.nil_append, byteVals_length, Nat.zero_add]; rfl) (by first | rfl | (simp [Act.eval]; done)) HOWNy.out B b.length cb (by first | rfl | (simp [Act.eval]; done)) (byteVals b) (HBB.out _ (frX HGRx.out HLOCx.out HGRy.out)) (byteVals_length _) (byteVals_one _) (by unfold maxLen; omega) (by rw [hz2]; omega) ?_; intro Xz cz wz hown hgr hloc; have HOWNz := Lib.hid hown; have HGRz := Lib.hid hgr; have HLOCz := Lib.hid hloc; clear hown hgr hloc))
        go_at_call 8
        have hfz : Fr [] w3 wz := frY HGRx.out HLOCx.out HGRy.out HLOCy.out HGRz.out
        have ho3 : Own wz 5 (.slice Xz (a.length + 1 + b.length) cz) (byteVals (a ++ 10 :: b)) := by
          have h := HOWNz.out
          rw [List.nil_append, Nat.zero_add] at h
          have e : byteVals (a ++ 10 :: b) = (byteVals a ++ [.int .u8 10]) ++ byteVals b := by rw [byteVals_append, List.append_assoc]; rfl
          rw [e]; exact h
        clear HOWNx HOWNy HOWNz HGRx HGRy HGRz HLOCx HLOCy HLOCz
        refine (all_own ho3 (by simp; omega)).mono ?_
        clear ho3
        intro e w4 hp
        obtain ⟨bu, pu, rfl, hpu, hpum, hf4, hcu⟩ := hp.ok_ HE.out hune
        have HF4 := Lib.hid (HF3.out.trans (hfz.trans hf4))
        have HG4 := Lib.hid (hfz.trans hf4)
        rw [hul] at hpu ⊢
        have HCU := Lib.hid hcu
        clear hfz hf4 hp hcu hune
        obtain ⟨n0, hn0⟩ : ∃ n, l0.length = n := ⟨_, rfl⟩
        obtain ⟨nm, hnm⟩ : ∃ n, ms.length = n := ⟨_, rfl⟩
        rw [hn0] at hpl hpu hul ⊢
        rw [hnm] at hpm hpu hul ⊢
        have HN0 := Lib.hid hn0; have HNM := Lib.hid hnm; have HUL := Lib.hid hul
        clear hn0 hnm hul
        unfold maxLen at hplm hpmm hpum
        go_wp2_with fail
        have hwn : IntKind.i64.wrap (n0 : Int) = (n0 : Int) := by rw [IntKind.wrap_i64]; omega
        go_loopw [11] (fun v11 wr => ∃ k : Nat, v11 = .int .i64 (k : Int) ∧ k ≤ n0 ∧ Fr [] w4 wr) (fun v11 _ => n0 - (intOf v11).toNat)
        case atStart => exact ⟨0, rfl, by omega, Fr.refl _ _⟩
        case round =>
          obtain ⟨k, rfl, hk, hf⟩ := hrel
          by_cases hlt : k < n0
          · obtain ⟨t, ht⟩ : ∃ t, l0[k]? = some t := ⟨_, List.getElem?_eq_getElem (by rw [HN0.out]; exact hlt)⟩
            obtain ⟨d0, d1, d2, d3, d4, d5⟩ := HCL.out wr (HFX.out.trans (HG4.out.trans hf)) k t (by rw [HL0.out, List.getElem?_append_left (by rw [HN0.out]; exact hlt)]; exact ht)
            obtain ⟨f0, f1, f2, f3, f4, f5⟩ := HCU.out wr hf k t (by rw [HU.out, List.append_assoc, List.getElem?_append_left (by rw [HN0.out]; exact hlt)]; exact ht)
            obtain ⟨tk, tp, tl, tv⟩ := t
            dsimp only at d0 d1 d2 d3 d4 d5 f0 f1 f2 f3 f4 f5
            obtain ⟨vh, hvh⟩ : ∃ vh : Nat, vh = tv / 18446744073709551616 := ⟨_, rfl⟩
            obtain ⟨vl, hvl⟩ : ∃ vl : Nat, vl = tv % 18446744073709551616 := ⟨_, rfl⟩
            rw [← hvh] at d4 f4
            rw [← hvl] at d5 f5
            have HF := Lib.hid hf
            have b1 : (k : Int) < (n0 : Int) + 1 := by omega
            have b2 : (k : Int) < (n0 : Int) + 1 + (nm : Int) := by omega
            clear hvh hvl ht hf
            go_wp2_with fail
            go_quiet (fail)
            go_wp2_with fail
            go_roundw
            case rel => exact ⟨k + 1, by go_num, by omega, HF.out.drewN _⟩
            case measure => first | (simp [intOf]; done) | (simp [intOf]; omega)
          · obtain rfl : k = n0 := by omega
            obtain ⟨g0, g1, -⟩ := HCU.out wr hf k ⟨1, a.length, [], 0⟩ (by rw [HU.out, List.getElem?_append_left (by simp; have := HN0.out; omega), List.getElem?_append_right (by have := HN0.out; omega), HN0.out, Nat.sub_self]; rfl)
            dsimp only at g0 g1
            replace g0 : wr.cell? ⟨bu, k * 6, none⟩ = some (.int .i64 1) := g0
            have b1 : (k : Int) < (k : Int) + 1 + (nm : Int) := by omega
            have HF := Lib.hid hf; clear hf
            go_wp2_with fail
            go_loopw [13, 14] (fun v13 v14 wr => ∃ j : Nat, v13 = .int .i64 (j : Int) ∧ j ≤ nm ∧ Fr [] w4 wr) (fun v13 _ _ => nm - (intOf v13).toNat)
            case atStart => exact ⟨0, rfl, by omega, HF.out⟩
            case round =>
              obtain ⟨j, rfl, hj, hf⟩ := hrel
              clear g0 g1 HF
              by_cases hlt : j < nm
              · obtain ⟨t, ht⟩ : ∃ t, ms[j]? = some t := ⟨_, List.getElem?_eq_getElem (by rw [HNM.out]; exact hlt)⟩
                have htl := HLE.out t (List.mem_of_getElem? ht)
                obtain ⟨d0, d1, d2, d3, d4, d5⟩ := HCM.out wr (HG4.out.trans hf) j t ht
                have hcu := HCU.out
                have hidx : us[k + 1 + j]? = some (Tk.up (a.length + 1) t) := by rw [HU.out, List.getElem?_append_right (by simp; have := HN0.out; omega)]; rw [List.getElem?_map, show k + 1 + j - (l0 ++ [(⟨1, a.length, [], 0⟩ : Tk)]).length = j by simp; have := HN0.out; omega, ht]; rfl
                obtain ⟨tk, tp, tl, tv⟩ := t
                have HUS : Hid (∀ W, Fr [] w4 W → TkAt W bu (k + 1 + j) ⟨tk, tp + (a.length + 1), tl, tv⟩) := Lib.hid (fun W h => hcu W h _ _ hidx)
                dsimp only at d0 d1 d2 d3 d4 d5 htl
                obtain ⟨vh, hvh⟩ : ∃ vh : Nat, vh = tv / 18446744073709551616 := ⟨_, rfl⟩
                obtain ⟨vl, hvl⟩ : ∃ vl : Nat, vl = tv % 18446744073709551616 := ⟨_, rfl⟩
                rw [← hvh] at d4
                rw [← hvl] at d5
                have HF := Lib.hid hf; have HVH := Lib.hid hvh; have HVL := Lib.hid hvl
                have b3 : (j : Int) < (nm : Int) := by omega
                have b2 : (k : Int) + 1 + (j : Int) < (k : Int) + 1 + (nm : Int) := by omega
                have hbm : bm < wr.heap.size := World.block_lt_of_cell? wr _ d0
                clear hvh hvl ht hf hcu hidx
                go_upto_region 24 with fail
                obtain ⟨bx, hbx⟩ : ∃ bx, bx = wr.heap.size := ⟨_, rfl⟩
                rw [← hbx]
                obtain ⟨wx, hwx⟩ : ∃ wx, wx = wr.alloc (.cells #[.int .i64 (tk : Int), .int .i64 (tp : Int), .string ⟨tl.toArray⟩, .bool false, .int .u64 (vh : Int), .int .u64 (vl : Int)] 33) := ⟨_, rfl⟩
                rw [← hwx]
                have hbk : Bk wx bx 33 #[.int .i64 (tk : Int), .int .i64 (tp : Int), .string ⟨tl.toArray⟩, .bool false, .int .u64 (vh : Int), .int .u64 (vl : Int)] := by rw [hwx, hbx]; exact Bk.new wr _ _
                have hfx : Fr [] w4 wx := by rw [hwx]; exact HF.out.alloc _
                have hbx4 : w4.heap.size ≤ bx := by rw [hbx]; exact HF.out.size
                have HBK := Lib.hid hbk; have HFX2 := Lib.hid hfx
                obtain ⟨-, x1, -, -, -, -, -, x2, -⟩ := hbk.sixc
                have s1 : IntKind.i64.wrap ((tp : Int) + (a.length : Int)) = (tp : Int) + (a.length : Int) := by rw [IntKind.wrap_i64]; omega
                have s2 : IntKind.i64.wrap ((tp : Int) + (a.length : Int) + 1) = (tp : Int) + (a.length : Int) + 1 := by rw [IntKind.wrap_i64]; omega
                clear hwx hbx hbk hfx
                go_upto_region 25 with fail
                clear x1 x2 d0 d1 d2 d3 d4 d5 s1 s2
                obtain ⟨wy, hwy⟩ : ∃ wy, wy = wx.setCell ⟨bx, 1, none⟩ (.int .i64 ((tp : Int) + (a.length : Int) + 1)) := ⟨_, rfl⟩
                rw [← hwy]
                have hby : Bk wy bx 33 #[.int .i64 (tk : Int), .int .i64 ((tp : Int) + (a.length : Int) + 1), .string ⟨tl.toArray⟩, .bool false, .int .u64 (vh : Int), .int .u64 (vl : Int)] := by rw [hwy]; exact HBK.out.put 1 _
                have hfy : Fr [] w4 wy := by rw [hwy]; exact HFX2.out.setCell (.inr hbx4) _
                obtain ⟨ix, hix⟩ : ∃ ix, ix = k + 1 + j := ⟨_, rfl⟩
                have htk := HUS.out wy hfy
                rw [← hix] at htk
                obtain ⟨f0, f1, f2, f3, f4, f5⟩ := htk
                dsimp only at f0 f1 f2 f3 f4 f5
                rw [← HVH.out] at f4
                rw [← HVL.out] at f5
                rw [show ((tp + (a.length + 1) : Nat) : Int) = (tp : Int) + (a.length : Int) + 1 by omega] at f1
                obtain ⟨y0, y1, y2, y3, y4, y5, -⟩ := hby.sixc
                have s1 : IntKind.i64.wrap ((k : Int) + 1) = (k : Int) + 1 := by rw [IntKind.wrap_i64]; omega
                have s2 : IntKind.i64.wrap ((k : Int) + 1 + (j : Int)) = (ix : Int) := by rw [IntKind.wrap_i64]; omega
                have b4 : (ix : Int) < (k : Int) + 1 + (nm : Int) := by omega
                have HFY := Lib.hid hfy
                clear hwy hby hfy hix
                go_quiet (fail)
                go_wp2_with fail
                go_roundw
                case rel => exact ⟨j + 1, by go_num, by omega, HFY.out.drewN _⟩
                case measure => first | (simp [intOf]; done) | (simp [intOf]; omega)
              · obtain rfl : j = nm := by omega
                have HF := Lib.hid hf
                clear hf
                go_wp2_with fail
                go_ret
                exact ⟨rfl, (HF4.out.trans HF.out).below_nil⟩
theorem lexJoins_open {H : Type} {enc : TypeId × Value → H} (W : World) (base : Nat) (v0 : Value) (d0 : DataW H) (p0 : List MemPlace) (v1 : Value) (d1 : DataW H) (p1 : List MemPlace) (k0 : Value.okWide Try.prog W .any base 22 v0) (k1 : Value.okWide Try.prog W .any base 22 v1)
    (h0 : DataW.Trod enc Try.prog W 0 (fun _ => true) true 22 v0 d0 p0) (h1 : DataW.Trod enc Try.prog W 0 (fun _ => true) true 22 v1 d1 p1) :
    Calls Try.prog 4 #[v0, v1] W fun e W' => e = .returned (.bool true) ∧ Below W.heap.size W W' := by
  obtain ⟨A1, c1, b1, rfl, g1, g2, g3, g4⟩ := arg_bytes k0 h0
  obtain ⟨A2, c2, b2, rfl, f1, f2, f3, f4⟩ := arg_bytes k1 h1
  exact joins_walk g4 f4 g1 g3 g2 f1 f3 f2
end Go.Proofs.Ytgbiligcppphhaa
