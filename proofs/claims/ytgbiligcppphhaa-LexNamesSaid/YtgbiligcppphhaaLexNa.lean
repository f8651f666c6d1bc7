/-
  The walk of LexNames. No conditions.
-/
import Derived.Test.YtgbiligcppphhaaLexOw
import Derived.Test.YtgbiligcppphhaaLexN
namespace Go.Proofs.Ytgbiligcppphhaa
open Go.RowKit Go.ChangeShapes Go.WideShapes Go.ChangeAt Go.Deep
set_option linter.unusedVariables false
set_option linter.unusedSimpArgs false

def tblN : List UInt8 := [97, 98, 99, 120, 121, 122, 65, 66, 67, 88, 89, 90, 95, 48, 49, 50, 51, 52, 53, 54, 55, 56, 57]
theorem tbl_ix : ∀ m : Nat, m < 23 → ∀ W, (Instr.index 9 (.string ⟨#[97, 98, 99, 120, 121, 122, 65, 66, 67, 88, 89, 90, 95, 48, 49, 50, 51, 52, 53, 54, 55, 56, 57]⟩) (.int .i64 (m : Int))).run Try.prog W = .ok (.int .u8 ((tblN.getD m 0).toNat : Int)) W
  | 0, _ => fun W => by kernel_rfl
  | 1, _ => fun W => by kernel_rfl
  | 2, _ => fun W => by kernel_rfl
  | 3, _ => fun W => by kernel_rfl
  | 4, _ => fun W => by kernel_rfl
  | 5, _ => fun W => by kernel_rfl
  | 6, _ => fun W => by kernel_rfl
  | 7, _ => fun W => by kernel_rfl
  | 8, _ => fun W => by kernel_rfl
  | 9, _ => fun W => by kernel_rfl
  | 10, _ => fun W => by kernel_rfl
  | 11, _ => fun W => by kernel_rfl
  | 12, _ => fun W => by kernel_rfl
  | 13, _ => fun W => by kernel_rfl
  | 14, _ => fun W => by kernel_rfl
  | 15, _ => fun W => by kernel_rfl
  | 16, _ => fun W => by kernel_rfl
  | 17, _ => fun W => by kernel_rfl
  | 18, _ => fun W => by kernel_rfl
  | 19, _ => fun W => by kernel_rfl
  | 20, _ => fun W => by kernel_rfl
  | 21, _ => fun W => by kernel_rfl
  | 22, _ => fun W => by kernel_rfl
  | n + 23, h => by omega
theorem tbl_wrd : ∀ m : Nat, m < 23 → wrdM (tblN.getD m 0) = true := by decide
theorem tbl_lo : ∀ m : Nat, m < 23 → 48 ≤ (tblN.getD m 0).toNat := by decide
def nameOk : List UInt8 → Prop
  | [] => True
  | c :: r => letM c = true ∧ ∀ x ∈ r, wrdM x = true
theorem nameOk.snoc {bs : List UInt8} {x : UInt8} (h : nameOk bs) (hx : wrdM x = true) (h0 : bs = [] → letM x = true) : nameOk (bs ++ [x]) := by
  cases bs with
  | nil => exact ⟨h0 rfl, by simp⟩
  | cons c r =>
    refine ⟨h.1, fun y hy => ?_⟩
    rcases List.mem_append.1 hy with hy | hy
    · exact h.2 y hy
    · simp at hy; subst hy; exact hx
theorem let_of {x : UInt8} (h : wrdM x = true) (hd : 57 < x.toNat) : letM x = true := by
  simp only [wrdM, digM, Bool.or_eq_true, Bool.and_eq_true, decide_eq_true_eq] at h
  rcases h with h | h
  · exact h
  · omega
set_option maxRecDepth 100000 in
set_option maxHeartbeats 40000000 in
theorem names_walk {w : World} {A : Option Addr} {c : Nat} {s : List UInt8} (h : Bytes w A s) (hc : s.length ≤ c) (hcm : c ≤ maxLen) :
    Calls Try.prog 6 #[.slice A s.length c] w fun e w' => e = .returned (.bool true) ∧ Below w.heap.size w w' := by
  unfold maxLen at hcm
  have HB := Lib.hid h; clear h
  obtain ⟨i0, hi0, hz0, hz1, hz2⟩ := u8parts
  go_enter Try.func6, Try.ntmps6
  go_wp2_with fail
  go_at_call 7
  refine (awake_any w).mono ?_
  rintro e w1 ⟨rfl, hf1⟩
  have HF1 := Lib.hid hf1; clear hf1
  by_cases hz : s.length = 0
  · have hz' : ((s.length : Int) == 0) = true := beq_iff_eq.2 (by omega)
    have HZ := Lib.hid hz; clear hz
    go_wp2_with fail
    go_ret
    exact ⟨rfl, HF1.out.below_nil⟩
  have hz' : ((s.length : Int) == 0) = false := beq_eq_false_iff_ne.2 (by omega)
  by_cases h40 : 60 < s.length
  · go_wp2_with fail
    go_ret
    exact ⟨rfl, HF1.out.below_nil⟩
  go_wp2_with fail
  go_loopw [3, 4, 5] (fun v3 v4 v5 wr => ∃ k : Nat, ∃ X cx, ∃ bs : List UInt8, v4 = .int .i64 (k : Int) ∧ v3 = .slice X k cx ∧ bs.length = k ∧ k ≤ s.length ∧ Own wr 5 (.slice X k cx) (byteVals bs) ∧ nameOk bs ∧ (∀ q, (Value.slice X k cx).ownBlock = some q → w1.heap.size ≤ q) ∧ Fr [] w1 wr) (fun _ v4 _ _ => s.length - (intOf v4).toNat)
  case atStart => exact ⟨0, _, _, [], rfl, rfl, rfl, by omega, Own.nil_ _ _, True.intro, by simp [Value.ownBlock], Fr.refl _ _⟩
  case round =>
    obtain ⟨k, X, cx, bs, rfl, rfl, hbl, hk, hown, hok, hblk, hf⟩ := hrel
    have HBL : Hid ((byteVals bs).length = k) := Lib.hid (by rw [byteVals_length]; exact hbl)
    have hbytes := HB.out.fr_nil (HF1.out.trans hf)
    by_cases hlt : k < s.length
    · obtain ⟨a, rfl, hba, e0⟩ := byte_at hbytes hlt
      obtain ⟨q, hq⟩ : ∃ q, q = (s.getD k 0).toNat := ⟨_, rfl⟩
      have hq8 : q < 256 := by rw [hq]; exact UInt8.toNat_lt _
      rw [← hq] at e0
      have HQ := Lib.hid hq
      obtain ⟨m, hm⟩ : ∃ m, m = q % 23 := ⟨_, rfl⟩
      have hm23 : m < 23 := by omega
      have t1 : (q : Int).tmod 23 = (m : Int) := by rw [Int.tmod_eq_emod_of_nonneg (by omega)]; omega
      have v1 : IntKind.i64.wrap (m : Int) = (m : Int) := by rw [IntKind.wrap_i64]; omega
      have v2 : IntKind.i64.wrap (q : Int) = (q : Int) := by rw [IntKind.wrap_i64]; omega
      have hix := tbl_ix m hm23
      have hwd := tbl_wrd m hm23
      have hlo := tbl_lo m hm23
      obtain ⟨z, hzz⟩ : ∃ z, z = (tblN.getD m 0).toNat := ⟨_, rfl⟩
      have hz8 : z < 256 := by rw [hzz]; exact UInt8.toNat_lt _
      have hzu : UInt8.ofNat z = tblN.getD m 0 := by rw [hzz]; simp
      rw [← hzz] at hix hlo
      rw [← hzu] at hwd
      have HWD := Lib.hid hwd; have HZZ := Lib.hid hzz; have HM := Lib.hid hm; have HL := Lib.hid hlo
      have OWN := Lib.hid hown; have HBLK := Lib.hid hblk; have HF := Lib.hid hf; have HBA := Lib.hid hba; have HBS := Lib.hid hbl; have HOK := Lib.hid hok
      clear hq hbytes hown hblk hf hba hbl hok hwd hzz hzu hm
      have g1 : decide ((48 : Int) ≤ (z : Int)) = true := by simp; omega
      by_cases hk0 : k = 0
      · have gk : ((k : Int) == 0) = true := by simp; omega
        have HK0 := Lib.hid hk0; clear hk0
        by_cases hdg : z ≤ 57
        · have g2 : decide ((z : Int) ≤ 57) = true := by simp; omega
          go_wp2_with (at_builtin; refine wpList_append_OwnS rfl (.tmp 45) (.tmp 47) 22 rfl 5 i0 _ Try.underlying22 hi0 hz0 hz1 rfl (.slice X k cx) (byteVals bs) k HBL.out (by first | rfl | (simp [Act.eval]; done)) (OWN.out.fr ((Fr.refl [] wr).alloc (.cells #[.int .u8 (113 : Int)] 5)) (by simp)) (some ⟨wr.heap.size, 0, none⟩) 1 1 (by first | rfl | (simp [Act.eval]; done)) [.int .u8 (113 : Int)] (one_newb _ _) rfl (by simp [Value.oneCell']) (by unfold maxLen; omega) (by rw [hz2]; omega) ?_; intro Xa ca wa hown hgr hloc; have HOWNa := Lib.hid hown; have HGRa := Lib.hid hgr; have HLOCa := Lib.hid hloc; clear hown hgr hloc)
          go_roundw
          case rel =>
            refine ⟨k + 1, Xa, ca, bs ++ [UInt8.ofNat 113], by go_num, rfl, by rw [List.length_append, HBS.out]; rfl, by omega, ?_, ?_, ?_, ?_⟩
            · have h := HOWNa.out
              rw [byteVals_append]
              have e : byteVals [UInt8.ofNat 113] = [.int .u8 (113 : Int)] := by simp [byteVals] <;> omega
              rw [e]; exact h
            · exact HOK.out.snoc (by decide) (fun _ => by decide)
            · intro g hg
              rcases HLOCa.out with h | h
              · exact HBLK.out g (by rw [← h]; exact hg)
              · rw [hg] at h; injection h with h; rw [h]; have := HF.out.size; simp; omega
            · exact (HF.out.alloc _).grown HGRa.out (fun g' e => .inr (HBLK.out g' e))
          case measure => first | (simp [intOf]; done) | (simp [intOf]; omega)
        · have g2 : decide ((z : Int) ≤ 57) = false := by simp; omega
          go_wp2_with (at_builtin; refine wpList_append_OwnS rfl (.tmp 45) (.tmp 47) 22 rfl 5 i0 _ Try.underlying22 hi0 hz0 hz1 rfl (.slice X k cx) (byteVals bs) k HBL.out (by first | rfl | (simp [Act.eval]; done)) (OWN.out.fr ((Fr.refl [] wr).alloc (.cells #[.int .u8 (z : Int)] 5)) (by simp)) (some ⟨wr.heap.size, 0, none⟩) 1 1 (by first | rfl | (simp [Act.eval]; done)) [.int .u8 (z : Int)] (one_newb _ _) rfl (by simp [Value.oneCell']) (by unfold maxLen; omega) (by rw [hz2]; omega) ?_; intro Xa ca wa hown hgr hloc; have HOWNa := Lib.hid hown; have HGRa := Lib.hid hgr; have HLOCa := Lib.hid hloc; clear hown hgr hloc)
          go_roundw
          case rel =>
            refine ⟨k + 1, Xa, ca, bs ++ [UInt8.ofNat z], by go_num, rfl, by rw [List.length_append, HBS.out]; rfl, by omega, ?_, ?_, ?_, ?_⟩
            · have h := HOWNa.out
              rw [byteVals_append]
              have e : byteVals [UInt8.ofNat z] = [.int .u8 (z : Int)] := by simp [byteVals] <;> omega
              rw [e]; exact h
            · exact HOK.out.snoc HWD.out (fun _ => let_of HWD.out (by rw [UInt8.toNat_ofNat']; omega))
            · intro g hg
              rcases HLOCa.out with h | h
              · exact HBLK.out g (by rw [← h]; exact hg)
              · rw [hg] at h; injection h with h; rw [h]; have := HF.out.size; simp; omega
            · exact (HF.out.alloc _).grown HGRa.out (fun g' e => .inr (HBLK.out g' e))
          case measure => first | (simp [intOf]; done) | (simp [intOf]; omega)
      · have gk : ((k : Int) == 0) = false := by simp; omega
        go_wp2_with (at_builtin; refine wpList_append_OwnS rfl (.tmp 45) (.tmp 47) 22 rfl 5 i0 _ Try.underlying22 hi0 hz0 hz1 rfl (.slice X k cx) (byteVals bs) k HBL.out (by first | rfl | (simp [Act.eval]; done)) (OWN.out.fr ((Fr.refl [] wr).alloc (.cells #[.int .u8 (z : Int)] 5)) (by simp)) (some ⟨wr.heap.size, 0, none⟩) 1 1 (by first | rfl | (simp [Act.eval]; done)) [.int .u8 (z : Int)] (one_newb _ _) rfl (by simp [Value.oneCell']) (by unfold maxLen; omega) (by rw [hz2]; omega) ?_; intro Xa ca wa hown hgr hloc; have HOWNa := Lib.hid hown; have HGRa := Lib.hid hgr; have HLOCa := Lib.hid hloc; clear hown hgr hloc)
        go_roundw
        case rel =>
          refine ⟨k + 1, Xa, ca, bs ++ [UInt8.ofNat z], by go_num, rfl, by rw [List.length_append, HBS.out]; rfl, by omega, ?_, ?_, ?_, ?_⟩
          · have h := HOWNa.out
            rw [byteVals_append]
            have e : byteVals [UInt8.ofNat z] = [.int .u8 (z : Int)] := by simp [byteVals] <;> omega
            rw [e]; exact h
          · exact HOK.out.snoc HWD.out (fun e => absurd (by rw [← HBS.out, e]; rfl) hk0)
          · intro g hg
            rcases HLOCa.out with h | h
            · exact HBLK.out g (by rw [← h]; exact hg)
            · rw [hg] at h; injection h with h; rw [h]; have := HF.out.size; simp; omega
          · exact (HF.out.alloc _).grown HGRa.out (fun g' e => .inr (HBLK.out g' e))
        case measure => first | (simp [intOf]; done) | (simp [intOf]; omega)
    · obtain ⟨n, hn⟩ : ∃ n, n = k := ⟨_, rfl⟩
      obtain rfl : s.length = k := by omega
      rw [← hn] at hown HBL hbl hblk hk ⊢
      have hn1 : 1 ≤ n := by omega
      have hn60 : n ≤ 60 := by omega
      obtain ⟨cc, r, rfl⟩ : ∃ cc r, bs = cc :: r := by
        cases bs with
        | nil => simp at hbl; omega
        | cons cc r => exact ⟨cc, r, rfl⟩
      obtain ⟨N1, N2, N3⟩ := names_all hok.1 hok.2 (by omega)
      obtain ⟨bs, hbs⟩ : ∃ bs, bs = cc :: r := ⟨_, rfl⟩
      rw [← hbs] at N1 N2 N3 hown HBL hbl
      have hK := nameK_40 bs
      generalize nameK 0 bs = k1 at *
      generalize nameK 40 bs = k2 at *
      have OWN := Lib.hid hown; have HBLK := Lib.hid hblk; have HF := Lib.hid hf; have HBS := Lib.hid hbl; have H1 := Lib.hid N1; have H2 := Lib.hid N2; have H3 := Lib.hid N3; have HKK := Lib.hid hK; have HNN := Lib.hid hn
      clear hown hblk hf hbl N1 N2 N3 hK hok hbs hbytes hn
      go_wp2_with fail
      go_at_call 8
      refine (all_own_ok OWN.out HBS.out H1.out (by simp)).mono ?_
      rintro e w2 ⟨b1, p1, rfl, hp1, hpm1, hf2, hc1⟩
      have HF2 := Lib.hid hf2; have HC1 := Lib.hid hc1
      replace hp1 : 2 ≤ p1 := hp1
      clear hf2 hc1 hpm1
      rw [List.length_cons, List.length_cons, List.length_nil]
      have own2 : Hid (∀ w', Fr [] w2 w' → Own w' 5 (.slice X n cx) (byteVals bs)) := Lib.hid (fun w' h => OWN.out.fr (HF2.out.trans h) (by simp))
      go_wp2_with (first
        | (at_builtin; refine wpList_append_OwnS rfl (.tmp 55) (.tmp 56) 22 rfl 5 i0 _ Try.underlying22 hi0 hz0 hz1 rfl (.slice (some ⟨w2.heap.size, 0, none⟩) 0 0) ([] : List Value) 0 rfl (by first | rfl | (simp [Act.eval]; done)) (own_empty w2 5) X n cx (by first | rfl | (simp [Act.eval]; done)) (byteVals bs) ((own2.out _ ((Fr.refl [] w2).alloc _)).bytes_) HBL.out (byteVals_one _) (by unfold maxLen; omega) (by rw [hz2]; omega) ?_; intro Xa ca wa hown hgr hloc; have HOWNa := Lib.hid hown; have HGRa := Lib.hid hgr; have HLOCa := Lib.hid hloc; clear hown hgr hloc)
        | (at_builtin; refine wpList_append_OwnS rfl (.tmp 57) (.tmp 58) 22 rfl 5 i0 _ Try.underlying22 hi0 hz0 hz1 rfl (.slice Xa (0 + n) ca) ([] ++ byteVals bs) (0 + n) (by rw [List.nil_append, HBL.out, Nat.zero_add]) (by first | rfl | (simp [Act.eval]; done)) (HOWNa.out.fr ((Fr.refl [] wa).alloc (.cells #[.int .u8 32, .int .u8 40] 5)) (by simp)) (some ⟨wa.heap.size, 0, none⟩) 2 2 (by first | rfl | (simp [Act.eval]; done)) [.int .u8 32, .int .u8 40] (two_newb _ _ _) rfl (by simp [Value.oneCell']) (by unfold maxLen; omega) (by rw [hz2]; omega) ?_; intro Xb cb wb hown hgr hloc; have HOWNb := Lib.hid hown; have HGRb := Lib.hid hgr; have HLOCb := Lib.hid hloc; clear hown hgr hloc))
      go_at_call 8
      have hba : ∀ g', (Value.slice Xa (0 + n) ca).ownBlock = some g' → w2.heap.size ≤ g' := by
        intro g' hg
        rcases HLOCa.out with h | h
        · rw [hg] at h; simp [Value.ownBlock] at h; omega
        · rw [hg] at h; simp at h; omega
      have hfb : Fr [] w2 wb := ((((Fr.refl [] w2).alloc _).grown HGRa.out (fun g' e => .inr (by simp [Value.ownBlock] at e; omega))).alloc _).grown HGRb.out (fun g' e => .inr (hba g' e))
      have ho2 : Own wb 5 (.slice Xb (n + 2) cb) (byteVals (bs ++ [32, 40])) := by
        have h := HOWNb.out
        rw [List.nil_append, Nat.zero_add] at h
        rw [byteVals_append]; exact h
      refine (all_own_ok ho2 (by rw [List.length_append, HBS.out]; rfl) H2.out (by simp)).mono ?_
      rintro e w3 ⟨b2, p2, rfl, hp2, hpm2, hf3, hc2⟩
      have HF3 := Lib.hid (hfb.trans hf3); have HC2 := Lib.hid hc2
      replace hp2 : 3 ≤ p2 := hp2
      clear hf3 hc2 hpm2 hba hfb ho2 HLOCa HLOCb HOWNa HOWNb HGRa HGRb
      rw [List.length_cons, List.length_cons, List.length_cons, List.length_nil]
      have own3 : Hid (∀ w', Fr [] w3 w' → Own w' 5 (.slice X n cx) (byteVals bs)) := Lib.hid (fun w' h => OWN.out.fr (HF2.out.trans (HF3.out.trans h)) (by simp))
      go_wp2_with (first
        | (at_builtin; refine wpList_append_OwnS rfl (.tmp 64) (.tmp 65) 22 rfl 5 i0 _ Try.underlying22 hi0 hz0 hz1 rfl (.slice (some ⟨w3.heap.size, 0, none⟩) 0 0) ([] : List Value) 0 rfl (by first | rfl | (simp [Act.eval]; done)) (own_empty w3 5) X n cx (by first | rfl | (simp [Act.eval]; done)) (byteVals bs) ((own3.out _ ((Fr.refl [] w3).alloc _)).bytes_) HBL.out (byteVals_one _) (by unfold maxLen; omega) (by rw [hz2]; omega) ?_; intro Xd cd wd hown hgr hloc; have HOWNd := Lib.hid hown; have HGRd := Lib.hid hgr; have HLOCd := Lib.hid hloc; clear hown hgr hloc)
        | (at_builtin; refine wpList_append_OwnS rfl (.tmp 66) (.tmp 67) 22 rfl 5 i0 _ Try.underlying22 hi0 hz0 hz1 rfl (.slice Xd (0 + n) cd) ([] ++ byteVals bs) (0 + n) (by rw [List.nil_append, HBL.out, Nat.zero_add]) (by first | rfl | (simp [Act.eval]; done)) (HOWNd.out.fr ((Fr.refl [] wd).alloc (.cells #[.int .u8 40] 5)) (by simp)) (some ⟨wd.heap.size, 0, none⟩) 1 1 (by first | rfl | (simp [Act.eval]; done)) [.int .u8 40] (one_newb _ _) rfl (by simp [Value.oneCell']) (by unfold maxLen; omega) (by rw [hz2]; omega) ?_; intro Xf cf wf hown hgr hloc; have HOWNf := Lib.hid hown; have HGRf := Lib.hid hgr; have HLOCf := Lib.hid hloc; clear hown hgr hloc))
      go_at_call 8
      have hba : ∀ g', (Value.slice Xd (0 + n) cd).ownBlock = some g' → w3.heap.size ≤ g' := by
        intro g' hg
        rcases HLOCd.out with h | h
        · rw [hg] at h; simp [Value.ownBlock] at h; omega
        · rw [hg] at h; simp at h; omega
      have hfb : Fr [] w3 wf := ((((Fr.refl [] w3).alloc _).grown HGRd.out (fun g' e => .inr (by simp [Value.ownBlock] at e; omega))).alloc _).grown HGRf.out (fun g' e => .inr (hba g' e))
      have ho2 : Own wf 5 (.slice Xf (n + 1) cf) (byteVals (bs ++ [40])) := by
        have h := HOWNf.out
        rw [List.nil_append, Nat.zero_add] at h
        rw [byteVals_append]; exact h
      refine (all_own_ok ho2 (by rw [List.length_append, HBS.out]; rfl) H3.out (by simp)).mono ?_
      rintro e w4 ⟨b3, p3, rfl, hp3, hpm3, hf4, hc3⟩
      have hfr4 := hfb.trans hf4
      replace hp3 : 3 ≤ p3 := hp3
      obtain ⟨d0, d1, d2, d3, d4, d5⟩ := (HC1.out w4 (HF3.out.trans hfr4) 0 _ rfl).zero
      obtain ⟨f0, f1, f2, f3, f4, f5⟩ := (HC2.out w4 hfr4 0 _ rfl).zero
      obtain ⟨g0, g1, g2, -⟩ := (hc3 w4 (Fr.refl _ _) 0 _ rfl).zero
      have hby4 := (own3.out w4 hfr4).bytes_
      have HBY4 := Lib.hid hby4
      have HFZ := Lib.hid (HF1.out.trans (HF.out.trans (HF2.out.trans (HF3.out.trans hfr4))))
      clear hf4 hc3 hpm3 hba hfb ho2 HLOCd HLOCf HOWNd HOWNf HGRd HGRf hby4 hfr4
      rw [List.length_cons, List.length_cons, List.length_cons, List.length_nil]
      go_wp2_with fail
      have hcv0 : (convert 22 9 (.slice X n cx)).run Try.prog w4 = .ok (.string ⟨bs.toArray⟩) w4 := run_str_ (P := Try.prog) 22 9 5 Try.underlying22 Try.underlying5 Try.underlying9 X bs n cx HBY4.out HBS.out
      have hcv1 : (convert 22 9 (.slice X n cx)).run Try.prog w4.drew = .ok (.string ⟨bs.toArray⟩) w4.drew := run_str_ (P := Try.prog) 22 9 5 Try.underlying22 Try.underlying5 Try.underlying9 X bs n cx HBY4.out HBS.out
      have hcv2 : ∀ q, (convert 22 9 (.slice X n cx)).run Try.prog (w4.drewN q) = .ok (.string ⟨bs.toArray⟩) (w4.drewN q) := fun q => run_str_ (P := Try.prog) 22 9 5 Try.underlying22 Try.underlying5 Try.underlying9 X bs n cx HBY4.out HBS.out
      go_quiet (fail)
      clear hcv0 hcv1 hcv2
      go_wp2_with fail
      rcases HKK.out with ⟨hk5, rfl⟩ | ⟨rfl, rfl⟩
      · have hk5' : ((k2 : Int) == 5) = false := beq_eq_false_iff_ne.2 (by omega)
        have hk6' : ((k2 : Int) != 5) = true := by rw [bne, hk5']; rfl
        have hk7' : ¬ (k2 : Int) = 5 := by omega
        go_quiet (fail)
        go_wp2_with fail
        go_ret
        exact ⟨rfl, (HFZ.out.drewN _).below_nil⟩
      · go_quiet (fail)
        go_wp2_with fail
        go_ret
        exact ⟨rfl, (HFZ.out.drewN _).below_nil⟩
theorem lexNames_open {H : Type} {enc : TypeId × Value → H} (W : World) (base : Nat) (v0 : Value) (d0 : DataW H) (p0 : List MemPlace) (k0 : Value.okWide Try.prog W .any base 22 v0)
    (h0 : DataW.Trod enc Try.prog W 0 (fun _ => true) true 22 v0 d0 p0) :
    Calls Try.prog 6 #[v0] W fun e W' => e = .returned (.bool true) ∧ Below W.heap.size W W' := by
  obtain ⟨A1, c1, b1, rfl, g1, g2, g3, g4⟩ := arg_bytes k0 h0
  exact names_walk g4 g1 g2
end Go.Proofs.Ytgbiligcppphhaa
