/-
  The lexer's text. No conditions on the program.
-/
import Derived.Test.YtjfgopihfgljmaaDoorLex5
import Derived.Test.YtjfgopihfgljmaaDoorEscape
namespace Go.Proofs.YtjfgopihfgljmaaDoor
open Go.RowKit
set_option linter.unusedVariables false
set_option linter.unusedSimpArgs false

theorem closM_oct {c : UInt8} {r : List UInt8} (h : octM c = true) : closM (c :: r) = closM r := by
  rw [closM_cons, if_neg]
  intro e
  simp [octM, e] at h
theorem esc_is (c : Nat) : escN c = escM c := rfl
theorem ofNat_esc (d : UInt8) : ((UInt8.ofNat (escM d.toNat)).toNat : Int) = (escN d.toNat : Int) := by
  have := escN_lt d.toNat_lt
  rw [← esc_is, UInt8.toNat_ofNat']
  omega
set_option maxRecDepth 100000 in
set_option maxHeartbeats 8000000 in
theorem text_any {w : World} {g : Nat} {A : Option Addr} {c : Nat} {src : List UInt8} {i : Nat} {L : Value} (h : Rdr w g A c src i L) (hi : i < src.length) :
    Calls Tryd.prog 31 #[.pointer (some ⟨g, 0, none⟩)] w (TokPost w g A c src i L (textR (src.drop (i + 1)))) := by
  obtain ⟨c0, c1, c2, f1⟩ := h.cells
  obtain ⟨i0, hi0, hz0, hz1, hz2⟩ := u8parts
  have hl := h.len
  have hgl := h.blk.lt
  have H := Lib.hid h; clear h
  go_enter Tryd.func31, Tryd.ntmps31
  go_wp2_with fail
  go_at_call 45
  refine calls_gen fun W hW => ?_
  have hfW : Fr [] w W := by rw [hW]; exact (Fr.refl [] w).alloc _
  have hb2 : Bk W w.heap.size 43 #[.int .i64 0, .int .i64 0, .string ⟨#[]⟩, .bool false, .int .u64 0, .int .u64 0] := by rw [hW]; exact Bk.new w _ _
  have HB2 := Lib.hid hb2; have HFW := Lib.hid hfW
  clear hW hb2 hfW
  have hgb : w.heap.size ≠ g := by omega
  refine (quoted_any (H.out.fr_nil HFW.out) hi 34 (.inl rfl)).mono ?_
  intro e w2 hp
  unfold QuotPost at hp
  cases hq : quotM 34 (src.drop (i + 1)) with
  | none =>
    rw [hq] at hp
    obtain ⟨b, rfl, hfl, hr2, hf2⟩ := hp
    have h3 := HB2.out.fr hf2 (by simpa using hgb)
    obtain ⟨y0, y1, y2, y3, y4, y5, z0, z1, z2, z3, z4, z5⟩ := h3.sixc
    obtain ⟨fb, hfe, hfb⟩ := hfl
    have H3 := Lib.hid h3; have HFL := Lib.hid hfb; have HR := Lib.hid hr2; have HF := Lib.hid hf2
    clear h3 hfb hr2 hf2
    have HQ := Lib.hid hq; clear hq
    go_wp2_with fail
    refine body_gen fun V hV => ?_
    have hb4 : Bk V w.heap.size 43 #[.int .i64 0, .int .i64 0, .string ⟨#[]⟩, .bool false, .int .u64 0, .int .u64 0] := by rw [hV]; exact H3.out.six _ _ _ _ _ _
    have hf4 : Fr [w.heap.size] w2 V := by rw [hV]; exact (Fr.refl _ _).six (.inl (by simp)) _ _ _ _ _ _
    clear hV
    obtain ⟨k0, k1, k2, k3, k4, k5, -⟩ := hb4.sixc
    refine bodyPost_ret (v := .tuple #[tokZ, .iface 34 (.pointer (some ⟨b, 0, none⟩))]) (by unfold tokZ; simp [results, Tryd.results31, go_sem, k0, k1, k2, k3, k4, k5]) rfl ?_
    unfold textR
    rw [HQ.out]
    exact ⟨b, i, rfl, ⟨b, rfl, HFL.out.fr hf4 (by simpa using HFL.out.ne_ H3.out (by decide))⟩, HR.out.fr_far hf4 (by simpa using hgl), (HFW.out.nil_.trans HF.out).trans' hf4 (by simp)⟩
  | some n =>
    rw [hq] at hp
    obtain ⟨X, cx, rfl, hbX, hXg, hr2, hf2, hcx, hX0⟩ := hp
    have hcl := quotM_clos 34 _ n hq
    have hbl : ((src.drop (i + 1)).take n).length = n := by simp at hcl ⊢; omega
    obtain ⟨bs, hbs⟩ : ∃ bs, bs = (src.drop (i + 1)).take n := ⟨_, rfl⟩
    rw [← hbs] at hbX hcl hbl
    have h3 := HB2.out.fr hf2 (by simpa using hgb)
    have hn : n ≤ 16384 := by have := hcl.1; simp at this; omega
    have hin : i + n + 2 ≤ src.length := hr2.at_
    have HQ : Hid (textR (src.drop (i + 1)) = .ok (3, textL bs, 0, n + 2)) := Lib.hid (by unfold textR; rw [hq]; simp only; rw [← hbs, textL_of (by omega)])
    have hsz : w.heap.size < w2.heap.size := h3.lt
    have H3 := Lib.hid h3; have HR := Lib.hid hr2; have HF := Lib.hid hf2; have HBX := Lib.hid hbX; have HXG := Lib.hid hXg; have HCL := Lib.hid hcl.2
    clear h3 hr2 hf2 hbX hXg hcl hq hbs
    go_wp2_with (refine wpList_make_own _ rfl _ _ 22 rfl 0 5 i0 (.int .u8 0) 1 Tryd.underlying22 hi0 hz0 hz1 .i64 .i64 _ n rfl rfl rfl (by rw [hz2]; omega) (by unfold maxLen; omega) (Nat.zero_le _) ?_; intro w3 hown3 hgr3; have HOWN3 := Lib.hid hown3; have HGR3 := Lib.hid hgr3; clear hown3 hgr3)
    have HF3 : Hid (Fr [] w2 w3) := Lib.hid ((Fr.refl [] w2).grown HGR3.out (by simp))
    obtain ⟨B, hB⟩ : ∃ B, B = w2.heap.size := ⟨_, rfl⟩
    rw [← hB] at HOWN3
    have HBE := Lib.hid hB; clear hB
    go_wp2_with fail
    rw [← HBE.out]
    go_loopw [7, 8] (fun v7 v8 wr => ∃ k : Nat, ∃ outs : List UInt8, v8 = .int .i64 (k : Int) ∧ v7 = .slice (some ⟨B, 0, none⟩) outs.length n ∧ wr.ownsRow 0 5 1 (.slice (some ⟨B, 0, none⟩) outs.length n) outs.length (byteVals outs) ∧ outs.length ≤ k ∧ k ≤ n ∧ outs ++ textL (bs.drop k) = textL bs ∧ closM (bs.drop k) = true ∧ Fr [] w2 wr) (fun _ v8 _ => n - (intOf v8).toNat)
    case atStart => exact ⟨0, [], rfl, rfl, HOWN3.out, by simp, by omega, rfl, HCL.out, HF3.out⟩
    case round =>
      obtain ⟨k, outs, rfl, rfl, hown, hok, hkn, hout, hcl, hfr⟩ := hrel
      by_cases hlt : k < n
      · have hlt' : k < bs.length := by omega
        rw [drop_cons_ hlt', textL_cons] at hout
        rw [drop_cons_ hlt', closM_cons] at hcl
        rw [headD_drop, List.drop_drop, List.drop_drop] at hout
        rw [List.drop_drop] at hcl
        have hbr : Bytes wr X bs := HBX.out.fr_nil hfr
        obtain ⟨a, rfl, hba, e0⟩ := byte_at hbr hlt'
        obtain ⟨p, hp⟩ : ∃ p, p = bs.getD k 0 := ⟨_, rfl⟩
        rw [← hp] at e0 hout hcl
        by_cases h92 : p.toNat = 92
        · rw [if_pos h92] at hout hcl
          rw [Bool.and_eq_true] at hcl
          have hlt2 : k + 1 < bs.length := by
            rcases Nat.lt_or_ge (k + 1) bs.length with hh | hh
            · exact hh
            · rw [List.drop_eq_nil_of_le hh] at hcl; simp at hcl
          have hne : bs.drop (k + 1) ≠ [] := by intro e; have := congrArg List.length e; simp at this; omega
          rw [if_neg hne] at hout
          rw [h92] at e0
          have HOWN := Lib.hid hown; have HCLO := Lib.hid hcl.2; have HFR := Lib.hid hfr; have HBR := Lib.hid hbr; have HOUT := Lib.hid hout
          clear hout hcl hown hfr hbr hp h92 hne
          go_wp2_with fail
          go_loopw [9, 10] (fun v9 v10 w4 => ∃ nn kk : Nat, v9 = .int .i64 (nn : Int) ∧ v10 = .int .i64 (kk : Int) ∧ w4 = wr ∧ kk ≤ 3 ∧ k + 1 + kk ≤ n ∧ nn < 8 ^ kk ∧ octsF (3 - kk) nn kk (bs.drop (k + 1 + kk)) = octsM (bs.drop (k + 1)) ∧ (1 ≤ kk → closM (bs.drop (k + 1 + kk)) = true)) (fun _ v10 _ => 3 - (intOf v10).toNat)
          case atStart => exact ⟨0, 0, rfl, rfl, rfl, by omega, by omega, by simp, rfl, by omega⟩
          case round =>
            obtain ⟨nn, kk, rfl, rfl, rfl, hk3, hkn2, hnn, hoc, hcl2⟩ := hrel
            have hn5 : nn ≤ 511 := by
              have : (8 : Nat) ^ kk ≤ 8 ^ 3 := Nat.pow_le_pow_right (by omega) hk3
              omega
            by_cases h3 : kk = 3
            · subst h3
              have hex : octsM (bs.drop (k + 1)) = (3, nn) := hoc.symm
              have hk1 : 1 ≤ 3 := by omega
              have HEX := Lib.hid hex; have HC2 := Lib.hid (hcl2 hk1)
              have hz0' : decide ((0 : Int) < (3 : Int)) = true := by simp
              obtain ⟨m, hm⟩ : ∃ m, m = nn % 256 := ⟨_, rfl⟩
              have hmt : ((nn : Int).tmod 256) = (m : Int) := by rw [Int.tmod_eq_emod_of_nonneg (by omega)]; omega
              have hmw : IntKind.u8.wrap (m : Int) = (m : Int) := by rw [IntKind.wrap_u8]; omega
              have HM := Lib.hid hm
              clear hm hex hcl2 hoc
              go_wp2_with (at_builtin; refine wpList_append_fits _ rfl _ _ 22 rfl 0 5 i0 1 Tryd.underlying22 hi0 hz1 B outs.length n (byteVals outs) rfl (HOWN.out.alloc _) ⟨wr.heap.size, 0, none⟩ 1 1 [.int .u8 (m : Int)] rfl rfl (cell_one_new _ _ _) (ints_oneCell .u8 [(m : Int)]) (by omega) ?_; intro w5 hown' hgr'; have HOWNw5 := Lib.hid hown'; have HGRw5 := Lib.hid hgr'; clear hown' hgr')
              go_roundw
              case rel =>
                have ho := HOUT.out
                rw [HEX.out, if_neg (show ¬ (3, nn).1 = 0 by simp <;> omega)] at ho
                exact ⟨k + 1 + 3, outs ++ [UInt8.ofNat (nn % 256)], by go_num, by simp, own_snoc HOWNw5.out rfl _ (by rw [UInt8.toNat_ofNat', HM.out]; omega), by simp; omega, by omega, by simpa [List.append_assoc] using ho, HC2.out, (HFR.out.alloc _).grown HGRw5.out (fun g' e => .inr (by injection e with e; rw [← e, HBE.out]; exact Nat.le_refl _))⟩
              case measure => simp [intOf]; omega
            have d3 : decide ((kk : Int) < 3) = true := by simp; omega
            by_cases hend : k + 1 + kk = n
            · have dn : decide ((k : Int) + 1 + (kk : Int) < (n : Int)) = false := by simp; omega
              have hex : octsM (bs.drop (k + 1)) = (kk, nn) := by
                rw [← hoc, List.drop_eq_nil_of_le (by omega)]
                obtain ⟨z, hz⟩ : ∃ z, 3 - kk = z + 1 := ⟨2 - kk, by omega⟩
                rw [hz]; rfl
              have hk1 : 1 ≤ kk := by omega
              have HEX := Lib.hid hex; have HC2 := Lib.hid (hcl2 hk1)
              have hz0' : decide ((0 : Int) < (kk : Int)) = true := by simp; omega
              obtain ⟨m, hm⟩ : ∃ m, m = nn % 256 := ⟨_, rfl⟩
              have hmt : ((nn : Int).tmod 256) = (m : Int) := by rw [Int.tmod_eq_emod_of_nonneg (by omega)]; omega
              have hmw : IntKind.u8.wrap (m : Int) = (m : Int) := by rw [IntKind.wrap_u8]; omega
              have HM := Lib.hid hm
              clear hm hex hcl2 hoc
              go_wp2_with (at_builtin; refine wpList_append_fits _ rfl _ _ 22 rfl 0 5 i0 1 Tryd.underlying22 hi0 hz1 B outs.length n (byteVals outs) rfl (HOWN.out.alloc _) ⟨wr.heap.size, 0, none⟩ 1 1 [.int .u8 (m : Int)] rfl rfl (cell_one_new _ _ _) (ints_oneCell .u8 [(m : Int)]) (by omega) ?_; intro w5 hown' hgr'; have HOWNw5 := Lib.hid hown'; have HGRw5 := Lib.hid hgr'; clear hown' hgr')
              go_roundw
              case rel =>
                have ho := HOUT.out
                rw [HEX.out, if_neg (show ¬ (kk, nn).1 = 0 by simp <;> omega)] at ho
                exact ⟨k + 1 + kk, outs ++ [UInt8.ofNat (nn % 256)], by go_num, by simp, own_snoc HOWNw5.out rfl _ (by rw [UInt8.toNat_ofNat', HM.out]; omega), by simp; omega, by omega, by simpa [List.append_assoc] using ho, HC2.out, (HFR.out.alloc _).grown HGRw5.out (fun g' e => .inr (by injection e with e; rw [← e, HBE.out]; exact Nat.le_refl _))⟩
              case measure => simp [intOf]; omega
            have dn : decide ((k : Int) + 1 + (kk : Int) < (n : Int)) = true := by simp; omega
            have hlt4 : k + 1 + kk < bs.length := by omega
            obtain ⟨a4, ha4, hba4, e4⟩ := byte_at HBR.out hlt4
            injection ha4 with ha4; subst ha4
            obtain ⟨z, hz⟩ : ∃ z, 3 - kk = z + 1 := ⟨2 - kk, by omega⟩
            rw [drop_cons_ hlt4, hz, octsF] at hoc
            rw [drop_cons_ hlt4] at hcl2
            obtain ⟨d, hd⟩ : ∃ d, d = bs.getD (k + 1 + kk) 0 := ⟨_, rfl⟩
            rw [← hd] at e4 hoc hcl2
            by_cases hod : octM d = true
            · rw [if_pos hod] at hoc
              have hz2 : z = 3 - (kk + 1) := by omega
              rw [hz2] at hoc
              have hc3 : closM (bs.drop (k + 1 + kk + 1)) = true := by
                by_cases hk1 : 1 ≤ kk
                · have := hcl2 hk1; rwa [closM_oct hod] at this
                · have : kk = 0 := by omega
                  subst this
                  exact HCLO.out
              have hdr : 48 ≤ d.toNat ∧ d.toNat ≤ 55 := by simpa [octM] using hod
              have HOC := Lib.hid hoc; have HC3 := Lib.hid hc3
              clear hoc hcl2 hc3 hod hd hz hz2
              obtain ⟨q, hq⟩ : ∃ q, q = d.toNat := ⟨_, rfl⟩
              rw [← hq] at e4 HOC hdr
              have HQ4 := Lib.hid hq; clear hq
              have t1 : decide ((48 : Int) ≤ (q : Int)) = true := by simp; omega
              have t2 : decide ((q : Int) ≤ 55) = true := by simp; omega
              have hs1 : IntKind.u8.wrap ((q : Int) - 48) = (q : Int) - 48 := by rw [IntKind.wrap_u8]; omega
              have HP : Hid (nn * 8 + (q - 48) < 8 ^ (kk + 1)) := Lib.hid (by rw [Nat.pow_succ]; omega)
              clear hnn
              go_wp2_with fail
              go_roundw
              case rel => exact ⟨nn * 8 + (q - 48), kk + 1, by go_num, by go_num, True.intro, by omega, by omega, HP.out, HOC.out, fun _ => HC3.out⟩
              case measure => simp [intOf]; omega
            · have hod' : octM d = false := by simpa using hod
              rw [if_neg (by rw [hod']; exact Bool.false_ne_true)] at hoc
              have hex : octsM (bs.drop (k + 1)) = (kk, nn) := hoc.symm
              obtain ⟨q, hq⟩ : ∃ q, q = d.toNat := ⟨_, rfl⟩
              rw [← hq] at e4
              have HQ4 := Lib.hid hq
              have hqq : ¬ (48 ≤ q ∧ q ≤ 55) := by rw [hq]; simpa [octM] using hod'
              have hcl2 : 1 ≤ kk → closM (bs.drop (k + 1 + kk)) = true := fun h => by rw [drop_cons_ hlt4, ← hd]; exact hcl2 h
              have HD0 := Lib.hid hd
              clear hod hod' hz hd hq
              by_cases hk1 : 1 ≤ kk
              · by_cases h48 : 48 ≤ q
                · have t1 : decide ((48 : Int) ≤ (q : Int)) = true := by simp; omega
                  have t2 : decide ((q : Int) ≤ 55) = false := by simp; omega
                  have HEX := Lib.hid hex; have HC2 := Lib.hid (hcl2 hk1)
                  have hz0' : decide ((0 : Int) < (kk : Int)) = true := by simp; omega
                  obtain ⟨m, hm⟩ : ∃ m, m = nn % 256 := ⟨_, rfl⟩
                  have hmt : ((nn : Int).tmod 256) = (m : Int) := by rw [Int.tmod_eq_emod_of_nonneg (by omega)]; omega
                  have hmw : IntKind.u8.wrap (m : Int) = (m : Int) := by rw [IntKind.wrap_u8]; omega
                  have HM := Lib.hid hm
                  clear hm hex hcl2 hoc
                  go_wp2_with (at_builtin; refine wpList_append_fits _ rfl _ _ 22 rfl 0 5 i0 1 Tryd.underlying22 hi0 hz1 B outs.length n (byteVals outs) rfl (HOWN.out.alloc _) ⟨wr.heap.size, 0, none⟩ 1 1 [.int .u8 (m : Int)] rfl rfl (cell_one_new _ _ _) (ints_oneCell .u8 [(m : Int)]) (by omega) ?_; intro w5 hown' hgr'; have HOWNw5 := Lib.hid hown'; have HGRw5 := Lib.hid hgr'; clear hown' hgr')
                  go_roundw
                  case rel =>
                    have ho := HOUT.out
                    rw [HEX.out, if_neg (show ¬ (kk, nn).1 = 0 by simp <;> omega)] at ho
                    exact ⟨k + 1 + kk, outs ++ [UInt8.ofNat (nn % 256)], by go_num, by simp, own_snoc HOWNw5.out rfl _ (by rw [UInt8.toNat_ofNat', HM.out]; omega), by simp; omega, by omega, by simpa [List.append_assoc] using ho, HC2.out, (HFR.out.alloc _).grown HGRw5.out (fun g' e => .inr (by injection e with e; rw [← e, HBE.out]; exact Nat.le_refl _))⟩
                  case measure => simp [intOf]; omega
                · have t1 : decide ((48 : Int) ≤ (q : Int)) = false := by simp; omega
                  have HEX := Lib.hid hex; have HC2 := Lib.hid (hcl2 hk1)
                  have hz0' : decide ((0 : Int) < (kk : Int)) = true := by simp; omega
                  obtain ⟨m, hm⟩ : ∃ m, m = nn % 256 := ⟨_, rfl⟩
                  have hmt : ((nn : Int).tmod 256) = (m : Int) := by rw [Int.tmod_eq_emod_of_nonneg (by omega)]; omega
                  have hmw : IntKind.u8.wrap (m : Int) = (m : Int) := by rw [IntKind.wrap_u8]; omega
                  have HM := Lib.hid hm
                  clear hm hex hcl2 hoc
                  go_wp2_with (at_builtin; refine wpList_append_fits _ rfl _ _ 22 rfl 0 5 i0 1 Tryd.underlying22 hi0 hz1 B outs.length n (byteVals outs) rfl (HOWN.out.alloc _) ⟨wr.heap.size, 0, none⟩ 1 1 [.int .u8 (m : Int)] rfl rfl (cell_one_new _ _ _) (ints_oneCell .u8 [(m : Int)]) (by omega) ?_; intro w5 hown' hgr'; have HOWNw5 := Lib.hid hown'; have HGRw5 := Lib.hid hgr'; clear hown' hgr')
                  go_roundw
                  case rel =>
                    have ho := HOUT.out
                    rw [HEX.out, if_neg (show ¬ (kk, nn).1 = 0 by simp <;> omega)] at ho
                    exact ⟨k + 1 + kk, outs ++ [UInt8.ofNat (nn % 256)], by go_num, by simp, own_snoc HOWNw5.out rfl _ (by rw [UInt8.toNat_ofNat', HM.out]; omega), by simp; omega, by omega, by simpa [List.append_assoc] using ho, HC2.out, (HFR.out.alloc _).grown HGRw5.out (fun g' e => .inr (by injection e with e; rw [← e, HBE.out]; exact Nat.le_refl _))⟩
                  case measure => simp [intOf]; omega
              · obtain rfl : kk = 0 := by omega
                obtain rfl : nn = 0 := by simpa using hnn
                have HEX := Lib.hid hex
                rw [show k + 1 + 0 = k + 1 from rfl, Addr.add_succ'] at e4
                have HC2 : Hid (closM (bs.drop (k + 2)) = true) := HCLO
                have hd0 : d = bs.getD (k + 1) 0 := HD0.out
                clear hex hcl2 hoc HD0
                have hesc := esc_any q (by have := HQ4.out; have := d.toNat_lt; omega) wr
                have HESC := Lib.hid hesc; clear hesc
                have HV : Hid ((escN q : Int) = ((UInt8.ofNat (escM d.toNat)).toNat : Int)) := Lib.hid (by rw [HQ4.out]; exact (ofNat_esc d).symm)
                obtain ⟨v, hv⟩ : ∃ v, v = escN q := ⟨_, rfl⟩
                rw [← hv] at HESC HV
                clear hv
                have hdd : (bs.getD (k + 1) 0) = d := hd0.symm
                have HDD := Lib.hid hdd; clear hdd hd0
                have hcond : decide ((48 : Int) ≤ (q : Int)) = false ∨ (decide ((48 : Int) ≤ (q : Int)) = true ∧ decide ((q : Int) ≤ 55) = false) := by
                  by_cases h48 : 48 ≤ q
                  · right; constructor
                    · simp; omega
                    · simp; omega
                  · left; simp; omega
                clear hqq
                rcases hcond with t1 | ⟨t1, t2⟩
                all_goals
                  go_wp2_with fail
                  go_at_call 46
                  refine HESC.out.mono ?_
                  rintro e w4 ⟨rfl, rfl⟩
                  go_wp2_with (at_builtin; refine wpList_append_fits _ rfl _ _ 22 rfl 0 5 i0 1 Tryd.underlying22 hi0 hz1 B outs.length n (byteVals outs) rfl (HOWN.out.alloc _) ⟨wr.heap.size, 0, none⟩ 1 1 [.int .u8 (v : Int)] rfl rfl (cell_one_new _ _ _) (ints_oneCell .u8 [(v : Int)]) (by omega) ?_; intro w5 hown' hgr'; have HOWNw5 := Lib.hid hown'; have HGRw5 := Lib.hid hgr'; clear hown' hgr')
                  go_roundw
                  case rel =>
                    have ho := HOUT.out
                    rw [HEX.out, if_pos rfl, HDD.out] at ho
                    exact ⟨k + 2, outs ++ [UInt8.ofNat (escM d.toNat)], by go_num, by simp, own_snoc HOWNw5.out rfl _ HV.out, by simp; omega, by omega, by simpa [List.append_assoc] using ho, HC2.out, (HFR.out.alloc _).grown HGRw5.out (fun g' e => .inr (by injection e with e; rw [← e, HBE.out]; exact Nat.le_refl _))⟩
                  case measure => simp [intOf]; omega
        · rw [if_neg h92] at hout hcl
          have HOWN := Lib.hid hown; have HCLO := Lib.hid hcl; have HFR := Lib.hid hfr
          have g92 : ((p.toNat : Int) == 92) = false := by simp; omega
          have HOUT := Lib.hid hout
          clear hout hcl hown hfr hbr hp h92
          generalize hpn : (p.toNat : Int) = pn at *
          have HPN := Lib.hid hpn; clear hpn
          go_wp2_with (at_builtin; refine wpList_append_fits _ rfl _ _ 22 rfl 0 5 i0 1 Tryd.underlying22 hi0 hz1 B outs.length n (byteVals outs) rfl (HOWN.out.alloc _) ⟨wr.heap.size, 0, none⟩ 1 1 [.int .u8 pn] rfl rfl (cell_one_new _ _ _) (ints_oneCell .u8 [pn]) (by omega) ?_; intro w4 hown' hgr'; have HOWNw4 := Lib.hid hown'; have HGRw4 := Lib.hid hgr'; clear hown' hgr')
          go_roundw
          case rel => exact ⟨k + 1, outs ++ [p], by go_num, by simp, own_snoc HOWNw4.out rfl p HPN.out.symm, by simp; omega, by omega, by simpa [List.append_assoc] using HOUT.out, HCLO.out, (HFR.out.alloc _).grown HGRw4.out (fun g' e => .inr (by injection e with e; rw [← e, HBE.out]; exact Nat.le_refl _))⟩
          case measure => simp [intOf]; omega
      · have h0 : bs.drop k = [] := List.drop_eq_nil_of_le (by omega)
        rw [h0] at hout
        have ho : outs = textL bs := by simpa [textL, textM] using hout
        have hat : At wr (some ⟨B, 0, none⟩) (byteVals outs) := At.of_own hown
        have HAT := Lib.hid hat
        have h3 := H3.out.fr hfr (by simp)
        obtain ⟨y0, y1, y2, y3, y4, y5, z0, z1, z2, z3, z4, z5⟩ := h3.sixc
        have H3' := Lib.hid h3; have HFR := Lib.hid hfr; have HO := Lib.hid ho
        clear hout hown hfr h0 hat h3 ho hcl
        go_wp2_with (refine wpList_str rfl 22 9 (.tmp 109) rfl 5 Tryd.underlying22 Tryd.underlying5 Tryd.underlying9 (some ⟨B, 0, none⟩) outs.length n (by first | rfl | (simp [Act.eval]; done)) outs HAT.out rfl ?_)
        refine body_gen fun V hV => ?_
        have hb4 : Bk V w.heap.size 43 #[.int .i64 3, .int .i64 (i : Int), .string ⟨outs.toArray⟩, .bool false, .int .u64 0, .int .u64 0] := by rw [hV]; exact H3'.out.six _ _ _ _ _ _
        have hf4 : Fr [w.heap.size] wr V := by rw [hV]; exact (Fr.refl _ _).six (.inl (by simp)) _ _ _ _ _ _
        clear hV
        obtain ⟨k0, k1, k2, k3, k4, k5, -⟩ := hb4.sixc
        refine bodyPost_ret (v := .tuple #[tokV 3 i outs 0, .nilIface]) (by unfold tokV; simp [results, Tryd.results31, go_sem, k0, k1, k2, k3, k4, k5]) rfl ?_
        rw [HQ.out]
        exact ⟨by rw [HO.out], (HR.out.fr_nil HFR.out).fr_far hf4 (by simpa using hgl), (HFW.out.nil_.trans (HF.out.trans HFR.out.nil_)).trans' hf4 (by simp)⟩
end Go.Proofs.YtjfgopihfgljmaaDoor
