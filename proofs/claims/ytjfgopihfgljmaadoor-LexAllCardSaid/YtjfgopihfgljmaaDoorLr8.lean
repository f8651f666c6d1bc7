/-
  The reference of numbers: Prefix, of what begins with a digit, or a point and a digit. No conditions but sizes.
-/
import Derived.Test.YtjfgopihfgljmaaDoorLr7
import Derived.Deep.CutBlock
namespace Go.Proofs.YtjfgopihfgljmaaDoor
open Go.RowKit
set_option linter.unusedVariables false
set_option linter.unusedSimpArgs false

theorem tw_at (f : UInt8 → Bool) : ∀ (s : List UInt8) (i : Nat) (c : UInt8), i ≤ (s.takeWhile f).length → s[i]? = some c → f c = decide (i < (s.takeWhile f).length)
  | [], i, c, _, h => by simp at h
  | x :: r, i, c, hi, h => by
    by_cases hx : f x = true
    · rw [List.takeWhile_cons_of_pos hx] at hi ⊢
      cases i with
      | zero => injection h with h; subst h; simp [hx]
      | succ i =>
        have := tw_at f r i c (by simpa using hi) (by simpa using h)
        rw [this]; simp
    · rw [List.takeWhile_cons_of_neg hx] at hi ⊢
      obtain rfl : i = 0 := by simpa using hi
      injection h with h; subst h
      simpa using hx
theorem tw_take (f : UInt8 → Bool) {s : List UInt8} {i : Nat} (hi : i ≤ (s.takeWhile f).length) : (s.takeWhile f).take i = s.take i := by
  have h : s.takeWhile f = s.take (s.takeWhile f).length := List.prefix_iff_eq_take.1 (List.takeWhile_prefix f)
  rw [h, List.take_take, Nat.min_eq_left hi]
theorem take_one {s : List UInt8} {i : Nat} {c : UInt8} (h : s[i]? = some c) : s.take (i + 1) = s.take i ++ [c] := by
  rw [List.take_add_one, h]; rfl
/-- What the reference's Prefix answers. -/
def PrePost (w : World) (s : List UInt8) (e : Ending) (w' : World) : Prop := Fr [] w w' ∧
  (36 < topD (digRow s) ∧ e = .returned (.agg #[.bool false, .slice none 0 0, .int .i64 (numM s : Int), .int .i64 2]) ∨
   topD (digRow s) ≤ 36 ∧ ∃ A c, e = .returned (.agg #[.bool false, .slice A (digs (valD (digRow s))).length c, .int .i64 (numM s : Int), .int .i64 0]) ∧ (digs (valD (digRow s))).length ≤ c ∧ At w' A (ints (digs (valD (digRow s)))) ∧ ∀ a, A = some a → ∃ cs, Bk w' a.block 3 cs)
theorem got02_size : (Tryd.prog.info? 60).map (·.size) = some 4 := by kernel_rfl
theorem numM_frc (s : List UInt8) : (∃ c, s[(s.takeWhile digM).length]? = some c ∧ c.toNat = 46 ∧ numM s = (s.takeWhile digM).length + 1 + (frcM s).length ∧ frcM s = (s.drop ((s.takeWhile digM).length + 1)).takeWhile digM) ∨
    ((∀ c, s[(s.takeWhile digM).length]? = some c → c.toNat ≠ 46) ∧ numM s = (s.takeWhile digM).length ∧ frcM s = []) := by
  unfold numM frcM
  obtain ⟨d, hd⟩ : ∃ d, d = (s.takeWhile digM).length := ⟨_, rfl⟩
  simp only [← hd]
  cases h : s.drop d with
  | nil => exact .inr ⟨fun c hc => (by rw [List.drop_eq_nil_iff] at h; rw [List.getElem?_eq_none h] at hc; cases hc), by simp, by simp⟩
  | cons c r =>
    have hc : s[d]? = some c := by rw [← List.head?_drop, h]; rfl
    have hr : s.drop (d + 1) = r := by rw [← List.drop_drop, h]; rfl
    by_cases h46 : c.toNat = 46
    · simp only [if_pos h46]
      exact .inl ⟨c, hc, h46, by simp, by rw [hr]⟩
    · simp only [if_neg h46]
      exact .inr ⟨fun x hx => by rw [hc] at hx; injection hx with hx; subst hx; exact h46, trivial, trivial⟩
theorem fracM5_dig {s : List UInt8} {x : UInt8} (h : x ∈ frcM s) : digM x = true := frcM_dig s x h
set_option maxRecDepth 100000 in
set_option maxHeartbeats 16000000 in
theorem rprefix_any {w : World} {s : List UInt8} (hs : s.length ≤ 20000) (hd : digM (s.headD 0) = true ∨ ((s.headD 0).toNat = 46 ∧ digM ((s.drop 1).headD 0) = true)) :
    Calls Tryd.prog 17 #[.string ⟨s.toArray⟩] w (PrePost w s) := by
  obtain ⟨i0, hi0, hz0, hz1, hz2⟩ := intParts
  obtain ⟨S, hS⟩ : ∃ S, S = (⟨s.toArray⟩ : ByteArray) := ⟨_, rfl⟩
  obtain ⟨n, hn⟩ : ∃ n, n = s.length := ⟨_, rfl⟩
  have hs1 : S.size = n := by rw [hS, hn]; simp [ByteArray.size]
  have hn0 : 0 < n := by
    cases s with
    | nil => rcases hd with h | ⟨-, h⟩ <;> simp [digM] at h
    | cons a b => rw [hn]; simp
  obtain ⟨x0, hx0⟩ : ∃ x, s[0]? = some x := ⟨_, List.getElem?_eq_getElem (by omega)⟩
  have hh0 : s.headD 0 = x0 := by cases s with | nil => cases hx0 | cons a b => injection hx0
  have hxr : 46 ≤ x0.toNat ∧ x0.toNat ≤ 57 := by
    rw [hh0] at hd
    rcases hd with h | ⟨h, -⟩
    · have := digM_iff.1 h; omega
    · omega
  have hix0 := str_ix (s := s) hx0
  rw [← hS] at hix0 ⊢
  rw [← hn] at hs
  obtain ⟨d, hdd⟩ : ∃ d, d = (s.takeWhile digM).length := ⟨_, rfl⟩
  have hdn : d ≤ n := by rw [hdd, hn]; exact takeWhile_le _ _
  obtain ⟨W, hW⟩ : ∃ W, W = s.takeWhile digM := ⟨_, rfl⟩
  obtain ⟨F, hF⟩ : ∃ F, F = frcM s := ⟨_, rfl⟩
  obtain ⟨N, hN⟩ : ∃ N, N = numM s := ⟨_, rfl⟩
  have hcase := numM_frc s
  rw [← hdd, ← hF, ← hN] at hcase
  have hpos : 0 < d + F.length := by
    rw [hh0] at hd
    rcases hd with h | ⟨h, h2⟩
    · have := tw_at digM s 0 x0 (Nat.zero_le _) hx0
      rw [h, ← hdd] at this; simp at this; omega
    · have hz : digM x0 = false := by simp [digM, h]
      have hd0 := tw_at digM s 0 x0 (Nat.zero_le _) hx0
      rw [hz, ← hdd] at hd0
      have hd00 : d = 0 := by simp at hd0; omega
      rcases hcase with ⟨c, hc, hc46, -, hf⟩ | ⟨hc, -, -⟩
      · rw [hd00] at hf
        rw [hf]
        cases hq : s.drop 1 with
        | nil => rw [hq] at h2; simp [digM] at h2
        | cons a b =>
          rw [hq] at h2
          have h2 : digM a = true := h2
          simp only [Nat.zero_add, hq, List.takeWhile_cons_of_pos h2, List.length_cons]; omega
      · exact absurd h (hc x0 (by rw [hd00]; exact hx0))
  have hFn : F.length ≤ n := by
    rcases hcase with ⟨c, hc, hc46, -, hf⟩ | ⟨hc, -, hf⟩
    · rw [hf, hn]; exact Nat.le_trans (takeWhile_le _ _) (by simp)
    · rw [hf]; simp
  have hNn : N ≤ n := by rw [hN, hn]; exact numM_le s
  have HX0 : Hid (x0.toNat = x0.toNat) := Lib.hid rfl
  obtain ⟨y0, hy0⟩ : ∃ y0 : Nat, y0 = x0.toNat := ⟨_, rfl⟩
  rw [← hy0] at hxr hix0
  have hix0 : ∀ W, (Instr.index 9 (.string S) (.int .i64 0)).run Tryd.prog W = .ok (.int .u8 (y0 : Int)) W := fun W => hix0 W
  have hblk : blkM x0 = false := by unfold blkM; rw [← hy0]; simp; omega
  have HBLK := Lib.hid hblk
  have e43 : ((y0 : Int) == 43) = false ∧ ((y0 : Int) == 45) = false := ⟨by simp; omega, by simp; omega⟩
  obtain ⟨e43, e45⟩ := e43
  obtain ⟨PP, hPP⟩ : ∃ PP, PP = PrePost w s := ⟨_, rfl⟩
  rw [← hPP]
  have HPP := Lib.hid hPP
  have HS := Lib.hid hS; have HN := Lib.hid hn; have HD := Lib.hid hdd; have HW := Lib.hid hW; have HF := Lib.hid hF; have HNM := Lib.hid hN; have HCASE := Lib.hid hcase; have HY0 := Lib.hid hy0
  have hn0I : (0 : Int) < (n : Int) := by omega
  clear hS hn hdd hW hF hN hcase hd hx0 hh0 hblk HX0 hPP hy0
  go_enter Tryd.func17, Tryd.ntmps17
  go_upto_region 1 with fail
  obtain ⟨g, hg⟩ : ∃ g, g = w.heap.size := ⟨_, rfl⟩
  obtain ⟨w1, hw1⟩ : ∃ w1, w1 = w.alloc (.cells #[.bool false, .slice none 0 0, .int .i64 0, .int .i64 0] 60) := ⟨_, rfl⟩
  have hb1 : Bk w1 g 60 #[.bool false, .slice none 0 0, .int .i64 0, .int .i64 0] := by rw [hw1, hg]; exact Bk.new w _ _
  have hf1 : Fr [] w w1 := by rw [hw1]; exact (Fr.refl [] w).alloc _
  rw [← hw1, ← hg]
  have HB1 := Lib.hid hb1; have HF1 := Lib.hid hf1; have HG := Lib.hid hg
  clear hw1 hb1 hf1 hg
  go_upto_region 2 with fail
  go_loopw [3] (fun v3 wr => v3 = .int .i64 0 ∧ wr = w1) (fun _ _ => 0)
  case atStart => exact ⟨rfl, rfl⟩
  case round =>
    obtain ⟨rfl, rfl⟩ := hrel
    go_upto_block 2 with (go_at_call 37; rw [HY0.out]; refine (blank02 x0 _).mono ?_; rw [HBLK.out]; rintro e w2 ⟨rfl, rfl⟩)
    clear e43 e45 hix0 hxr HBLK HY0
    go_cut [3, 5] from 47 to 65 (fun v3 v5 wx => v3 = .int .i64 (d : Int) ∧ v5 = .string ⟨W.toArray⟩ ∧ wx = wr)
    case first =>
      go_wp2_with fail
      go_loopw [3, 5] (fun v3 v5 wz => ∃ i : Nat, v3 = .int .i64 (i : Int) ∧ v5 = .string ⟨(s.take i).toArray⟩ ∧ i ≤ d ∧ wz = wr) (fun v3 _ _ => n + 1 - (intOf v3).toNat)
      case atStart => exact ⟨0, rfl, by simp, Nat.zero_le _, rfl⟩
      case round =>
        obtain ⟨i, rfl, rfl, hi, rfl⟩ := hrel
        obtain ⟨O, hO⟩ : ∃ O, O = (⟨(s.take i).toArray⟩ : ByteArray) := ⟨_, rfl⟩
        rw [← hO]
        have hos : O.size = i := by rw [hO, ba_size, List.length_take]; have := HN.out; omega
        have HO := Lib.hid hO
        clear hO
        rcases Nat.lt_or_ge i n with hin | hin
        · have hinI : (i : Int) < (n : Int) := by omega
          obtain ⟨c, hc⟩ : ∃ c, s[i]? = some c := ⟨_, List.getElem?_eq_getElem (by have := HN.out; omega)⟩
          have hix := str_ix (s := s) hc
          rw [← HS.out] at hix
          have hdg := tw_at digM s i c (by rw [← HD.out]; exact hi) hc
          rw [← HD.out] at hdg
          have HDG := Lib.hid hdg
          have HDC := Lib.hid (digit02 c)
          obtain ⟨cn, hcn⟩ : ∃ cn : Nat, cn = c.toNat := ⟨_, rfl⟩
          rw [← hcn] at hix HDC
          rcases Nat.lt_or_ge i d with hid | hid
          · have HDT : Hid (digM c = true) := Lib.hid (by rw [HDG.out]; simpa using hid)
            have x0 : S.extract i (i + 1) = ⟨[c].toArray⟩ := by rw [HS.out]; exact ext_one hc
            have hXs : (S.extract i (i + 1)).size = 1 := by rw [x0]; rfl
            have HCAT : Hid (O ++ S.extract i (i + 1) = ⟨(s.take (i + 1)).toArray⟩) := Lib.hid (by rw [HO.out, x0, ba_append, take_one hc])
            have hno1 : ¬ 9223372036854775807 < O.size + (S.extract i (i + 1)).size := by omega
            clear hdg hcn hc x0
            go_wp2_with (go_at_call 38; refine (HDC.out _).mono ?_; rw [HDT.out]; rintro e w3 ⟨rfl, rfl⟩)
            go_roundw
            case rel => exact ⟨i + 1, by go_num, by rw [HCAT.out], hid, trivial⟩
            case measure => first | (simp [intOf]; done) | (simp [intOf]; omega)
          · have HDT : Hid (digM c = false) := Lib.hid (by rw [HDG.out]; simpa using hid)
            obtain rfl : d = i := by omega
            clear hdg hcn hc
            go_wp2_with (go_at_call 38; refine (HDC.out _).mono ?_; rw [HDT.out]; rintro e w3 ⟨rfl, rfl⟩)
            go_meet
            case rel => exact ⟨rfl, by rw [HO.out, HW.out, ← tw_take digM (Nat.le_of_eq HD.out), List.take_of_length_le (Nat.le_of_eq HD.out.symm)], rfl⟩
        · have hinI : ¬ ((i : Int) < (n : Int)) := by omega
          obtain rfl : d = i := by omega
          go_wp2_with fail
          go_meet
          case rel => exact ⟨rfl, by rw [HO.out, HW.out, ← tw_take digM (Nat.le_of_eq HD.out), List.take_of_length_le (Nat.le_of_eq HD.out.symm)], rfl⟩
    case rest =>
      obtain ⟨rfl, rfl, rfl⟩ := hcut
      obtain ⟨DOT, hDOT⟩ : ∃ DOT : Bool, DOT = decide (∃ c, s[d]? = some c ∧ c.toNat = 46) := ⟨_, rfl⟩
      have HDOT := Lib.hid hDOT
      clear hDOT
      go_upto_region 13 with fail
      go_cut [75] from 66 to 75 (fun v75 wx => v75 = .bool DOT ∧ wx = wc)
      case first =>
        rcases Nat.lt_or_ge d n with hdl | hdl
        · have hdlI : (d : Int) < (n : Int) := by omega
          obtain ⟨c, hc⟩ : ∃ c, s[d]? = some c := ⟨_, List.getElem?_eq_getElem (by have := HN.out; omega)⟩
          have hix := str_ix (s := s) hc
          rw [← HS.out] at hix
          obtain ⟨cn, hcn⟩ : ∃ cn : Nat, cn = c.toNat := ⟨_, rfl⟩
          rw [← hcn] at hix
          have HDV : Hid (DOT = decide (cn = 46)) := Lib.hid (by
            rw [HDOT.out, hcn, decide_eq_decide]
            exact ⟨fun ⟨x, h1, h2⟩ => by rw [hc] at h1; injection h1 with h1; rw [h1]; exact h2, fun h => ⟨c, hc, h⟩⟩)
          clear hc hcn
          by_cases h46 : cn = 46
          · have g46 : ((cn : Int) == 46) = true := by simp; omega
            have HDT : Hid (DOT = true) := Lib.hid (by rw [HDV.out]; simpa using h46)
            clear h46
            go_wp2_with fail
            go_meet
            case rel => exact ⟨by rw [HDT.out], rfl⟩
          · have g46 : ((cn : Int) == 46) = false := by simp; omega
            have HDT : Hid (DOT = false) := Lib.hid (by rw [HDV.out]; simpa using h46)
            clear h46
            go_wp2_with fail
            go_meet
            case rel => exact ⟨by rw [HDT.out], rfl⟩
        · have hdlI : ¬ ((d : Int) < (n : Int)) := by omega
          have HDT : Hid (DOT = false) := Lib.hid (by
            rw [HDOT.out, decide_eq_false_iff_not]
            rintro ⟨c, hc, -⟩
            rw [List.getElem?_eq_none (by have := HN.out; omega)] at hc; cases hc)
          go_wp2_with fail
          go_meet
          case rel => exact ⟨by rw [HDT.out], rfl⟩
      case rest =>
        obtain ⟨rfl, rfl⟩ := hcut
        have hws : (⟨W.toArray⟩ : ByteArray).size = d := by rw [ba_size, HW.out]; exact HD.out.symm
        obtain ⟨WS, hWS⟩ : ∃ WS, WS = (⟨W.toArray⟩ : ByteArray) := ⟨_, rfl⟩
        rw [← hWS] at hws ⊢
        have HWS := Lib.hid hWS
        clear hWS
        obtain ⟨f, hf⟩ : ∃ f, f = F.length := ⟨_, rfl⟩
        rw [← hf] at hpos hFn
        have HFL := Lib.hid hf
        clear hf
        go_upto_if 75 with fail
        go_cut [3, 6] from 76 to 103 (fun v3 v6 wx => v3 = .int .i64 (N : Int) ∧ v6 = .string ⟨F.toArray⟩ ∧ wx = wc)
        case first =>
          cases DOT with
          | false =>
            have HNF : Hid (N = d ∧ F = []) := Lib.hid (by
              rcases HCASE.out with ⟨c, h1, h2, -⟩ | ⟨-, h2, h3⟩
              · have h := HDOT.out
                have hx : (∃ c, s[d]? = some c ∧ c.toNat = 46) := ⟨c, h1, h2⟩
                simp [hx] at h
              · exact ⟨h2, h3⟩)
            go_wp2_with fail
            go_meet
            case rel => exact ⟨by rw [HNF.out.1], by rw [HNF.out.2], rfl⟩
          | true =>
            have HNF : Hid (N = d + 1 + f ∧ F = (s.drop (d + 1)).takeWhile digM) := Lib.hid (by
              rcases HCASE.out with ⟨c, h1, h2, h3, h4⟩ | ⟨h1, -, -⟩
              · exact ⟨by rw [h3, HFL.out], h4⟩
              · have h := (decide_eq_true_iff.1 HDOT.out.symm)
                obtain ⟨c, h2, h3⟩ := h
                exact absurd h3 (h1 c h2))
            have HFD : Hid (f = ((s.drop (d + 1)).takeWhile digM).length) := Lib.hid (by rw [HFL.out, HNF.out.2])
            have hdn1 : d + 1 + f ≤ n := by have := HNF.out.1; omega
            go_wp2_with fail
            go_loopw [6, 7] (fun v6 v7 wz => ∃ k : Nat, v7 = .int .i64 ((d + 1 + k : Nat) : Int) ∧ v6 = .string ⟨((s.drop (d + 1)).take k).toArray⟩ ∧ k ≤ f ∧ wz = wc) (fun _ v7 _ => n + 1 - (intOf v7).toNat)
            case atStart => exact ⟨0, by go_num, by simp, Nat.zero_le _, rfl⟩
            case round =>
              obtain ⟨k, rfl, rfl, hk, rfl⟩ := hrel
              obtain ⟨O, hO⟩ : ∃ O, O = (⟨((s.drop (d + 1)).take k).toArray⟩ : ByteArray) := ⟨_, rfl⟩
              rw [← hO]
              have hos : O.size = k := by rw [hO, ba_size, List.length_take, List.length_drop]; have := HN.out; omega
              have HO := Lib.hid hO
              obtain ⟨i, hi⟩ : ∃ i, i = d + 1 + k := ⟨_, rfl⟩
              rw [← hi]
              have HI := Lib.hid hi
              have hki : k ≤ i := by omega
              have hil : i ≤ d + 1 + f := by omega
              clear hO
              rcases Nat.lt_or_ge i n with hin | hin
              · have hinI : (i : Int) < (n : Int) := by omega
                obtain ⟨c, hc⟩ : ∃ c, s[i]? = some c := ⟨_, List.getElem?_eq_getElem (by have := HN.out; omega)⟩
                have hix := str_ix (s := s) hc
                rw [← HS.out] at hix
                have hcd : (s.drop (d + 1))[k]? = some c := by rw [List.getElem?_drop, ← hi]; exact hc
                have hdg := tw_at digM (s.drop (d + 1)) k c (by rw [← HFD.out]; exact hk) hcd
                rw [← HFD.out] at hdg
                have HDG := Lib.hid hdg
                have HDC := Lib.hid (digit02 c)
                obtain ⟨cn, hcn⟩ : ∃ cn : Nat, cn = c.toNat := ⟨_, rfl⟩
                rw [← hcn] at hix HDC
                rcases Nat.lt_or_ge k f with hid | hid
                · have HDT : Hid (digM c = true) := Lib.hid (by rw [HDG.out]; simpa using hid)
                  have x0 : S.extract i (i + 1) = ⟨[c].toArray⟩ := by rw [HS.out]; exact ext_one hc
                  have hXs : (S.extract i (i + 1)).size = 1 := by rw [x0]; rfl
                  have HCAT : Hid (O ++ S.extract i (i + 1) = ⟨((s.drop (d + 1)).take (k + 1)).toArray⟩) := Lib.hid (by rw [HO.out, x0, ba_append, take_one hcd])
                  have hno1 : ¬ 9223372036854775807 < O.size + (S.extract i (i + 1)).size := by omega
                  clear hdg hcn hc x0 hcd hi
                  go_wp2_with (go_at_call 38; refine (HDC.out _).mono ?_; rw [HDT.out]; rintro e w3 ⟨rfl, rfl⟩)
                  go_roundw
                  case rel => exact ⟨k + 1, by have := HI.out; go_num, by rw [HCAT.out], hid, trivial⟩
                  case measure => first | (simp [intOf]; done) | (simp [intOf]; omega)
                · have HDT : Hid (digM c = false) := Lib.hid (by rw [HDG.out]; simpa using hid)
                  have HKF : Hid (k = f) := Lib.hid (by omega)
                  clear hdg hcn hc hcd hi
                  have HIN : Hid (i = N) := Lib.hid (by have := HI.out; have := HNF.out.1; have := HKF.out; omega)
                  have HOF : Hid (O = ⟨F.toArray⟩) := Lib.hid (by rw [HO.out, HNF.out.2, HKF.out, ← tw_take digM (Nat.le_of_eq HFD.out), List.take_of_length_le (Nat.le_of_eq HFD.out.symm)])
                  have hpk : (0 : Int) < (d : Int) + (k : Int) := by have := HKF.out; omega
                  go_wp2_with (go_at_call 38; refine (HDC.out _).mono ?_; rw [HDT.out]; rintro e w3 ⟨rfl, rfl⟩)
                  go_meet
                  case rel => exact ⟨by rw [HIN.out], by rw [HOF.out], rfl⟩
              · have hinI : ¬ ((i : Int) < (n : Int)) := by omega
                have HKF : Hid (k = f) := Lib.hid (by omega)
                clear hi
                have HIN : Hid (i = N) := Lib.hid (by have := HI.out; have := HNF.out.1; have := HKF.out; omega)
                have HOF : Hid (O = ⟨F.toArray⟩) := Lib.hid (by rw [HO.out, HNF.out.2, HKF.out, ← tw_take digM (Nat.le_of_eq HFD.out), List.take_of_length_le (Nat.le_of_eq HFD.out.symm)])
                have hpk : (0 : Int) < (d : Int) + (k : Int) := by have := HKF.out; omega
                go_wp2_with fail
                go_meet
                case rel => exact ⟨by rw [HIN.out], by rw [HOF.out], rfl⟩
        case rest =>
          obtain ⟨rfl, rfl, rfl⟩ := hcut
          clear HCASE HDOT HD
          obtain ⟨FS, hFS⟩ : ∃ FS, FS = (⟨F.toArray⟩ : ByteArray) := ⟨_, rfl⟩
          have hfs : FS.size = f := by rw [hFS, ba_size]; exact HFL.out.symm
          rw [← hFS]
          have HFS := Lib.hid hFS
          clear hFS
          have hp0 : ¬ ((d : Int) + (f : Int) = 0) := by omega
          have hp1 : ((d : Int) + (f : Int) == 0) = false := by simp; omega
          obtain ⟨DR, hDR⟩ : ∃ DR, DR = digRow s := ⟨_, rfl⟩
          have hdrl : DR.length = 6 + d := by
            rw [hDR]; unfold digRow
            rw [List.length_append, List.length_map, List.length_map, List.length_reverse, List.length_reverse, padM_len, ← HW.out, ← hws, HWS.out, ba_size]
          have hpad : ∀ j, j < 6 → DR[j]? = some (dgt (if 5 - j < f then F.getD (5 - j) 0 else 48)) := by
            intro j hj
            rw [hDR]; unfold digRow
            rw [List.getElem?_append_left (by simp [padM_len]; omega), List.getElem?_map, List.getElem?_reverse (by rw [padM_len]; omega), padM_len, padM_get _ (by omega), ← HF.out, HFL.out]; rfl
          have hwhl : ∀ j c, j < d → W[d - 1 - j]? = some c → DR[6 + j]? = some (dgt c) := by
            intro j c hj hc
            have hWl : W.length = d := by rw [← hws, HWS.out, ba_size]
            rw [hDR]; unfold digRow
            rw [List.getElem?_append_right (by simp [padM_len]), List.getElem?_map, List.length_map, List.length_reverse, padM_len, Nat.add_sub_cancel_left, ← HW.out, List.getElem?_reverse (by omega), hWl, hc]
            rfl
          have HPAD := Lib.hid hpad; have HWHL := Lib.hid hwhl; have HDR := Lib.hid hDR; have HDRL := Lib.hid hdrl
          clear hpad hwhl hDR hdrl
          go_upto_region 24 with fail
          go_loopw [8, 9, 10] (fun v8 v9 v10 wz => ∃ (j : Nat) (A : Option Addr) (c : Nat), v9 = .int .i64 ((5 : Int) - (j : Int)) ∧ j ≤ 6 ∧ v8 = .slice A j c ∧ wz.ownsRow wc.heap.size 3 1 (.slice A j c) j (ints (DR.take j)) ∧ Fr [] wc wz) (fun _ v9 _ _ => (intOf v9 + 1).toNat)
          case atStart => exact ⟨0, none, 0, by go_num, Nat.zero_le _, rfl, own_new _, Fr.refl _ _⟩
          case round =>
            obtain ⟨j, A0, c0, rfl, hj, rfl, hown, hfr⟩ := hrel
            have HOWN := Lib.hid hown; have HFR := Lib.hid hfr
            clear hown hfr
            rcases Nat.lt_or_ge j 6 with hj6 | hj6
            · obtain ⟨k, hk⟩ : ∃ k : Nat, k = 5 - j := ⟨_, rfl⟩
              have hkI : (5 : Int) - (j : Int) = (k : Int) := by omega
              have hge : (0 : Int) ≤ (5 : Int) - (j : Int) := by omega
              have hpj := HPAD.out j hj6
              rw [← hk] at hpj
              obtain ⟨xs, hxs⟩ : ∃ xs, xs = ints (DR.take j) := ⟨_, rfl⟩
              rw [← hxs] at HOWN
              have HXS := Lib.hid hxs
              rw [hkI]
              have HK5 : Hid ((j : Int) = 5 - (k : Int)) := Lib.hid (by omega)
              have hk5b : k ≤ 5 := by omega
              clear hxs hkI hge hk
              rcases Nat.lt_or_ge k f with hkf | hkf
              · have hkfI : (k : Int) < (f : Int) := by omega
                rw [if_pos hkf] at hpj
                obtain ⟨c, hc⟩ : ∃ c, F[k]? = some c := ⟨_, List.getElem?_eq_getElem (by have := HFL.out; omega)⟩
                have hgd : F.getD k 0 = c := by rw [List.getD_eq_getElem?_getD, hc]; rfl
                rw [hgd] at hpj
                have hcd := fracM5_dig (s := s) (x := c) (by rw [← HF.out]; exact List.mem_of_getElem? hc)
                have hix := str_ix (s := F) hc
                rw [← HFS.out] at hix
                obtain ⟨cn, hcn⟩ : ∃ cn : Nat, cn = c.toNat := ⟨_, rfl⟩
                obtain ⟨dn, hdn⟩ : ∃ dn : Nat, dn = dgt c := ⟨_, rfl⟩
                rw [← hcn] at hix
                rw [← hdn] at hpj
                have hcl := digM_iff.1 hcd
                rw [← hcn] at hcl
                have hsub : (cn : Int) - 48 = (dn : Int) := by rw [hdn]; unfold dgt; rw [← hcn]; omega
                have HTK : Hid (DR.take (j + 1) = DR.take j ++ [dn]) := Lib.hid (by rw [List.take_add_one, hpj]; rfl)
                clear hpj hc hgd hcd hcn hdn
                go_wp2_with (at_builtin; refine RR.wpList_append_R rfl (.tmp 124) (.tmp 126) 45 rfl wc.heap.size 3 i0 _ 1 8 Tryd.underlying45 hi0 hz0 hz1 hz2 rfl (by omega) (.slice A0 j c0) j xs (by first | rfl | (simp [Act.eval]; done)) (own_nil HOWN.out ((Fr.refl [] wr).alloc _)) ⟨wr.heap.size, 0, none⟩ 1 1 [.int .i64 (dn : Int)] (by first | rfl | (simp [Act.eval]; done)) rfl (one_new_ wr _ _) (by simp [Value.oneCell']) (by unfold maxLen; omega) (by omega) (by have := HFR.out.size; simp; omega) ?_; intro v' w4 hown4 hgr hat4; obtain ⟨A4, c4, rfl⟩ := own_any5 hown4; have HGR := Lib.hid hgr; have HOWN4 := Lib.hid hown4; clear hown4 hgr hat4)
                go_roundw
                case rel => exact ⟨j + 1, A4, c4, by (have := HK5.out; first | go_num | (congr 1; simp; omega)), by omega, by first | rfl | go_num, by have h := HOWN4.out; rw [HXS.out] at h; rw [HTK.out, ints_app]; exact h, (HFR.out.alloc _).grown HGR.out (fun g hg => .inr (own_base HOWN.out g hg).1)⟩
                case measure => first | (simp [intOf]; done) | (simp [intOf]; omega) | trace_state
              · have hkfI : ¬ ((k : Int) < (f : Int)) := by omega
                rw [if_neg (by omega)] at hpj
                have HTK : Hid (DR.take (j + 1) = DR.take j ++ [0]) := Lib.hid (by rw [List.take_add_one, hpj]; rfl)
                clear hpj
                go_wp2_with (at_builtin; refine RR.wpList_append_R rfl (.tmp 124) (.tmp 126) 45 rfl wc.heap.size 3 i0 _ 1 8 Tryd.underlying45 hi0 hz0 hz1 hz2 rfl (by omega) (.slice A0 j c0) j xs (by first | rfl | (simp [Act.eval]; done)) (own_nil HOWN.out ((Fr.refl [] wr).alloc _)) ⟨wr.heap.size, 0, none⟩ 1 1 [.int .i64 0] (by first | rfl | (simp [Act.eval]; done)) rfl (one_new_ wr _ _) (by simp [Value.oneCell']) (by unfold maxLen; omega) (by omega) (by have := HFR.out.size; simp; omega) ?_; intro v' w4 hown4 hgr hat4; obtain ⟨A4, c4, rfl⟩ := own_any5 hown4; have HGR := Lib.hid hgr; have HOWN4 := Lib.hid hown4; clear hown4 hgr hat4)
                go_roundw
                case rel => exact ⟨j + 1, A4, c4, by (have := HK5.out; first | go_num | (congr 1; simp; omega)), by omega, by first | rfl | go_num, by have h := HOWN4.out; rw [HXS.out] at h; rw [HTK.out, ints_app]; exact h, (HFR.out.alloc _).grown HGR.out (fun g hg => .inr (own_base HOWN.out g hg).1)⟩
                case measure => first | (simp [intOf]; done) | (simp [intOf]; omega) | trace_state
            · obtain ⟨z, hz⟩ : ∃ z : Int, z = (5 : Int) - (j : Int) := ⟨_, rfl⟩
              have hzz : ¬ (0 : Int) ≤ z := by omega
              have HJ6 : Hid (j = 6) := Lib.hid (by omega)
              rw [← hz]
              clear hz
              have hj67 : j ≤ 6 := by omega
              obtain ⟨q0, hq0⟩ : ∃ q0, q0 = j := ⟨_, rfl⟩
              clear hj6 hj
              go_upto_region 31 with fail
              go_loopw [8, 11] (fun v8 v11 wz => ∃ (m q : Nat) (A : Option Addr) (c : Nat), v11 = .int .i64 ((d : Int) - 1 - (m : Int)) ∧ m ≤ d ∧ q = 6 + m ∧ v8 = .slice A q c ∧ wz.ownsRow wc.heap.size 3 1 (.slice A q c) q (ints (DR.take q)) ∧ Fr [] wc wz) (fun _ v11 _ => (intOf v11 + 1).toNat)
              case atStart => exact ⟨0, j, A0, c0, by go_num, Nat.zero_le _, HJ6.out, rfl, HOWN.out, HFR.out⟩
              case round =>
                have HOWN0 := HOWN; have HFR0 := HFR
                clear HOWN HFR
                clear HOWN0 HFR0
                obtain ⟨m, q, A1, c1, rfl, hm, hq, rfl, hown, hfr⟩ := hrel
                have HOWN2 := Lib.hid hown; have HFR2 := Lib.hid hfr
                have HQ := Lib.hid hq
                have hq2 : q ≤ 6 + d := by omega
                clear hown hfr hq
                rcases Nat.lt_or_ge m d with hmd | hmd
                · obtain ⟨k, hk⟩ : ∃ k : Nat, k = d - 1 - m := ⟨_, rfl⟩
                  have hkI : (d : Int) - 1 - (m : Int) = (k : Int) := by omega
                  have hkd : k < d := by omega
                  obtain ⟨c, hc⟩ : ∃ c, W[k]? = some c := ⟨_, List.getElem?_eq_getElem (by rw [HWS.out, ba_size] at hws; omega)⟩
                  have hpj := HWHL.out m c hmd (by rw [← hk]; exact hc)
                  rw [← HQ.out] at hpj
                  obtain ⟨xs, hxs⟩ : ∃ xs, xs = ints (DR.take q) := ⟨_, rfl⟩
                  rw [← hxs] at HOWN2
                  have HXS := Lib.hid hxs
                  rw [hkI]
                  have HKM : Hid ((d : Int) - 1 - (m : Int) = (k : Int)) := Lib.hid hkI
                  have hcd : digM c = true := tw_all5 digM s c (by rw [← HW.out]; exact List.mem_of_getElem? hc)
                  have hix := str_ix (s := W) hc
                  rw [← HWS.out] at hix
                  obtain ⟨cn, hcn⟩ : ∃ cn : Nat, cn = c.toNat := ⟨_, rfl⟩
                  obtain ⟨dn, hdn⟩ : ∃ dn : Nat, dn = dgt c := ⟨_, rfl⟩
                  rw [← hcn] at hix
                  rw [← hdn] at hpj
                  have hcl := digM_iff.1 hcd
                  rw [← hcn] at hcl
                  have hsub : (cn : Int) - 48 = (dn : Int) := by rw [hdn]; unfold dgt; rw [← hcn]; omega
                  have HTK : Hid (DR.take (q + 1) = DR.take q ++ [dn]) := Lib.hid (by rw [List.take_add_one, hpj]; rfl)
                  clear hpj hc hcd hcn hdn hxs hkI hk
                  go_wp2_with (at_builtin; refine RR.wpList_append_R rfl (.tmp 135) (.tmp 141) 45 rfl wc.heap.size 3 i0 _ 1 8 Tryd.underlying45 hi0 hz0 hz1 hz2 rfl (by omega) (.slice A1 q c1) q xs (by first | rfl | (simp [Act.eval]; done)) (own_nil HOWN2.out ((Fr.refl [] wr).alloc _)) ⟨wr.heap.size, 0, none⟩ 1 1 [.int .i64 (dn : Int)] (by first | rfl | (simp [Act.eval]; done)) rfl (one_new_ wr _ _) (by simp [Value.oneCell']) (by unfold maxLen; omega) (by omega) (by have := HFR2.out.size; simp; omega) ?_; intro v' w4 hown4 hgr hat4; obtain ⟨A4, c4, rfl⟩ := own_any5 hown4; have HGR := Lib.hid hgr; have HOWN4 := Lib.hid hown4; clear hown4 hgr hat4)
                  go_roundw
                  case rel => exact ⟨m + 1, q + 1, A4, c4, by (have := HKM.out; first | go_num | (congr 1; simp; omega)), by omega, by have := HQ.out; omega, by first | rfl | go_num, by have h := HOWN4.out; rw [HXS.out] at h; rw [HTK.out, ints_app]; exact h, (HFR2.out.alloc _).grown HGR.out (fun g hg => .inr (own_base HOWN2.out g hg).1)⟩
                  case measure => first | (simp [intOf]; done) | (simp [intOf]; omega)
                · obtain ⟨z2, hz2'⟩ : ∃ z : Int, z = (d : Int) - 1 - (m : Int) := ⟨_, rfl⟩
                  have hzz2 : ¬ (0 : Int) ≤ z2 := by omega
                  rw [← hz2']
                  have HQD : Hid (q = DR.length) := Lib.hid (by rw [HDRL.out]; have := HQ.out; omega)
                  clear hz2' hmd
                  go_upto_block 10 with fail
                  obtain ⟨T, hT⟩ : ∃ T, T = topD DR := ⟨_, rfl⟩
                  have hTq : T ≤ q := by rw [hT, HQD.out]; exact topD_le DR
                  have HT := Lib.hid hT
                  clear hT
                  have HTAK : Hid (DR.take q = DR) := Lib.hid (List.take_of_length_le (Nat.le_of_eq HQD.out.symm))
                  have HAT : Hid (At wr A1 (ints DR)) := Lib.hid (by have h := At.of_own HOWN2.out; rw [HTAK.out] at h; exact h)
                  have hroom := own_room HOWN2.out
                  have HROOM := Lib.hid hroom
                  have hqc := hroom.1
                  clear hroom
                  go_cut [12] from 145 to 157 (fun v12 wx => v12 = .int .i64 (T : Int) ∧ wx = wr)
                  case first =>
                    go_wp2_with fail
                    go_loopw [12] (fun v12 wx => ∃ i : Nat, v12 = .int .i64 (i : Int) ∧ i ≤ q ∧ T ≤ i ∧ topD (DR.take i) = T ∧ wx = wr) (fun v12 _ => (intOf v12).toNat)
                    case atStart => exact ⟨q, rfl, Nat.le_refl _, hTq, by rw [HTAK.out]; exact HT.out.symm, rfl⟩
                    case round =>
                      obtain ⟨i, rfl, hi, hTi, htk, rfl⟩ := hrel
                      have HTK := Lib.hid htk
                      have hstep := topD_take (l := DR) (n := i) (by rw [← HQD.out]; exact hi) (by rw [HTK.out, HT.out])
                      rw [← HT.out] at hstep
                      clear htk
                      by_cases h0 : i = 0
                      · obtain rfl : i = T := by omega
                        have h0I : ¬ (0 : Int) < (i : Int) := by omega
                        clear h0 hstep
                        go_wp2_with fail
                        go_meet
                        case rel => exact ⟨rfl, rfl⟩
                      · have h0I : (0 : Int) < (i : Int) := by omega
                        obtain ⟨k, rfl⟩ : ∃ k, i = k + 1 := ⟨i - 1, by omega⟩
                        rw [Nat.add_sub_cancel] at hstep
                        obtain ⟨x, hx⟩ : ∃ x, DR[k]? = some x := ⟨_, List.getElem?_eq_getElem (by have := HQD.out; omega)⟩
                        rw [List.getD_eq_getElem?_getD, hx] at hstep
                        obtain ⟨ad, rfl, e0⟩ := HAT.out.int_ hx
                        rcases hstep with h1 | ⟨hz1', h2⟩ | ⟨hz1', h2⟩
                        · exact absurd h1 h0
                        · have hx0 : x = 0 := hz1'
                          subst hx0
                          have hTj : T ≤ k := by
                            have := topD_le (DR.take k)
                            rw [h2, List.length_take] at this; omega
                          have H2 := Lib.hid h2
                          clear hz1' h2 hx h0
                          go_wp2_with fail
                          go_roundw
                          case rel => exact ⟨k, by go_num, by omega, hTj, H2.out, trivial⟩
                          case measure => first | (simp [intOf]; done) | (simp [intOf]; omega)
                        · have hx0 : x ≠ 0 := hz1'
                          have hxI : ((x : Int) == 0) = false := by simp; omega
                          have HTKK : Hid (T = k + 1) := Lib.hid h2
                          clear hz1' h2 hx h0 hx0
                          go_wp2_with fail
                          go_meet
                          case rel => exact ⟨by rw [HTKK.out], rfl⟩
                  case rest =>
                    obtain ⟨rfl, rfl⟩ := hcut
                    have hb2 := HB1.out.fr HFR2.out (by simp)
                    have rlt := hb2.lt
                    have rf0 := hb2.frozen 0; have rf1 := hb2.frozen 1; have rf2 := hb2.frozen 2; have rf3 := hb2.frozen 3
                    have rc0 := hb2.cell_ (i := 0) rfl; have rc1 := hb2.cell_ (i := 1) rfl; have rc2 := hb2.cell_ (i := 2) rfl; have rc3 := hb2.cell_ (i := 3) rfl
                    have HFZ := Lib.hid (HF1.out.trans HFR2.out)
                    have hgl : w.heap.size ≤ g := Nat.le_of_eq HG.out.symm
                    have HGL := Lib.hid hgl
                    clear hgl
                    by_cases hT36 : 36 < T
                    · have hTI : (36 : Int) < (T : Int) := by omega
                      go_wp2_with fail
                      have hbb := (((hb2.put 0 (.bool false)).put 1 (.slice none 0 0)).put 2 (.int .i64 (N : Int))).put 3 (.int .i64 2)
                      refine ret_row_ (p := 2) (T := 60) rfl g [.bool false, .slice none 0 0, .int .i64 (N : Int), .int .i64 2] _ rfl hbb Tryd.underlying60 rfl got02_size rfl ?_
                      rw [HPP.out]
                      refine ⟨(((HFZ.out.setCell (.inr HGL.out) _).setCell (.inr HGL.out) _).setCell (.inr HGL.out) _).setCell (.inr HGL.out) _, .inl ⟨by rw [← HDR.out, ← HT.out]; exact hT36, by rw [HNM.out]⟩⟩
                    · have hTI : ¬ ((36 : Int) < (T : Int)) := by omega
                      have HTL : Hid (DR.take T = digs (valD DR)) := Lib.hid (by rw [HT.out]; exact take_topD _ (by rw [HDR.out]; exact digRow_lt s))
                      have HTN : Hid (T = (digs (valD DR)).length) := Lib.hid (by rw [← HTL.out, List.length_take]; have := HQD.out; omega)
                      go_wp2_with (refine wpList_cut rfl 45 (.tmp 166) none (some (.tmp 167)) none rfl 3 i0 Tryd.underlying45 hi0 hz1 A1 q c1 (by first | rfl | (simp [Act.eval]; done)) (ints DR) HAT.out (by rw [ints_len]; exact HQD.out.symm) hqc HROOM.out.2.2 0 T c1 (.inl ⟨rfl, rfl⟩) (.inr (by first | rfl | (simp [Act.eval]; done))) (.inl ⟨rfl, rfl⟩) (by omega) (by omega) (by omega) (by omega) ?_; intro X hX hX0 hXb; have HX := Lib.hid hX; have HXB := Lib.hid hXb; clear hX hX0 hXb)
                      have hbb := (((hb2.put 0 (.bool false)).put 1 (.slice X T c1)).put 2 (.int .i64 (N : Int))).put 3 (.int .i64 0)
                      refine ret_row_ (p := 2) (T := 60) rfl g [.bool false, .slice X T c1, .int .i64 (N : Int), .int .i64 0] _ rfl hbb Tryd.underlying60 rfl got02_size rfl ?_
                      rw [HPP.out]
                      refine ⟨(((HFZ.out.setCell (.inr HGL.out) _).setCell (.inr HGL.out) _).setCell (.inr HGL.out) _).setCell (.inr HGL.out) _, .inr ⟨by rw [← HDR.out, ← HT.out]; omega, X, c1, by rw [← HDR.out, ← HTN.out, HNM.out], by rw [← HDR.out, ← HTN.out]; omega, ?_⟩⟩
                      have hblk : ∀ a, X = some a → a.block ≠ g ∧ ∃ cur, Bk wc a.block 3 cur := by
                        intro a ha
                        obtain ⟨a', h1, h2⟩ := HXB.out a ha
                        obtain ⟨-, cur, hbk⟩ := own_addr HOWN2.out a' h1
                        rw [← h2] at hbk
                        exact ⟨fun e => by rw [e] at hbk; exact absurd rfl (hb2.ne_ hbk (by decide)), cur, hbk⟩
                      rw [← HDR.out, ← HTL.out]
                      have hat : At wc X (ints (DR.take T)) := by have h := HX.out; simpa [ints, List.map_take] using h
                      refine ⟨hat.fr (((((Fr.refl [g] wc).setCell (.inl (by simp)) _).setCell (.inl (by simp)) _).setCell (.inl (by simp)) _).setCell (.inl (by simp)) _) (fun a ha hlt hm => (hblk a ha).1 (List.mem_singleton.1 hm)), fun a ha => ?_⟩
                      obtain ⟨hne, cur, hbk⟩ := hblk a ha
                      exact ⟨cur, (((hbk.far hne _).far hne _).far hne _).far hne _⟩
end Go.Proofs.YtjfgopihfgljmaaDoor
