/-
 Gc5, GcQ, Gc6: several small texts in one. No conditions.
-/
import Derived.Test.YtfbmogccmlikaaaGreatDoorGc4
import Derived.Test.YtfbmogccmlikaaaGreatDoorHc
import Derived.Test.YtfbmogccmlikaaaGreatDoorGm
import Derived.Laws.ResultCell
import Derived.Test.YtfbmogccmlikaaaGreatDoorRows
import Derived.Test.YtfbmogccmlikaaaGreatDoorBase
import Derived.Deep.QuietTactic
import Derived.BigQuiet
import Derived.Test.YtfbmogccmlikaaaGreatDoorHKc
namespace Go.Proofs.YtfbmogccmlikaaaGreatDoor.G
open Go.RowKit
set_option linter.unusedVariables false
set_option linter.unusedSimpArgs false
def ErrT (w : World) : Prop := w.cell? ⟨0, 0, none⟩ = some (.iface 89 (.agg #[.pointer (some ⟨2, 29, none⟩)]))
theorem ErrT.fr {w w' : World} (h : ErrT w) (hf : Fr [] w w') : ErrT w' := (hf.cell (World.block_lt_of_cell? w _ h) (by simp)).trans h
def exprS (rs : List UInt8) : Option Sep := match parseS rs with
 | .error _ => none
 | .ok t => if 4000 ≤ sizP (toP t) then none else if takesS (progT t) [] = true then none else some (.expr (progT t))
def readS (rs : List UInt8) : Option Sep := match rs with
 | [] => some .para
 | [c] => if c = 92 then exprS [92] else some (.one c)
 | a :: b :: r => exprS (a :: b :: r)
def ReadP (w : World) (r : Option Sep) (e : Ending) (w' : World) : Prop := Fr [] w w' ∧ match r with
 | some s => ∃ (k c : Int) (f : Value), e = .returned (.tuple #[.agg #[.int .i64 k, .int .u8 c, f], .nilIface]) ∧ SepV w' k c f s ∧ s.ok
 | none => ∃ t u, e = .returned (.tuple #[.agg #[.int .i64 0, .int .u8 0, .pointer none], .iface t u])
theorem as_any {w : World} {b t : Nat} {p c : Int} {old : Value} (hg : ErrT w) (hb : Bk w b 112 #[.int .i64 p, .iface 52 (.int .i64 c)]) (ht : Bk w t 52 #[old]) :
    Calls Tryz.prog 46 #[.iface 110 (.pointer (some ⟨b, 0, none⟩)), .iface 81 (.pointer (some ⟨t, 0, none⟩))] w fun e w' => e = .returned (.bool true) ∧ Fr [t] w w' := by
 refine (as_errno b ⟨t, 0, none⟩ c old w hg (hb.cell_ (i := 1) rfl) (ht.cell_ rfl) (ht.frozen 0)).mono ?_
 rintro e w' ⟨rfl, rfl⟩
 exact ⟨rfl, (((((Fr.refl [t] w).alloc _).alloc _).alloc _).alloc _).setCell (.inl (by simp)) _⟩
set_option maxRecDepth 100000 in
theorem read_para (w : World) : Calls Tryz.prog 31 #[.string ⟨#[]⟩] w (ReadP w (some .para)) := by
 go_enter Tryz.func31, Tryz.ntmps31
 go_wp2_with fail
 have hb := Bk.new w 62 #[.int .i64 1, .int .u8 0, .pointer none]
 have r0 := hb.cell_ (i := 0) rfl; have r1 := hb.cell_ (i := 1) rfl; have r2 := hb.cell_ (i := 2) rfl
 refine bodyPost_ret (v := .tuple #[.agg #[.int .i64 1, .int .u8 0, .pointer none], .nilIface]) ?_ rfl ⟨(Fr.refl _ _).alloc _, 1, 0, .pointer none, rfl, ⟨rfl, rfl⟩, trivial⟩
 rw [results_cell_tmp rfl]
 clear hb
 generalize w.alloc (.cells #[.int .i64 1, .int .u8 0, .pointer none] 62) = W at *
 go_simp
theorem read_end {wq : World} {r : Nat} {k c : Int} {f : Value} {E : Value} {tmps : Array Value} {R : Ending → World → Prop} (hb : Bk wq r 62 #[.int .i64 k, .int .u8 c, f]) (hp : tmps.getD 2 undef = .pointer (some ⟨r, 0, none⟩)) (hE : tmps.getD 3 undef = E)
    (hR : R (.returned (.tuple #[.agg #[.int .i64 k, .int .u8 c, f], E])) wq) : bodyPost Tryz.prog Tryz.f31 R .ret { tmps := tmps, defers := [] } wq := by
 have r0 := hb.cell_ (i := 0) rfl; have r1 := hb.cell_ (i := 1) rfl; have r2 := hb.cell_ (i := 2) rfl
 refine bodyPost_ret (v := .tuple #[.agg #[.int .i64 k, .int .u8 c, f], E]) ?_ rfl hR
 rw [results_cell_tmp rfl]
 clear hb
 rw [← hE]
 have hp' : tmps[2]?.getD undef = .pointer (some ⟨r, 0, none⟩) := by simpa using hp
 go_simp
 all_goals first | done | rfl
theorem new_cases {w w' : World} {rs : List UInt8} {e : Ending} (h : NewPost w (parseS rs) e w') :
    (exprS rs = none ∧ ∃ b p c, e = .returned (.tuple #[.pointer none, .iface 110 (.pointer (some ⟨b, 0, none⟩))]) ∧ Bk w' b 112 #[.int .i64 p, .iface 52 (.int .i64 c)]) ∨
    (∃ L lo fb, exprS rs = (if takesS L [] = true then none else some (.expr L)) ∧ e = .returned (.tuple #[.pointer (some ⟨fb, 0, none⟩), .nilIface]) ∧ FinderAt w' lo fb L ∧ ProgOk L ∧ 0 < L.length ∧ L.length ≤ 5000) := by
 obtain ⟨-, hp⟩ := h
 unfold exprS
 cases hpr : parseS rs with
 | error q =>
  obtain ⟨p, code⟩ := q
  rw [hpr] at hp
  obtain ⟨v, he, b, rfl, hb⟩ := hp
  exact .inl ⟨rfl, b, _, _, he, hb⟩
 | ok t =>
  rw [hpr] at hp
  dsimp only at hp ⊢
  by_cases h4 : 4000 ≤ sizP (toP t)
  ·rw [if_pos h4] at hp
   obtain ⟨v, he, b, rfl, hb⟩ := hp
   rw [if_pos h4]
   exact .inl ⟨rfl, b, _, _, he, hb⟩
  ·rw [if_neg h4] at hp
   obtain ⟨fb, he, -, hfa⟩ := hp
   obtain ⟨q1, q2, q3, -, -⟩ := parse_prog hpr
   rw [if_neg h4]
   exact .inr ⟨progT t, _, fb, rfl, he, hfa, q1, q2, by omega⟩
theorem finder_off {w w' : World} {lo fb : Nat} {L : List Sp} {l : List Nat} (h : FinderAt w lo fb L) (hf : Fr l w w') (hl : ∀ b ∈ l, ∃ t cs, Bk w b t cs ∧ t ≠ 114 ∧ t ≠ 150) : FinderAt w' lo fb L := by
 obtain ⟨A, cap, hb, hr⟩ := h
 refine ⟨A, cap, hb.fr hf (fun hm => ?_), own_fr hr hf (fun b hk hm => ?_)⟩
 ·obtain ⟨t, cs, h1, h2, -⟩ := hl _ hm
  exact h1.ne_ hb h2 rfl
 ·obtain ⟨t, cs, h1, -, h3⟩ := hl _ hm
  obtain ⟨-, cur, hc⟩ := own_base hr b hk
  exact h1.ne_ hc h3 rfl
set_option maxRecDepth 100000 in
set_option maxHeartbeats 8000000 in
theorem read_expr {w : World} (rs : List UInt8) (hne : rs ≠ []) (hx : rs.length ≠ 1 ∨ rs = [92]) (hl : rs.length ≤ 12) (hg : GlobOk w) (ht : ErrT w) :
    Calls Tryz.prog 31 #[.string ⟨rs.toArray⟩] w (ReadP w (exprS rs)) := by
 obtain ⟨PP, hPP⟩ : ∃ PP, PP = ReadP w (exprS rs) := ⟨_, rfl⟩
 rw [← hPP]
 obtain ⟨S, hS⟩ : ∃ S, S = (⟨rs.toArray⟩ : ByteArray) := ⟨_, rfl⟩
 obtain ⟨n, hn⟩ : ∃ n, n = rs.length := ⟨_, rfl⟩
 have hs1 : S.size = n := by rw [hS, hn]; simp [ByteArray.size]
 have hs2 : S.data.toList = rs := by rw [hS]
 have t0 : (S.data.toList == ([] : List UInt8)) = false := by rw [hs2]; simpa using hne
 have t0' : (S.toList == ([] : List UInt8)) = false := by
  have : S.toList = rs := by rw [hS]; simp
  rw [this]; simpa using hne
 have t0'' : S.toList.isEmpty = false := by
  have : S.toList = rs := by rw [hS]; simp
  rw [this]; cases rs with
  | nil => exact absurd rfl hne
  | cons => rfl
 have hn0 : 0 < n := by rw [hn]; exact List.length_pos_iff.2 hne
 have i0 : n = 1 → ∀ W, (Instr.index 9 (.string S) (.int .i64 0)).run Tryz.prog W = .ok (.int .u8 92) W := fun h1 W => by
  rcases hx with h2 | h2
  ·exact absurd (hn ▸ h1) h2
  ·rw [hS, h2]; kernel_rfl
 rw [← hS]
 rw [← hn] at hl
 have HP := Lib.hid hPP; have HG := Lib.hid hg; have HT := Lib.hid ht; have HS := Lib.hid hs2; have HN := Lib.hid hn; have HS1 := Lib.hid hs1
 clear hPP hg ht hS hs2 hn hne hx
 go_enter Tryz.func31, Tryz.ntmps31
 go_upto_region 1 with fail
 obtain ⟨r, hr⟩ : ∃ r, r = w.heap.size := ⟨_, rfl⟩
 obtain ⟨w1, hw1⟩ : ∃ w1, w1 = w.alloc (.cells #[.int .i64 0, .int .u8 0, .pointer none] 62) := ⟨_, rfl⟩
 have hb1 : Bk w1 r 62 #[.int .i64 0, .int .u8 0, .pointer none] := by rw [hw1, hr]; exact Bk.new w _ _
 have hf1 : Fr [] w w1 := by rw [hw1]; exact (Fr.refl [] w).alloc _
 have hrw : w.heap.size ≤ r := by omega
 rw [← hw1, ← hr]
 have HB1 := Lib.hid hb1; have HF1 := Lib.hid hf1; have HRW := Lib.hid hrw
 clear hw1 hr hb1 hf1 hrw
 go_upto_region 3 with fail
 have HNW : Hid (∀ W A c, Fr [] w W → Bytes W A rs → S.size ≤ c → c ≤ maxLen → (A = none → c = 0) → Calls Tryz.prog 45 #[.slice A S.size c] W (NewPost W (parseS rs))) := Lib.hid (fun W A c hW hB hc hcm hA => by
  have e : S.size = rs.length := by rw [HS1.out, HN.out]
  have hl12 : rs.length ≤ 150 := by rw [← HN.out]; omega
  rw [e] at hc ⊢
  exact new_any hB hl12 hc hA hcm (HG.out.fr hW))
 have hsz : S.size ≤ maxLen := by rw [hs1]; unfold maxLen; omega
 by_cases h1 : n = 1
 case' pos =>
  have t1 : ((n : Int) == 1) = true := by simp [h1]
  have t1' : ((S.size : Int) == 1) = true := by rw [hs1]; exact t1
  have i1 := i0 h1
  clear i0 h1 hs1
  go_upto_region 5 with fail
  clear i1 t1 t1'
 case' neg =>
  have t1 : ((n : Int) == 1) = false := by rw [beq_eq_false_iff_ne]; omega
  have t1' : ((S.size : Int) == 1) = false := by rw [hs1]; exact t1
  clear i0 h1 hs1
  go_upto_region 5 with fail
  clear t1 t1'
 all_goals
  go_upto_region 6 with (first
   | (refine wpList_bytes rfl 9 34 (.tmp 22) rfl 5 Tryz.underlying9 Tryz.underlying34 Tryz.underlying5 S (by rfl) hsz ?_; intro A2 cc2 w2 hat hge hle hA2 hfr; have HAT : Hid (Bytes w2 A2 rs) := Lib.hid (by rw [HS.out] at hat; exact hat); have HF2 := Lib.hid (HF1.out.trans hfr); have HB2 := Lib.hid (HB1.out.fr hfr (by simp)); have HNX := Lib.hid (HNW.out w2 A2 cc2 HF2.out HAT.out hge hle (by rw [hA2]; simp)); clear hat hge hle hA2 hfr)
   | (go_at_call 45; refine HNX.out.mono ?_; rintro e w3 hp; have HF3 := Lib.hid (HF2.out.trans hp.1); have HB3 := Lib.hid (HB2.out.fr hp.1 (by simp)); rcases new_cases hp with ⟨hx, b, p, c, rfl, hb⟩ | ⟨L, lo, fb, hx, rfl, hfa, o1, o2, o3⟩ <;> (clear hp; have HX := Lib.hid hx; clear hx) <;> first | (have HFB := Lib.hid hb; clear hb) | (have HFA := Lib.hid hfa; have HO := Lib.hid (And.intro o1 (And.intro o2 o3)); clear hfa o1 o2 o3)))
  ·go_upto_region 8 with fail
   obtain ⟨t, hgt⟩ : ∃ t, t = w3.heap.size := ⟨_, rfl⟩
   obtain ⟨w4, hw4⟩ : ∃ w4, w4 = w3.alloc (.cells #[.int .i64 0] 52) := ⟨_, rfl⟩
   have hbt : Bk w4 t 52 #[.int .i64 0] := by rw [hw4, hgt]; exact Bk.new _ _ _
   have hf4 : Fr [] w3 w4 := by rw [hw4]; exact (Fr.refl [] w3).alloc _
   rw [← hw4, ← hgt]
   have hrt : r ≠ t := HB3.out.lt |> fun h => by omega
   have HAS := Lib.hid (as_any (HT.out.fr (HF3.out.trans hf4)) (HFB.out.fr hf4 (by simp)) hbt)
   have htw : w.heap.size ≤ t := by have := HF3.out.size; omega
   have HB4 := Lib.hid (HB3.out.fr hf4 (by simp)); have HF4 := Lib.hid (HF3.out.trans hf4); have HRT := Lib.hid hrt; have HTW := Lib.hid htw
   clear hw4 hgt hbt hf4 hrt htw
   go_upto_region 10 with (go_at_call 46; refine HAS.out.mono ?_; rintro e w5 ⟨rfl, hf5⟩; have hb5 := HB4.out.fr hf5 (by simpa using HRT.out); have HB5 := Lib.hid hb5; have HF5 := Lib.hid (HF4.out.trans' hf5 (by simp; exact HTW.out)); have d0 := hb5.cell_ (i := 0) rfl; have d1 := hb5.cell_ (i := 1) rfl; have d2 := hb5.cell_ (i := 2) rfl; have f0 := hb5.frozen 0; have f1 := hb5.frozen 1; have f2 := hb5.frozen 2; clear hf5 hb5)
   go_wp2_with fail
   refine read_end (((HB5.out.put 0 (.int .i64 0)).put 1 (.int .u8 0)).put 2 (.pointer none)) (by rfl) (by rfl) ?_
   rw [HP.out, HX.out]
   exact ⟨((HF5.out.setCell (.inr HRW.out) _).setCell (.inr HRW.out) _).setCell (.inr HRW.out) _, _, _, rfl⟩
  ·have HTK : Hid (Calls Tryz.prog 47 #[.pointer (some ⟨fb, 0, none⟩), .slice none 0 0] w3 fun e w' => e = .returned (.bool (takesS L [])) ∧ Fr [] w3 w') := Lib.hid (Takes_any (tx := []) (c2 := 0) HFA.out (.inl rfl) (by simp) (by simp) HO.out.2.1 HO.out.2.2 HO.out.1 (by simp))
   obtain ⟨tk, htk⟩ : ∃ tk, tk = takesS L [] := ⟨_, rfl⟩
   rw [← htk] at HTK HX
   have HTK2 := Lib.hid htk
   clear htk
   cases tk with
   | true =>
    go_upto_region 12 with (go_at_call 47; refine HTK.out.mono ?_; rintro e w5 ⟨rfl, hf5⟩; have hb5 := HB3.out.fr hf5 (by simp); have HB5 := Lib.hid hb5; have HF5 := Lib.hid (HF3.out.trans hf5); have d0 := hb5.cell_ (i := 0) rfl; have d1 := hb5.cell_ (i := 1) rfl; have d2 := hb5.cell_ (i := 2) rfl; have f0 := hb5.frozen 0; have f1 := hb5.frozen 1; have f2 := hb5.frozen 2; clear hf5 hb5)
    go_wp2_with fail
    refine read_end (((HB5.out.put 0 (.int .i64 0)).put 1 (.int .u8 0)).put 2 (.pointer none)) (by rfl) (by rfl) ?_
    rw [HP.out, HX.out, if_pos (by trivial)]
    exact ⟨((HF5.out.setCell (.inr HRW.out) _).setCell (.inr HRW.out) _).setCell (.inr HRW.out) _, _, _, rfl⟩
   | false =>
    go_upto_region 13 with (go_at_call 47; refine HTK.out.mono ?_; rintro e w5 ⟨rfl, hf5⟩; have hb5 := HB3.out.fr hf5 (by simp); have HB5 := Lib.hid hb5; have HF5 := Lib.hid (HF3.out.trans hf5); have HFA5 := Lib.hid (finder_fr HFA.out hf5); have d0 := hb5.cell_ (i := 0) rfl; have d1 := hb5.cell_ (i := 1) rfl; have d2 := hb5.cell_ (i := 2) rfl; have f0 := hb5.frozen 0; have f1 := hb5.frozen 1; have f2 := hb5.frozen 2; clear hf5 hb5)
    go_wp2_with fail
    refine read_end (((HB5.out.put 0 (.int .i64 2)).put 1 (.int .u8 0)).put 2 (.pointer (some ⟨fb, 0, none⟩))) (by rfl) (by rfl) ?_
    rw [HP.out, HX.out, if_neg (by simp)]
    refine ⟨((HF5.out.setCell (.inr HRW.out) _).setCell (.inr HRW.out) _).setCell (.inr HRW.out) _, 2, 0, _, rfl, ⟨rfl, lo, fb, rfl, ?_, HO.out.2.2⟩, HO.out.1, HO.out.2.1, HTK2.out.symm⟩
    have hs : Fr [r] w5 (((w5.setCell ⟨r, 0, none⟩ (.int .i64 2)).setCell ⟨r, 1, none⟩ (.int .u8 0)).setCell ⟨r, 2, none⟩ (.pointer (some ⟨fb, 0, none⟩))) := (((Fr.refl [r] w5).setCell (.inl (by simp)) _).setCell (.inl (by simp)) _).setCell (.inl (by simp)) _
    exact finder_off HFA5.out hs (fun b hb => by obtain rfl : b = r := by simpa using hb
                                                 exact ⟨_, _, HB5.out, by decide, by decide⟩)
theorem read_any {w : World} (rs : List UInt8) (hl : rs.length ≤ 12) (hg : GlobOk w) (ht : ErrT w) : Calls Tryz.prog 31 #[.string ⟨rs.toArray⟩] w (ReadP w (readS rs)) := by
 match rs, hl with
 | [], _ => exact read_para w
 | [c], hl =>
  show Calls _ _ _ _ (ReadP w (if c = 92 then exprS [92] else some (.one c)))
  by_cases h : c = 92
  ·subst h
   rw [if_pos rfl]
   exact read_expr [92] (by simp) (.inr rfl) hl hg ht
  ·rw [if_neg h]
   refine (K.read_one c h).mono ?_
   rintro e w' ⟨rfl, hf⟩
   exact ⟨hf, 0, _, _, rfl, ⟨rfl, rfl, rfl⟩, trivial⟩
 | a :: b :: r, hl => exact read_expr (a :: b :: r) (by simp) (.inl (by simp)) hl hg ht
end Go.Proofs.YtfbmogccmlikaaaGreatDoor.G
namespace Go.Proofs.YtfbmogccmlikaaaGreatDoor.GQ
open Go.RowKit
set_option linter.unusedVariables false
set_option linter.unusedSimpArgs false
set_option maxRecDepth 100000
def qCells (lo hi room : Int) (A : Option Addr) (n c : Nat) (ab : Bool) (qu go : Int) : Array Value :=
 #[.int .i64 lo, .int .i64 hi, .int .i64 room, .slice A n c, .bool ab, .int .i64 qu, .int .i64 go]
theorem que_cells {w : World} {q : Nat} {lo hi room : Int} {A : Option Addr} {n c : Nat} {ab : Bool} {qu go : Int} (h : Bk w q 70 (qCells lo hi room A n c ab qu go)) :
    w.cell? ⟨q, 0, none⟩ = some (.int .i64 lo) ∧ w.cell? ⟨q, 1, none⟩ = some (.int .i64 hi) ∧ w.cell? ⟨q, 2, none⟩ = some (.int .i64 room) ∧ w.cell? ⟨q, 3, none⟩ = some (.slice A n c) ∧
     w.cell? ⟨q, 4, none⟩ = some (.bool ab) ∧ w.cell? ⟨q, 5, none⟩ = some (.int .i64 qu) ∧ w.cell? ⟨q, 6, none⟩ = some (.int .i64 go) :=
 ⟨h.cell_ rfl, h.cell_ rfl, h.cell_ rfl, h.cell_ rfl, h.cell_ rfl, h.cell_ rfl, h.cell_ rfl⟩
def Que (w : World) (N : Nat → Prop) (q : Nat) (lo hi room : Int) (bs : List UInt8) (ab : Bool) (qu go : Int) : Prop :=
 ∃ A c, Bk w q 70 (qCells lo hi room A bs.length c ab qu go) ∧ Bytes w A bs ∧ bs.length ≤ c ∧ c ≤ maxLen ∧ (A = none → c = 0) ∧ (∀ a, A = some a → a.block ≠ q) ∧ (bs ≠ [] → ∀ a, A = some a → N a.block)
theorem Que.weaken {w : World} {N N' : Nat → Prop} {q : Nat} {lo hi room : Int} {bs : List UInt8} {ab : Bool} {qu go : Int} (h : Que w N q lo hi room bs ab qu go) (hN : ∀ b, b < w.heap.size → N b → N' b) : Que w N' q lo hi room bs ab qu go := by
 obtain ⟨A, c, h1, h2, h3, h4, h5, h6, h7⟩ := h
 refine ⟨A, c, h1, h2, h3, h4, h5, h6, fun h0 a ha => hN _ ?_ (h7 h0 a ha)⟩
 rcases h2 with h2 | ⟨a', ha', hlt, -⟩
 ·exact absurd (List.eq_nil_of_length_eq_zero (by rw [← byteVals_length, h2]; rfl)) h0
 ·rw [ha'] at ha; injection ha with ha; rw [← ha]; exact hlt
theorem Que.fr_nil {w w' : World} {N : Nat → Prop} {q : Nat} {lo hi room : Int} {bs : List UInt8} {ab : Bool} {qu go : Int} (h : Que w N q lo hi room bs ab qu go) (hf : Fr [] w w') : Que w' N q lo hi room bs ab qu go := by
 obtain ⟨A, c, h1, h2, h3, h4, h5, h6, h7⟩ := h
 exact ⟨A, c, h1.fr hf (by simp), At.fr_nil h2 hf, h3, h4, h5, h6, h7⟩
theorem Que.off {w w' : World} {N : Nat → Prop} {q : Nat} {lo hi room : Int} {bs : List UInt8} {ab : Bool} {qu go : Int} {l : List Nat} (h : Que w N q lo hi room bs ab qu go) (hf : Fr l w w') (hq : q ∉ l) (hl : ∀ b, N b → b ∉ l) : Que w' N q lo hi room bs ab qu go := by
 obtain ⟨A, c, h1, h2, h3, h4, h5, h6, h7⟩ := h
 refine ⟨A, c, h1.fr hf hq, ?_, h3, h4, h5, h6, h7⟩
 by_cases h0 : bs = []
 ·subst h0; exact .inl rfl
 ·exact At.fr h2 hf (fun a ha _ => hl _ (h7 h0 a ha))
theorem new_no (lo hi room : Int) (w : World) (h : lo < 0 ∨ hi ≤ lo ∨ room < hi ∨ 65536 < room) :
    Calls Tryz.prog 22 #[.int .i64 lo, .int .i64 hi, .int .i64 room] w fun e w' => e = .returned (.pointer none) ∧ w = w' := by
 by_cases h1 : lo < 0
 ·go_enter Tryz.func22, Tryz.ntmps22
  go_wp2
  go_ret
  exact ⟨rfl, rfl⟩
 by_cases h2 : hi ≤ lo
 ·go_enter Tryz.func22, Tryz.ntmps22
  go_wp2
  go_ret
  exact ⟨rfl, rfl⟩
 by_cases h3 : room < hi
 ·go_enter Tryz.func22, Tryz.ntmps22
  go_wp2
  go_ret
  exact ⟨rfl, rfl⟩
 have h4 : 65536 < room := by omega
 go_enter Tryz.func22, Tryz.ntmps22
 go_wp2
 go_ret
 exact ⟨rfl, rfl⟩
theorem new_yes (lo hi room : Int) (w : World) (h1 : ¬ lo < 0) (h2 : ¬ hi ≤ lo) (h3 : ¬ room < hi) (h4 : ¬ 65536 < room) :
    Calls Tryz.prog 22 #[.int .i64 lo, .int .i64 hi, .int .i64 room] w fun e w' =>
     e = .returned (.pointer (some ⟨w.heap.size, 0, none⟩)) ∧ w' = w.alloc (.cells (qCells lo hi room none 0 0 false 0 0) 70) := by
 go_enter Tryz.func22, Tryz.ntmps22
 go_wp2
 go_ret
 exact ⟨rfl, rfl⟩
theorem held_any {N : Nat → Prop} {q : Nat} {lo hi room : Int} {bs : List UInt8} {ab : Bool} {qu go : Int} {w : World} (h : Que w N q lo hi room bs ab qu go) :
    Calls Tryz.prog 39 #[.pointer (some ⟨q, 0, none⟩)] w fun e w' => e = .returned (.int .i64 bs.length) ∧ w = w' := by
 obtain ⟨A, c, hb, -, -, -, -, -, -⟩ := h
 obtain ⟨-, -, -, h3, -, -, -⟩ := que_cells hb
 clear hb
 go_enter Tryz.func39, Tryz.ntmps39
 go_wp2
 go_ret
 exact ⟨rfl, rfl⟩
theorem above_any {N : Nat → Prop} {q : Nat} {lo hi room : Int} {bs : List UInt8} {ab : Bool} {qu go : Int} {w : World} (h : Que w N q lo hi room bs ab qu go) :
    Calls Tryz.prog 28 #[.pointer (some ⟨q, 0, none⟩)] w fun e w' => e = .returned (.bool ab) ∧ w = w' := by
 obtain ⟨A, c, hb, -, -, -, -, -, -⟩ := h
 obtain ⟨-, -, -, -, h3, -, -⟩ := que_cells hb
 clear hb
 go_enter Tryz.func28, Tryz.ntmps28
 go_wp2
 go_ret
 exact ⟨rfl, rfl⟩
def markB (lo hi : Int) (n : Nat) (ab : Bool) : Bool := if hi ≤ n then true else if (n : Int) ≤ lo then false else ab
theorem mark_any {N : Nat → Prop} {q : Nat} {lo hi room : Int} {bs : List UInt8} {ab : Bool} {qu go : Int} {w : World} (h : Que w N q lo hi room bs ab qu go) :
    Calls Tryz.prog 52 #[.pointer (some ⟨q, 0, none⟩)] w fun e w' => e = .returned (.tuple #[]) ∧ Que w' N q lo hi room bs (markB lo hi bs.length ab) qu go ∧ Fr [q] w w' := by
 obtain ⟨A, c, hb, hby, hlc, hc, hA, hne, hnn⟩ := h
 obtain ⟨h0, h1, -, h3, h4, -, -⟩ := que_cells hb
 have hf := hb.frozen 4
 have fin : ∀ (x : Bool) (n : Nat), Que ((w.drewN n).setCell ⟨q, 4, none⟩ (.bool x)) N q lo hi room bs x qu go ∧ Fr [q] w ((w.drewN n).setCell ⟨q, 4, none⟩ (.bool x)) := fun x n =>
  have hfr : Fr [q] w ((w.drewN n).setCell ⟨q, 4, none⟩ (.bool x)) := ((Fr.refl _ _).drewN n).setCell (.inl (by simp)) _
  ⟨⟨A, c, (hb.drewN n).put 4 _, At.fr hby hfr (fun a ha _ => by simpa using hne a ha), hlc, hc, hA, hne, hnn⟩, hfr⟩
 have fin0 : ∀ (n : Nat), Que (w.drewN n) N q lo hi room bs ab qu go ∧ Fr [q] w (w.drewN n) := fun n =>
  ⟨⟨A, c, hb, hby, hlc, hc, hA, hne, hnn⟩, (Fr.refl _ _).drewN n⟩
 clear hnn
 generalize hn : bs.length = n at *
 have HB := Lib.hid hb; clear hb
 have FI := Lib.hid fin; clear fin
 have FI0 := Lib.hid fin0; clear fin0
 clear hby hne hA hn
 unfold maxLen at hc
 by_cases h5 : hi ≤ (n : Int)
 ·have hm : markB lo hi n ab = true := by unfold markB; rw [if_pos h5]
  rw [hm]
  go_enter Tryz.func52, Tryz.ntmps52
  go_wp2
  go_quiet (fail)
  go_wp2
  go_end0
  exact ⟨rfl, FI.out _ _⟩
 ·by_cases h6 : (n : Int) ≤ lo
  ·have hm : markB lo hi n ab = false := by unfold markB; rw [if_neg h5, if_pos h6]
   rw [hm]
   go_enter Tryz.func52, Tryz.ntmps52
   go_wp2
   go_quiet (fail)
   go_wp2
   go_quiet (fail)
   go_wp2
   go_end0
   exact ⟨rfl, FI.out _ _⟩
  ·have hm : markB lo hi n ab = ab := by unfold markB; rw [if_neg h5, if_neg h6]
   rw [hm]
   go_enter Tryz.func52, Tryz.ntmps52
   go_wp2
   go_quiet (fail)
   go_wp2
   go_quiet (fail)
   go_wp2
   go_end0
   exact ⟨rfl, by rw [World.drewN_drewN]; exact FI0.out _⟩
theorem u8parts : ∃ i, Tryz.prog.info? 5 = some i ∧ i.zero = some (.int .u8 0) ∧ i.size = 1 ∧ i.bytes = 1 := info_parts (by kernel_rfl)
theorem clear_any {N : Nat → Prop} {q : Nat} {lo hi room : Int} {bs : List UInt8} {ab : Bool} {qu go : Int} {w : World} (h : Que w N q lo hi room bs ab qu go) :
    Calls Tryz.prog 37 #[.pointer (some ⟨q, 0, none⟩)] w fun e w' => e = .returned (.tuple #[]) ∧ Que w' N q lo hi room [] (markB lo hi 0 ab) qu go ∧ Fr [q] w w' := by
 obtain ⟨A, c, hb, hby, hlc, hc, hA, hne, hnn⟩ := h
 obtain ⟨-, -, -, h3, -, -, -⟩ := que_cells hb
 have hf := hb.frozen 3
 have hfr : Fr [q] w (w.setCell ⟨q, 3, none⟩ (.slice none 0 0)) := (Fr.refl _ _).setCell (.inl (by simp)) _
 have hq : Que (w.setCell ⟨q, 3, none⟩ (.slice none 0 0)) N q lo hi room [] ab qu go := ⟨none, 0, hb.put 3 _, At.nil_ _ _, by simp, by simp, by simp, by simp, by simp⟩
 have HB := Lib.hid hb; clear hb
 have HF := Lib.hid hfr; clear hfr
 have HQ := Lib.hid hq; clear hq
 clear hby hne hA hnn
 go_enter Tryz.func37, Tryz.ntmps37
 go_wp2_with (go_at_call 52; refine (mark_any HQ.out).mono ?_; rintro e w' ⟨rfl, hq', hf'⟩)
 go_end0
 exact ⟨rfl, hq', HF.out.trans hf'⟩
theorem put_no {N : Nat → Prop} {q : Nat} {lo hi room : Int} {bs : List UInt8} {ab : Bool} {qu go : Int} {w : World} (h : Que w N q lo hi room bs ab qu go) (hr : room ≤ 65536) (hr0 : 0 ≤ room)
    (A : Option Addr) (n c : Nat) (hn : n ≤ maxLen) (hl : room - bs.length < n) :
    Calls Tryz.prog 34 #[.pointer (some ⟨q, 0, none⟩), .slice A n c] w fun e w' => e = .returned (.iface 52 (.int .i64 17)) ∧ ∃ k, w' = w.drewN k := by
 obtain ⟨A', c', hb, hby, hlc, hc, hA, hne, hnn⟩ := h
 obtain ⟨-, -, h2, h3, -, -, -⟩ := que_cells hb
 unfold maxLen at hc hn
 clear hby hne hA hb hnn
 generalize hk : bs.length = k at *
 clear hk
 go_enter Tryz.func34, Tryz.ntmps34
 go_wp2
 go_quiet (fail)
 go_wp2
 go_ret
 exact ⟨rfl, _, rfl⟩
theorem put_yes {N : Nat → Prop} {q : Nat} {lo hi room : Int} {bs xs : List UInt8} {ab : Bool} {qu go : Int} {w : World} (h : Que w N q lo hi room bs ab qu go) (hr : room ≤ 65536)
    (A : Option Addr) (c : Nat) (hx : Bytes w A xs) (hl : xs.length ≤ room - bs.length) (hq0 : 0 ≤ qu) (hq1 : qu ≤ 1000000000000000) (hN : N w.heap.size) :
    Calls Tryz.prog 34 #[.pointer (some ⟨q, 0, none⟩), .slice A xs.length c] w fun e w' => e = .returned .nilIface ∧
     Que w' N q lo hi room (bs ++ xs) (markB lo hi (bs ++ xs).length ab) (qu + xs.length) go ∧ Fr [q] w w' := by
 obtain ⟨A', c', hb, hby, hlc, hc, hA, hne, hnn⟩ := h
 obtain ⟨-, -, h2, h3, -, h5, -⟩ := que_cells hb
 have hf3 := hb.frozen 3
 have hf5 := hb.frozen 5
 unfold maxLen at hc
 have HB := Lib.hid hb; clear hb
 have HBY := Lib.hid hby; clear hby
 have HNE := Lib.hid hne; clear hne
 have HNN := Lib.hid hnn; clear hnn
 have HHN := Lib.hid hN; clear hN
 have HA := Lib.hid hA; clear hA
 have HX := Lib.hid hx; clear hx
 go_enter Tryz.func34, Tryz.ntmps34
 go_wp2
 go_quiet (fail)
 obtain ⟨i0, hi0, hz0, hz1, hz2⟩ := u8parts
 have hm : bs.length + xs.length ≤ 65536 := by omega
 go_wp2_with (at_builtin; refine wpList_append_full rfl (.tmp 32) (.tmp 33) 34 rfl 5 i0 _ Tryz.underlying34 hi0 hz0 hz1 rfl A' A bs.length xs.length c (by simp [Act.eval]) (by simp [Act.eval]) (byteVals bs) (byteVals xs) HBY.out (byteVals_length _) HX.out (byteVals_length _) (fun h => by have := HA.out h; omega) (by rw [hz2]; omega) (by unfold maxLen; omega) ?_)
 intro A1 c1 w1 hat hle hmx hnil hfr hwh
 rw [← byteVals_append] at hat
 have hb1 : Bk w1 q 70 _ := (HB.out.drewN nq).fr hfr (by simp)
 have hlt : q < w1.heap.size := hb1.lt
 obtain ⟨-, -, -, g3, -, g5, -⟩ := que_cells hb1
 have gf3 := hb1.frozen 3
 have gf5 := hb1.frozen 5
 have hne1 : ∀ a, A1 = some a → a.block ≠ q := by
  intro a ha
  rcases hwh with ⟨-, h⟩ | h
  ·exact HNE.out a (by rw [← h]; exact ha)
  ·rw [h] at ha; injection ha with ha; subst ha
   have : q < w.heap.size := HB.out.lt
   simp; omega
 have hnn1 : bs ++ xs ≠ [] → ∀ a, A1 = some a → N a.block := by
  intro hne0 a ha
  rcases hwh with ⟨hm0, h⟩ | h
  ·have hx0 : xs = [] := by first | exact hm0 | exact List.eq_nil_of_length_eq_zero hm0
   rw [hx0, List.append_nil] at hne0
   exact HNN.out hne0 a (by rw [← h]; exact ha)
  ·rw [h] at ha; injection ha with ha; subst ha
   exact HHN.out
 have hq2 : Que ((w1.setCell ⟨q, 3, none⟩ (.slice A1 (bs.length + xs.length) c1)).setCell ⟨q, 5, none⟩ (.int .i64 (qu + xs.length))) N q lo hi room (bs ++ xs) ab (qu + xs.length) go := by
  refine ⟨A1, c1, ?_, ?_, by simpa using hle, hmx, hnil, hne1, hnn1⟩
  ·have := (hb1.put 3 (.slice A1 (bs.length + xs.length) c1)).put 5 (.int .i64 (qu + xs.length))
   rw [List.length_append]; exact this
  ·exact At.fr hat ((((Fr.refl [q] w1).setCell (.inl (by simp)) _).setCell (.inl (by simp)) _)) (fun a ha _ => by simpa using hne1 a ha)
 have hf2 : Fr [q] w ((w1.setCell ⟨q, 3, none⟩ (.slice A1 (bs.length + xs.length) c1)).setCell ⟨q, 5, none⟩ (.int .i64 (qu + xs.length))) :=
  (((((Fr.refl [q] w).drewN nq).trans hfr.nil_).setCell (.inl (by simp)) _).setCell (.inl (by simp)) _)
 have HQ2 := Lib.hid hq2; clear hq2
 have HF2 := Lib.hid hf2; clear hf2
 have HB1 := Lib.hid hb1; clear hb1
 have HAT := Lib.hid hat; clear hat
 have HNE1 := Lib.hid hne1; clear hne1 hnn1
 clear hnil hfr hwh HA
 go_wp2_with (go_at_call 52; refine (mark_any HQ2.out).mono ?_; rintro e w' ⟨rfl, hq', hf'⟩)
 go_ret
 exact ⟨rfl, hq', HF2.out.trans hf'⟩
theorem put_yes' {N : Nat → Prop} {q : Nat} {lo hi room : Int} {bs xs : List UInt8} {ab : Bool} {qu go : Int} {w : World} (h : Que w N q lo hi room bs ab qu go) (hr : room ≤ 65536)
    (A : Option Addr) (n c : Nat) (hx : Bytes w A xs) (hn : xs.length = n) (hl : n ≤ room - bs.length) (hq0 : 0 ≤ qu) (hq1 : qu ≤ 1000000000000000) (hN : N w.heap.size) :
    Calls Tryz.prog 34 #[.pointer (some ⟨q, 0, none⟩), .slice A n c] w fun e w' => e = .returned .nilIface ∧
     Que w' N q lo hi room (bs ++ xs) (markB lo hi (bs ++ xs).length ab) (qu + n) go ∧ Fr [q] w w' := by
 subst hn; exact put_yes h hr A c hx hl hq0 hq1 hN
def clampN (n : Int) (m : Nat) : Nat := if n < 0 then 0 else if (m : Int) ≤ n then m else n.toNat
theorem clampN_max {n : Int} {m k : Nat} (hk : k = clampN n m) : max 0 (min n (m : Int)) = (k : Int) := by
 subst hk
 unfold clampN
 split
 ·omega
 ·split <;> omega
theorem clampN_le (n : Int) (m : Nat) : clampN n m ≤ m := by unfold clampN; split; omega; split <;> omega
def NextPost (w : World) (N : Nat → Prop) (q : Nat) (lo hi room : Int) (bs : List UInt8) (ab : Bool) (qu go : Int) (k : Nat) (e : Ending) (w' : World) : Prop :=
 ∃ A c, e = .returned (.slice A k c) ∧ Bytes w' A (bs.take k) ∧ k ≤ c ∧ c ≤ maxLen ∧ (A = none → c = 0) ∧ Que w' N q lo hi room bs ab qu go ∧ Fr [] w w' ∧ ∀ a, A = some a → w.heap.size ≤ a.block
theorem took_at {N : Nat → Prop} {q : Nat} {lo hi room : Int} {bs : List UInt8} {ab : Bool} {qu go : Int} {w : World} (h : Que w N q lo hi room bs ab qu go) (hl : bs.length ≤ 65536) (n : Int) (k : Nat) (hk : k = clampN n bs.length) (hg0 : 0 ≤ go) (hg1 : go ≤ 1000000000000000) :
    Calls Tryz.prog 35 #[.pointer (some ⟨q, 0, none⟩), .int .i64 n] w fun e w' => e = .returned (.int .i64 k) ∧ Que w' N q lo hi room (bs.drop k) (markB lo hi (bs.drop k).length ab) qu (go + k) ∧ Fr [q] w w' := by
 have hkl : k ≤ bs.length := hk ▸ clampN_le _ _
 obtain ⟨A', c', hb, hby, hlc, hc, hA, hne, hnn⟩ := h
 obtain ⟨-, -, -, h3, -, -, h6⟩ := que_cells hb
 have hf3 := hb.frozen 3
 have hf6 := hb.frozen 6
 unfold maxLen at hc
 obtain ⟨i0, hi0, hz0, hz1, hz2⟩ := u8parts
 have key : ∀ X V, V = (k : Int) → At w X (((byteVals bs).drop k).take (bs.length - k)) → (X = none → c' - k = 0) → (∀ b, X = some b → ∃ a', A' = some a' ∧ b.block = a'.block) →
     Que ((w.setCell ⟨q, 3, none⟩ (.slice X (bs.length - k) (c' - k))).setCell ⟨q, 6, none⟩ (.int .i64 (go + V))) N q lo hi room (bs.drop k) ab qu (go + k) ∧
      Fr [q] w ((w.setCell ⟨q, 3, none⟩ (.slice X (bs.length - k) (c' - k))).setCell ⟨q, 6, none⟩ (.int .i64 (go + V))) := by
  rintro X V rfl hX h0 hbl
  have hcut : ∀ a, X = some a → a.block ≠ q := fun b hb => by
   obtain ⟨a', ha', e⟩ := hbl b hb
   rw [e]; exact hne a' ha'
  have hcutn : bs.drop k ≠ [] → ∀ a, X = some a → N a.block := fun h0 b hb => by
   obtain ⟨a', ha', e⟩ := hbl b hb
   rw [e]; exact hnn (fun e0 => h0 (by rw [e0]; simp)) a' ha'
  have hat : At w X (byteVals (bs.drop k)) := by
   have e : ((byteVals bs).drop k).take (bs.length - k) = byteVals (bs.drop k) := by
    rw [List.take_of_length_le (by rw [List.length_drop, byteVals_length]; omega), byteVals, byteVals, List.map_drop]
   rwa [e] at hX
  refine ⟨⟨X, c' - k, ?_, ?_, by simp; omega, by unfold maxLen; omega, h0, hcut, hcutn⟩, (((Fr.refl [q] w).setCell (.inl (by simp)) _).setCell (.inl (by simp)) _)⟩
  ·have := (hb.put 3 (.slice X (bs.length - k) (c' - k))).put 6 (.int .i64 (go + k))
   rw [List.length_drop]; exact this
  ·exact At.fr hat ((((Fr.refl [q] w).setCell (.inl (by simp)) _).setCell (.inl (by simp)) _)) (fun a ha _ => by simpa using hcut a ha)
 have HB := Lib.hid hb; clear hb
 have HBY := Lib.hid hby; clear hby
 have HA := Lib.hid hA; clear hA
 have HK := Lib.hid key; clear key hne hnn
 have HV := Lib.hid (clampN_max hk); clear hk
 go_enter Tryz.func35, Tryz.ntmps35
 go_wp2_with (first
     | (refine wpList_min rfl (.tmp 5) (.tmp 10) _ rfl _ _ _ (min n (bs.length : Int)) (by rfl) (by rfl) rfl ?_)
     | (refine wpList_max rfl (.const (.int .i64 0)) (.tmp 11) _ rfl _ _ _ (k : Int) (by rfl) (by rfl) HV.out ?_)
     | (refine wpList_cut rfl 34 (.tmp 17) (some (.tmp 18)) none none rfl 5 i0 Tryz.underlying34 hi0 hz1 A' bs.length c' rfl (byteVals bs) HBY.out (byteVals_length _) hlc HA.out k bs.length c' (.inr rfl) (.inl ⟨rfl, rfl, rfl⟩) (.inl ⟨rfl, rfl⟩) (by omega) (by omega) (by omega) (by omega) ?_; intro X hX hX0 hX1; obtain ⟨hq2, hf2⟩ := HK.out X _ rfl hX hX0 hX1; have HQ2 := Lib.hid hq2; have HF2 := Lib.hid hf2; clear hq2 hf2 hX hX0 hX1)
     | (go_at_call 52; refine (mark_any HQ2.out).mono ?_; rintro e w' ⟨rfl, hq', hf'⟩))
 go_ret
 exact ⟨rfl, hq', HF2.out.trans hf'⟩
end Go.Proofs.YtfbmogccmlikaaaGreatDoor.GQ
namespace Go.Proofs.YtfbmogccmlikaaaGreatDoor.G
open Go.RowKit
set_option linter.unusedVariables false
set_option linter.unusedSimpArgs false
def nextG (s : Sep) (x : Cu) : Option (List UInt8) × Bool × Cu := match firstG s x.bs x.en with
 | some (f, t, n) => (some ((x.bs.drop f).take (t - f)), false, { x with bs := x.bs.drop n })
 | none => if x.en = true then (none, false, { x with bs := [] }) else if x.room ≤ ((skipG s x.bs).length : Int) then (none, true, { x with bs := [], en := true }) else (none, false, { x with bs := skipG s x.bs })
def recV : Option (List UInt8) → Bool → Value
 | some t, _ => .tuple #[.string ⟨t.toArray⟩, .bool true, .nilIface]
 | none, false => .tuple #[.string ⟨#[]⟩, .bool false, .nilIface]
 | none, true => .tuple #[.string ⟨#[]⟩, .bool false, errV 20]
theorem SepV.kind {w : World} {k c : Int} {f : Value} {s : Sep} (h : SepV w k c f s) (hs : s ≠ .para) : k ≠ 1 := by
 cases s with
 | para => exact absurd rfl hs
 | one x => obtain ⟨rfl, -⟩ := h; decide
 | expr L => obtain ⟨rfl, -⟩ := h; decide
theorem skipG_other {s : Sep} (hs : s ≠ .para) (b : List UInt8) : skipG s b = b := by
 cases s with
 | para => exact absurd rfl hs
 | one x => rfl
 | expr L => rfl
theorem next_gen {w : World} {q : Nat} {x : Cu} {v : Value} {s : Sep} (h : CuR w q x v) (hv : SepV w x.k x.c x.f s) (hs : s.ok) (hg : GlobOk w) (hb : x.bs.length ≤ 10000) :
    Calls Tryz.prog 29 #[.pointer (some ⟨q, 0, none⟩)] w fun e w' => e = .returned (recV (nextG s x).1 (nextG s x).2.1) ∧ CuTo w q v w' (nextG s x).2.2 := by
 cases hf : firstG s x.bs x.en with
 | some p =>
  obtain ⟨f, t, n⟩ := p
  have key : nextG s x = (some ((x.bs.drop f).take (t - f)), false, { x with bs := x.bs.drop n }) := by unfold nextG; rw [hf]
  rw [key]
  exact next_ok h hv hs hg hb f t n hf _ rfl _ rfl
 | none =>
  by_cases hen : x.en = true
  ·have key : nextG s x = (none, false, { x with bs := [] }) := by unfold nextG; rw [hf]; dsimp only; rw [if_pos hen]
   rw [key]
   exact next_done h hv hs hg hb hen hf _ rfl
  ·have hen' : x.en = false := by simpa using hen
   by_cases hl : x.room ≤ ((skipG s x.bs).length : Int)
   ·have key : nextG s x = (none, true, { x with bs := [], en := true }) := by unfold nextG; rw [hf]; dsimp only; rw [if_neg hen, if_pos hl]
    rw [key]
    by_cases hp : s = .para
    ·subst hp
     exact nextp_long h hv hs hg hb hen' hf hv.1 hl
    ·rw [skipG_other hp] at hl
     exact next0_long h hv hs hg hb hen' hf (hv.kind hp) hl
   ·have key : nextG s x = (none, false, { x with bs := skipG s x.bs }) := by unfold nextG; rw [hf]; dsimp only; rw [if_neg hen, if_neg hl]
    rw [key]
    by_cases hp : s = .para
    ·subst hp
     have h2 : ((x.bs.drop (nlM x.bs)).length : Int) < x.room := Int.not_le.1 hl
     exact nextp_wait h hv hs hg hb hen' hf hv.1 h2
    ·rw [skipG_other hp] at hl ⊢
     have h2 : (x.bs.length : Int) < x.room := Int.not_le.1 hl
     exact next0_wait h hv hs hg hb hen' hf (hv.kind hp) h2
theorem nextG_same {s : Sep} (hs : s.ok) (x : Cu) : (nextG s x).2.2.k = x.k ∧ (nextG s x).2.2.c = x.c ∧ (nextG s x).2.2.f = x.f ∧ (nextG s x).2.2.room = x.room ∧ (nextG s x).2.2.bs.length ≤ x.bs.length ∧ (x.en = true → (nextG s x).2.2.en = true) := by
 unfold nextG
 split
 ·rename_i f t n hf
  have := first_bounds hs hf
  exact ⟨rfl, rfl, rfl, rfl, by simp, fun h => h⟩
 ·split
  ·exact ⟨rfl, rfl, rfl, rfl, by simp, fun h => h⟩
  ·split
   ·exact ⟨rfl, rfl, rfl, rfl, by simp, fun h => rfl⟩
   ·exact ⟨rfl, rfl, rfl, rfl, skipG_len _ _, fun h => h⟩
theorem own_u8 {w : World} {v : Value} {bs : List UInt8} (h : OwnB w v bs) {k : Nat} (hk : v.ownBlock = some k) : ∃ cs, Bk w k 5 cs := by
 obtain ⟨A, cap, rfl, -, -, ⟨rfl, -⟩ | ⟨g', off, cur, rfl, hg, -⟩⟩ := h
 ·simp [Value.ownBlock] at hk
 ·simp [Value.ownBlock] at hk
  subst hk
  exact ⟨cur, hg⟩
theorem SepV.off {w w' : World} {k c : Int} {f : Value} {s : Sep} {l : List Nat} (h : SepV w k c f s) (hf : Fr l w w') (hl : ∀ b ∈ l, ∃ t cs, Bk w b t cs ∧ t ≠ 114 ∧ t ≠ 150) : SepV w' k c f s := by
 cases s with
 | para => exact h
 | one x => exact h
 | expr L =>
  obtain ⟨h1, lo, fb, h2, h3, h4⟩ := h
  exact ⟨h1, lo, fb, h2, finder_off h3 hf hl, h4⟩
def KS (w w' : World) : Prop := ∀ b cs, Bk w b 9 cs → Bk w' b 9 cs
def BK (B : Nat) (w w' : World) : Prop := Below B w w' ∧ KS w w'
theorem BK.trans {B : Nat} {a b c : World} (h : BK B a b) (k : BK B b c) : BK B a c := ⟨h.1.trans k.1, fun g cs hb => k.2 _ _ (h.2 _ _ hb)⟩
theorem BK.size {B : Nat} {a b : World} (h : BK B a b) : a.heap.size ≤ b.heap.size := h.1.size
theorem BK.of {B : Nat} {a b : World} (h : Fr [] a b) (hB : B ≤ a.heap.size) : BK B a b := ⟨h.below_nil.mono hB, fun g cs hb => hb.fr h (by simp)⟩
theorem BK.at_ {B : Nat} {l : List Nat} {a b : World} (h : Fr l a b) (hB : B ≤ a.heap.size) (hl : ∀ i ∈ l, B ≤ i) (ht : ∀ i ∈ l, ∃ t cs, Bk a i t cs ∧ t ≠ 9) : BK B a b :=
 ⟨h.below_at hB hl, fun g cs hb => hb.fr h (fun hm => by obtain ⟨t, ds, h1, h2⟩ := ht _ hm; exact h1.ne_ hb h2 rfl)⟩
def NB (v : Value) (g r : Nat) (b : Nat) : Prop := v.ownBlock ≠ some b ∧ b ≠ g ∧ b ≠ r
structure GCv (w : World) (B g q r : Nat) (v : Value) (x : Cu) (s : Sep) (lo hi room : Int) (bs : List UInt8) (ab : Bool) (qu go : Int) (st last idle : Int) : Prop where
 cn : Bk w g 57 (K.cnCells q r st last idle)
 cu : CuR w r x v
 qe : GQ.Que w (NB v g r) q lo hi room bs ab qu go
 sp : SepV w x.k x.c x.f s
 bg : B ≤ g
 bq : B ≤ q
 br : B ≤ r
 bv : ∀ k, v.ownBlock = some k → B ≤ k
def GC (w : World) (B g q r : Nat) (x : Cu) (s : Sep) (lo hi room : Int) (bs : List UInt8) (ab : Bool) (i : Nat) (st last idle : Int) : Prop :=
 ∃ (v : Value) (qu go : Int), GCv w B g q r v x s lo hi room bs ab qu go st last idle ∧ 0 ≤ qu ∧ qu ≤ 65536 * (i : Int) ∧ 0 ≤ go ∧ go ≤ 65536 * (i : Int)
section
variable {w w' : World} {B g q r : Nat} {v : Value} {x y : Cu} {s : Sep} {lo hi room : Int} {bs bs' : List UInt8} {ab ab' : Bool} {qu go qu' go' : Int} {i : Nat} {st last idle st' last' idle' : Int}
theorem GCv.que_bk (h : GCv w B g q r v x s lo hi room bs ab qu go st last idle) : ∃ cs, Bk w q 70 cs := by
 obtain ⟨A, c, h1, -⟩ := h.qe
 exact ⟨_, h1⟩
theorem GCv.fr_nil (h : GCv w B g q r v x s lo hi room bs ab qu go st last idle) (hf : Fr [] w w') : GCv w' B g q r v x s lo hi room bs ab qu go st last idle :=
 { cn := h.cn.fr hf (by simp), cu := ⟨h.cu.1.fr hf (by simp), Own.fr h.cu.2 hf (by simp)⟩, qe := h.qe.fr_nil hf, sp := h.sp.fr_nil hf, bg := h.bg, bq := h.bq, br := h.br, bv := h.bv }
theorem GCv.cut (h : GCv w B g q r v x s lo hi room bs ab qu go st last idle) (hB : B ≤ w.heap.size) (ht : CuTo w r v w' y) (hk : y.k = x.k ∧ y.c = x.c ∧ y.f = x.f) :
    (∃ v', GCv w' B g q r v' y s lo hi room bs ab qu go st last idle) ∧ BK B w w' := by
 obtain ⟨v', t1, t2, t3⟩ := ht
 obtain ⟨qs, hq⟩ := h.que_bk
 have n1 : g ∉ r :: v.ownBlock.toList := by
  intro hm
  rcases List.mem_cons.1 hm with e | hm
  ·exact h.cn.ne_ h.cu.1 (by decide) e
  ·exact Own.ne_bk h.cu.2 h.cn (by decide) (by simpa using hm)
 have n2 : q ∉ r :: v.ownBlock.toList := by
  intro hm
  rcases List.mem_cons.1 hm with e | hm
  ·exact hq.ne_ h.cu.1 (by decide) e
  ·exact Own.ne_bk h.cu.2 hq (by decide) (by simpa using hm)
 have hq2 : GQ.Que w (fun b => NB v g r b ∧ b < w.heap.size) q lo hi room bs ab qu go := h.qe.weaken fun b h1 h2 => ⟨h2, h1⟩
 have hq3 := hq2.off t2 n2 (fun b hb hm => by
  rcases List.mem_cons.1 hm with e | hm
  ·exact hb.1.2.2 e
  ·exact hb.1.1 (by simpa using hm))
 refine ⟨⟨v', { cn := h.cn.fr t2 n1, cu := t1, qe := hq3.weaken fun b _ hb => ⟨fun e => ?_, hb.1.2⟩, sp := ?_, bg := h.bg, bq := h.bq, br := h.br, bv := fun k hk => (t3 k hk).elim (h.bv k) (fun e => by omega) }⟩, ?_⟩
 ·rcases t3 b e with e | e
  ·exact hb.1.1 e
  ·have := hb.2; omega
 ·rw [hk.1, hk.2.1, hk.2.2]
  refine h.sp.off t2 fun b hb => ?_
  rcases List.mem_cons.1 hb with e | hb
  ·subst e; exact ⟨_, _, h.cu.1, by decide, by decide⟩
  ·obtain ⟨cs, hc⟩ := own_u8 h.cu.2 (by simpa using hb)
   exact ⟨_, _, hc, by decide, by decide⟩
 ·refine BK.at_ t2 hB (fun b hb => ?_) (fun b hb => ?_)
  ·rcases List.mem_cons.1 hb with e | hb
   ·subst e; exact h.br
   ·exact h.bv b (by simpa using hb)
  ·rcases List.mem_cons.1 hb with e | hb
   ·subst e; exact ⟨_, _, h.cu.1, by decide⟩
   ·obtain ⟨cs, hc⟩ := own_u8 h.cu.2 (by simpa using hb)
    exact ⟨_, _, hc, by decide⟩
theorem GCv.que (h : GCv w B g q r v x s lo hi room bs ab qu go st last idle) (hB : B ≤ w.heap.size) (hf : Fr [q] w w') (hq' : GQ.Que w' (NB v g r) q lo hi room bs' ab' qu' go') :
    GCv w' B g q r v x s lo hi room bs' ab' qu' go' st last idle ∧ BK B w w' := by
 obtain ⟨qs, hq⟩ := h.que_bk
 have n1 : g ∉ [q] := by simpa using h.cn.ne_ hq (by decide)
 have n2 : r ∉ [q] := by simpa using h.cu.1.ne_ hq (by decide)
 refine ⟨{ cn := h.cn.fr hf n1, cu := ⟨h.cu.1.fr hf n2, Own.fr h.cu.2 hf (fun k hk => ?_)⟩, qe := hq', sp := h.sp.off hf fun b hb => ?_, bg := h.bg, bq := h.bq, br := h.br, bv := h.bv }, BK.at_ hf hB (by simpa using h.bq) (fun b hb => ⟨_, _, (List.mem_singleton.1 hb).symm ▸ hq, by decide⟩)⟩
 ·have := Own.ne_bk h.cu.2 hq (by decide)
  simp; rintro rfl; exact this hk
 ·obtain rfl : b = q := by simpa using hb
  exact ⟨_, _, hq, by decide, by decide⟩
theorem GCv.put (h : GCv w B g q r v x s lo hi room bs ab qu go st last idle) (hB : B ≤ w.heap.size) (hf : Fr [g] w w') (hb : Bk w' g 57 (K.cnCells q r st' last' idle')) :
    GCv w' B g q r v x s lo hi room bs ab qu go st' last' idle' ∧ BK B w w' := by
 obtain ⟨qs, hq⟩ := h.que_bk
 have n1 : q ∉ [g] := by simpa using hq.ne_ h.cn (by decide)
 have n2 : r ∉ [g] := by simpa using h.cu.1.ne_ h.cn (by decide)
 refine ⟨{ cn := hb, cu := ⟨h.cu.1.fr hf n2, Own.fr h.cu.2 hf (fun k hk => ?_)⟩, qe := h.qe.off hf n1 (fun b hb => by simpa using hb.2.1), sp := h.sp.off hf fun b hb => ?_, bg := h.bg, bq := h.bq, br := h.br, bv := h.bv }, BK.at_ hf hB (by simpa using h.bg) (fun b hb => ⟨_, _, (List.mem_singleton.1 hb).symm ▸ h.cn, by decide⟩)⟩
 ·have := Own.ne_bk h.cu.2 h.cn (by decide)
  simp; rintro rfl; exact this hk
 ·obtain rfl : b = g := by simpa using hb
  exact ⟨_, _, h.cn, by decide, by decide⟩
theorem GCv.new_ok (h : GCv w B g q r v x s lo hi room bs ab qu go st last idle) : NB v g r w.heap.size := by
 refine ⟨fun e => ?_, ?_, ?_⟩
 ·have := Own.lt h.cu.2 _ e; omega
 ·have := h.cn.lt; omega
 ·have := h.cu.1.lt; omega
theorem GCv.cells (h : GCv w B g q r v x s lo hi room bs ab qu go st last idle) : w.cell? ⟨g, 0, none⟩ = some (.pointer (some ⟨q, 0, none⟩)) ∧ w.cell? ⟨g, 1, none⟩ = some (.pointer (some ⟨r, 0, none⟩)) ∧ w.cell? ⟨g, 2, none⟩ = some (.int .i64 st) ∧ w.cell? ⟨g, 3, none⟩ = some (.int .i64 last) ∧ w.cell? ⟨g, 4, none⟩ = some (.int .i64 idle) := K.cn_cells h.cn
theorem GCv.set2 (h : GCv w B g q r v x s lo hi room bs ab qu go st last idle) (hB : B ≤ w.heap.size) (st' : Int) :
    GCv (w.setCell ⟨g, 2, none⟩ (.int .i64 st')) B g q r v x s lo hi room bs ab qu go st' last idle ∧ BK B w (w.setCell ⟨g, 2, none⟩ (.int .i64 st')) :=
 h.put hB ((Fr.refl [g] w).setCell (.inl (by simp)) _) (h.cn.put 2 _)
theorem GCv.set3 (h : GCv w B g q r v x s lo hi room bs ab qu go st last idle) (hB : B ≤ w.heap.size) (last' : Int) :
    GCv (w.setCell ⟨g, 3, none⟩ (.int .i64 last')) B g q r v x s lo hi room bs ab qu go st last' idle ∧ BK B w (w.setCell ⟨g, 3, none⟩ (.int .i64 last')) :=
 h.put hB ((Fr.refl [g] w).setCell (.inl (by simp)) _) (h.cn.put 3 _)
theorem inTime_any (n : Int) (w : World) : Calls Tryz.prog 23 #[.int .i64 n] w fun e w' => e = .returned (.bool (decide (0 ≤ n) && decide (n ≤ 1099511627776))) ∧ w = w' := by
 obtain ⟨a, ha⟩ : ∃ a, decide (0 ≤ n) = a := ⟨_, rfl⟩
 obtain ⟨b, hb⟩ : ∃ b, decide (n ≤ 1099511627776) = b := ⟨_, rfl⟩
 rw [ha, hb]
 cases a
 ·go_enter Tryz.func23, Tryz.ntmps23
  go_wp2_with fail
  go_ret
  exact ⟨rfl, rfl⟩
 ·go_enter Tryz.func23, Tryz.ntmps23
  go_wp2_with fail
  go_ret
  exact ⟨by cases b <;> rfl, rfl⟩
theorem state_g (h : GCv w B g q r v x s lo hi room bs ab qu go st last idle) : Calls Tryz.prog 13 #[.pointer (some ⟨g, 0, none⟩)] w fun e w' => e = .returned (.int .i64 st) ∧ w = w' := by
 obtain ⟨-, -, c2, -, -⟩ := h.cells
 clear h
 go_enter Tryz.func13, Tryz.ntmps13
 go_wp2_with fail
 go_ret
 exact ⟨rfl, rfl⟩
theorem above_g (h : GCv w B g q r v x s lo hi room bs ab qu go st last idle) : Calls Tryz.prog 14 #[.pointer (some ⟨g, 0, none⟩)] w fun e w' => e = .returned (.bool ab) ∧ w = w' := by
 obtain ⟨c0, -, -, -, -⟩ := h.cells
 have HQ := Lib.hid h.qe
 clear h
 go_enter Tryz.func14, Tryz.ntmps14
 go_wp2_with fail
 go_at_call 28
 refine (GQ.above_any HQ.out).mono ?_
 rintro e w2 ⟨rfl, rfl⟩
 go_wp2_with fail
 go_ret
 exact ⟨rfl, rfl⟩
theorem finish_g (h : GCv w B g q r v x s lo hi room bs ab qu go st last idle) (hB : B ≤ w.heap.size) : Calls Tryz.prog 17 #[.pointer (some ⟨g, 0, none⟩)] w fun e w' => e = .returned (.tuple #[]) ∧ GCv w' B g q r v x s lo hi room bs ab qu go (if st < 2 then 2 else st) last idle ∧ BK B w w' := by
 obtain ⟨-, -, c2, -, -⟩ := h.cells
 have f2 := h.cn.frozen 2
 have H := Lib.hid h; clear h
 by_cases hs : st < 2
 ·rw [if_pos hs]
  have t0 : decide (st < 2) = true := decide_eq_true hs
  go_enter Tryz.func17, Tryz.ntmps17
  go_wp2_with fail
  go_end0
  exact ⟨rfl, H.out.set2 hB 2⟩
 ·rw [if_neg hs]
  have t0 : decide (st < 2) = false := decide_eq_false hs
  go_enter Tryz.func17, Tryz.ntmps17
  go_wp2_with fail
  go_end0
  exact ⟨rfl, H.out, BK.of (Fr.refl [] w) hB⟩
theorem drained_g (h : GCv w B g q r v x s lo hi room bs ab qu go st last idle) : Calls Tryz.prog 36 #[.pointer (some ⟨g, 0, none⟩)] w fun e w' => e = .returned (.bool (st == 2 && (bs.length : Int) == 0)) ∧ w = w' := by
 obtain ⟨c0, -, c2, -, -⟩ := h.cells
 have HQ := Lib.hid h.qe
 clear h
 obtain ⟨a, ha⟩ : ∃ a, (st == 2) = a := ⟨_, rfl⟩
 obtain ⟨b, hb⟩ : ∃ b, ((bs.length : Int) == 0) = b := ⟨_, rfl⟩
 obtain ⟨n, hn⟩ : ∃ n, n = bs.length := ⟨_, rfl⟩
 have HD := Lib.hid (GQ.held_any HQ.out)
 rw [← hn] at hb HD ⊢
 rw [ha, hb]
 clear hn
 cases a
 ·go_enter Tryz.func36, Tryz.ntmps36
  go_wp2_with fail
  go_ret
  exact ⟨rfl, rfl⟩
 ·go_enter Tryz.func36, Tryz.ntmps36
  go_wp2_with fail
  go_at_call 39
  refine HD.out.mono ?_
  rintro e w2 ⟨rfl, rfl⟩
  go_wp2_with fail
  go_ret
  exact ⟨by first | rfl | (cases b <;> rfl), rfl⟩
theorem shut_g (h : GCv w B g q r v x s lo hi room bs ab qu go st last idle) (hB : B ≤ w.heap.size) : Calls Tryz.prog 18 #[.pointer (some ⟨g, 0, none⟩)] w fun e w' => e = .returned (.tuple #[]) ∧ GCv w' B g q r v x s lo hi room bs ab qu go (if (st == 2 && (bs.length : Int) == 0) = true then 3 else st) last idle ∧ BK B w w' := by
 obtain ⟨-, -, c2, -, -⟩ := h.cells
 have f2 := h.cn.frozen 2
 have HD := Lib.hid (drained_g h)
 have H := Lib.hid h; clear h
 obtain ⟨d, hd⟩ : ∃ d, (st == 2 && (bs.length : Int) == 0) = d := ⟨_, rfl⟩
 rw [hd] at HD ⊢
 clear hd
 cases d
 ·rw [if_neg (by simp)]
  go_enter Tryz.func18, Tryz.ntmps18
  go_wp2_with fail
  go_at_call 36
  refine HD.out.mono ?_
  rintro e w2 ⟨rfl, rfl⟩
  go_wp2_with fail
  go_end0
  exact ⟨rfl, H.out, BK.of (Fr.refl [] w) hB⟩
 ·rw [if_pos rfl]
  go_enter Tryz.func18, Tryz.ntmps18
  go_wp2_with fail
  go_at_call 36
  refine HD.out.mono ?_
  rintro e w2 ⟨rfl, rfl⟩
  go_wp2_with fail
  go_end0
  exact ⟨rfl, H.out.set2 hB 3⟩
theorem kill_g (h : GCv w B g q r v x s lo hi room bs ab qu go st last idle) (hB : B ≤ w.heap.size) : Calls Tryz.prog 19 #[.pointer (some ⟨g, 0, none⟩)] w fun e w' => e = .returned (.tuple #[]) ∧ GCv w' B g q r v x s lo hi room [] (GQ.markB lo hi 0 ab) qu go (if st = 3 then 3 else 4) last idle ∧ BK B w w' := by
 obtain ⟨c0, -, c2, -, -⟩ := h.cells
 have f2 := h.cn.frozen 2
 have H := Lib.hid h; clear h
 by_cases hs : st = 3
 ·rw [if_pos hs]
  have t0 : (st != 3) = false := by simp [hs]
  have H3 : Hid (GCv w B g q r v x s lo hi room bs ab qu go 3 last idle) := Lib.hid (hs ▸ H.out)
  clear hs H
  go_enter Tryz.func19, Tryz.ntmps19
  go_wp2_with fail
  go_at_call 37
  refine (GQ.clear_any H3.out.qe).mono ?_
  rintro e w2 ⟨rfl, hq, hf⟩
  have HX := Lib.hid (H3.out.que hB hf hq)
  clear hq hf
  go_wp2_with fail
  go_end0
  exact ⟨rfl, HX.out⟩
 ·rw [if_neg hs]
  have t0 : (st != 3) = true := by simpa using hs
  have hx := H.out.set2 hB 4
  have H2 := Lib.hid hx.1; have HB2 := Lib.hid hx.2
  have c0' := hx.1.cells.1
  clear hs hx
  go_enter Tryz.func19, Tryz.ntmps19
  go_wp2_with fail
  go_at_call 37
  refine (GQ.clear_any H2.out.qe).mono ?_
  rintro e w2 ⟨rfl, hq, hf⟩
  have hx := H2.out.que (Nat.le_trans hB HB2.out.size) hf hq
  have HX := Lib.hid hx.1; have HBX := Lib.hid (HB2.out.trans hx.2)
  clear hq hf hx
  go_wp2_with fail
  go_end0
  exact ⟨rfl, HX.out, HBX.out⟩
theorem next_hi (h : GCv w B g q r v x s lo hi room bs ab qu go st last idle) (hs : 3 ≤ st) (n : Int) : Calls Tryz.prog 21 #[.pointer (some ⟨g, 0, none⟩), .int .i64 n] w fun e w' => e = .returned (.slice none 0 0) ∧ w = w' := by
 obtain ⟨-, -, c2, -, -⟩ := h.cells
 have t0 : decide (3 ≤ st) = true := decide_eq_true hs
 clear h
 go_enter Tryz.func21, Tryz.ntmps21
 go_wp2_with fail
 go_ret
 exact ⟨rfl, rfl⟩
theorem say_hi (h : GCv w B g q r v x s lo hi room bs ab qu go st last idle) (hs : 3 ≤ st) (t : ByteArray) : Calls Tryz.prog 15 #[.pointer (some ⟨g, 0, none⟩), .string t] w fun e w' => e = .returned (errV 23) ∧ w = w' := by
 obtain ⟨-, -, c2, -, -⟩ := h.cells
 have t0 : decide (3 ≤ st) = true := decide_eq_true hs
 clear h
 go_enter Tryz.func15, Tryz.ntmps15
 go_wp2_with fail
 go_ret
 exact ⟨rfl, rfl⟩
set_option maxRecDepth 100000 in
theorem say_lo (h : GCv w B g q r v x s lo hi room bs ab qu go st last idle) (hB : B ≤ w.heap.size) (hs : st < 3) (hr : room ≤ 65536) (hr0 : 0 ≤ room) (xs : List UInt8) (hx : xs.length ≤ 60) (hq0 : 0 ≤ qu) (hq1 : qu ≤ 1000000000000000) :
    Calls Tryz.prog 15 #[.pointer (some ⟨g, 0, none⟩), .string ⟨xs.toArray⟩] w fun e w' => (∃ z, e = .returned z) ∧ BK B w w' ∧
     ((xs.length : Int) ≤ room - bs.length ∧ GCv w' B g q r v x s lo hi room (bs ++ xs) (GQ.markB lo hi (bs ++ xs).length ab) (qu + xs.length) go st last idle ∨ GCv w' B g q r v x s lo hi room bs ab qu go st last idle) := by
 obtain ⟨c0, -, c2, -, -⟩ := h.cells
 have t0 : decide (3 ≤ st) = false := decide_eq_false (by omega)
 have H := Lib.hid h; clear h
 by_cases hl : (xs.length : Int) ≤ room - bs.length
 ·have HL := Lib.hid hl
  clear hl
  go_enter Tryz.func15, Tryz.ntmps15
  go_wp2_with (refine wpList_bytes rfl 9 34 (.tmp 15) rfl 5 Tryz.underlying9 Tryz.underlying34 Tryz.underlying5 ⟨xs.toArray⟩ (by rfl) (by rw [ba_size]; unfold maxLen; omega) ?_; intro A2 cc2 w2 hat hge hle hA2 hfr; have HAT : Hid (Bytes w2 A2 xs) := Lib.hid (show At w2 A2 (byteVals xs) from by simpa using hat); have HF := Lib.hid hfr; clear hat hge hle hA2 hfr)
  go_at_call 34
  have hg2 := H.out.fr_nil HF.out
  refine (GQ.put_yes' hg2.qe hr A2 _ cc2 HAT.out rfl HL.out hq0 hq1 hg2.new_ok).mono ?_
  rintro e w3 ⟨rfl, hq, hf⟩
  have hx := hg2.que (Nat.le_trans hB HF.out.size) hf hq
  have HX := Lib.hid hx.1; have HBX := Lib.hid ((BK.of HF.out hB).trans hx.2)
  clear hq hf hx hg2
  go_wp2_with fail
  go_ret
  exact ⟨⟨_, rfl⟩, HBX.out, .inl ⟨HL.out, HX.out⟩⟩
 ·have HL : Hid (room - bs.length < (xs.length : Int)) := Lib.hid (by omega)
  clear hl
  go_enter Tryz.func15, Tryz.ntmps15
  go_wp2_with (refine wpList_bytes rfl 9 34 (.tmp 15) rfl 5 Tryz.underlying9 Tryz.underlying34 Tryz.underlying5 ⟨xs.toArray⟩ (by rfl) (by rw [ba_size]; unfold maxLen; omega) ?_; intro A2 cc2 w2 hat hge hle hA2 hfr; have HF := Lib.hid hfr; clear hat hge hle hA2 hfr)
  go_at_call 34
  have hg2 := H.out.fr_nil HF.out
  refine (GQ.put_no hg2.qe hr hr0 A2 _ cc2 (by unfold maxLen; omega) HL.out).mono ?_
  rintro e w3 ⟨rfl, n, hw3⟩
  have hfd : Fr [] w2 w3 := by rw [hw3]; exact Fr.drewN (Fr.refl _ _) n
  have HX := Lib.hid (hg2.fr_nil hfd); have HBX := Lib.hid (BK.of (HF.out.trans hfd) hB)
  clear hw3 hfd hg2
  go_wp2_with fail
  go_ret
  exact ⟨⟨_, rfl⟩, HBX.out, .inr HX.out⟩
end
end Go.Proofs.YtfbmogccmlikaaaGreatDoor.G
