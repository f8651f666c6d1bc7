/-
 Gd1, Gd2, Gd3: several small texts in one. No conditions.
-/
import Derived.Test.YtfbmogccmlikaaaGreatDoorHd
import Derived.Test.YtfbmogccmlikaaaGreatDoorHe
import Derived.Test.YtfbmogccmlikaaaGreatDoorHc
namespace Go.Proofs.YtfbmogccmlikaaaGreatDoor.G
open Go.RowKit
set_option linter.unusedVariables false
set_option linter.unusedSimpArgs false
def strVals (l : List (List UInt8)) : List Value := l.map fun b => .string ⟨b.toArray⟩
theorem strVals_length (l : List (List UInt8)) : (strVals l).length = l.length := by simp [strVals]
theorem strVals_append (a b : List (List UInt8)) : strVals (a ++ b) = strVals a ++ strVals b := by simp [strVals]
theorem strVals_get (l : List (List UInt8)) {j : Nat} (h : j < l.length) : (strVals l)[j]? = some (.string ⟨(l.getD j []).toArray⟩) := by simp [strVals, h]
def OwnL (w : World) (v : Value) (l : List (List UInt8)) : Prop := Own w 9 v (strVals l)
theorem OwnL.val {w : World} {v : Value} {l : List (List UInt8)} (h : OwnL w v l) : ∃ A cap, v = .slice A l.length cap ∧ l.length ≤ cap ∧ cap ≤ maxLen ∧ At w A (strVals l) ∧ (A = none → cap = 0) := by
 obtain ⟨A, cap, rfl, h1, h2, h3, h4, -⟩ := Own.at_ h
 rw [strVals_length] at h2
 exact ⟨A, cap, by rw [strVals_length], h2, h3, h1, h4⟩
theorem OwnL.cell {w : World} {A : Option Addr} {n c : Nat} {l : List (List UInt8)} (h : OwnL w (.slice A n c) l) {j : Nat} (hj : j < l.length) : ∃ b off, A = some ⟨b, off, none⟩ ∧ w.cell? ⟨b, off + j, none⟩ = some (.string ⟨(l.getD j []).toArray⟩) := by
 obtain ⟨A', cap, hv, h1, h2, h3⟩ := h
 injection hv with e1 e2 e3
 subst e1
 rcases h3 with ⟨rfl, h3⟩ | ⟨g, off, cur, rfl, hg, h4, h5⟩
 ·rw [strVals_length] at h1; omega
 ·refine ⟨g, off, rfl, ?_⟩
  have hb : Bk w g 9 cur := hg
  rw [hb.cell]
  have := strVals_get l hj
  rw [← h5, strVals_length, List.getElem?_take, if_pos hj, List.getElem?_drop] at this
  simpa using this
theorem strParts : ∃ i, Tryz.prog.info? 9 = some i ∧ i.zero = some (.string ByteArray.empty) ∧ i.size = 1 ∧ i.bytes = 16 := info_parts (by kernel_rfl)
theorem one_str (w : World) (x : Value) : At (w.alloc (.cells #[x] 9)) (some ⟨w.heap.size, 0, none⟩) [x] :=
 At.of_bk (n := 1) (xs := [x]) (Bk.new w 9 #[x]) (by simp)
theorem cut_back {w W : World} {X B : Option Addr} {l m : List UInt8} (h : Bytes W X m) (hm : l = [] → m = []) (hf : Fr [] w W) (hb : Bytes w B l) (hx : ∀ b, X = some b → ∃ a', B = some a' ∧ b.block = a'.block) : Bytes w X m := by
 rcases h with h | ⟨a1, rfl, _, hcs⟩
 ·exact .inl h
 ·rcases hb with hb | ⟨a2, rfl, h2, _⟩
  ·have hl : l = [] := by simpa [byteVals] using hb
   left
   rw [hm hl]; rfl
  ·obtain ⟨a', e1, e2⟩ := hx a1 rfl
   injection e1 with e1
   subst e1
   have hlt : a1.block < w.heap.size := by rw [e2]; exact h2
   exact .inr ⟨a1, rfl, hlt, fun j u hu => (hf.cell (p := a1.add j) (by rw [blk_add]; exact hlt) (by simp)).symm.trans (hcs j u hu)⟩
def SplG (w0 : World) (s : Sep) (k c : Int) (f : Value) (all : List (List UInt8)) (v1 v8 : Value) (wr : World) : Prop :=
 ∃ (A : Option Addr) (bs : List UInt8) (cp : Nat) (l : List (List UInt8)), v1 = .slice A bs.length cp ∧ Bytes w0 A bs ∧ (A = none → cp = 0) ∧ (∀ a, A = some a → a.block < w0.heap.size) ∧ bs.length ≤ cp ∧ OwnL wr v8 l ∧ (∀ g, v8.ownBlock = some g → w0.heap.size < g) ∧
  Fr [] w0 wr ∧ Bk wr w0.heap.size 62 #[.int .i64 k, .int .u8 c, f] ∧ l ++ recsG s bs = all ∧ bs.length + l.length ≤ 10000 ∧ w0.heap.size < wr.heap.size
set_option maxRecDepth 100000 in
set_option maxHeartbeats 8000000 in
theorem rsplit_g {w : World} {A : Option Addr} {n cp : Nat} {bs : List UInt8} (rs : List UInt8) (hl : rs.length ≤ 12) (hg : GlobOk w) (ht : ErrT w) (s : Sep) (hrs : readS rs = some s) (hn : bs.length = n) (h : Bytes w A bs) (hA : A = none → cp = 0) (hlt : ∀ a, A = some a → a.block < w.heap.size) (hc : n ≤ cp) (hm : n ≤ 10000) :
    Calls Tryz.prog 11 #[.string ⟨rs.toArray⟩, .slice A n cp] w fun e w' => ∃ v, e = .returned (.tuple #[v, .nilIface]) ∧ OwnL w' v (recsG s bs) ∧ (∀ g, v.ownBlock = some g → w.heap.size ≤ g) ∧ Fr [] w w' := by
 obtain ⟨i0, hi0, hz0, hz1, hz2⟩ := u8parts
 obtain ⟨j0, hj0, hy0, hy1, hy2⟩ := strParts
 subst hn
 have HRD := Lib.hid (read_any rs hl hg ht)
 rw [hrs] at HRD
 have HH := Lib.hid h; have HG := Lib.hid hg; have HLT := Lib.hid hlt
 clear h hg ht hlt hrs
 go_enter Tryz.func11, Tryz.ntmps11
 go_wp2_with fail
 go_at_call 31
 refine HRD.out.mono ?_
 rintro e w1 ⟨hf, k, c, f, rfl, hv, hs⟩
 have hp : ∃ p, f = .pointer p := by
  cases s with
  | para => exact ⟨none, hv.2⟩
  | one x => exact ⟨none, hv.2.2⟩
  | expr L =>
   obtain ⟨-, lo, fb, h2, -⟩ := hv
   exact ⟨_, h2⟩
 obtain ⟨p, rfl⟩ := hp
 have HF1 := Lib.hid hf
 have HH1 := Lib.hid (At.fr_nil HH.out hf)
 have HV := Lib.hid hv; have HSO := Lib.hid hs; have HG1 := Lib.hid (HG.out.fr hf)
 have HLT1 : Hid (∀ a, A = some a → a.block < w1.heap.size) := Lib.hid (fun a ha => Nat.lt_of_lt_of_le (HLT.out a ha) hf.size)
 clear hf HH hv hs
 go_wp2_with fail
 go_loopw [1, 8] (SplG w1 s k c (.pointer p) (recsG s bs)) (fun v1 _ _ => match v1 with | .slice _ n _ => n | _ => 0)
 case atStart =>
  have hb := Bk.new w1 62 #[.int .i64 k, .int .u8 c, .pointer p]
  exact ⟨A, bs, cp, [], rfl, HH1.out, hA, HLT1.out, hc, Own.nil_ _ _, by simp [Value.ownBlock], (Fr.refl _ _).alloc _, hb, by simp, by simp; omega, by simp⟩
 case round =>
  obtain ⟨B, cs, cq, l, rfl, hb, hB, hBlt, hcq, ho, hfr, hf, hsb, hq, hlen, hsz⟩ := hrel
  obtain ⟨L, lc, rfl, hl1, hl2, -, -⟩ := OwnL.val ho
  have HB := Lib.hid hb; have HFR := Lib.hid hfr; have HF := Lib.hid hf; have HQ := Lib.hid hq; have HO := Lib.hid ho; have HS := Lib.hid hsz; have HBL := Lib.hid hBlt
  have HSB := Lib.hid hsb
  have HFST := Lib.hid (first_gen (hsb.cell_ (i := 0) rfl) (hsb.cell_ (i := 1) rfl) (hsb.cell_ (i := 2) rfl) (HV.out.fr_nil hf) HSO.out rfl (At.fr_nil hb hf) hB hcq (fun a ha => Nat.lt_of_lt_of_le (hBlt a ha) hf.size) (by omega) (HG1.out.fr hf) true)
  clear hb hfr hf hq ho hsz hsb hBlt
  unfold maxLen at hl2
  go_wp2_with fail
  go_at_call 32
  refine HFST.out.mono ?_
  rintro e w2 ⟨rfl, hf2⟩
  have HF2 := Lib.hid hf2
  have HO2 : Hid (OwnL w2 (.slice L l.length lc) l) := Lib.hid (Own.fr HO.out hf2 (by simp))
  have HSB2 := Lib.hid (HSB.out.fr hf2 (by simp))
  have HBW := Lib.hid (At.fr_nil HB.out (HF.out.trans hf2))
  clear hf2 HFST HSB HO
  cases hfi : firstG s cs true with
  | none =>
   have hfin : OwnL w2 (.slice L l.length lc) (recsG s bs) := by rw [← HQ.out, recsG_none hfi, List.append_nil]; exact HO2.out
   have HFIN := Lib.hid hfin; clear hfin hfi
   unfold ansG
   go_wp2_with fail
   go_ret2
   exact ⟨_, rfl, HFIN.out, fun g hg => by have := HFR.out g hg; have := HF1.out.size; omega, HF1.out.trans (HF.out.trans HF2.out)⟩
  | some q =>
   obtain ⟨fr, tb, nx⟩ := q
   obtain ⟨b1, b2, b3, b4⟩ := first_bounds HSO.out hfi
   have HE1 := Lib.hid (recsG_some HSO.out hfi)
   clear hfi
   have hlx := byteVals_length cs
   unfold ansG
   obtain ⟨T, hT⟩ : ∃ T, T = (cs.drop fr).take (tb - fr) := ⟨_, rfl⟩
   have hTl : T.length = tb - fr := by rw [hT, List.length_take, List.length_drop]; omega
   rw [← hT] at HE1
   have HT := Lib.hid hT
   clear hT
   go_wp2_with first
    | (refine wpList_cut rfl 34 (.tmp 32) (some (.tmp 33)) (some (.tmp 34)) none rfl 5 i0 Tryz.underlying34 hi0 hz1 B cs.length cq (by rfl) (byteVals cs) HBW.out hlx hcq hB fr tb cq (.inr (by rfl)) (.inr (by rfl)) (.inl ⟨by rfl, rfl⟩) (by omega) (by omega) (Nat.le_refl _) (by omega) ?_; intro X1 hX1 hX1n hX1b; have HX1 : Hid (At w2 X1 (byteVals T)) := Lib.hid (by have := hX1; rw [HT.out]; simpa [byteVals, List.map_take, List.map_drop] using this); clear hX1 hX1n hX1b)
    | (refine wpList_str rfl 34 9 (.tmp 35) rfl 5 Tryz.underlying34 Tryz.underlying5 Tryz.underlying9 X1 _ _ (by rfl) T HX1.out hTl ?_)
    | (at_builtin; refine wpList_append_OwnS rfl (.tmp 31) (.tmp 37) 32 rfl 9 j0 _ Tryz.underlying32 hj0 hy0 hy1 rfl (.slice L l.length lc) (strVals l) l.length (strVals_length l) (by rfl) (Own.fr HO2.out ((Fr.refl [] w2).alloc _) (by simp)) (some ⟨w2.heap.size, 0, none⟩) 1 1 (by rfl) [.string ⟨T.toArray⟩] (one_str w2 _) rfl (by simp [Value.oneCell']) (by unfold maxLen; omega) (by rw [hy2]; omega) ?_; intro A5 c5 w5 ho5 hg5 hl5; have HO5 := Lib.hid ho5; have HG5 := Lib.hid hg5; have HL5 := Lib.hid hl5; clear ho5 hg5 hl5; have HF5 : Hid (Fr [] w1 w5) := Lib.hid (((HF.out.trans HF2.out).trans ((Fr.refl [] w2).alloc _)).grown HG5.out (fun g hg => .inr (Nat.le_of_lt (HFR.out g hg)))); have HB5 : Hid (Bytes w5 B cs) := Lib.hid (At.fr_nil HB.out HF5.out))
    | (refine wpList_cut rfl 34 (.tmp 39) (some (.tmp 40)) none none rfl 5 i0 Tryz.underlying34 hi0 hz1 B cs.length cq (by rfl) (byteVals cs) HB5.out hlx hcq hB nx cs.length cq (.inr (by rfl)) (.inl ⟨by rfl, rfl, rfl⟩) (.inl ⟨by rfl, rfl⟩) (by omega) hcq (Nat.le_refl _) (Nat.le_refl _) ?_; intro X2 hX2 hX2n hX2b; have HX2 := Lib.hid hX2; clear hX2)
   go_roundw
   case rel =>
    have hX2 : Bytes w5 X2 (cs.drop nx) := by
     have := HX2.out
     rw [List.take_of_length_le (by rw [List.length_drop, hlx]; exact Nat.le_refl _)] at this
     simpa [Bytes, byteVals, List.map_drop] using this
    have hlen2 : (cs.drop nx).length = cs.length - nx := List.length_drop
    have hs2 : wr.heap.size ≤ w2.heap.size := HF2.out.size
    have k0 : wr.heap.size ≤ w5.heap.size := by have := ((Fr.refl [] w2).alloc (Obj.cells #[Value.string ⟨T.toArray⟩] 9)).size; have := HG5.out.size; omega
    have hsb5 : Bk w5 w1.heap.size 62 #[.int .i64 k, .int .u8 c, .pointer p] := (HSB2.out.fr ((Fr.refl [] w2).alloc _) (by simp)).fr ((Fr.refl (Value.slice L l.length lc).ownBlock.toList _).grown HG5.out (fun g hg => .inl (by simpa using hg))) (fun hm => by have := HFR.out _ (by simpa using hm); omega)
    refine ⟨X2, cs.drop nx, cq - nx, l ++ [T], by rw [hlen2], cut_back hX2 (by rintro rfl; simp) HF5.out HB.out hX2b, hX2n, fun a ha => ?_, by rw [hlen2]; omega, ?_, ?_, HF5.out, hsb5, ?_, ?_, ?_⟩
    ·obtain ⟨a', h1, h2⟩ := hX2b a ha
     rw [h2]; exact HBL.out a' h1
    ·have := HO5.out; unfold OwnL; rw [strVals_append]; exact this
    ·intro g hg
     rcases HL5.out with e | e
     ·exact HFR.out g (by rw [← e]; exact hg)
     ·rw [hg] at e; injection e with e; have := HS.out; simp at e; omega
    ·rw [List.append_assoc, List.singleton_append, ← HE1.out]; exact HQ.out
    ·rw [hlen2]; simp; omega
    ·have := HS.out; omega
   case measure => first | (simp; done) | (simp; omega)
end Go.Proofs.YtfbmogccmlikaaaGreatDoor.G
namespace Go.Proofs.YtfbmogccmlikaaaGreatDoor.G
open Go.RowKit
set_option linter.unusedVariables false
set_option linter.unusedSimpArgs false
def Inv (s : Sep) (all : List UInt8) (got : List (List UInt8)) (bs : List UInt8) (en : Bool) : Prop := ∀ m, (en = true → m = []) → recsG s (all ++ m) = got ++ recsG s (bs ++ m)
theorem Inv.take {s : Sep} {all bs : List UInt8} {got : List (List UInt8)} (h : Inv s all got bs false) (t : List UInt8) : Inv s (all ++ t) got (bs ++ t) false := fun m _ => by
 rw [List.append_assoc, List.append_assoc]
 exact h (t ++ m) (fun e => by cases e)
theorem Inv.close {s : Sep} {all bs : List UInt8} {got : List (List UInt8)} (h : Inv s all got bs false) : Inv s all got bs true := fun m _ => h m (fun e => by cases e)
theorem recsG_nil {s : Sep} (hs : s.ok) : recsG s [] = [] := by
 cases h : firstG s [] true with
 | none => exact recsG_none h
 | some q =>
  obtain ⟨f, t, x⟩ := q
  obtain ⟨-, -, h1, h2⟩ := first_bounds hs h
  simp at h1; omega
theorem Inv.end_ {s : Sep} (hs : s.ok) {all : List UInt8} {got : List (List UInt8)} {en : Bool} (h : Inv s all got [] en) (he : en = true) : recsG s all = got := by
 have := h [] (fun _ => rfl)
 rwa [List.append_nil, List.append_nil, recsG_nil hs, List.append_nil] at this
theorem next_cases {s : Sep} (hs : s.ok) (x : Cu) :
    (∃ t y, nextG s x = (some t, false, y) ∧ y.en = x.en ∧ y.room = x.room ∧ y.bs.length < x.bs.length ∧ ∀ all got, Inv s all got x.bs x.en → Inv s all (got ++ [t]) y.bs y.en) ∨
    (∃ y, nextG s x = (none, true, y)) ∨
    (∃ y, nextG s x = (none, false, y) ∧ y.en = x.en ∧ y.room = x.room ∧ y.bs.length ≤ x.bs.length ∧ (x.en = true → y.bs = []) ∧ ∀ all got, Inv s all got x.bs x.en → Inv s all got y.bs y.en) := by
 cases hf : firstG s x.bs x.en with
 | some p =>
  obtain ⟨f, t, n⟩ := p
  obtain ⟨b1, b2, b3, b4⟩ := first_bounds hs hf
  have key : nextG s x = (some ((x.bs.drop f).take (t - f)), false, { x with bs := x.bs.drop n }) := by unfold nextG; rw [hf]
  refine .inl ⟨_, _, key, rfl, rfl, ?_, fun all got hi m hm => ?_⟩
  ·show (x.bs.drop n).length < _
   rw [List.length_drop]; omega
  ·have h1 := hi m hm
   rw [h1, List.append_assoc]
   congr 1
   show recsG s (x.bs ++ m) = [_] ++ recsG s (x.bs.drop n ++ m)
   cases hen : x.en with
   | false =>
    rw [hen] at hf
    rw [recsG_more hs hf m]; rfl
   | true =>
    rw [hen] at hf
    obtain rfl := hm hen
    rw [List.append_nil, List.append_nil, recsG_some hs hf]; rfl
 | none =>
  right
  by_cases hen : x.en = true
  ·have key : nextG s x = (none, false, { x with bs := [] }) := by unfold nextG; rw [hf]; dsimp only; rw [if_pos hen]
   refine .inr ⟨_, key, rfl, rfl, by simp, fun _ => rfl, fun all got hi m hm => ?_⟩
   obtain rfl := hm hen
   rw [hi [] (fun _ => rfl)]
   rw [hen] at hf
   show got ++ recsG s (x.bs ++ []) = got ++ recsG s ([] ++ [])
   rw [List.append_nil, List.append_nil, recsG_none hf, recsG_nil hs]
  ·have hen' : x.en = false := by simpa using hen
   by_cases hl : x.room ≤ ((skipG s x.bs).length : Int)
   ·exact .inl ⟨_, by unfold nextG; rw [hf]; dsimp only; rw [if_neg hen, if_pos hl]⟩
   ·have key : nextG s x = (none, false, { x with bs := skipG s x.bs }) := by unfold nextG; rw [hf]; dsimp only; rw [if_neg hen, if_neg hl]
    refine .inr ⟨_, key, rfl, rfl, skipG_len _ _, fun e => absurd e hen, fun all got hi m hm => ?_⟩
    rw [hi m hm]
    show got ++ recsG s (x.bs ++ m) = got ++ recsG s (skipG s x.bs ++ m)
    rw [recsG_skipG]
def RI (w : World) (B g q r : Nat) (s : Sep) (k lo hi room idle : Int) (x : Cu) (st : Int) : Prop :=
 ∃ (v : Value) (last : Int), GCv w B g q r v x s lo hi room [] false 0 0 st last idle ∧ x.room = k ∧ (x.bs.length : Int) ≤ k
section
variable {w w' : World} {B g q r : Nat} {s : Sep} {k lo hi room idle : Int} {x : Cu} {st : Int}
theorem RI.fr_nil (h : RI w B g q r s k lo hi room idle x st) (hf : Fr [] w w') : RI w' B g q r s k lo hi room idle x st := by
 obtain ⟨v, last, h1, h2⟩ := h
 exact ⟨v, last, h1.fr_nil hf, h2⟩
theorem GCv.mono {B' : Nat} {v : Value} {bs : List UInt8} {ab : Bool} {qu go last : Int} (h : GCv w B g q r v x s lo hi room bs ab qu go st last idle) (hB : B' ≤ B) : GCv w B' g q r v x s lo hi room bs ab qu go st last idle :=
 { cn := h.cn, cu := h.cu, qe := h.qe, sp := h.sp, bg := Nat.le_trans hB h.bg, bq := Nat.le_trans hB h.bq, br := Nat.le_trans hB h.br, bv := fun k hk => Nat.le_trans hB (h.bv k hk) }
def RTake (w : World) (B g q r : Nat) (s : Sep) (k lo hi room idle : Int) (x : Cu) (xs : List UInt8) (e : Ending) (w' : World) : Prop :=
 ∃ (kk : Nat) (y : Cu), e = .returned (.int .i64 (kk : Int)) ∧ kk ≤ xs.length ∧ BK B w w' ∧ RI w' B g q r s k lo hi room idle y 0 ∧ y.bs = x.bs ++ xs.take kk ∧ y.en = false
theorem r_take (h : RI w B g q r s k lo hi room idle x 0) (hen : x.en = false) (hB : B ≤ w.heap.size) (hk : 1 ≤ k ∧ k ≤ 4096) {bA : Option Addr} {xs : List UInt8} {bn bc : Nat} (hn : xs.length = bn) (hby : Bytes w bA xs) (hbc : bn ≤ bc) (hbl : bn ≤ 1000) :
    Calls Tryz.prog 8 #[.pointer (some ⟨g, 0, none⟩), .int .i64 0, .slice bA bn bc, .bool false] w (RTake w B g q r s k lo hi room idle x xs) := by
 obtain ⟨v, last, h1, h2, h3⟩ := h
 have hfr : freeM x = x.room - x.bs.length := by unfold freeM; rw [hen]; rfl
 obtain ⟨kk, hkk⟩ : ∃ kk : Nat, (kk : Int) = min (bn : Int) (if false = true then 0 else freeM x) := by
  refine ⟨(min (bn : Int) (if false = true then 0 else freeM x)).toNat, Int.toNat_of_nonneg ?_⟩
  rw [if_neg (by simp), hfr]; omega
 have hkk2 := hkk
 rw [if_neg (by simp), hfr] at hkk2
 refine (take_g h1 hB (by omega) (by omega) 0 (by omega) hn hby hbc hbl kk hkk false).mono ?_
 rintro e w2 ⟨rfl, ⟨v', last', hc⟩, hb⟩
 rw [if_neg (by simp), if_neg (by simp)] at hc
 refine ⟨kk, _, rfl, by omega, hb, ⟨v', last', hc, h2, ?_⟩, rfl, hen⟩
 show ((x.bs ++ xs.take kk).length : Int) ≤ k
 rw [List.length_append, List.length_take]
 omega
def REnd (w : World) (B g q r : Nat) (s : Sep) (k lo hi room idle : Int) (x : Cu) (e : Ending) (w' : World) : Prop :=
 ∃ y : Cu, e = .returned (.int .i64 0) ∧ BK B w w' ∧ RI w' B g q r s k lo hi room idle y 1 ∧ y.bs = x.bs ∧ y.en = true
theorem r_end (h : RI w B g q r s k lo hi room idle x 0) (hen : x.en = false) (hB : B ≤ w.heap.size) (hk : 1 ≤ k ∧ k ≤ 4096) :
    Calls Tryz.prog 8 #[.pointer (some ⟨g, 0, none⟩), .int .i64 0, .slice none 0 0, .bool true] w (REnd w B g q r s k lo hi room idle x) := by
 obtain ⟨v, last, h1, h2, h3⟩ := h
 have hfr : freeM x = x.room - x.bs.length := by unfold freeM; rw [hen]; rfl
 refine (take_g h1 hB (by omega) (by omega) 0 (by omega) (xs := []) (bn := 0) (bA := none) (bc := 0) rfl (.inl rfl) (by omega) (by omega) 0 (by rw [if_neg (by simp), hfr]; omega) true).mono ?_
 rintro e w2 ⟨rfl, ⟨v', last', hc⟩, hb⟩
 rw [if_pos ⟨rfl, rfl⟩, if_pos ⟨rfl, rfl⟩] at hc
 have hx : x.bs ++ ([] : List UInt8).take 0 = x.bs := by simp
 rw [hx] at hc
 exact ⟨_, rfl, hb, ⟨v', last', hc, h2, h3⟩, rfl, rfl⟩
theorem r_record (h : RI w B g q r s k lo hi room idle x st) (hst : st ≤ 1) (hB : B ≤ w.heap.size) (hk : 1 ≤ k ∧ k ≤ 4096) (hs : s.ok) (hg : GlobOk w) :
    Calls Tryz.prog 9 #[.pointer (some ⟨g, 0, none⟩)] w fun e w' => e = .returned (recV (nextG s x).1 (nextG s x).2.1) ∧ BK B w w' ∧ RI w' B g q r s k lo hi room idle (nextG s x).2.2 st := by
 obtain ⟨v, last, h1, h2, h3⟩ := h
 obtain ⟨-, -, -, hr, hl, -⟩ := nextG_same hs x
 refine (record_g h1 hB hst hs hg (by omega)).mono ?_
 rintro e w2 ⟨rfl, ⟨v', hc⟩, hb⟩
 exact ⟨rfl, hb, v', last, hc, by rw [hr]; exact h2, by omega⟩
set_option maxRecDepth 100000 in
theorem r_ended (h : RI w B g q r s k lo hi room idle x 1) (hen : x.en = true) (hbs : x.bs = []) :
    Calls Tryz.prog 12 #[.pointer (some ⟨g, 0, none⟩)] w fun e w' => e = .returned (.bool true) ∧ w = w' := by
 obtain ⟨v, last, h1, -⟩ := h
 obtain ⟨c0, c1, c2, -, -⟩ := h1.cells
 have hn := ended_any h1.cu
 rw [hen, hbs] at hn
 have HN := Lib.hid hn
 clear h1 hn hen hbs
 go_enter Tryz.func12, Tryz.ntmps12
 go_wp2_with fail
 go_at_call 33
 refine HN.out.mono ?_
 rintro e w2 ⟨rfl, rfl⟩
 dsimp only [List.isEmpty, Bool.and_self]
 go_wp2_with fail
 go_ret
 exact ⟨rfl, rfl⟩
theorem OwnL.bk {L : Value} {l : List (List UInt8)} (h : OwnL w L l) (hk : BK B w w') : OwnL w' L l := by
 refine Own.kept h (fun b hb => ?_)
 obtain ⟨A, cap, rfl, -, -, ⟨rfl, -⟩ | ⟨g', off, cur, rfl, hg, -⟩⟩ := h
 ·simp [Value.ownBlock] at hb
 ·simp [Value.ownBlock] at hb
  subst hb
  exact (hk.2 _ _ hg : w'.heap[g']? = _).trans (hg : w.heap[g']? = _).symm
end
theorem ri_off {w w' : World} {B g q r : Nat} {s : Sep} {k lo hi room idle : Int} {x : Cu} {st : Int} {l : List Nat} (h : RI w B g q r s k lo hi room idle x st) (hf : Fr l w w') (hl : ∀ b ∈ l, ∃ cs, Bk w b 9 cs) : RI w' B g q r s k lo hi room idle x st := by
 obtain ⟨v, last, h1, h2⟩ := h
 have off : ∀ {b : Nat} {t : TypeId} {cs : Array Value}, Bk w b t cs → t ≠ 9 → b ∉ l := fun hb ht hm => by
  obtain ⟨ds, hd⟩ := hl _ hm
  exact hb.ne_ hd ht rfl
 obtain ⟨qs, hq⟩ := h1.que_bk
 obtain ⟨A, c, q1, q2, q3, q4, q5, q6, q7⟩ := h1.qe
 refine ⟨v, last, { cn := h1.cn.fr hf (off h1.cn (by decide)), cu := ⟨h1.cu.1.fr hf (off h1.cu.1 (by decide)), Own.fr h1.cu.2 hf (fun b hb => ?_)⟩, qe := ⟨A, c, q1.fr hf (off q1 (by decide)), .inl rfl, q3, q4, q5, q6, q7⟩, sp := h1.sp.off hf (fun b hb => ?_), bg := h1.bg, bq := h1.bq, br := h1.br, bv := h1.bv }, h2⟩
 ·obtain ⟨cs, hc⟩ := own_u8 h1.cu.2 hb
  exact off hc (by decide)
 ·obtain ⟨ds, hd⟩ := hl _ hb
  exact ⟨_, _, hd, by decide, by decide⟩
theorem str_bk {w : World} {L : Value} {l : List (List UInt8)} (h : OwnL w L l) {b : Nat} (hb : L.ownBlock = some b) : ∃ cs, Bk w b 9 cs := by
 obtain ⟨A, cap, rfl, -, -, ⟨rfl, -⟩ | ⟨g', off, cur, rfl, hg, -⟩⟩ := h
 ·simp [Value.ownBlock] at hb
 ·simp [Value.ownBlock] at hb
  subst hb
  exact ⟨cur, hg⟩
def ORel (V : World) (B g q r : Nat) (s : Sep) (k lo hi room idle : Int) (n : Nat) (v9 v10 v11 : Value) (wr : World) : Prop :=
 ∃ (i : Nat) (all : List UInt8) (got : List (List UInt8)) (x : Cu) (st : Int), v11 = .int .i64 (i : Int) ∧ v9 = .string ⟨all.toArray⟩ ∧ OwnL wr v10 got ∧ (∀ b, v10.ownBlock = some b → B ≤ b) ∧ RI wr B g q r s k lo hi room idle x st ∧ Below B V wr ∧
  Inv s all got x.bs x.en ∧ all.length ≤ 60 * i ∧ got.length + x.bs.length ≤ all.length ∧ i ≤ n + 1 ∧ (i ≤ n → st = 0 ∧ x.en = false) ∧ (n < i → st = 1 ∧ x.en = true ∧ x.bs = [])
def IRel (V : World) (B g q r : Nat) (s : Sep) (k lo hi room idle : Int) (all : List UInt8) (en : Bool) (st : Int) (v10 v13 : Value) (wr : World) : Prop :=
 ∃ (got : List (List UInt8)) (x : Cu) (more : Bool), v13 = .bool more ∧ OwnL wr v10 got ∧ (∀ b, v10.ownBlock = some b → B ≤ b) ∧ RI wr B g q r s k lo hi room idle x st ∧ Below B V wr ∧
  Inv s all got x.bs x.en ∧ x.en = en ∧ got.length + x.bs.length ≤ all.length ∧ (more = false → en = true → x.bs = [])
end Go.Proofs.YtfbmogccmlikaaaGreatDoor.G
namespace Go.Proofs.YtfbmogccmlikaaaGreatDoor.G
open Go.RowKit Go.ChangeShapes Go.WideShapes Go.ChangeAt Go.Deep
set_option linter.unusedVariables false
set_option linter.unusedSimpArgs false
theorem wpList_bytesL {P : Program} {w : World} {ops : Array Oper} {rest : List Oper} {o : Oper} {a : Act} {Q : Exit → Act → World → Prop} (hgd : Region.wanted o (yielded ops a.tmps) = true) (src dst : TypeId) (x : Operand)
    (ho : o.op = .convert src dst x) (e : TypeId) (hs : P.underlying src = some .string) (hd : P.underlying dst = some (.slice e)) (he : P.underlying e = some (.int .u8))
    (s : ByteArray) (hxv : a.eval x = .string s) (hsz : s.size ≤ maxLen)
    (hK : ∀ A' c' w', At w' A' (byteVals s.data.toList) → s.size ≤ c' → c' ≤ maxLen → A' = some ⟨w.heap.size, 0, none⟩ → Fr [] w w' → w.heap.size < w'.heap.size → wpList P ops Q rest (a.put o.dst (.slice A' s.size c')) w') : wpList P ops Q (o :: rest) a w := by
 refine wpList_wanted hgd fun K hKK => ?_
 have hge := grownCap_ge w s.size 0 e
 have hle := grownCap_le_maxLen w s.size 0 e hsz
 obtain ⟨w', hr, hw'⟩ := run_mark_stringish (P := P) (w := w.drew.alloc (.cells ((s.data.map fun b => Value.int .u8 b.toNat) ++ Array.replicate (grownCap w s.size 0 e - s.size) (.int .u8 0)) e)) ⟨w.heap.size, 0, none⟩
 have hrun : (convert src dst (.string s)).run P w = .ok (.slice (some ⟨w.heap.size, 0, none⟩) s.size (grownCap w s.size 0 e)) w' := by
  have hr' := hr
  unfold grownCap at hr'
  simp [convert, run_underlying hs, run_underlying hd, run_underlying he, Conv.stringToBytes, Question.forced, newRow, grownCap, hr']
 have hat : At (w.drew.alloc (.cells ((s.data.map fun b => Value.int .u8 b.toNat) ++ Array.replicate (grownCap w s.size 0 e - s.size) (.int .u8 0)) e)) (some ⟨w.heap.size, 0, none⟩) (byteVals s.data.toList) := by
  refine At.of_bk (n := s.size) (Bk.new w.drew _ _) ?_
  have e2 : (s.data.map fun b => Value.int .u8 b.toNat).toList = byteVals s.data.toList := by simp [byteVals]
  have e3 : s.size = (byteVals s.data.toList).length := by rw [byteVals_length]; simp
  rw [Array.toList_append, e2, e3, List.take_left]
 unfold Oper.wp execOp
 simp only [ho, hxv, hrun, Sem.run_bind, Result.andThen_ok, Sem.run_pure]
 refine hKK _ _ (hK _ _ w' ?_ hge hle rfl ?_ ?_)
 ·rcases hw' with rfl | ⟨k, rfl⟩
  ·exact hat
  ·exact hat.freeze _ _
 ·have h0 : Fr [] w (w.drew.alloc (.cells ((s.data.map fun b => Value.int .u8 b.toNat) ++ Array.replicate (grownCap w s.size 0 e - s.size) (.int .u8 0)) e)) := (Fr.refl _ _).drew.alloc _
  rcases hw' with rfl | ⟨k, rfl⟩
  ·exact h0
  ·exact h0.trans' (Fr.freeze _ ⟨w.heap.size, k, none⟩ 1) (by simp)
 ·have h0 : w.heap.size < (w.drew.alloc (.cells ((s.data.map fun b => Value.int .u8 b.toNat) ++ Array.replicate (grownCap w s.size 0 e - s.size) (.int .u8 0)) e)).heap.size := by
   rw [World.size_alloc]; show w.heap.size < w.heap.size + 1; omega
  rcases hw' with rfl | ⟨k, rfl⟩
  ·exact h0
  ·exact Nat.lt_of_lt_of_le h0 (Fr.freeze _ ⟨w.heap.size, k, none⟩ 1).size
def lenOf : Value → Nat
 | .slice _ n _ => n
 | _ => 0
def oneOf : Value → Nat
 | .bool true => 1
 | _ => 0
set_option maxRecDepth 100000 in
set_option maxHeartbeats 16000000 in
theorem records_walk {w : World} (hg : GlobOk w) (ht : ErrT w) (rs : List UInt8) (k lo hi room idle : Int) {A : Option Addr} {n c : Nat} {KK M N : Nat → Int} {BA : Nat → Option Addr} {BC : Nat → Nat} {BB : Nat → List UInt8} {F : Nat → Bool} (h : K.ActS w A n KK M N BA BC BB F) (hn : n ≤ maxLen) (hbc : ∀ i, i < n → (BB i).length ≤ BC i ∧ (BA i = none → BC i = 0)) :
    Calls Tryz.prog 3 #[.string ⟨rs.toArray⟩, .agg #[.int .i64 k, .int .i64 lo, .int .i64 hi, .int .i64 room, .int .i64 idle], .slice A n c] w fun e w' => e = .returned (.bool true) ∧ Below w.heap.size w w' := by
 obtain ⟨i0, hi0, hz0, hz1, hz2⟩ := u8parts
 obtain ⟨j0, hj0, hy0, hy1, hy2⟩ := strParts
 obtain ⟨S, hS⟩ : ∃ S, S = (⟨rs.toArray⟩ : ByteArray) := ⟨_, rfl⟩
 obtain ⟨ln, hln⟩ : ∃ n, n = rs.length := ⟨_, rfl⟩
 have hsz : S.size = ln := by rw [hS, hln]; simp [ByteArray.size]
 rw [← hS]
 go_enter Tryz.func3, Tryz.ntmps3
 go_wp2_with fail
 go_at_call 5
 refine calls_gen fun V hV => ?_
 have hbx : Bk V w.heap.size 23 #[.int .i64 k, .int .i64 lo, .int .i64 hi, .int .i64 room, .int .i64 idle] := by rw [hV]; exact Bk.new _ _ _
 have hfV : Fr [] w V := by rw [hV]; exact (Fr.refl _ _).alloc _
 have HA := Lib.hid (K.ActS.fr h hfV); have HBX := Lib.hid hbx; have HFV := Lib.hid hfV
 have HG := Lib.hid (hg.fr hfV); have HT := Lib.hid (ht.fr hfV); have HBC := Lib.hid hbc
 have hxV : w.heap.size < V.heap.size := hbx.lt
 clear hV hbx h hfV hg ht hbc
 obtain ⟨B, hB⟩ : ∃ B, B = V.heap.size := ⟨_, rfl⟩
 rw [← hB] at hxV
 have FB : Hid (∀ W, Below B V W → Fr [] V W) := Lib.hid (fun W hW => by rw [hB] at hW; exact Fr.of_below hW)
 have FIN : Hid (∀ W, Below B V W → Below w.heap.size w W) := Lib.hid (fun W hW => HFV.out.below_nil.trans ((FB.out W hW).below_nil.mono HFV.out.size))
 have SZ : Hid (∀ W, Below B V W → B ≤ W.heap.size) := Lib.hid (fun W hW => by rw [hB]; exact hW.size)
 refine (K.awake_any V).mono ?_
 rintro e w1 ⟨rfl, hb1⟩
 rw [← hB] at hb1
 have HB1 := Lib.hid hb1; have HS := Lib.hid hS; have HLN := Lib.hid hln
 obtain ⟨bx, hbxe⟩ : ∃ bx, bx = w.heap.size := ⟨_, rfl⟩
 rw [← hbxe] at HBX hxV ⊢
 clear hb1 hB hS hln hbxe
 by_cases hl12 : ln ≤ 12
 case neg =>
  have t0 : decide ((12 : Int) < (ln : Int)) = true := decide_eq_true (by omega)
  have t0' : decide (12 < ln) = true := decide_eq_true (by omega)
  go_wp2_with fail
  go_ret
  exact ⟨rfl, FIN.out _ HB1.out⟩
 have t0 : decide ((12 : Int) < (ln : Int)) = false := decide_eq_false (by omega)
 have t0' : decide (12 < ln) = false := decide_eq_false (by omega)
 go_wp2_with fail
 go_at_call 6
 refine (K.few_any (K.ActS.fr HA.out (FB.out _ HB1.out)) hn).mono ?_
 rintro e w2 ⟨rfl, rfl⟩
 cases hfew : K.fewB n BB with
 | false =>
  clear hfew
  go_wp2_with fail
  go_ret
  exact ⟨rfl, FIN.out _ HB1.out⟩
 | true =>
  have hn40 : n ≤ 40 := by unfold K.fewB at hfew; simp at hfew; exact hfew.1
  have h60 : ∀ i, i < n → (BB i).length ≤ 60 := by unfold K.fewB at hfew; simp at hfew; exact hfew.2
  have H60 := Lib.hid h60
  have hb2 := HBX.out.fr (FB.out _ HB1.out) (by simp)
  have d0 := hb2.cell_ (i := 0) rfl; have d1 := hb2.cell_ (i := 1) rfl; have d2 := hb2.cell_ (i := 2) rfl; have d3 := hb2.cell_ (i := 3) rfl; have d4 := hb2.cell_ (i := 4) rfl
  clear hfew h60 hb2 hn
  go_wp2_with fail
  go_at_call 7
  rcases good_or k lo hi room idle with hgood | hbad
  case inr =>
   refine (K.cnew_bad w1 _ k lo hi room idle hbad).mono ?_
   rintro e w2 ⟨rfl, hf⟩
   have HF := Lib.hid hf
   unfold K.errV
   clear hbad hf
   go_wp2_with fail
   go_ret
   exact ⟨rfl, FIN.out _ (HB1.out.trans (HF.out.below_nil.mono (SZ.out _ HB1.out)))⟩
  have hroom : 0 ≤ room ∧ room ≤ 65536 := by unfold goodC at hgood; omega
  have hk4 : 1 ≤ k ∧ k ≤ 4096 := hgood.1
  have hnw := cnew_g rs (by rw [← HLN.out]; exact hl12) (HG.out.fr (FB.out _ HB1.out)) (HT.out.fr (FB.out _ HB1.out)) k lo hi room idle hgood
  rw [← HS.out] at hnw
  refine hnw.mono ?_
  rintro e w2 ⟨hf, hp⟩
  have HB2 := Lib.hid (HB1.out.trans (hf.below_nil.mono (SZ.out _ HB1.out)))
  cases hrs : readS rs with
  | none =>
   rw [hrs] at hp
   obtain ⟨t, u, rfl⟩ := hp
   clear hrs hf hnw hgood d0 d1 d2 d3 d4
   go_wp2_with fail
   go_ret
   exact ⟨rfl, FIN.out _ HB2.out⟩
  | some s =>
   rw [hrs] at hp
   obtain ⟨g, q, r, x, rfl, hc, hx1, hx2, hx3, hs⟩ := hp
   have hri : RI w2 B g q r s k lo hi room idle x 0 := ⟨_, 0, hc.mono (SZ.out _ HB1.out), hx1, by rw [hx2]; simp; omega⟩
   have HC := Lib.hid hri; have HSO := Lib.hid hs; have HRS := Lib.hid hrs; have HX := Lib.hid (And.intro hx2 hx3)
   clear hrs hf hnw hgood hc hx1 hx2 hx3 hri hs HB1 d0 d1 d2 d3 d4
   go_wp2_with fail
   go_loopw [9, 10, 11] (fun v9 v10 v11 wr => ORel V B g q r s k lo hi room idle n v9 v10 v11 wr) (fun _ _ v11 _ => n + 1 - (intOf v11).toNat)
   case atStart => exact ⟨0, [], [], x, 0, rfl, rfl, Own.nil_ _ _, by simp [Value.ownBlock], HC.out, HB2.out, fun m _ => by rw [HX.out.1]; rfl, by simp, by rw [HX.out.1]; simp, by omega, fun _ => ⟨rfl, HX.out.2⟩, fun h => by omega⟩
   case round =>
    clear HC HB2 HX x
    obtain ⟨i, all, got, x, st, rfl, rfl, ho, hob, hri, hbl, hinv, hal, hgl, hi1, hlo, hhi⟩ := hrel
    obtain ⟨L, lc, rfl, hl1, hl2, -, -⟩ := OwnL.val ho
    unfold maxLen at hl2
    have HO := Lib.hid ho; have HOB := Lib.hid hob; have HRI := Lib.hid hri; have HBL := Lib.hid hbl; have HINV := Lib.hid hinv
    clear ho hob hri hbl hinv
    by_cases hle : i ≤ n
    case neg =>
     obtain ⟨rfl, hen, hxb⟩ := hhi (by omega)
     have hleI : ¬ ((i : Int) ≤ (n : Int)) := by omega
     have hall : recsG s all = got := by
      have h := HINV.out
      rw [hxb] at h
      exact Inv.end_ HSO.out h hen
     have HEN := Lib.hid hen; have HXB := Lib.hid hxb; have HALL := Lib.hid hall
     obtain ⟨al, hale⟩ : ∃ a, a = all.length := ⟨_, rfl⟩
     have HAL := Lib.hid hale
     have hal2 : al ≤ 2460 := by omega
     clear hen hxb hall hlo hhi HINV hale
     obtain ⟨SA, hSA⟩ : ∃ S, S = (⟨all.toArray⟩ : ByteArray) := ⟨_, rfl⟩
     have hss : SA.size = al := by rw [hSA, HAL.out]; simp [ByteArray.size]
     have hsd : SA.data.toList = all := by rw [hSA]
     rw [← hSA]
     have HSD := Lib.hid hsd; have HSS := Lib.hid hss
     clear hSA hsd
     have hszm : SA.size ≤ maxLen := by rw [hss]; unfold maxLen; omega
     have HSP : Hid (∀ W A2 c2, Fr [] V W → Bytes W A2 all → A2 = some ⟨wr.heap.size, 0, none⟩ → wr.heap.size < W.heap.size ∨ all = [] → SA.size ≤ c2 → (∀ a, A2 = some a → a.block < W.heap.size) → Calls Tryz.prog 11 #[.string S, .slice A2 SA.size c2] W fun e w' => ∃ v, e = .returned (.tuple #[v, .nilIface]) ∧ OwnL w' v got ∧ (∀ g, v.ownBlock = some g → W.heap.size ≤ g) ∧ Fr [] W w') := Lib.hid (fun W A2 c2 hW hB hA2 _ hc2 hlt => by
      have := rsplit_g rs (by rw [← HLN.out]; exact hl12) (HG.out.fr hW) (HT.out.fr hW) s HRS.out (n := SA.size) (by rw [HSS.out, HAL.out]) hB (by rw [hA2]; simp) hlt hc2 (by rw [HSS.out]; omega)
      rw [← HS.out, HALL.out] at this
      exact this)
     obtain ⟨m, hm⟩ : ∃ m, m = got.length := ⟨_, rfl⟩
     have hm63 : m ≤ 9223372036854775807 := by omega
     rw [← hm] at hl1 HO HOB ⊢
     have HM := Lib.hid hm
     clear hm hgl
     clear hss
     go_upto_region 26 with (first
      | (refine wpList_bytesL rfl 9 34 (.tmp 97) rfl 5 Tryz.underlying9 Tryz.underlying34 Tryz.underlying5 SA (by rfl) hszm ?_; intro A2 cc2 w3 hat hge hle2 hA2 hfr hgrow; have hb3 := HBL.out.trans (hfr.below_nil.mono (SZ.out _ HBL.out)); have HSPX := Lib.hid (HSP.out w3 A2 cc2 (FB.out _ hb3) (by rw [HSD.out] at hat; exact hat) hA2 (.inl hgrow) hge (fun a ha => by rw [hA2] at ha; injection ha with ha; rw [← ha]; exact hgrow)); have HB3 := Lib.hid hb3; have HRI3 := Lib.hid (HRI.out.fr_nil hfr); have HO3 : Hid (OwnL w3 (.slice L m lc) got) := Lib.hid (Own.fr HO.out hfr (by simp)); clear hat hge hle2 hA2 hfr hgrow hb3)
      | (go_at_call 11; refine HSPX.out.mono ?_; rintro e w4 ⟨v2, rfl, ho2, hob2, hf4⟩; obtain ⟨L2, lc2, rfl, hl3, hl4, -, -⟩ := OwnL.val ho2; rw [← HM.out] at ho2 hl3 ⊢; have HO2 := Lib.hid ho2; have HB4 := Lib.hid (HB3.out.trans (hf4.below_nil.mono (SZ.out _ HB3.out))); have HRI4 := Lib.hid (HRI3.out.fr_nil hf4); have HO4 : Hid (OwnL w4 (.slice L m lc) got) := Lib.hid (Own.fr HO3.out hf4 (by simp)); unfold maxLen at hl4; clear ho2 hob2 hf4))
     clear HSPX HSP HRI3 HO3 HO HRI HB3 hszm
     have hn1 : ((m : Int) != (m : Int)) = false := by simp
     go_upto_region 29 with (go_at_call 12; refine (r_ended HRI4.out HEN.out HXB.out).mono ?_; rintro e w9 ⟨rfl, rfl⟩)
     clear hn1
     go_loopw [19] (fun v19 wz => ∃ j : Nat, v19 = .int .i64 (j : Int) ∧ j ≤ m ∧ Fr [] w4 wz) (fun v19 _ => m + 1 - (intOf v19).toNat)
     case atStart => exact ⟨0, rfl, Nat.zero_le _, Fr.refl _ _⟩
     case round =>
      obtain ⟨j, rfl, hj, hfr⟩ := hrel
      have HFR := Lib.hid hfr
      clear hfr
      rcases Nat.lt_or_ge j m with hjn | hjn
      ·have hjI : (j : Int) < (m : Int) := by omega
       obtain ⟨wd, hwd⟩ : ∃ wd, wd = wr.drew := ⟨_, rfl⟩
       have hfd : Fr [] w4 wd := by rw [hwd]; exact HFR.out.drew
       obtain ⟨b1, o1, rfl, c1⟩ := OwnL.cell (Own.fr HO4.out hfd (by simp)) (j := j) (by rw [← HM.out]; exact hjn)
       obtain ⟨b2, o2, rfl, c2⟩ := OwnL.cell (Own.fr HO2.out hfd (by simp)) (j := j) (by rw [← HM.out]; exact hjn)
       obtain ⟨T, hT⟩ : ∃ T : ByteArray, T = ⟨(got.getD j []).toArray⟩ := ⟨_, rfl⟩
       rw [← hT] at c1 c2
       have HFD := Lib.hid hfd
       clear hT hfd
       go_upto_region 31 with fail
       refine wp_region_M_ (G := fun a b => a = b) (S := fun W => W = wr.drew) ⟨fun _ => rfl, fun a b c h k => h.trans k, fun a b h k => k ▸ h, by kernel_rfl, fun _ _ d _ _ h => by cases d <;> exact h⟩ (by kernel_rfl) fun su => ?_
       have SU := Lib.hid su
       rw [← hwd] at SU ⊢
       have HS31 : Hid (wd = wd) := Lib.hid rfl
       clear su hwd
       refine M_move (i := 0) _ SU.out rfl rfl (by kernel_rfl) HS31.out rfl ?_
       simp only [Act.put, Act.eval, PE]
       refine M_move (i := 1) _ SU.out rfl rfl (by kernel_rfl) HS31.out rfl ?_
       simp only [Act.put, Act.eval, PE]
       refine M_val (i := 2) (v := .pointer (some ⟨b1, o1 + j, none⟩)) SU.out rfl (by kernel_rfl) HS31.out rfl (fun W hS => ?_) ?_
       ·obtain rfl := hS
        go_simp
        all_goals first | done | rfl | omega | (simp; done) | (simp; omega)
       simp only [Act.put, PU]
       refine M_val (i := 3) (v := .string T) SU.out rfl (by kernel_rfl) HS31.out rfl (fun W hS => ?_) ?_
       ·obtain rfl := hS
        go_simp
        all_goals first | done | rfl | omega | (simp; done) | (simp; omega)
       simp only [Act.put, PU]
       refine M_move (i := 4) _ SU.out rfl rfl (by kernel_rfl) HS31.out rfl ?_
       simp only [Act.put, Act.eval, PE]
       refine M_move (i := 5) _ SU.out rfl rfl (by kernel_rfl) HS31.out rfl ?_
       simp only [Act.put, Act.eval, PE]
       refine M_val (i := 6) (v := .pointer (some ⟨b2, o2 + j, none⟩)) SU.out rfl (by kernel_rfl) HS31.out rfl (fun W hS => ?_) ?_
       ·obtain rfl := hS
        go_simp
        all_goals first | done | rfl | omega | (simp; done) | (simp; omega)
       simp only [Act.put, PU]
       refine M_val (i := 7) (v := .string T) SU.out rfl (by kernel_rfl) HS31.out rfl (fun W hS => ?_) ?_
       ·obtain rfl := hS
        go_simp
        all_goals first | done | rfl | omega | (simp; done) | (simp; omega)
       simp only [Act.put, PU]
       refine M_val (i := 8) (v := .bool false) SU.out rfl (by kernel_rfl) HS31.out rfl (fun W hS => ?_) ?_
       ·obtain rfl := hS
        go_simp
        all_goals first | done | rfl | omega | (simp; done) | (simp; omega)
       simp only [Act.put, PU]
       refine wpAnyM_done (by kernel_rfl) (fun w' hG => ?_)
       obtain rfl := hG
       go_wp2_with fail
       go_roundw
       case rel => exact ⟨j + 1, by go_num, by omega, HFD.out⟩
       case measure => first | (simp [intOf]; done) | (simp [intOf]; omega)
      ·have hjI : ¬ ((j : Int) < (m : Int)) := by omega
       go_wp2_with fail
       go_ret
       exact ⟨rfl, FIN.out _ (HB4.out.trans (HFR.out.below_nil.mono (SZ.out _ HB4.out)))⟩
    obtain ⟨rfl, hen⟩ := hlo hle
    have hleI : (i : Int) ≤ (n : Int) := by omega
    clear hlo hhi
    by_cases hlt : i < n
    case' pos =>
     have hltI : (i : Int) < (n : Int) := by omega
     obtain ⟨b, off, rfl, hb, e0, e1, e2, e3V, e4, e5V, e6⟩ := HA.out i hlt
     have hbl := H60.out i hlt
     obtain ⟨hbci, hbna⟩ := HBC.out i hlt
     clear e0 e1 e2 e4 e6
     obtain ⟨bb, hbb⟩ : ∃ bb, bb = BB i := ⟨_, rfl⟩
     obtain ⟨bn, hbn⟩ : ∃ bn, bn = bb.length := ⟨_, rfl⟩
     rw [← hbb] at e5V e3V hbci hbl
     rw [← hbn] at e3V hbci hbl
     have HBN := Lib.hid hbn; have HE3 := Lib.hid e3V; have HE5 := Lib.hid e5V; have HBB := Lib.hid hb
     have HCE : Hid (∀ W, Below B V W → W.cell? ⟨b, off + i * 5 + 3, none⟩ = some (.slice (BA i) bn (BC i)) ∧ Bytes W (BA i) bb) := Lib.hid (fun W hW => ⟨((FB.out W hW).cell HBB.out (by simp)).trans HE3.out, At.fr_nil HE5.out (FB.out W hW)⟩)
     obtain ⟨e3, e5⟩ := HCE.out _ HBL.out
     have HY := Lib.hid e5
     clear hbb hbn e3V e5V hb e5
     go_upto_region 15 with (go_at_call 8; refine (r_take HRI.out hen (SZ.out _ HBL.out) hk4 HBN.out.symm HY.out hbci (by omega)).mono ?_; rintro e w3 ⟨kk, y, rfl, hkk, hbk, hri3, hy1, hy3⟩; have HB3 := Lib.hid (HBL.out.trans hbk.1); have HO3 := Lib.hid (OwnL.bk HO.out hbk); have HRI3 := Lib.hid hri3; have e3' := (HCE.out _ HB3.out).1; have HY3 := Lib.hid (HCE.out _ HB3.out).2; clear hbk hri3)
     have hkb : kk ≤ bn := by rw [HBN.out]; exact hkk
     have hlx : (byteVals bb).length = bn := by rw [byteVals_length]; exact HBN.out.symm
     have hyen : y.en = false := hy3
     have hinv2 : Inv s (all ++ bb.take kk) got y.bs y.en := by
      have h := HINV.out
      rw [hen] at h
      rw [hy1, hy3]
      exact h.take _
     have hgl2 : got.length + y.bs.length ≤ (all ++ bb.take kk).length := by rw [hy1, List.length_append, List.length_append]; omega
     have hal2 : (all ++ bb.take kk).length ≤ 60 * (i + 1) := by rw [List.length_append, List.length_take]; omega
     have HTK : Hid ((bb.take kk).length = kk) := Lib.hid (by rw [List.length_take]; have := HBN.out; omega)
     have HINV2 := Lib.hid hinv2
     clear hinv2 hy1 hy3 hkk e3 HRI HINV HO HY HE3 HE5 HBL
     go_upto_region 17 with (first
      | (refine wpList_cut rfl 34 (.tmp 70) none (some (.tmp 71)) none rfl 5 i0 Tryz.underlying34 hi0 hz1 (BA i) bn (BC i) (by rfl) (byteVals bb) HY3.out hlx hbci hbna 0 kk (BC i) (.inl ⟨rfl, rfl⟩) (.inr (by rfl)) (.inl ⟨by rfl, rfl⟩) (by omega) (by omega) (Nat.le_refl _) hkb ?_; intro X1 hX1 hX1n hX1b; have HX1 : Hid (At w3 X1 (byteVals (bb.take kk))) := Lib.hid (by have := hX1; simpa [byteVals, List.map_take] using this); clear hX1 hX1n hX1b)
      | (refine wpList_str rfl 34 9 (.tmp 72) rfl 5 Tryz.underlying34 Tryz.underlying5 Tryz.underlying9 X1 _ _ (by rfl) (bb.take kk) HX1.out (by first | exact HTK.out | (rw [Nat.sub_zero]; exact HTK.out)) ?_))
     obtain ⟨all2, hall2⟩ : ∃ a, a = all ++ bb.take kk := ⟨_, rfl⟩
     obtain ⟨SA, hSA⟩ : ∃ S : ByteArray, S = ⟨all2.toArray⟩ := ⟨_, rfl⟩
     rw [ba_append, ← hall2, ← hSA]
     rw [← hall2] at HINV2 hgl2 hal2
     have hcl : (i < n ∧ (0 : Int) = 0 ∧ y.en = false) ∨ (i = n ∧ (0 : Int) = 1 ∧ y.en = true) := .inl ⟨hlt, rfl, hyen⟩
     obtain ⟨st2, hst2⟩ : ∃ z : Int, z = 0 := ⟨_, rfl⟩
     rw [← hst2] at HRI3 hcl
     rw [show ((st2 : Int) = st2) = (st2 = 0) by rw [hst2]] at hcl
     have hst1 : st2 ≤ 1 := by omega
     have HSA := Lib.hid hSA
     clear hall2 hSA hltI hkb hlx HTK HY3 HBN HCE e3' hbci hbna hbl hyen hst2 HBB
    case' neg =>
     have hltI : ¬ ((i : Int) < (n : Int)) := by omega
     go_upto_region 17 with (go_at_call 8; refine (r_end HRI.out hen (SZ.out _ HBL.out) hk4).mono ?_; rintro e w3 ⟨y, rfl, hbk, hri3, hy1, hy3⟩; have HB3 := Lib.hid (HBL.out.trans hbk.1); have HO3 := Lib.hid (OwnL.bk HO.out hbk); have HRI3 := Lib.hid hri3; clear hbk hri3)
     have hinv2 : Inv s all got y.bs y.en := by
      have h := HINV.out
      rw [hen] at h
      rw [hy1, hy3]
      exact h.close
     have HINV2 := Lib.hid hinv2
     have hgl2 : got.length + y.bs.length ≤ all.length := by rw [hy1]; exact hgl
     have hal2 : all.length ≤ 60 * (i + 1) := by omega
     obtain ⟨all2, hall2⟩ : ∃ a, a = all := ⟨_, rfl⟩
     obtain ⟨SA, hSA⟩ : ∃ S : ByteArray, S = ⟨all2.toArray⟩ := ⟨_, rfl⟩
     rw [← hall2] at HINV2 hgl2 hal2
     rw [← hall2, ← hSA]
     have HSA := Lib.hid hSA
     obtain ⟨st2, hst2⟩ : ∃ z : Int, z = 1 := ⟨_, rfl⟩
     rw [← hst2] at HRI3
     have hcl : (i < n ∧ st2 = 0 ∧ y.en = false) ∨ (i = n ∧ st2 = 1 ∧ y.en = true) := .inr ⟨by omega, hst2, hy3⟩
     have hst1 : st2 ≤ 1 := by omega
     clear hinv2 hy1 hall2 hSA hltI HRI HINV HO HBL hst2 hy3
    all_goals
     have HCL := Lib.hid hcl
     obtain ⟨en2, hen2⟩ : ∃ e, y.en = e := ⟨_, rfl⟩
     rw [hen2] at HCL
     have HE2 := Lib.hid hen2
     have hal40 : all2.length ≤ 2460 := by omega
     clear hcl hen2 hen hgl hal hlt
     go_wp2_with fail
     go_loopw [10, 13] (fun v10 v13 wz => IRel V B g q r s k lo hi room idle all2 en2 st2 v10 v13 wz) (fun v10 v13 _ => 2 * (all2.length - lenOf v10) + oneOf v13)
     case atStart => exact ⟨got, y, true, rfl, HO3.out, HOB.out, HRI3.out, HB3.out, HINV2.out, HE2.out, hgl2, fun e => by cases e⟩
     case round =>
      clear HO3 HRI3 HB3 HINV2 HE2 hgl2 HOB hl1 hl2
      obtain ⟨got2, z, more, rfl, ho, hob, hri, hbl, hinv, hen, hgl, hmo⟩ := hrel
      obtain ⟨L3, lc3, rfl, hl1, hl2, -, -⟩ := OwnL.val ho
      unfold maxLen at hl2
      have HO := Lib.hid ho; have HOB := Lib.hid hob; have HRI := Lib.hid hri; have HBL := Lib.hid hbl; have HINV := Lib.hid hinv; have HMO := Lib.hid hmo; have HEN := Lib.hid hen
      clear ho hob hri hbl hinv hmo hen
      cases more with
      | false =>
       go_wp2_with fail
       go_roundw
       case rel =>
        refine ⟨i + 1, all2, got2, z, st2, by go_num, by rw [HSA.out], HO.out, HOB.out, HRI.out, HBL.out, HINV.out, by omega, hgl, by omega, fun h => ?_, fun h => ?_⟩
        ·rcases HCL.out with ⟨q1, q2, q3⟩ | ⟨q1, q2, q3⟩
         ·exact ⟨q2, by rw [HEN.out]; exact q3⟩
         ·omega
        ·rcases HCL.out with ⟨q1, q2, q3⟩ | ⟨q1, q2, q3⟩
         ·omega
         ·exact ⟨q2, by rw [HEN.out]; exact q3, HMO.out rfl q3⟩
       case measure => first | (simp [intOf]; done) | (simp [intOf]; omega)
      | true =>
       have HNX := Lib.hid (r_record HRI.out hst1 (SZ.out _ HBL.out) hk4 HSO.out (HG.out.fr (FB.out _ HBL.out)))
       have HNC := Lib.hid (next_cases HSO.out z)
       go_wp2_with fail
       go_at_call 9
       refine HNX.out.mono ?_
       rintro e w4 ⟨rfl, hbk, hri4⟩
       have HB4 := Lib.hid (HBL.out.trans hbk.1); have HO4 := Lib.hid (OwnL.bk HO.out hbk)
       rcases HNC.out with ⟨t, y, hn, h1, h2, h3, h4⟩ | ⟨y, hn⟩ | ⟨y, hn, h1, h2, h3, h4, h5⟩
       ·rw [hn] at hri4 ⊢
        have HRI4 := Lib.hid hri4; have HINV4 := Lib.hid (h4 _ _ HINV.out); have HEN4 : Hid (y.en = en2) := Lib.hid (by rw [h1]; exact HEN.out)
        clear hn hri4 h4 h1 h2 hbk HRI HINV HEN HO HBL HNC HNX HMO
        unfold recV
        go_wp2_with (at_builtin; refine wpList_append_OwnS rfl (.tmp 90) (.tmp 92) 32 rfl 9 j0 _ Tryz.underlying32 hj0 hy0 hy1 rfl (.slice L3 got2.length lc3) (strVals got2) got2.length (strVals_length got2) (by rfl) (Own.fr HO4.out ((Fr.refl [] w4).alloc _) (by simp)) (some ⟨w4.heap.size, 0, none⟩) 1 1 (by rfl) [.string ⟨t.toArray⟩] (one_str w4 _) rfl (by simp [Value.oneCell']) (by unfold maxLen; omega) (by rw [hy2]; omega) ?_; intro A5 c5 w5 ho5 hg5 hl5; have HO5 := Lib.hid ho5; have HG5 := Lib.hid hg5; have HL5 := Lib.hid hl5; clear ho5 hg5 hl5)
        go_roundw
        case rel =>
         have hfa : Fr [] w4 (w4.alloc (.cells #[.string ⟨t.toArray⟩] 9)) := (Fr.refl [] w4).alloc _
         have hfg : Fr (Value.slice L3 got2.length lc3).ownBlock.toList w4 w5 := hfa.nil_.grown HG5.out (fun g hg => .inl (by simpa using hg))
         have hb5 : Below B w4 w5 := hfg.below_at (SZ.out _ HB4.out) (fun b hb => HOB.out b (by simpa using hb))
         refine ⟨got2 ++ [t], y, true, rfl, ?_, ?_, ?_, HB4.out.trans hb5, HINV4.out, HEN4.out, by rw [List.length_append, List.length_singleton]; omega, fun e => by cases e⟩
         ·have := HO5.out; unfold OwnL; rw [strVals_append]; exact this
         ·intro b hb
          rcases HL5.out with e | e
          ·exact HOB.out b (by rw [← e]; exact hb)
          ·rw [hb] at e; injection e with e; have := SZ.out _ HB4.out; simp at e; omega
         ·exact ri_off HRI4.out hfg (fun b hb => str_bk HO4.out (by simpa using hb))
        case measure => simp [lenOf, oneOf]; omega
       ·rw [hn]
        clear hn hri4 HRI HINV HEN HO HBL HNC HNX HMO HO4 hbk
        unfold recV errV
        go_wp2_with (go_at_call 10; refine (code_errno 20 _ (by omega) (by omega)).mono ?_; rintro e w7 ⟨rfl, rfl⟩)
        go_ret
        exact ⟨rfl, FIN.out _ HB4.out⟩
       ·rw [hn] at hri4 ⊢
        have HRI4 := Lib.hid hri4; have HINV4 := Lib.hid (h5 _ _ HINV.out); have HEN4 : Hid (y.en = en2) := Lib.hid (by rw [h1]; exact HEN.out)
        have HM4 : Hid (en2 = true → y.bs = []) := Lib.hid (fun e => h4 (by rw [HEN.out]; exact e))
        clear hn hri4 h4 h5 h1 h2 hbk HRI HINV HEN HO HBL HNC HNX HMO
        unfold recV
        go_wp2_with fail
        go_roundw
        case rel => exact ⟨got2, y, false, rfl, HO4.out, HOB.out, HRI4.out, HB4.out, HINV4.out, HEN4.out, by omega, fun _ => HM4.out⟩
        case measure => simp [lenOf, oneOf]
end Go.Proofs.YtfbmogccmlikaaaGreatDoor.G
namespace Go.Proofs.YtfbmogccmlikaaaGreatDoor
open Go.RowKit Go.ChangeShapes Go.WideShapes Go.ChangeAt Go.Deep
set_option maxRecDepth 100000 in
theorem connRecords_open {H : Type} {enc : TypeId × Value → H} (W : World) (base : Nat) (v0 : Value) (d0 : DataW H) (p0 : List MemPlace) (v1 : Value) (d1 : DataW H) (p1 : List MemPlace) (v2 : Value) (d2 : DataW H) (p2 : List MemPlace)
    (k0 : Value.okWide Tryz.prog W .any base 9 v0) (k1 : Value.okWide Tryz.prog W .any base 23 v1) (k2 : Value.okWide Tryz.prog W .any base 24 v2)
    (h0 : DataW.Trod enc Tryz.prog W 0 (fun _ => true) true 9 v0 d0 p0) (h1 : DataW.Trod enc Tryz.prog W 0 (fun _ => true) true 23 v1 d1 p1) (h2 : DataW.Trod enc Tryz.prog W 0 (fun _ => true) true 24 v2 d2 p2) (hg : GlobOk W) (hl : laidMetH Tryz.prog Rows.connRecordsRow.laid W) :
    Calls Tryz.prog 3 #[v0, v1, v2] W fun e W' => e = .returned (.bool true) ∧ Below W.heap.size W W' := by
 obtain ⟨rs, rfl, -⟩ := G.arg_strL k0 h0
 obtain ⟨k, lo, hi, room, idle, rfl⟩ := G.arg_cfg k1 h1
 obtain ⟨A, n, c, KK, M, N, BA, BC, BB, F, rfl, hn, ha, hbc⟩ := G.acts_openG k2 h2
 exact G.records_walk hg (G.errT_of_laidR hl) rs k lo hi room idle ha hn hbc
end Go.Proofs.YtfbmogccmlikaaaGreatDoor
