/-
  A record's Put and Resize; what the law's awake tells. No conditions on the program.
-/
import Derived.Test.YtokamlobppejhaaGreatDoorFd3
namespace Go.Proofs.YtokamlobppejhaaGreatDoor
open Go.RowKit
set_option linter.unusedVariables false
set_option linter.unusedSimpArgs false

theorem calls_gen {P : Program} {f : FuncId} {args : Array Value} {R : Ending → World → Prop} {w : World} (h : ∀ W, W = w → Calls P f args W R) : Calls P f args w R := h w rfl
theorem padm_len (l : List (List UInt8)) (n : Nat) : (strVals (padM l n)).length = n := by rw [strVals_length, pad_len]
/-- What 'Put' of a field leaves. -/
def PutPost (w : World) (r : Nat) (x : Rc) (l : List (List UInt8)) (e : Ending) (w' : World) : Prop :=
  (1000 < l.length ∧ e = .returned (errV 5) ∧ w = w') ∨ (l.length ≤ 1000 ∧ 65536 < (Lib.join l x.jn).length ∧ e = .returned (errV 13) ∧ RcM w' r x ∧ Fr [] w w') ∨
    (l.length ≤ 1000 ∧ (Lib.join l x.jn).length ≤ 65536 ∧ e = .returned .nilIface ∧ RcM w' r { x with text := Lib.join l x.jn, l := l } ∧ Fr [r] w w')
set_option maxRecDepth 100000 in
set_option maxHeartbeats 1000000 in
theorem put_any {w : World} {r : Nat} {x : Rc} (h : RcM w r x) (k : Nat) (hk : 1 ≤ k) (hk2 : k ≤ 100000) (hl : x.l.length ≤ 1000) (s : List UInt8) (hb : x.jn.length * max k x.l.length + Lib.lens x.l + s.length ≤ 1000000000000) :
    Calls Tryz.prog 11 #[.pointer (some ⟨r, 0, none⟩), .int .i64 (k : Int), .string ⟨s.toArray⟩] w (PutPost w r x (putM x.l k s)) := by
  have hpl := put_len x.l k s
  obtain ⟨v, h⟩ := h
  obtain ⟨A, cap, hv, hl1, hl2, -, -⟩ := OwnL.val h.2
  subst hv
  obtain ⟨-, -, -, -, -, d5⟩ := rc_cells h.1
  obtain ⟨n, hn⟩ : ∃ n, n = max k x.l.length := ⟨_, rfl⟩
  have H := Lib.hid h
  have t0 : ((k : Int) == 0) = false := beq_eq_false_iff_ne.2 (by omega)
  have t1 : decide ((0 : Int) < (k : Int)) = true := decide_eq_true (by omega)
  have HM : Hid (max (k : Int) (x.l.length : Int) = (n : Int)) := Lib.hid (by omega)
  have HN := Lib.hid hn
  clear h
  rw [← hn] at hpl hb
  clear hn
  go_enter Tryz.func11, Tryz.ntmps11
  go_wp2_with (refine wpList_max rfl (.tmp 18) (.tmp 23) _ rfl .i64 _ _ _ (by rfl) (by rfl) HM.out ?_)
  go_at_call 14
  refine (made_any ⟨_, H.out⟩ n (by have := HN.out; omega)).mono ?_
  intro e w2 hp
  rcases hp with ⟨hbig, rfl, rfl⟩ | ⟨hn2, g, rfl, hg, hbk, hf⟩
  · unfold errV
    go_wp2_with fail
    go_ret
    exact .inl ⟨by rw [hpl]; exact hbig, rfl, rfl⟩
  · have hgf := hbk.frozen (k - 1)
    have hkn : k ≤ n := by have := HN.out; omega
    obtain ⟨j, hj⟩ : ∃ j, k = j + 1 := ⟨k - 1, by omega⟩
    have hcell := hbk.cell_ (i := k - 1) (strVals_get (padM x.l n) (j := k - 1) (by rw [pad_len]; omega) |> fun h => by simpa using h)
    have hwr : IntKind.i64.wrap ((k : Int) - 1) = ((k - 1 : Nat) : Int) := by rw [IntKind.wrap_i64]; omega
    have hpm : putM x.l k s = (padM x.l n).set (k - 1) s := by rw [putM, ← HN.out]
    have hkI : ((k - 1 : Nat) : Int) < (n : Int) := by omega
    have hr2 : RcR w2 r x (.slice A x.l.length cap) := ⟨H.out.1.fr hf (by simp), Own.fr H.out.2 hf (by simp)⟩
    have hrg : g ≠ r := by have := H.out.1.lt; omega
    have HBK := Lib.hid hbk; have HF := Lib.hid hf; have HR := Lib.hid hr2; have HPM := Lib.hid hpm; have HJ := Lib.hid hj
    obtain ⟨q, hq⟩ : ∃ q, k - 1 = q := ⟨_, rfl⟩
    rw [hq] at hgf hcell hwr hkI
    have HQ := Lib.hid hq
    clear hbk hf hr2 hpm hj hq
    go_wp2_with fail
    go_at_call 15
    refine calls_gen fun V hV => ?_
    have hfV : Fr [g] w2 V := by rw [hV]; exact (Fr.refl _ _).setCell (.inl (by simp)) _
    have hbV : Bk V g 9 (strVals (putM x.l k s)).toArray := by
      rw [hV, HPM.out]
      have := HBK.out.put q (.string ⟨s.toArray⟩)
      have e : (strVals ((padM x.l n).set (k - 1) s)).toArray = (strVals (padM x.l n)).toArray.setIfInBounds q (.string ⟨s.toArray⟩) := by rw [HQ.out]; simp [strVals, List.map_set]
      rw [e]; exact this
    have hrV : RcM V r x := ⟨_, HR.out.1.fr hfV (by simpa using Ne.symm hrg), Own.fr HR.out.2 hfV (fun b hb2 => by have := Own.lt H.out.2 b hb2; simp; omega)⟩
    have hoV : OwnL V (.slice (some ⟨g, 0, none⟩) n n) (putM x.l k s) := by have := own_of_bk hbV (by rw [hpl]; unfold maxLen; omega); rwa [hpl] at this
    have hfw : Fr [] w V := HF.out.trans' hfV (fun b hb2 => by simp at hb2; subst hb2; exact .inr hg)
    clear hV
    have hlens := put_lens x.l k s
    refine (take_any hrV hpl hoV (by rw [hpl]; exact hn2) (by rw [hpl]; omega)).mono ?_
    intro e w3 hp
    rcases hp with ⟨hbig, rfl, rfl⟩ | ⟨hbig, rfl, hr3, hf3⟩
    · have HFIN := Lib.hid (show RcM V r x ∧ Fr [] w V ∧ 65536 < (Lib.join (putM x.l k s) x.jn).length from ⟨hrV, hfw, hbig⟩)
      clear hrV hfw hbig hoV hbV hfV hlens hpl
      unfold errV
      go_wp2_with fail
      go_ret
      exact .inr (.inl ⟨by rw [put_len, ← HN.out]; exact hn2, HFIN.out.2.2, rfl, HFIN.out.1, HFIN.out.2.1⟩)
    · have HFIN := Lib.hid (show RcM w3 r { x with text := Lib.join (putM x.l k s) x.jn, l := putM x.l k s } ∧ Fr [r] w w3 ∧ (Lib.join (putM x.l k s) x.jn).length ≤ 65536 from ⟨hr3, (Fr.nil_ hfw).trans hf3, hbig⟩)
      clear hrV hfw hbig hoV hbV hfV hlens hr3 hf3 hpl
      go_wp2_with fail
      go_ret
      exact .inr (.inr ⟨by rw [put_len, ← HN.out]; exact hn2, HFIN.out.2.2, rfl, HFIN.out.1, HFIN.out.2.1⟩)
set_option maxRecDepth 100000 in
set_option maxHeartbeats 1000000 in
theorem resize_any {w : World} {r : Nat} {x : Rc} (h : RcM w r x) (n : Nat) (hk2 : n ≤ 100000) (hb : x.jn.length * n + Lib.lens x.l ≤ 1000000000000) :
    Calls Tryz.prog 7 #[.pointer (some ⟨r, 0, none⟩), .int .i64 (n : Int)] w (PutPost w r x (padM x.l n)) := by
  have hpl := pad_len x.l n
  obtain ⟨v, h⟩ := h
  have H := Lib.hid h
  clear h
  go_enter Tryz.func7, Tryz.ntmps7
  go_wp2_with fail
  go_at_call 14
  refine (made_any ⟨_, H.out⟩ n hk2).mono ?_
  intro e w2 hp
  rcases hp with ⟨hbig, rfl, rfl⟩ | ⟨hn2, g, rfl, hg, hbk, hf⟩
  · unfold errV
    go_wp2_with fail
    go_ret
    exact .inl ⟨by rw [hpl]; exact hbig, rfl, rfl⟩
  · have hr2 : RcM w2 r x := ⟨v, H.out.1.fr hf (by simp), Own.fr H.out.2 hf (by simp)⟩
    have hoV : OwnL w2 (.slice (some ⟨g, 0, none⟩) n n) (padM x.l n) := by have := own_of_bk hbk (by rw [hpl]; unfold maxLen; omega); rwa [hpl] at this
    have HF := Lib.hid hf; have HR := Lib.hid hr2; have HO := Lib.hid hoV
    clear hbk hf hr2 hoV
    have hlens := pad_lens x.l n
    go_wp2_with fail
    go_at_call 15
    refine (take_any HR.out hpl HO.out (by rw [hpl]; exact hn2) (by rw [hpl]; omega)).mono ?_
    intro e w3 hp
    rcases hp with ⟨hbig, rfl, rfl⟩ | ⟨hbig, rfl, hr3, hf3⟩
    · have HB := Lib.hid hbig
      clear hbig hpl hlens
      unfold errV
      go_wp2_with fail
      go_ret
      exact .inr (.inl ⟨by rw [pad_len]; exact hn2, HB.out, rfl, HR.out, HF.out⟩)
    · have HFIN := Lib.hid (show RcM w3 r { x with text := Lib.join (padM x.l n) x.jn, l := padM x.l n } ∧ Fr [r] w w3 ∧ (Lib.join (padM x.l n) x.jn).length ≤ 65536 from ⟨hr3, (Fr.nil_ HF.out).trans hf3, hbig⟩)
      clear hbig hr3 hf3 hpl hlens
      go_wp2_with fail
      go_ret
      exact .inr (.inr ⟨by rw [pad_len]; exact hn2, HFIN.out.2.2, rfl, HFIN.out.1, HFIN.out.2.1⟩)
end Go.Proofs.YtokamlobppejhaaGreatDoor
