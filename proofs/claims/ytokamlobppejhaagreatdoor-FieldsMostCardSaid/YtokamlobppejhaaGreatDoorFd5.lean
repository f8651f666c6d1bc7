/-
  What the law's awake tells; Set, Put, Resize where they pass. No conditions on the program.
-/
import Derived.Test.YtokamlobppejhaaGreatDoorFd4
namespace Go.Proofs.YtokamlobppejhaaGreatDoor
open Go.RowKit
set_option linter.unusedVariables false
set_option linter.unusedSimpArgs false

theorem set_ok {w : World} {r : Nat} {x : Rc} (h : RcM w r x) (hk : SepOk w x) (text : List UInt8) (ht : text.length ≤ 65536) (hl : (fldM x text).length ≤ 1000) (y : Rc) (hy : { x with text := text, l := fldM x text } = y) :
    Calls Tryz.prog 10 #[.pointer (some ⟨r, 0, none⟩), .string ⟨text.toArray⟩] w fun e w' => e = .returned .nilIface ∧ RcM w' r y ∧ Fr [r] w w' := by
  refine (set_any h hk text (by unfold maxLen; omega)).mono ?_
  subst hy
  intro e w' hp
  rcases hp with ⟨hb, -⟩ | ⟨-, hb, -⟩ | ⟨-, -, rfl, h1, h2⟩
  · omega
  · omega
  · exact ⟨rfl, h1, h2⟩
theorem put_ok {w : World} {r : Nat} {x : Rc} (h : RcM w r x) (k : Nat) (hk : 1 ≤ k) (hk2 : k ≤ 1000) (hl : x.l.length ≤ 1000) (s : List UInt8) (hb : x.jn.length * max k x.l.length + Lib.lens x.l + s.length ≤ 65536) (y : Rc) (hy : { x with text := Lib.join (putM x.l k s) x.jn, l := putM x.l k s } = y) :
    Calls Tryz.prog 11 #[.pointer (some ⟨r, 0, none⟩), .int .i64 (k : Int), .string ⟨s.toArray⟩] w fun e w' => e = .returned .nilIface ∧ RcM w' r y ∧ Fr [r] w w' := by
  refine (put_any h k hk (by omega) hl s (by omega)).mono ?_
  subst hy
  intro e w' hp
  have h1 := put_len x.l k s
  have h2 := join_len (putM x.l k s) x.jn
  have h3 := put_lens x.l k s
  rw [h1] at h2
  have h4 : x.jn.length * (max k x.l.length - 1) ≤ x.jn.length * max k x.l.length := Nat.mul_le_mul_left _ (by omega)
  rcases hp with ⟨hb, -⟩ | ⟨-, hb, -⟩ | ⟨-, -, rfl, h1, h2⟩
  · omega
  · omega
  · exact ⟨rfl, h1, h2⟩
theorem resize_ok {w : World} {r : Nat} {x : Rc} (h : RcM w r x) (n : Nat) (hn : n ≤ 1000) (hb : x.jn.length * n + Lib.lens x.l ≤ 65536) (y : Rc) (hy : { x with text := Lib.join (padM x.l n) x.jn, l := padM x.l n } = y) :
    Calls Tryz.prog 7 #[.pointer (some ⟨r, 0, none⟩), .int .i64 (n : Int)] w fun e w' => e = .returned .nilIface ∧ RcM w' r y ∧ Fr [r] w w' := by
  refine (resize_any h n (by omega) (by omega)).mono ?_
  subst hy
  intro e w' hp
  have h1 := pad_len x.l n
  have h2 := join_len (padM x.l n) x.jn
  have h3 := pad_lens x.l n
  rw [h1] at h2
  have h4 : x.jn.length * (n - 1) ≤ x.jn.length * n := Nat.mul_le_mul_left _ (by omega)
  rcases hp with ⟨hb, -⟩ | ⟨-, hb, -⟩ | ⟨-, -, rfl, h1, h2⟩
  · omega
  · omega
  · exact ⟨rfl, h1, h2⟩
def awR1 : Rc := ⟨0, 0, [32], [97, 32, 98, 32, 32, 99], [[97], [98], [99]]⟩
def awR2 : Rc := ⟨0, 0, [32], [97, 32, 98, 32, 99, 32, 32, 101], [[97], [98], [99], [], [101]]⟩
set_option maxRecDepth 100000 in
theorem awake_any (w : World) : Calls Tryz.prog 4 #[] w fun e w' => e = .returned (.bool true) ∧ Fr [] w w' := by
  go_enter Tryz.func4, Tryz.ntmps4
  go_wp2_with fail
  go_at_call 5
  refine (fnew_any w).mono ?_
  rintro e w1 ⟨rfl, hr1, hf1, hs1⟩
  obtain ⟨g, hg⟩ : ∃ g, w.heap.size = g := ⟨_, rfl⟩
  rw [hg] at hr1 ⊢
  have HR1 := Lib.hid hr1; have HF1 := Lib.hid hf1; have HG := Lib.hid hg
  clear hr1 hf1 hs1 hg
  go_wp2_with fail
  go_at_call 10
  refine (set_ok HR1.out (.inl rfl) [97, 32, 98, 32, 32, 99] (by decide) (by decide) awR1 (by rfl)).mono ?_
  rintro e w2 ⟨rfl, hr2, hf2⟩
  have HR2 := Lib.hid hr2; have HF2 : Hid (Fr [] w w2) := Lib.hid (HF1.out.trans' hf2 (fun k hk => by simp at hk; subst hk; exact .inr (Nat.le_of_eq HG.out)))
  clear hr2 hf2 HR1 HF1
  go_wp2_with fail
  go_at_call 8
  refine (count_any HR2.out).mono ?_
  rintro e w3 ⟨rfl, rfl⟩
  have e3 : (awR1.l.length : Int) = 3 := by rfl
  rw [e3]
  clear e3
  go_wp2_with fail
  go_at_call 11
  refine (put_ok HR2.out 5 (by omega) (by omega) (by decide) [101] (by decide) awR2 (by rfl)).mono ?_
  rintro e w4 ⟨rfl, hr4, hf4⟩
  have HR4 := Lib.hid hr4; have HF4 : Hid (Fr [] w w4) := Lib.hid (HF2.out.trans' hf4 (fun k hk => by simp at hk; subst hk; exact .inr (Nat.le_of_eq HG.out)))
  clear hr4 hf4 HR2 HF2
  go_wp2_with fail
  go_at_call 12
  refine (get_any HR4.out 0).mono ?_
  rintro e w5 ⟨rfl, rfl⟩
  have e4 : (⟨(getM awR2.text awR2.l 0).toArray⟩ : ByteArray) = ⟨#[97, 32, 98, 32, 99, 32, 32, 101]⟩ := by rfl
  rw [e4]
  clear e4
  go_wp2_with fail
  go_at_call 8
  refine (count_any HR4.out).mono ?_
  rintro e w5 ⟨rfl, rfl⟩
  have e5 : (awR2.l.length : Int) = 5 := by rfl
  rw [e5]
  clear e5
  go_wp2_with fail
  go_at_call 12
  refine (get_any HR4.out 3).mono ?_
  rintro e w5 ⟨rfl, rfl⟩
  have e6 : (⟨(getM awR2.text awR2.l 3).toArray⟩ : ByteArray) = ⟨#[99]⟩ := by rfl
  rw [e6]
  clear e6
  go_wp2_with fail
  go_ret
  exact ⟨rfl, HF4.out⟩
theorem trans_new {w a b : World} {r : Nat} (h : Fr [] w a) (h2 : Fr [r] a b) (hr : w.heap.size ≤ r) : Fr [] w b := h.trans' h2 (fun k hk => by simp at hk; subst hk; exact .inr hr)
theorem pad0 (l : List (List UInt8)) : padM l 0 = [] := by simp [padM]
theorem pad_nil (n : Nat) : padM [] n = List.replicate n [] := by simp [padM]
theorem lens_rep (n : Nat) : Lib.lens (List.replicate n ([] : List UInt8)) = 0 := lens_repl n
theorem rep_getM (text : List UInt8) (n i : Nat) (hi : 1 ≤ i) : getM text (List.replicate n []) (i : Int) = [] := by
  rw [getM_nat _ _ _ hi, List.getD_eq_getElem?_getD, List.getElem?_replicate]
  split <;> rfl
end Go.Proofs.YtokamlobppejhaaGreatDoor
