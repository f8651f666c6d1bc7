/-
  CharsetLaws: the walk. No conditions. (Printed by mklaws.py.)
-/
import Derived.Test.YtobmdpfljdnlaaaOne
import Derived.Test.YtobmdpfljdnlaaaDrawn
import Derived.Test.YtobmdpfljdnlaaaCntLaw
import Derived.Test.YtobmdpfljdnlaaaSetArg
import Derived.Deep.Cut
namespace Go.Proofs.Ytobmdpfljdnlaaa
open Go.RowKit Go.ChangeShapes Go.WideShapes Go.ChangeAt Go.Deep
set_option linter.unusedVariables false
set_option linter.unusedSimpArgs false

/-- These blocks hold these sets; nothing old has turned. -/
def KeepL (w W : World) (L : List (Nat × S4)) : Prop := (∀ p ∈ L, Bk W p.1 25 p.2.cells) ∧ Fr [] w W
theorem KeepL.fr {w W W' : World} {L : List (Nat × S4)} (h : KeepL w W L) (hf : Fr [] W W') : KeepL w W' L := ⟨fun p hp => (h.1 p hp).fr hf (by simp), h.2.trans hf⟩
theorem KeepL.drew {w W : World} {L : List (Nat × S4)} (h : KeepL w W L) : KeepL w W.drew L := h.fr (Fr.refl [] W).drew
theorem KeepL.c {w W : World} {L : List (Nat × S4)} (h : KeepL w W L) {g : Nat} {R : S4} (hm : (g, R) ∈ L) : W.cell? ⟨g, 0, none⟩ = some (.int .u64 (R.a : Int)) ∧ W.cell? ⟨g, 1, none⟩ = some (.int .u64 (R.b : Int)) ∧ W.cell? ⟨g, 2, none⟩ = some (.int .u64 (R.c : Int)) ∧ W.cell? ⟨g, 3, none⟩ = some (.int .u64 (R.d : Int)) :=
  (S4.four (h.1 _ hm)).1
theorem KeepL.lt {w W : World} {L : List (Nat × S4)} (h : KeepL w W L) : ∀ p ∈ L, p.1 < W.heap.size := fun p hp => (h.1 p hp).lt
theorem KeepL.four {w W : World} {L : List (Nat × S4)} {g : Nat} (h : KeepL w W L) (hn : ∀ p ∈ L, p.1 ≠ g) (hg : w.heap.size ≤ g) (a b c d : Value) : KeepL w ((((W.setCell ⟨g, 0, none⟩ a).setCell ⟨g, 1, none⟩ b).setCell ⟨g, 2, none⟩ c).setCell ⟨g, 3, none⟩ d) L :=
  ⟨fun p hp => (h.1 p hp).far4 (hn p hp) a b c d, four_set (t := 25) a b c d h.2 hg⟩
theorem KeepL.snoc {w W : World} {L : List (Nat × S4)} (h : KeepL w W L) {g : Nat} {R : S4} (hb : Bk W g 25 R.cells) : KeepL w W (L ++ [(g, R)]) :=
  ⟨fun p hp => by
    rcases List.mem_append.1 hp with hp | hp
    · exact h.1 p hp
    · rw [List.mem_singleton.1 hp]; exact hb, h.2⟩
theorem Bk.fill {w : World} {g : Nat} {t : TypeId} {e : S4} (h : Bk w g t e.cells) (R : S4) : Bk ((((w.setCell ⟨g, 0, none⟩ (.int .u64 (R.a : Int))).setCell ⟨g, 1, none⟩ (.int .u64 (R.b : Int))).setCell ⟨g, 2, none⟩ (.int .u64 (R.c : Int))).setCell ⟨g, 3, none⟩ (.int .u64 (R.d : Int))) g t R.cells :=
  (((h.put 0 _).put 1 _).put 2 _).put 3 _
theorem S4.count_le (s : S4) : s.count ≤ 256 := by have := s.cnt_le 256; rw [s.cnt_all] at this; exact this
theorem wrap_sum {p q N : Nat} (h : p + q = N) (hN : N ≤ 1024) : IntKind.i64.wrap ((p : Int) + (q : Int)) = (N : Int) := by
  rw [IntKind.wrap_i64]; omega
theorem eqSame (s : S4) (w : World) : (Op.equalIn 10000 25 s.val s.val).run Try.prog w = .ok true w := eqSelf s w

set_option maxRecDepth 100000 in
set_option maxHeartbeats 4000000 in
theorem laws_walk {w : World} (hg : GlobOk w) (s t : S4) (hs : s.ok) (ht : t.ok) (c : UInt8) : Calls Try.prog 7 #[s.val, t.val, .int .u8 (c.toNat : Int)] w fun e w' => e = .returned (.bool true) ∧ Fr [] w w' := by
  have hc : c.toNat < 256 := c.toNat_lt
  unfold S4.val
  go_enter Try.func7, Try.ntmps7
  go_wp2_with fail
  go_at_call 8
  refine (awake_any (hg.fr (((Fr.refl [] w).alloc _).alloc _))).mono ?_
  rintro e w1 ⟨rfl, hf1⟩
  have hK : KeepL w w1 [(w.heap.size, s), (w.heap.size + 1, t)] := ⟨(by
    intro p hp
    rcases List.mem_cons.1 hp with rfl | hp
    · exact ((Bk.new w _ _).alloc _).fr hf1 (by simp)
    · rcases List.mem_cons.1 hp with rfl | hp
      · have := (Bk.new (w.alloc (.cells s.cells 25)) 25 t.cells).fr hf1 (by simp)
        simpa using this
      · cases hp), (((Fr.refl [] w).alloc _).alloc _).trans hf1⟩
  have HK := Lib.hid hK; clear hK hf1
  go_upto_region 3 with fail
  go_cut [7] from 8 (fun v7 wx => ∃ g, v7 = .pointer (some ⟨g, 0, none⟩) ∧ KeepL w wx [(w.heap.size, s), (w.heap.size + 1, t), (g, s.both_ t)])
  case first =>
    refine wp_region_nice (fun a b => Fr [] a b) (fun W => KeepL w W [(w.heap.size, s), (w.heap.size + 1, t)]) 6 (by kernel_rfl) (fun w => Fr.refl [] w) (fun a b c h k => h.trans k) (fun a b h k => h.fr k) (by kernel_rfl) (by kernel_rfl) (by decide) (fun _ _ d _ _ h => by cases d <;> exact h) HK.out.drew ?_
    simp only [List.take_succ_cons, List.take_zero]
    refine nice_val (v := S4.val s) rfl (fun W hS => ?_) ?_
    · obtain ⟨c0, c1, c2, c3⟩ := hS.c (g := w.heap.size) (R := s) (by simp)
      go_simp
      rfl
    simp only [Act.put, List.setIfInBounds_toArray, List.set_cons_zero, List.set_cons_succ]
    refine nice_call rfl (fun W hS => not_any s W hs) (fun W => ?_) ?_
    · go_simp
      first | done | rfl
    simp only [Act.put, List.setIfInBounds_toArray, List.set_cons_zero, List.set_cons_succ]
    refine nice_val (v := S4.val t) rfl (fun W hS => ?_) ?_
    · obtain ⟨c0, c1, c2, c3⟩ := hS.c (g := (w.heap.size + 1)) (R := t) (by simp)
      go_simp
      rfl
    simp only [Act.put, List.setIfInBounds_toArray, List.set_cons_zero, List.set_cons_succ]
    refine nice_call rfl (fun W hS => not_any t W ht) (fun W => ?_) ?_
    · go_simp
      first | done | rfl
    simp only [Act.put, List.setIfInBounds_toArray, List.set_cons_zero, List.set_cons_succ]
    refine nice_call rfl (fun W hS => or_any s.not t.not W (S4.not_ok s) (S4.not_ok t)) (fun W => ?_) ?_
    · go_simp
      first | done | rfl
    simp only [Act.put, List.setIfInBounds_toArray, List.set_cons_zero, List.set_cons_succ]
    refine nice_call rfl (fun W hS => not_any (s.not.or t.not) W (S4.or_ok (S4.not_ok s) (S4.not_ok t))) (fun W => ?_) ?_
    · go_simp
      first | done | rfl
    simp only [Act.put, List.setIfInBounds_toArray, List.set_cons_zero, List.set_cons_succ]
    refine nice_nil ?_
    refine wpAnyM_all (rs := [6]) (by kernel_rfl) (by simp) (fun w2 hG2 => ?_)
    refine allM.head rfl rfl (fun K2 hK2 => ?_) allM.nil
    go_simp
    have hL2 := (HK.out.drew.fr hG2)
    refine hK2.out _ _ (hL2.fr ((Fr.refl [] w2).alloc _)) ?_
    clear hK2 K2
    refine wpAnyM_all (rs := [7]) (by kernel_rfl) (by simp) (fun w3 hG3 => ?_)
    refine allM.head rfl rfl (fun K3 hK3 => ?_) allM.nil
    have hB : Bk w3 w2.heap.size 25 S4.empty.cells := (Bk.new w2 _ _).fr hG3 (by simp)
    obtain ⟨⟨z0, z1, z2, z3⟩, f0, f1, f2, f3⟩ := S4.four hB
    unfold S4.val
    go_simp
    have hL3 := hL2.fr (((Fr.refl [] w2).alloc _).trans hG3)
    have hne : ∀ p ∈ [(w.heap.size, s), (w.heap.size + 1, t)], p.1 ≠ w2.heap.size := fun p hp => Nat.ne_of_lt (hL2.lt p hp)
    have hle : w.heap.size ≤ w2.heap.size := hL2.2.size
    refine hK3.out _ _ (hL3.four hne hle _ _ _ _) ?_
    clear hK3 K3
    have hL4 := (hL3.four hne hle (.int .u64 ((s.both_ t).a : Int)) (.int .u64 ((s.both_ t).b : Int)) (.int .u64 ((s.both_ t).c : Int)) (.int .u64 ((s.both_ t).d : Int))).snoc (hB.fill (s.both_ t))
    refine wpAnyM_done (by kernel_rfl) (fun w4 hG4 => ?_)
    have hL5 := hL4.fr hG4
    have HL5 := Lib.hid hL5
    clear hL2 hL3 hL4 hL5 hG2 hG3 hG4 z0 z1 z2 z3 f0 f1 f2 f3 hB hne hle
    go_wp2_with fail
    go_meet
    case rel => exact ⟨w2.heap.size, rfl, HL5.out⟩
  case rest =>
    obtain ⟨g, rfl, hK⟩ := hcut
    clear HK
    have HK := Lib.hid hK; clear hK
    have hu : (s.both_ t).ok := S4.not_ok _
    have hmem := S4.mem_both_ hs ht c.toNat
    have hcnt := S4.count_both hs ht
    have hN : (s.both_ t).count + (s.or t).count ≤ 1024 := by have := (s.both_ t).count_le; have := (s.or t).count_le; omega
    have hw1 := wrap_sum (N := (s.both_ t).count + (s.or t).count) rfl hN
    have hw2 := wrap_sum (p := s.count) (q := t.count) (N := (s.both_ t).count + (s.or t).count) hcnt.symm hN
    have hor := S4.or_ok hs ht
    have e1 := S4.or_not hs
    have e2 := S4.or_self s
    have e3 := S4.or_comm t s
    have q1 := fun V => eqSelf (S4.range 0 255) V
    have q2 := fun V => eqSelf (s) V
    have q3 := fun V => eqSelf (s.or t) V
    have E1 := Lib.hid e1; have E2 := Lib.hid e2; have E3 := Lib.hid e3; have HM := Lib.hid hmem; clear e1 e2 e3 hmem hcnt hN
    go_wp2_with fail
    cases hm : s.mem c.toNat
    case true =>
      have HB := Lib.hid (show (s.both_ t).mem c.toNat = t.mem c.toNat by rw [HM.out, hm]; rfl)
      have HS := Lib.hid hm
      clear hm HM
      obtain ⟨tb, htb⟩ : ∃ tb, tb = t.mem c.toNat := ⟨_, rfl⟩
      rw [← htb] at HB
      have HTB := Lib.hid htb.symm
      clear htb
      refine wp_region_nice_all (fun a b => Fr [] a b) (fun W => KeepL w W [(w.heap.size, s), (w.heap.size + 1, t), (g, s.both_ t)]) (by kernel_rfl) (fun w => Fr.refl [] w) (fun a b c h k => h.trans k) (fun a b h k => h.fr k) (by kernel_rfl) (by kernel_rfl) (by kernel_rfl) (fun _ _ d _ _ h => by cases d <;> exact h) HK.out.drew ?_
      refine nice_val (v := S4.val (s.both_ t)) rfl (fun W hS => ?_) ?_
      · obtain ⟨c0, c1, c2, c3⟩ := hS.c (g := g) (R := (s.both_ t)) (by simp)
        go_simp
        rfl
      simp only [Act.put, List.setIfInBounds_toArray, List.set_cons_zero, List.set_cons_succ]
      refine nice_move _ rfl rfl ?_
      simp only [Act.put, Act.eval, List.setIfInBounds_toArray, List.set_cons_zero, List.set_cons_succ, List.getElem?_toArray, List.getElem?_cons_zero, List.getElem?_cons_succ, Option.getD_some]
      have hh := fun W => has_any (s.both_ t) c.toNat W hc hu
      simp only [HB.out] at hh
      refine nice_call rfl (fun W hS => hh W) (fun W => ?_) ?_
      · go_simp
        first | done | rfl
      clear hh
      simp only [Act.put, List.setIfInBounds_toArray, List.set_cons_zero, List.set_cons_succ]
      refine nice_val (v := S4.val s) rfl (fun W hS => ?_) ?_
      · obtain ⟨c0, c1, c2, c3⟩ := hS.c (g := w.heap.size) (R := s) (by simp)
        go_simp
        rfl
      simp only [Act.put, List.setIfInBounds_toArray, List.set_cons_zero, List.set_cons_succ]
      refine nice_move _ rfl rfl ?_
      simp only [Act.put, Act.eval, List.setIfInBounds_toArray, List.set_cons_zero, List.set_cons_succ, List.getElem?_toArray, List.getElem?_cons_zero, List.getElem?_cons_succ, Option.getD_some]
      have hh := fun W => has_any s c.toNat W hc hs
      simp only [HS.out] at hh
      refine nice_call rfl (fun W hS => hh W) (fun W => ?_) ?_
      · go_simp
        first | done | rfl
      clear hh
      simp only [Act.put, List.setIfInBounds_toArray, List.set_cons_zero, List.set_cons_succ]
      refine nice_move _ rfl rfl ?_
      simp only [Act.put, Act.eval, List.setIfInBounds_toArray, List.set_cons_zero, List.set_cons_succ, List.getElem?_toArray, List.getElem?_cons_zero, List.getElem?_cons_succ, Option.getD_some]
      refine nice_val (v := S4.val t) rfl (fun W hS => ?_) ?_
      · obtain ⟨c0, c1, c2, c3⟩ := hS.c (g := (w.heap.size + 1)) (R := t) (by simp)
        go_simp
        rfl
      simp only [Act.put, List.setIfInBounds_toArray, List.set_cons_zero, List.set_cons_succ]
      refine nice_move _ rfl rfl ?_
      simp only [Act.put, Act.eval, List.setIfInBounds_toArray, List.set_cons_zero, List.set_cons_succ, List.getElem?_toArray, List.getElem?_cons_zero, List.getElem?_cons_succ, Option.getD_some]
      have hh := fun W => has_any t c.toNat W hc ht
      simp only [HTB.out] at hh
      refine nice_call rfl (fun W hS => hh W) (fun W => ?_) ?_
      · go_simp
        first | done | rfl
      clear hh
      simp only [Act.put, List.setIfInBounds_toArray, List.set_cons_zero, List.set_cons_succ]
      refine nice_val (v := ?_) rfl (fun W hS => ?_) ?_
      rotate_left
      · go_simp
        first | done | rfl
      simp only [Act.put, List.setIfInBounds_toArray, List.set_cons_zero, List.set_cons_succ]
      refine nice_val (v := .bool true) rfl (fun W hS => ?_) ?_
      · go_simp
        first | done | rfl
      simp only [Act.put, List.setIfInBounds_toArray, List.set_cons_zero, List.set_cons_succ]
      refine nice_move _ rfl rfl ?_
      simp only [Act.put, Act.eval, List.setIfInBounds_toArray, List.set_cons_zero, List.set_cons_succ, List.getElem?_toArray, List.getElem?_cons_zero, List.getElem?_cons_succ, Option.getD_some]
      refine nice_val (v := S4.val s) rfl (fun W hS => ?_) ?_
      · obtain ⟨c0, c1, c2, c3⟩ := hS.c (g := w.heap.size) (R := s) (by simp)
        go_simp
        rfl
      simp only [Act.put, List.setIfInBounds_toArray, List.set_cons_zero, List.set_cons_succ]
      refine nice_val (v := S4.val s) rfl (fun W hS => ?_) ?_
      · obtain ⟨c0, c1, c2, c3⟩ := hS.c (g := w.heap.size) (R := s) (by simp)
        go_simp
        rfl
      simp only [Act.put, List.setIfInBounds_toArray, List.set_cons_zero, List.set_cons_succ]
      refine nice_call rfl (fun W hS => not_any s W hs) (fun W => ?_) ?_
      · go_simp
        first | done | rfl
      simp only [Act.put, List.setIfInBounds_toArray, List.set_cons_zero, List.set_cons_succ]
      have hh := fun W => or_any s s.not W hs (S4.not_ok s)
      simp only [E1.out] at hh
      refine nice_call rfl (fun W hS => hh W) (fun W => ?_) ?_
      · go_simp
        first | done | rfl
      clear hh
      simp only [Act.put, List.setIfInBounds_toArray, List.set_cons_zero, List.set_cons_succ]
      refine nice_call rfl (fun W hS => range_any 0 255 W (by omega) (by omega)) (fun W => ?_) ?_
      · go_simp
        first | done | rfl
      simp only [Act.put, List.setIfInBounds_toArray, List.set_cons_zero, List.set_cons_succ]
      refine nice_val (v := .bool true) rfl (fun W hS => ?_) ?_
      · unfold S4.val
        go_simp
      simp only [Act.put, List.setIfInBounds_toArray, List.set_cons_zero, List.set_cons_succ]
      refine nice_val (v := ?_) rfl (fun W hS => ?_) ?_
      rotate_left
      · go_simp
        first | done | rfl
      simp only [Act.put, List.setIfInBounds_toArray, List.set_cons_zero, List.set_cons_succ]
      refine nice_move _ rfl rfl ?_
      simp only [Act.put, Act.eval, List.setIfInBounds_toArray, List.set_cons_zero, List.set_cons_succ, List.getElem?_toArray, List.getElem?_cons_zero, List.getElem?_cons_succ, Option.getD_some]
      refine nice_val (v := S4.val s) rfl (fun W hS => ?_) ?_
      · obtain ⟨c0, c1, c2, c3⟩ := hS.c (g := w.heap.size) (R := s) (by simp)
        go_simp
        rfl
      simp only [Act.put, List.setIfInBounds_toArray, List.set_cons_zero, List.set_cons_succ]
      refine nice_val (v := S4.val s) rfl (fun W hS => ?_) ?_
      · obtain ⟨c0, c1, c2, c3⟩ := hS.c (g := w.heap.size) (R := s) (by simp)
        go_simp
        rfl
      simp only [Act.put, List.setIfInBounds_toArray, List.set_cons_zero, List.set_cons_succ]
      have hh := fun W => or_any s s W hs hs
      simp only [E2.out] at hh
      refine nice_call rfl (fun W hS => hh W) (fun W => ?_) ?_
      · go_simp
        first | done | rfl
      clear hh
      simp only [Act.put, List.setIfInBounds_toArray, List.set_cons_zero, List.set_cons_succ]
      refine nice_val (v := S4.val s) rfl (fun W hS => ?_) ?_
      · obtain ⟨c0, c1, c2, c3⟩ := hS.c (g := w.heap.size) (R := s) (by simp)
        go_simp
        rfl
      simp only [Act.put, List.setIfInBounds_toArray, List.set_cons_zero, List.set_cons_succ]
      refine nice_val (v := .bool true) rfl (fun W hS => ?_) ?_
      · unfold S4.val
        go_simp
      simp only [Act.put, List.setIfInBounds_toArray, List.set_cons_zero, List.set_cons_succ]
      refine nice_val (v := ?_) rfl (fun W hS => ?_) ?_
      rotate_left
      · go_simp
        first | done | rfl
      simp only [Act.put, List.setIfInBounds_toArray, List.set_cons_zero, List.set_cons_succ]
      refine nice_move _ rfl rfl ?_
      simp only [Act.put, Act.eval, List.setIfInBounds_toArray, List.set_cons_zero, List.set_cons_succ, List.getElem?_toArray, List.getElem?_cons_zero, List.getElem?_cons_succ, Option.getD_some]
      refine nice_val (v := S4.val s) rfl (fun W hS => ?_) ?_
      · obtain ⟨c0, c1, c2, c3⟩ := hS.c (g := w.heap.size) (R := s) (by simp)
        go_simp
        rfl
      simp only [Act.put, List.setIfInBounds_toArray, List.set_cons_zero, List.set_cons_succ]
      refine nice_val (v := S4.val t) rfl (fun W hS => ?_) ?_
      · obtain ⟨c0, c1, c2, c3⟩ := hS.c (g := (w.heap.size + 1)) (R := t) (by simp)
        go_simp
        rfl
      simp only [Act.put, List.setIfInBounds_toArray, List.set_cons_zero, List.set_cons_succ]
      refine nice_call rfl (fun W hS => or_any s t W hs ht) (fun W => ?_) ?_
      · go_simp
        first | done | rfl
      simp only [Act.put, List.setIfInBounds_toArray, List.set_cons_zero, List.set_cons_succ]
      refine nice_val (v := S4.val t) rfl (fun W hS => ?_) ?_
      · obtain ⟨c0, c1, c2, c3⟩ := hS.c (g := (w.heap.size + 1)) (R := t) (by simp)
        go_simp
        rfl
      simp only [Act.put, List.setIfInBounds_toArray, List.set_cons_zero, List.set_cons_succ]
      refine nice_val (v := S4.val s) rfl (fun W hS => ?_) ?_
      · obtain ⟨c0, c1, c2, c3⟩ := hS.c (g := w.heap.size) (R := s) (by simp)
        go_simp
        rfl
      simp only [Act.put, List.setIfInBounds_toArray, List.set_cons_zero, List.set_cons_succ]
      have hh := fun W => or_any t s W ht hs
      simp only [E3.out] at hh
      refine nice_call rfl (fun W hS => hh W) (fun W => ?_) ?_
      · go_simp
        first | done | rfl
      clear hh
      simp only [Act.put, List.setIfInBounds_toArray, List.set_cons_zero, List.set_cons_succ]
      refine nice_val (v := .bool true) rfl (fun W hS => ?_) ?_
      · unfold S4.val
        go_simp
      simp only [Act.put, List.setIfInBounds_toArray, List.set_cons_zero, List.set_cons_succ]
      refine nice_val (v := ?_) rfl (fun W hS => ?_) ?_
      rotate_left
      · go_simp
        first | done | rfl
      simp only [Act.put, List.setIfInBounds_toArray, List.set_cons_zero, List.set_cons_succ]
      refine nice_move _ rfl rfl ?_
      simp only [Act.put, Act.eval, List.setIfInBounds_toArray, List.set_cons_zero, List.set_cons_succ, List.getElem?_toArray, List.getElem?_cons_zero, List.getElem?_cons_succ, Option.getD_some]
      refine nice_val (v := S4.val (s.both_ t)) rfl (fun W hS => ?_) ?_
      · obtain ⟨c0, c1, c2, c3⟩ := hS.c (g := g) (R := (s.both_ t)) (by simp)
        go_simp
        rfl
      simp only [Act.put, List.setIfInBounds_toArray, List.set_cons_zero, List.set_cons_succ]
      refine nice_call rfl (fun W hS => count_any (s.both_ t) W hu) (fun W => ?_) ?_
      · go_simp
        first | done | rfl
      simp only [Act.put, List.setIfInBounds_toArray, List.set_cons_zero, List.set_cons_succ]
      refine nice_val (v := S4.val s) rfl (fun W hS => ?_) ?_
      · obtain ⟨c0, c1, c2, c3⟩ := hS.c (g := w.heap.size) (R := s) (by simp)
        go_simp
        rfl
      simp only [Act.put, List.setIfInBounds_toArray, List.set_cons_zero, List.set_cons_succ]
      refine nice_val (v := S4.val t) rfl (fun W hS => ?_) ?_
      · obtain ⟨c0, c1, c2, c3⟩ := hS.c (g := (w.heap.size + 1)) (R := t) (by simp)
        go_simp
        rfl
      simp only [Act.put, List.setIfInBounds_toArray, List.set_cons_zero, List.set_cons_succ]
      refine nice_call rfl (fun W hS => or_any s t W hs ht) (fun W => ?_) ?_
      · go_simp
        first | done | rfl
      simp only [Act.put, List.setIfInBounds_toArray, List.set_cons_zero, List.set_cons_succ]
      refine nice_call rfl (fun W hS => count_any (s.or t) W hor) (fun W => ?_) ?_
      · go_simp
        first | done | rfl
      simp only [Act.put, List.setIfInBounds_toArray, List.set_cons_zero, List.set_cons_succ]
      refine nice_val (v := ?_) rfl (fun W hS => ?_) ?_
      rotate_left
      · go_simp
        first | done | rfl
      simp only [Act.put, List.setIfInBounds_toArray, List.set_cons_zero, List.set_cons_succ]
      refine nice_val (v := S4.val s) rfl (fun W hS => ?_) ?_
      · obtain ⟨c0, c1, c2, c3⟩ := hS.c (g := w.heap.size) (R := s) (by simp)
        go_simp
        rfl
      simp only [Act.put, List.setIfInBounds_toArray, List.set_cons_zero, List.set_cons_succ]
      refine nice_call rfl (fun W hS => count_any s W hs) (fun W => ?_) ?_
      · go_simp
        first | done | rfl
      simp only [Act.put, List.setIfInBounds_toArray, List.set_cons_zero, List.set_cons_succ]
      refine nice_val (v := S4.val t) rfl (fun W hS => ?_) ?_
      · obtain ⟨c0, c1, c2, c3⟩ := hS.c (g := (w.heap.size + 1)) (R := t) (by simp)
        go_simp
        rfl
      simp only [Act.put, List.setIfInBounds_toArray, List.set_cons_zero, List.set_cons_succ]
      refine nice_call rfl (fun W hS => count_any t W ht) (fun W => ?_) ?_
      · go_simp
        first | done | rfl
      simp only [Act.put, List.setIfInBounds_toArray, List.set_cons_zero, List.set_cons_succ]
      refine nice_val (v := ?_) rfl (fun W hS => ?_) ?_
      rotate_left
      · go_simp
        first | done | rfl
      simp only [Act.put, List.setIfInBounds_toArray, List.set_cons_zero, List.set_cons_succ]
      refine nice_val (v := .bool true) rfl (fun W hS => ?_) ?_
      · go_simp
        first | done | rfl
      simp only [Act.put, List.setIfInBounds_toArray, List.set_cons_zero, List.set_cons_succ]
      refine nice_val (v := ?_) rfl (fun W hS => ?_) ?_
      rotate_left
      · go_simp
        first | done | rfl
      simp only [Act.put, List.setIfInBounds_toArray, List.set_cons_zero, List.set_cons_succ]
      refine nice_val (v := ?_) rfl (fun W hS => ?_) ?_
      rotate_left
      · go_simp
        first | done | rfl
      simp only [Act.put, List.setIfInBounds_toArray, List.set_cons_zero, List.set_cons_succ]
      refine nice_nil ?_
      intro w5 hL5 _
      have HL5 := Lib.hid hL5; clear hL5
      go_wp2_with fail
      go_ret
      exact ⟨rfl, HL5.out.2⟩
    case false =>
      have HB := Lib.hid (show (s.both_ t).mem c.toNat = false by rw [HM.out, hm]; rfl)
      have HS := Lib.hid hm
      clear hm HM
      refine wp_region_nice_all (fun a b => Fr [] a b) (fun W => KeepL w W [(w.heap.size, s), (w.heap.size + 1, t), (g, s.both_ t)]) (by kernel_rfl) (fun w => Fr.refl [] w) (fun a b c h k => h.trans k) (fun a b h k => h.fr k) (by kernel_rfl) (by kernel_rfl) (by kernel_rfl) (fun _ _ d _ _ h => by cases d <;> exact h) HK.out.drew ?_
      refine nice_val (v := S4.val (s.both_ t)) rfl (fun W hS => ?_) ?_
      · obtain ⟨c0, c1, c2, c3⟩ := hS.c (g := g) (R := (s.both_ t)) (by simp)
        go_simp
        rfl
      simp only [Act.put, List.setIfInBounds_toArray, List.set_cons_zero, List.set_cons_succ]
      refine nice_move _ rfl rfl ?_
      simp only [Act.put, Act.eval, List.setIfInBounds_toArray, List.set_cons_zero, List.set_cons_succ, List.getElem?_toArray, List.getElem?_cons_zero, List.getElem?_cons_succ, Option.getD_some]
      have hh := fun W => has_any (s.both_ t) c.toNat W hc hu
      simp only [HB.out] at hh
      refine nice_call rfl (fun W hS => hh W) (fun W => ?_) ?_
      · go_simp
        first | done | rfl
      clear hh
      simp only [Act.put, List.setIfInBounds_toArray, List.set_cons_zero, List.set_cons_succ]
      refine nice_val (v := S4.val s) rfl (fun W hS => ?_) ?_
      · obtain ⟨c0, c1, c2, c3⟩ := hS.c (g := w.heap.size) (R := s) (by simp)
        go_simp
        rfl
      simp only [Act.put, List.setIfInBounds_toArray, List.set_cons_zero, List.set_cons_succ]
      refine nice_move _ rfl rfl ?_
      simp only [Act.put, Act.eval, List.setIfInBounds_toArray, List.set_cons_zero, List.set_cons_succ, List.getElem?_toArray, List.getElem?_cons_zero, List.getElem?_cons_succ, Option.getD_some]
      have hh := fun W => has_any s c.toNat W hc hs
      simp only [HS.out] at hh
      refine nice_call rfl (fun W hS => hh W) (fun W => ?_) ?_
      · go_simp
        first | done | rfl
      clear hh
      simp only [Act.put, List.setIfInBounds_toArray, List.set_cons_zero, List.set_cons_succ]
      refine nice_move _ rfl rfl ?_
      simp only [Act.put, Act.eval, List.setIfInBounds_toArray, List.set_cons_zero, List.set_cons_succ, List.getElem?_toArray, List.getElem?_cons_zero, List.getElem?_cons_succ, Option.getD_some]
      refine nice_skip rfl ?_
      simp only [Act.put, List.setIfInBounds_toArray, List.set_cons_zero, List.set_cons_succ]
      refine nice_skip rfl ?_
      simp only [Act.put, List.setIfInBounds_toArray, List.set_cons_zero, List.set_cons_succ]
      refine nice_skip rfl ?_
      simp only [Act.put, List.setIfInBounds_toArray, List.set_cons_zero, List.set_cons_succ]
      refine nice_val (v := ?_) rfl (fun W hS => ?_) ?_
      rotate_left
      · go_simp
        first | done | rfl
      simp only [Act.put, List.setIfInBounds_toArray, List.set_cons_zero, List.set_cons_succ]
      refine nice_val (v := .bool true) rfl (fun W hS => ?_) ?_
      · go_simp
        first | done | rfl
      simp only [Act.put, List.setIfInBounds_toArray, List.set_cons_zero, List.set_cons_succ]
      refine nice_move _ rfl rfl ?_
      simp only [Act.put, Act.eval, List.setIfInBounds_toArray, List.set_cons_zero, List.set_cons_succ, List.getElem?_toArray, List.getElem?_cons_zero, List.getElem?_cons_succ, Option.getD_some]
      refine nice_val (v := S4.val s) rfl (fun W hS => ?_) ?_
      · obtain ⟨c0, c1, c2, c3⟩ := hS.c (g := w.heap.size) (R := s) (by simp)
        go_simp
        rfl
      simp only [Act.put, List.setIfInBounds_toArray, List.set_cons_zero, List.set_cons_succ]
      refine nice_val (v := S4.val s) rfl (fun W hS => ?_) ?_
      · obtain ⟨c0, c1, c2, c3⟩ := hS.c (g := w.heap.size) (R := s) (by simp)
        go_simp
        rfl
      simp only [Act.put, List.setIfInBounds_toArray, List.set_cons_zero, List.set_cons_succ]
      refine nice_call rfl (fun W hS => not_any s W hs) (fun W => ?_) ?_
      · go_simp
        first | done | rfl
      simp only [Act.put, List.setIfInBounds_toArray, List.set_cons_zero, List.set_cons_succ]
      have hh := fun W => or_any s s.not W hs (S4.not_ok s)
      simp only [E1.out] at hh
      refine nice_call rfl (fun W hS => hh W) (fun W => ?_) ?_
      · go_simp
        first | done | rfl
      clear hh
      simp only [Act.put, List.setIfInBounds_toArray, List.set_cons_zero, List.set_cons_succ]
      refine nice_call rfl (fun W hS => range_any 0 255 W (by omega) (by omega)) (fun W => ?_) ?_
      · go_simp
        first | done | rfl
      simp only [Act.put, List.setIfInBounds_toArray, List.set_cons_zero, List.set_cons_succ]
      refine nice_val (v := .bool true) rfl (fun W hS => ?_) ?_
      · unfold S4.val
        go_simp
      simp only [Act.put, List.setIfInBounds_toArray, List.set_cons_zero, List.set_cons_succ]
      refine nice_val (v := ?_) rfl (fun W hS => ?_) ?_
      rotate_left
      · go_simp
        first | done | rfl
      simp only [Act.put, List.setIfInBounds_toArray, List.set_cons_zero, List.set_cons_succ]
      refine nice_move _ rfl rfl ?_
      simp only [Act.put, Act.eval, List.setIfInBounds_toArray, List.set_cons_zero, List.set_cons_succ, List.getElem?_toArray, List.getElem?_cons_zero, List.getElem?_cons_succ, Option.getD_some]
      refine nice_val (v := S4.val s) rfl (fun W hS => ?_) ?_
      · obtain ⟨c0, c1, c2, c3⟩ := hS.c (g := w.heap.size) (R := s) (by simp)
        go_simp
        rfl
      simp only [Act.put, List.setIfInBounds_toArray, List.set_cons_zero, List.set_cons_succ]
      refine nice_val (v := S4.val s) rfl (fun W hS => ?_) ?_
      · obtain ⟨c0, c1, c2, c3⟩ := hS.c (g := w.heap.size) (R := s) (by simp)
        go_simp
        rfl
      simp only [Act.put, List.setIfInBounds_toArray, List.set_cons_zero, List.set_cons_succ]
      have hh := fun W => or_any s s W hs hs
      simp only [E2.out] at hh
      refine nice_call rfl (fun W hS => hh W) (fun W => ?_) ?_
      · go_simp
        first | done | rfl
      clear hh
      simp only [Act.put, List.setIfInBounds_toArray, List.set_cons_zero, List.set_cons_succ]
      refine nice_val (v := S4.val s) rfl (fun W hS => ?_) ?_
      · obtain ⟨c0, c1, c2, c3⟩ := hS.c (g := w.heap.size) (R := s) (by simp)
        go_simp
        rfl
      simp only [Act.put, List.setIfInBounds_toArray, List.set_cons_zero, List.set_cons_succ]
      refine nice_val (v := .bool true) rfl (fun W hS => ?_) ?_
      · unfold S4.val
        go_simp
      simp only [Act.put, List.setIfInBounds_toArray, List.set_cons_zero, List.set_cons_succ]
      refine nice_val (v := ?_) rfl (fun W hS => ?_) ?_
      rotate_left
      · go_simp
        first | done | rfl
      simp only [Act.put, List.setIfInBounds_toArray, List.set_cons_zero, List.set_cons_succ]
      refine nice_move _ rfl rfl ?_
      simp only [Act.put, Act.eval, List.setIfInBounds_toArray, List.set_cons_zero, List.set_cons_succ, List.getElem?_toArray, List.getElem?_cons_zero, List.getElem?_cons_succ, Option.getD_some]
      refine nice_val (v := S4.val s) rfl (fun W hS => ?_) ?_
      · obtain ⟨c0, c1, c2, c3⟩ := hS.c (g := w.heap.size) (R := s) (by simp)
        go_simp
        rfl
      simp only [Act.put, List.setIfInBounds_toArray, List.set_cons_zero, List.set_cons_succ]
      refine nice_val (v := S4.val t) rfl (fun W hS => ?_) ?_
      · obtain ⟨c0, c1, c2, c3⟩ := hS.c (g := (w.heap.size + 1)) (R := t) (by simp)
        go_simp
        rfl
      simp only [Act.put, List.setIfInBounds_toArray, List.set_cons_zero, List.set_cons_succ]
      refine nice_call rfl (fun W hS => or_any s t W hs ht) (fun W => ?_) ?_
      · go_simp
        first | done | rfl
      simp only [Act.put, List.setIfInBounds_toArray, List.set_cons_zero, List.set_cons_succ]
      refine nice_val (v := S4.val t) rfl (fun W hS => ?_) ?_
      · obtain ⟨c0, c1, c2, c3⟩ := hS.c (g := (w.heap.size + 1)) (R := t) (by simp)
        go_simp
        rfl
      simp only [Act.put, List.setIfInBounds_toArray, List.set_cons_zero, List.set_cons_succ]
      refine nice_val (v := S4.val s) rfl (fun W hS => ?_) ?_
      · obtain ⟨c0, c1, c2, c3⟩ := hS.c (g := w.heap.size) (R := s) (by simp)
        go_simp
        rfl
      simp only [Act.put, List.setIfInBounds_toArray, List.set_cons_zero, List.set_cons_succ]
      have hh := fun W => or_any t s W ht hs
      simp only [E3.out] at hh
      refine nice_call rfl (fun W hS => hh W) (fun W => ?_) ?_
      · go_simp
        first | done | rfl
      clear hh
      simp only [Act.put, List.setIfInBounds_toArray, List.set_cons_zero, List.set_cons_succ]
      refine nice_val (v := .bool true) rfl (fun W hS => ?_) ?_
      · unfold S4.val
        go_simp
      simp only [Act.put, List.setIfInBounds_toArray, List.set_cons_zero, List.set_cons_succ]
      refine nice_val (v := ?_) rfl (fun W hS => ?_) ?_
      rotate_left
      · go_simp
        first | done | rfl
      simp only [Act.put, List.setIfInBounds_toArray, List.set_cons_zero, List.set_cons_succ]
      refine nice_move _ rfl rfl ?_
      simp only [Act.put, Act.eval, List.setIfInBounds_toArray, List.set_cons_zero, List.set_cons_succ, List.getElem?_toArray, List.getElem?_cons_zero, List.getElem?_cons_succ, Option.getD_some]
      refine nice_val (v := S4.val (s.both_ t)) rfl (fun W hS => ?_) ?_
      · obtain ⟨c0, c1, c2, c3⟩ := hS.c (g := g) (R := (s.both_ t)) (by simp)
        go_simp
        rfl
      simp only [Act.put, List.setIfInBounds_toArray, List.set_cons_zero, List.set_cons_succ]
      refine nice_call rfl (fun W hS => count_any (s.both_ t) W hu) (fun W => ?_) ?_
      · go_simp
        first | done | rfl
      simp only [Act.put, List.setIfInBounds_toArray, List.set_cons_zero, List.set_cons_succ]
      refine nice_val (v := S4.val s) rfl (fun W hS => ?_) ?_
      · obtain ⟨c0, c1, c2, c3⟩ := hS.c (g := w.heap.size) (R := s) (by simp)
        go_simp
        rfl
      simp only [Act.put, List.setIfInBounds_toArray, List.set_cons_zero, List.set_cons_succ]
      refine nice_val (v := S4.val t) rfl (fun W hS => ?_) ?_
      · obtain ⟨c0, c1, c2, c3⟩ := hS.c (g := (w.heap.size + 1)) (R := t) (by simp)
        go_simp
        rfl
      simp only [Act.put, List.setIfInBounds_toArray, List.set_cons_zero, List.set_cons_succ]
      refine nice_call rfl (fun W hS => or_any s t W hs ht) (fun W => ?_) ?_
      · go_simp
        first | done | rfl
      simp only [Act.put, List.setIfInBounds_toArray, List.set_cons_zero, List.set_cons_succ]
      refine nice_call rfl (fun W hS => count_any (s.or t) W hor) (fun W => ?_) ?_
      · go_simp
        first | done | rfl
      simp only [Act.put, List.setIfInBounds_toArray, List.set_cons_zero, List.set_cons_succ]
      refine nice_val (v := ?_) rfl (fun W hS => ?_) ?_
      rotate_left
      · go_simp
        first | done | rfl
      simp only [Act.put, List.setIfInBounds_toArray, List.set_cons_zero, List.set_cons_succ]
      refine nice_val (v := S4.val s) rfl (fun W hS => ?_) ?_
      · obtain ⟨c0, c1, c2, c3⟩ := hS.c (g := w.heap.size) (R := s) (by simp)
        go_simp
        rfl
      simp only [Act.put, List.setIfInBounds_toArray, List.set_cons_zero, List.set_cons_succ]
      refine nice_call rfl (fun W hS => count_any s W hs) (fun W => ?_) ?_
      · go_simp
        first | done | rfl
      simp only [Act.put, List.setIfInBounds_toArray, List.set_cons_zero, List.set_cons_succ]
      refine nice_val (v := S4.val t) rfl (fun W hS => ?_) ?_
      · obtain ⟨c0, c1, c2, c3⟩ := hS.c (g := (w.heap.size + 1)) (R := t) (by simp)
        go_simp
        rfl
      simp only [Act.put, List.setIfInBounds_toArray, List.set_cons_zero, List.set_cons_succ]
      refine nice_call rfl (fun W hS => count_any t W ht) (fun W => ?_) ?_
      · go_simp
        first | done | rfl
      simp only [Act.put, List.setIfInBounds_toArray, List.set_cons_zero, List.set_cons_succ]
      refine nice_val (v := ?_) rfl (fun W hS => ?_) ?_
      rotate_left
      · go_simp
        first | done | rfl
      simp only [Act.put, List.setIfInBounds_toArray, List.set_cons_zero, List.set_cons_succ]
      refine nice_val (v := .bool true) rfl (fun W hS => ?_) ?_
      · go_simp
        first | done | rfl
      simp only [Act.put, List.setIfInBounds_toArray, List.set_cons_zero, List.set_cons_succ]
      refine nice_val (v := ?_) rfl (fun W hS => ?_) ?_
      rotate_left
      · go_simp
        first | done | rfl
      simp only [Act.put, List.setIfInBounds_toArray, List.set_cons_zero, List.set_cons_succ]
      refine nice_val (v := ?_) rfl (fun W hS => ?_) ?_
      rotate_left
      · go_simp
        first | done | rfl
      simp only [Act.put, List.setIfInBounds_toArray, List.set_cons_zero, List.set_cons_succ]
      refine nice_nil ?_
      intro w5 hL5 _
      have HL5 := Lib.hid hL5; clear hL5
      go_wp2_with fail
      go_ret
      exact ⟨rfl, HL5.out.2⟩

theorem charsetLaws_open {H : Type} {enc : TypeId × Value → H} (W : World) (base : Nat) (v0 : Value) (d0 : DataW H) (p0 : List MemPlace) (v1 : Value) (d1 : DataW H) (p1 : List MemPlace) (v2 : Value) (d2 : DataW H) (p2 : List MemPlace) (k0 : Value.okWide Try.prog W .any base 25 v0) (k1 : Value.okWide Try.prog W .any base 25 v1) (k2 : Value.okWide Try.prog W .any base 5 v2) (h0 : DataW.Trod enc Try.prog W 0 (fun _ => true) true 25 v0 d0 p0) (h1 : DataW.Trod enc Try.prog W 0 (fun _ => true) true 25 v1 d1 p1) (h2 : DataW.Trod enc Try.prog W 0 (fun _ => true) true 5 v2 d2 p2) (hg : GlobOk W) :
    Calls Try.prog 7 #[v0, v1, v2] W fun e W' => e = .returned (.bool true) ∧ Below W.heap.size W W' := by
  obtain ⟨s, rfl, hs⟩ := arg_set k0 h0
  obtain ⟨t, rfl, ht⟩ := arg_set k1 h1
  obtain ⟨n, rfl, hn⟩ := arg_int Try.underlying5 k2 h2
  obtain ⟨c, rfl⟩ := u8_of n hn
  exact (laws_walk hg s t hs ht c).mono fun e W' ⟨h1, h2⟩ => ⟨h1, h2.below_nil⟩
end Go.Proofs.Ytobmdpfljdnlaaa
