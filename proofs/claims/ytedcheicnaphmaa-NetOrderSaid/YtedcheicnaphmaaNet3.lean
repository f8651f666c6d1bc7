/-
  A net's wire is changed: its cells and its slices. at, up. No conditions on the program.
-/
import Derived.Test.YtedcheicnaphmaaNet2
namespace Go.Proofs.Ytedcheicnaphmaa
open Go.RowKit
set_option linter.unusedVariables false
set_option linter.unusedSimpArgs false

def updV (IV : Nat → Value) (k : Nat) (v : Value) : Nat → Value := fun i => if i = k then v else IV i
theorem getD_set (ws : List Wr) {k i : Nat} (x : Wr) (hk : k < ws.length) : (ws.set k x).getD i default = if i = k then x else ws.getD i default := by
  by_cases e : i = k
  · subst e; simp [hk]
  · simp [List.getElem?_set, e, Ne.symm e]
/-- The new slice lies where the old one lay, or nowhere, or in a new block. -/
def Near (w : World) (old new : Value) : Prop := new.ownBlock = old.ownBlock ∨ new.ownBlock = none ∨ ∃ b, new.ownBlock = some b ∧ w.heap.size ≤ b
theorem Near.refl (w : World) (v : Value) : Near w v v := .inl rfl

theorem NetR.upd {w w' : World} {B n : Nat} {now : Int} {ws : List Wr} {v : Value} {G : Nat → Nat} {IV GV : Nat → Value} (h : NetR w B n now ws v G IV GV) (hB : B ≤ w.heap.size) {k : Nat} (hk : k < ws.length) (x : Wr) (iv gv : Value)
    (hb : Bk w' (G k) 60 (wCells x iv gv)) (hi : Own w' 5 iv (byteVals x.inn)) (hg : Own w' 5 gv (byteVals x.got)) (hio : Near w (IV k) iv) (hgo : Near w (GV k) gv) (hig : ∀ b, iv.ownBlock = some b → gv.ownBlock ≠ some b)
    (hkeep : ∀ b, b < w.heap.size → b ≠ G k → (IV k).ownBlock ≠ some b → (GV k).ownBlock ≠ some b → w'.heap[b]? = w.heap[b]?) :
    NetR w' B n now (ws.set k x) v G (updV IV k iv) (updV GV k gv) := by
  have hlen : (ws.set k x).length = ws.length := by simp
  have hw := h.wire k hk
  have hi0 := h.inn k hk
  have hg0 := h.got k hk
  have keepO : ∀ (u : Value) (ys : List Value), Own w 5 u ys → (∀ b, u.ownBlock = some b → (IV k).ownBlock ≠ some b ∧ (GV k).ownBlock ≠ some b) → Own w' 5 u ys := fun u ys ho hne => ho.kept fun b hb' =>
    hkeep b (ho.lt b hb') (fun e => ho.ne_bk hw (by decide) (e ▸ hb')) (hne b hb').1 (hne b hb').2
  have il : ∀ i b, i < ws.length → (IV i).ownBlock = some b → b < w.heap.size := fun i b hi' => (h.inn i hi').lt b
  have gl : ∀ i b, i < ws.length → (GV i).ownBlock = some b → b < w.heap.size := fun i b hi' => (h.got i hi').lt b
  refine ⟨?_, ?_, ?_, ?_, ?_, ?_, ?_, ?_, ?_, h.bn, h.brow, ?_, ?_, ?_⟩
  · exact (hkeep n h.net.lt (h.net.ne_ hw (by decide)) (hi0.ne_bk h.net (by decide)) (hg0.ne_bk h.net (by decide))).trans h.net
  · rw [hlen]
    exact h.row.kept fun b hb' => hkeep b (h.row.lt b hb') (fun e => h.row.ne_bk hw (by decide) (e ▸ hb')) (fun e => hi0.ne_own h.row (by decide) b e hb') (fun e => hg0.ne_own h.row (by decide) b e hb')
  all_goals rw [hlen]
  · intro i hi'
    rw [getD_set ws x hk]
    unfold updV
    by_cases e : i = k
    · subst e; simp only [if_true]; exact hb
    · simp only [e, if_false]
      have hwi := h.wire i hi'
      exact (hkeep (G i) hwi.lt (h.gne i k hi' hk e) (hi0.ne_bk hwi (by decide)) (hg0.ne_bk hwi (by decide))).trans hwi
  · intro i hi'
    rw [getD_set ws x hk]
    unfold updV
    by_cases e : i = k
    · subst e; simp only [if_true]; exact hi
    · simp only [e, if_false]
      exact keepO _ _ (h.inn i hi') fun b hb' => ⟨h.ine i k b hi' hk e hb', h.ige i k b hi' hk hb'⟩
  · intro i hi'
    rw [getD_set ws x hk]
    unfold updV
    by_cases e : i = k
    · subst e; simp only [if_true]; exact hg
    · simp only [e, if_false]
      exact keepO _ _ (h.got i hi') fun b hb' => ⟨fun e' => h.ige k i b hk hi' e' hb', h.gve i k b hi' hk e hb'⟩
  · exact h.gne
  · intro i j b hi' hj hij
    unfold updV
    by_cases e : i = k
    · have e' : j ≠ k := fun x => hij (e.trans x.symm)
      simp only [e, e', if_true, if_false]
      intro hb' hj'
      rcases hio with r | r | ⟨b', r, r2⟩
      · exact h.ine k j b hk hj (fun x => e' x.symm) (r ▸ hb') hj'
      · rw [r] at hb'; cases hb'
      · rw [r] at hb'; injection hb' with hb'; have := il j b hj hj'; omega
    · simp only [e, if_false]
      by_cases e' : j = k
      · simp only [e', if_true]
        intro hb' hj'
        rcases hio with r | r | ⟨b', r, r2⟩
        · exact h.ine i k b hi' hk e hb' (r ▸ hj')
        · rw [r] at hj'; cases hj'
        · rw [r] at hj'; injection hj' with hj'; have := il i b hi' hb'; omega
      · simp only [e', if_false]; exact h.ine i j b hi' hj hij
  · intro i j b hi' hj hij
    unfold updV
    by_cases e : i = k
    · have e' : j ≠ k := fun x => hij (e.trans x.symm)
      simp only [e, e', if_true, if_false]
      intro hb' hj'
      rcases hgo with r | r | ⟨b', r, r2⟩
      · exact h.gve k j b hk hj (fun x => e' x.symm) (r ▸ hb') hj'
      · rw [r] at hb'; cases hb'
      · rw [r] at hb'; injection hb' with hb'; have := gl j b hj hj'; omega
    · simp only [e, if_false]
      by_cases e' : j = k
      · simp only [e', if_true]
        intro hb' hj'
        rcases hgo with r | r | ⟨b', r, r2⟩
        · exact h.gve i k b hi' hk e hb' (r ▸ hj')
        · rw [r] at hj'; cases hj'
        · rw [r] at hj'; injection hj' with hj'; have := gl i b hi' hb'; omega
      · simp only [e', if_false]; exact h.gve i j b hi' hj hij
  · intro i j b hi' hj
    unfold updV
    by_cases e : i = k
    · simp only [e, if_true]
      by_cases e' : j = k
      · simp only [e', if_true]; exact hig b
      · simp only [e', if_false]
        intro hb' hj'
        rcases hio with r | r | ⟨b', r, r2⟩
        · exact h.ige k j b hk hj (r ▸ hb') hj'
        · rw [r] at hb'; cases hb'
        · rw [r] at hb'; injection hb' with hb'; have := gl j b hj hj'; omega
    · simp only [e, if_false]
      by_cases e' : j = k
      · simp only [e', if_true]
        intro hb' hj'
        rcases hgo with r | r | ⟨b', r, r2⟩
        · exact h.ige i k b hi' hk hb' (r ▸ hj')
        · rw [r] at hj'; cases hj'
        · rw [r] at hj'; injection hj' with hj'; have := il i b hi' hb'; omega
      · simp only [e', if_false]; exact h.ige i j b hi' hj
  · exact h.bg
  · intro i b hi'
    unfold updV
    by_cases e : i = k
    · simp only [e, if_true]
      intro hb'
      rcases hio with r | r | ⟨b', r, r2⟩
      · exact h.bi k b hk (r ▸ hb')
      · rw [r] at hb'; cases hb'
      · rw [r] at hb'; injection hb' with hb'; omega
    · simp only [e, if_false]; exact h.bi i b hi'
  · intro i b hi'
    unfold updV
    by_cases e : i = k
    · simp only [e, if_true]
      intro hb'
      rcases hgo with r | r | ⟨b', r, r2⟩
      · exact h.bgv k b hk (r ▸ hb')
      · rw [r] at hb'; cases hb'
      · rw [r] at hb'; injection hb' with hb'; omega
    · simp only [e, if_false]; exact h.bgv i b hi'
/-- .. and all else stays. -/
theorem NetR.updF {w w' : World} {B n : Nat} {now : Int} {ws : List Wr} {v : Value} {G : Nat → Nat} {IV GV : Nat → Value} (h : NetR w B n now ws v G IV GV) {k : Nat} (hk : k < ws.length) (ho : w'.os = w.os) (ht : w'.tape = w.tape) (hu : w'.output = w.output) (hs : w.heap.size ≤ w'.heap.size)
    (hkeep : ∀ b, b < w.heap.size → b ≠ G k → (IV k).ownBlock ≠ some b → (GV k).ownBlock ≠ some b → w'.heap[b]? = w.heap[b]?) : NFr B w w' := by
  have own_ty : ∀ (u : Value) (ys : List Value) (b : Nat), Own w 5 u ys → u.ownBlock = some b → ∃ cs, w.heap[b]? = some (.cells cs 5 (0, 0)) := by
    intro u ys b ho hb
    obtain ⟨A, cap, rfl, -, -, ⟨rfl, -⟩ | ⟨g, off, cur, rfl, hg, -⟩⟩ := ho
    · simp [Value.ownBlock] at hb
    · simp [Value.ownBlock] at hb; subst hb; exact ⟨cur, hg⟩
  refine ⟨ho, ht, hu, hs, fun b hb hc => hkeep b hb ?_ ?_ ?_⟩
  · rintro rfl
    rcases hc with hc | ⟨cs, t, fz, g1, g2, g3, g4, g5⟩
    · have := h.bg k hk; omega
    · have hw := h.wire k hk; unfold Bk at hw; rw [hw] at g1; injection g1 with g1; injection g1 with _ g1 _; exact g4 g1.symm
  · intro e
    rcases hc with hc | ⟨cs, t, fz, g1, g2, g3, g4, g5⟩
    · have := h.bi k b hk e; omega
    · obtain ⟨cs', hw⟩ := own_ty _ _ b (h.inn k hk) e; rw [hw] at g1; injection g1 with g1; injection g1 with _ g1 _; exact g2 g1.symm
  · intro e
    rcases hc with hc | ⟨cs, t, fz, g1, g2, g3, g4, g5⟩
    · have := h.bgv k b hk e; omega
    · obtain ⟨cs', hw⟩ := own_ty _ _ b (h.got k hk) e; rw [hw] at g1; injection g1 with g1; injection g1 with _ g1 _; exact g2 g1.symm

theorem at_yes {w : World} {B n : Nat} {now : Int} {ws : List Wr} {v : Value} {G : Nat → Nat} {IV GV : Nat → Value} (h : NetR w B n now ws v G IV GV) (hl : ws.length ≤ 64) (k : Nat) (hk : k < ws.length) :
    Calls Try.prog 20 #[.pointer (some ⟨n, 0, none⟩), .int .i64 ((k : Int) + 1)] w fun e w' => e = .returned (.pointer (some ⟨G k, 0, none⟩)) ∧ w = w' := by
  obtain ⟨A, cap, hv, hc1, hc2, hrow⟩ := h.row_at
  have c1 := h.net.cell_ (i := 1) rfl
  rw [hv] at c1
  obtain ⟨b, off, rfl, d0⟩ := hrow k hk
  have d1 : decide ((k : Int) + 1 < 1) = false := by simp; omega
  have d2 : decide ((ws.length : Int) < (k : Int) + 1) = false := by simp; omega
  have hwr : IntKind.i64.wrap ((k : Int) + 1 - 1) = (k : Int) := by rw [show (k : Int) + 1 - 1 = (k : Int) by omega, IntKind.wrap_i64]; omega
  clear h hrow hv
  unfold maxLen at hc2
  go_enter Try.func20, Try.ntmps20
  go_wp2_with fail
  go_ret
  exact ⟨rfl, rfl⟩
theorem up_yes {w : World} {B n : Nat} {now : Int} {ws : List Wr} {v : Value} {G : Nat → Nat} {IV GV : Nat → Value} (h : NetR w B n now ws v G IV GV) (hl : ws.length ≤ 64) (k : Nat) (hk : k < ws.length) (hst : (ws.getD k default).st = 1) :
    Calls Try.prog 23 #[.pointer (some ⟨n, 0, none⟩), .int .i64 ((k : Int) + 1)] w fun e w' => e = .returned (.tuple #[.pointer (some ⟨G k, 0, none⟩), .nilIface]) ∧ w = w' := by
  obtain ⟨d0, -⟩ := w_cells (h.wire k hk)
  rw [hst] at d0
  have H := Lib.hid h; clear h
  go_enter Try.func23, Try.ntmps23
  go_wp2_with fail
  go_at_call 20
  refine (at_yes H.out hl k hk).mono ?_
  rintro e w1 ⟨rfl, rfl⟩
  go_wp2_with fail
  go_ret2
  exact ⟨rfl, rfl⟩
end Go.Proofs.Ytedcheicnaphmaa
