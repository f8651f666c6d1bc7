/-
  A range over an array's All, at one statement: what its body may do. No conditions.
-/
import Derived.Test.YtfabmbemdaelcaaRn1
namespace Go.Proofs.Ytfabmbemdaelcaa.C
open Go.RowKit Go.Shelf Go.Maps
set_option linter.unusedVariables false
set_option linter.unusedSimpArgs false

theorem fr_put {W : World} {l : Nat} (o : Obj) : Fr [l] W (W.putObj l o) := ⟨rfl, rfl, rfl, by simp [World.putObj], fun k hk hn => World.putObj_heap_other (by simpa using hn)⟩
/-- How a round's body may be left. -/
def rangePostC (St : List Nat) (I : World → Prop) (Ix : Code → World → Prop) (W2 : World) : Exit → Act → World → Prop
  | .normal, _, W3 => (∀ b ∈ St, W3.heap[b]? = W2.heap[b]?) ∧ I W3
  | .ret, _, W3 => (∀ b ∈ St, W3.heap[b]? = W2.heap[b]?) ∧ Ix .ret W3
  | .exit id, _, W3 => (∀ b ∈ St, W3.heap[b]? = W2.heap[b]?) ∧ Ix (.exit id) W3
  | _, _, _ => False
theorem wp_rangeAll {g : Operand} {ps : Array Tmp} {assign body : Code} {Q : Exit → Act → World → Prop} {a : Act} {w : World} {ba ga : Nat} {la : List Nat} {es : List (Ent CV)}
    (hg : a.eval g = .func (.func 30) #[] #[.pointer (some ⟨ba, 0, none⟩)]) (hps : ps.size = 2)
    (hbox : w.cell? ⟨ba, 0, none⟩ = some (.pointer (some ⟨ga, 0, none⟩))) (ha : Arr w ga la es) (hn : es.length ≤ 1000) (hba : ba < w.heap.size)
    (I : List Nat → Nat → World → Prop) (Ix : List Nat → Code → World → Prop)
    (hI0 : ∀ St W', Fr [] w W' → (∀ b ∈ St, w.heap.size ≤ b ∧ b < W'.heap.size) → I St 0 W')
    (hfr : ∀ St k W1 W2, I St k W1 → Fr St W1 W2 → I St k W2) (hfx : ∀ St c W1 W2, Ix St c W1 → Fr St W1 W2 → Ix St c W2)
    (hround : ∀ (St : List Nat) (l k : Nat) (x : List UInt8 × CV) (W : World), l ∈ St → (∀ b ∈ St, w.heap.size ≤ b ∧ b < W.heap.size) → (live es)[k]? = some x → I St k W →
      assign.wpIn (Fence.wide.inRound l) 2 Try.prog (Exit.then (fun a1 W1 => Fr [] W W1 ∧ ∀ W2, Fr [l] W1 W2 → body.wpIn (Fence.wide.inRound l) 2 Try.prog (rangePostC St (I St (k + 1)) (Ix St) W2) a1 W2) (fun _ _ _ => False))
        { tmps := (ps.zip #[.string ⟨x.1.toArray⟩, x.2.val]).foldl (fun t (p, v) => t.setIfInBounds p v) a.tmps, defers := [] } W)
    (hdone : ∀ (D : Nat) (St : List Nat) (W : World), D ∈ St → (∀ b ∈ St, w.heap.size ≤ b) → I St (live es).length W → W.heap[D]? = some (.deferred (some [])) → Q .normal { a with defers := { target := .collected D, args := #[] } :: a.defers } W)
    (hstop : ∀ (D : Nat) (c : Code) (St : List Nat) (W : World), D ∈ St → (∀ b ∈ St, w.heap.size ≤ b) → Ix St c W → W.heap[D]? = some (.deferred (some [])) → c.wp Try.prog Q { a with defers := { target := .collected D, args := #[] } :: a.defers } W) :
    (Code.rangeFunc g ps assign body).wp Try.prog Q a w := by
  refine (wpIn_wide (n := 4)).1 (wpIn_rangeFunc fun fn hfn => ?_)
  obtain ⟨rec, hrec⟩ : ∃ rec : LoopState → Option Code → Loop, rec = fun st pe => { state := st, pending := pe, fn, tmps := a.tmps, params := ps, assign, body, defers := w.heap.size } := ⟨_, rfl⟩
  obtain ⟨D, hD⟩ : ∃ D, D = w.heap.size := ⟨_, rfl⟩
  obtain ⟨l, hl⟩ : ∃ l, l = w.heap.size + 1 := ⟨_, rfl⟩
  obtain ⟨W1, hW1⟩ : ∃ W1, W1 = (w.alloc (.deferred (some []))).alloc (.loop (rec .ready none)) := ⟨_, rfl⟩
  have hf1 : Fr [] w W1 := by rw [hW1]; exact ((Fr.refl [] w).alloc _).alloc _
  have hsz1 : W1.heap.size = w.heap.size + 2 := by rw [hW1]; simp
  have hL1 : W1.heap[l]? = some (.loop (rec .ready none)) := by
    rw [hW1, hl]; have := heap_alloc_new (w.alloc (.deferred (some []))) (.loop (rec .ready none)); rwa [World.size_alloc] at this
  have hD1 : W1.heap[D]? = some (.deferred (some [])) := by
    rw [hW1, hD]; exact (Below.heap_alloc _ _ _ (by simp)).trans (heap_alloc_new w _)
  have hDl : D ≠ l := by omega
  have hlA : ∀ b ∈ la, b < w.heap.size := ha.lt
  refine ⟨l, [{ target := .collected D, args := #[] }], W1, { target := .fn (.func 30) #[.pointer (some ⟨ba, 0, none⟩)], args := #[.func (.yield l) #[] #[]] }, W1, 30,
    #[.func (.yield l) #[] #[]] ++ #[.pointer (some ⟨ba, 0, none⟩)], W1, ?_, ?_, ?_, ?_, ?_, ?_⟩
  · rw [hW1, hrec, hl, hD]; exact run_enterLoop_outer _ _ _ _ _
  · simp only [resolve, hg]
    simp [go_sem]
  · intro f' hf'; trivial
  · have eg := enters_of Try.func30 (by kernel_rfl) rfl
    simp [invoke, go_sem, eg]
  · intro h; cases h
  · have hcall := all1_in (l := l) (ba := ba) (ga := ga) (la := la) (es := es) (W := W1) ((hf1.cell (p := ⟨ba, 0, none⟩) hba (by simp)).trans hbox) (ha.fr_nil hf1) hn
      (fun Bl k W => I [D, l, Bl] k W ∧ W.heap[l]? = some (.loop (rec .ready none)) ∧ W.heap[D]? = some (.deferred (some [])) ∧ W1.heap.size ≤ Bl ∧ Bl < W.heap.size)
      (fun W => ∃ c Bl, Ix [D, l, Bl] c W ∧ W.heap[l]? = some (.loop (rec .done (some c))) ∧ W.heap[D]? = some (.deferred (some [])) ∧ W1.heap.size ≤ Bl)
      (fun Bl W' hf hB1 hB2 => ⟨hI0 _ W' (hf1.trans hf) (fun b hb => by
          have hs := hf.size
          simp at hb
          rcases hb with rfl | rfl | rfl
          · exact ⟨by omega, by omega⟩
          · exact ⟨by omega, by omega⟩
          · exact ⟨by omega, hB2⟩), (hf.block l (by omega) (by simp)).trans hL1, (hf.block D (by omega) (by simp)).trans hD1, hB1, hB2⟩)
      (fun Bl k Wa Wb hj hf => ⟨hfr _ _ _ _ hj.1 hf.nil_, (hf.block l (Array.getElem?_eq_some_iff.1 hj.2.1).1 (by simp)).trans hj.2.1, (hf.block D (Array.getElem?_eq_some_iff.1 hj.2.2.1).1 (by simp)).trans hj.2.2.1, hj.2.2.2.1, Nat.lt_of_lt_of_le hj.2.2.2.2 hf.size⟩) ?_
    · refine CallsIn.mono hcall ?_
      rintro e W2 ⟨⟨v, rfl⟩, (⟨Bl, hBl, hi, hl2, hd2, -⟩ | ⟨c, Bl, hi, hl2, hd2, hBl⟩)⟩
      · have hlt := (Array.getElem?_eq_some_iff.1 hl2).1
        refine ⟨none, _, by have h := run_endLoop (P := Try.prog) hl2 (by rw [hrec]; simp); rw [hrec] at h; exact h, hdone D [D, l, Bl] _ (by simp) (fun b hb => by simp at hb; rcases hb with rfl | rfl | rfl <;> omega) (hfr _ _ _ _ hi ((fr_put (l := l) _).mono (by simp))) ((World.putObj_heap_other hDl).trans hd2)⟩
      · have hlt := (Array.getElem?_eq_some_iff.1 hl2).1
        refine ⟨some c, _, by have h := run_endLoop (P := Try.prog) hl2 (by rw [hrec]; simp); rw [hrec] at h; exact h, wpIn_wide.2 (hstop D c [D, l, Bl] _ (by simp) (fun b hb => by simp at hb; rcases hb with rfl | rfl | rfl <;> omega) (hfx _ _ _ _ hi ((fr_put (l := l) _).mono (by simp))) ((World.putObj_heap_other hDl).trans hd2))⟩
    · rintro Bl k x Wr hBl hx ⟨hi, hlr, hdr, -, hBlt⟩
      have hy := run_yield (P := Try.prog) (args := #[.string ⟨x.1.toArray⟩, x.2.val]) hlr (by rw [hrec]; exact hps.symm)
      rw [hrec] at hy
      have hltr := (Array.getElem?_eq_some_iff.1 hlr).1
      have hltD := (Array.getElem?_eq_some_iff.1 hdr).1
      have hSt : ∀ b ∈ [D, l, Bl], w.heap.size ≤ b ∧ b < Wr.heap.size := fun b hb => by simp at hb; rcases hb with rfl | rfl | rfl <;> omega
      refine ⟨fn, _, assign, body, hy, roundIn_of_wpIn hfn (wpIn_mono (hround [D, l, Bl] l k x Wr (by simp) hSt hx hi) ?_)⟩
      rintro e a1 Wa h
      cases e with
      | normal =>
        obtain ⟨hfa, hbody⟩ := h
        have hla : Wa.heap[l]? = some (.loop (rec .ready none)) := (hfa.block l hltr (by simp)).trans hlr
        have hda : Wa.heap[D]? = some (.deferred (some [])) := (hfa.block D (Array.getElem?_eq_some_iff.1 hdr).1 (by simp)).trans hdr
        have hlta := (Array.getElem?_eq_some_iff.1 hla).1
        have hBla : Wa.heap[Bl]? = Wr.heap[Bl]? := hfa.block Bl hBlt (by simp)
        have hBll : Bl ≠ l := by omega
        refine ⟨_, run_beginRound hla (by rw [hrec]), wpIn_mono (hbody _ (fr_put _)) ?_⟩
        have fin : ∀ (jump : Option Code) (W3 : World), (∀ b ∈ [D, l, Bl], W3.heap[b]? = (Wa.putObj l (.loop { rec .ready none with state := .busy })).heap[b]?) →
            (Instr.endRound l jump).run Try.prog W3 = .ok (.bool jump.isNone) (W3.putObj l (.loop (rec (if jump.isNone then .ready else .done) jump))) ∧
            (W3.putObj l (.loop (rec (if jump.isNone then .ready else .done) jump))).heap[l]? = some (.loop (rec (if jump.isNone then .ready else .done) jump)) ∧
            (W3.putObj l (.loop (rec (if jump.isNone then .ready else .done) jump))).heap[D]? = some (.deferred (some [])) ∧
            (W3.putObj l (.loop (rec (if jump.isNone then .ready else .done) jump))).heap[Bl]? = Wr.heap[Bl]? ∧ Bl < W3.heap.size := fun jump W3 hst => by
          have hl3 : W3.heap[l]? = some (.loop { rec .ready none with state := .busy }) := (hst l (by simp)).trans (World.putObj_heap_same hlta)
          have hd3 : W3.heap[D]? = some (.deferred (some [])) := (hst D (by simp)).trans ((World.putObj_heap_other hDl).trans hda)
          have hb3 : W3.heap[Bl]? = Wr.heap[Bl]? := (hst Bl (by simp)).trans ((World.putObj_heap_other hBll).trans hBla)
          have hr := run_endRound (P := Try.prog) jump hl3
          rw [hrec] at hr ⊢
          refine ⟨hr, World.putObj_heap_same (Array.getElem?_eq_some_iff.1 hl3).1, (World.putObj_heap_other hDl).trans hd3, (World.putObj_heap_other hBll).trans hb3, ?_⟩
          rcases Nat.lt_or_ge Bl W3.heap.size with h | h
          · exact h
          · rw [Array.getElem?_eq_none h, Array.getElem?_eq_getElem hBlt] at hb3; cases hb3
        rintro e a3 W3 hp
        cases e with
        | normal =>
          obtain ⟨hst, hi3⟩ := hp
          obtain ⟨hr, h1, h2, h3, h4⟩ := fin none W3 hst
          exact ⟨_, _, hr, .inl ⟨rfl, ⟨hfr _ _ _ _ hi3 ((fr_put (l := l) _).mono (by simp)), h1, h2, hBl, by simpa using h4⟩, h3⟩⟩
        | ret =>
          obtain ⟨hst, hi3⟩ := hp
          obtain ⟨hr, h1, h2, h3, h4⟩ := fin (some .ret) W3 hst
          exact ⟨_, _, hr, .inr ⟨rfl, .ret, Bl, hfx _ _ _ _ hi3 ((fr_put (l := l) _).mono (by simp)), h1, h2, hBl⟩⟩
        | exit id =>
          obtain ⟨hst, hi3⟩ := hp
          obtain ⟨hr, h1, h2, h3, h4⟩ := fin (some (.exit id)) W3 hst
          exact ⟨_, _, hr, .inr ⟨rfl, .exit id, Bl, hfx _ _ _ _ hi3 ((fr_put (l := l) _).mono (by simp)), h1, h2, hBl⟩⟩
        | goto t => exact hp.elim
        | panic ch => exact hp.elim
        | outgrown => exact hp.elim
      | ret => exact h
      | exit id => exact h
      | goto t => exact h
      | panic ch => exact h
      | outgrown => exact h
end Go.Proofs.Ytfabmbemdaelcaa.C
