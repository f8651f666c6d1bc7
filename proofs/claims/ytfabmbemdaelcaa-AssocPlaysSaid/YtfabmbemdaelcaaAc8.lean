/-
  Clear of an array of cells; arrays that a law makes, beside a block that stays. No conditions.
-/
import Derived.Test.YtfabmbemdaelcaaAc7
namespace Go.Proofs.Ytfabmbemdaelcaa.C
open Go.RowKit Go.ChangeShapes Go.WideShapes Go.Maps Go.ChangeMaps Go.MapKept
set_option linter.unusedVariables false
set_option linter.unusedSimpArgs false

theorem map_clear {w : World} {mv : Value} {n : Nat} {D : DataW Unit} (h : MapV w mv n D) : ∃ w', (∀ ty, (Builtin.clear_ #[25] ty #[mv]).run Try.prog w = .ok (.tuple #[]) w') ∧ MapV w' mv 0 (.map []) ∧ Fr (mapBlk mv).toList w w' := by
  rcases h with ⟨rfl, rfl⟩ | ⟨b, rfl, es, clock, hb, F, hs, rfl⟩
  · exact ⟨w, fun ty => by simp [Builtin.clear_, run_underlying Try.underlying25, Result.andThen], .inl ⟨rfl, rfl⟩, Fr.refl _ _⟩
  · have ht : w.mapTurned (setBlock w b (.map #[] clock)) b := ⟨es, clock, #[], clock, hb, rfl⟩
    refine ⟨setBlock w b (.map #[] clock), fun ty => ?_, .inr ⟨b, rfl, #[], clock, heap_setBlock_same hb _, ⟨by simp, stamped_empty clock, by simp⟩, Nat.le_refl _, rfl⟩, (Fr.refl _ w).grown ht.grown (fun g' e => .inl (by injection e with e; simp [mapBlk, e]))⟩
    simp [Builtin.clear_, run_underlying Try.underlying25, MapKept.run_getObj_map hb, MapKept.run_setObj_map _ hb, Result.andThen, setBlock]
set_option maxRecDepth 100000 in
set_option maxHeartbeats 4000000 in
theorem clear_any {w : World} {g : Nat} {l : List Nat} {es : List (Ent CV)} (h : Arr w g l es) :
    Calls Try.prog 16 #[.pointer (some ⟨g, 0, none⟩)] w fun e w' => e = .returned (.tuple #[]) ∧ ∃ l', Arr w' g l' [] ∧ Fr l w w' ∧ ∀ b ∈ l', b ∈ l ∨ w.heap.size ≤ b := by
  obtain ⟨mv, A, cap, D, W0, rfl, hb, hm, M, hr, hW0⟩ := h
  obtain ⟨w1, hcl, hm1, hf1⟩ := map_clear hm
  have c0 := hb.cell_ (i := 0) rfl
  have hng := hm.ne_ hb
  have hb1 := hb.fr hf1 (by intro hg; simp at hg; exact hng hg)
  have x1 := hb1.cell_ (i := 1) rfl; have x2 := hb1.cell_ (i := 2) rfl; have f1 := hb1.frozen 1; have f2 := hb1.frozen 2
  have hf2 : Fr [g] w1 ((w1.setCell ⟨g, 1, none⟩ (.slice none 0 0)).setCell ⟨g, 2, none⟩ (.int .i64 0)) := ((Fr.refl [g] w1).setCell (.inl (by simp)) _).setCell (.inl (by simp)) _
  have hfin : ∃ l', Arr ((w1.setCell ⟨g, 1, none⟩ (.slice none 0 0)).setCell ⟨g, 2, none⟩ (.int .i64 0)) g l' [] ∧ Fr (g :: ((mapBlk mv).toList ++ (Value.slice A es.length cap).ownBlock.toList)) w ((w1.setCell ⟨g, 1, none⟩ (.slice none 0 0)).setCell ⟨g, 2, none⟩ (.int .i64 0)) ∧ ∀ b ∈ l', b ∈ (g :: ((mapBlk mv).toList ++ (Value.slice A es.length cap).ownBlock.toList)) ∨ w.heap.size ≤ b := by
    refine ⟨_, ⟨mv, none, 0, .map [], 0, rfl, (hb1.put 1 _).put 2 _, MapV.fr hm1 hf2 (fun b' hq hbl => by simp at hbl; subst hbl; exact hng hq), Mp.nil_, World.ownsRow_nil _ _ _ _, rfl⟩, ((Fr.refl _ w).trans' hf1 (fun b hb => .inl (by simp only [List.mem_cons, List.mem_append]; exact .inr (.inl hb)))).trans' hf2 (fun b hb => .inl (by simp at hb; subst hb; simp)), fun b hb => ?_⟩
    left
    rcases List.mem_cons.1 hb with rfl | hb
    · simp
    · rcases List.mem_append.1 hb with hb | hb
      · simp only [List.mem_cons, List.mem_append]; exact .inr (.inl hb)
      · simp [Value.ownBlock] at hb
  have HFIN := Lib.hid hfin
  clear hfin hf2 hb1 hf1 hm1 hm M hr hW0 hb hng
  go_enter Try.func16, Try.ntmps16
  go_wp2_with fail
  go_end0
  exact ⟨rfl, HFIN.out⟩
/-- An array that lies in blocks new since w0, none of them B. -/
def ArrB (w0 w : World) (g : Nat) (es : List (Ent CV)) (B : Nat) : Prop := ∃ l, Arr w g l es ∧ (∀ b ∈ l, w0.heap.size ≤ b) ∧ Fr [] w0 w ∧ B ∉ l ∧ B < w.heap.size
theorem arrB_of {w0 w w' : World} {g B : Nat} {l : List Nat} {es' : List (Ent CV)} (h : ∃ l', Arr w' g l' es' ∧ Fr l w w' ∧ ∀ b ∈ l', b ∈ l ∨ w.heap.size ≤ b) (h2 : ∀ b ∈ l, w0.heap.size ≤ b) (h3 : Fr [] w0 w) (hB : B ∉ l) (hl : B < w.heap.size) :
    ArrB w0 w' g es' B ∧ w'.heap[B]? = w.heap[B]? := by
  obtain ⟨l', a1, a2, a3⟩ := h
  refine ⟨⟨l', a1, fun b hb => ?_, h3.trans' a2 (fun b hb => .inr (h2 b hb)), fun hb => ?_, Nat.lt_of_lt_of_le hl a2.size⟩, a2.block B hl hB⟩
  · rcases a3 b hb with h | h
    · exact h2 b h
    · exact Nat.le_trans h3.size h
  · rcases a3 B hb with h | h
    · exact hB h
    · omega
theorem ArrB.fr {w0 w w' : World} {g B : Nat} {es : List (Ent CV)} (h : ArrB w0 w g es B) (hf : Fr [] w w') : ArrB w0 w' g es B := by
  obtain ⟨l, h1, h2, h3, h4, h5⟩ := h
  exact ⟨l, h1.fr_nil hf, h2, h3.trans hf, h4, Nat.lt_of_lt_of_le h5 hf.size⟩
theorem ArrB.new {w0 w : World} {B : Nat} (hf : Fr [] w0 w) (hB : B < w.heap.size) : ArrB w0 (w.alloc (.cells #[.map none, .slice none 0 0, .int .i64 0] 46)) w.heap.size [] B :=
  ⟨[w.heap.size], ⟨.map none, none, 0, .map [], 0, rfl, Bk.new w _ _, .inl ⟨rfl, rfl⟩, Mp.nil_, World.ownsRow_nil _ _ _ _, rfl⟩, by simpa using hf.size, hf.alloc _, by simp; omega, by simp; omega⟩
/-- Another block to stay. -/
theorem ArrB.other {w0 w : World} {g B B' : Nat} {es : List (Ent CV)} (h : ArrB w0 w g es B) {o : Obj} : ArrB w0 (w.alloc o) g es w.heap.size := by
  obtain ⟨l, h1, h2, h3, h4, h5⟩ := h
  exact ⟨l, h1.fr_nil ((Fr.refl [] w).alloc o), h2, h3.alloc o, fun hb => by have := h1.lt _ hb; omega, by simp⟩
def dropC (es : List (Ent CV)) (k : List UInt8) : List (Ent CV) := match idxOf es k with
  | some i => if es.length ≤ 2 * (live (es.set i none)).length + 8 then es.set i none else (live (es.set i none)).map some
  | none => es
theorem setB {w0 w : World} {g B : Nat} {es : List (Ent CV)} (h : ArrB w0 w g es B) (k : List UInt8) (v : CV) (hk : k.length ≤ maxLen) (hn : es.length ≤ 1000) :
    Calls Try.prog 14 #[.pointer (some ⟨g, 0, none⟩), .string ⟨k.toArray⟩, v.val] w fun e w' => e = .returned (.bool (idxOf es k).isNone) ∧ ArrB w0 w' g (setE es k v) B ∧ w'.heap[B]? = w.heap[B]? := by
  obtain ⟨l, h1, h2, h3, h4, h5⟩ := h
  exact (set_any h1 k v hk hn).mono fun e w' hp => ⟨hp.1, arrB_of hp.2 h2 h3 h4 h5⟩
theorem dropB {w0 w : World} {g B : Nat} {es : List (Ent CV)} (h : ArrB w0 w g es B) (k : List UInt8) (hk : k.length ≤ maxLen) (hn : es.length ≤ 1000) (hks : ∀ p ∈ live es, p.1.length ≤ maxLen) :
    Calls Try.prog 15 #[.pointer (some ⟨g, 0, none⟩), .string ⟨k.toArray⟩] w fun e w' => e = .returned (.bool (idxOf es k).isSome) ∧ ArrB w0 w' g (dropC es k) B ∧ w'.heap[B]? = w.heap[B]? := by
  obtain ⟨l, h1, h2, h3, h4, h5⟩ := h
  exact (drop_any h1 k hk hn hks).mono fun e w' hp => ⟨hp.1, arrB_of hp.2 h2 h3 h4 h5⟩
theorem clearB {w0 w : World} {g B : Nat} {es : List (Ent CV)} (h : ArrB w0 w g es B) :
    Calls Try.prog 16 #[.pointer (some ⟨g, 0, none⟩)] w fun e w' => e = .returned (.tuple #[]) ∧ ArrB w0 w' g [] B ∧ w'.heap[B]? = w.heap[B]? := by
  obtain ⟨l, h1, h2, h3, h4, h5⟩ := h
  exact (clear_any h1).mono fun e w' hp => ⟨hp.1, arrB_of hp.2 h2 h3 h4 h5⟩
end Go.Proofs.Ytfabmbemdaelcaa.C
