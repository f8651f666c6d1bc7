/-
  Arrays of ints that a law makes; awake. No conditions.
-/
import Derived.Test.YtfabmbemdaelcaaAs4
import Derived.Test.YtfabmbemdaelcaaAsO
namespace Go.Proofs.Ytfabmbemdaelcaa
open Go.RowKit Go.ChangeShapes Go.WideShapes Go.Maps
set_option linter.unusedVariables false
set_option linter.unusedSimpArgs false

/-- An array that lies in blocks new since w0; nothing else of w0 has turned. -/
def ArrN (w0 w : World) (g : Nat) (es : List (Ent Int)) : Prop := ∃ l, Arr w g l es ∧ (∀ b ∈ l, w0.heap.size ≤ b) ∧ Fr [] w0 w
theorem arrN_new {w0 w : World} (hf : Fr [] w0 w) : ArrN w0 (w.alloc (.cells #[.map none, .slice none 0 0, .int .i64 0] 28)) w.heap.size [] :=
  ⟨[w.heap.size], ⟨.map none, none, 0, .map [], rfl, Bk.new w _ _, .inl ⟨rfl, rfl⟩, Mp.nil_, World.ownsRow_nil _ _ _ _⟩, by simpa using hf.size, hf.alloc _⟩
theorem ArrN.fr {w0 w w' : World} {g : Nat} {es : List (Ent Int)} (h : ArrN w0 w g es) (hf : Fr [] w w') : ArrN w0 w' g es := by
  obtain ⟨l, h1, h2, h3⟩ := h
  exact ⟨l, h1.fr_nil hf, h2, h3.trans hf⟩
theorem SetPost.arrN {w0 w w' : World} {g : Nat} {l : List Nat} {es' : List (Ent Int)} {r : Bool} {e : Ending} (h : SetPost w g l es' r e w') (h2 : ∀ b ∈ l, w0.heap.size ≤ b) (h3 : Fr [] w0 w) : e = .returned (.bool r) ∧ ArrN w0 w' g es' := by
  obtain ⟨rfl, l', a1, a2, a3⟩ := h
  refine ⟨rfl, l', a1, fun b hb => ?_, h3.trans' a2 (fun b hb => .inr (h2 b hb))⟩
  rcases a3 b hb with h | h
  · exact h2 b h
  · exact Nat.le_trans h3.size h
theorem setN {w0 w : World} {g : Nat} {es : List (Ent Int)} (h : ArrN w0 w g es) (k : List UInt8) (v : Int) (hk : k.length ≤ 1000) (hn : es.length ≤ 1000) (hwt : wt es ≤ 10000000) :
    Calls Try.prog 8 #[.pointer (some ⟨g, 0, none⟩), .string ⟨k.toArray⟩, .int .i64 v] w fun e w' => e = .returned (.bool (idxOf es k).isNone) ∧ ArrN w0 w' g (setE es k v) := by
  obtain ⟨l, h1, h2, h3⟩ := h
  exact (set_any h1 k v hk hn hwt).mono fun e w' hp => hp.arrN h2 h3
theorem dropN {w0 w : World} {g : Nat} {es : List (Ent Int)} (h : ArrN w0 w g es) (k : List UInt8) (hk : k.length ≤ maxLen) (hk2 : ∀ i, idxOf es k = some i → k.length ≤ 1000) (hn : es.length ≤ 1000) (hwt : wt es ≤ 10000000) (hgap : es.length ≤ 2 * ((live es).length - 1) + 8) :
    Calls Try.prog 11 #[.pointer (some ⟨g, 0, none⟩), .string ⟨k.toArray⟩] w fun e w' => e = .returned (.bool (idxOf es k).isSome) ∧ ArrN w0 w' g (dropE es k) := by
  obtain ⟨l, h1, h2, h3⟩ := h
  unfold dropE
  cases hi : idxOf es k with
  | none => exact (drop_none h1 k hk hi).mono fun e w' hp => ⟨hp.1, by rw [hp.2]; exact ⟨l, h1, h2, h3⟩⟩
  | some i => exact (drop_some h1 k (hk2 i hi) hn hwt hi hgap).mono fun e w' hp => hp.arrN h2 h3
theorem getN {w0 w : World} {g : Nat} {es : List (Ent Int)} (h : ArrN w0 w g es) (k : List UInt8) (hk : k.length ≤ maxLen) :
    Calls Try.prog 10 #[.pointer (some ⟨g, 0, none⟩), .string ⟨k.toArray⟩] w fun e w' => e = .returned (.tuple #[.int .i64 (valI es k), .bool (idxOf es k).isSome]) ∧ w' = w := by
  obtain ⟨l, h1, h2, h3⟩ := h
  exact get_any h1 k hk
theorem ArrN.dist {w0 w : World} {g : Nat} {es : List (Ent Int)} (h : ArrN w0 w g es) : Dist es := by
  obtain ⟨l, ⟨mv, A, cap, D, -, -, -, M, -⟩, -⟩ := h
  exact M.dist
theorem lenN {w0 w : World} {g : Nat} {es : List (Ent Int)} (h : ArrN w0 w g es) : Calls Try.prog 12 #[.pointer (some ⟨g, 0, none⟩)] w fun e w' => e = .returned (.int .i64 ((live es).length : Int)) ∧ w' = w := by
  obtain ⟨l, h1, -⟩ := h
  exact len_any h1
/-- What Keys leaves: the keys in a block of their own, in whatever world behind. -/
def KeysP (w : World) (es : List (Ent Int)) (e : Ending) (w' : World) : Prop :=
  ∃ B, e = .returned (.slice (some ⟨B, 0, none⟩) (live es).length (live es).length) ∧ Fr [] w w' ∧ ∀ w2, Fr [] w' w2 → ∀ i p, (live es)[i]? = some p → w2.cell? ⟨B, i, none⟩ = some (.string ⟨p.1.toArray⟩)
theorem keysN {w0 w : World} {g : Nat} {es : List (Ent Int)} (h : ArrN w0 w g es) (hn : es.length ≤ 1000) :
    Calls Try.prog 9 #[.pointer (some ⟨g, 0, none⟩)] w (KeysP w es) := by
  obtain ⟨l, h1, h2, h3⟩ := h
  refine (keys_any h1 hn).mono fun e w' hp => ?_
  obtain ⟨B, rfl, -, hB, hf, hc⟩ := hp
  exact ⟨B, rfl, hf, fun w2 hf2 i p hi => (hf2.cell (p := ⟨B, i, none⟩) hB (by simp)).trans (hc i p hi)⟩
set_option maxRecDepth 100000 in
set_option maxHeartbeats 4000000 in
theorem awake_any (w : World) : Calls Try.prog 7 #[] w fun e w' => e = .returned (.bool true) ∧ Fr [] w w' := by
  go_enter Try.func7, Try.ntmps7
  go_wp2_with fail
  go_at_call 8
  refine (setN (arrN_new (Fr.refl [] w)) [98] 1 (by decide) (by decide) (by decide)).mono ?_
  rintro e w1 ⟨rfl, h1⟩
  have H1 := Lib.hid h1; clear h1
  go_wp2_with fail
  go_at_call 8
  refine (setN H1.out [97] 2 (by decide) (by decide) (by decide)).mono ?_
  rintro e w2 ⟨rfl, h2⟩
  have H2 := Lib.hid h2; clear h2
  go_wp2_with fail
  go_at_call 8
  refine (setN H2.out [98] 3 (by decide) (by decide) (by decide)).mono ?_
  rintro e w3 ⟨rfl, h3⟩
  have h3' : ArrN w w3 w.heap.size [some ([98], 3), some ([97], 2)] := h3
  have H3 := Lib.hid h3'; clear h3 h3'
  go_wp2_with fail
  go_at_call 10
  refine (getN H3.out [98] (by decide)).mono ?_
  rintro e w4 ⟨rfl, rfl⟩
  go_wp2_with fail
  go_at_call 9
  refine (keysN H3.out (by decide)).mono ?_
  rintro e w5 ⟨B, rfl, hf5, hc⟩
  have x0 : w5.cell? ⟨B, 0, none⟩ = some (.string ⟨#[98]⟩) := hc w5 (Fr.refl _ _) 0 _ rfl
  have H5 := Lib.hid (H3.out.fr hf5)
  clear hc hf5
  have e1 : (idxOf ([] : List (Ent Int)) [98]).isNone = true := rfl
  have e2 : (idxOf (setE ([] : List (Ent Int)) [98] 1) [97]).isNone = true := rfl
  have e3 : (idxOf (setE (setE ([] : List (Ent Int)) [98] 1) [97] 2) [98]).isNone = false := rfl
  have e4 : valI [some ([98], 3), some ([97], 2)] [98] = 3 := rfl
  have e5 : (idxOf ([some ([98], 3), some ([97], 2)] : List (Ent Int)) [98]).isSome = true := rfl
  have e6 : (live ([some ([98], 3), some ([97], 2)] : List (Ent Int))).length = 2 := rfl
  rw [e1, e2, e3, e4, e5, e6]
  clear e1 e2 e3 e4 e5 e6
  go_wp2_with fail
  go_at_call 27
  obtain ⟨l5, a5, -, hf⟩ := H5.out
  refine (weight_any a5).mono ?_
  rintro e w6 ⟨rfl, rfl⟩
  have e7 : wt ([some ([98], 3), some ([97], 2)] : List (Ent Int)) = 66 := rfl
  rw [e7]
  have HF := Lib.hid hf
  clear e7 a5 hf
  go_wp2_with fail
  go_ret
  exact ⟨rfl, HF.out⟩
end Go.Proofs.Ytfabmbemdaelcaa
