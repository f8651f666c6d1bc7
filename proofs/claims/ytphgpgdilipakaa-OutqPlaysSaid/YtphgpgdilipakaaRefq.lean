/-
  The reference's queue: Good, mark, Put, Next, Took, Clear. No conditions on the program.
-/
import Derived.Test.YtphgpgdilipakaaQuLaw
namespace Go.Proofs.Ytphgpgdilipakaa
open Go.RowKit
set_option linter.unusedVariables false
set_option linter.unusedSimpArgs false

/-- The reference's queue. -/
def rCells (lo hi room : Int) (l : List UInt8) (go held : Int) (ab : Bool) : Array Value := #[.int .i64 lo, .int .i64 hi, .int .i64 room, .string ⟨l.toArray⟩, .int .i64 go, .int .i64 held, .bool ab]
def rv (lo hi room : Int) (l : List UInt8) (go held : Int) (ab : Bool) : Value := .agg (rCells lo hi room l go held ab)

theorem r_cells {w : World} {g : Nat} {t : TypeId} {lo hi room : Int} {l : List UInt8} {go held : Int} {ab : Bool} (h : Bk w g t (rCells lo hi room l go held ab)) :
    (w.cell? ⟨g, 0, none⟩ = some (.int .i64 lo) ∧ w.cell? ⟨g, 1, none⟩ = some (.int .i64 hi) ∧ w.cell? ⟨g, 2, none⟩ = some (.int .i64 room) ∧ w.cell? ⟨g, 3, none⟩ = some (.string ⟨l.toArray⟩) ∧
      w.cell? ⟨g, 4, none⟩ = some (.int .i64 go) ∧ w.cell? ⟨g, 5, none⟩ = some (.int .i64 held) ∧ w.cell? ⟨g, 6, none⟩ = some (.bool ab)) ∧
    (w.frozen? ⟨g, 0, none⟩ = false ∧ w.frozen? ⟨g, 1, none⟩ = false ∧ w.frozen? ⟨g, 2, none⟩ = false ∧ w.frozen? ⟨g, 3, none⟩ = false ∧ w.frozen? ⟨g, 4, none⟩ = false ∧ w.frozen? ⟨g, 5, none⟩ = false ∧ w.frozen? ⟨g, 6, none⟩ = false) :=
  ⟨⟨h.cell_ rfl, h.cell_ rfl, h.cell_ rfl, h.cell_ rfl, h.cell_ rfl, h.cell_ rfl, h.cell_ rfl⟩, h.frozen 0, h.frozen 1, h.frozen 2, h.frozen 3, h.frozen 4, h.frozen 5, h.frozen 6⟩
/-- Seven cells of a block are written. -/
def set7 (w : World) (g : Nat) (a b c d e f h : Value) : World := ((((((w.setCell ⟨g, 0, none⟩ a).setCell ⟨g, 1, none⟩ b).setCell ⟨g, 2, none⟩ c).setCell ⟨g, 3, none⟩ d).setCell ⟨g, 4, none⟩ e).setCell ⟨g, 5, none⟩ f).setCell ⟨g, 6, none⟩ h
theorem set7_fr {l : List Nat} {w0 w : World} {g : Nat} (hf : Fr l w0 w) (hg : g ∈ l ∨ w0.heap.size ≤ g) (a b c d e f h : Value) : Fr l w0 (set7 w g a b c d e f h) :=
  ((((((hf.setCell hg _).setCell hg _).setCell hg _).setCell hg _).setCell hg _).setCell hg _).setCell hg _
theorem set7_bk {w : World} {g : Nat} {t : TypeId} {lo hi room : Int} {l : List UInt8} {go held : Int} {ab : Bool} (hb : Bk w g t (rCells lo hi room l go held ab)) (a b c d e f h : Value) : Bk (set7 w g a b c d e f h) g t #[a, b, c, d, e, f, h] := by
  have hx := ((((((hb.put 0 a).put 1 b).put 2 c).put 3 d).put 4 e).put 5 f).put 6 h
  have ex : (((((((rCells lo hi room l go held ab).setIfInBounds 0 a).setIfInBounds 1 b).setIfInBounds 2 c).setIfInBounds 3 d).setIfInBounds 4 e).setIfInBounds 5 f).setIfInBounds 6 h = #[a, b, c, d, e, f, h] := by
    simp [rCells]
  rw [ex] at hx
  exact hx
theorem set7_far {w : World} {g k : Nat} {t : TypeId} {cs : Array Value} (hb : Bk w k t cs) (hk : k ≠ g) (a b c d e f h : Value) : Bk (set7 w g a b c d e f h) k t cs :=
  ((((((hb.far hk _).far hk _).far hk _).far hk _).far hk _).far hk _).far hk _

theorem body_gen {P : Program} {f : Func} {post : Ending → World → Prop} {ex : Exit} {a : Act} {w : World} (h : ∀ W, W = w → bodyPost P f post ex a W) : bodyPost P f post ex a w := h w rfl
theorem good_yes (lo hi room : Int) (w : World) (h1 : ¬ lo < 0) (h2 : ¬ hi ≤ lo) (h3 : ¬ room < hi) (h4 : ¬ 65536 < room) :
    Calls Try.prog 16 #[.int .i64 lo, .int .i64 hi, .int .i64 room] w fun e w' => e = .returned (.bool true) ∧ w = w' := by
  have d1 : decide ((0 : Int) ≤ lo) = true := by simpa using h1
  have d2 : decide (lo < hi) = true := by simpa using h2
  have d3 : decide (hi ≤ room) = true := by simpa using h3
  have d4 : decide (room ≤ 65536) = true := by simpa using h4
  go_enter Try.func16, Try.ntmps16
  go_wp2_with fail
  go_ret
  exact ⟨rfl, rfl⟩
theorem good_no (lo hi room : Int) (w : World) (h : lo < 0 ∨ hi ≤ lo ∨ room < hi ∨ 65536 < room) :
    Calls Try.prog 16 #[.int .i64 lo, .int .i64 hi, .int .i64 room] w fun e w' => e = .returned (.bool false) ∧ w = w' := by
  by_cases h1 : lo < 0
  · have d1 : decide ((0 : Int) ≤ lo) = false := by simpa using h1
    go_enter Try.func16, Try.ntmps16
    go_wp2_with fail
    go_ret
    exact ⟨rfl, rfl⟩
  by_cases h2 : hi ≤ lo
  · have d1 : decide ((0 : Int) ≤ lo) = true := by simpa using h1
    have d2 : decide (lo < hi) = false := by simpa using h2
    go_enter Try.func16, Try.ntmps16
    go_wp2_with fail
    go_ret
    exact ⟨rfl, rfl⟩
  by_cases h3 : room < hi
  · have d1 : decide ((0 : Int) ≤ lo) = true := by simpa using h1
    have d2 : decide (lo < hi) = true := by simpa using h2
    have d3 : decide (hi ≤ room) = false := by simpa using h3
    go_enter Try.func16, Try.ntmps16
    go_wp2_with fail
    go_ret
    exact ⟨rfl, rfl⟩
  · have h4 : 65536 < room := by omega
    have d1 : decide ((0 : Int) ≤ lo) = true := by simpa using h1
    have d2 : decide (lo < hi) = true := by simpa using h2
    have d3 : decide (hi ≤ room) = true := by simpa using h3
    have d4 : decide (room ≤ 65536) = false := by simpa using h4
    go_enter Try.func16, Try.ntmps16
    go_wp2_with fail
    go_ret
    exact ⟨rfl, rfl⟩

theorem rmark_any (lo hi room : Int) (l : List UInt8) (go : Int) (n : Nat) (ab : Bool) (hlh : ¬ hi ≤ lo) (w : World) :
    Calls Try.prog 25 #[rv lo hi room l go n ab] w fun e w' => e = .returned (rv lo hi room l go n (markB lo hi n ab)) ∧ Fr [] w w' := by
  unfold rv rCells markB
  by_cases h1 : hi ≤ (n : Int)
  · have h2 : ¬ (n : Int) ≤ lo := by omega
    rw [if_pos h1]
    go_enter Try.func25, Try.ntmps25
    go_wp2_with fail
    refine bodyPost_ret (v := .agg #[.int .i64 lo, .int .i64 hi, .int .i64 room, .string ⟨l.toArray⟩, .int .i64 go, .int .i64 n, .bool true]) (by simp [results, Try.results25, go_sem]) rfl ⟨rfl, ((Fr.refl [] w).alloc _).alloc _⟩
  · rw [if_neg h1]
    by_cases h2 : (n : Int) ≤ lo
    · rw [if_pos h2]
      go_enter Try.func25, Try.ntmps25
      go_wp2_with fail
      refine bodyPost_ret (v := .agg #[.int .i64 lo, .int .i64 hi, .int .i64 room, .string ⟨l.toArray⟩, .int .i64 go, .int .i64 n, .bool false]) (by simp [results, Try.results25, go_sem]) rfl ⟨rfl, ((Fr.refl [] w).alloc _).alloc _⟩
    · rw [if_neg h2]
      go_enter Try.func25, Try.ntmps25
      go_wp2_with fail
      refine bodyPost_ret (v := .agg #[.int .i64 lo, .int .i64 hi, .int .i64 room, .string ⟨l.toArray⟩, .int .i64 go, .int .i64 n, .bool ab]) (by simp [results, Try.results25, go_sem]) rfl ⟨rfl, ((Fr.refl [] w).alloc _).alloc _⟩

theorem rput_no (lo hi room : Int) (l s : List UInt8) (go : Int) (n : Nat) (ab : Bool) (hr : room ≤ 65536) (hn : n ≤ 65536) (hs : s.length ≤ 65536) (h : room < n + s.length) (w : World) :
    Calls Try.prog 17 #[rv lo hi room l go n ab, .string ⟨s.toArray⟩] w fun e w' => e = .returned (.tuple #[rv lo hi room l go n ab, .int .i64 17]) ∧ Fr [] w w' := by
  unfold rv rCells
  have hsz := ba_size s
  have hwr : IntKind.i64.wrap ((n : Int) + (s.length : Int)) = (n : Int) + (s.length : Int) := by rw [IntKind.wrap_i64]; omega
  have hd : decide (room < (n : Int) + (s.length : Int)) = true := by simp; omega
  go_enter Try.func17, Try.ntmps17
  go_wp2_with fail
  refine bodyPost_ret (v := .tuple #[.agg #[.int .i64 lo, .int .i64 hi, .int .i64 room, .string ⟨l.toArray⟩, .int .i64 go, .int .i64 n, .bool ab], .int .i64 17]) (by simp [results, Try.results17, go_sem]) rfl ⟨rfl, ((Fr.refl [] w).alloc _).alloc _⟩
theorem rput_yes (lo hi room : Int) (l s : List UInt8) (go : Int) (n : Nat) (ab : Bool) (hlh : ¬ hi ≤ lo) (hr : room ≤ 65536) (hn : n ≤ 65536) (hs : s.length ≤ 65536) (hl : l.length ≤ 65536) (h : ¬ room < n + s.length) (w : World) :
    Calls Try.prog 17 #[rv lo hi room l go n ab, .string ⟨s.toArray⟩] w fun e w' => e = .returned (.tuple #[rv lo hi room (l ++ s) go (n + s.length : Nat) (markB lo hi (n + s.length) ab), .int .i64 0]) ∧ Fr [] w w' := by
  have hsz := ba_size s
  have hap := ba_append l s
  have hwr : IntKind.i64.wrap ((n : Int) + (s.length : Int)) = (n : Int) + (s.length : Int) := by rw [IntKind.wrap_i64]; omega
  have hd : decide (room < (n : Int) + (s.length : Int)) = false := by simp; omega
  have hmk := fun w => rmark_any lo hi room (l ++ s) go (n + s.length) ab hlh w
  unfold rv rCells at hmk ⊢
  rw [show ((n + s.length : Nat) : Int) = (n : Int) + (s.length : Int) by omega] at hmk ⊢
  have HM := Lib.hid hmk; clear hmk
  go_enter Try.func17, Try.ntmps17
  go_wp2_with fail
  go_at_call 25
  refine (HM.out _).mono ?_
  rintro e w1 ⟨rfl, hf⟩
  have hf2 : Fr [] w w1 := (((Fr.refl [] w).alloc _).alloc _).trans hf
  have hB : Bk w1 (w.heap.size + 1) 42 (rCells 0 0 0 [] 0 0 false) := by
    have := (Bk.new (w.alloc (.cells #[.int .i64 lo, .int .i64 hi, .int .i64 room, .string ⟨(l ++ s).toArray⟩, .int .i64 go, .int .i64 ((n : Int) + (s.length : Int)), .bool ab] 42)) 42 (rCells 0 0 0 [] 0 0 false)).fr (w' := w1) (by simpa [rCells] using hf) (by simp)
    simpa using this
  obtain ⟨⟨z0, z1, z2, z3, z4, z5, z6⟩, f0, f1, f2, f3, f4, f5, f6⟩ := r_cells hB
  have HF := Lib.hid hf2; have HB := Lib.hid hB; clear hf hf2 hB
  go_wp2_with fail
  refine body_gen fun W hW => ?_
  have hF : Fr [] w W := by rw [hW]; exact set7_fr HF.out (.inr (by omega)) _ _ _ _ _ _ _
  have hb7 : Bk W (w.heap.size + 1) 42 (rCells lo hi room (l ++ s) go ((n : Int) + (s.length : Int)) (markB lo hi (n + s.length) ab)) := by rw [hW]; exact set7_bk HB.out _ _ _ _ _ _ _
  clear z0 z1 z2 z3 z4 z5 z6 f0 f1 f2 f3 f4 f5 f6 hW
  obtain ⟨⟨z0, z1, z2, z3, z4, z5, z6⟩, -⟩ := r_cells hb7
  refine bodyPost_ret (v := .tuple #[.agg #[.int .i64 lo, .int .i64 hi, .int .i64 room, .string ⟨(l ++ s).toArray⟩, .int .i64 go, .int .i64 ((n : Int) + (s.length : Int)), .bool (markB lo hi (n + s.length) ab)], .int .i64 0]) (by simp [results, Try.results17, go_sem, z0, z1, z2, z3, z4, z5, z6]) rfl ⟨rfl, hF⟩

/-- What waits: the last bytes of all. -/
theorem rnext_any (lo hi room : Int) (pre bs : List UInt8) (go : Int) (ab : Bool) (m : Int) (hl : (pre ++ bs).length ≤ 65536) (w : World) :
    Calls Try.prog 21 #[rv lo hi room (pre ++ bs) go bs.length ab, .int .i64 m] w fun e w' => e = .returned (.string ⟨(bs.take (clampN m bs.length)).toArray⟩) ∧ Fr [] w w' := by
  obtain ⟨k, hk⟩ : ∃ k, k = clampN m bs.length := ⟨_, rfl⟩
  rw [← hk]
  have hkl : k ≤ bs.length := by rw [hk]; exact clampN_le _ _
  unfold rv rCells
  have hsz := ba_size (pre ++ bs)
  have hbz := ba_size bs
  have hex : (⟨(pre ++ bs).toArray⟩ : ByteArray).extract pre.length (pre ++ bs).length = ⟨bs.toArray⟩ := by
    rw [ba_extract]; simp
  have hex2 : (⟨bs.toArray⟩ : ByteArray).extract 0 k = ⟨(bs.take k).toArray⟩ := by
    rw [ba_extract]; simp
  have hwr : IntKind.i64.wrap (((pre ++ bs).length : Int) - (bs.length : Int)) = (pre.length : Int) := by
    rw [IntKind.wrap_i64]; simp at hl ⊢; omega
  have hpl : pre.length ≤ (pre ++ bs).length := by simp
  generalize hL : (pre ++ bs).length = L at *
  rcases clampN_three hk with ⟨h1, hk'⟩ | ⟨⟨h1, h2⟩, hk'⟩ | ⟨⟨h1, h2⟩, hk'⟩
  all_goals clear hk
  · have hk0 : k = 0 := by have := hk'.out; omega
    subst hk0
    clear hk'
    rw [List.take_zero]
    go_enter Try.func21, Try.ntmps21
    go_wp2_with fail
    go_ret
    exact ⟨rfl, (Fr.refl [] w).alloc _⟩
  · have hk0 : k = bs.length := by have := hk'.out; omega
    subst hk0
    clear hk' hkl
    rw [List.take_length]
    go_enter Try.func21, Try.ntmps21
    go_wp2_with fail
    go_ret
    exact ⟨rfl, (Fr.refl [] w).alloc _⟩
  · obtain rfl : m = (k : Int) := hk'.out
    go_enter Try.func21, Try.ntmps21
    go_wp2_with fail
    go_ret
    exact ⟨rfl, (Fr.refl [] w).alloc _⟩

theorem rtook_any (lo hi room : Int) (pre bs : List UInt8) (go : Int) (ab : Bool) (m : Int) (k : Nat) (hk : k = clampN m bs.length) (hlh : ¬ hi ≤ lo) (hg0 : 0 ≤ go) (hg1 : go ≤ 1000000000000000) (hl : (pre ++ bs).length ≤ 65536) (w : World) :
    Calls Try.prog 18 #[rv lo hi room (pre ++ bs) go bs.length ab, .int .i64 m] w fun e w' => e = .returned (.tuple #[rv lo hi room (pre ++ bs) (go + k) (bs.drop k).length (markB lo hi (bs.drop k).length ab), .int .i64 k]) ∧ Fr [] w w' := by
  have hkl : k ≤ bs.length := by rw [hk]; exact clampN_le _ _
  have hnx := fun w => rnext_any lo hi room pre bs go ab m hl w
  rw [← hk] at hnx
  have hdl : ((bs.drop k).length : Int) = (bs.length : Int) - (k : Int) := by simp; omega
  have hmk := fun w => rmark_any lo hi room (pre ++ bs) (go + k) (bs.drop k).length ab hlh w
  have htk : (bs.take k).length = k := by simp; omega
  have hbl : bs.length ≤ 65536 := by simp at hl; omega
  have hsz := ba_size (bs.take k)
  rw [htk] at hsz
  have hw1 : IntKind.i64.wrap ((bs.length : Int) - (k : Int)) = (bs.length : Int) - (k : Int) := by rw [IntKind.wrap_i64]; omega
  have hw2 : IntKind.i64.wrap (go + (k : Int)) = go + (k : Int) := by rw [IntKind.wrap_i64]; omega
  unfold rv rCells at hnx hmk ⊢
  rw [hdl] at hmk ⊢
  have HN := Lib.hid hnx; have HM := Lib.hid hmk
  clear hnx hmk hk hdl hl htk
  generalize bs.take k = tk at *
  generalize markB lo hi (bs.drop k).length ab = ab2 at *
  generalize pre ++ bs = al at *
  generalize bs.length = bl at *
  go_enter Try.func18, Try.ntmps18
  go_wp2_with fail
  go_at_call 21
  refine (HN.out _).mono ?_
  rintro e w1 ⟨rfl, hf⟩
  have hf1 : Fr [] w w1 := (((Fr.refl [] w).alloc _).alloc _).trans hf
  have hA : Bk w1 w.heap.size 42 (rCells lo hi room al go bl ab) := ((Bk.new w 42 (rCells lo hi room al go bl ab)).alloc _).fr hf (by simp)
  have hB : Bk w1 (w.heap.size + 1) 42 (rCells 0 0 0 [] 0 0 false) := by
    have := (Bk.new (w.alloc (.cells (rCells lo hi room al go bl ab) 42)) 42 (rCells 0 0 0 [] 0 0 false)).fr (w' := w1) (by simpa [rCells] using hf) (by simp)
    simpa using this
  obtain ⟨⟨z0, z1, z2, z3, z4, z5, z6⟩, f0, f1, f2, f3, f4, f5, f6⟩ := r_cells hA
  have HF := Lib.hid hf1; have HB := Lib.hid hB; clear hf hf1 hB hA
  go_wp2_with fail
  go_at_call 25
  refine (HM.out _).mono ?_
  rintro e w2 ⟨rfl, hf⟩
  have hf2 : Fr [] w w2 := ((HF.out.setCell (.inr (Nat.le_refl _)) _).setCell (.inr (Nat.le_refl _)) _).trans hf
  have hB2 := ((HB.out.far (p := ⟨w.heap.size, 5, none⟩) (by simp) (.int .i64 ((bl : Int) - (k : Int)))).far (p := ⟨w.heap.size, 4, none⟩) (by simp) (.int .i64 (go + (k : Int)))).fr hf (by simp)
  clear z0 z1 z2 z3 z4 z5 z6 f0 f1 f2 f3 f4 f5 f6
  obtain ⟨⟨z0, z1, z2, z3, z4, z5, z6⟩, f0, f1, f2, f3, f4, f5, f6⟩ := r_cells hB2
  have HF2 := Lib.hid hf2; have HB2 := Lib.hid hB2; clear hf hf2 hB2
  go_wp2_with fail
  refine body_gen fun W hW => ?_
  have hF : Fr [] w W := by rw [hW]; exact set7_fr HF2.out (.inr (by omega)) _ _ _ _ _ _ _
  have hb7 : Bk W (w.heap.size + 1) 42 (rCells lo hi room al (go + k) ((bl : Int) - (k : Int)) ab2) := by rw [hW]; exact set7_bk HB2.out _ _ _ _ _ _ _
  clear z0 z1 z2 z3 z4 z5 z6 f0 f1 f2 f3 f4 f5 f6 hW
  obtain ⟨⟨z0, z1, z2, z3, z4, z5, z6⟩, -⟩ := r_cells hb7
  refine bodyPost_ret (v := .tuple #[.agg #[.int .i64 lo, .int .i64 hi, .int .i64 room, .string ⟨al.toArray⟩, .int .i64 (go + k), .int .i64 ((bl : Int) - (k : Int)), .bool ab2], .int .i64 k]) (by simp [results, Try.results18, go_sem, z0, z1, z2, z3, z4, z5, z6]) rfl ⟨rfl, hF⟩

theorem rclear_any (lo hi room : Int) (l : List UInt8) (go : Int) (n : Nat) (ab : Bool) (hlh : ¬ hi ≤ lo) (w : World) :
    Calls Try.prog 20 #[rv lo hi room l go n ab] w fun e w' => e = .returned (rv lo hi room l go 0 (markB lo hi 0 ab)) ∧ Fr [] w w' := by
  have hmk := fun w => rmark_any lo hi room l go 0 ab hlh w
  unfold rv rCells at hmk ⊢
  have HM := Lib.hid hmk; clear hmk
  generalize markB lo hi 0 ab = ab2 at *
  go_enter Try.func20, Try.ntmps20
  go_wp2_with fail
  go_at_call 25
  refine (HM.out _).mono ?_
  rintro e w2 ⟨rfl, hf⟩
  have hf2 : Fr [] w w2 := (((Fr.refl [] w).alloc _).alloc _).trans hf
  have hB2 : Bk w2 (w.heap.size + 1) 42 (rCells 0 0 0 [] 0 0 false) := by
    have := (Bk.new (w.alloc (.cells (rCells lo hi room l go 0 ab) 42)) 42 (rCells 0 0 0 [] 0 0 false)).fr (w' := w2) (by simpa [rCells] using hf) (by simp)
    simpa using this
  obtain ⟨⟨z0, z1, z2, z3, z4, z5, z6⟩, f0, f1, f2, f3, f4, f5, f6⟩ := r_cells hB2
  have HF2 := Lib.hid hf2; have HB2 := Lib.hid hB2; clear hf hf2 hB2
  go_wp2_with fail
  refine body_gen fun W hW => ?_
  have hF : Fr [] w W := by rw [hW]; exact set7_fr HF2.out (.inr (by omega)) _ _ _ _ _ _ _
  have hb7 : Bk W (w.heap.size + 1) 42 (rCells lo hi room l go 0 ab2) := by rw [hW]; exact set7_bk HB2.out _ _ _ _ _ _ _
  clear z0 z1 z2 z3 z4 z5 z6 f0 f1 f2 f3 f4 f5 f6 hW
  obtain ⟨⟨z0, z1, z2, z3, z4, z5, z6⟩, -⟩ := r_cells hb7
  refine bodyPost_ret (v := .agg #[.int .i64 lo, .int .i64 hi, .int .i64 room, .string ⟨l.toArray⟩, .int .i64 go, .int .i64 0, .bool ab2]) (by simp [results, Try.results20, go_sem, z0, z1, z2, z3, z4, z5, z6]) rfl ⟨rfl, hF⟩
end Go.Proofs.Ytphgpgdilipakaa
