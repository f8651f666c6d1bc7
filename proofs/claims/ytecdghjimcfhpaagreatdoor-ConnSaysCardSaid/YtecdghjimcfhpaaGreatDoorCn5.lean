/-
  A connection's New of any config; the acts of law 21, few. No conditions on the program.
-/
import Derived.Test.YtecdghjimcfhpaaGreatDoorCn4
import Derived.Test.YtecdghjimcfhpaaGreatDoorRead
namespace Go.Proofs.YtecdghjimcfhpaaGreatDoor
open Go.ChangeShapes Go.WideShapes Go.ChangeAt Go.RowKit Go.Deep
set_option linter.unusedVariables false
set_option linter.unusedSimpArgs false

def badC (k lo hi room idle : Int) : Prop := (lo < 0 ∨ hi ≤ lo ∨ room < hi ∨ 65536 < room) ∨ k < 1 ∨ 4096 < k ∨ idle < 0 ∨ 1048576 < idle
set_option maxRecDepth 100000 in
set_option maxHeartbeats 2000000 in
theorem cnew_bad (w : World) (s : ByteArray) (k lo hi room idle : Int) (h : badC k lo hi room idle) :
    Calls Tryz.prog 6 #[.string s, .agg #[.int .i64 k, .int .i64 lo, .int .i64 hi, .int .i64 room, .int .i64 idle], .int .i64 0] w fun e w' => e = .returned (.tuple #[.pointer none, errV 1]) ∧ Fr [] w w' := by
  by_cases hq : lo < 0 ∨ hi ≤ lo ∨ room < hi ∨ 65536 < room
  · have HQ := Lib.hid hq
    clear hq h
    go_enter Tryz.func6, Tryz.ntmps6
    go_wp2_with fail
    go_at_call 19
    refine calls_gen fun V hV => ?_
    have HV : Hid (Fr [] w V) := Lib.hid (by rw [hV]; exact (Fr.refl _ _).alloc _)
    clear hV
    refine (Q.new_no lo hi room V HQ.out).mono ?_
    rintro e w2 ⟨rfl, rfl⟩
    go_wp2_with fail
    go_ret2
    exact ⟨rfl, HV.out⟩
  · have hx := h.resolve_left hq
    have q1 : ¬ lo < 0 := fun e => hq (.inl e)
    have q2 : ¬ hi ≤ lo := fun e => hq (.inr (.inl e))
    have q3 : ¬ room < hi := fun e => hq (.inr (.inr (.inl e)))
    have q4 : ¬ 65536 < room := fun e => hq (.inr (.inr (.inr e)))
    have HN := Lib.hid (fun V => Q.new_yes lo hi room V q1 q2 q3 q4)
    clear h hq q1 q2 q3 q4
    go_enter Tryz.func6, Tryz.ntmps6
    go_wp2_with fail
    go_at_call 19
    refine calls_gen fun V hV => ?_
    have hbx : Bk V w.heap.size 29 #[.int .i64 k, .int .i64 lo, .int .i64 hi, .int .i64 room, .int .i64 idle] := by rw [hV]; exact Bk.new _ _ _
    have hfV : Fr [] w V := by rw [hV]; exact (Fr.refl _ _).alloc _
    clear hV
    refine (HN.out V).mono ?_
    rintro e w2 ⟨rfl, hw2⟩
    have hf2 : Fr [] V w2 := by rw [hw2]; exact (Fr.refl _ _).alloc _
    have hbx2 := hbx.fr hf2 (by simp)
    have d0 := hbx2.cell_ (i := 0) rfl
    have d4 := hbx2.cell_ (i := 4) rfl
    have HF2 := Lib.hid (hfV.trans hf2)
    clear hw2 hf2 hbx hbx2 hfV HN
    by_cases k1 : k < 1
    · have t0 : decide (k < 1) = true := decide_eq_true k1
      go_wp2_with fail
      go_ret2
      exact ⟨rfl, HF2.out⟩
    have t0 : decide (k < 1) = false := decide_eq_false k1
    by_cases k2 : 4096 < k
    · have t1 : decide (4096 < k) = true := decide_eq_true k2
      go_wp2_with fail
      go_ret2
      exact ⟨rfl, HF2.out⟩
    have t1 : decide (4096 < k) = false := decide_eq_false k2
    by_cases k3 : idle < 0
    · have t2 : decide (idle < 0) = true := decide_eq_true k3
      go_wp2_with fail
      go_ret2
      exact ⟨rfl, HF2.out⟩
    have t2 : decide (idle < 0) = false := decide_eq_false k3
    have k4 : 1048576 < idle := by omega
    have t3 : decide (1048576 < idle) = true := decide_eq_true k4
    go_wp2_with fail
    go_ret2
    exact ⟨rfl, HF2.out⟩
/-- A new connection that speaks. -/
theorem cnew_speaks (w : World) (k lo hi room idle : Int) (h : ¬ badC k lo hi room idle) :
    Calls Tryz.prog 6 #[.string ⟨#[10]⟩, .agg #[.int .i64 k, .int .i64 lo, .int .i64 hi, .int .i64 room, .int .i64 idle], .int .i64 0] w fun e w' =>
      ∃ g q r, e = .returned (.tuple #[.pointer (some ⟨g, 0, none⟩), .nilIface]) ∧ Cq w' w.heap.size g q r k lo hi room [] 0 idle ∧ Fr [] w w' := by
  unfold badC at h
  refine (cnew_ok w 10 (by decide) k lo hi room idle 0 (by omega) (by omega) (by omega) (by omega) (by omega) (by omega)).mono ?_
  rintro e w' ⟨g, q, r, he, hc, hf, hcu⟩
  exact ⟨g, q, r, he, ⟨false, 0, 0, 0, hc.1, q0_que hc.2.1, hcu, hc.2.2.1, hc.2.2.2.1, by omega, by omega, by omega, by omega⟩, hf⟩
/-- The acts: kind, number, bytes of each. -/
def ActS (w : World) (A : Option Addr) (n : Nat) (K M N : Nat → Int) (BA : Nat → Option Addr) (BC : Nat → Nat) (BB : Nat → List UInt8) (F : Nat → Bool) : Prop :=
  ∀ i, i < n → ∃ b off, A = some ⟨b, off, none⟩ ∧ b < w.heap.size ∧ w.cell? ⟨b, off + i * 5, none⟩ = some (.int .i64 (K i)) ∧ w.cell? ⟨b, off + i * 5 + 1, none⟩ = some (.int .i64 (M i)) ∧ w.cell? ⟨b, off + i * 5 + 2, none⟩ = some (.int .i64 (N i)) ∧
    w.cell? ⟨b, off + i * 5 + 3, none⟩ = some (.slice (BA i) (BB i).length (BC i)) ∧ w.cell? ⟨b, off + i * 5 + 4, none⟩ = some (.bool (F i)) ∧ Bytes w (BA i) (BB i) ∧ (BB i).length ≤ maxLen
theorem ActS.fr {w w' : World} {A : Option Addr} {n : Nat} {K M N : Nat → Int} {BA : Nat → Option Addr} {BC : Nat → Nat} {BB : Nat → List UInt8} {F : Nat → Bool} (h : ActS w A n K M N BA BC BB F) (hf : Fr [] w w') : ActS w' A n K M N BA BC BB F := by
  intro i hi
  obtain ⟨b, off, hA, hb, h0, h1, h2, h3, h4, h5, h6⟩ := h i hi
  exact ⟨b, off, hA, Nat.lt_of_lt_of_le hb hf.size, (hf.cell hb (by simp)).trans h0, (hf.cell hb (by simp)).trans h1, (hf.cell hb (by simp)).trans h2, (hf.cell hb (by simp)).trans h3, (hf.cell hb (by simp)).trans h4, At.fr_nil h5 hf, h6⟩
def fewB (n : Nat) (BB : Nat → List UInt8) : Bool := decide (n ≤ 40) && (List.range n).all fun i => decide ((BB i).length ≤ 60)
theorem fewB_no {n : Nat} {BB : Nat → List UInt8} {k : Nat} (hk : k < n) (h : 60 < (BB k).length) : fewB n BB = false := by
  unfold fewB
  rw [Bool.and_eq_false_iff]
  right
  rw [List.all_eq_false]
  exact ⟨k, by simpa using hk, by simp; omega⟩
theorem fewB_yes {n : Nat} {BB : Nat → List UInt8} (hn : n ≤ 40) (h : ∀ i, i < n → (BB i).length ≤ 60) : fewB n BB = true := by
  unfold fewB
  rw [Bool.and_eq_true]
  exact ⟨by simpa using hn, by rw [List.all_eq_true]; intro i hi; simpa using h i (by simpa using hi)⟩

theorem few_any {w : World} {A : Option Addr} {n c : Nat} {K M N : Nat → Int} {BA : Nat → Option Addr} {BC : Nat → Nat} {BB : Nat → List UInt8} {F : Nat → Bool} (h : ActS w A n K M N BA BC BB F) (hn : n ≤ maxLen) :
    Calls Tryz.prog 12 #[.slice A n c] w fun e w' => e = .returned (.bool (fewB n BB)) ∧ w = w' := by
  unfold maxLen at hn
  by_cases h1 : n ≤ 40
  · go_enter Tryz.func12, Tryz.ntmps12
    go_wp2
    go_loop [3] (fun i => ∃ k : Nat, k ≤ n ∧ i = .int .i64 k ∧ ∀ j, j < k → (BB j).length ≤ 60) (fun i => n - (intOf i).toNat)
    case atStart => exact ⟨0, by omega, rfl, by simp⟩
    case round =>
      obtain ⟨k, hk, rfl, hall⟩ := hrel
      have HALL := Lib.hid hall; clear hall
      by_cases hlt : k < n
      · obtain ⟨b, off, rfl, hb, e0, e1, e2, e3, e5, e6, e4⟩ := h k hlt
        unfold maxLen at e4
        by_cases h6 : 60 < (BB k).length
        · have H := Lib.hid (fewB_no hlt h6)
          go_wp2
          go_ret
          exact ⟨by rw [H.out]; rfl, rfl⟩
        · go_wp2
          go_round
          case rel => exact ⟨k + 1, by omega, by go_num, fun j hj => by
            rcases Nat.lt_or_ge j k with h | h
            · exact HALL.out j h
            · have : j = k := by omega
              subst this; omega⟩
          case measure => simp [intOf]; omega
      · have : k = n := by omega
        subst this
        have H := Lib.hid (fewB_yes h1 HALL.out)
        go_wp2
        go_ret
        exact ⟨by rw [H.out]; rfl, rfl⟩
  · have H : Hid (fewB n BB = false) := by unfold fewB Hid; simp; omega
    go_enter Tryz.func12, Tryz.ntmps12
    go_wp2
    go_ret
    exact ⟨by rw [H.out]; rfl, rfl⟩

theorem act_cells : Tryz.prog.cellsOf 38 = 5 := by kernel_rfl
theorem u8_cells : Tryz.prog.cellsOf 5 = 1 := by kernel_rfl
theorem int_cells : Tryz.prog.cellsOf 3 = 1 := by kernel_rfl
theorem bool_cells : Tryz.prog.cellsOf 4 = 1 := by kernel_rfl
theorem bytes_cells : Tryz.prog.cellsOf 31 = 1 := by kernel_rfl
set_option maxRecDepth 100000 in
theorem acts_open {H : Type} {enc : TypeId × Value → H} {w : World} {base base' : Nat} {spare : Nat → Bool} {held : Bool} {r : Reach} {v : Value} {d : DataW H} {p : List MemPlace}
    (hv : Value.okWide Tryz.prog w r base' 35 v) (h : DataW.Trod enc Tryz.prog w base spare held 35 v d p) :
    ∃ (A : Option Addr) (n c : Nat) (K M N : Nat → Int) (BA : Nat → Option Addr) (BC : Nat → Nat) (BB : Nat → List UInt8) (F : Nat → Bool), v = .slice A n c ∧ n ≤ maxLen ∧ ActS w A n K M N BA BC BB F := by
  obtain ⟨A, n, c, rfl, h1, h2, h3, hi⟩ := arg_slice Tryz.underlying35 (by rw [act_cells]; omega) hv h
  rw [act_cells] at hi
  have hx : ∀ i, i < n → ∃ x : (Int × Int × Int × Bool) × (Option Addr × Nat × List UInt8), ∃ b off, A = some ⟨b, off, none⟩ ∧ b < w.heap.size ∧ w.cell? ⟨b, off + i * 5, none⟩ = some (.int .i64 x.1.1) ∧ w.cell? ⟨b, off + i * 5 + 1, none⟩ = some (.int .i64 x.1.2.1) ∧ w.cell? ⟨b, off + i * 5 + 2, none⟩ = some (.int .i64 x.1.2.2.1) ∧
      w.cell? ⟨b, off + i * 5 + 3, none⟩ = some (.slice x.2.1 x.2.2.2.length x.2.2.1) ∧ w.cell? ⟨b, off + i * 5 + 4, none⟩ = some (.bool x.1.2.2.2) ∧ Bytes w x.2.1 x.2.2.2 ∧ x.2.2.2.length ≤ maxLen := by
    intro i hil
    obtain ⟨b, off, es, hA, hb, hel, hcell, hrd⟩ := hi i hil
    obtain ⟨_, hf⟩ := hrd.struct_ Tryz.underlying38
    match es, hel with
    | [e0, e1, e2, e3, e4], _ =>
      obtain ⟨k, hk, wk⟩ := (hf 0 _ rfl).int_ Tryz.underlying3
      obtain ⟨j, hj, wj⟩ := (hf 1 _ rfl).int_ Tryz.underlying3
      obtain ⟨m, hm, wm⟩ := (hf 2 _ rfl).int_ Tryz.underlying3
      obtain ⟨BA, BC, bs, hbs, g1, g2, g3, g4⟩ := (hf 3 _ rfl).bytes_ Tryz.underlying31 Tryz.underlying5 u8_cells
      obtain ⟨f, hfb⟩ := (hf 4 _ rfl).bool_ Tryz.underlying4
      simp [int_cells, bytes_cells, bool_cells] at hk hj hm hbs hfb
      subst hk hj hm hbs hfb
      exact ⟨((k, j, m, f), (BA, BC, bs)), b, off, hA, hb, hcell 0 (by omega), hcell 1 (by omega), hcell 2 (by omega), hcell 3 (by omega), hcell 4 (by omega), g4, Nat.le_trans g1 g2⟩
  obtain ⟨f, hf⟩ := choose_lt (α := (Int × Int × Int × Bool) × (Option Addr × Nat × List UInt8)) hx
  exact ⟨A, n, c, fun i => (f i).1.1, fun i => (f i).1.2.1, fun i => (f i).1.2.2.1, fun i => (f i).2.1, fun i => (f i).2.2.1, fun i => (f i).2.2.2, fun i => (f i).1.2.2.2, rfl, Nat.le_trans h1 h2, hf⟩
end Go.Proofs.YtecdghjimcfhpaaGreatDoor
