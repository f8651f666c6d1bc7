/-
  What a net answers in general: also the answers that refuse. at, up, right, Happen. No conditions on the program.
-/
import Derived.Test.YtedcheicnaphmaaNet11
namespace Go.Proofs.Ytedcheicnaphmaa
open Go.RowKit
set_option linter.unusedVariables false
set_option linter.unusedSimpArgs false

theorem at_no {w : World} {B n : Nat} {now : Int} {ws : List Wr} {v : Value} {G : Nat → Nat} {IV GV : Nat → Value} (h : NetR w B n now ws v G IV GV) (hl : ws.length ≤ 64) (c : Int) (hc : c < 1 ∨ (ws.length : Int) < c) :
    Calls Try.prog 20 #[.pointer (some ⟨n, 0, none⟩), .int .i64 c] w fun e w' => e = .returned (.pointer none) ∧ w = w' := by
  obtain ⟨A, cap, hv, hc1, hc2, hrow⟩ := h.row_at
  have c1 := h.net.cell_ (i := 1) rfl
  rw [hv] at c1
  clear h hrow hv
  unfold maxLen at hc2
  by_cases h1 : c < 1
  · have d1 : decide (c < 1) = true := by simpa using h1
    go_enter Try.func20, Try.ntmps20
    go_wp2_with fail
    go_ret
    exact ⟨rfl, rfl⟩
  · have d1 : decide (c < 1) = false := by simpa using h1
    have d2 : decide ((ws.length : Int) < c) = true := by simp; omega
    go_enter Try.func20, Try.ntmps20
    go_wp2_with fail
    go_ret
    exact ⟨rfl, rfl⟩
theorem up_no {w : World} {B n : Nat} {now : Int} {ws : List Wr} {v : Value} {G : Nat → Nat} {IV GV : Nat → Value} (h : NetR w B n now ws v G IV GV) (hl : ws.length ≤ 64) (c : Int) (hc : c < 1 ∨ (ws.length : Int) < c) :
    Calls Try.prog 23 #[.pointer (some ⟨n, 0, none⟩), .int .i64 c] w fun e w' => e = .returned (.tuple #[.pointer none, errV 16]) ∧ w = w' := by
  have H := Lib.hid h; clear h
  go_enter Try.func23, Try.ntmps23
  go_wp2_with fail
  go_at_call 20
  refine (at_no H.out hl c hc).mono ?_
  rintro e w1 ⟨rfl, rfl⟩
  go_wp2_with fail
  go_ret2
  exact ⟨rfl, rfl⟩

/-- Is what an event bears as it may be? -/
def rightB (k N : Int) (n : Nat) : Bool := if k = 0 ∨ k = 4 ∨ k = 5 then decide (0 ≤ N) && decide (N ≤ 65536) else if k = 7 then decide (1 ≤ N) && decide (N ≤ 1048576) else if k = 1 then decide (n ≤ 4096) else true
theorem right_any (k c N : Int) (bA : Option Addr) (n bc : Nat) (hk : 0 ≤ k ∧ k ≤ 7) (w : World) : Calls Try.prog 21 #[.agg (evC k c N (.slice bA n bc))] w fun e w' => e = .returned (.bool (rightB k N n)) ∧ Fr [] w w' := by
  unfold evC
  obtain rfl | rfl | rfl | rfl | rfl | rfl | rfl | rfl : k = 0 ∨ k = 4 ∨ k = 5 ∨ k = 7 ∨ k = 1 ∨ k = 2 ∨ k = 3 ∨ k = 6 := by omega
  case inl | inr.inl | inr.inr.inl =>
    go_enter Try.func21, Try.ntmps21
    go_wp2_with fail
    go_at_call 28
    refine (within_any N 0 65536 _).mono ?_
    rintro e w1 ⟨rfl, rfl⟩
    go_wp2_with fail
    go_ret
    exact ⟨rfl, (Fr.refl [] w).alloc _⟩
  case inr.inr.inr.inl =>
    go_enter Try.func21, Try.ntmps21
    go_wp2_with fail
    go_at_call 28
    refine (within_any N 1 1048576 _).mono ?_
    rintro e w1 ⟨rfl, rfl⟩
    go_wp2_with fail
    go_ret
    exact ⟨rfl, (Fr.refl [] w).alloc _⟩
  case inr.inr.inr.inr.inl =>
    go_enter Try.func21, Try.ntmps21
    go_wp2_with fail
    go_ret
    exact ⟨by simp [rightB]; omega, (Fr.refl [] w).alloc _⟩
  all_goals
    go_enter Try.func21, Try.ntmps21
    go_wp2_with fail
    go_ret
    exact ⟨rfl, (Fr.refl [] w).alloc _⟩

/-- An event that is refused, or passes, without a look at its wire. -/
def Refused (w : World) (e : Ending) (w' : World) : Prop := ∃ c, e = .returned (errV c) ∧ Fr [] w w'
theorem happen_kind (n : Nat) (k c N : Int) (bA : Option Addr) (bn bc : Nat) (hk : k < 0 ∨ 7 < k) (w : World) :
    Calls Try.prog 10 #[.pointer (some ⟨n, 0, none⟩), .agg (evC k c N (.slice bA bn bc))] w (Refused w) := by
  unfold evC
  by_cases h0 : k < 0
  · have d1 : decide (k < 0) = true := by simpa using h0
    go_enter Try.func10, Try.ntmps10
    go_wp2_with fail
    go_ret
    exact ⟨25, rfl, (Fr.refl [] w).alloc _⟩
  · have d1 : decide (k < 0) = false := by simpa using h0
    have d2 : decide (7 < k) = true := by simp; omega
    go_enter Try.func10, Try.ntmps10
    go_wp2_with fail
    go_ret
    exact ⟨25, rfl, (Fr.refl [] w).alloc _⟩
set_option maxRecDepth 100000 in
set_option maxHeartbeats 2000000 in
theorem happen_none {w : World} {B n : Nat} {now : Int} {ws : List Wr} (h : NetS w B n now ws) (hl : ws.length ≤ 64) (k c N : Int) (bA : Option Addr) (bn bc : Nat) (hk : 1 ≤ k ∧ k ≤ 6) (hc : c < 1 ∨ (ws.length : Int) < c) :
    Calls Try.prog 10 #[.pointer (some ⟨n, 0, none⟩), .agg (evC k c N (.slice bA bn bc))] w (Refused w) := by
  obtain ⟨v, G, IV, GV, h⟩ := h
  have H := Lib.hid h; clear h
  unfold evC
  obtain rfl | rfl | rfl | rfl | rfl | rfl : k = 4 ∨ k = 5 ∨ k = 1 ∨ k = 2 ∨ k = 3 ∨ k = 6 := by omega
  all_goals
    clear hk
    go_enter Try.func10, Try.ntmps10
    go_wp2_with fail
    go_at_call 20
    refine (at_no (H.out.fr_nil ((Fr.refl [] w).alloc _)) hl c hc).mono ?_
    rintro e w1 ⟨rfl, rfl⟩
    go_wp2_with fail
    go_ret
    exact ⟨16, rfl, (Fr.refl [] w).alloc _⟩
set_option maxRecDepth 100000 in
set_option maxHeartbeats 2000000 in
/-- An event at a wire: refused for what it bears, or what the wire answers. -/
theorem event_gen {w : World} {B n : Nat} {now : Int} {ws : List Wr} (kd : Int) (hkd : 1 ≤ kd ∧ kd ≤ 6) (v : Value) (G : Nat → Nat) (IV GV : Nat → Value) (h : NetR w B n now ws v G IV GV) (hB : B ≤ w.heap.size) (hlen : ws.length ≤ 64) {k : Nat} (hk : k < ws.length) (N : Int) (bA : Option Addr) (bn bc : Nat) (Q : Value → World → Prop)
    (hno : ∀ w1 c, rightB kd N bn = false → Fr [] w w1 → Q (errV c) w1)
    (hdt : rightB kd N bn = true → ∀ (w1 : World), Fr [] w w1 → NetR w1 B n now ws v G IV GV → B ≤ w1.heap.size → Calls Try.prog 22 #[.pointer (some ⟨G k, 0, none⟩), .agg (evC kd ((k : Int) + 1) N (.slice bA bn bc))] w1 fun e w' => ∃ r, e = .returned r ∧ Q r w') :
    Calls Try.prog 10 #[.pointer (some ⟨n, 0, none⟩), .agg (evC kd ((k : Int) + 1) N (.slice bA bn bc))] w fun e w' => ∃ r, e = .returned r ∧ Q r w' := by
  have HRI := Lib.hid (fun w => right_any kd ((k : Int) + 1) N bA bn bc ⟨by omega, by omega⟩ w)
  have H := Lib.hid h; have HDT := Lib.hid hdt; have HNO := Lib.hid hno
  clear h hdt hno
  have hev : Bk (w.alloc (.cells (evC kd ((k : Int) + 1) N (.slice bA bn bc)) 34)) w.heap.size 34 (evC kd ((k : Int) + 1) N (.slice bA bn bc)) := Bk.new w _ _
  have HEV := Lib.hid hev; clear hev
  unfold evC at *
  obtain rfl | rfl | rfl | rfl | rfl | rfl : kd = 4 ∨ kd = 5 ∨ kd = 1 ∨ kd = 2 ∨ kd = 3 ∨ kd = 6 := by omega
  all_goals
    clear hkd
    go_enter Try.func10, Try.ntmps10
    go_wp2_with fail
    go_at_call 20
    refine (at_yes (H.out.fr_nil ((Fr.refl [] w).alloc _)) hlen k hk).mono ?_
    rintro e w1 ⟨rfl, rfl⟩
    go_wp2_with fail
    go_at_call 21
    refine (HRI.out _).mono ?_
    rintro e w2 ⟨rfl, hf⟩
    have hf2 : Fr [] w w2 := ((Fr.refl [] w).alloc _).trans hf
    have he2 := HEV.out.fr hf (by simp)
    have d0 := he2.cell_ (i := 0) rfl; have d1 := he2.cell_ (i := 1) rfl; have d2 := he2.cell_ (i := 2) rfl; have d3 := he2.cell_ (i := 3) rfl
    have HF2 := Lib.hid hf2
    clear hf hf2 he2
    generalize hR : rightB _ N bn = R at *
    cases R with
    | false =>
      go_wp2_with fail
      go_ret
      exact ⟨_, rfl, HNO.out _ 1 trivial HF2.out⟩
    | true =>
      go_wp2_with fail
      go_at_call 22
      refine (HDT.out trivial _ HF2.out (H.out.fr_nil HF2.out) (Nat.le_trans hB HF2.out.size)).mono ?_
      rintro e w3 ⟨r, rfl, hs⟩
      have HS := Lib.hid hs; clear hs
      go_wp2_with fail
      go_ret
      exact ⟨r, rfl, HS.out⟩
set_option maxRecDepth 100000 in
set_option maxHeartbeats 2000000 in
/-- A wire that isn't there, or was not asked for. -/
theorem whap_state {w : World} {B n : Nat} {now : Int} {ws : List Wr} (v : Value) (G : Nat → Nat) (IV GV : Nat → Value) (h : NetR w B n now ws v G IV GV) {k : Nat} (hk : k < ws.length) (x : Wr) (hx : ws.getD k default = x) (kd : Int) (hkd : 1 ≤ kd ∧ kd ≤ 6) (hst : x.st = 2 ∨ x.st = 1 ∧ 5 ≤ kd) (c N : Int) (bA : Option Addr) (bn bc : Nat) :
    Calls Try.prog 22 #[.pointer (some ⟨G k, 0, none⟩), .agg (evC kd c N (.slice bA bn bc))] w (Refused w) := by
  have hw := h.wire k hk
  rw [hx] at hw
  obtain ⟨d0, -⟩ := w_cells hw
  have hgl := hw.lt
  clear h hw hx
  unfold evC
  rcases hst with hst | ⟨hst, h5⟩
  · rw [hst] at d0
    clear hst
    obtain rfl | rfl | rfl | rfl | rfl | rfl : kd = 4 ∨ kd = 5 ∨ kd = 1 ∨ kd = 2 ∨ kd = 3 ∨ kd = 6 := by omega
    all_goals
      clear hkd
      go_enter Try.func22, Try.ntmps22
      go_wp2_with fail
      go_ret
      exact ⟨23, rfl, (Fr.refl [] w).alloc _⟩
  · rw [hst] at d0
    clear hst
    obtain rfl | rfl : kd = 5 ∨ kd = 6 := by omega
    all_goals
      clear hkd h5
      go_enter Try.func22, Try.ntmps22
      go_wp2_with fail
      go_ret
      exact ⟨23, rfl, (Fr.refl [] w).alloc _⟩
set_option maxRecDepth 100000 in
set_option maxHeartbeats 2000000 in
/-- A wire whose peer has ended. -/
theorem whap_ended {w : World} {B n : Nat} {now : Int} {ws : List Wr} (v : Value) (G : Nat → Nat) (IV GV : Nat → Value) (h : NetR w B n now ws v G IV GV) {k : Nat} (hk : k < ws.length) (x : Wr) (hx : ws.getD k default = x) (kd : Int) (hkd : kd = 1 ∨ kd = 2) (hst : x.st = 1) (hen : x.en = true) (c N : Int) (bA : Option Addr) (bn bc : Nat) :
    Calls Try.prog 22 #[.pointer (some ⟨G k, 0, none⟩), .agg (evC kd c N (.slice bA bn bc))] w (Refused w) := by
  have hw := h.wire k hk
  rw [hx] at hw
  obtain ⟨d0, -, -, -, -, d5, -⟩ := w_cells hw
  rw [hst] at d0
  rw [hen] at d5
  have hgl := hw.lt
  clear h hw hx hst hen
  unfold evC
  rcases hkd with rfl | rfl
  all_goals
    go_enter Try.func22, Try.ntmps22
    go_wp2_with fail
    go_ret
    exact ⟨23, rfl, (Fr.refl [] w).alloc _⟩
set_option maxRecDepth 100000 in
set_option maxHeartbeats 2000000 in
theorem arrive_no {w : World} {B n : Nat} {now : Int} {ws : List Wr} (h : NetS w B n now ws) (hl : ws.length ≤ 64) (c N : Int) (bA : Option Addr) (bn bc : Nat) (hno : rightB 0 N bn = false ∨ 64 ≤ ws.length) :
    Calls Try.prog 10 #[.pointer (some ⟨n, 0, none⟩), .agg (evC 0 c N (.slice bA bn bc))] w (Refused w) := by
  obtain ⟨v, G, IV, GV, h⟩ := h
  obtain ⟨A, cap, hv, hc1, hc2, -⟩ := h.row_at
  subst hv
  have HRI := Lib.hid (fun w => right_any 0 c N bA bn bc ⟨by omega, by omega⟩ w)
  have H := Lib.hid h; clear h
  have hev : Bk (w.alloc (.cells (evC 0 c N (.slice bA bn bc)) 34)) w.heap.size 34 (evC 0 c N (.slice bA bn bc)) := Bk.new w _ _
  have HEV := Lib.hid hev; clear hev
  unfold evC at *
  go_enter Try.func10, Try.ntmps10
  go_wp2_with fail
  go_at_call 21
  refine (HRI.out _).mono ?_
  rintro e w2 ⟨rfl, hf⟩
  have hf2 : Fr [] w w2 := ((Fr.refl [] w).alloc _).trans hf
  have he2 := HEV.out.fr hf (by simp)
  have d0 := he2.cell_ (i := 0) rfl; have d1 := he2.cell_ (i := 1) rfl; have d2 := he2.cell_ (i := 2) rfl; have d3 := he2.cell_ (i := 3) rfl
  have c1 := (H.out.fr_nil hf2).net.cell_ (i := 1) rfl
  have HF2 := Lib.hid hf2
  clear hf hf2 he2
  generalize hR : rightB _ N bn = R at *
  cases R with
  | false =>
    go_wp2_with fail
    go_ret
    exact ⟨1, rfl, HF2.out⟩
  | true =>
    have h64 : ws.length = 64 := by rcases hno with h | h; cases h; omega
    rw [h64] at c1
    go_wp2_with fail
    go_ret
    exact ⟨17, rfl, HF2.out⟩
end Go.Proofs.Ytedcheicnaphmaa
