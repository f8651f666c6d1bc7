/-
  reset, Shut, Drop of a net's wire; at and up where they refuse; the peer ends; Read of a wire that is gone. No conditions on the program.
-/
import Derived.Test.YtedcheicnaphmaaNet10
namespace Go.Proofs.Ytedcheicnaphmaa
open Go.RowKit
set_option linter.unusedVariables false
set_option linter.unusedSimpArgs false

/-- An error of the document's number. -/
def errV (c : Int) : Value := .iface 61 (.int .i64 c)
/-- A wire that was reset. -/
def resetW (x : Wr) : Wr := { x with st := 2, rs := true, inn := [] }
set_option maxRecDepth 100000 in
theorem reset_any {w : World} {B n : Nat} {now : Int} {ws : List Wr} {v : Value} {G : Nat → Nat} {IV GV : Nat → Value} (h : NetR w B n now ws v G IV GV) (hB : B ≤ w.heap.size) {k : Nat} (hk : k < ws.length) (x : Wr) (hx : ws.getD k default = x) :
    Calls Try.prog 26 #[.pointer (some ⟨G k, 0, none⟩)] w fun e w' => e = .returned (.tuple #[]) ∧ NetS w' B n now (ws.set k (resetW x)) ∧ NFr B w w' := by
  have hw := h.wire k hk
  rw [hx] at hw
  have f0 := hw.frozen 0; have f2 := hw.frozen 2; have f7 := hw.frozen 7
  have c0 := hw.cell_ (i := 0) rfl; have c2 := hw.cell_ (i := 2) rfl; have c7 := hw.cell_ (i := 7) rfl
  have hgl := hw.lt
  have H := Lib.hid h; have HW := Lib.hid hw; have HX := Lib.hid hx
  clear h hw hx
  go_enter Try.func26, Try.ntmps26
  go_wp2_with fail
  refine body_gen fun V hV => ?_
  have hfV : Fr [G k] w V := by rw [hV]; exact (((Fr.refl _ _).setCell (.inl (by simp)) _).setCell (.inl (by simp)) _).setCell (.inl (by simp)) _
  have hbV : Bk V (G k) 60 (wCells (resetW x) (.slice none 0 0) (GV k)) := by
    rw [hV]; exact ((HW.out.put 0 (.int .i64 2)).put 7 (.bool true)).put 2 (.slice none 0 0)
  have hkV : ∀ b, b < w.heap.size → b ≠ G k → V.heap[b]? = w.heap[b]? := fun b hb hne => hfV.block b hb (by simpa using hne)
  have hgo := H.out.got k hk
  rw [HX.out] at hgo
  have hgV : Own V 5 (GV k) (byteVals (resetW x).got) := hgo.kept fun b hb => hkV b (hgo.lt b hb) (fun e => hgo.ne_bk HW.out (by decide) (e ▸ hb))
  have hs : NetS V B n now (ws.set k (resetW x)) := ⟨_, _, _, _, H.out.upd hB hk (resetW x) (.slice none 0 0) (GV k) hbV (Own.nil_ _ _) hgV (.inr (.inl rfl)) (Near.refl _ _) (by intro b hb; cases hb) (fun b hb h1 _ _ => hkV b hb h1)⟩
  have hn : NFr B w V := NFr.own [G k] hfV (fun j hj => by rw [List.mem_singleton.1 hj]; exact ⟨H.out.bg k hk, .inr ⟨_, _, _, HW.out, .inr (.inr (.inl rfl))⟩⟩)
  clear hV
  go_end0
  exact ⟨rfl, hs, hn⟩

theorem up_gone {w : World} {B n : Nat} {now : Int} {ws : List Wr} {v : Value} {G : Nat → Nat} {IV GV : Nat → Value} (h : NetR w B n now ws v G IV GV) (hl : ws.length ≤ 64) (k : Nat) (hk : k < ws.length) (hst : (ws.getD k default).st = 2) :
    Calls Try.prog 23 #[.pointer (some ⟨n, 0, none⟩), .int .i64 ((k : Int) + 1)] w fun e w' => e = .returned (.tuple #[.pointer none, errV 21]) ∧ w = w' := by
  obtain ⟨d0, -⟩ := w_cells (h.wire k hk)
  rw [hst] at d0
  have H := Lib.hid h; clear h
  go_enter Try.func23, Try.ntmps23
  go_wp2_with fail
  go_at_call 20
  refine (at_yes H.out hl k hk).mono ?_
  rintro e w1 ⟨rfl, rfl⟩
  go_wp2_with fail
  go_ret2
  exact ⟨rfl, rfl⟩
theorem read_gone {w : World} {B n : Nat} {now : Int} {ws : List Wr} (h : NetS w B n now ws) (hlen : ws.length ≤ 64) {k : Nat} (hk : k < ws.length) (hst : (ws.getD k default).st = 2) (most : Int) :
    Calls Try.prog 16 #[.pointer (some ⟨n, 0, none⟩), .int .i64 ((k : Int) + 1), .int .i64 most] w fun e w' => e = .returned (.tuple #[.slice none 0 0, .bool false, errV 21]) ∧ w = w' := by
  obtain ⟨v, G, IV, GV, h⟩ := h
  have hup := up_gone h hlen k hk hst
  have HUP := Lib.hid hup; clear hup h
  go_enter Try.func16, Try.ntmps16
  go_wp2_with fail
  go_at_call 23
  refine HUP.out.mono ?_
  rintro e w1 ⟨rfl, rfl⟩
  unfold errV
  go_wp2_with fail
  go_ret3
  exact ⟨rfl, rfl⟩

set_option maxRecDepth 100000 in
set_option maxHeartbeats 1000000 in
theorem shut_yes {w : World} {B n : Nat} {now : Int} {ws : List Wr} (h : NetS w B n now ws) (hB : B ≤ w.heap.size) (hlen : ws.length ≤ 64) {k : Nat} (hk : k < ws.length) (x : Wr) (hx : ws.getD k default = x) (hst : x.st = 1) (hsh : x.sh = false) :
    Calls Try.prog 17 #[.pointer (some ⟨n, 0, none⟩), .int .i64 ((k : Int) + 1)] w fun e w' => e = .returned .nilIface ∧ NetS w' B n now (ws.set k (settleW { x with sh := true })) ∧ NFr B w w' := by
  obtain ⟨v, G, IV, GV, h⟩ := h
  have hup := up_yes h hlen k hk (by rw [hx]; exact hst)
  have HUP := Lib.hid hup; clear hup
  have hw := h.wire k hk
  rw [hx] at hw
  obtain ⟨-, -, -, -, -, -, d6, -⟩ := w_cells hw
  rw [hsh] at d6
  have f6 := hw.frozen 6
  have H := Lib.hid h; have HW := Lib.hid hw; have HX := Lib.hid hx
  clear h hw hx
  go_enter Try.func17, Try.ntmps17
  go_wp2_with fail
  go_at_call 23
  refine HUP.out.mono ?_
  rintro e w1 ⟨rfl, rfl⟩
  go_wp2_with fail
  go_at_call 25
  refine calls_gen fun V hV => ?_
  obtain ⟨y, hy⟩ : ∃ y : Wr, y = { x with sh := true } := ⟨_, rfl⟩
  have hfV : Fr [G k] w V := by rw [hV]; exact (Fr.refl _ _).setCell (.inl (by simp)) _
  have hnV : NetR V B n now (ws.set k y) v G IV GV := by rw [hV, hy]; exact H.out.putW hk { x with sh := true } ((Fr.refl _ _).setCell (.inl (by simp)) _) (HW.out.put 6 _) (by rw [HX.out]) (by rw [HX.out])
  have hfn : NFr B w V := NFr.own [G k] hfV (fun j hj => by rw [List.mem_singleton.1 hj]; exact ⟨H.out.bg k hk, .inr ⟨_, _, _, HW.out, .inr (.inr (.inl rfl))⟩⟩)
  clear hV
  refine (settle_any hnV (by simpa using hk) y (by rw [getD_set ws y hk, if_pos rfl])).mono ?_
  rintro e w3 ⟨rfl, hs, hn3, hf3⟩
  rw [List.set_set, hy] at hs
  have HFIN := Lib.hid (show NetS w3 B n now (ws.set k (settleW { x with sh := true })) ∧ NFr B w w3 from ⟨⟨_, _, _, _, hs⟩, hfn.trans hn3⟩)
  clear hs hn3 hfn hnV hfV hf3
  go_wp2_with fail
  go_ret
  exact ⟨rfl, HFIN.out⟩

theorem drop_yes {w : World} {B n : Nat} {now : Int} {ws : List Wr} (h : NetS w B n now ws) (hB : B ≤ w.heap.size) (hlen : ws.length ≤ 64) {k : Nat} (hk : k < ws.length) (x : Wr) (hx : ws.getD k default = x) (hst : x.st = 1) :
    Calls Try.prog 18 #[.pointer (some ⟨n, 0, none⟩), .int .i64 ((k : Int) + 1)] w fun e w' => e = .returned .nilIface ∧ NetS w' B n now (ws.set k (resetW x)) ∧ NFr B w w' := by
  obtain ⟨v, G, IV, GV, h⟩ := h
  have hw := h.wire k hk
  rw [hx] at hw
  obtain ⟨d0, -⟩ := w_cells hw
  rw [hst] at d0
  have H := Lib.hid h; have HX := Lib.hid hx
  clear h hw hx
  go_enter Try.func18, Try.ntmps18
  go_wp2_with fail
  go_at_call 20
  refine (at_yes H.out hlen k hk).mono ?_
  rintro e w1 ⟨rfl, rfl⟩
  go_wp2_with fail
  go_at_call 26
  refine (reset_any H.out hB hk x HX.out).mono ?_
  rintro e w1 ⟨rfl, hs, hn⟩
  have HFIN := Lib.hid (show _ ∧ _ from ⟨hs, hn⟩); clear hs hn
  go_wp2_with fail
  go_ret
  exact ⟨rfl, HFIN.out⟩

theorem right_o (k c N : Int) (bA : Option Addr) (n bc : Nat) (hk : k = 2 ∨ k = 3) (w : World) : Calls Try.prog 21 #[.agg (evC k c N (.slice bA n bc))] w fun e w' => e = .returned (.bool true) ∧ Fr [] w w' := by
  unfold evC
  rcases hk with rfl | rfl
  all_goals
    go_enter Try.func21, Try.ntmps21
    go_wp2_with fail
    go_ret
    exact ⟨rfl, (Fr.refl [] w).alloc _⟩

set_option maxRecDepth 100000 in
set_option maxHeartbeats 2000000 in
theorem wfin_yes {w : World} {B n : Nat} {now : Int} {ws : List Wr} (v : Value) (G : Nat → Nat) (IV GV : Nat → Value) (h : NetR w B n now ws v G IV GV) (hB : B ≤ w.heap.size) {k : Nat} (hk : k < ws.length) (x : Wr) (hx : ws.getD k default = x) (hst : x.st = 1) (hen : x.en = false) (c N : Int) (bA : Option Addr) (bn bc : Nat) :
    Calls Try.prog 22 #[.pointer (some ⟨G k, 0, none⟩), .agg (evC 2 c N (.slice bA bn bc))] w fun e w' => e = .returned .nilIface ∧ NetS w' B n now (ws.set k (settleW { x with en := true })) ∧ NFr B w w' := by
  have hw := h.wire k hk
  rw [hx] at hw
  obtain ⟨d0, -, -, -, -, d5, -⟩ := w_cells hw
  have f5 := hw.frozen 5
  rw [hst] at d0
  rw [hen] at d5
  have hgl := hw.lt
  have H := Lib.hid h; have HW := Lib.hid hw; have HX := Lib.hid hx
  clear h hw hx
  unfold evC at *
  go_enter Try.func22, Try.ntmps22
  go_wp2_with fail
  go_at_call 25
  refine calls_gen fun V hV => ?_
  obtain ⟨y, hy⟩ : ∃ y : Wr, y = { x with en := true } := ⟨_, rfl⟩
  have hfV : Fr [G k] w V := by rw [hV]; exact ((Fr.refl _ _).setCell (.inl (by simp)) _).alloc _
  have hnV : NetR V B n now (ws.set k y) v G IV GV := by rw [hV, hy]; exact (H.out.putW hk { x with en := true } ((Fr.refl _ _).setCell (.inl (by simp)) _) (HW.out.put 5 _) (by rw [HX.out]) (by rw [HX.out])).fr_nil ((Fr.refl _ _).alloc _)
  have hfn : NFr B w V := NFr.own [G k] hfV (fun j hj => by rw [List.mem_singleton.1 hj]; exact ⟨H.out.bg k hk, .inr ⟨_, _, _, HW.out, .inr (.inr (.inl rfl))⟩⟩)
  clear hV
  refine (settle_any hnV (by simpa using hk) y (by rw [getD_set ws y hk, if_pos rfl])).mono ?_
  rintro e w3 ⟨rfl, hs, hn3, hf3⟩
  rw [List.set_set, hy] at hs
  have HFIN := Lib.hid (show NetS w3 B n now (ws.set k (settleW { x with en := true })) ∧ NFr B w w3 from ⟨⟨_, _, _, _, hs⟩, hfn.trans hn3⟩)
  clear hs hn3 hfn hnV hfV hf3
  go_wp2_with fail
  go_ret
  exact ⟨rfl, HFIN.out⟩

set_option maxRecDepth 100000 in
set_option maxHeartbeats 2000000 in
theorem wreset_yes {w : World} {B n : Nat} {now : Int} {ws : List Wr} (v : Value) (G : Nat → Nat) (IV GV : Nat → Value) (h : NetR w B n now ws v G IV GV) (hB : B ≤ w.heap.size) {k : Nat} (hk : k < ws.length) (x : Wr) (hx : ws.getD k default = x) (hst : x.st = 1) (c N : Int) (bA : Option Addr) (bn bc : Nat) :
    Calls Try.prog 22 #[.pointer (some ⟨G k, 0, none⟩), .agg (evC 3 c N (.slice bA bn bc))] w fun e w' => e = .returned .nilIface ∧ NetS w' B n now (ws.set k (resetW x)) ∧ NFr B w w' := by
  have hw := h.wire k hk
  rw [hx] at hw
  obtain ⟨d0, -, -, -, -, d5, -⟩ := w_cells hw
  rw [hst] at d0
  have hgl := hw.lt
  have H := Lib.hid h; have HX := Lib.hid hx
  clear h hw hx
  unfold evC at *
  go_enter Try.func22, Try.ntmps22
  go_wp2_with fail
  go_at_call 26
  refine calls_gen fun V hV => ?_
  have hf0 : Fr [] w V := by rw [hV]; first | exact ((Fr.refl [] w).alloc _) | exact ((Fr.refl [] w).alloc _).drewN _
  clear hV
  refine (reset_any (H.out.fr_nil hf0) (Nat.le_trans hB hf0.size) hk x HX.out).mono ?_
  rintro e w3 ⟨rfl, hs, hn3⟩
  have HFIN := Lib.hid (show _ ∧ NFr B w w3 from ⟨hs, (NFr.of_fr hf0).trans hn3⟩)
  clear hs hn3 hf0
  go_wp2_with fail
  go_ret
  exact ⟨rfl, HFIN.out⟩

set_option maxRecDepth 100000 in
set_option maxHeartbeats 2000000 in
/-- An event of kind 2 or 3 at a wire. -/
theorem event_via {w : World} {B n : Nat} {now : Int} {ws ws' : List Wr} (kd : Int) (hkd : kd = 2 ∨ kd = 3) (v : Value) (G : Nat → Nat) (IV GV : Nat → Value) (h : NetR w B n now ws v G IV GV) (hB : B ≤ w.heap.size) (hlen : ws.length ≤ 64) {k : Nat} (hk : k < ws.length) (N : Int) (bA : Option Addr) (bn bc : Nat)
    (hdt : ∀ (w : World), NetR w B n now ws v G IV GV → B ≤ w.heap.size → Calls Try.prog 22 #[.pointer (some ⟨G k, 0, none⟩), .agg (evC kd ((k : Int) + 1) N (.slice bA bn bc))] w fun e w' => e = .returned .nilIface ∧ NetS w' B n now ws' ∧ NFr B w w') :
    Calls Try.prog 10 #[.pointer (some ⟨n, 0, none⟩), .agg (evC kd ((k : Int) + 1) N (.slice bA bn bc))] w fun e w' => e = .returned .nilIface ∧ NetS w' B n now ws' ∧ NFr B w w' := by
  have hri := fun w => right_o kd ((k : Int) + 1) N bA bn bc hkd w
  have HRI := Lib.hid hri; clear hri
  have H := Lib.hid h; have HDT := Lib.hid hdt
  clear h hdt
  have hev : Bk (w.alloc (.cells (evC kd ((k : Int) + 1) N (.slice bA bn bc)) 34)) w.heap.size 34 (evC kd ((k : Int) + 1) N (.slice bA bn bc)) := Bk.new w _ _
  have HEV := Lib.hid hev; clear hev
  unfold evC at *
  rcases hkd with rfl | rfl
  all_goals
    go_enter Try.func10, Try.ntmps10
    go_wp2_with fail
    go_at_call 20
    refine (at_yes (H.out.fr_nil ((Fr.refl [] w).alloc _)) hlen k hk).mono ?_
    rintro e w1 ⟨rfl, rfl⟩
    go_wp2_with fail
    go_at_call 21
    refine (HRI.out _).mono ?_
    rintro e w2 ⟨rfl, hf⟩
    have hf2 : Fr [] w w2 := ((Fr.refl [] w).alloc _).trans hf
    have he2 := HEV.out.fr hf (by simp)
    have d0 := he2.cell_ (i := 0) rfl; have d1 := he2.cell_ (i := 1) rfl; have d2 := he2.cell_ (i := 2) rfl; have d3 := he2.cell_ (i := 3) rfl
    have HF2 := Lib.hid hf2
    clear hf hf2 he2
    go_wp2_with fail
    go_at_call 22
    refine (HDT.out _ (H.out.fr_nil HF2.out) (Nat.le_trans hB HF2.out.size)).mono ?_
    rintro e w3 ⟨rfl, hs, hn⟩
    go_wp2_with fail
    go_ret
    exact ⟨rfl, hs, (NFr.of_fr HF2.out).trans hn⟩
theorem fin_yes {w : World} {B n : Nat} {now : Int} {ws : List Wr} (h : NetS w B n now ws) (hB : B ≤ w.heap.size) (hlen : ws.length ≤ 64) {k : Nat} (hk : k < ws.length) (x : Wr) (hx : ws.getD k default = x) (hst : x.st = 1) (hen : x.en = false) (N : Int) (bA : Option Addr) (bn bc : Nat) :
    Calls Try.prog 10 #[.pointer (some ⟨n, 0, none⟩), .agg (evC 2 ((k : Int) + 1) N (.slice bA bn bc))] w fun e w' => e = .returned .nilIface ∧ NetS w' B n now (ws.set k (settleW { x with en := true })) ∧ NFr B w w' := by
  obtain ⟨v, G, IV, GV, h⟩ := h
  exact event_via 2 (.inl rfl) v G IV GV h hB hlen hk N bA bn bc fun w h hB => wfin_yes v G IV GV h hB hk x hx hst hen _ _ _ _ _
theorem reset_yes {w : World} {B n : Nat} {now : Int} {ws : List Wr} (h : NetS w B n now ws) (hB : B ≤ w.heap.size) (hlen : ws.length ≤ 64) {k : Nat} (hk : k < ws.length) (x : Wr) (hx : ws.getD k default = x) (hst : x.st = 1) (N : Int) (bA : Option Addr) (bn bc : Nat) :
    Calls Try.prog 10 #[.pointer (some ⟨n, 0, none⟩), .agg (evC 3 ((k : Int) + 1) N (.slice bA bn bc))] w fun e w' => e = .returned .nilIface ∧ NetS w' B n now (ws.set k (resetW x)) ∧ NFr B w w' := by
  obtain ⟨v, G, IV, GV, h⟩ := h
  exact event_via 3 (.inr rfl) v G IV GV h hB hlen hk N bA bn bc fun w h hB => wreset_yes v G IV GV h hB hk x hx hst _ _ _ _ _
end Go.Proofs.Ytedcheicnaphmaa
