/-
  What a net answers in general: Read, Write, Shut, Drop where they refuse; a tick. No conditions on the program.
-/
import Derived.Test.YtedcheicnaphmaaNetG
namespace Go.Proofs.Ytedcheicnaphmaa
open Go.RowKit
set_option linter.unusedVariables false
set_option linter.unusedSimpArgs false

theorem read_none {w : World} {B n : Nat} {now : Int} {ws : List Wr} (h : NetS w B n now ws) (hlen : ws.length ≤ 64) (c : Int) (hc : c < 1 ∨ (ws.length : Int) < c) (most : Int) :
    Calls Try.prog 16 #[.pointer (some ⟨n, 0, none⟩), .int .i64 c, .int .i64 most] w fun e w' => e = .returned (.tuple #[.slice none 0 0, .bool false, errV 16]) ∧ w = w' := by
  obtain ⟨v, G, IV, GV, h⟩ := h
  have HUP := Lib.hid (up_no h hlen c hc); clear h
  go_enter Try.func16, Try.ntmps16
  go_wp2_with fail
  go_at_call 23
  refine HUP.out.mono ?_
  rintro e w1 ⟨rfl, rfl⟩
  unfold errV
  go_wp2_with fail
  go_ret3
  exact ⟨rfl, rfl⟩
theorem write_none {w : World} {B n : Nat} {now : Int} {ws : List Wr} (h : NetS w B n now ws) (hlen : ws.length ≤ 64) (c : Int) (hc : c < 1 ∨ (ws.length : Int) < c) (bA : Option Addr) (bn bc : Nat) :
    Calls Try.prog 13 #[.pointer (some ⟨n, 0, none⟩), .int .i64 c, .slice bA bn bc] w fun e w' => e = .returned (.tuple #[.int .i64 0, errV 16]) ∧ w = w' := by
  obtain ⟨v, G, IV, GV, h⟩ := h
  have HUP := Lib.hid (up_no h hlen c hc); clear h
  go_enter Try.func13, Try.ntmps13
  go_wp2_with fail
  go_at_call 23
  refine HUP.out.mono ?_
  rintro e w1 ⟨rfl, rfl⟩
  unfold errV
  go_wp2_with fail
  go_ret2
  exact ⟨rfl, rfl⟩
theorem write_gone {w : World} {B n : Nat} {now : Int} {ws : List Wr} (h : NetS w B n now ws) (hlen : ws.length ≤ 64) {k : Nat} (hk : k < ws.length) (hst : (ws.getD k default).st = 2) (bA : Option Addr) (bn bc : Nat) :
    Calls Try.prog 13 #[.pointer (some ⟨n, 0, none⟩), .int .i64 ((k : Int) + 1), .slice bA bn bc] w fun e w' => e = .returned (.tuple #[.int .i64 0, errV 21]) ∧ w = w' := by
  obtain ⟨v, G, IV, GV, h⟩ := h
  have HUP := Lib.hid (up_gone h hlen k hk hst); clear h
  go_enter Try.func13, Try.ntmps13
  go_wp2_with fail
  go_at_call 23
  refine HUP.out.mono ?_
  rintro e w1 ⟨rfl, rfl⟩
  unfold errV
  go_wp2_with fail
  go_ret2
  exact ⟨rfl, rfl⟩
theorem write_shut {w : World} {B n : Nat} {now : Int} {ws : List Wr} (h : NetS w B n now ws) (hlen : ws.length ≤ 64) {k : Nat} (hk : k < ws.length) (x : Wr) (hx : ws.getD k default = x) (hst : x.st = 1) (hsh : x.sh = true) (bA : Option Addr) (bn bc : Nat) :
    Calls Try.prog 13 #[.pointer (some ⟨n, 0, none⟩), .int .i64 ((k : Int) + 1), .slice bA bn bc] w fun e w' => e = .returned (.tuple #[.int .i64 0, errV 18]) ∧ w = w' := by
  obtain ⟨v, G, IV, GV, h⟩ := h
  have HUP := Lib.hid (up_yes h hlen k hk (by rw [hx]; exact hst))
  have hw := h.wire k hk
  rw [hx] at hw
  obtain ⟨-, -, -, -, -, -, d6, -⟩ := w_cells hw
  rw [hsh] at d6
  clear h hw hx
  go_enter Try.func13, Try.ntmps13
  go_wp2_with fail
  go_at_call 23
  refine HUP.out.mono ?_
  rintro e w1 ⟨rfl, rfl⟩
  go_wp2_with fail
  go_ret2
  exact ⟨rfl, rfl⟩
theorem shut_none {w : World} {B n : Nat} {now : Int} {ws : List Wr} (h : NetS w B n now ws) (hlen : ws.length ≤ 64) (c : Int) (hc : c < 1 ∨ (ws.length : Int) < c) :
    Calls Try.prog 17 #[.pointer (some ⟨n, 0, none⟩), .int .i64 c] w fun e w' => e = .returned (errV 16) ∧ w = w' := by
  obtain ⟨v, G, IV, GV, h⟩ := h
  have HUP := Lib.hid (up_no h hlen c hc); clear h
  go_enter Try.func17, Try.ntmps17
  go_wp2_with fail
  go_at_call 23
  refine HUP.out.mono ?_
  rintro e w1 ⟨rfl, rfl⟩
  unfold errV
  go_wp2_with fail
  go_ret
  exact ⟨rfl, rfl⟩
theorem shut_gone {w : World} {B n : Nat} {now : Int} {ws : List Wr} (h : NetS w B n now ws) (hlen : ws.length ≤ 64) {k : Nat} (hk : k < ws.length) (hst : (ws.getD k default).st = 2) :
    Calls Try.prog 17 #[.pointer (some ⟨n, 0, none⟩), .int .i64 ((k : Int) + 1)] w fun e w' => e = .returned (errV 21) ∧ w = w' := by
  obtain ⟨v, G, IV, GV, h⟩ := h
  have HUP := Lib.hid (up_gone h hlen k hk hst); clear h
  go_enter Try.func17, Try.ntmps17
  go_wp2_with fail
  go_at_call 23
  refine HUP.out.mono ?_
  rintro e w1 ⟨rfl, rfl⟩
  unfold errV
  go_wp2_with fail
  go_ret
  exact ⟨rfl, rfl⟩
theorem shut_shut {w : World} {B n : Nat} {now : Int} {ws : List Wr} (h : NetS w B n now ws) (hlen : ws.length ≤ 64) {k : Nat} (hk : k < ws.length) (x : Wr) (hx : ws.getD k default = x) (hst : x.st = 1) (hsh : x.sh = true) :
    Calls Try.prog 17 #[.pointer (some ⟨n, 0, none⟩), .int .i64 ((k : Int) + 1)] w fun e w' => e = .returned (errV 18) ∧ w = w' := by
  obtain ⟨v, G, IV, GV, h⟩ := h
  have HUP := Lib.hid (up_yes h hlen k hk (by rw [hx]; exact hst))
  have hw := h.wire k hk
  rw [hx] at hw
  obtain ⟨-, -, -, -, -, -, d6, -⟩ := w_cells hw
  rw [hsh] at d6
  clear h hw hx
  go_enter Try.func17, Try.ntmps17
  go_wp2_with fail
  go_at_call 23
  refine HUP.out.mono ?_
  rintro e w1 ⟨rfl, rfl⟩
  go_wp2_with fail
  go_ret
  exact ⟨rfl, rfl⟩
theorem drop_none {w : World} {B n : Nat} {now : Int} {ws : List Wr} (h : NetS w B n now ws) (hlen : ws.length ≤ 64) (c : Int) (hc : c < 1 ∨ (ws.length : Int) < c) :
    Calls Try.prog 18 #[.pointer (some ⟨n, 0, none⟩), .int .i64 c] w fun e w' => e = .returned (errV 16) ∧ w = w' := by
  obtain ⟨v, G, IV, GV, h⟩ := h
  have H := Lib.hid h; clear h
  go_enter Try.func18, Try.ntmps18
  go_wp2_with fail
  go_at_call 20
  refine (at_no H.out hlen c hc).mono ?_
  rintro e w1 ⟨rfl, rfl⟩
  go_wp2_with fail
  go_ret
  exact ⟨rfl, rfl⟩
theorem drop_gone {w : World} {B n : Nat} {now : Int} {ws : List Wr} (h : NetS w B n now ws) (hlen : ws.length ≤ 64) {k : Nat} (hk : k < ws.length) (hst : (ws.getD k default).st = 2) :
    Calls Try.prog 18 #[.pointer (some ⟨n, 0, none⟩), .int .i64 ((k : Int) + 1)] w fun e w' => e = .returned (errV 21) ∧ w = w' := by
  obtain ⟨v, G, IV, GV, h⟩ := h
  obtain ⟨d0, -⟩ := w_cells (h.wire k hk)
  rw [hst] at d0
  have H := Lib.hid h; clear h
  go_enter Try.func18, Try.ntmps18
  go_wp2_with fail
  go_at_call 20
  refine (at_yes H.out hlen k hk).mono ?_
  rintro e w1 ⟨rfl, rfl⟩
  go_wp2_with fail
  go_ret
  exact ⟨rfl, rfl⟩

/-- The time, behind a tick. -/
theorem NetR.tick {w w' : World} {B n : Nat} {now now' : Int} {ws : List Wr} {v : Value} {G : Nat → Nat} {IV GV : Nat → Value} (h : NetR w B n now ws v G IV GV) (hf : Fr [n] w w') (hb : Bk w' n 57 #[.int .i64 now', v]) : NetR w' B n now' ws v G IV GV :=
  { h with net := hb, row := h.row.fr hf (fun b hb' => by have := h.row.ne_bk h.net (by decide); simp; rintro rfl; exact this hb'), wire := fun i hi => (h.wire i hi).fr hf (by simpa using Ne.symm (h.net.ne_ (h.wire i hi) (by decide))), inn := fun i hi => (h.inn i hi).fr hf (fun b hb' => by have := (h.inn i hi).ne_bk h.net (by decide); simp; rintro rfl; exact this hb'), got := fun i hi => (h.got i hi).fr hf (fun b hb' => by have := (h.got i hi).ne_bk h.net (by decide); simp; rintro rfl; exact this hb') }
/-- A tick: refused, or the time is a later one. -/
def Ticked (w : World) (B n : Nat) (ws : List Wr) (e : Ending) (w' : World) : Prop :=
  (∃ c now', e = .returned (errV c) ∧ 0 ≤ now' ∧ now' ≤ 1099511627776 ∧ NetS w' B n now' ws ∧ NFr B w w') ∨ (∃ now', e = .returned .nilIface ∧ 0 ≤ now' ∧ now' ≤ 1099511627776 ∧ NetS w' B n now' ws ∧ NFr B w w')
set_option maxRecDepth 100000 in
set_option maxHeartbeats 2000000 in
theorem tick_any {w : World} {B n : Nat} {now : Int} {ws : List Wr} (h : NetS w B n now ws) (h0 : 0 ≤ now) (h1 : now ≤ 1099511627776) (c N : Int) (bA : Option Addr) (bn bc : Nat) :
    Calls Try.prog 10 #[.pointer (some ⟨n, 0, none⟩), .agg (evC 7 c N (.slice bA bn bc))] w (Ticked w B n ws) := by
  obtain ⟨v, G, IV, GV, h⟩ := h
  have HRI := Lib.hid (fun w => right_any 7 c N bA bn bc ⟨by omega, by omega⟩ w)
  have H := Lib.hid h; clear h
  have hev : Bk (w.alloc (.cells (evC 7 c N (.slice bA bn bc)) 34)) w.heap.size 34 (evC 7 c N (.slice bA bn bc)) := Bk.new w _ _
  have HEV := Lib.hid hev; clear hev
  unfold evC at *
  go_enter Try.func10, Try.ntmps10
  go_wp2_with fail
  go_at_call 21
  refine (HRI.out _).mono ?_
  rintro e w2 ⟨rfl, hf⟩
  have hf2 : Fr [] w w2 := ((Fr.refl [] w).alloc _).trans hf
  have he2 := HEV.out.fr hf (by simp)
  have d0 := he2.cell_ (i := 0) rfl; have d1 := he2.cell_ (i := 1) rfl; have d2 := he2.cell_ (i := 2) rfl; have d3 := he2.cell_ (i := 3) rfl
  have hn2 := (H.out.fr_nil hf2).net
  have c0 := hn2.cell_ (i := 0) rfl
  have f0 := hn2.frozen 0
  have HN2 := Lib.hid hn2
  have HE2 := Lib.hid he2
  have HF2 := Lib.hid hf2
  clear hf hf2 he2 hn2
  generalize hR : rightB _ N bn = R at *
  cases R with
  | false =>
    go_wp2_with fail
    go_ret
    exact .inl ⟨1, now, rfl, h0, h1, ⟨_, _, _, _, H.out.fr_nil HF2.out⟩, NFr.of_fr HF2.out⟩
  | true =>
    have hN : 1 ≤ N ∧ N ≤ 1048576 := by simpa [rightB] using hR
    clear hR
    have hwr : IntKind.i64.wrap (now + N) = now + N := by rw [IntKind.wrap_i64]; omega
    obtain ⟨M, hM⟩ : ∃ M : Int, (if 1099511627776 < now + N then 1099511627776 else now + N) = M := ⟨_, rfl⟩
    have hM2 : 0 ≤ M ∧ M ≤ 1099511627776 := by split at hM <;> omega
    go_upto_region 17 with fail
    clear d0 d1 d2 d3 c0 f0 HRI HEV
    have HRD := Lib.hid ((H.out.fr_nil HF2.out).fr_nil ((Fr.refl [] w2).drew))
    have HFD := Lib.hid HF2.out.drew
    have HN3 := Lib.hid HN2.out.drew
    have HE3 := Lib.hid HE2.out.drew
    have f0 := HN3.out.frozen 0
    have c0 := HN3.out.cell_ (i := 0) (v := .int .i64 now) rfl
    have c2 := HE3.out.cell_ (i := 2) (v := .int .i64 N) rfl
    generalize w.heap.size = ge at *
    refine wp_region_F_ (G := fun a b => a = b) (F := fun i => i == 11) (S := fun W => W.cell? ⟨n, 0, none⟩ = some (.int .i64 now) ∧ W.cell? ⟨ge, 2, none⟩ = some (.int .i64 N)) ⟨fun _ => rfl, fun a b c h k => h.trans k, fun a b h k => k ▸ h, by kernel_rfl, fun _ _ d _ _ h => by cases d <;> exact h⟩ (by kernel_rfl) fun su => ?_
    have SU := Lib.hid su
    have HS : Hid (w2.drew.cell? ⟨n, 0, none⟩ = some (.int .i64 now) ∧ w2.drew.cell? ⟨ge, 2, none⟩ = some (.int .i64 N)) := Lib.hid ⟨c0, c2⟩
    clear su c2 HN2 HE2 HE3
    generalize w2.drew = wd at *
    refine F_move (i := 0) _ SU.out rfl rfl (by kernel_rfl) HS.out rfl ?_
    simp only [Act.put, Act.eval, List.setIfInBounds_toArray, List.set_cons_zero, List.set_cons_succ, List.getElem?_toArray, List.getElem?_cons_zero, List.getElem?_cons_succ, Option.getD_some]
    refine F_move (i := 1) _ SU.out rfl rfl (by kernel_rfl) HS.out rfl ?_
    simp only [Act.put, Act.eval, List.setIfInBounds_toArray, List.set_cons_zero, List.set_cons_succ, List.getElem?_toArray, List.getElem?_cons_zero, List.getElem?_cons_succ, Option.getD_some]
    refine F_val (i := 2) (v := ?_) SU.out rfl (by kernel_rfl) HS.out rfl (fun W hS => ?_) ?_
    rotate_left
    · go_simp
      first | done | rfl
    simp only [Act.put, List.setIfInBounds_toArray, List.set_cons_zero, List.set_cons_succ]
    refine F_val (i := 3) (v := ?_) SU.out rfl (by kernel_rfl) HS.out rfl (fun W hS => ?_) ?_
    rotate_left
    · go_simp
      first | done | rfl
    simp only [Act.put, List.setIfInBounds_toArray, List.set_cons_zero, List.set_cons_succ]
    refine F_val (i := 4) (v := .int .i64 now) SU.out rfl (by kernel_rfl) HS.out rfl (fun W hS => ?_) ?_
    · obtain ⟨s1, s2⟩ := hS
      go_simp
      first | done | rfl
    simp only [Act.put, List.setIfInBounds_toArray, List.set_cons_zero, List.set_cons_succ]
    refine F_val (i := 5) (v := ?_) SU.out rfl (by kernel_rfl) HS.out rfl (fun W hS => ?_) ?_
    rotate_left
    · go_simp
      first | done | rfl
    simp only [Act.put, List.setIfInBounds_toArray, List.set_cons_zero, List.set_cons_succ]
    refine F_val (i := 6) (v := .int .i64 N) SU.out rfl (by kernel_rfl) HS.out rfl (fun W hS => ?_) ?_
    · obtain ⟨s1, s2⟩ := hS
      go_simp
      first | done | rfl
    simp only [Act.put, List.setIfInBounds_toArray, List.set_cons_zero, List.set_cons_succ]
    refine F_val (i := 7) (v := .int .i64 (now + N)) SU.out rfl (by kernel_rfl) HS.out rfl (fun W hS => ?_) ?_
    · go_simp
      first | done | rfl
    simp only [Act.put, List.setIfInBounds_toArray, List.set_cons_zero, List.set_cons_succ]
    refine F_val (i := 8) (v := .int .i64 M) SU.out rfl (by kernel_rfl) HS.out rfl (fun W hS => ?_) ?_
    · go_simp
      first | done | rfl | (simp [Builtin.min_, Builtin.min2, hM]; done)
    simp only [Act.put, List.setIfInBounds_toArray, List.set_cons_zero, List.set_cons_succ]
    refine wpAnyF_all (rs := [9]) (by kernel_rfl) (by simp) (fun w' hG => ?_)
    obtain rfl := hG
    refine allF.head rfl rfl (fun K9 hK9 => ?_) allF.nil
    go_simp
    refine hK9.out _ _ (.inr HS.out) ?_
    clear hK9 K9
    refine wpAnyF_all (rs := [10]) (by kernel_rfl) (by simp) (fun w' hG => ?_)
    obtain rfl := hG
    refine allF.head rfl rfl (fun K10 hK10 => ?_) allF.nil
    go_simp
    refine hK10.out _ _ (.inr HS.out) ?_
    clear hK10 K10
    refine wpAnyF_all (rs := [11]) (by kernel_rfl) (by simp) (fun w' hG => ?_)
    obtain rfl := hG
    refine allF.head rfl rfl (fun K11 hK11 => ?_) allF.nil
    go_simp
    refine hK11.out _ _ (.inl rfl) ?_
    clear hK11 K11
    clear c0 f0
    refine wpAnyF_done (by kernel_rfl) (fun w' hG => ?_)
    obtain rfl := hG
    go_wp2_with fail
    go_ret
    have hf5 : Fr [n] wd (wd.setCell ⟨n, 0, none⟩ (.int .i64 M)) := (Fr.refl _ _).setCell (.inl (by simp)) _
    refine .inr ⟨M, rfl, hM2.1, hM2.2, ⟨_, _, _, _, HRD.out.tick hf5 (HN3.out.put 0 _)⟩, (NFr.of_fr HFD.out).trans (NFr.own [n] hf5 ?_)⟩
    intro j hj
    rw [List.mem_singleton.1 hj]
    exact ⟨HRD.out.bn, .inr ⟨_, _, _, HN3.out, .inr (.inr (.inr rfl))⟩⟩
end Go.Proofs.Ytedcheicnaphmaa
