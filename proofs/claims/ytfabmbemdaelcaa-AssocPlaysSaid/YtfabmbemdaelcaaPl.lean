/-
  The walk of AssocPlays. No conditions. (Printed by tools/genpl.py.)
-/
import Derived.Test.YtfabmbemdaelcaaPl0

namespace Go.Proofs.Ytfabmbemdaelcaa.C
open Go.RowKit Go.Shelf Go.Maps Go.ChangeShapes Go.WideShapes Go.ChangeAt Go.Deep
attribute [local go_sem] Oper.semAt_some
set_option linter.unusedVariables false
set_option linter.unusedSimpArgs false

/-- Where the first loop stands. -/
def PlRel (w0 : World) (ga b8 n : Nat) (v9 : Value) (wr : World) : Prop :=
  ∃ (i : Nat) (es : List (Ent CV)) (v8 : Value) (l : List Nat), v9 = .int .i64 (i : Int) ∧ i ≤ n ∧ PlS w0 wr ga b8 es (live es) v8 l ∧ es.length ≤ i ∧ KeysOk 60 es
theorem pos_is (x : LP) (k : List UInt8) : decide (posP x k ≥ 0) = (fndP x k).isSome := by
  unfold posP
  cases fndP x k with
  | none => rfl
  | some i => simp
/-- Where the range over the array stands. -/
structure PlB (w9 : World) (ga b17 : Nat) (la St : List Nat) (k : Int) (la' : List Nat) (es' : List (Ent CV)) (W : World) : Prop where
  arr : Arr W ga la' es'
  keys : KeysOk maxLen es'
  own : ∀ b ∈ la', b ∈ la ∨ (w9.heap.size ≤ b ∧ b ∉ St)
  fr : Fr (b17 :: la) w9 W
  st : ∀ b ∈ St, w9.heap.size ≤ b
  cnt : Bk W b17 3 #[.int .i64 k]
  nin : b17 ∉ la
def PlI (w9 : World) (ga b17 : Nat) (la : List Nat) (es : List (Ent CV)) (St : List Nat) (k : Nat) (W : World) : Prop :=
  ∃ la' es', PlB w9 ga b17 la St (k : Int) la' es' W ∧ es'.length ≤ es.length + k
structure PlX (w9 : World) (b17 : Nat) (la St : List Nat) (stop : Int) (W : World) : Prop where
  fr : Fr (b17 :: la) w9 W
  st : ∀ b ∈ St, w9.heap.size ≤ b
  cnt : Bk W b17 3 #[.int .i64 stop]
theorem PlI.start {w9 W : World} {ga b17 : Nat} {la St : List Nat} {es : List (Ent CV)} (h : Arr w9 ga la es) (hc : Bk w9 b17 3 #[.int .i64 0]) (hk : KeysOk maxLen es) (hl : ∀ b ∈ la, b < b17) (hf : Fr [] w9 W) (hs : ∀ b ∈ St, w9.heap.size ≤ b) : PlI w9 ga b17 la es St 0 W :=
  ⟨la, es, ⟨h.fr_nil hf, hk, fun b hb => .inl hb, hf.nil_, hs, hc.fr hf (by simp), fun hm => by have := hl _ hm; omega⟩, Nat.le_refl _⟩
theorem PlB.fr_ {w9 W W2 : World} {ga b17 : Nat} {la St la' : List Nat} {es' : List (Ent CV)} {k : Int} (h : PlB w9 ga b17 la St k la' es' W) (h17 : b17 < w9.heap.size) (hla : ∀ b ∈ la, b < w9.heap.size) (hf : Fr St W W2) : PlB w9 ga b17 la St k la' es' W2 := by
  refine ⟨h.arr.fr hf (fun b hb hm => ?_), h.keys, h.own, h.fr.trans' hf (fun b hb => .inr (h.st b hb)), h.st, h.cnt.fr hf (fun hm => by have := h.st _ hm; omega), h.nin⟩
  rcases h.own b hb with e | e
  · have h1 := hla b e; have h2 := h.st b hm; omega
  · exact e.2 hm
theorem PlI.fr {w9 W W2 : World} {ga b17 : Nat} {la St : List Nat} {es : List (Ent CV)} {k : Nat} (h : PlI w9 ga b17 la es St k W) (h17 : b17 < w9.heap.size) (hla : ∀ b ∈ la, b < w9.heap.size) (hf : Fr St W W2) : PlI w9 ga b17 la es St k W2 := by
  obtain ⟨la', es', h1, h2⟩ := h
  exact ⟨la', es', h1.fr_ h17 hla hf, h2⟩
theorem PlX.fr_ {w9 W W2 : World} {b17 : Nat} {la St : List Nat} {stop : Int} (h : PlX w9 b17 la St stop W) (h17 : b17 < w9.heap.size) (hf : Fr St W W2) : PlX w9 b17 la St stop W2 :=
  ⟨h.1.trans' hf (fun b hb => .inr (h.2 b hb)), h.2, h.3.fr hf (fun hm => by have := h.2 _ hm; omega)⟩
/-- Behind an act on the array. -/
theorem PlB.step {w9 W W3 : World} {ga b17 : Nat} {la St la' : List Nat} {es' es2 : List (Ent CV)} {k : Int} (h : PlB w9 ga b17 la St k la' es' W) (h17 : b17 < w9.heap.size) (hla : ∀ b ∈ la, b < w9.heap.size) (hk : KeysOk maxLen es2) (hst : ∀ b ∈ St, b < W.heap.size)
    (h2 : ∃ l', Arr W3 ga l' es2 ∧ Fr la' W W3 ∧ ∀ b ∈ l', b ∈ la' ∨ W.heap.size ≤ b) : (∃ l', PlB w9 ga b17 la St k l' es2 W3) ∧ (∀ b ∈ St, W3.heap[b]? = W.heap[b]?) ∧ ∀ b ∈ St, b < W3.heap.size := by
  obtain ⟨l', a1, a2, a3⟩ := h2
  have hn : ∀ b ∈ St, b ∉ la' := fun b hb hm => by
    rcases h.own b hm with e | e
    · have h1 := hla b e; have h2 := h.st b hb; omega
    · exact e.2 hb
  have h17n : b17 ∉ la' := fun hm => by
    rcases h.own _ hm with e | e
    · exact h.nin e
    · omega
  refine ⟨⟨l', a1, hk, fun b hb => ?_, h.fr.trans' a2 (fun b hb => ?_), h.st, h.cnt.fr a2 h17n, h.nin⟩, fun b hb => a2.block b (hst b hb) (hn b hb), fun b hb => Nat.lt_of_lt_of_le (hst b hb) a2.size⟩
  · rcases a3 b hb with e | e
    · exact h.own b e
    · exact .inr ⟨Nat.le_trans h.fr.size e, fun hm => by have := hst b hm; omega⟩
  · rcases h.own b hb with e | e
    · exact .inl (by simp [e])
    · exact .inr e.1
/-- The count goes on. -/
theorem PlB.count {w9 W : World} {ga b17 : Nat} {la St la' : List Nat} {es' : List (Ent CV)} {k : Int} (h : PlB w9 ga b17 la St k la' es' W) (h17 : b17 < w9.heap.size) (j : Int) : PlB w9 ga b17 la St j la' es' (W.setCell ⟨b17, 0, none⟩ (.int .i64 j)) ∧ ∀ b ∈ St, (W.setCell ⟨b17, 0, none⟩ (.int .i64 j)).heap[b]? = W.heap[b]? := by
  have hs : Fr [b17] W (W.setCell ⟨b17, 0, none⟩ (.int .i64 j)) := (Fr.refl [b17] W).setCell (.inl (by simp)) _
  have h17n : b17 ∉ la' := fun hm => by
    rcases h.own _ hm with e | e
    · exact h.nin e
    · omega
  refine ⟨⟨h.arr.fr hs (fun b hb hm => by simp at hm; subst hm; exact h17n hb), h.keys, h.own, h.fr.trans' hs (fun b hb => .inl (by simp at hb; simp [hb])), h.st, h.cnt.put 0 _, h.nin⟩, fun b hb => ?_⟩
  exact Below.heap_setCell W ⟨b17, 0, none⟩ _ b (fun e => by have := h.st b hb; simp at e; omega)
theorem keysOk_max {es : List (Ent CV)} (h : KeysOk 60 es) : KeysOk maxLen es := fun p hp => Nat.le_trans (h p hp) (by unfold maxLen; omega)
set_option maxRecDepth 100000 in
set_option maxHeartbeats 64000000 in
theorem plays_walk {w : World} {A : Option Addr} {n c : Nat} {K : Nat → Int} {S : Nat → List UInt8} {V : Nat → CV} (h : ActsC w A n K S V) (hn : n ≤ maxLen) (key : List UInt8) (hkey : key.length ≤ maxLen) (stop : Int) :
    Calls Try.prog 5 #[.slice A n c, .string ⟨key.toArray⟩, .int .i64 stop] w fun e w' => e = .returned (.bool true) ∧ Below w.heap.size w w' := by
  have HACT := Lib.hid h; have HNN := Lib.hid hn; have HKEY := Lib.hid hkey
  clear h hn hkey
  refine calls_marks Try.func5 rfl ?_
  simp only [Try.ntmps5, List.size_toArray, List.length_cons, List.length_nil, Nat.reduceAdd, Nat.reduceSub, Array.replicate_succ, Array.replicate_zero, List.push_toArray, List.append_toArray, List.nil_append, List.cons_append]
  go_wp2_with fail
  go_at_call 7
  obtain ⟨wb, hwb⟩ : ∃ wb, wb = (w.alloc (.cells #[.int .i64 stop] 3)).alloc (.cells #[.bool false] 4) := ⟨_, rfl⟩
  have hb5 : Bk wb w.heap.size 3 #[.int .i64 stop] := by rw [hwb]; exact (Bk.new w _ _).alloc _
  have hbr : Bk wb (w.heap.size + 1) 4 #[.bool false] := by
    rw [hwb]
    have h := Bk.new (w.alloc (.cells #[.int .i64 stop] 3)) 4 #[.bool false]
    rw [World.size_alloc] at h
    exact h
  have hfb : Fr [] w wb := by rw [hwb]; exact ((Fr.refl [] w).alloc _).alloc _
  rw [← hwb]
  obtain ⟨b5, hb5e⟩ : ∃ b5, b5 = w.heap.size := ⟨_, rfl⟩
  obtain ⟨br, hbre⟩ : ∃ br, br = w.heap.size + 1 := ⟨_, rfl⟩
  rw [← hbre] at hbr ⊢
  rw [← hb5e] at hb5 ⊢
  have hbrw : w.heap.size ≤ br := by omega
  have hb5r : b5 ≠ br := by omega
  have hb5w : w.heap.size ≤ b5 := by omega
  refine (awake_any wb).mono ?_
  rintro e w1 ⟨rfl, hf1⟩
  have hbr1 := hbr.fr hf1 (by simp)
  have HF1 := Lib.hid (hfb.trans hf1); have HBR1 := Lib.hid hbr1; have HB51 := Lib.hid (hb5.fr hf1 (by simp))
  have r0 := hbr1.cell_ (i := 0) rfl
  have z0 := hbr1.frozen 0
  clear hwb hbr hb5 hfb hf1 hbr1 hbre hb5e
  go_wp2_with fail
  go_at_call 13
  refine (few_any (HACT.out.fr HF1.out) HNN.out).mono ?_
  intro e w2 hp
  obtain ⟨r, rfl, rfl, hr⟩ := hp
  cases r with
  | false =>
    clear hr
    go_wp2_with fail
    have hb5 := HBR1.out.put 0 (.bool true)
    have r5 := hb5.cell_ (i := 0) rfl
    have hfin : Fr [] w (w2.setCell ⟨br, 0, none⟩ (.bool true)) := HF1.out.setCell (.inr hbrw) _
    refine ⟨.bool true, ?_, rfl, hfin.below_nil⟩
    simp [results, Try.results5, go_sem, r5]
  | true =>
    obtain ⟨hn60, hs60⟩ := hr rfl
    have HS60 := Lib.hid hs60
    clear hr hs60
    go_upto_region 7 with fail
    obtain ⟨w3, hw3⟩ : ∃ w3, w3 = ((w2.alloc (.cells #[.map none, .slice none 0 0, .int .i64 0] 46)).alloc (.cells #[.pointer (some ⟨w2.heap.size, 0, none⟩)] 43)).alloc (.cells #[.slice none 0 0] 53) := ⟨_, rfl⟩
    have ha3 : Arr w3 w2.heap.size [w2.heap.size] [] := by
      rw [hw3]
      exact ((arr_new w2).fr_nil ((Fr.refl [] _).alloc _)).fr_nil ((Fr.refl [] _).alloc _)
    have h73 : Bk w3 (w2.heap.size + 1) 43 #[.pointer (some ⟨w2.heap.size, 0, none⟩)] := by
      rw [hw3]
      have h := Bk.new (w2.alloc (.cells #[.map none, .slice none 0 0, .int .i64 0] 46)) 43 #[.pointer (some ⟨w2.heap.size, 0, none⟩)]
      rw [World.size_alloc] at h
      exact h.alloc _
    have h83 : Bk w3 (w2.heap.size + 2) 53 #[.slice none 0 0] := by
      rw [hw3]
      have h := Bk.new ((w2.alloc (.cells #[.map none, .slice none 0 0, .int .i64 0] 46)).alloc (.cells #[.pointer (some ⟨w2.heap.size, 0, none⟩)] 43)) 53 #[.slice none 0 0]
      rw [World.size_alloc, World.size_alloc] at h
      exact h
    have hf3 : Fr [] w2 w3 := by rw [hw3]; exact (((Fr.refl [] w2).alloc _).alloc _).alloc _
    have hsz3 : w3.heap.size = w2.heap.size + 3 := by rw [hw3]; simp
    rw [← hw3]
    obtain ⟨ga, hga⟩ : ∃ ga, ga = w2.heap.size := ⟨_, rfl⟩
    obtain ⟨b7, hb7⟩ : ∃ b7, b7 = w2.heap.size + 1 := ⟨_, rfl⟩
    obtain ⟨b8, hb8⟩ : ∃ b8, b8 = w2.heap.size + 2 := ⟨_, rfl⟩
    have e4 : (⟨w2.heap.size + 1 + 1, 0, none⟩ : Addr) = ⟨b8, 0, none⟩ := by rw [hb8]
    have e3 : (⟨w2.heap.size + 1, 0, none⟩ : Addr) = ⟨b7, 0, none⟩ := by rw [hb7]
    rw [e4, e3]
    rw [← hb7] at h73
    rw [← hb8] at h83
    rw [← hga] at ha3 h73
    have hbr3 := HBR1.out.fr hf3 (by simp)
    have hb53 := HB51.out.fr hf3 (by simp)
    have hlt3 : ga < w3.heap.size ∧ b7 < w3.heap.size ∧ b8 < w3.heap.size ∧ br < w3.heap.size ∧ b5 < w3.heap.size ∧ ga ≠ b7 ∧ ga ≠ b8 ∧ ga ≠ br ∧ ga ≠ b5 ∧ b7 ≠ b8 ∧ b7 ≠ br ∧ b7 ≠ b5 ∧ b8 ≠ br ∧ b8 ≠ b5 := by
      have h1 := HBR1.out.lt
      have h2 := HB51.out.lt
      refine ⟨?_, ?_, ?_, ?_, ?_, ?_, ?_, ?_, ?_, ?_, ?_, ?_, ?_, ?_⟩ <;> omega
    have hgaw : w.heap.size ≤ ga := by have := HF1.out.size; omega
    have hb8w : w.heap.size ≤ b8 := by have := HF1.out.size; omega
    have hpl3 : PlS w3 w3 ga b8 [] (live []) (.slice none 0 0) [ga] := ⟨ha3, fun b hb => by simp at hb; exact .inl hb, Fr.refl _ _, h83, PR.nil_ _, fun b hb => by simp [Value.ownBlock] at hb, hlt3.2.2.1, hlt3.2.2.2.2.2.2.1⟩
    have hgae : w2.heap.size = ga := hga.symm
    have hlt32 : w2.heap.size ≤ ga ∧ w2.heap.size ≤ b8 := by omega
    have HLT := Lib.hid hlt3; have HPL3 := Lib.hid hpl3; have H73 := Lib.hid h73; have HF3 := Lib.hid (HF1.out.trans hf3); have HF23 := Lib.hid hf3; have HBR3 := Lib.hid hbr3; have HB53 := Lib.hid hb53; have HLT2 := Lib.hid hlt32
    clear hw3 ha3 h73 h83 hf3 hsz3 hb7 hb8 e4 e3 hbr3 hb53 r0 z0 hpl3 hlt32 hlt3
    rw [hgae]
    clear hgae hga
    have HREL : Hid (PlRel w3 ga b8 n (.int .i64 0) w3) := Lib.hid ⟨0, [], _, _, rfl, by omega, HPL3.out, by simp, by intro p hp; cases hp⟩
    go_wp2_with fail
    go_loopw [9] (fun v9 wr => PlRel w3 ga b8 n v9 wr) (fun v9 _ => n - (intOf v9).toNat)
    case atStart => exact HREL.out
    case round =>
      unfold PlRel at hrel
      obtain ⟨i, es, v8, la, rfl, hi, hpl, hel, hks⟩ := hrel
      have HPL := Lib.hid hpl; have HKS := Lib.hid hks
      clear hpl hks
      by_cases hlt : i < n
      · obtain ⟨b, off, rfl, hba, c0, c1, c2, c3, c4, c5, c6⟩ := HACT.out i hlt
        have hsi := HS60.out i hlt
        obtain ⟨s, hs⟩ : ∃ s, s = S i := ⟨_, rfl⟩
        obtain ⟨y, hy⟩ : ∃ y, y = V i := ⟨_, rfl⟩
        obtain ⟨kd, hkd⟩ : ∃ kd, kd = K i := ⟨_, rfl⟩
        rw [← hs] at c1 hsi
        rw [← hy] at c2 c3 c4 c5 c6
        rw [← hkd] at c0
        have hsl : s.length ≤ maxLen := by unfold maxLen; omega
        have HSL := Lib.hid hsl; have HSI := Lib.hid hsi
        have hba2 : b < w2.heap.size := Nat.lt_of_lt_of_le hba HF1.out.size
        have hcc : ∀ V, Fr [ga, b8] w3 V → V.cell? ⟨b7, 0, none⟩ = some (.pointer (some ⟨ga, 0, none⟩)) ∧ V.cell? ⟨b, off + i * 7, none⟩ = some (.int .i64 kd) ∧ V.cell? ⟨b, off + i * 7 + 1, none⟩ = some (.string ⟨s.toArray⟩) ∧
            V.cell? ⟨b, off + i * 7 + 2, none⟩ = some (.int .i64 y.k) ∧ V.cell? ⟨b, off + i * 7 + 3, none⟩ = some (.string ⟨y.s.toArray⟩) ∧ V.cell? ⟨b, off + i * 7 + 4, none⟩ = some (.bool y.n) ∧ V.cell? ⟨b, off + i * 7 + 5, none⟩ = some (.int .u64 y.h) ∧ V.cell? ⟨b, off + i * 7 + 6, none⟩ = some (.int .u64 y.l) := by
          intro V hV
          have h2 := HLT2.out
          have g := fun x => (hV.cell (p := ⟨b, x, none⟩) (Nat.lt_of_lt_of_le hba2 HF23.out.size) (by simp; omega)).trans (HF3.out.cell (p := ⟨b, x, none⟩) hba (by simp))
          exact ⟨(H73.out.fr hV (by have := HLT.out; simp; omega)).cell_ (i := 0) rfl, (g _).trans c0, (g _).trans c1, (g _).trans c2, (g _).trans c3, (g _).trans c4, (g _).trans c5, (g _).trans c6⟩
        have HCC := Lib.hid hcc
        obtain ⟨x7, d0, d1, d2, d3, d4, d5, d6⟩ := HCC.out wr HPL.out.fr
        have x8 := HPL.out.bx8.cell_ (i := 0) rfl
        have hxl : (live es).length ≤ 60 := by have := live_le es; omega
        clear hcc c0 c1 c2 c3 c4 c5 c6 hs hy hkd hsl hsi hba2
        go_wp2_with fail
        go_at_call 20
        refine (find_any HPL.out.pr s (by omega)).mono ?_
        rintro e w5 ⟨rfl, rfl⟩
        obtain ⟨th, hth⟩ : ∃ th, th = (idxOf es s).isSome := ⟨_, rfl⟩
        have hpos : decide (posP (live es) s ≥ 0) = th := by rw [pos_is, fnd_live, hth]
        have HTH := Lib.hid hth
        clear hth
        go_upto_region 12 with fail
        have hk : (kd = 0 ∨ kd = 1 ∨ kd = 2) ∨ kd = 3 ∨ kd = 4 ∨ (¬ kd = 0 ∧ ¬ kd = 1 ∧ ¬ kd = 2 ∧ ¬ kd = 3 ∧ ¬ kd = 4) := by omega
        rcases hk with hk | rfl | rfl | hk
        · rcases hk with rfl | rfl | rfl
          all_goals
            go_upto_region 16 with fail
            clear x7 x8 d0 d1 d2 d3 d4 d5 d6
            refine wp_region_M_ (G := fun a b => Fr [] a b) (S := fun V => Fr [ga, b8] w3 V) ⟨fun _ => Fr.refl _ _, fun a b c h k => h.trans k, fun a b h k => h.trans k.nil_, by kernel_rfl, fun _ _ d _ _ h => by cases d <;> exact h⟩ (by kernel_rfl) fun su => ?_
            have SU := Lib.hid su
            have HS : Hid (Fr [ga, b8] w3 (World.drew w5)) := Lib.hid (HPL.out.fr.drew)
            clear su
            refine M_val (i := 0) (v := .pointer (some ⟨ga, 0, none⟩)) SU.out rfl (by kernel_rfl) HS.out rfl (fun W hS => ?_) ?_
            · obtain ⟨x7, d0, d1, d2, d3, d4, d5, d6⟩ := HCC.out _ hS
              go_simp
              first | done | rfl | omega | (simp; done) | (simp; omega)
            simp only [Act.put, List.setIfInBounds_toArray, List.set_cons_zero, List.set_cons_succ]
            refine M_move (i := 1) _ SU.out rfl rfl (by kernel_rfl) HS.out rfl ?_
            simp only [Act.put, Act.eval, Array.getD_eq_getD_getElem?, List.setIfInBounds_toArray, List.set_cons_zero, List.set_cons_succ, List.getElem?_toArray, List.getElem?_cons_zero, List.getElem?_cons_succ, Option.getD_some]
            refine M_move (i := 2) _ SU.out rfl rfl (by kernel_rfl) HS.out rfl ?_
            simp only [Act.put, Act.eval, Array.getD_eq_getD_getElem?, List.setIfInBounds_toArray, List.set_cons_zero, List.set_cons_succ, List.getElem?_toArray, List.getElem?_cons_zero, List.getElem?_cons_succ, Option.getD_some]
            refine M_move (i := 3) _ SU.out rfl rfl (by kernel_rfl) HS.out rfl ?_
            simp only [Act.put, Act.eval, Array.getD_eq_getD_getElem?, List.setIfInBounds_toArray, List.set_cons_zero, List.set_cons_succ, List.getElem?_toArray, List.getElem?_cons_zero, List.getElem?_cons_succ, Option.getD_some]
            refine M_val (i := 4) (v := .pointer (some ⟨b, off + i * 7, none⟩)) SU.out rfl (by kernel_rfl) HS.out rfl (fun W hS => ?_) ?_
            · obtain ⟨x7, d0, d1, d2, d3, d4, d5, d6⟩ := HCC.out _ hS
              go_simp
              first | done | rfl | omega | (simp; done) | (simp; omega)
            simp only [Act.put, List.setIfInBounds_toArray, List.set_cons_zero, List.set_cons_succ]
            refine M_val (i := 5) (v := .pointer (some ⟨b, off + i * 7 + 2, none⟩)) SU.out rfl (by kernel_rfl) HS.out rfl (fun W hS => ?_) ?_
            · obtain ⟨x7, d0, d1, d2, d3, d4, d5, d6⟩ := HCC.out _ hS
              go_simp
              first | done | rfl | omega | (simp; done) | (simp; omega)
            simp only [Act.put, List.setIfInBounds_toArray, List.set_cons_zero, List.set_cons_succ]
            refine M_val (i := 6) (v := .agg #[.int .i64 y.k, .string ⟨y.s.toArray⟩, .bool y.n, .int .u64 y.h, .int .u64 y.l]) SU.out rfl (by kernel_rfl) HS.out rfl (fun W hS => ?_) ?_
            · obtain ⟨x7, d0, d1, d2, d3, d4, d5, d6⟩ := HCC.out _ hS
              go_simp
              first | done | rfl | omega | (simp; done) | (simp; omega)
            simp only [Act.put, List.setIfInBounds_toArray, List.set_cons_zero, List.set_cons_succ]
            refine M_move (i := 8) _ SU.out rfl rfl (by kernel_rfl) HS.out rfl ?_
            simp only [Act.put, Act.eval, Array.getD_eq_getD_getElem?, List.setIfInBounds_toArray, List.set_cons_zero, List.set_cons_succ, List.getElem?_toArray, List.getElem?_cons_zero, List.getElem?_cons_succ, Option.getD_some]
            refine wpAnyM_all (rs := [7]) (by kernel_rfl) (by simp) (fun v1 hG => ?_)
            have hg1 : Fr [] w5 v1 := ((Fr.refl [] w5).drew).trans hG
            refine allM.head rfl rfl (fun K1 hK1 => ?_) allM.nil
            go_simp
            refine (set_any (HPL.out.grow hg1).arr s y HSL.out (by omega)).mono ?_
            rintro e w6 ⟨rfl, h6⟩
            obtain ⟨lb, h7⟩ := (HPL.out.grow hg1).stepA h6
            have hnn : (idxOf es s).isNone = !th := by rw [HTH.out]; cases idxOf es s <;> rfl
            rw [hnn]
            have H7 := Lib.hid h7
            refine hK1.out _ _ h7.fr ?_
            clear hK1 K1 hG hg1 h6 h7 hnn
            refine wpAnyM_all (rs := [9]) (by kernel_rfl) (by simp) (fun v2 hG => ?_)
            have H8 := Lib.hid (H7.out.grow hG)
            refine allM.head rfl rfl (fun K1 hK1 => ?_) allM.nil
            go_simp
            try rw [show ((!th) == th) = false by cases th <;> rfl]
            refine hK1.out _ _ H8.out.fr ?_
            clear hK1 K1 hG
            refine wpAnyM_done (by kernel_rfl) (fun w7 hG => ?_)
            have H9 := Lib.hid (H8.out.grow hG)
            clear SU HS hG
            go_upto_region 18 with fail
            refine wp_region_F_ (F := fun i => i == 8) (G := fun a b => Fr [] a b) (S := fun V => Fr [] w7 V) ⟨fun _ => Fr.refl _ _, fun a b c h k => h.trans k, fun a b h k => h.trans k, by kernel_rfl, fun _ _ d _ _ h => by cases d <;> exact h⟩ (by kernel_rfl) fun su => ?_
            have SU := Lib.hid su
            have HS : Hid (Fr [] w7 (World.drew w7)) := Lib.hid ((Fr.refl [] w7).drew)
            clear su
            refine F_val (i := 0) (v := v8) SU.out rfl (by kernel_rfl) HS.out rfl (fun W hS => ?_) ?_
            · obtain ⟨x7, d0, d1, d2, d3, d4, d5, d6⟩ := HCC.out _ (H9.out.grow hS).fr; have x8 := (H9.out.grow hS).bx8.cell_ (i := 0) rfl
              go_simp
              first | done | rfl | omega | (simp; done) | (simp; omega)
            simp only [Act.put, List.setIfInBounds_toArray, List.set_cons_zero, List.set_cons_succ]
            refine F_move (i := 1) _ SU.out rfl rfl (by kernel_rfl) HS.out rfl ?_
            simp only [Act.put, Act.eval, Array.getD_eq_getD_getElem?, List.setIfInBounds_toArray, List.set_cons_zero, List.set_cons_succ, List.getElem?_toArray, List.getElem?_cons_zero, List.getElem?_cons_succ, Option.getD_some]
            refine F_move (i := 2) _ SU.out rfl rfl (by kernel_rfl) HS.out rfl ?_
            simp only [Act.put, Act.eval, Array.getD_eq_getD_getElem?, List.setIfInBounds_toArray, List.set_cons_zero, List.set_cons_succ, List.getElem?_toArray, List.getElem?_cons_zero, List.getElem?_cons_succ, Option.getD_some]
            refine F_move (i := 3) _ SU.out rfl rfl (by kernel_rfl) HS.out rfl ?_
            simp only [Act.put, Act.eval, Array.getD_eq_getD_getElem?, List.setIfInBounds_toArray, List.set_cons_zero, List.set_cons_succ, List.getElem?_toArray, List.getElem?_cons_zero, List.getElem?_cons_succ, Option.getD_some]
            refine F_val (i := 4) (v := .pointer (some ⟨b, off + i * 7, none⟩)) SU.out rfl (by kernel_rfl) HS.out rfl (fun W hS => ?_) ?_
            · obtain ⟨x7, d0, d1, d2, d3, d4, d5, d6⟩ := HCC.out _ (H9.out.grow hS).fr; have x8 := (H9.out.grow hS).bx8.cell_ (i := 0) rfl
              go_simp
              first | done | rfl | omega | (simp; done) | (simp; omega)
            simp only [Act.put, List.setIfInBounds_toArray, List.set_cons_zero, List.set_cons_succ]
            refine F_val (i := 5) (v := .pointer (some ⟨b, off + i * 7 + 2, none⟩)) SU.out rfl (by kernel_rfl) HS.out rfl (fun W hS => ?_) ?_
            · obtain ⟨x7, d0, d1, d2, d3, d4, d5, d6⟩ := HCC.out _ (H9.out.grow hS).fr; have x8 := (H9.out.grow hS).bx8.cell_ (i := 0) rfl
              go_simp
              first | done | rfl | omega | (simp; done) | (simp; omega)
            simp only [Act.put, List.setIfInBounds_toArray, List.set_cons_zero, List.set_cons_succ]
            refine F_val (i := 6) (v := .agg #[.int .i64 y.k, .string ⟨y.s.toArray⟩, .bool y.n, .int .u64 y.h, .int .u64 y.l]) SU.out rfl (by kernel_rfl) HS.out rfl (fun W hS => ?_) ?_
            · obtain ⟨x7, d0, d1, d2, d3, d4, d5, d6⟩ := HCC.out _ (H9.out.grow hS).fr; have x8 := (H9.out.grow hS).bx8.cell_ (i := 0) rfl
              go_simp
              first | done | rfl | omega | (simp; done) | (simp; omega)
            simp only [Act.put, List.setIfInBounds_toArray, List.set_cons_zero, List.set_cons_succ]
            refine wpAnyF_all (rs := [7]) (by kernel_rfl) (by simp) (fun v1 hG => ?_)
            have hg1 : Fr [] w7 v1 := ((Fr.refl [] w7).drew).trans hG
            refine allF.head rfl rfl (fun K1 hK1 => ?_) allF.nil
            go_simp
            refine (setP_any (H9.out.grow hg1).pr s y (by omega)).mono ?_
            intro e w8 hp
            obtain ⟨v', rfl, hp1, hf8, hbl⟩ := hp
            obtain ⟨A', c', rfl⟩ := hp1.form
            have HP1 := Lib.hid hp1; have HF8 := Lib.hid hf8; have HBL := Lib.hid hbl; have HG1 := Lib.hid hg1
            refine hK1.out _ _ (.inr (hg1.trans hf8)) ?_
            clear hK1 K1 hG hg1 hp1 hf8 hbl
            refine wpAnyF_all (rs := [8]) (by kernel_rfl) (by simp) (fun v2 hG => ?_)
            have hq := (H9.out.grow HG1.out).stepX (HP1.out.fr_nil hG) (HF8.out.trans hG) HBL.out
            have h8 := ((H9.out.grow HG1.out).grow (HF8.out.trans hG)).bx8
            have x8 := h8.cell_ (i := 0) rfl
            have f8 := h8.frozen 0
            have HQ0 := Lib.hid hq
            refine allF.head rfl rfl (fun K1 hK1 => ?_) allF.nil
            clear hG hq h8
            go_simp
            refine hK1.out _ _ (.inl rfl) ?_
            clear hK1 K1
            refine wpAnyF_done (by kernel_rfl) (fun w9 hG => ?_)
            have hq := HQ0.out.grow hG
            rw [← set_live] at hq
            clear SU HS hG x8 f8
            obtain ⟨wq, hwq⟩ : ∃ wq, wq = w9 := ⟨_, rfl⟩
            rw [← hwq] at hq ⊢
            have hlen : (setE es s y).length ≤ i + 1 := by have := setE_len es s y; omega
            have hkq : KeysOk 60 (setE es s y) := HKS.out.set s y HSI.out
            obtain ⟨es2, hes2⟩ : ∃ es2, es2 = setE es s y := ⟨_, rfl⟩
            rw [← hes2] at hq hlen hkq
            clear hwq hes2
            obtain ⟨v82, lq, hq⟩ : ∃ v82 lq, PlS w3 wq ga b8 es2 (live es2) v82 lq := ⟨_, _, hq⟩
            have HQ := Lib.hid hq; have HKQ := Lib.hid hkq
            clear hq hkq
            obtain ⟨x7, -⟩ := HCC.out wq HQ.out.fr
            go_wp2_with fail
            go_at_call 17
            refine (get_any HQ.out.arr key HKEY.out).mono ?_
            rintro e w11 ⟨rfl, hf11⟩
            obtain ⟨u, hu⟩ : ∃ u, u = valC es2 key := ⟨_, rfl⟩
            obtain ⟨ok, hok⟩ : ∃ ok, ok = (idxOf es2 key).isSome := ⟨_, rfl⟩
            rw [← hu, ← hok]
            have HU := Lib.hid hu; have HOK := Lib.hid hok; have HF11 := Lib.hid hf11
            clear hu hok hf11 x7
            unfold CV.val
            go_upto_region 27 with fail
            obtain ⟨b12, hb12⟩ : ∃ b12, b12 = w11.heap.size := ⟨_, rfl⟩
            obtain ⟨w12, hw12⟩ : ∃ w12, w12 = w11.alloc (.cells #[.int .i64 u.k, .string ⟨u.s.toArray⟩, .bool u.n, .int .u64 u.h, .int .u64 u.l] 41) := ⟨_, rfl⟩
            have hx12 : Bk w12 b12 41 #[.int .i64 u.k, .string ⟨u.s.toArray⟩, .bool u.n, .int .u64 u.h, .int .u64 u.l] := by rw [hw12, hb12]; exact Bk.new w11 _ _
            have hf12 : Fr [] wq w12 := by rw [hw12]; exact HF11.out.alloc _
            rw [← hw12, ← hb12]
            have HX12 := Lib.hid hx12; have HQ12 := Lib.hid (HQ.out.grow hf12)
            clear hb12 hw12 hx12 hf12
            have x8 := HQ12.out.bx8.cell_ (i := 0) rfl
            have hles := live_le es2
            go_wp2_with fail
            go_at_call 23
            refine (getP_any HQ12.out.pr key (by omega)).mono ?_
            rintro e w13 ⟨rfl, hf13⟩
            rw [val_live, fnd_live, ← HU.out, ← HOK.out]
            have HF13 := Lib.hid hf13
            clear hf13 x8
            unfold CV.val
            go_upto_region 28 with fail
            obtain ⟨b14, hb14⟩ : ∃ b14, b14 = w13.heap.size := ⟨_, rfl⟩
            obtain ⟨w14, hw14⟩ : ∃ w14, w14 = w13.alloc (.cells #[.int .i64 u.k, .string ⟨u.s.toArray⟩, .bool u.n, .int .u64 u.h, .int .u64 u.l] 41) := ⟨_, rfl⟩
            have hx14 : Bk w14 b14 41 #[.int .i64 u.k, .string ⟨u.s.toArray⟩, .bool u.n, .int .u64 u.h, .int .u64 u.l] := by rw [hw14, hb14]; exact Bk.new w13 _ _
            have hf14 : Fr [] w12 w14 := by rw [hw14]; exact HF13.out.alloc _
            rw [← hw14, ← hb14]
            obtain ⟨m, hm⟩ : ∃ m, m = (live es2).length := ⟨_, rfl⟩
            have h14 := HQ12.out.grow hf14
            obtain ⟨A8, c8, hv8⟩ := h14.pr.form
            rw [← hm] at hv8 hles
            have hx12' := HX12.out.fr hf14 (by simp)
            have H14 := Lib.hid h14; have HM := Lib.hid hm
            have hkp : ∀ p ∈ live es2, p.1.length ≤ 1000 := fun p hp => Nat.le_trans (HKQ.out p hp) (by omega)
            have hee : ∀ V, Fr [] w14 V → V.cell? ⟨b7, 0, none⟩ = some (.pointer (some ⟨ga, 0, none⟩)) ∧ V.cell? ⟨b8, 0, none⟩ = some (.slice A8 m c8) ∧
                V.cell? ⟨b12, 0, none⟩ = some (.int .i64 u.k) ∧ V.cell? ⟨b12, 1, none⟩ = some (.string ⟨u.s.toArray⟩) ∧ V.cell? ⟨b12, 2, none⟩ = some (.bool u.n) ∧ V.cell? ⟨b12, 3, none⟩ = some (.int .u64 u.h) ∧ V.cell? ⟨b12, 4, none⟩ = some (.int .u64 u.l) ∧
                V.cell? ⟨b14, 0, none⟩ = some (.int .i64 u.k) ∧ V.cell? ⟨b14, 1, none⟩ = some (.string ⟨u.s.toArray⟩) ∧ V.cell? ⟨b14, 2, none⟩ = some (.bool u.n) ∧ V.cell? ⟨b14, 3, none⟩ = some (.int .u64 u.h) ∧ V.cell? ⟨b14, 4, none⟩ = some (.int .u64 u.l) := by
              intro V hV
              have g1 := hx12'.fr hV (by simp)
              have g2 := hx14.fr hV (by simp)
              have g3 := (H14.out.grow hV).bx8.cell_ (i := 0) rfl
              rw [hv8] at g3
              exact ⟨(HCC.out V (H14.out.grow hV).fr).1, g3, g1.cell_ (i := 0) rfl, g1.cell_ (i := 1) rfl, g1.cell_ (i := 2) rfl, g1.cell_ (i := 3) rfl, g1.cell_ (i := 4) rfl, g2.cell_ (i := 0) rfl, g2.cell_ (i := 1) rfl, g2.cell_ (i := 2) rfl, g2.cell_ (i := 3) rfl, g2.cell_ (i := 4) rfl⟩
            obtain ⟨WA, hWA⟩ : ∃ WA, WA = wtP (live es2) := ⟨_, rfl⟩
            have hwa : IntKind.i64.wrap (wt es2 : Int) = (WA : Int) ∧ wtP (live es2) = WA := by
              have h1 := wtP_le (live es2) (n := 60) HKQ.out
              rw [← hWA, ← hm] at h1
              have h2 : m * (32 + 60) ≤ 61 * 92 := Nat.mul_le_mul (by omega) (by omega)
              rw [wt_live, ← hWA]
              refine ⟨?_, rfl⟩
              rw [IntKind.wrap_i64]
              omega
            have HKP := Lib.hid hkp; have HEE := Lib.hid hee; have HWA := Lib.hid hwa; have HV8 := Lib.hid hv8
            clear hb14 hw14 hx14 hf14 hm h14 hv8 hx12' hkp hee hwa hWA
            refine wp_region_M_ (G := fun a b => Fr [] a b) (S := fun V => Fr [] w14 V) ⟨fun _ => Fr.refl _ _, fun a b c h k => h.trans k, fun a b h k => h.trans k, by kernel_rfl, fun _ _ d _ _ h => by cases d <;> exact h⟩ (by kernel_rfl) fun su => ?_
            have SU := Lib.hid su
            have HS : Hid (Fr [] w14 (World.drew w14)) := Lib.hid ((Fr.refl [] w14).drew)
            clear su
            refine M_val (i := 0) (v := .agg #[.int .i64 u.k, .string ⟨u.s.toArray⟩, .bool u.n, .int .u64 u.h, .int .u64 u.l]) SU.out rfl (by kernel_rfl) HS.out rfl (fun W hS => ?_) ?_
            · obtain ⟨x7, x8, y0, y1, y2, y3, y4, z0, z1, z2, z3, z4⟩ := HEE.out _ hS
              go_simp
              first | done | rfl | omega | (simp; done) | (simp; omega)
            simp only [Act.put, List.setIfInBounds_toArray, List.set_cons_zero, List.set_cons_succ]
            refine M_val (i := 1) (v := .agg #[.int .i64 u.k, .string ⟨u.s.toArray⟩, .bool u.n, .int .u64 u.h, .int .u64 u.l]) SU.out rfl (by kernel_rfl) HS.out rfl (fun W hS => ?_) ?_
            · obtain ⟨x7, x8, y0, y1, y2, y3, y4, z0, z1, z2, z3, z4⟩ := HEE.out _ hS
              go_simp
              first | done | rfl | omega | (simp; done) | (simp; omega)
            simp only [Act.put, List.setIfInBounds_toArray, List.set_cons_zero, List.set_cons_succ]
            refine M_val (i := 2) (v := .bool false) SU.out rfl (by kernel_rfl) HS.out rfl (fun W hS => ?_) ?_
            · obtain ⟨x7, x8, y0, y1, y2, y3, y4, z0, z1, z2, z3, z4⟩ := HEE.out _ hS
              go_simp
              first | done | rfl | omega | (simp; done) | (simp; omega)
            simp only [Act.put, List.setIfInBounds_toArray, List.set_cons_zero, List.set_cons_succ]
            refine M_move (i := 3) _ SU.out rfl rfl (by kernel_rfl) HS.out rfl ?_
            simp only [Act.put, Act.eval, Array.getD_eq_getD_getElem?, List.setIfInBounds_toArray, List.set_cons_zero, List.set_cons_succ, List.getElem?_toArray, List.getElem?_cons_zero, List.getElem?_cons_succ, Option.getD_some]
            refine M_move (i := 4) _ SU.out rfl rfl (by kernel_rfl) HS.out rfl ?_
            simp only [Act.put, Act.eval, Array.getD_eq_getD_getElem?, List.setIfInBounds_toArray, List.set_cons_zero, List.set_cons_succ, List.getElem?_toArray, List.getElem?_cons_zero, List.getElem?_cons_succ, Option.getD_some]
            refine M_move (i := 5) _ SU.out rfl rfl (by kernel_rfl) HS.out rfl ?_
            simp only [Act.put, Act.eval, Array.getD_eq_getD_getElem?, List.setIfInBounds_toArray, List.set_cons_zero, List.set_cons_succ, List.getElem?_toArray, List.getElem?_cons_zero, List.getElem?_cons_succ, Option.getD_some]
            refine M_val (i := 6) (v := .bool false) SU.out rfl (by kernel_rfl) HS.out rfl (fun W hS => ?_) ?_
            · obtain ⟨x7, x8, y0, y1, y2, y3, y4, z0, z1, z2, z3, z4⟩ := HEE.out _ hS
              go_simp
              first | done | rfl | omega | (simp; done) | (simp; omega)
            simp only [Act.put, List.setIfInBounds_toArray, List.set_cons_zero, List.set_cons_succ]
            refine M_val (i := 7) (v := .bool false) SU.out rfl (by kernel_rfl) HS.out rfl (fun W hS => ?_) ?_
            · obtain ⟨x7, x8, y0, y1, y2, y3, y4, z0, z1, z2, z3, z4⟩ := HEE.out _ hS
              go_simp
              first | done | rfl | omega | (simp; done) | (simp; omega)
            simp only [Act.put, List.setIfInBounds_toArray, List.set_cons_zero, List.set_cons_succ]
            refine M_move (i := 8) _ SU.out rfl rfl (by kernel_rfl) HS.out rfl ?_
            simp only [Act.put, Act.eval, Array.getD_eq_getD_getElem?, List.setIfInBounds_toArray, List.set_cons_zero, List.set_cons_succ, List.getElem?_toArray, List.getElem?_cons_zero, List.getElem?_cons_succ, Option.getD_some]
            refine M_val (i := 9) (v := .pointer (some ⟨ga, 0, none⟩)) SU.out rfl (by kernel_rfl) HS.out rfl (fun W hS => ?_) ?_
            · obtain ⟨x7, x8, y0, y1, y2, y3, y4, z0, z1, z2, z3, z4⟩ := HEE.out _ hS
              go_simp
              first | done | rfl | omega | (simp; done) | (simp; omega)
            simp only [Act.put, List.setIfInBounds_toArray, List.set_cons_zero, List.set_cons_succ]
            refine M_call (i := 10) (v := .int .i64 (m : Int)) SU.out rfl (by kernel_rfl) HS.out rfl (fun V hS => (len_any (H14.out.grow hS).arr).mono fun e w' h => by
              obtain ⟨rfl, rfl⟩ := h
              exact ⟨by rw [HM.out], Fr.refl _ _⟩) (fun V => ?_) ?_
            · go_simp
              first | done | rfl
            simp only [Act.put, List.setIfInBounds_toArray, List.set_cons_zero, List.set_cons_succ]
            refine M_val (i := 11) (v := .slice A8 m c8) SU.out rfl (by kernel_rfl) HS.out rfl (fun W hS => ?_) ?_
            · obtain ⟨x7, x8, y0, y1, y2, y3, y4, z0, z1, z2, z3, z4⟩ := HEE.out _ hS
              go_simp
              first | done | rfl | omega | (simp; done) | (simp; omega)
            simp only [Act.put, List.setIfInBounds_toArray, List.set_cons_zero, List.set_cons_succ]
            refine M_val (i := 12) (v := .int .i64 (m : Int)) SU.out rfl (by kernel_rfl) HS.out rfl (fun W hS => ?_) ?_
            · obtain ⟨x7, x8, y0, y1, y2, y3, y4, z0, z1, z2, z3, z4⟩ := HEE.out _ hS
              go_simp
              first | done | rfl | omega | (simp; done) | (simp; omega)
            simp only [Act.put, List.setIfInBounds_toArray, List.set_cons_zero, List.set_cons_succ]
            refine M_val (i := 13) (v := .bool false) SU.out rfl (by kernel_rfl) HS.out rfl (fun W hS => ?_) ?_
            · obtain ⟨x7, x8, y0, y1, y2, y3, y4, z0, z1, z2, z3, z4⟩ := HEE.out _ hS
              go_simp
              first | done | rfl | omega | (simp; done) | (simp; omega)
            simp only [Act.put, List.setIfInBounds_toArray, List.set_cons_zero, List.set_cons_succ]
            refine M_val (i := 14) (v := .bool false) SU.out rfl (by kernel_rfl) HS.out rfl (fun W hS => ?_) ?_
            · obtain ⟨x7, x8, y0, y1, y2, y3, y4, z0, z1, z2, z3, z4⟩ := HEE.out _ hS
              go_simp
              first | done | rfl | omega | (simp; done) | (simp; omega)
            simp only [Act.put, List.setIfInBounds_toArray, List.set_cons_zero, List.set_cons_succ]
            refine M_move (i := 15) _ SU.out rfl rfl (by kernel_rfl) HS.out rfl ?_
            simp only [Act.put, Act.eval, Array.getD_eq_getD_getElem?, List.setIfInBounds_toArray, List.set_cons_zero, List.set_cons_succ, List.getElem?_toArray, List.getElem?_cons_zero, List.getElem?_cons_succ, Option.getD_some]
            refine M_val (i := 16) (v := .pointer (some ⟨ga, 0, none⟩)) SU.out rfl (by kernel_rfl) HS.out rfl (fun W hS => ?_) ?_
            · obtain ⟨x7, x8, y0, y1, y2, y3, y4, z0, z1, z2, z3, z4⟩ := HEE.out _ hS
              go_simp
              first | done | rfl | omega | (simp; done) | (simp; omega)
            simp only [Act.put, List.setIfInBounds_toArray, List.set_cons_zero, List.set_cons_succ]
            refine M_call (i := 17) (v := .int .i64 (WA : Int)) SU.out rfl (by kernel_rfl) HS.out rfl (fun V hS => (weight_any (H14.out.grow hS).arr).mono fun e w' h => by
              obtain ⟨⟨W0, rfl, h2⟩, rfl⟩ := h
              exact ⟨by rw [h2, HWA.out.1], Fr.refl _ _⟩) (fun V => ?_) ?_
            · go_simp
              first | done | rfl
            simp only [Act.put, List.setIfInBounds_toArray, List.set_cons_zero, List.set_cons_succ]
            refine M_val (i := 18) (v := .slice A8 m c8) SU.out rfl (by kernel_rfl) HS.out rfl (fun W hS => ?_) ?_
            · obtain ⟨x7, x8, y0, y1, y2, y3, y4, z0, z1, z2, z3, z4⟩ := HEE.out _ hS
              go_simp
              first | done | rfl | omega | (simp; done) | (simp; omega)
            simp only [Act.put, List.setIfInBounds_toArray, List.set_cons_zero, List.set_cons_succ]
            refine M_call (i := 19) (v := .int .i64 (WA : Int)) SU.out rfl (by kernel_rfl) HS.out rfl (fun V hS => (weightP_any (v := .slice A8 m c8) (HV8.out ▸ (H14.out.grow hS).pr) (by have := HM.out; omega) HKP.out).mono fun e w' h => by
              obtain ⟨rfl, rfl⟩ := h
              exact ⟨by rw [HWA.out.2], Fr.refl _ _⟩) (fun V => ?_) ?_
            · go_simp
              first | done | rfl
            simp only [Act.put, List.setIfInBounds_toArray, List.set_cons_zero, List.set_cons_succ]
            refine M_val (i := 20) (v := .bool false) SU.out rfl (by kernel_rfl) HS.out rfl (fun W hS => ?_) ?_
            · obtain ⟨x7, x8, y0, y1, y2, y3, y4, z0, z1, z2, z3, z4⟩ := HEE.out _ hS
              go_simp
              first | done | rfl | omega | (simp; done) | (simp; omega)
            simp only [Act.put, List.setIfInBounds_toArray, List.set_cons_zero, List.set_cons_succ]
            refine M_val (i := 21) (v := .bool false) SU.out rfl (by kernel_rfl) HS.out rfl (fun W hS => ?_) ?_
            · obtain ⟨x7, x8, y0, y1, y2, y3, y4, z0, z1, z2, z3, z4⟩ := HEE.out _ hS
              go_simp
              first | done | rfl | omega | (simp; done) | (simp; omega)
            simp only [Act.put, List.setIfInBounds_toArray, List.set_cons_zero, List.set_cons_succ]
            refine wpAnyM_done (by kernel_rfl) (fun w15 hG => ?_)
            have H15 := Lib.hid (H14.out.grow (((Fr.refl [] w14).drew).trans hG))
            clear SU HS hG
            go_wp2_with fail
            go_roundw
            case rel => exact ⟨i + 1, es2, _, _, by go_num, by omega, H15.out, by omega, HKQ.out⟩
            case measure => first | (simp [intOf]; done) | (simp [intOf]; omega)
        · skip
          have hdi : Dist es := by obtain ⟨mv, A', cap', D', W0', -, -, -, M, -, -⟩ := HPL.out.arr; exact M.dist
          have HDI := Lib.hid hdi; clear hdi
          go_wp2_with fail
          go_at_call 15
          refine (drop_any HPL.out.arr s HSL.out (by omega) (keysOk_max HKS.out)).mono ?_
          rintro e w6 ⟨rfl, h6⟩
          obtain ⟨lb, h7⟩ := HPL.out.stepA h6
          rw [← HTH.out]
          have H7 := Lib.hid h7
          clear x7 x8 d0 d1 d2 d3 d4 d5 d6
          have x8 := h7.bx8.cell_ (i := 0) rfl
          clear h6 h7
          go_wp2_with fail
          go_at_call 22
          refine (dropP_any H7.out.pr s (by omega)).mono ?_
          intro e w8 hp
          obtain ⟨v', rfl, hp1, hf8, hbl⟩ := hp
          obtain ⟨A', c', rfl⟩ := hp1.form
          have hq := H7.out.stepX hp1 hf8 hbl
          have h8 := (H7.out.grow hf8).bx8
          clear x8
          have x8 := h8.cell_ (i := 0) rfl
          have f8 := h8.frozen 0
          have HQ0 := Lib.hid hq
          clear hp1 hf8 hbl hq h8
          go_upto_region 26 with fail
          clear x8 f8
          have hq : PlS w3 (w8.setCell ⟨b8, 0, none⟩ (.slice A' (dropP (live es) s).length c')) ga b8 (dropC es s) (live (dropC es s)) (.slice A' (dropP (live es) s).length c') lb := by rw [drop_live HDI.out]; exact HQ0.out
          obtain ⟨wq, hwq⟩ : ∃ wq, wq = w8.setCell ⟨b8, 0, none⟩ (.slice A' (dropP (live es) s).length c') := ⟨_, rfl⟩
          rw [← hwq] at hq ⊢
          have hlen : (dropC es s).length ≤ i + 1 := by have := dropC_len es s; omega
          have hkq : KeysOk 60 (dropC es s) := HKS.out.drop s
          obtain ⟨es2, hes2⟩ : ∃ es2, es2 = dropC es s := ⟨_, rfl⟩
          rw [← hes2] at hq hlen hkq
          clear hwq hes2
          obtain ⟨v82, lq, hq⟩ : ∃ v82 lq, PlS w3 wq ga b8 es2 (live es2) v82 lq := ⟨_, _, hq⟩
          have HQ := Lib.hid hq; have HKQ := Lib.hid hkq
          clear hq hkq
          obtain ⟨x7, -⟩ := HCC.out wq HQ.out.fr
          go_wp2_with fail
          go_at_call 17
          refine (get_any HQ.out.arr key HKEY.out).mono ?_
          rintro e w11 ⟨rfl, hf11⟩
          obtain ⟨u, hu⟩ : ∃ u, u = valC es2 key := ⟨_, rfl⟩
          obtain ⟨ok, hok⟩ : ∃ ok, ok = (idxOf es2 key).isSome := ⟨_, rfl⟩
          rw [← hu, ← hok]
          have HU := Lib.hid hu; have HOK := Lib.hid hok; have HF11 := Lib.hid hf11
          clear hu hok hf11 x7
          unfold CV.val
          go_upto_region 27 with fail
          obtain ⟨b12, hb12⟩ : ∃ b12, b12 = w11.heap.size := ⟨_, rfl⟩
          obtain ⟨w12, hw12⟩ : ∃ w12, w12 = w11.alloc (.cells #[.int .i64 u.k, .string ⟨u.s.toArray⟩, .bool u.n, .int .u64 u.h, .int .u64 u.l] 41) := ⟨_, rfl⟩
          have hx12 : Bk w12 b12 41 #[.int .i64 u.k, .string ⟨u.s.toArray⟩, .bool u.n, .int .u64 u.h, .int .u64 u.l] := by rw [hw12, hb12]; exact Bk.new w11 _ _
          have hf12 : Fr [] wq w12 := by rw [hw12]; exact HF11.out.alloc _
          rw [← hw12, ← hb12]
          have HX12 := Lib.hid hx12; have HQ12 := Lib.hid (HQ.out.grow hf12)
          clear hb12 hw12 hx12 hf12
          have x8 := HQ12.out.bx8.cell_ (i := 0) rfl
          have hles := live_le es2
          go_wp2_with fail
          go_at_call 23
          refine (getP_any HQ12.out.pr key (by omega)).mono ?_
          rintro e w13 ⟨rfl, hf13⟩
          rw [val_live, fnd_live, ← HU.out, ← HOK.out]
          have HF13 := Lib.hid hf13
          clear hf13 x8
          unfold CV.val
          go_upto_region 28 with fail
          obtain ⟨b14, hb14⟩ : ∃ b14, b14 = w13.heap.size := ⟨_, rfl⟩
          obtain ⟨w14, hw14⟩ : ∃ w14, w14 = w13.alloc (.cells #[.int .i64 u.k, .string ⟨u.s.toArray⟩, .bool u.n, .int .u64 u.h, .int .u64 u.l] 41) := ⟨_, rfl⟩
          have hx14 : Bk w14 b14 41 #[.int .i64 u.k, .string ⟨u.s.toArray⟩, .bool u.n, .int .u64 u.h, .int .u64 u.l] := by rw [hw14, hb14]; exact Bk.new w13 _ _
          have hf14 : Fr [] w12 w14 := by rw [hw14]; exact HF13.out.alloc _
          rw [← hw14, ← hb14]
          obtain ⟨m, hm⟩ : ∃ m, m = (live es2).length := ⟨_, rfl⟩
          have h14 := HQ12.out.grow hf14
          obtain ⟨A8, c8, hv8⟩ := h14.pr.form
          rw [← hm] at hv8 hles
          have hx12' := HX12.out.fr hf14 (by simp)
          have H14 := Lib.hid h14; have HM := Lib.hid hm
          have hkp : ∀ p ∈ live es2, p.1.length ≤ 1000 := fun p hp => Nat.le_trans (HKQ.out p hp) (by omega)
          have hee : ∀ V, Fr [] w14 V → V.cell? ⟨b7, 0, none⟩ = some (.pointer (some ⟨ga, 0, none⟩)) ∧ V.cell? ⟨b8, 0, none⟩ = some (.slice A8 m c8) ∧
              V.cell? ⟨b12, 0, none⟩ = some (.int .i64 u.k) ∧ V.cell? ⟨b12, 1, none⟩ = some (.string ⟨u.s.toArray⟩) ∧ V.cell? ⟨b12, 2, none⟩ = some (.bool u.n) ∧ V.cell? ⟨b12, 3, none⟩ = some (.int .u64 u.h) ∧ V.cell? ⟨b12, 4, none⟩ = some (.int .u64 u.l) ∧
              V.cell? ⟨b14, 0, none⟩ = some (.int .i64 u.k) ∧ V.cell? ⟨b14, 1, none⟩ = some (.string ⟨u.s.toArray⟩) ∧ V.cell? ⟨b14, 2, none⟩ = some (.bool u.n) ∧ V.cell? ⟨b14, 3, none⟩ = some (.int .u64 u.h) ∧ V.cell? ⟨b14, 4, none⟩ = some (.int .u64 u.l) := by
            intro V hV
            have g1 := hx12'.fr hV (by simp)
            have g2 := hx14.fr hV (by simp)
            have g3 := (H14.out.grow hV).bx8.cell_ (i := 0) rfl
            rw [hv8] at g3
            exact ⟨(HCC.out V (H14.out.grow hV).fr).1, g3, g1.cell_ (i := 0) rfl, g1.cell_ (i := 1) rfl, g1.cell_ (i := 2) rfl, g1.cell_ (i := 3) rfl, g1.cell_ (i := 4) rfl, g2.cell_ (i := 0) rfl, g2.cell_ (i := 1) rfl, g2.cell_ (i := 2) rfl, g2.cell_ (i := 3) rfl, g2.cell_ (i := 4) rfl⟩
          obtain ⟨WA, hWA⟩ : ∃ WA, WA = wtP (live es2) := ⟨_, rfl⟩
          have hwa : IntKind.i64.wrap (wt es2 : Int) = (WA : Int) ∧ wtP (live es2) = WA := by
            have h1 := wtP_le (live es2) (n := 60) HKQ.out
            rw [← hWA, ← hm] at h1
            have h2 : m * (32 + 60) ≤ 61 * 92 := Nat.mul_le_mul (by omega) (by omega)
            rw [wt_live, ← hWA]
            refine ⟨?_, rfl⟩
            rw [IntKind.wrap_i64]
            omega
          have HKP := Lib.hid hkp; have HEE := Lib.hid hee; have HWA := Lib.hid hwa; have HV8 := Lib.hid hv8
          clear hb14 hw14 hx14 hf14 hm h14 hv8 hx12' hkp hee hwa hWA
          refine wp_region_M_ (G := fun a b => Fr [] a b) (S := fun V => Fr [] w14 V) ⟨fun _ => Fr.refl _ _, fun a b c h k => h.trans k, fun a b h k => h.trans k, by kernel_rfl, fun _ _ d _ _ h => by cases d <;> exact h⟩ (by kernel_rfl) fun su => ?_
          have SU := Lib.hid su
          have HS : Hid (Fr [] w14 (World.drew w14)) := Lib.hid ((Fr.refl [] w14).drew)
          clear su
          refine M_val (i := 0) (v := .agg #[.int .i64 u.k, .string ⟨u.s.toArray⟩, .bool u.n, .int .u64 u.h, .int .u64 u.l]) SU.out rfl (by kernel_rfl) HS.out rfl (fun W hS => ?_) ?_
          · obtain ⟨x7, x8, y0, y1, y2, y3, y4, z0, z1, z2, z3, z4⟩ := HEE.out _ hS
            go_simp
            first | done | rfl | omega | (simp; done) | (simp; omega)
          simp only [Act.put, List.setIfInBounds_toArray, List.set_cons_zero, List.set_cons_succ]
          refine M_val (i := 1) (v := .agg #[.int .i64 u.k, .string ⟨u.s.toArray⟩, .bool u.n, .int .u64 u.h, .int .u64 u.l]) SU.out rfl (by kernel_rfl) HS.out rfl (fun W hS => ?_) ?_
          · obtain ⟨x7, x8, y0, y1, y2, y3, y4, z0, z1, z2, z3, z4⟩ := HEE.out _ hS
            go_simp
            first | done | rfl | omega | (simp; done) | (simp; omega)
          simp only [Act.put, List.setIfInBounds_toArray, List.set_cons_zero, List.set_cons_succ]
          refine M_val (i := 2) (v := .bool false) SU.out rfl (by kernel_rfl) HS.out rfl (fun W hS => ?_) ?_
          · obtain ⟨x7, x8, y0, y1, y2, y3, y4, z0, z1, z2, z3, z4⟩ := HEE.out _ hS
            go_simp
            first | done | rfl | omega | (simp; done) | (simp; omega)
          simp only [Act.put, List.setIfInBounds_toArray, List.set_cons_zero, List.set_cons_succ]
          refine M_move (i := 3) _ SU.out rfl rfl (by kernel_rfl) HS.out rfl ?_
          simp only [Act.put, Act.eval, Array.getD_eq_getD_getElem?, List.setIfInBounds_toArray, List.set_cons_zero, List.set_cons_succ, List.getElem?_toArray, List.getElem?_cons_zero, List.getElem?_cons_succ, Option.getD_some]
          refine M_move (i := 4) _ SU.out rfl rfl (by kernel_rfl) HS.out rfl ?_
          simp only [Act.put, Act.eval, Array.getD_eq_getD_getElem?, List.setIfInBounds_toArray, List.set_cons_zero, List.set_cons_succ, List.getElem?_toArray, List.getElem?_cons_zero, List.getElem?_cons_succ, Option.getD_some]
          refine M_move (i := 5) _ SU.out rfl rfl (by kernel_rfl) HS.out rfl ?_
          simp only [Act.put, Act.eval, Array.getD_eq_getD_getElem?, List.setIfInBounds_toArray, List.set_cons_zero, List.set_cons_succ, List.getElem?_toArray, List.getElem?_cons_zero, List.getElem?_cons_succ, Option.getD_some]
          refine M_val (i := 6) (v := .bool false) SU.out rfl (by kernel_rfl) HS.out rfl (fun W hS => ?_) ?_
          · obtain ⟨x7, x8, y0, y1, y2, y3, y4, z0, z1, z2, z3, z4⟩ := HEE.out _ hS
            go_simp
            first | done | rfl | omega | (simp; done) | (simp; omega)
          simp only [Act.put, List.setIfInBounds_toArray, List.set_cons_zero, List.set_cons_succ]
          refine M_val (i := 7) (v := .bool false) SU.out rfl (by kernel_rfl) HS.out rfl (fun W hS => ?_) ?_
          · obtain ⟨x7, x8, y0, y1, y2, y3, y4, z0, z1, z2, z3, z4⟩ := HEE.out _ hS
            go_simp
            first | done | rfl | omega | (simp; done) | (simp; omega)
          simp only [Act.put, List.setIfInBounds_toArray, List.set_cons_zero, List.set_cons_succ]
          refine M_move (i := 8) _ SU.out rfl rfl (by kernel_rfl) HS.out rfl ?_
          simp only [Act.put, Act.eval, Array.getD_eq_getD_getElem?, List.setIfInBounds_toArray, List.set_cons_zero, List.set_cons_succ, List.getElem?_toArray, List.getElem?_cons_zero, List.getElem?_cons_succ, Option.getD_some]
          refine M_val (i := 9) (v := .pointer (some ⟨ga, 0, none⟩)) SU.out rfl (by kernel_rfl) HS.out rfl (fun W hS => ?_) ?_
          · obtain ⟨x7, x8, y0, y1, y2, y3, y4, z0, z1, z2, z3, z4⟩ := HEE.out _ hS
            go_simp
            first | done | rfl | omega | (simp; done) | (simp; omega)
          simp only [Act.put, List.setIfInBounds_toArray, List.set_cons_zero, List.set_cons_succ]
          refine M_call (i := 10) (v := .int .i64 (m : Int)) SU.out rfl (by kernel_rfl) HS.out rfl (fun V hS => (len_any (H14.out.grow hS).arr).mono fun e w' h => by
            obtain ⟨rfl, rfl⟩ := h
            exact ⟨by rw [HM.out], Fr.refl _ _⟩) (fun V => ?_) ?_
          · go_simp
            first | done | rfl
          simp only [Act.put, List.setIfInBounds_toArray, List.set_cons_zero, List.set_cons_succ]
          refine M_val (i := 11) (v := .slice A8 m c8) SU.out rfl (by kernel_rfl) HS.out rfl (fun W hS => ?_) ?_
          · obtain ⟨x7, x8, y0, y1, y2, y3, y4, z0, z1, z2, z3, z4⟩ := HEE.out _ hS
            go_simp
            first | done | rfl | omega | (simp; done) | (simp; omega)
          simp only [Act.put, List.setIfInBounds_toArray, List.set_cons_zero, List.set_cons_succ]
          refine M_val (i := 12) (v := .int .i64 (m : Int)) SU.out rfl (by kernel_rfl) HS.out rfl (fun W hS => ?_) ?_
          · obtain ⟨x7, x8, y0, y1, y2, y3, y4, z0, z1, z2, z3, z4⟩ := HEE.out _ hS
            go_simp
            first | done | rfl | omega | (simp; done) | (simp; omega)
          simp only [Act.put, List.setIfInBounds_toArray, List.set_cons_zero, List.set_cons_succ]
          refine M_val (i := 13) (v := .bool false) SU.out rfl (by kernel_rfl) HS.out rfl (fun W hS => ?_) ?_
          · obtain ⟨x7, x8, y0, y1, y2, y3, y4, z0, z1, z2, z3, z4⟩ := HEE.out _ hS
            go_simp
            first | done | rfl | omega | (simp; done) | (simp; omega)
          simp only [Act.put, List.setIfInBounds_toArray, List.set_cons_zero, List.set_cons_succ]
          refine M_val (i := 14) (v := .bool false) SU.out rfl (by kernel_rfl) HS.out rfl (fun W hS => ?_) ?_
          · obtain ⟨x7, x8, y0, y1, y2, y3, y4, z0, z1, z2, z3, z4⟩ := HEE.out _ hS
            go_simp
            first | done | rfl | omega | (simp; done) | (simp; omega)
          simp only [Act.put, List.setIfInBounds_toArray, List.set_cons_zero, List.set_cons_succ]
          refine M_move (i := 15) _ SU.out rfl rfl (by kernel_rfl) HS.out rfl ?_
          simp only [Act.put, Act.eval, Array.getD_eq_getD_getElem?, List.setIfInBounds_toArray, List.set_cons_zero, List.set_cons_succ, List.getElem?_toArray, List.getElem?_cons_zero, List.getElem?_cons_succ, Option.getD_some]
          refine M_val (i := 16) (v := .pointer (some ⟨ga, 0, none⟩)) SU.out rfl (by kernel_rfl) HS.out rfl (fun W hS => ?_) ?_
          · obtain ⟨x7, x8, y0, y1, y2, y3, y4, z0, z1, z2, z3, z4⟩ := HEE.out _ hS
            go_simp
            first | done | rfl | omega | (simp; done) | (simp; omega)
          simp only [Act.put, List.setIfInBounds_toArray, List.set_cons_zero, List.set_cons_succ]
          refine M_call (i := 17) (v := .int .i64 (WA : Int)) SU.out rfl (by kernel_rfl) HS.out rfl (fun V hS => (weight_any (H14.out.grow hS).arr).mono fun e w' h => by
            obtain ⟨⟨W0, rfl, h2⟩, rfl⟩ := h
            exact ⟨by rw [h2, HWA.out.1], Fr.refl _ _⟩) (fun V => ?_) ?_
          · go_simp
            first | done | rfl
          simp only [Act.put, List.setIfInBounds_toArray, List.set_cons_zero, List.set_cons_succ]
          refine M_val (i := 18) (v := .slice A8 m c8) SU.out rfl (by kernel_rfl) HS.out rfl (fun W hS => ?_) ?_
          · obtain ⟨x7, x8, y0, y1, y2, y3, y4, z0, z1, z2, z3, z4⟩ := HEE.out _ hS
            go_simp
            first | done | rfl | omega | (simp; done) | (simp; omega)
          simp only [Act.put, List.setIfInBounds_toArray, List.set_cons_zero, List.set_cons_succ]
          refine M_call (i := 19) (v := .int .i64 (WA : Int)) SU.out rfl (by kernel_rfl) HS.out rfl (fun V hS => (weightP_any (v := .slice A8 m c8) (HV8.out ▸ (H14.out.grow hS).pr) (by have := HM.out; omega) HKP.out).mono fun e w' h => by
            obtain ⟨rfl, rfl⟩ := h
            exact ⟨by rw [HWA.out.2], Fr.refl _ _⟩) (fun V => ?_) ?_
          · go_simp
            first | done | rfl
          simp only [Act.put, List.setIfInBounds_toArray, List.set_cons_zero, List.set_cons_succ]
          refine M_val (i := 20) (v := .bool false) SU.out rfl (by kernel_rfl) HS.out rfl (fun W hS => ?_) ?_
          · obtain ⟨x7, x8, y0, y1, y2, y3, y4, z0, z1, z2, z3, z4⟩ := HEE.out _ hS
            go_simp
            first | done | rfl | omega | (simp; done) | (simp; omega)
          simp only [Act.put, List.setIfInBounds_toArray, List.set_cons_zero, List.set_cons_succ]
          refine M_val (i := 21) (v := .bool false) SU.out rfl (by kernel_rfl) HS.out rfl (fun W hS => ?_) ?_
          · obtain ⟨x7, x8, y0, y1, y2, y3, y4, z0, z1, z2, z3, z4⟩ := HEE.out _ hS
            go_simp
            first | done | rfl | omega | (simp; done) | (simp; omega)
          simp only [Act.put, List.setIfInBounds_toArray, List.set_cons_zero, List.set_cons_succ]
          refine wpAnyM_done (by kernel_rfl) (fun w15 hG => ?_)
          have H15 := Lib.hid (H14.out.grow (((Fr.refl [] w14).drew).trans hG))
          clear SU HS hG
          go_wp2_with fail
          go_roundw
          case rel => exact ⟨i + 1, es2, _, _, by go_num, by omega, H15.out, by omega, HKQ.out⟩
          case measure => first | (simp [intOf]; done) | (simp [intOf]; omega)
        · skip
          go_wp2_with fail
          go_at_call 16
          refine (clear_any HPL.out.arr).mono ?_
          rintro e w6 ⟨rfl, h6⟩
          obtain ⟨lb, h7⟩ := HPL.out.stepA h6
          have hq := h7.stepX (v' := .slice none 0 0) (PR.nil_ w6) (Fr.refl [] w6) (fun b hb => by simp [Value.ownBlock] at hb)
          clear x7 x8 d0 d1 d2 d3 d4 d5 d6
          have x8 := h7.bx8.cell_ (i := 0) rfl
          have f8 := h7.bx8.frozen 0
          have HQ0 := Lib.hid hq
          clear h6 h7 hq
          go_upto_region 26 with fail
          clear x8 f8
          have hq : PlS w3 (w6.setCell ⟨b8, 0, none⟩ (.slice none 0 0)) ga b8 [] (live []) (.slice none 0 0) lb := HQ0.out
          obtain ⟨wq, hwq⟩ : ∃ wq, wq = w6.setCell ⟨b8, 0, none⟩ (.slice none 0 0) := ⟨_, rfl⟩
          rw [← hwq] at hq ⊢
          have hlen : ([] : List (Ent CV)).length ≤ i + 1 := by simp
          have hkq : KeysOk 60 ([] : List (Ent CV)) := by intro p hp; cases hp
          obtain ⟨es2, hes2⟩ : ∃ es2, es2 = ([] : List (Ent CV)) := ⟨_, rfl⟩
          rw [← hes2] at hq hlen hkq
          clear hwq hes2
          obtain ⟨v82, lq, hq⟩ : ∃ v82 lq, PlS w3 wq ga b8 es2 (live es2) v82 lq := ⟨_, _, hq⟩
          have HQ := Lib.hid hq; have HKQ := Lib.hid hkq
          clear hq hkq
          obtain ⟨x7, -⟩ := HCC.out wq HQ.out.fr
          go_wp2_with fail
          go_at_call 17
          refine (get_any HQ.out.arr key HKEY.out).mono ?_
          rintro e w11 ⟨rfl, hf11⟩
          obtain ⟨u, hu⟩ : ∃ u, u = valC es2 key := ⟨_, rfl⟩
          obtain ⟨ok, hok⟩ : ∃ ok, ok = (idxOf es2 key).isSome := ⟨_, rfl⟩
          rw [← hu, ← hok]
          have HU := Lib.hid hu; have HOK := Lib.hid hok; have HF11 := Lib.hid hf11
          clear hu hok hf11 x7
          unfold CV.val
          go_upto_region 27 with fail
          obtain ⟨b12, hb12⟩ : ∃ b12, b12 = w11.heap.size := ⟨_, rfl⟩
          obtain ⟨w12, hw12⟩ : ∃ w12, w12 = w11.alloc (.cells #[.int .i64 u.k, .string ⟨u.s.toArray⟩, .bool u.n, .int .u64 u.h, .int .u64 u.l] 41) := ⟨_, rfl⟩
          have hx12 : Bk w12 b12 41 #[.int .i64 u.k, .string ⟨u.s.toArray⟩, .bool u.n, .int .u64 u.h, .int .u64 u.l] := by rw [hw12, hb12]; exact Bk.new w11 _ _
          have hf12 : Fr [] wq w12 := by rw [hw12]; exact HF11.out.alloc _
          rw [← hw12, ← hb12]
          have HX12 := Lib.hid hx12; have HQ12 := Lib.hid (HQ.out.grow hf12)
          clear hb12 hw12 hx12 hf12
          have x8 := HQ12.out.bx8.cell_ (i := 0) rfl
          have hles := live_le es2
          go_wp2_with fail
          go_at_call 23
          refine (getP_any HQ12.out.pr key (by omega)).mono ?_
          rintro e w13 ⟨rfl, hf13⟩
          rw [val_live, fnd_live, ← HU.out, ← HOK.out]
          have HF13 := Lib.hid hf13
          clear hf13 x8
          unfold CV.val
          go_upto_region 28 with fail
          obtain ⟨b14, hb14⟩ : ∃ b14, b14 = w13.heap.size := ⟨_, rfl⟩
          obtain ⟨w14, hw14⟩ : ∃ w14, w14 = w13.alloc (.cells #[.int .i64 u.k, .string ⟨u.s.toArray⟩, .bool u.n, .int .u64 u.h, .int .u64 u.l] 41) := ⟨_, rfl⟩
          have hx14 : Bk w14 b14 41 #[.int .i64 u.k, .string ⟨u.s.toArray⟩, .bool u.n, .int .u64 u.h, .int .u64 u.l] := by rw [hw14, hb14]; exact Bk.new w13 _ _
          have hf14 : Fr [] w12 w14 := by rw [hw14]; exact HF13.out.alloc _
          rw [← hw14, ← hb14]
          obtain ⟨m, hm⟩ : ∃ m, m = (live es2).length := ⟨_, rfl⟩
          have h14 := HQ12.out.grow hf14
          obtain ⟨A8, c8, hv8⟩ := h14.pr.form
          rw [← hm] at hv8 hles
          have hx12' := HX12.out.fr hf14 (by simp)
          have H14 := Lib.hid h14; have HM := Lib.hid hm
          have hkp : ∀ p ∈ live es2, p.1.length ≤ 1000 := fun p hp => Nat.le_trans (HKQ.out p hp) (by omega)
          have hee : ∀ V, Fr [] w14 V → V.cell? ⟨b7, 0, none⟩ = some (.pointer (some ⟨ga, 0, none⟩)) ∧ V.cell? ⟨b8, 0, none⟩ = some (.slice A8 m c8) ∧
              V.cell? ⟨b12, 0, none⟩ = some (.int .i64 u.k) ∧ V.cell? ⟨b12, 1, none⟩ = some (.string ⟨u.s.toArray⟩) ∧ V.cell? ⟨b12, 2, none⟩ = some (.bool u.n) ∧ V.cell? ⟨b12, 3, none⟩ = some (.int .u64 u.h) ∧ V.cell? ⟨b12, 4, none⟩ = some (.int .u64 u.l) ∧
              V.cell? ⟨b14, 0, none⟩ = some (.int .i64 u.k) ∧ V.cell? ⟨b14, 1, none⟩ = some (.string ⟨u.s.toArray⟩) ∧ V.cell? ⟨b14, 2, none⟩ = some (.bool u.n) ∧ V.cell? ⟨b14, 3, none⟩ = some (.int .u64 u.h) ∧ V.cell? ⟨b14, 4, none⟩ = some (.int .u64 u.l) := by
            intro V hV
            have g1 := hx12'.fr hV (by simp)
            have g2 := hx14.fr hV (by simp)
            have g3 := (H14.out.grow hV).bx8.cell_ (i := 0) rfl
            rw [hv8] at g3
            exact ⟨(HCC.out V (H14.out.grow hV).fr).1, g3, g1.cell_ (i := 0) rfl, g1.cell_ (i := 1) rfl, g1.cell_ (i := 2) rfl, g1.cell_ (i := 3) rfl, g1.cell_ (i := 4) rfl, g2.cell_ (i := 0) rfl, g2.cell_ (i := 1) rfl, g2.cell_ (i := 2) rfl, g2.cell_ (i := 3) rfl, g2.cell_ (i := 4) rfl⟩
          obtain ⟨WA, hWA⟩ : ∃ WA, WA = wtP (live es2) := ⟨_, rfl⟩
          have hwa : IntKind.i64.wrap (wt es2 : Int) = (WA : Int) ∧ wtP (live es2) = WA := by
            have h1 := wtP_le (live es2) (n := 60) HKQ.out
            rw [← hWA, ← hm] at h1
            have h2 : m * (32 + 60) ≤ 61 * 92 := Nat.mul_le_mul (by omega) (by omega)
            rw [wt_live, ← hWA]
            refine ⟨?_, rfl⟩
            rw [IntKind.wrap_i64]
            omega
          have HKP := Lib.hid hkp; have HEE := Lib.hid hee; have HWA := Lib.hid hwa; have HV8 := Lib.hid hv8
          clear hb14 hw14 hx14 hf14 hm h14 hv8 hx12' hkp hee hwa hWA
          refine wp_region_M_ (G := fun a b => Fr [] a b) (S := fun V => Fr [] w14 V) ⟨fun _ => Fr.refl _ _, fun a b c h k => h.trans k, fun a b h k => h.trans k, by kernel_rfl, fun _ _ d _ _ h => by cases d <;> exact h⟩ (by kernel_rfl) fun su => ?_
          have SU := Lib.hid su
          have HS : Hid (Fr [] w14 (World.drew w14)) := Lib.hid ((Fr.refl [] w14).drew)
          clear su
          refine M_val (i := 0) (v := .agg #[.int .i64 u.k, .string ⟨u.s.toArray⟩, .bool u.n, .int .u64 u.h, .int .u64 u.l]) SU.out rfl (by kernel_rfl) HS.out rfl (fun W hS => ?_) ?_
          · obtain ⟨x7, x8, y0, y1, y2, y3, y4, z0, z1, z2, z3, z4⟩ := HEE.out _ hS
            go_simp
            first | done | rfl | omega | (simp; done) | (simp; omega)
          simp only [Act.put, List.setIfInBounds_toArray, List.set_cons_zero, List.set_cons_succ]
          refine M_val (i := 1) (v := .agg #[.int .i64 u.k, .string ⟨u.s.toArray⟩, .bool u.n, .int .u64 u.h, .int .u64 u.l]) SU.out rfl (by kernel_rfl) HS.out rfl (fun W hS => ?_) ?_
          · obtain ⟨x7, x8, y0, y1, y2, y3, y4, z0, z1, z2, z3, z4⟩ := HEE.out _ hS
            go_simp
            first | done | rfl | omega | (simp; done) | (simp; omega)
          simp only [Act.put, List.setIfInBounds_toArray, List.set_cons_zero, List.set_cons_succ]
          refine M_val (i := 2) (v := .bool false) SU.out rfl (by kernel_rfl) HS.out rfl (fun W hS => ?_) ?_
          · obtain ⟨x7, x8, y0, y1, y2, y3, y4, z0, z1, z2, z3, z4⟩ := HEE.out _ hS
            go_simp
            first | done | rfl | omega | (simp; done) | (simp; omega)
          simp only [Act.put, List.setIfInBounds_toArray, List.set_cons_zero, List.set_cons_succ]
          refine M_move (i := 3) _ SU.out rfl rfl (by kernel_rfl) HS.out rfl ?_
          simp only [Act.put, Act.eval, Array.getD_eq_getD_getElem?, List.setIfInBounds_toArray, List.set_cons_zero, List.set_cons_succ, List.getElem?_toArray, List.getElem?_cons_zero, List.getElem?_cons_succ, Option.getD_some]
          refine M_move (i := 4) _ SU.out rfl rfl (by kernel_rfl) HS.out rfl ?_
          simp only [Act.put, Act.eval, Array.getD_eq_getD_getElem?, List.setIfInBounds_toArray, List.set_cons_zero, List.set_cons_succ, List.getElem?_toArray, List.getElem?_cons_zero, List.getElem?_cons_succ, Option.getD_some]
          refine M_move (i := 5) _ SU.out rfl rfl (by kernel_rfl) HS.out rfl ?_
          simp only [Act.put, Act.eval, Array.getD_eq_getD_getElem?, List.setIfInBounds_toArray, List.set_cons_zero, List.set_cons_succ, List.getElem?_toArray, List.getElem?_cons_zero, List.getElem?_cons_succ, Option.getD_some]
          refine M_val (i := 6) (v := .bool false) SU.out rfl (by kernel_rfl) HS.out rfl (fun W hS => ?_) ?_
          · obtain ⟨x7, x8, y0, y1, y2, y3, y4, z0, z1, z2, z3, z4⟩ := HEE.out _ hS
            go_simp
            first | done | rfl | omega | (simp; done) | (simp; omega)
          simp only [Act.put, List.setIfInBounds_toArray, List.set_cons_zero, List.set_cons_succ]
          refine M_val (i := 7) (v := .bool false) SU.out rfl (by kernel_rfl) HS.out rfl (fun W hS => ?_) ?_
          · obtain ⟨x7, x8, y0, y1, y2, y3, y4, z0, z1, z2, z3, z4⟩ := HEE.out _ hS
            go_simp
            first | done | rfl | omega | (simp; done) | (simp; omega)
          simp only [Act.put, List.setIfInBounds_toArray, List.set_cons_zero, List.set_cons_succ]
          refine M_move (i := 8) _ SU.out rfl rfl (by kernel_rfl) HS.out rfl ?_
          simp only [Act.put, Act.eval, Array.getD_eq_getD_getElem?, List.setIfInBounds_toArray, List.set_cons_zero, List.set_cons_succ, List.getElem?_toArray, List.getElem?_cons_zero, List.getElem?_cons_succ, Option.getD_some]
          refine M_val (i := 9) (v := .pointer (some ⟨ga, 0, none⟩)) SU.out rfl (by kernel_rfl) HS.out rfl (fun W hS => ?_) ?_
          · obtain ⟨x7, x8, y0, y1, y2, y3, y4, z0, z1, z2, z3, z4⟩ := HEE.out _ hS
            go_simp
            first | done | rfl | omega | (simp; done) | (simp; omega)
          simp only [Act.put, List.setIfInBounds_toArray, List.set_cons_zero, List.set_cons_succ]
          refine M_call (i := 10) (v := .int .i64 (m : Int)) SU.out rfl (by kernel_rfl) HS.out rfl (fun V hS => (len_any (H14.out.grow hS).arr).mono fun e w' h => by
            obtain ⟨rfl, rfl⟩ := h
            exact ⟨by rw [HM.out], Fr.refl _ _⟩) (fun V => ?_) ?_
          · go_simp
            first | done | rfl
          simp only [Act.put, List.setIfInBounds_toArray, List.set_cons_zero, List.set_cons_succ]
          refine M_val (i := 11) (v := .slice A8 m c8) SU.out rfl (by kernel_rfl) HS.out rfl (fun W hS => ?_) ?_
          · obtain ⟨x7, x8, y0, y1, y2, y3, y4, z0, z1, z2, z3, z4⟩ := HEE.out _ hS
            go_simp
            first | done | rfl | omega | (simp; done) | (simp; omega)
          simp only [Act.put, List.setIfInBounds_toArray, List.set_cons_zero, List.set_cons_succ]
          refine M_val (i := 12) (v := .int .i64 (m : Int)) SU.out rfl (by kernel_rfl) HS.out rfl (fun W hS => ?_) ?_
          · obtain ⟨x7, x8, y0, y1, y2, y3, y4, z0, z1, z2, z3, z4⟩ := HEE.out _ hS
            go_simp
            first | done | rfl | omega | (simp; done) | (simp; omega)
          simp only [Act.put, List.setIfInBounds_toArray, List.set_cons_zero, List.set_cons_succ]
          refine M_val (i := 13) (v := .bool false) SU.out rfl (by kernel_rfl) HS.out rfl (fun W hS => ?_) ?_
          · obtain ⟨x7, x8, y0, y1, y2, y3, y4, z0, z1, z2, z3, z4⟩ := HEE.out _ hS
            go_simp
            first | done | rfl | omega | (simp; done) | (simp; omega)
          simp only [Act.put, List.setIfInBounds_toArray, List.set_cons_zero, List.set_cons_succ]
          refine M_val (i := 14) (v := .bool false) SU.out rfl (by kernel_rfl) HS.out rfl (fun W hS => ?_) ?_
          · obtain ⟨x7, x8, y0, y1, y2, y3, y4, z0, z1, z2, z3, z4⟩ := HEE.out _ hS
            go_simp
            first | done | rfl | omega | (simp; done) | (simp; omega)
          simp only [Act.put, List.setIfInBounds_toArray, List.set_cons_zero, List.set_cons_succ]
          refine M_move (i := 15) _ SU.out rfl rfl (by kernel_rfl) HS.out rfl ?_
          simp only [Act.put, Act.eval, Array.getD_eq_getD_getElem?, List.setIfInBounds_toArray, List.set_cons_zero, List.set_cons_succ, List.getElem?_toArray, List.getElem?_cons_zero, List.getElem?_cons_succ, Option.getD_some]
          refine M_val (i := 16) (v := .pointer (some ⟨ga, 0, none⟩)) SU.out rfl (by kernel_rfl) HS.out rfl (fun W hS => ?_) ?_
          · obtain ⟨x7, x8, y0, y1, y2, y3, y4, z0, z1, z2, z3, z4⟩ := HEE.out _ hS
            go_simp
            first | done | rfl | omega | (simp; done) | (simp; omega)
          simp only [Act.put, List.setIfInBounds_toArray, List.set_cons_zero, List.set_cons_succ]
          refine M_call (i := 17) (v := .int .i64 (WA : Int)) SU.out rfl (by kernel_rfl) HS.out rfl (fun V hS => (weight_any (H14.out.grow hS).arr).mono fun e w' h => by
            obtain ⟨⟨W0, rfl, h2⟩, rfl⟩ := h
            exact ⟨by rw [h2, HWA.out.1], Fr.refl _ _⟩) (fun V => ?_) ?_
          · go_simp
            first | done | rfl
          simp only [Act.put, List.setIfInBounds_toArray, List.set_cons_zero, List.set_cons_succ]
          refine M_val (i := 18) (v := .slice A8 m c8) SU.out rfl (by kernel_rfl) HS.out rfl (fun W hS => ?_) ?_
          · obtain ⟨x7, x8, y0, y1, y2, y3, y4, z0, z1, z2, z3, z4⟩ := HEE.out _ hS
            go_simp
            first | done | rfl | omega | (simp; done) | (simp; omega)
          simp only [Act.put, List.setIfInBounds_toArray, List.set_cons_zero, List.set_cons_succ]
          refine M_call (i := 19) (v := .int .i64 (WA : Int)) SU.out rfl (by kernel_rfl) HS.out rfl (fun V hS => (weightP_any (v := .slice A8 m c8) (HV8.out ▸ (H14.out.grow hS).pr) (by have := HM.out; omega) HKP.out).mono fun e w' h => by
            obtain ⟨rfl, rfl⟩ := h
            exact ⟨by rw [HWA.out.2], Fr.refl _ _⟩) (fun V => ?_) ?_
          · go_simp
            first | done | rfl
          simp only [Act.put, List.setIfInBounds_toArray, List.set_cons_zero, List.set_cons_succ]
          refine M_val (i := 20) (v := .bool false) SU.out rfl (by kernel_rfl) HS.out rfl (fun W hS => ?_) ?_
          · obtain ⟨x7, x8, y0, y1, y2, y3, y4, z0, z1, z2, z3, z4⟩ := HEE.out _ hS
            go_simp
            first | done | rfl | omega | (simp; done) | (simp; omega)
          simp only [Act.put, List.setIfInBounds_toArray, List.set_cons_zero, List.set_cons_succ]
          refine M_val (i := 21) (v := .bool false) SU.out rfl (by kernel_rfl) HS.out rfl (fun W hS => ?_) ?_
          · obtain ⟨x7, x8, y0, y1, y2, y3, y4, z0, z1, z2, z3, z4⟩ := HEE.out _ hS
            go_simp
            first | done | rfl | omega | (simp; done) | (simp; omega)
          simp only [Act.put, List.setIfInBounds_toArray, List.set_cons_zero, List.set_cons_succ]
          refine wpAnyM_done (by kernel_rfl) (fun w15 hG => ?_)
          have H15 := Lib.hid (H14.out.grow (((Fr.refl [] w14).drew).trans hG))
          clear SU HS hG
          go_wp2_with fail
          go_roundw
          case rel => exact ⟨i + 1, es2, _, _, by go_num, by omega, H15.out, by omega, HKQ.out⟩
          case measure => first | (simp [intOf]; done) | (simp [intOf]; omega)
        · skip
          obtain ⟨g0, g1, g2, g3, g4⟩ := hk
          go_upto_region 26 with fail
          clear x7 x8 d0 d1 d2 d3 d4 d5 d6
          have hq := HPL.out
          obtain ⟨wq, hwq⟩ : ∃ wq, wq = w5 := ⟨_, rfl⟩
          rw [← hwq] at hq ⊢
          have hlen : es.length ≤ i + 1 := by omega
          have hkq : KeysOk 60 es := HKS.out
          obtain ⟨es2, hes2⟩ : ∃ es2, es2 = es := ⟨_, rfl⟩
          rw [← hes2] at hq hlen hkq
          clear hwq hes2
          obtain ⟨v82, lq, hq⟩ : ∃ v82 lq, PlS w3 wq ga b8 es2 (live es2) v82 lq := ⟨_, _, hq⟩
          have HQ := Lib.hid hq; have HKQ := Lib.hid hkq
          clear hq hkq
          obtain ⟨x7, -⟩ := HCC.out wq HQ.out.fr
          go_wp2_with fail
          go_at_call 17
          refine (get_any HQ.out.arr key HKEY.out).mono ?_
          rintro e w11 ⟨rfl, hf11⟩
          obtain ⟨u, hu⟩ : ∃ u, u = valC es2 key := ⟨_, rfl⟩
          obtain ⟨ok, hok⟩ : ∃ ok, ok = (idxOf es2 key).isSome := ⟨_, rfl⟩
          rw [← hu, ← hok]
          have HU := Lib.hid hu; have HOK := Lib.hid hok; have HF11 := Lib.hid hf11
          clear hu hok hf11 x7
          unfold CV.val
          go_upto_region 27 with fail
          obtain ⟨b12, hb12⟩ : ∃ b12, b12 = w11.heap.size := ⟨_, rfl⟩
          obtain ⟨w12, hw12⟩ : ∃ w12, w12 = w11.alloc (.cells #[.int .i64 u.k, .string ⟨u.s.toArray⟩, .bool u.n, .int .u64 u.h, .int .u64 u.l] 41) := ⟨_, rfl⟩
          have hx12 : Bk w12 b12 41 #[.int .i64 u.k, .string ⟨u.s.toArray⟩, .bool u.n, .int .u64 u.h, .int .u64 u.l] := by rw [hw12, hb12]; exact Bk.new w11 _ _
          have hf12 : Fr [] wq w12 := by rw [hw12]; exact HF11.out.alloc _
          rw [← hw12, ← hb12]
          have HX12 := Lib.hid hx12; have HQ12 := Lib.hid (HQ.out.grow hf12)
          clear hb12 hw12 hx12 hf12
          have x8 := HQ12.out.bx8.cell_ (i := 0) rfl
          have hles := live_le es2
          go_wp2_with fail
          go_at_call 23
          refine (getP_any HQ12.out.pr key (by omega)).mono ?_
          rintro e w13 ⟨rfl, hf13⟩
          rw [val_live, fnd_live, ← HU.out, ← HOK.out]
          have HF13 := Lib.hid hf13
          clear hf13 x8
          unfold CV.val
          go_upto_region 28 with fail
          obtain ⟨b14, hb14⟩ : ∃ b14, b14 = w13.heap.size := ⟨_, rfl⟩
          obtain ⟨w14, hw14⟩ : ∃ w14, w14 = w13.alloc (.cells #[.int .i64 u.k, .string ⟨u.s.toArray⟩, .bool u.n, .int .u64 u.h, .int .u64 u.l] 41) := ⟨_, rfl⟩
          have hx14 : Bk w14 b14 41 #[.int .i64 u.k, .string ⟨u.s.toArray⟩, .bool u.n, .int .u64 u.h, .int .u64 u.l] := by rw [hw14, hb14]; exact Bk.new w13 _ _
          have hf14 : Fr [] w12 w14 := by rw [hw14]; exact HF13.out.alloc _
          rw [← hw14, ← hb14]
          obtain ⟨m, hm⟩ : ∃ m, m = (live es2).length := ⟨_, rfl⟩
          have h14 := HQ12.out.grow hf14
          obtain ⟨A8, c8, hv8⟩ := h14.pr.form
          rw [← hm] at hv8 hles
          have hx12' := HX12.out.fr hf14 (by simp)
          have H14 := Lib.hid h14; have HM := Lib.hid hm
          have hkp : ∀ p ∈ live es2, p.1.length ≤ 1000 := fun p hp => Nat.le_trans (HKQ.out p hp) (by omega)
          have hee : ∀ V, Fr [] w14 V → V.cell? ⟨b7, 0, none⟩ = some (.pointer (some ⟨ga, 0, none⟩)) ∧ V.cell? ⟨b8, 0, none⟩ = some (.slice A8 m c8) ∧
              V.cell? ⟨b12, 0, none⟩ = some (.int .i64 u.k) ∧ V.cell? ⟨b12, 1, none⟩ = some (.string ⟨u.s.toArray⟩) ∧ V.cell? ⟨b12, 2, none⟩ = some (.bool u.n) ∧ V.cell? ⟨b12, 3, none⟩ = some (.int .u64 u.h) ∧ V.cell? ⟨b12, 4, none⟩ = some (.int .u64 u.l) ∧
              V.cell? ⟨b14, 0, none⟩ = some (.int .i64 u.k) ∧ V.cell? ⟨b14, 1, none⟩ = some (.string ⟨u.s.toArray⟩) ∧ V.cell? ⟨b14, 2, none⟩ = some (.bool u.n) ∧ V.cell? ⟨b14, 3, none⟩ = some (.int .u64 u.h) ∧ V.cell? ⟨b14, 4, none⟩ = some (.int .u64 u.l) := by
            intro V hV
            have g1 := hx12'.fr hV (by simp)
            have g2 := hx14.fr hV (by simp)
            have g3 := (H14.out.grow hV).bx8.cell_ (i := 0) rfl
            rw [hv8] at g3
            exact ⟨(HCC.out V (H14.out.grow hV).fr).1, g3, g1.cell_ (i := 0) rfl, g1.cell_ (i := 1) rfl, g1.cell_ (i := 2) rfl, g1.cell_ (i := 3) rfl, g1.cell_ (i := 4) rfl, g2.cell_ (i := 0) rfl, g2.cell_ (i := 1) rfl, g2.cell_ (i := 2) rfl, g2.cell_ (i := 3) rfl, g2.cell_ (i := 4) rfl⟩
          obtain ⟨WA, hWA⟩ : ∃ WA, WA = wtP (live es2) := ⟨_, rfl⟩
          have hwa : IntKind.i64.wrap (wt es2 : Int) = (WA : Int) ∧ wtP (live es2) = WA := by
            have h1 := wtP_le (live es2) (n := 60) HKQ.out
            rw [← hWA, ← hm] at h1
            have h2 : m * (32 + 60) ≤ 61 * 92 := Nat.mul_le_mul (by omega) (by omega)
            rw [wt_live, ← hWA]
            refine ⟨?_, rfl⟩
            rw [IntKind.wrap_i64]
            omega
          have HKP := Lib.hid hkp; have HEE := Lib.hid hee; have HWA := Lib.hid hwa; have HV8 := Lib.hid hv8
          clear hb14 hw14 hx14 hf14 hm h14 hv8 hx12' hkp hee hwa hWA
          refine wp_region_M_ (G := fun a b => Fr [] a b) (S := fun V => Fr [] w14 V) ⟨fun _ => Fr.refl _ _, fun a b c h k => h.trans k, fun a b h k => h.trans k, by kernel_rfl, fun _ _ d _ _ h => by cases d <;> exact h⟩ (by kernel_rfl) fun su => ?_
          have SU := Lib.hid su
          have HS : Hid (Fr [] w14 (World.drew w14)) := Lib.hid ((Fr.refl [] w14).drew)
          clear su
          refine M_val (i := 0) (v := .agg #[.int .i64 u.k, .string ⟨u.s.toArray⟩, .bool u.n, .int .u64 u.h, .int .u64 u.l]) SU.out rfl (by kernel_rfl) HS.out rfl (fun W hS => ?_) ?_
          · obtain ⟨x7, x8, y0, y1, y2, y3, y4, z0, z1, z2, z3, z4⟩ := HEE.out _ hS
            go_simp
            first | done | rfl | omega | (simp; done) | (simp; omega)
          simp only [Act.put, List.setIfInBounds_toArray, List.set_cons_zero, List.set_cons_succ]
          refine M_val (i := 1) (v := .agg #[.int .i64 u.k, .string ⟨u.s.toArray⟩, .bool u.n, .int .u64 u.h, .int .u64 u.l]) SU.out rfl (by kernel_rfl) HS.out rfl (fun W hS => ?_) ?_
          · obtain ⟨x7, x8, y0, y1, y2, y3, y4, z0, z1, z2, z3, z4⟩ := HEE.out _ hS
            go_simp
            first | done | rfl | omega | (simp; done) | (simp; omega)
          simp only [Act.put, List.setIfInBounds_toArray, List.set_cons_zero, List.set_cons_succ]
          refine M_val (i := 2) (v := .bool false) SU.out rfl (by kernel_rfl) HS.out rfl (fun W hS => ?_) ?_
          · obtain ⟨x7, x8, y0, y1, y2, y3, y4, z0, z1, z2, z3, z4⟩ := HEE.out _ hS
            go_simp
            first | done | rfl | omega | (simp; done) | (simp; omega)
          simp only [Act.put, List.setIfInBounds_toArray, List.set_cons_zero, List.set_cons_succ]
          refine M_move (i := 3) _ SU.out rfl rfl (by kernel_rfl) HS.out rfl ?_
          simp only [Act.put, Act.eval, Array.getD_eq_getD_getElem?, List.setIfInBounds_toArray, List.set_cons_zero, List.set_cons_succ, List.getElem?_toArray, List.getElem?_cons_zero, List.getElem?_cons_succ, Option.getD_some]
          refine M_move (i := 4) _ SU.out rfl rfl (by kernel_rfl) HS.out rfl ?_
          simp only [Act.put, Act.eval, Array.getD_eq_getD_getElem?, List.setIfInBounds_toArray, List.set_cons_zero, List.set_cons_succ, List.getElem?_toArray, List.getElem?_cons_zero, List.getElem?_cons_succ, Option.getD_some]
          refine M_move (i := 5) _ SU.out rfl rfl (by kernel_rfl) HS.out rfl ?_
          simp only [Act.put, Act.eval, Array.getD_eq_getD_getElem?, List.setIfInBounds_toArray, List.set_cons_zero, List.set_cons_succ, List.getElem?_toArray, List.getElem?_cons_zero, List.getElem?_cons_succ, Option.getD_some]
          refine M_val (i := 6) (v := .bool false) SU.out rfl (by kernel_rfl) HS.out rfl (fun W hS => ?_) ?_
          · obtain ⟨x7, x8, y0, y1, y2, y3, y4, z0, z1, z2, z3, z4⟩ := HEE.out _ hS
            go_simp
            first | done | rfl | omega | (simp; done) | (simp; omega)
          simp only [Act.put, List.setIfInBounds_toArray, List.set_cons_zero, List.set_cons_succ]
          refine M_val (i := 7) (v := .bool false) SU.out rfl (by kernel_rfl) HS.out rfl (fun W hS => ?_) ?_
          · obtain ⟨x7, x8, y0, y1, y2, y3, y4, z0, z1, z2, z3, z4⟩ := HEE.out _ hS
            go_simp
            first | done | rfl | omega | (simp; done) | (simp; omega)
          simp only [Act.put, List.setIfInBounds_toArray, List.set_cons_zero, List.set_cons_succ]
          refine M_move (i := 8) _ SU.out rfl rfl (by kernel_rfl) HS.out rfl ?_
          simp only [Act.put, Act.eval, Array.getD_eq_getD_getElem?, List.setIfInBounds_toArray, List.set_cons_zero, List.set_cons_succ, List.getElem?_toArray, List.getElem?_cons_zero, List.getElem?_cons_succ, Option.getD_some]
          refine M_val (i := 9) (v := .pointer (some ⟨ga, 0, none⟩)) SU.out rfl (by kernel_rfl) HS.out rfl (fun W hS => ?_) ?_
          · obtain ⟨x7, x8, y0, y1, y2, y3, y4, z0, z1, z2, z3, z4⟩ := HEE.out _ hS
            go_simp
            first | done | rfl | omega | (simp; done) | (simp; omega)
          simp only [Act.put, List.setIfInBounds_toArray, List.set_cons_zero, List.set_cons_succ]
          refine M_call (i := 10) (v := .int .i64 (m : Int)) SU.out rfl (by kernel_rfl) HS.out rfl (fun V hS => (len_any (H14.out.grow hS).arr).mono fun e w' h => by
            obtain ⟨rfl, rfl⟩ := h
            exact ⟨by rw [HM.out], Fr.refl _ _⟩) (fun V => ?_) ?_
          · go_simp
            first | done | rfl
          simp only [Act.put, List.setIfInBounds_toArray, List.set_cons_zero, List.set_cons_succ]
          refine M_val (i := 11) (v := .slice A8 m c8) SU.out rfl (by kernel_rfl) HS.out rfl (fun W hS => ?_) ?_
          · obtain ⟨x7, x8, y0, y1, y2, y3, y4, z0, z1, z2, z3, z4⟩ := HEE.out _ hS
            go_simp
            first | done | rfl | omega | (simp; done) | (simp; omega)
          simp only [Act.put, List.setIfInBounds_toArray, List.set_cons_zero, List.set_cons_succ]
          refine M_val (i := 12) (v := .int .i64 (m : Int)) SU.out rfl (by kernel_rfl) HS.out rfl (fun W hS => ?_) ?_
          · obtain ⟨x7, x8, y0, y1, y2, y3, y4, z0, z1, z2, z3, z4⟩ := HEE.out _ hS
            go_simp
            first | done | rfl | omega | (simp; done) | (simp; omega)
          simp only [Act.put, List.setIfInBounds_toArray, List.set_cons_zero, List.set_cons_succ]
          refine M_val (i := 13) (v := .bool false) SU.out rfl (by kernel_rfl) HS.out rfl (fun W hS => ?_) ?_
          · obtain ⟨x7, x8, y0, y1, y2, y3, y4, z0, z1, z2, z3, z4⟩ := HEE.out _ hS
            go_simp
            first | done | rfl | omega | (simp; done) | (simp; omega)
          simp only [Act.put, List.setIfInBounds_toArray, List.set_cons_zero, List.set_cons_succ]
          refine M_val (i := 14) (v := .bool false) SU.out rfl (by kernel_rfl) HS.out rfl (fun W hS => ?_) ?_
          · obtain ⟨x7, x8, y0, y1, y2, y3, y4, z0, z1, z2, z3, z4⟩ := HEE.out _ hS
            go_simp
            first | done | rfl | omega | (simp; done) | (simp; omega)
          simp only [Act.put, List.setIfInBounds_toArray, List.set_cons_zero, List.set_cons_succ]
          refine M_move (i := 15) _ SU.out rfl rfl (by kernel_rfl) HS.out rfl ?_
          simp only [Act.put, Act.eval, Array.getD_eq_getD_getElem?, List.setIfInBounds_toArray, List.set_cons_zero, List.set_cons_succ, List.getElem?_toArray, List.getElem?_cons_zero, List.getElem?_cons_succ, Option.getD_some]
          refine M_val (i := 16) (v := .pointer (some ⟨ga, 0, none⟩)) SU.out rfl (by kernel_rfl) HS.out rfl (fun W hS => ?_) ?_
          · obtain ⟨x7, x8, y0, y1, y2, y3, y4, z0, z1, z2, z3, z4⟩ := HEE.out _ hS
            go_simp
            first | done | rfl | omega | (simp; done) | (simp; omega)
          simp only [Act.put, List.setIfInBounds_toArray, List.set_cons_zero, List.set_cons_succ]
          refine M_call (i := 17) (v := .int .i64 (WA : Int)) SU.out rfl (by kernel_rfl) HS.out rfl (fun V hS => (weight_any (H14.out.grow hS).arr).mono fun e w' h => by
            obtain ⟨⟨W0, rfl, h2⟩, rfl⟩ := h
            exact ⟨by rw [h2, HWA.out.1], Fr.refl _ _⟩) (fun V => ?_) ?_
          · go_simp
            first | done | rfl
          simp only [Act.put, List.setIfInBounds_toArray, List.set_cons_zero, List.set_cons_succ]
          refine M_val (i := 18) (v := .slice A8 m c8) SU.out rfl (by kernel_rfl) HS.out rfl (fun W hS => ?_) ?_
          · obtain ⟨x7, x8, y0, y1, y2, y3, y4, z0, z1, z2, z3, z4⟩ := HEE.out _ hS
            go_simp
            first | done | rfl | omega | (simp; done) | (simp; omega)
          simp only [Act.put, List.setIfInBounds_toArray, List.set_cons_zero, List.set_cons_succ]
          refine M_call (i := 19) (v := .int .i64 (WA : Int)) SU.out rfl (by kernel_rfl) HS.out rfl (fun V hS => (weightP_any (v := .slice A8 m c8) (HV8.out ▸ (H14.out.grow hS).pr) (by have := HM.out; omega) HKP.out).mono fun e w' h => by
            obtain ⟨rfl, rfl⟩ := h
            exact ⟨by rw [HWA.out.2], Fr.refl _ _⟩) (fun V => ?_) ?_
          · go_simp
            first | done | rfl
          simp only [Act.put, List.setIfInBounds_toArray, List.set_cons_zero, List.set_cons_succ]
          refine M_val (i := 20) (v := .bool false) SU.out rfl (by kernel_rfl) HS.out rfl (fun W hS => ?_) ?_
          · obtain ⟨x7, x8, y0, y1, y2, y3, y4, z0, z1, z2, z3, z4⟩ := HEE.out _ hS
            go_simp
            first | done | rfl | omega | (simp; done) | (simp; omega)
          simp only [Act.put, List.setIfInBounds_toArray, List.set_cons_zero, List.set_cons_succ]
          refine M_val (i := 21) (v := .bool false) SU.out rfl (by kernel_rfl) HS.out rfl (fun W hS => ?_) ?_
          · obtain ⟨x7, x8, y0, y1, y2, y3, y4, z0, z1, z2, z3, z4⟩ := HEE.out _ hS
            go_simp
            first | done | rfl | omega | (simp; done) | (simp; omega)
          simp only [Act.put, List.setIfInBounds_toArray, List.set_cons_zero, List.set_cons_succ]
          refine wpAnyM_done (by kernel_rfl) (fun w15 hG => ?_)
          have H15 := Lib.hid (H14.out.grow (((Fr.refl [] w14).drew).trans hG))
          clear SU HS hG
          go_wp2_with fail
          go_roundw
          case rel => exact ⟨i + 1, es2, _, _, by go_num, by omega, H15.out, by omega, HKQ.out⟩
          case measure => first | (simp [intOf]; done) | (simp [intOf]; omega)
      · obtain rfl : i = n := by omega
        have x7 := (H73.out.fr HPL.out.fr (by have := HLT.out; simp; omega)).cell_ (i := 0) rfl
        obtain ⟨m, hm⟩ : ∃ m, m = (live es).length := ⟨_, rfl⟩
        have hles := live_le es
        rw [← hm] at hles
        have HM := Lib.hid hm; clear hm
        go_wp2_with fail
        go_at_call 18
        refine (keys_any HPL.out.arr (by omega)).mono ?_
        intro e w6 hp
        obtain ⟨BA, rfl, hBA1, hBA2, hf6, hcA⟩ := hp
        rw [← HM.out]
        have HF6 := Lib.hid hf6; have HCA := Lib.hid hcA
        clear hf6 hcA x7
        go_upto_region 31 with fail
        obtain ⟨b16, hb16⟩ : ∃ b16, b16 = w6.heap.size := ⟨_, rfl⟩
        obtain ⟨w7, hw7⟩ : ∃ w7, w7 = w6.alloc (.cells #[.slice (some ⟨BA, 0, none⟩) m m] 22) := ⟨_, rfl⟩
        have hx16 : Bk w7 b16 22 #[.slice (some ⟨BA, 0, none⟩) m m] := by rw [hw7, hb16]; exact Bk.new w6 _ _
        have hf7 : Fr [] w6 w7 := by rw [hw7]; exact (Fr.refl [] w6).alloc _
        have hs7 : w7.heap.size = w6.heap.size + 1 := by rw [hw7]; simp
        rw [← hw7, ← hb16]
        have hq7 := HPL.out.grow (HF6.out.trans hf7)
        obtain ⟨A8, c8, hv8⟩ := hq7.pr.form
        rw [← HM.out] at hv8
        have x16 : w7.cell? ⟨b16, 0, none⟩ = some (.slice (some ⟨BA, 0, none⟩) m m) := hx16.cell_ (i := 0) rfl
        have x8 : w7.cell? ⟨b8, 0, none⟩ = some (.slice A8 m c8) := by rw [← hv8]; exact hq7.bx8.cell_ (i := 0) rfl
        have HX16 := Lib.hid hx16; have HF7 := Lib.hid hf7; have HQ7 := Lib.hid hq7; have HV8 := Lib.hid hv8; have HBE16 := Lib.hid hb16; have HS7 := Lib.hid hs7
        clear hw7 hx16 hf7 hq7 hv8 hb16 hs7
        go_upto_region 34 with fail
        obtain ⟨b17, hb17⟩ : ∃ b17, b17 = w7.heap.size := ⟨_, rfl⟩
        obtain ⟨w8, hw8⟩ : ∃ w8, w8 = w7.alloc (.cells #[.int .i64 0] 3) := ⟨_, rfl⟩
        have hx17 : Bk w8 b17 3 #[.int .i64 0] := by rw [hw8, hb17]; exact Bk.new w7 _ _
        have hf8 : Fr [] w7 w8 := by rw [hw8]; exact (Fr.refl [] w7).alloc _
        have hs8 : w8.heap.size = w7.heap.size + 1 := by rw [hw8]; simp
        rw [← hw8, ← hb17]
        have HQ8 := Lib.hid (HQ7.out.grow hf8); have HX17 := Lib.hid hx17; have HF8 := Lib.hid hf8; have HBE17 := Lib.hid hb17; have HS8 := Lib.hid hs8
        clear hw8 hx17 hf8 x16 x8 hb17 hs8
        have x7 := (H73.out.fr HQ8.out.fr (by have := HLT.out; simp; omega)).cell_ (i := 0) rfl
        go_wp2_with fail
        go_at_call 26
        refine all_any.mono ?_
        rintro e w9 ⟨rfl, hw9⟩
        have hf9 : Fr [] w8 w9 := by rw [hw9]; exact (Fr.refl [] w8).alloc _
        have hbox : w9.cell? ⟨w8.heap.size, 0, none⟩ = some (.pointer (some ⟨ga, 0, none⟩)) := by rw [hw9]; exact (Bk.new w8 _ _).cell_ (i := 0) rfl
        have hbl : w8.heap.size < w9.heap.size := by rw [hw9]; simp
        obtain ⟨bx, hbx⟩ : ∃ bx, bx = w8.heap.size := ⟨_, rfl⟩
        rw [← hbx] at hbox hbl ⊢
        have hq9 := HQ8.out.grow hf9
        have hb16 := HBE16.out; have hb17 := HBE17.out; have hs7 := HS7.out; have hs8 := HS8.out
        have hdi : Dist es := by obtain ⟨mv, A', cap', D', W0', -, -, -, M, -, -⟩ := hq9.arr; exact M.dist
        have hlaw : ∀ b ∈ la, b < BA ∧ b < b16 ∧ b < b17 := fun b hb => by
          have h1 := HPL.out.arr.lt b hb
          have h2 := HF6.out.size
          omega
        have hla3 : ∀ b ∈ la, b ≠ b7 ∧ b ≠ b8 ∧ b ≠ br ∧ b ≠ b5 := fun b hb => by
          have h1 := HLT.out
          rcases hq9.own b hb with h | h
          · omega
          · omega
        have hb79 := H73.out.fr hq9.fr (by have := HLT.out; simp; omega)
        have hb59 := HB53.out.fr hq9.fr (by have := HLT.out; simp; omega)
        have hbr9 := HBR3.out.fr hq9.fr (by have := HLT.out; simp; omega)
        have hb169 := HX16.out.fr (HF8.out.trans hf9) (by simp)
        have hb179 := HX17.out.fr hf9 (by simp)
        have hBA9 : ∀ j (p : List UInt8 × CV), (live es)[j]? = some p → w9.cell? ⟨BA, j, none⟩ = some (.string ⟨p.1.toArray⟩) := fun j p hp => (((HF7.out.trans HF8.out).trans hf9).cell (p := ⟨BA, j, none⟩) hBA2 (by simp)).trans (HCA.out j p hp)
        have hBAl : BA < w9.heap.size := Nat.lt_of_lt_of_le hBA2 ((HF7.out.trans HF8.out).trans hf9).size
        have hfw9 : Fr [] w w9 := (HF3.out.trans' hq9.fr (fun b hb => by simp at hb; right; omega))
        have HQ9 := Lib.hid hq9; have HBOX := Lib.hid hbox; have HDI := Lib.hid hdi; have HLAW := Lib.hid hlaw; have HLA3 := Lib.hid hla3; have HB79 := Lib.hid hb79; have HB59 := Lib.hid hb59; have HBR9 := Lib.hid hbr9; have HB169 := Lib.hid hb169; have HB179 := Lib.hid hb179; have HBA9 := Lib.hid hBA9; have HFW9 := Lib.hid hfw9
        have h17n : b17 ≠ b5 ∧ b17 ≠ br ∧ b17 ≠ b7 ∧ b17 ≠ b8 ∧ b17 ≠ b16 ∧ b17 ≠ BA := by
          have h1 := HLT.out
          have h2 := HPL.out.fr.size
          have h3 := HF6.out.size
          omega
        have h17l : b17 < w9.heap.size := by omega
        have H17N := Lib.hid h17n
        have HKM : Hid (KeysOk maxLen es) := Lib.hid (keysOk_max HKS.out)
        clear hw9 hf9 hbx hq9 hbox hdi hlaw hla3 hb79 hb59 hbr9 hb169 hb179 hBA9 hfw9 h17n x7 hb16 hb17 hs7 hs8 hBA1 hBA2
        go_wp2_with fail
        skip --P2
        have h17w : w.heap.size ≤ b17 := by have h1 := HF3.out.size; have h2 := HPL.out.fr.size; have h3 := HF6.out.size; have h4 := HBE17.out; have h5 := HS7.out; omega
        have hlaw : ∀ b ∈ la, w.heap.size ≤ b := fun b hb => by
          rcases HPL.out.own b hb with h | h
          · omega
          · have h1 := HF3.out.size; omega
        have hcel : ∀ V, Fr (b17 :: la) w9 V → V.cell? ⟨b7, 0, none⟩ = some (.pointer (some ⟨ga, 0, none⟩)) ∧ Bk V b8 53 #[v8] ∧ V.cell? ⟨b5, 0, none⟩ = some (.int .i64 stop) ∧ V.cell? ⟨b16, 0, none⟩ = some (.slice (some ⟨BA, 0, none⟩) m m) ∧ PR V v8 (live es) ∧
            (∀ j (p : List UInt8 × CV), (live es)[j]? = some p → V.cell? ⟨BA, j, none⟩ = some (.string ⟨p.1.toArray⟩)) ∧ Bk V br 4 #[.bool false] := by
          intro V hV
          have h1 := H17N.out
          have n1 : ∀ b, b ≠ b17 → b ∉ la → b ∉ (b17 :: la) := fun b h1 h2 => by simp; exact ⟨h1, h2⟩
          refine ⟨(HB79.out.fr hV (n1 _ (by omega) (fun hm => (HLA3.out _ hm).1 rfl))).cell_ (i := 0) rfl, HQ9.out.bx8.fr hV (n1 _ (by omega) (fun hm => (HLA3.out _ hm).2.1 rfl)), (HB59.out.fr hV (n1 _ (by omega) (fun hm => (HLA3.out _ hm).2.2.2 rfl))).cell_ (i := 0) rfl,
            (HB169.out.fr hV (n1 _ (by omega) (fun hm => by have := (HLAW.out _ hm).2.1; omega))).cell_ (i := 0) rfl, HQ9.out.pr.fr hV (fun b hb => n1 _ ?_ (HQ9.out.blk b hb).1), fun j p hp => ?_, HBR9.out.fr hV (n1 _ (by omega) (fun hm => (HLA3.out _ hm).2.2.1 rfl))⟩
          · have h2 := HQ7.out.pr.lt b hb; have h3 := HBE17.out; omega
          · have hq1 : BA ∉ (b17 :: la) := n1 BA (by omega) (fun hm => by have := (HLAW.out _ hm).1; omega)
            exact (hV.cell (p := ⟨BA, j, none⟩) hBAl hq1).trans (HBA9.out j p hp)
        have HCEL := Lib.hid hcel; clear hcel
        refine wp_rangeAll (ba := bx) (ga := ga) (la := la) (es := es) rfl rfl HBOX.out HQ9.out.arr (by omega) hbl
          (fun St k W => PlI w9 ga b17 la es St k W)
          (fun St c W => c = .exit 3 ∧ PlX w9 b17 la St stop W) ?hI0 ?hfr ?hfx ?round ?done ?stop
        case hI0 => exact fun St W' hf hSt => PlI.start HQ9.out.arr HB179.out HKM.out (fun b hb => (HLAW.out b hb).2.2) hf (fun b hb => (hSt b hb).1)
        case hfr => exact fun St k W1 W2 h hf => h.fr h17l HQ9.out.arr.lt hf
        case hfx => exact fun St c W1 W2 h hf => ⟨h.1, h.2.fr_ h17l hf⟩
        case round =>
          rintro St l k ⟨kk, v⟩ W hl hSt hx ⟨la', es', hB, hel'⟩
          unfold CV.val
          dsimp only
          gi_wp2
          refine ⟨(Fr.refl [] W).alloc _, fun W2 hf2 => ?_⟩
          have hlW := hSt l hl
          have hB2 := (hB.fr_ h17l HQ9.out.arr.lt ((Fr.refl [] W).alloc (.cells #[.int .i64 v.k, .string ⟨v.s.toArray⟩, .bool v.n, .int .u64 v.h, .int .u64 v.l] 41)).nil_).fr_ h17l HQ9.out.arr.lt (hf2.mono (by simp; exact .inl hl))
          have hx19 := (Bk.new W 41 #[.int .i64 v.k, .string ⟨v.s.toArray⟩, .bool v.n, .int .u64 v.h, .int .u64 v.l]).fr hf2 (by simp; omega)
          have hSt2 : ∀ b ∈ St, b < W2.heap.size := fun b hb => by have h := (hSt b hb).2; have h' := hf2.size; simp at h'; omega
          obtain ⟨b19, hb19⟩ : ∃ b19, b19 = W.heap.size := ⟨_, rfl⟩
          rw [← hb19] at hx19 ⊢
          have hkl : kk.length ≤ maxLen := HKM.out _ (List.mem_of_getElem? hx)
          have hkm : k < m := by have := (List.getElem?_eq_some_iff.1 hx).1; rw [← HM.out] at this; exact this
          obtain ⟨x7, X8, x5, x16, hpr, hBA, -⟩ := HCEL.out W2 hB2.fr
          obtain ⟨B8, c8', hv8, hB8l, p0, p1, p2, p3, p4, p5⟩ := hpr.at_ hx
          rw [← HM.out] at hv8
          have x8 := X8.cell_ (i := 0) rfl
          rw [hv8] at x8
          have xk := hBA k _ hx
          have x17 := hB2.cnt.cell_ (i := 0) rfl
          have y0 := hx19.cell_ (i := 0) rfl; have y1 := hx19.cell_ (i := 1) rfl; have y2 := hx19.cell_ (i := 2) rfl; have y3 := hx19.cell_ (i := 3) rfl; have y4 := hx19.cell_ (i := 4) rfl
          dsimp only at p0 p1 p2 p3 p4 p5 xk
          have hkmI : (k : Int) < (m : Int) := by omega
          have HB2 := Lib.hid hB2; have HST2 := Lib.hid hSt2; have HELP := Lib.hid hel'; have HKL := Lib.hid hkl
          clear hB hB2 hx19 hSt2 hb19 hf2 hlW hx hpr hBA X8 hel' hkl hl hSt hv8
          gi_wp2
          refine wpIn_region_M_ (G := fun a b => a = b) (S := fun W => W = W2.drew) ⟨fun _ => rfl, fun a b c h k => h.trans k, fun a b h k => k ▸ h, by kernel_rfl, fun _ _ d _ _ h => by cases d <;> exact h⟩ (by kernel_rfl) (by kernel_rfl) (fun _ _ h => h) fun su => ?_
          have SU := Lib.hid su
          have HS : Hid (W2.drew = W2.drew) := Lib.hid rfl
          clear su
          refine M_val (i := 0) (v := .int .i64 (k : Int)) SU.out rfl (by kernel_rfl) HS.out rfl (fun W hS => ?_) ?_
          · obtain rfl := hS
            go_simp
            first | done | rfl | omega | (simp; done) | (simp; omega)
          simp only [Act.put, List.setIfInBounds_toArray, List.set_cons_zero, List.set_cons_succ]
          refine M_val (i := 1) (v := .slice (some ⟨B8, 0, none⟩) m c8') SU.out rfl (by kernel_rfl) HS.out rfl (fun W hS => ?_) ?_
          · obtain rfl := hS
            go_simp
            first | done | rfl | omega | (simp; done) | (simp; omega)
          simp only [Act.put, List.setIfInBounds_toArray, List.set_cons_zero, List.set_cons_succ]
          refine M_val (i := 2) (v := .int .i64 (m : Int)) SU.out rfl (by kernel_rfl) HS.out rfl (fun W hS => ?_) ?_
          · obtain rfl := hS
            go_simp
            first | done | rfl | omega | (simp; done) | (simp; omega)
          simp only [Act.put, List.setIfInBounds_toArray, List.set_cons_zero, List.set_cons_succ]
          refine M_val (i := 3) (v := .bool false) SU.out rfl (by kernel_rfl) HS.out rfl (fun W hS => ?_) ?_
          · obtain rfl := hS
            go_simp
            first | done | rfl | omega | (simp; done) | (simp; omega)
          simp only [Act.put, List.setIfInBounds_toArray, List.set_cons_zero, List.set_cons_succ]
          refine M_move (i := 4) _ SU.out rfl rfl (by kernel_rfl) HS.out rfl ?_
          simp only [Act.put, Act.eval, Array.getD_eq_getD_getElem?, List.setIfInBounds_toArray, List.set_cons_zero, List.set_cons_succ, List.getElem?_toArray, List.getElem?_cons_zero, List.getElem?_cons_succ, Option.getD_some]
          refine M_move (i := 5) _ SU.out rfl rfl (by kernel_rfl) HS.out rfl ?_
          simp only [Act.put, Act.eval, Array.getD_eq_getD_getElem?, List.setIfInBounds_toArray, List.set_cons_zero, List.set_cons_succ, List.getElem?_toArray, List.getElem?_cons_zero, List.getElem?_cons_succ, Option.getD_some]
          refine M_val (i := 6) (v := .slice (some ⟨B8, 0, none⟩) m c8') SU.out rfl (by kernel_rfl) HS.out rfl (fun W hS => ?_) ?_
          · obtain rfl := hS
            go_simp
            first | done | rfl | omega | (simp; done) | (simp; omega)
          simp only [Act.put, List.setIfInBounds_toArray, List.set_cons_zero, List.set_cons_succ]
          refine M_val (i := 7) (v := .int .i64 (k : Int)) SU.out rfl (by kernel_rfl) HS.out rfl (fun W hS => ?_) ?_
          · obtain rfl := hS
            go_simp
            first | done | rfl | omega | (simp; done) | (simp; omega)
          simp only [Act.put, List.setIfInBounds_toArray, List.set_cons_zero, List.set_cons_succ]
          refine M_val (i := 8) (v := .pointer (some ⟨B8, k * 6, none⟩)) SU.out rfl (by kernel_rfl) HS.out rfl (fun W hS => ?_) ?_
          · obtain rfl := hS
            go_simp
            first | done | rfl | omega | (simp; done) | (simp; omega)
          simp only [Act.put, List.setIfInBounds_toArray, List.set_cons_zero, List.set_cons_succ]
          refine M_val (i := 9) (v := .pointer (some ⟨B8, k * 6, none⟩)) SU.out rfl (by kernel_rfl) HS.out rfl (fun W hS => ?_) ?_
          · obtain rfl := hS
            go_simp
            first | done | rfl | omega | (simp; done) | (simp; omega)
          simp only [Act.put, List.setIfInBounds_toArray, List.set_cons_zero, List.set_cons_succ]
          refine M_val (i := 10) (v := .string ⟨kk.toArray⟩) SU.out rfl (by kernel_rfl) HS.out rfl (fun W hS => ?_) ?_
          · obtain rfl := hS
            go_simp
            first | done | rfl | omega | (simp; done) | (simp; omega)
          simp only [Act.put, List.setIfInBounds_toArray, List.set_cons_zero, List.set_cons_succ]
          refine M_val (i := 11) (v := .bool false) SU.out rfl (by kernel_rfl) HS.out rfl (fun W hS => ?_) ?_
          · obtain rfl := hS
            go_simp
            first | done | rfl | omega | (simp; done) | (simp; omega)
          simp only [Act.put, List.setIfInBounds_toArray, List.set_cons_zero, List.set_cons_succ]
          refine M_val (i := 12) (v := .bool false) SU.out rfl (by kernel_rfl) HS.out rfl (fun W hS => ?_) ?_
          · obtain rfl := hS
            go_simp
            first | done | rfl | omega | (simp; done) | (simp; omega)
          simp only [Act.put, List.setIfInBounds_toArray, List.set_cons_zero, List.set_cons_succ]
          refine M_move (i := 13) _ SU.out rfl rfl (by kernel_rfl) HS.out rfl ?_
          simp only [Act.put, Act.eval, Array.getD_eq_getD_getElem?, List.setIfInBounds_toArray, List.set_cons_zero, List.set_cons_succ, List.getElem?_toArray, List.getElem?_cons_zero, List.getElem?_cons_succ, Option.getD_some]
          refine M_val (i := 14) (v := .agg #[.int .i64 v.k, .string ⟨v.s.toArray⟩, .bool v.n, .int .u64 v.h, .int .u64 v.l]) SU.out rfl (by kernel_rfl) HS.out rfl (fun W hS => ?_) ?_
          · obtain rfl := hS
            go_simp
            first | done | rfl | omega | (simp; done) | (simp; omega)
          simp only [Act.put, List.setIfInBounds_toArray, List.set_cons_zero, List.set_cons_succ]
          refine M_val (i := 15) (v := .slice (some ⟨B8, 0, none⟩) m c8') SU.out rfl (by kernel_rfl) HS.out rfl (fun W hS => ?_) ?_
          · obtain rfl := hS
            go_simp
            first | done | rfl | omega | (simp; done) | (simp; omega)
          simp only [Act.put, List.setIfInBounds_toArray, List.set_cons_zero, List.set_cons_succ]
          refine M_val (i := 16) (v := .int .i64 (k : Int)) SU.out rfl (by kernel_rfl) HS.out rfl (fun W hS => ?_) ?_
          · obtain rfl := hS
            go_simp
            first | done | rfl | omega | (simp; done) | (simp; omega)
          simp only [Act.put, List.setIfInBounds_toArray, List.set_cons_zero, List.set_cons_succ]
          refine M_val (i := 17) (v := .pointer (some ⟨B8, k * 6, none⟩)) SU.out rfl (by kernel_rfl) HS.out rfl (fun W hS => ?_) ?_
          · obtain rfl := hS
            go_simp
            first | done | rfl | omega | (simp; done) | (simp; omega)
          simp only [Act.put, List.setIfInBounds_toArray, List.set_cons_zero, List.set_cons_succ]
          refine M_val (i := 18) (v := .pointer (some ⟨B8, k * 6 + 1, none⟩)) SU.out rfl (by kernel_rfl) HS.out rfl (fun W hS => ?_) ?_
          · obtain rfl := hS
            go_simp
            first | done | rfl | omega | (simp; done) | (simp; omega)
          simp only [Act.put, List.setIfInBounds_toArray, List.set_cons_zero, List.set_cons_succ]
          refine M_val (i := 19) (v := .agg #[.int .i64 v.k, .string ⟨v.s.toArray⟩, .bool v.n, .int .u64 v.h, .int .u64 v.l]) SU.out rfl (by kernel_rfl) HS.out rfl (fun W hS => ?_) ?_
          · obtain rfl := hS
            go_simp
            first | done | rfl | omega | (simp; done) | (simp; omega)
          simp only [Act.put, List.setIfInBounds_toArray, List.set_cons_zero, List.set_cons_succ]
          refine M_val (i := 20) (v := .bool false) SU.out rfl (by kernel_rfl) HS.out rfl (fun W hS => ?_) ?_
          · obtain rfl := hS
            go_simp
            first | done | rfl | omega | (simp; done) | (simp; omega)
          simp only [Act.put, List.setIfInBounds_toArray, List.set_cons_zero, List.set_cons_succ]
          refine M_val (i := 21) (v := .bool false) SU.out rfl (by kernel_rfl) HS.out rfl (fun W hS => ?_) ?_
          · obtain rfl := hS
            go_simp
            first | done | rfl | omega | (simp; done) | (simp; omega)
          simp only [Act.put, List.setIfInBounds_toArray, List.set_cons_zero, List.set_cons_succ]
          refine M_move (i := 22) _ SU.out rfl rfl (by kernel_rfl) HS.out rfl ?_
          simp only [Act.put, Act.eval, Array.getD_eq_getD_getElem?, List.setIfInBounds_toArray, List.set_cons_zero, List.set_cons_succ, List.getElem?_toArray, List.getElem?_cons_zero, List.getElem?_cons_succ, Option.getD_some]
          refine M_val (i := 23) (v := .slice (some ⟨BA, 0, none⟩) m m) SU.out rfl (by kernel_rfl) HS.out rfl (fun W hS => ?_) ?_
          · obtain rfl := hS
            go_simp
            first | done | rfl | omega | (simp; done) | (simp; omega)
          simp only [Act.put, List.setIfInBounds_toArray, List.set_cons_zero, List.set_cons_succ]
          refine M_val (i := 24) (v := .int .i64 (k : Int)) SU.out rfl (by kernel_rfl) HS.out rfl (fun W hS => ?_) ?_
          · obtain rfl := hS
            go_simp
            first | done | rfl | omega | (simp; done) | (simp; omega)
          simp only [Act.put, List.setIfInBounds_toArray, List.set_cons_zero, List.set_cons_succ]
          refine M_val (i := 25) (v := .pointer (some ⟨BA, k, none⟩)) SU.out rfl (by kernel_rfl) HS.out rfl (fun W hS => ?_) ?_
          · obtain rfl := hS
            go_simp
            first | done | rfl | omega | (simp; done) | (simp; omega)
          simp only [Act.put, List.setIfInBounds_toArray, List.set_cons_zero, List.set_cons_succ]
          refine M_val (i := 26) (v := .string ⟨kk.toArray⟩) SU.out rfl (by kernel_rfl) HS.out rfl (fun W hS => ?_) ?_
          · obtain rfl := hS
            go_simp
            first | done | rfl | omega | (simp; done) | (simp; omega)
          simp only [Act.put, List.setIfInBounds_toArray, List.set_cons_zero, List.set_cons_succ]
          refine M_move (i := 27) _ SU.out rfl rfl (by kernel_rfl) HS.out rfl ?_
          simp only [Act.put, Act.eval, Array.getD_eq_getD_getElem?, List.setIfInBounds_toArray, List.set_cons_zero, List.set_cons_succ, List.getElem?_toArray, List.getElem?_cons_zero, List.getElem?_cons_succ, Option.getD_some]
          refine M_val (i := 28) (v := .bool false) SU.out rfl (by kernel_rfl) HS.out rfl (fun W hS => ?_) ?_
          · obtain rfl := hS
            go_simp
            first | done | rfl | omega | (simp; done) | (simp; omega)
          simp only [Act.put, List.setIfInBounds_toArray, List.set_cons_zero, List.set_cons_succ]
          refine M_val (i := 29) (v := .bool false) SU.out rfl (by kernel_rfl) HS.out rfl (fun W hS => ?_) ?_
          · obtain rfl := hS
            go_simp
            first | done | rfl | omega | (simp; done) | (simp; omega)
          simp only [Act.put, List.setIfInBounds_toArray, List.set_cons_zero, List.set_cons_succ]
          refine wpAnyM_done (by kernel_rfl) (fun w' hG => ?_)
          obtain rfl := hG
          obtain ⟨W4, hW4⟩ : ∃ W4, W4 = W2.drew := ⟨_, rfl⟩
          rw [← hW4]
          have hfd : Fr [] W2 W4 := by rw [hW4]; exact (Fr.refl [] W2).drew
          have hB4 := HB2.out.fr_ h17l HQ9.out.arr.lt hfd.nil_
          have hst4 : ∀ b ∈ St, W4.heap[b]? = W2.heap[b]? := fun b hb => hfd.block b (HST2.out b hb) (by simp)
          have hlt4 : ∀ b ∈ St, b < W4.heap.size := fun b hb => Nat.lt_of_lt_of_le (HST2.out b hb) hfd.size
          have HB4 := Lib.hid hB4; have HST4 := Lib.hid hst4; have HLT4 := Lib.hid hlt4
          clear hW4 hfd hB4 hst4 hlt4 x7 x5 x16 p0 p1 p2 p3 p4 p5 x8 xk x17 y0 y1 y2 y3 y4
          have x7 := (HCEL.out W4 HB4.out.fr).1
          gi_wp2
          refine ⟨trivial, ?_⟩
          refine (CallsIn.inRound l (callsIn_wide.2 (drop_any HB4.out.arr kk HKL.out (by have := HELP.out; omega) HB4.out.keys))).mono ?_
          rintro e W5 ⟨rfl, hpost⟩
          obtain ⟨⟨l5, hB5⟩, hst5, hlt5⟩ := HB4.out.step h17l HQ9.out.arr.lt (HB4.out.keys.drop kk) HLT4.out hpost
          have hlen5 := dropC_len es' kk
          have HB5 := Lib.hid hB5; have HST5 := Lib.hid hst5; have HLT5 := Lib.hid hlt5
          clear hpost hB5 hst5 hlt5 x7
          have x7 := (HCEL.out W5 HB5.out.fr).1
          gi_wp2
          refine ⟨trivial, ?_⟩
          refine (CallsIn.inRound l (callsIn_wide.2 (set_any HB5.out.arr [110, 101, 119] CV.zero (by unfold maxLen; simp) (by have := HELP.out; omega)))).mono ?_
          rintro e W6 ⟨rfl, hpost⟩
          obtain ⟨⟨l6, hB6⟩, hst6, hlt6⟩ := HB5.out.step h17l HQ9.out.arr.lt (HB5.out.keys.set [110, 101, 119] CV.zero (by unfold maxLen; simp)) HLT5.out hpost
          have hlen6 := setE_len (dropC es' kk) [110, 101, 119] CV.zero
          have hB7 := hB6.count h17l ((k : Int) + 1)
          have x17 := hB6.cnt.cell_ (i := 0) rfl
          have f17 := hB6.cnt.frozen 0
          have x5 := (HCEL.out W6 hB6.fr).2.2.1
          have hn5 : b5 ≠ b17 := by have := H17N.out; omega
          have HB7 := Lib.hid hB7; have HST6 := Lib.hid hst6; have HLN6 := Lib.hid hlen6; have HLN5 := Lib.hid hlen5
          clear hpost hB6 hB7 hst6 hlt6 x7 hlen6 hlen5
          have hfs : ∀ b ∈ St, (W6.setCell ⟨b17, 0, none⟩ (.int .i64 ((k : Int) + 1))).heap[b]? = W2.heap[b]? := fun b hb => (((HB7.out.2 b hb).trans (HST6.out b hb)).trans (HST5.out b hb)).trans (HST4.out b hb)
          have HFS := Lib.hid hfs
          clear hfs
          by_cases hsp : (k : Int) + 1 = stop
          · have g1 : ((k : Int) + 1 == stop) = true := by rw [hsp]; simp
            clear hsp
            gi_wp2
            skip --P3
            have hsp : (k : Int) + 1 = stop := by simpa using g1
            exact ⟨HFS.out, rfl, HB7.out.1.fr, HB7.out.1.st, by rw [← hsp]; exact HB7.out.1.cnt⟩
          · have g1 : ((k : Int) + 1 == stop) = false := beq_eq_false_iff_ne.2 hsp
            clear hsp
            gi_wp2
            refine ⟨HFS.out, _, _, ⟨HB7.out.1.arr, HB7.out.1.keys, HB7.out.1.own, HB7.out.1.fr, HB7.out.1.st, ?_, HB7.out.1.nin⟩, by have h1 := HLN6.out; have h2 := HLN5.out; have h3 := HELP.out; omega⟩
            rw [show (((k + 1 : Nat)) : Int) = (k : Int) + 1 by omega]
            exact HB7.out.1.cnt
        case done =>
          rintro D St w10 hD hSt ⟨la', es', hB, -⟩ hd
          obtain ⟨-, X8, x5, -, -, -, hbr10⟩ := HCEL.out w10 hB.fr
          have hcnt := hB.cnt
          rw [← HM.out] at hcnt
          have x17 := hcnt.cell_ (i := 0) rfl
          have hFRX := hB.fr
          clear hB hcnt
          have hDw : w9.heap.size ≤ D := hSt D hD
          have hDbr : D ≠ br := by have := HBR9.out.lt; omega
          have hDg : w.heap.size ≤ D := by have := HFW9.out.size; omega
          have hfw10 : Fr [] w w10 := HFW9.out.trans' hFRX (fun b hb => by
            right
            rcases List.mem_cons.1 hb with rfl | hb
            · exact h17w
            · exact hlaw b hb)
          have HBR10 := Lib.hid hbr10; have HFW10 := Lib.hid hfw10; have HDD := Lib.hid hd
          have y0 := hbr10.cell_ (i := 0) rfl
          have z0 := hbr10.frozen 0
          have x8 : w10.cell? ⟨b8, 0, none⟩ = some (.slice A8 m c8) := by rw [← HV8.out]; exact X8.cell_ (i := 0) rfl
          have hb58 : b5 ≠ br ∧ b8 ≠ br ∧ b17 ≠ br := by have := HLT.out; have := H17N.out; omega
          obtain ⟨hn1, hn2, hn3⟩ := hb58
          clear X8 hbr10 hfw10 hd hSt
          clear hFRX
          go_wp2_with fail
          skip --P4
          have hb5 := HBR10.out.put 0 (.bool true)
          have hd5 : (w10.setCell ⟨br, 0, none⟩ (.bool true)).heap[D]? = some (.deferred (some [])) := (((Fr.refl [br] w10).setCell (.inl (by simp)) (.bool true)).block D (Array.getElem?_eq_some_iff.1 HDD.out).1 (by simpa using hDbr)).trans HDD.out
          have hb6 := hb5.fr (fr_put (l := D) (.deferred none)) (by simpa using hDbr.symm)
          have r6 := hb6.cell_ (i := 0) rfl
          have hfin : Fr [] w ((w10.setCell ⟨br, 0, none⟩ (.bool true)).putObj D (.deferred none)) := (HFW10.out.setCell (.inr hbrw) _).trans' (fr_put (l := D) _) (by simp; exact hDg)
          refine ⟨by simp, .inl ⟨_, _, rfl, run_takeDeferred hd5, ⟨.bool true, ?_, rfl, hfin.below_nil⟩⟩⟩
          simp [results, Try.results5, go_sem, r6]
        case stop =>
          rintro D c St w10 hD hSt ⟨rfl, hX⟩ hd
          obtain ⟨-, X8, x5, -, -, -, hbr10⟩ := HCEL.out w10 hX.fr
          have x17 := hX.cnt.cell_ (i := 0) rfl
          have hFRX := hX.fr
          clear hX
          have hDw : w9.heap.size ≤ D := hSt D hD
          have hDbr : D ≠ br := by have := HBR9.out.lt; omega
          have hDg : w.heap.size ≤ D := by have := HFW9.out.size; omega
          have hfw10 : Fr [] w w10 := HFW9.out.trans' hFRX (fun b hb => by
            right
            rcases List.mem_cons.1 hb with rfl | hb
            · exact h17w
            · exact hlaw b hb)
          have HBR10 := Lib.hid hbr10; have HFW10 := Lib.hid hfw10; have HDD := Lib.hid hd
          have y0 := hbr10.cell_ (i := 0) rfl
          have z0 := hbr10.frozen 0
          have x8 : w10.cell? ⟨b8, 0, none⟩ = some (.slice A8 m c8) := by rw [← HV8.out]; exact X8.cell_ (i := 0) rfl
          have hb58 : b5 ≠ br ∧ b8 ≠ br ∧ b17 ≠ br := by have := HLT.out; have := H17N.out; omega
          obtain ⟨hn1, hn2, hn3⟩ := hb58
          clear X8 hbr10 hfw10 hd hSt
          clear hFRX
          by_cases hsm : stop = (m : Int)
          · subst hsm
            go_wp2_with fail
            skip --P5
            have hb5 := HBR10.out.put 0 (.bool true)
            have hd5 : (w10.setCell ⟨br, 0, none⟩ (.bool true)).heap[D]? = some (.deferred (some [])) := (((Fr.refl [br] w10).setCell (.inl (by simp)) (.bool true)).block D (Array.getElem?_eq_some_iff.1 HDD.out).1 (by simpa using hDbr)).trans HDD.out
            have hb6 := hb5.fr (fr_put (l := D) (.deferred none)) (by simpa using hDbr.symm)
            have r6 := hb6.cell_ (i := 0) rfl
            have hfin : Fr [] w ((w10.setCell ⟨br, 0, none⟩ (.bool true)).putObj D (.deferred none)) := (HFW10.out.setCell (.inr hbrw) _).trans' (fr_put (l := D) _) (by simp; exact hDg)
            refine ⟨by simp, .inl ⟨_, _, rfl, run_takeDeferred hd5, ⟨.bool true, ?_, rfl, hfin.below_nil⟩⟩⟩
            simp [results, Try.results5, go_sem, r6]
          · have g1 : (stop == (m : Int)) = false := beq_eq_false_iff_ne.2 hsm
            go_wp2_with fail
            have hb5 := HBR10.out.put 0 (.bool true)
            have hd5 : (w10.setCell ⟨br, 0, none⟩ (.bool true)).heap[D]? = some (.deferred (some [])) := (((Fr.refl [br] w10).setCell (.inl (by simp)) (.bool true)).block D (Array.getElem?_eq_some_iff.1 HDD.out).1 (by simpa using hDbr)).trans HDD.out
            have hb6 := hb5.fr (fr_put (l := D) (.deferred none)) (by simpa using hDbr.symm)
            have r6 := hb6.cell_ (i := 0) rfl
            have hfin : Fr [] w ((w10.setCell ⟨br, 0, none⟩ (.bool true)).putObj D (.deferred none)) := (HFW10.out.setCell (.inr hbrw) _).trans' (fr_put (l := D) _) (by simp; exact hDg)
            refine ⟨by simp, .inl ⟨_, _, rfl, run_takeDeferred hd5, ⟨.bool true, ?_, rfl, hfin.below_nil⟩⟩⟩
            simp [results, Try.results5, go_sem, r6]
end Go.Proofs.Ytfabmbemdaelcaa.C
namespace Go.Proofs.Ytfabmbemdaelcaa
open Go.RowKit Go.ChangeShapes Go.WideShapes Go.ChangeAt Go.Maps Go.Deep
theorem assocPlays_open {H : Type} {enc : TypeId × Value → H} (W : World) (base : Nat) (v0 : Value) (d0 : DataW H) (p0 : List MemPlace) (v1 : Value) (d1 : DataW H) (p1 : List MemPlace) (v2 : Value) (d2 : DataW H) (p2 : List MemPlace)
    (k0 : Value.okWide Try.prog W .any base 36 v0) (k1 : Value.okWide Try.prog W .any base 9 v1) (k2 : Value.okWide Try.prog W .any base 3 v2)
    (h0 : DataW.Trod enc Try.prog W 0 (fun _ => true) true 36 v0 d0 p0) (h1 : DataW.Trod enc Try.prog W 0 (fun _ => true) true 9 v1 d1 p1) (h2 : DataW.Trod enc Try.prog W 0 (fun _ => true) true 3 v2 d2 p2) :
    Calls Try.prog 5 #[v0, v1, v2] W fun e W' => e = .returned (.bool true) ∧ Below W.heap.size W W' := by
  obtain ⟨A, n, c, K, S, V, rfl, hn, hact⟩ := C.actc_open k0 h0
  obtain ⟨key, rfl, hk⟩ := arg_strL k1 h1
  obtain ⟨stop, rfl, -⟩ := arg_int Try.underlying3 k2 h2
  exact C.plays_walk hact hn key hk stop
end Go.Proofs.Ytfabmbemdaelcaa
