/-
  The walk of NetOrder. No conditions. (Printed by tools/genno.py.)
-/
import Derived.Test.YtedcheicnaphmaaNoA
namespace Go.Proofs.Ytedcheicnaphmaa
open Go.RowKit Go.ChangeShapes Go.WideShapes Go.ChangeAt Go.Deep
set_option linter.unusedVariables false
set_option linter.unusedSimpArgs false

/-- A change in a block that no net has. -/
theorem NetS.other {w w' : World} {B n : Nat} {now : Int} {ws : List Wr} (h : NetS w B n now ws) {g : Nat} {t : TypeId} {cs : Array Value} (hb : Bk w g t cs) (h1 : t ≠ 5) (h2 : t ≠ 58) (h3 : t ≠ 60) (h4 : t ≠ 57) (hf : Fr [g] w w') : NetS w' B n now ws := by
  obtain ⟨v, G, IV, GV, h⟩ := h
  have ow : ∀ (u : Value) (ys : List Value), Own w 5 u ys → Own w' 5 u ys := fun u ys ho => ho.fr hf (fun b hb' => by have := ho.ne_bk hb (Ne.symm h1); simp; rintro rfl; exact this hb')
  exact ⟨v, G, IV, GV, { h with net := h.net.fr hf (by simpa using (Bk.ne_ h.net hb (Ne.symm h4))), row := h.row.fr hf (fun b hb' => by have := h.row.ne_bk hb (Ne.symm h2); simp; rintro rfl; exact this hb'), wire := fun i hi => (h.wire i hi).fr hf (by simpa using (Bk.ne_ (h.wire i hi) hb (Ne.symm h3))), inn := fun i hi => ow _ _ (h.inn i hi), got := fun i hi => ow _ _ (h.got i hi) }⟩
/-- Where the first loop stands. -/
structure NoS (w0 : World) (B bS bR bT i : Nat) (ws : List Wr) (S R T : List (List UInt8)) (wr : World) : Prop where
  ord : OrdI i ws S R T
  net : ∃ now, 0 ≤ now ∧ now ≤ 1099511627776 ∧ NetS wr B B now ws
  ss : Strs wr bS S
  rr : Strs wr bR R
  tt : Strs wr bT T
  bel : Below w0.heap.size w0 wr
  bb : B ≤ wr.heap.size
  n1 : bS ≠ bR
  n2 : bS ≠ bT
  n3 : bR ≠ bT
  l1 : w0.heap.size ≤ bS
  l2 : w0.heap.size ≤ bR
  l3 : w0.heap.size ≤ bT
def NoRel (w0 : World) (B bS bR bT n : Nat) (v7 : Value) (wr : World) : Prop := ∃ (i : Nat) (ws : List Wr) (S R T : List (List UInt8)), v7 = .int .i64 (i : Int) ∧ i ≤ n ∧ NoS w0 B bS bR bT i ws S R T wr
/-- An act of the net, or new blocks. -/
theorem NoS.act {w0 wr w' : World} {B bS bR bT i : Nat} {ws : List Wr} {S R T : List (List UInt8)} (h : NoS w0 B bS bR bT i ws S R T wr) {i' : Nat} {ws' : List Wr} (hB : B ≤ wr.heap.size) (hB0 : w0.heap.size ≤ B) (hf : NFr B wr w') (hn : ∃ now, 0 ≤ now ∧ now ≤ 1099511627776 ∧ NetS w' B B now ws') (ho : OrdI i' ws' S R T) : NoS w0 B bS bR bT i' ws' S R T w' :=
  { h with ord := ho, net := hn, ss := h.ss.nfr hf, rr := h.rr.nfr hf, tt := h.tt.nfr hf, bel := h.bel.trans ((hf.below hB).mono hB0), bb := Nat.le_trans hB hf.size }
/-- A store into one of the three lists, behind an act. -/
theorem NoS.keep {w0 wr w' : World} {B bS bR bT i : Nat} {ws : List Wr} {S R T : List (List UInt8)} (h : NoS w0 B bS bR bT i ws S R T wr) (hB0 : w0.heap.size ≤ B) {ws' : List Wr} (hf : NFr B wr w') (hn : ∃ now, 0 ≤ now ∧ now ≤ 1099511627776 ∧ NetS w' B B now ws') :
    Strs w' bS S ∧ Strs w' bR R ∧ Strs w' bT T ∧ Below w0.heap.size w0 w' ∧ B ≤ w'.heap.size :=
  ⟨h.ss.nfr hf, h.rr.nfr hf, h.tt.nfr hf, h.bel.trans ((hf.below h.bb).mono hB0), Nat.le_trans h.bb hf.size⟩
theorem NoS.putS {w0 wr w' : World} {B bS bR bT i : Nat} {ws : List Wr} {S R T : List (List UInt8)} (h : NoS w0 B bS bR bT i ws S R T wr) (hB0 : w0.heap.size ≤ B) {ws' : List Wr} (hf : NFr B wr w') (hn : ∃ now, 0 ≤ now ∧ now ≤ 1099511627776 ∧ NetS w' B B now ws') (j : Nat) (s : List UInt8) (ho : OrdI (i + 1) ws' (S.set j s) R T) :
    NoS w0 B bS bR bT (i + 1) ws' (S.set j s) R T (w'.setCell ⟨bS, j, none⟩ (.string ⟨s.toArray⟩)) := by
  obtain ⟨k1, k2, k3, k4, k5⟩ := h.keep hB0 hf hn
  obtain ⟨now, q0, q1, hs⟩ := hn
  have hfr : Fr [bS] w' (w'.setCell ⟨bS, j, none⟩ (.string ⟨s.toArray⟩)) := (Fr.refl _ _).setCell (.inl (by simp)) _
  exact ⟨ho, ⟨now, q0, q1, hs.other k1 (by decide) (by decide) (by decide) (by decide) hfr⟩, k1.put j s, Bk.fr k2 hfr (by simpa using Ne.symm h.n1), Bk.fr k3 hfr (by simpa using Ne.symm h.n2), k4.setCell h.l1 _, by simpa using k5, h.n1, h.n2, h.n3, h.l1, h.l2, h.l3⟩
theorem NoS.putR {w0 wr w' : World} {B bS bR bT i : Nat} {ws : List Wr} {S R T : List (List UInt8)} (h : NoS w0 B bS bR bT i ws S R T wr) (hB0 : w0.heap.size ≤ B) {ws' : List Wr} (hf : NFr B wr w') (hn : ∃ now, 0 ≤ now ∧ now ≤ 1099511627776 ∧ NetS w' B B now ws') (j : Nat) (s : List UInt8) (ho : OrdI (i + 1) ws' S (R.set j s) T) :
    NoS w0 B bS bR bT (i + 1) ws' S (R.set j s) T (w'.setCell ⟨bR, j, none⟩ (.string ⟨s.toArray⟩)) := by
  obtain ⟨k1, k2, k3, k4, k5⟩ := h.keep hB0 hf hn
  obtain ⟨now, q0, q1, hs⟩ := hn
  have hfr : Fr [bR] w' (w'.setCell ⟨bR, j, none⟩ (.string ⟨s.toArray⟩)) := (Fr.refl _ _).setCell (.inl (by simp)) _
  exact ⟨ho, ⟨now, q0, q1, hs.other k2 (by decide) (by decide) (by decide) (by decide) hfr⟩, Bk.fr k1 hfr (by simpa using h.n1), k2.put j s, Bk.fr k3 hfr (by simpa using Ne.symm h.n3), k4.setCell h.l2 _, by simpa using k5, h.n1, h.n2, h.n3, h.l1, h.l2, h.l3⟩
theorem NoS.putT {w0 wr w' : World} {B bS bR bT i : Nat} {ws : List Wr} {S R T : List (List UInt8)} (h : NoS w0 B bS bR bT i ws S R T wr) (hB0 : w0.heap.size ≤ B) {ws' : List Wr} (hf : NFr B wr w') (hn : ∃ now, 0 ≤ now ∧ now ≤ 1099511627776 ∧ NetS w' B B now ws') (j : Nat) (s : List UInt8) (ho : OrdI (i + 1) ws' S R (T.set j s)) :
    NoS w0 B bS bR bT (i + 1) ws' S R (T.set j s) (w'.setCell ⟨bT, j, none⟩ (.string ⟨s.toArray⟩)) := by
  obtain ⟨k1, k2, k3, k4, k5⟩ := h.keep hB0 hf hn
  obtain ⟨now, q0, q1, hs⟩ := hn
  have hfr : Fr [bT] w' (w'.setCell ⟨bT, j, none⟩ (.string ⟨s.toArray⟩)) := (Fr.refl _ _).setCell (.inl (by simp)) _
  exact ⟨ho, ⟨now, q0, q1, hs.other k3 (by decide) (by decide) (by decide) (by decide) hfr⟩, Bk.fr k1 hfr (by simpa using h.n2), Bk.fr k2 hfr (by simpa using h.n3), k3.put j s, k4.setCell h.l3 _, by simpa using k5, h.n1, h.n2, h.n3, h.l1, h.l2, h.l3⟩
def strE : Array Value := (strVals (List.replicate 100 [])).toArray
theorem mk_strs (W : World) : (Instr.makeSlice 47 (.int .i64 100) (.int .i64 100)).run Try.prog W = .ok (.slice (some ⟨W.heap.size, 0, none⟩) 100 100) (W.alloc (.cells strE 9)) := by
  obtain ⟨i, hi, hz, hs, hb⟩ := (show ∃ i, Try.prog.info? 9 = some i ∧ i.zero = some (.string ByteArray.empty) ∧ i.size = 1 ∧ i.bytes = 16 from info_parts (by kernel_rfl))
  have h := run_make (P := Try.prog) (w := W) 47 9 i _ Try.underlying47 hi hz .i64 .i64 100 100 (by decide) (by decide) (by rw [hb]; decide) (by decide)
  rw [hs] at h
  have e1 : Int.toNat 100 = 100 := rfl
  have e2 : madeCells (Value.string ByteArray.empty).cells (100 * 1) = strE := by kernel_rfl
  rw [e1, e2] at h
  exact h
set_option maxRecDepth 100000 in
set_option maxHeartbeats 16000000 in
theorem order_walk {w : World} {A : Option Addr} {n c : Nat} {K : Nat → NA} (h : ActsN w A n K) (hn : n ≤ maxLen) :
    Calls Try.prog 5 #[.slice A n c] w fun e w' => e = .returned (.bool true) ∧ Below w.heap.size w w' := by
  have HACT := Lib.hid h; have HNN := Lib.hid hn
  clear h hn
  go_enter Try.func5, Try.ntmps5
  go_wp2_with fail
  go_at_call 7
  refine (awake_any w).mono ?_
  rintro e w1 ⟨rfl, hf1⟩
  have HF1 := Lib.hid hf1; clear hf1
  go_wp2_with fail
  go_at_call 15
  refine (few_any (HACT.out.fr HF1.out) HNN.out).mono ?_
  intro e w1' hp
  obtain ⟨r, rfl, rfl, hr⟩ := hp
  cases r with
  | false =>
    go_wp2_with fail
    go_ret
    exact ⟨rfl, HF1.out.below_nil⟩
  | true =>
    obtain ⟨hn80, hs80⟩ := hr rfl
    have HS80 := Lib.hid hs80
    clear hr hs80
    go_wp2_with fail
    go_at_call 8
    refine (new_any _).mono ?_
    rintro e w2 ⟨rfl, hw2⟩
    have hs2 : NetS w2 w1'.heap.size w1'.heap.size 0 [] := by rw [hw2]; exact net_new (Nat.le_refl _)
    have hf2 : Fr [] w w2 := by rw [hw2]; exact HF1.out.alloc _
    have hB2 : w1'.heap.size ≤ w2.heap.size := by rw [hw2]; simp
    have hB0 : w.heap.size ≤ w1'.heap.size := HF1.out.size
    have HS2 := Lib.hid hs2; have HF2 := Lib.hid hf2
    clear hw2 hs2 hf2 HF1
    generalize w1'.heap.size = B at *
    go_upto_region 6 with fail
    go_cut [4, 5, 6] from 7 (fun v4 v5 v6 wx => ∃ bS bR bT, v4 = .slice (some ⟨bS, 0, none⟩) 100 100 ∧ v5 = .slice (some ⟨bR, 0, none⟩) 100 100 ∧ v6 = .slice (some ⟨bT, 0, none⟩) 100 100 ∧ NoS w B bS bR bT 0 [] (List.replicate 100 []) (List.replicate 100 []) (List.replicate 100 []) wx)
    case first =>
      have fin : ∀ (a b c' : Nat), a ≠ b → a ≠ c' → b ≠ c' → w.heap.size ≤ a → w.heap.size ≤ b → w.heap.size ≤ c' → ∀ W, Fr [] w2 W → Bk W a 9 strE → Bk W b 9 strE → Bk W c' 9 strE → NoS w B a b c' 0 [] (List.replicate 100 []) (List.replicate 100 []) (List.replicate 100 []) W :=
        fun a b c' h1 h2 h3 l1 l2 l3 W hf e1 e2 e3 => ⟨OrdI.start, ⟨0, by omega, by omega, HS2.out.fr_nil hf⟩, e1, e2, e3, (HF2.out.trans hf).below_nil, Nat.le_trans hB2 hf.size, h1, h2, h3, l1, l2, l3⟩
      as_aux_lemma =>
        have FIN := Lib.hid fin
        have hsz : w.heap.size ≤ w2.heap.size := HF2.out.size
        have mk := mk_strs
        clear fin
        generalize strE = E at *
        refine wp_region_M_ (G := fun a b => a = b) (S := fun _ => True) ⟨fun _ => rfl, fun a b c h k => h.trans k, fun a b h k => trivial, by kernel_rfl, fun _ _ d _ _ h => by cases d <;> exact h⟩ (by kernel_rfl) fun su => ?_
        have SU := Lib.hid su
        have HS : Hid True := Lib.hid trivial
        clear su
        refine wpAnyM_all (rs := [0, 1, 2]) (by kernel_rfl) (by simp) (fun w' hG => ?_)
        obtain rfl := hG
        refine allM.head rfl rfl (fun Ka hKa => ?_) <| allM.head rfl rfl (fun Ka hKa => ?_) <| allM.head rfl rfl (fun Ka hKa => ?_) <| allM.nil
        · go_simp
          refine hKa.out _ _ trivial ?_
          clear hKa Ka
          refine M_val (i := 3) (v := ?_) SU.out rfl (by kernel_rfl) trivial rfl (fun W hS => ?_) ?_
          rotate_left
          · go_simp
            first | done | rfl
          simp only [Act.put, Act.eval, Array.getD_eq_getD_getElem?, List.setIfInBounds_toArray, List.set_cons_zero, List.set_cons_succ, List.getElem?_toArray, List.getElem?_cons_zero, List.getElem?_cons_succ, Option.getD_some]
          refine wpAnyM_all (rs := [1, 2]) (by kernel_rfl) (by simp) (fun w' hG => ?_)
          obtain rfl := hG
          refine allM.head rfl rfl (fun Ka hKa => ?_) <| allM.head rfl rfl (fun Ka hKa => ?_) <| allM.nil
          · go_simp
            refine hKa.out _ _ trivial ?_
            clear hKa Ka
            refine M_val (i := 4) (v := ?_) SU.out rfl (by kernel_rfl) trivial rfl (fun W hS => ?_) ?_
            rotate_left
            · go_simp
              first | done | rfl
            simp only [Act.put, Act.eval, Array.getD_eq_getD_getElem?, List.setIfInBounds_toArray, List.set_cons_zero, List.set_cons_succ, List.getElem?_toArray, List.getElem?_cons_zero, List.getElem?_cons_succ, Option.getD_some]
            refine wpAnyM_all (rs := [2]) (by kernel_rfl) (by simp) (fun w' hG => ?_)
            obtain rfl := hG
            refine allM.head rfl rfl (fun Ka hKa => ?_) <| allM.nil
            · go_simp
              refine hKa.out _ _ trivial ?_
              clear hKa Ka
              refine M_val (i := 5) (v := ?_) SU.out rfl (by kernel_rfl) trivial rfl (fun W hS => ?_) ?_
              rotate_left
              · go_simp
                first | done | rfl
              simp only [Act.put, Act.eval, Array.getD_eq_getD_getElem?, List.setIfInBounds_toArray, List.set_cons_zero, List.set_cons_succ, List.getElem?_toArray, List.getElem?_cons_zero, List.getElem?_cons_succ, Option.getD_some]
              refine wpAnyM_done (by kernel_rfl) (fun w' hG => ?_)
              obtain rfl := hG
              go_wp2_with fail
              go_meet
              case rel =>
                refine ⟨_, _, _, rfl, rfl, rfl, FIN.out _ _ _ ?_ ?_ ?_ ?_ ?_ ?_ _ ((((Fr.refl [] w2).alloc _).alloc _).alloc _).drew ?_ ?_ ?_⟩
                iterate 6 (· first | omega | (simp; done) | (simp; omega))
                · have h := ((Bk.new w2 9 E).alloc (.cells E 9)).alloc (.cells E 9)
                  refine Bk.drew ?_
                  simpa using h
                · have h := (Bk.new (w2.alloc (.cells E 9)) 9 E).alloc (.cells E 9)
                  refine Bk.drew ?_
                  simpa using h
                · have h := Bk.new ((w2.alloc (.cells E 9)).alloc (.cells E 9)) 9 E
                  refine Bk.drew ?_
                  simpa using h
          · go_simp
            refine hKa.out _ _ trivial ?_
            clear hKa Ka
            refine wpAnyM_all (rs := [1]) (by kernel_rfl) (by simp) (fun w' hG => ?_)
            obtain rfl := hG
            refine allM.head rfl rfl (fun Ka hKa => ?_) <| allM.nil
            · go_simp
              refine hKa.out _ _ trivial ?_
              clear hKa Ka
              refine M_val (i := 4) (v := ?_) SU.out rfl (by kernel_rfl) trivial rfl (fun W hS => ?_) ?_
              rotate_left
              · go_simp
                first | done | rfl
              simp only [Act.put, Act.eval, Array.getD_eq_getD_getElem?, List.setIfInBounds_toArray, List.set_cons_zero, List.set_cons_succ, List.getElem?_toArray, List.getElem?_cons_zero, List.getElem?_cons_succ, Option.getD_some]
              refine M_val (i := 5) (v := ?_) SU.out rfl (by kernel_rfl) trivial rfl (fun W hS => ?_) ?_
              rotate_left
              · go_simp
                first | done | rfl
              simp only [Act.put, Act.eval, Array.getD_eq_getD_getElem?, List.setIfInBounds_toArray, List.set_cons_zero, List.set_cons_succ, List.getElem?_toArray, List.getElem?_cons_zero, List.getElem?_cons_succ, Option.getD_some]
              refine wpAnyM_done (by kernel_rfl) (fun w' hG => ?_)
              obtain rfl := hG
              go_wp2_with fail
              go_meet
              case rel =>
                refine ⟨_, _, _, rfl, rfl, rfl, FIN.out _ _ _ ?_ ?_ ?_ ?_ ?_ ?_ _ ((((Fr.refl [] w2).alloc _).alloc _).alloc _).drew ?_ ?_ ?_⟩
                iterate 6 (· first | omega | (simp; done) | (simp; omega))
                · have h := ((Bk.new w2 9 E).alloc (.cells E 9)).alloc (.cells E 9)
                  refine Bk.drew ?_
                  simpa using h
                · have h := Bk.new ((w2.alloc (.cells E 9)).alloc (.cells E 9)) 9 E
                  refine Bk.drew ?_
                  simpa using h
                · have h := (Bk.new (w2.alloc (.cells E 9)) 9 E).alloc (.cells E 9)
                  refine Bk.drew ?_
                  simpa using h
        · go_simp
          refine hKa.out _ _ trivial ?_
          clear hKa Ka
          refine wpAnyM_all (rs := [0, 2]) (by kernel_rfl) (by simp) (fun w' hG => ?_)
          obtain rfl := hG
          refine allM.head rfl rfl (fun Ka hKa => ?_) <| allM.head rfl rfl (fun Ka hKa => ?_) <| allM.nil
          · go_simp
            refine hKa.out _ _ trivial ?_
            clear hKa Ka
            refine M_val (i := 3) (v := ?_) SU.out rfl (by kernel_rfl) trivial rfl (fun W hS => ?_) ?_
            rotate_left
            · go_simp
              first | done | rfl
            simp only [Act.put, Act.eval, Array.getD_eq_getD_getElem?, List.setIfInBounds_toArray, List.set_cons_zero, List.set_cons_succ, List.getElem?_toArray, List.getElem?_cons_zero, List.getElem?_cons_succ, Option.getD_some]
            refine M_val (i := 4) (v := ?_) SU.out rfl (by kernel_rfl) trivial rfl (fun W hS => ?_) ?_
            rotate_left
            · go_simp
              first | done | rfl
            simp only [Act.put, Act.eval, Array.getD_eq_getD_getElem?, List.setIfInBounds_toArray, List.set_cons_zero, List.set_cons_succ, List.getElem?_toArray, List.getElem?_cons_zero, List.getElem?_cons_succ, Option.getD_some]
            refine wpAnyM_all (rs := [2]) (by kernel_rfl) (by simp) (fun w' hG => ?_)
            obtain rfl := hG
            refine allM.head rfl rfl (fun Ka hKa => ?_) <| allM.nil
            · go_simp
              refine hKa.out _ _ trivial ?_
              clear hKa Ka
              refine M_val (i := 5) (v := ?_) SU.out rfl (by kernel_rfl) trivial rfl (fun W hS => ?_) ?_
              rotate_left
              · go_simp
                first | done | rfl
              simp only [Act.put, Act.eval, Array.getD_eq_getD_getElem?, List.setIfInBounds_toArray, List.set_cons_zero, List.set_cons_succ, List.getElem?_toArray, List.getElem?_cons_zero, List.getElem?_cons_succ, Option.getD_some]
              refine wpAnyM_done (by kernel_rfl) (fun w' hG => ?_)
              obtain rfl := hG
              go_wp2_with fail
              go_meet
              case rel =>
                refine ⟨_, _, _, rfl, rfl, rfl, FIN.out _ _ _ ?_ ?_ ?_ ?_ ?_ ?_ _ ((((Fr.refl [] w2).alloc _).alloc _).alloc _).drew ?_ ?_ ?_⟩
                iterate 6 (· first | omega | (simp; done) | (simp; omega))
                · have h := (Bk.new (w2.alloc (.cells E 9)) 9 E).alloc (.cells E 9)
                  refine Bk.drew ?_
                  simpa using h
                · have h := ((Bk.new w2 9 E).alloc (.cells E 9)).alloc (.cells E 9)
                  refine Bk.drew ?_
                  simpa using h
                · have h := Bk.new ((w2.alloc (.cells E 9)).alloc (.cells E 9)) 9 E
                  refine Bk.drew ?_
                  simpa using h
          · go_simp
            refine hKa.out _ _ trivial ?_
            clear hKa Ka
            refine wpAnyM_all (rs := [0]) (by kernel_rfl) (by simp) (fun w' hG => ?_)
            obtain rfl := hG
            refine allM.head rfl rfl (fun Ka hKa => ?_) <| allM.nil
            · go_simp
              refine hKa.out _ _ trivial ?_
              clear hKa Ka
              refine M_val (i := 3) (v := ?_) SU.out rfl (by kernel_rfl) trivial rfl (fun W hS => ?_) ?_
              rotate_left
              · go_simp
                first | done | rfl
              simp only [Act.put, Act.eval, Array.getD_eq_getD_getElem?, List.setIfInBounds_toArray, List.set_cons_zero, List.set_cons_succ, List.getElem?_toArray, List.getElem?_cons_zero, List.getElem?_cons_succ, Option.getD_some]
              refine M_val (i := 4) (v := ?_) SU.out rfl (by kernel_rfl) trivial rfl (fun W hS => ?_) ?_
              rotate_left
              · go_simp
                first | done | rfl
              simp only [Act.put, Act.eval, Array.getD_eq_getD_getElem?, List.setIfInBounds_toArray, List.set_cons_zero, List.set_cons_succ, List.getElem?_toArray, List.getElem?_cons_zero, List.getElem?_cons_succ, Option.getD_some]
              refine M_val (i := 5) (v := ?_) SU.out rfl (by kernel_rfl) trivial rfl (fun W hS => ?_) ?_
              rotate_left
              · go_simp
                first | done | rfl
              simp only [Act.put, Act.eval, Array.getD_eq_getD_getElem?, List.setIfInBounds_toArray, List.set_cons_zero, List.set_cons_succ, List.getElem?_toArray, List.getElem?_cons_zero, List.getElem?_cons_succ, Option.getD_some]
              refine wpAnyM_done (by kernel_rfl) (fun w' hG => ?_)
              obtain rfl := hG
              go_wp2_with fail
              go_meet
              case rel =>
                refine ⟨_, _, _, rfl, rfl, rfl, FIN.out _ _ _ ?_ ?_ ?_ ?_ ?_ ?_ _ ((((Fr.refl [] w2).alloc _).alloc _).alloc _).drew ?_ ?_ ?_⟩
                iterate 6 (· first | omega | (simp; done) | (simp; omega))
                · have h := Bk.new ((w2.alloc (.cells E 9)).alloc (.cells E 9)) 9 E
                  refine Bk.drew ?_
                  simpa using h
                · have h := ((Bk.new w2 9 E).alloc (.cells E 9)).alloc (.cells E 9)
                  refine Bk.drew ?_
                  simpa using h
                · have h := (Bk.new (w2.alloc (.cells E 9)) 9 E).alloc (.cells E 9)
                  refine Bk.drew ?_
                  simpa using h
        · go_simp
          refine hKa.out _ _ trivial ?_
          clear hKa Ka
          refine wpAnyM_all (rs := [0, 1]) (by kernel_rfl) (by simp) (fun w' hG => ?_)
          obtain rfl := hG
          refine allM.head rfl rfl (fun Ka hKa => ?_) <| allM.head rfl rfl (fun Ka hKa => ?_) <| allM.nil
          · go_simp
            refine hKa.out _ _ trivial ?_
            clear hKa Ka
            refine M_val (i := 3) (v := ?_) SU.out rfl (by kernel_rfl) trivial rfl (fun W hS => ?_) ?_
            rotate_left
            · go_simp
              first | done | rfl
            simp only [Act.put, Act.eval, Array.getD_eq_getD_getElem?, List.setIfInBounds_toArray, List.set_cons_zero, List.set_cons_succ, List.getElem?_toArray, List.getElem?_cons_zero, List.getElem?_cons_succ, Option.getD_some]
            refine wpAnyM_all (rs := [1]) (by kernel_rfl) (by simp) (fun w' hG => ?_)
            obtain rfl := hG
            refine allM.head rfl rfl (fun Ka hKa => ?_) <| allM.nil
            · go_simp
              refine hKa.out _ _ trivial ?_
              clear hKa Ka
              refine M_val (i := 4) (v := ?_) SU.out rfl (by kernel_rfl) trivial rfl (fun W hS => ?_) ?_
              rotate_left
              · go_simp
                first | done | rfl
              simp only [Act.put, Act.eval, Array.getD_eq_getD_getElem?, List.setIfInBounds_toArray, List.set_cons_zero, List.set_cons_succ, List.getElem?_toArray, List.getElem?_cons_zero, List.getElem?_cons_succ, Option.getD_some]
              refine M_val (i := 5) (v := ?_) SU.out rfl (by kernel_rfl) trivial rfl (fun W hS => ?_) ?_
              rotate_left
              · go_simp
                first | done | rfl
              simp only [Act.put, Act.eval, Array.getD_eq_getD_getElem?, List.setIfInBounds_toArray, List.set_cons_zero, List.set_cons_succ, List.getElem?_toArray, List.getElem?_cons_zero, List.getElem?_cons_succ, Option.getD_some]
              refine wpAnyM_done (by kernel_rfl) (fun w' hG => ?_)
              obtain rfl := hG
              go_wp2_with fail
              go_meet
              case rel =>
                refine ⟨_, _, _, rfl, rfl, rfl, FIN.out _ _ _ ?_ ?_ ?_ ?_ ?_ ?_ _ ((((Fr.refl [] w2).alloc _).alloc _).alloc _).drew ?_ ?_ ?_⟩
                iterate 6 (· first | omega | (simp; done) | (simp; omega))
                · have h := (Bk.new (w2.alloc (.cells E 9)) 9 E).alloc (.cells E 9)
                  refine Bk.drew ?_
                  simpa using h
                · have h := Bk.new ((w2.alloc (.cells E 9)).alloc (.cells E 9)) 9 E
                  refine Bk.drew ?_
                  simpa using h
                · have h := ((Bk.new w2 9 E).alloc (.cells E 9)).alloc (.cells E 9)
                  refine Bk.drew ?_
                  simpa using h
          · go_simp
            refine hKa.out _ _ trivial ?_
            clear hKa Ka
            refine wpAnyM_all (rs := [0]) (by kernel_rfl) (by simp) (fun w' hG => ?_)
            obtain rfl := hG
            refine allM.head rfl rfl (fun Ka hKa => ?_) <| allM.nil
            · go_simp
              refine hKa.out _ _ trivial ?_
              clear hKa Ka
              refine M_val (i := 3) (v := ?_) SU.out rfl (by kernel_rfl) trivial rfl (fun W hS => ?_) ?_
              rotate_left
              · go_simp
                first | done | rfl
              simp only [Act.put, Act.eval, Array.getD_eq_getD_getElem?, List.setIfInBounds_toArray, List.set_cons_zero, List.set_cons_succ, List.getElem?_toArray, List.getElem?_cons_zero, List.getElem?_cons_succ, Option.getD_some]
              refine M_val (i := 4) (v := ?_) SU.out rfl (by kernel_rfl) trivial rfl (fun W hS => ?_) ?_
              rotate_left
              · go_simp
                first | done | rfl
              simp only [Act.put, Act.eval, Array.getD_eq_getD_getElem?, List.setIfInBounds_toArray, List.set_cons_zero, List.set_cons_succ, List.getElem?_toArray, List.getElem?_cons_zero, List.getElem?_cons_succ, Option.getD_some]
              refine M_val (i := 5) (v := ?_) SU.out rfl (by kernel_rfl) trivial rfl (fun W hS => ?_) ?_
              rotate_left
              · go_simp
                first | done | rfl
              simp only [Act.put, Act.eval, Array.getD_eq_getD_getElem?, List.setIfInBounds_toArray, List.set_cons_zero, List.set_cons_succ, List.getElem?_toArray, List.getElem?_cons_zero, List.getElem?_cons_succ, Option.getD_some]
              refine wpAnyM_done (by kernel_rfl) (fun w' hG => ?_)
              obtain rfl := hG
              go_wp2_with fail
              go_meet
              case rel =>
                refine ⟨_, _, _, rfl, rfl, rfl, FIN.out _ _ _ ?_ ?_ ?_ ?_ ?_ ?_ _ ((((Fr.refl [] w2).alloc _).alloc _).alloc _).drew ?_ ?_ ?_⟩
                iterate 6 (· first | omega | (simp; done) | (simp; omega))
                · have h := Bk.new ((w2.alloc (.cells E 9)).alloc (.cells E 9)) 9 E
                  refine Bk.drew ?_
                  simpa using h
                · have h := (Bk.new (w2.alloc (.cells E 9)) 9 E).alloc (.cells E 9)
                  refine Bk.drew ?_
                  simpa using h
                · have h := ((Bk.new w2 9 E).alloc (.cells E 9)).alloc (.cells E 9)
                  refine Bk.drew ?_
                  simpa using h
    case rest =>
      obtain ⟨bS, bR, bT, rfl, rfl, rfl, hno⟩ := hcut
      rename_i Kx hKx
      refine hKx _ _ ?_
      clear hKx Kx
      have HNO := Lib.hid hno
      clear hno HS2 HF2 hB2
      go_wp2_with fail
      go_loopw [7] (NoRel w B bS bR bT n) (fun v7 _ => n + 1 - (intOf v7).toNat)
      case atStart => exact ⟨0, [], _, _, _, rfl, by omega, HNO.out⟩
      case round =>
        obtain ⟨i, ws, S, R, T, rfl, hi, hno⟩ := hrel
        have HN := Lib.hid hno
        clear HNO hno
        by_cases hlt : i < n
        · have hi80 : i < 80 := by omega
          obtain ⟨b, off, rfl, hb, c0, c1, c2, c3, c4, c5, c6, c7, hby, -, -⟩ := (HACT.out.fr (Fr.of_below HN.out.bel)).at_ hlt
          have hs := HS80.out i hlt
          obtain ⟨-, -, -, -, -, -, -, -, -, -, -, -, hbyw, -, -⟩ := HACT.out.at_ hlt
          generalize K i = x at *
          obtain ⟨k, cc, N, s, ek, ec, eN, bA, bs, bc⟩ := x
          dsimp only at c0 c1 c2 c3 c4 c5 c6 c7 hby hs hbyw
          have HBY := Lib.hid hby; have HSS := Lib.hid hs; have HBYW := Lib.hid hbyw
          clear hby hs hbyw
          go_upto_region 11 with fail
          refine code_gen fun W hW => ?_
          have hf0 : Fr [] wr W := by rw [hW]; exact (Fr.refl _ _).alloc _
          have hab : Bk W wr.heap.size 49 #[.int .i64 k, .int .i64 cc, .int .i64 N, .string ⟨s.toArray⟩, .int .i64 ek, .int .i64 ec, .int .i64 eN, .slice bA bs.length bc] := by rw [hW]; exact Bk.new _ _ _
          have hgA : w.heap.size ≤ wr.heap.size := HN.out.bel.size
          obtain ⟨now, q0, q1, hnet⟩ := HN.out.net
          have hn0 : NoS w B bS bR bT i ws S R T W := HN.out.act HN.out.bb hB0 (NFr.of_fr hf0) ⟨now, q0, q1, hnet.fr_nil hf0⟩ HN.out.ord
          have HN0 := Lib.hid hn0
          have HNET := Lib.hid (hnet.fr_nil hf0)
          have HBY0 := Lib.hid (HBY.out.fr_nil hf0)
          have HB1 := hn0.bb
          clear hW hf0 hn0 hnet HBY c0 c1 c2 c3 c4 c5 c6 c7 hb HACT
          generalize wr.heap.size = gA at *
          have e0 := hab.cell_ (i := 0) rfl; have e1 := hab.cell_ (i := 1) rfl; have e2 := hab.cell_ (i := 2) rfl; have e3 := hab.cell_ (i := 3) rfl; have e4 := hab.cell_ (i := 4) rfl; have e5 := hab.cell_ (i := 5) rfl; have e6 := hab.cell_ (i := 6) rfl; have e7 := hab.cell_ (i := 7) rfl
          have HAB := Lib.hid hab; clear hab
          have ho := HN0.out.ord
          have HO := Lib.hid ho; clear ho
          by_cases hk : k = 0 ∨ k = 1 ∨ k = 2
          · rcases hk with rfl | rfl | rfl
            all_goals
              go_wp2_with fail
              go_at_call 10
              have hh := happen_ord HNET.out HB1 q0 q1 hi80 HO.out ek ec eN bA bs bc HBY0.out HSS.out.2
              unfold evC at hh
              refine hh.mono ?_
              clear hh
              rintro e w4 ⟨r, rfl, ws', now', p0, p1, hs, hf, hcase⟩
              have hab4 := hf.bk HAB.out (by decide) (by decide) (by decide) (by decide)
              clear e0 e1 e2 e3 e4 e5 e6 e7
              have g4 := hab4.cell_ (i := 4) rfl; have g5 := hab4.cell_ (i := 5) rfl; have g7 := hab4.cell_ (i := 7) rfl
              have HS4 := Lib.hid hs; have HF4 := Lib.hid hf
              clear hs hf hab4
              rcases hcase with ⟨⟨d, rfl⟩, ho'⟩ | ⟨rfl, hk1, ho'⟩ | ⟨rfl, rfl, j, rfl, hj, hlen, ho'⟩
              · have HO' := Lib.hid ho'; clear ho'
                unfold errV
                go_wp2_with fail
                go_roundw
                case rel => exact ⟨i + 1, ws', S, R, T, by go_num, by omega, HN0.out.act HB1 hB0 HF4.out ⟨now', p0, p1, HS4.out⟩ HO'.out⟩
                case measure => first | (simp [intOf]; done) | (simp [intOf]; omega)
              · have HO' := Lib.hid ho'; clear ho'
                have t1 : (ek == 1) = false := beq_eq_false_iff_ne.2 hk1
                clear hk1
                go_wp2_with fail
                go_roundw
                case rel => exact ⟨i + 1, ws', S, R, T, by go_num, by omega, HN0.out.act HB1 hB0 HF4.out ⟨now', p0, p1, HS4.out⟩ HO'.out⟩
                case measure => first | (simp [intOf]; done) | (simp [intOf]; omega)
              · have HO' := Lib.hid ho'; clear ho'
                as_aux_lemma =>
                  go_upto_region 16 with fail
                  clear g4 g5 g7
                  have hfd : NFr B W w4.drew := HF4.out.trans (NFr.of_fr (Fr.refl _ _).drew)
                  have hnd : NetS w4.drew B B now' ws' := HS4.out.fr_nil (Fr.refl _ _).drew
                  have hkeep := HN0.out.keep hB0 hfd ⟨now', p0, p1, hnd⟩
                  have HREL := Lib.hid (HN0.out.putS hB0 hfd ⟨now', p0, p1, hnd⟩ j _ HO'.out)
                  have hab4 := hfd.bk HAB.out (by decide) (by decide) (by decide) (by decide)
                  have g5 := hab4.cell_ (i := 5) (v := .int .i64 (j : Int)) rfl; have g7 := hab4.cell_ (i := 7) (v := .slice bA bs.length bc) rfl
                  have gs := hkeep.1.cell (j := j) (by rw [HO.out.ls]; exact hj)
                  have gf := Bk.frozen hkeep.1 j
                  have hby4 : At w4.drew bA (byteVals bs) := HBYW.out.fr_nil (Fr.of_below hkeep.2.2.2.1)
                  have hcv := run_str_ (P := Try.prog) (w := w4.drew) 32 9 5 Try.underlying32 Try.underlying5 Try.underlying9 bA bs bs.length bc hby4 rfl
                  have hjI : (j : Int) < 100 := by omega
                  have hlen2 : (S[j]?.getD []).length + bs.length ≤ 9223372036854775807 := by rw [List.length_append, List.getD_eq_getElem?_getD] at hlen; omega
                  clear hlen
                  clear hfd hnd hkeep hab4 hby4
                  refine wp_region_F_ (G := fun a b => a = b) (F := fun i => i == 16) (S := fun W => W = w4.drew) ⟨fun _ => rfl, fun a b c h k => h.trans k, fun a b h k => k ▸ h, by kernel_rfl, fun _ _ d _ _ h => by cases d <;> exact h⟩ (by kernel_rfl) fun su => ?_
                  have SU := Lib.hid su
                  have HS : Hid (w4.drew = w4.drew) := Lib.hid rfl
                  clear su
                  generalize w4.drew = wq at *
                  refine F_move (i := 0) _ SU.out rfl rfl (by kernel_rfl) HS.out rfl ?_
                  simp only [Act.put, Act.eval, Array.getD_eq_getD_getElem?, List.setIfInBounds_toArray, List.set_cons_zero, List.set_cons_succ, List.getElem?_toArray, List.getElem?_cons_zero, List.getElem?_cons_succ, Option.getD_some]
                  refine F_val (i := 1) (v := ?_) SU.out rfl (by kernel_rfl) HS.out rfl (fun W hS => ?_) ?_
                  rotate_left
                  · obtain rfl := hS
                    go_simp
                    all_goals first | done | rfl | omega | (simp; done) | (simp; omega) | (simp [ba_append]; assumption) | (simp [ba_append]; done) | (simp [ba_extract, ba_append]; done)
                  simp only [Act.put, List.setIfInBounds_toArray, List.set_cons_zero, List.set_cons_succ]
                  refine F_val (i := 2) (v := ?_) SU.out rfl (by kernel_rfl) HS.out rfl (fun W hS => ?_) ?_
                  rotate_left
                  · obtain rfl := hS
                    go_simp
                    all_goals first | done | rfl | omega | (simp; done) | (simp; omega) | (simp [ba_append]; assumption) | (simp [ba_append]; done) | (simp [ba_extract, ba_append]; done)
                  simp only [Act.put, List.setIfInBounds_toArray, List.set_cons_zero, List.set_cons_succ]
                  refine F_val (i := 3) (v := .int .i64 (j : Int)) SU.out rfl (by kernel_rfl) HS.out rfl (fun W hS => ?_) ?_
                  · obtain rfl := hS
                    go_simp
                    all_goals first | done | rfl | omega | (simp; done) | (simp; omega) | (simp [ba_append]; assumption) | (simp [ba_append]; done) | (simp [ba_extract, ba_append]; done)
                  simp only [Act.put, List.setIfInBounds_toArray, List.set_cons_zero, List.set_cons_succ]
                  refine F_move (i := 4) _ SU.out rfl rfl (by kernel_rfl) HS.out rfl ?_
                  simp only [Act.put, Act.eval, Array.getD_eq_getD_getElem?, List.setIfInBounds_toArray, List.set_cons_zero, List.set_cons_succ, List.getElem?_toArray, List.getElem?_cons_zero, List.getElem?_cons_succ, Option.getD_some]
                  refine F_val (i := 5) (v := ?_) SU.out rfl (by kernel_rfl) HS.out rfl (fun W hS => ?_) ?_
                  rotate_left
                  · obtain rfl := hS
                    go_simp
                    all_goals first | done | rfl | omega | (simp; done) | (simp; omega) | (simp [ba_append]; assumption) | (simp [ba_append]; done) | (simp [ba_extract, ba_append]; done)
                  simp only [Act.put, List.setIfInBounds_toArray, List.set_cons_zero, List.set_cons_succ]
                  refine F_val (i := 6) (v := ?_) SU.out rfl (by kernel_rfl) HS.out rfl (fun W hS => ?_) ?_
                  rotate_left
                  · obtain rfl := hS
                    go_simp
                    all_goals first | done | rfl | omega | (simp; done) | (simp; omega) | (simp [ba_append]; assumption) | (simp [ba_append]; done) | (simp [ba_extract, ba_append]; done)
                  simp only [Act.put, List.setIfInBounds_toArray, List.set_cons_zero, List.set_cons_succ]
                  refine F_val (i := 7) (v := .int .i64 (j : Int)) SU.out rfl (by kernel_rfl) HS.out rfl (fun W hS => ?_) ?_
                  · obtain rfl := hS
                    go_simp
                    all_goals first | done | rfl | omega | (simp; done) | (simp; omega) | (simp [ba_append]; assumption) | (simp [ba_append]; done) | (simp [ba_extract, ba_append]; done)
                  simp only [Act.put, List.setIfInBounds_toArray, List.set_cons_zero, List.set_cons_succ]
                  refine F_val (i := 8) (v := ?_) SU.out rfl (by kernel_rfl) HS.out rfl (fun W hS => ?_) ?_
                  rotate_left
                  · obtain rfl := hS
                    go_simp
                    all_goals first | done | rfl | omega | (simp; done) | (simp; omega) | (simp [ba_append]; assumption) | (simp [ba_append]; done) | (simp [ba_extract, ba_append]; done)
                  simp only [Act.put, List.setIfInBounds_toArray, List.set_cons_zero, List.set_cons_succ]
                  refine F_val (i := 9) (v := .string ⟨(S.getD j []).toArray⟩) SU.out rfl (by kernel_rfl) HS.out rfl (fun W hS => ?_) ?_
                  · obtain rfl := hS
                    go_simp
                    all_goals first | done | rfl | omega | (simp; done) | (simp; omega) | (simp [ba_append]; assumption) | (simp [ba_append]; done) | (simp [ba_extract, ba_append]; done)
                  simp only [Act.put, List.setIfInBounds_toArray, List.set_cons_zero, List.set_cons_succ]
                  refine F_val (i := 10) (v := ?_) SU.out rfl (by kernel_rfl) HS.out rfl (fun W hS => ?_) ?_
                  rotate_left
                  · obtain rfl := hS
                    go_simp
                    all_goals first | done | rfl | omega | (simp; done) | (simp; omega) | (simp [ba_append]; assumption) | (simp [ba_append]; done) | (simp [ba_extract, ba_append]; done)
                  simp only [Act.put, List.setIfInBounds_toArray, List.set_cons_zero, List.set_cons_succ]
                  refine F_val (i := 11) (v := ?_) SU.out rfl (by kernel_rfl) HS.out rfl (fun W hS => ?_) ?_
                  rotate_left
                  · obtain rfl := hS
                    go_simp
                    all_goals first | done | rfl | omega | (simp; done) | (simp; omega) | (simp [ba_append]; assumption) | (simp [ba_append]; done) | (simp [ba_extract, ba_append]; done)
                  simp only [Act.put, List.setIfInBounds_toArray, List.set_cons_zero, List.set_cons_succ]
                  refine F_val (i := 12) (v := .slice bA bs.length bc) SU.out rfl (by kernel_rfl) HS.out rfl (fun W hS => ?_) ?_
                  · obtain rfl := hS
                    go_simp
                    all_goals first | done | rfl | omega | (simp; done) | (simp; omega) | (simp [ba_append]; assumption) | (simp [ba_append]; done) | (simp [ba_extract, ba_append]; done)
                  simp only [Act.put, List.setIfInBounds_toArray, List.set_cons_zero, List.set_cons_succ]
                  refine F_val (i := 13) (v := .string ⟨bs.toArray⟩) SU.out rfl (by kernel_rfl) HS.out rfl (fun W hS => ?_) ?_
                  · obtain rfl := hS
                    go_simp
                    all_goals first | done | rfl | omega | (simp; done) | (simp; omega) | (simp [ba_append]; assumption) | (simp [ba_append]; done) | (simp [ba_extract, ba_append]; done)
                  simp only [Act.put, List.setIfInBounds_toArray, List.set_cons_zero, List.set_cons_succ]
                  refine F_val (i := 14) (v := .string ⟨(S.getD j [] ++ bs).toArray⟩) SU.out rfl (by kernel_rfl) HS.out rfl (fun W hS => ?_) ?_
                  · obtain rfl := hS
                    go_simp
                    all_goals first | done | rfl | omega | (simp; done) | (simp; omega) | (simp [ba_append]; assumption) | (simp [ba_append]; done) | (simp [ba_extract, ba_append]; done)
                  simp only [Act.put, List.setIfInBounds_toArray, List.set_cons_zero, List.set_cons_succ]
                  refine wpAnyF_all (rs := [15]) (by kernel_rfl) (by simp) (fun w' hG => ?_)
                  obtain rfl := hG
                  refine allF.head rfl rfl (fun K15 hK15 => ?_) allF.nil
                  go_simp
                  refine hK15.out _ _ (.inr HS.out) ?_
                  clear hK15 K15
                  refine wpAnyF_all (rs := [16]) (by kernel_rfl) (by simp) (fun w' hG => ?_)
                  obtain rfl := hG
                  refine allF.head rfl rfl (fun K16 hK16 => ?_) allF.nil
                  go_simp
                  refine hK16.out _ _ (.inl rfl) ?_
                  clear hK16 K16
                  refine wpAnyF_done (by kernel_rfl) (fun w' hG => ?_)
                  obtain rfl := hG
                  go_wp2_with fail
                  go_roundw
                  case rel => exact ⟨i + 1, ws', _, R, T, by go_num, by omega, HREL.out⟩
                  case measure => first | (simp [intOf]; done) | (simp [intOf]; omega)
          · have k0 : (k == 0) = false := beq_eq_false_iff_ne.2 (by omega)
            have k1 : (k == 1) = false := beq_eq_false_iff_ne.2 (by omega)
            have k2 : (k == 2) = false := beq_eq_false_iff_ne.2 (by omega)
            clear hk
            by_cases hk5 : k = 5
            · subst hk5
              clear k0 k1 k2
              go_wp2_with fail
              go_at_call 16
              refine (read_ord HNET.out HB1 hi80 HO.out cc N).mono ?_
              rintro e w4 ⟨ws', hs, hf, ⟨d, rfl, ho'⟩ | ⟨A5, b5, c5, be, j, rfl, hb5, rfl, hj, hlen, ho'⟩⟩
              · have HS4 := Lib.hid hs; have HF4 := Lib.hid hf; have HO' := Lib.hid ho'; clear ho' hs hf
                unfold errV
                go_wp2_with fail
                go_roundw
                case rel => exact ⟨i + 1, ws', S, R, T, by go_num, by omega, HN0.out.act HB1 hB0 HF4.out ⟨now, q0, q1, HS4.out⟩ HO'.out⟩
                case measure => first | (simp [intOf]; done) | (simp [intOf]; omega)
              · have HO' := Lib.hid ho'; clear ho'
                have hab4 := hf.bk HAB.out (by decide) (by decide) (by decide) (by decide)
                clear e0 e1 e2 e3 e4 e5 e6 e7
                have HS4 := Lib.hid hs; have HF4 := Lib.hid hf; have HB5 := Lib.hid hb5
                clear hs hf hab4 hb5
                as_aux_lemma =>
                  go_upto_region 20 with fail
                  have hfd : NFr B W w4.drew := HF4.out.trans (NFr.of_fr (Fr.refl _ _).drew)
                  have hnd : NetS w4.drew B B now ws' := HS4.out.fr_nil (Fr.refl _ _).drew
                  have hkeep := HN0.out.keep hB0 hfd ⟨now, q0, q1, hnd⟩
                  have HREL := Lib.hid (HN0.out.putR hB0 hfd ⟨now, q0, q1, hnd⟩ j _ HO'.out)
                  have hab4 := hfd.bk HAB.out (by decide) (by decide) (by decide) (by decide)
                  have g1 := hab4.cell_ (i := 1) (v := .int .i64 (j : Int)) rfl
                  have gs := hkeep.2.1.cell (j := j) (by rw [HO.out.lr]; exact hj)
                  have gf := Bk.frozen hkeep.2.1 j
                  have hcv := run_str_ (P := Try.prog) (w := w4.drew) 32 9 5 Try.underlying32 Try.underlying5 Try.underlying9 A5 b5 b5.length c5 HB5.out rfl
                  have hjI : (j : Int) < 100 := by omega
                  have hlen2 : (R[j]?.getD []).length + b5.length ≤ 9223372036854775807 := by rw [List.length_append, List.getD_eq_getElem?_getD] at hlen; omega
                  clear hlen hfd hnd hkeep hab4
                  refine wp_region_F_ (G := fun a b => a = b) (F := fun i => i == 12) (S := fun W => W = w4.drew) ⟨fun _ => rfl, fun a b c h k => h.trans k, fun a b h k => k ▸ h, by kernel_rfl, fun _ _ d _ _ h => by cases d <;> exact h⟩ (by kernel_rfl) fun su => ?_
                  have SU := Lib.hid su
                  have HS : Hid (w4.drew = w4.drew) := Lib.hid rfl
                  clear su
                  generalize w4.drew = wq at *
                  refine F_move (i := 0) _ SU.out rfl rfl (by kernel_rfl) HS.out rfl ?_
                  simp only [Act.put, Act.eval, Array.getD_eq_getD_getElem?, List.setIfInBounds_toArray, List.set_cons_zero, List.set_cons_succ, List.getElem?_toArray, List.getElem?_cons_zero, List.getElem?_cons_succ, Option.getD_some]
                  refine F_val (i := 1) (v := ?_) SU.out rfl (by kernel_rfl) HS.out rfl (fun W hS => ?_) ?_
                  rotate_left
                  · obtain rfl := hS
                    go_simp
                    all_goals first | done | rfl | omega | (simp; done) | (simp; omega) | (simp [ba_append]; assumption) | (simp [ba_append]; done) | (simp [ba_extract, ba_append]; done)
                  simp only [Act.put, List.setIfInBounds_toArray, List.set_cons_zero, List.set_cons_succ]
                  refine F_val (i := 2) (v := .int .i64 (j : Int)) SU.out rfl (by kernel_rfl) HS.out rfl (fun W hS => ?_) ?_
                  · obtain rfl := hS
                    go_simp
                    all_goals first | done | rfl | omega | (simp; done) | (simp; omega) | (simp [ba_append]; assumption) | (simp [ba_append]; done) | (simp [ba_extract, ba_append]; done)
                  simp only [Act.put, List.setIfInBounds_toArray, List.set_cons_zero, List.set_cons_succ]
                  refine F_move (i := 3) _ SU.out rfl rfl (by kernel_rfl) HS.out rfl ?_
                  simp only [Act.put, Act.eval, Array.getD_eq_getD_getElem?, List.setIfInBounds_toArray, List.set_cons_zero, List.set_cons_succ, List.getElem?_toArray, List.getElem?_cons_zero, List.getElem?_cons_succ, Option.getD_some]
                  refine F_val (i := 4) (v := ?_) SU.out rfl (by kernel_rfl) HS.out rfl (fun W hS => ?_) ?_
                  rotate_left
                  · obtain rfl := hS
                    go_simp
                    all_goals first | done | rfl | omega | (simp; done) | (simp; omega) | (simp [ba_append]; assumption) | (simp [ba_append]; done) | (simp [ba_extract, ba_append]; done)
                  simp only [Act.put, List.setIfInBounds_toArray, List.set_cons_zero, List.set_cons_succ]
                  refine F_val (i := 5) (v := .int .i64 (j : Int)) SU.out rfl (by kernel_rfl) HS.out rfl (fun W hS => ?_) ?_
                  · obtain rfl := hS
                    go_simp
                    all_goals first | done | rfl | omega | (simp; done) | (simp; omega) | (simp [ba_append]; assumption) | (simp [ba_append]; done) | (simp [ba_extract, ba_append]; done)
                  simp only [Act.put, List.setIfInBounds_toArray, List.set_cons_zero, List.set_cons_succ]
                  refine F_val (i := 6) (v := ?_) SU.out rfl (by kernel_rfl) HS.out rfl (fun W hS => ?_) ?_
                  rotate_left
                  · obtain rfl := hS
                    go_simp
                    all_goals first | done | rfl | omega | (simp; done) | (simp; omega) | (simp [ba_append]; assumption) | (simp [ba_append]; done) | (simp [ba_extract, ba_append]; done)
                  simp only [Act.put, List.setIfInBounds_toArray, List.set_cons_zero, List.set_cons_succ]
                  refine F_val (i := 7) (v := .string ⟨(R.getD j []).toArray⟩) SU.out rfl (by kernel_rfl) HS.out rfl (fun W hS => ?_) ?_
                  · obtain rfl := hS
                    go_simp
                    all_goals first | done | rfl | omega | (simp; done) | (simp; omega) | (simp [ba_append]; assumption) | (simp [ba_append]; done) | (simp [ba_extract, ba_append]; done)
                  simp only [Act.put, List.setIfInBounds_toArray, List.set_cons_zero, List.set_cons_succ]
                  refine F_move (i := 8) _ SU.out rfl rfl (by kernel_rfl) HS.out rfl ?_
                  simp only [Act.put, Act.eval, Array.getD_eq_getD_getElem?, List.setIfInBounds_toArray, List.set_cons_zero, List.set_cons_succ, List.getElem?_toArray, List.getElem?_cons_zero, List.getElem?_cons_succ, Option.getD_some]
                  refine F_val (i := 9) (v := .string ⟨b5.toArray⟩) SU.out rfl (by kernel_rfl) HS.out rfl (fun W hS => ?_) ?_
                  · obtain rfl := hS
                    go_simp
                    all_goals first | done | rfl | omega | (simp; done) | (simp; omega) | (simp [ba_append]; assumption) | (simp [ba_append]; done) | (simp [ba_extract, ba_append]; done)
                  simp only [Act.put, List.setIfInBounds_toArray, List.set_cons_zero, List.set_cons_succ]
                  refine F_val (i := 10) (v := .string ⟨(R.getD j [] ++ b5).toArray⟩) SU.out rfl (by kernel_rfl) HS.out rfl (fun W hS => ?_) ?_
                  · obtain rfl := hS
                    go_simp
                    all_goals first | done | rfl | omega | (simp; done) | (simp; omega) | (simp [ba_append]; assumption) | (simp [ba_append]; done) | (simp [ba_extract, ba_append]; done)
                  simp only [Act.put, List.setIfInBounds_toArray, List.set_cons_zero, List.set_cons_succ]
                  refine wpAnyF_all (rs := [11]) (by kernel_rfl) (by simp) (fun w' hG => ?_)
                  obtain rfl := hG
                  refine allF.head rfl rfl (fun K11 hK11 => ?_) allF.nil
                  go_simp
                  refine hK11.out _ _ (.inr HS.out) ?_
                  clear hK11 K11
                  refine wpAnyF_all (rs := [12]) (by kernel_rfl) (by simp) (fun w' hG => ?_)
                  obtain rfl := hG
                  refine allF.head rfl rfl (fun K12 hK12 => ?_) allF.nil
                  go_simp
                  refine hK12.out _ _ (.inl rfl) ?_
                  clear hK12 K12
                  refine wpAnyF_done (by kernel_rfl) (fun w' hG => ?_)
                  obtain rfl := hG
                  go_wp2_with fail
                  go_roundw
                  case rel => exact ⟨i + 1, ws', S, _, T, by go_num, by omega, HREL.out⟩
                  case measure => first | (simp [intOf]; done) | (simp [intOf]; omega)
            have k5 : (k == 5) = false := beq_eq_false_iff_ne.2 hk5
            clear hk5
            by_cases hk6 : k = 6
            · subst hk6
              clear k0 k1 k2 k5
              go_wp2_with (refine wpList_bytes rfl 9 32 (.tmp 102) rfl 5 Try.underlying9 Try.underlying32 Try.underlying5 ⟨s.toArray⟩ (by rfl) (by rw [ba_size]; have := HSS.out.1; unfold maxLen; omega) ?_; intro A6 c6 w3 hat hsc hcm hA6 hfr; have HAT := Lib.hid hat; have HFR := Lib.hid hfr; have HA6 := Lib.hid hA6; clear hat hfr hA6)
              rw [ba_size] at hsc
              go_at_call 13
              have hat3 : Bytes w3 A6 s := by have := HAT.out; simpa [Bytes] using this
              have hw := write_ord (HNET.out.fr_nil HFR.out) (Nat.le_trans HB1 HFR.out.size) hi80 HO.out cc A6 s c6 hat3 hsc HSS.out.1
              have hn3 := HN0.out.act HB1 hB0 (NFr.of_fr HFR.out) ⟨now, q0, q1, HNET.out.fr_nil HFR.out⟩ HO.out
              have HN3 := Lib.hid hn3
              have HB3 := hn3.bb
              have HAB3 := Lib.hid (HAB.out.fr HFR.out (by simp))
              clear e0 e1 e2 e3 e4 e5 e6 e7 hn3 hat3 HAT HFR HN0 HAB HNET HBY0 HB1
              refine hw.mono ?_
              clear hw
              rintro e w4 ⟨ws', hs, hf, ⟨d, rfl, ho'⟩ | ⟨kk, j, rfl, hkk, rfl, hj, hlen, ho'⟩⟩
              · have HS4 := Lib.hid hs; have HF4 := Lib.hid hf; have HO' := Lib.hid ho'; clear ho' hs hf
                unfold errV
                go_wp2_with fail
                go_roundw
                case rel => exact ⟨i + 1, ws', S, R, T, by go_num, by omega, HN3.out.act HB3 hB0 HF4.out ⟨now, q0, q1, HS4.out⟩ HO'.out⟩
                case measure => first | (simp [intOf]; done) | (simp [intOf]; omega)
              · have HO' := Lib.hid ho'; clear ho'
                have hab4 := hf.bk HAB3.out (by decide) (by decide) (by decide) (by decide)
                have g3 := hab4.cell_ (i := 3) (v := .string ⟨s.toArray⟩) rfl
                have u1 : decide ((kk : Int) < 0) = false := decide_eq_false (by omega)
                have u2 : decide ((s.length : Int) < (kk : Int)) = false := decide_eq_false (by omega)
                have HS4 := Lib.hid hs; have HF4 := Lib.hid hf
                clear hs hf hab4
                as_aux_lemma =>
                  go_upto_region 26 with fail
                  have hfd : NFr B w3 w4.drew := HF4.out.trans (NFr.of_fr (Fr.refl _ _).drew)
                  have hnd : NetS w4.drew B B now ws' := HS4.out.fr_nil (Fr.refl _ _).drew
                  have hkeep := HN3.out.keep hB0 hfd ⟨now, q0, q1, hnd⟩
                  have HREL := Lib.hid (HN3.out.putT hB0 hfd ⟨now, q0, q1, hnd⟩ j _ HO'.out)
                  have hab4 := hfd.bk HAB3.out (by decide) (by decide) (by decide) (by decide)
                  clear g3 u1 u2
                  have g1 := hab4.cell_ (i := 1) (v := .int .i64 (j : Int)) rfl; have g3 := hab4.cell_ (i := 3) (v := .string ⟨s.toArray⟩) rfl
                  have gs := hkeep.2.2.1.cell (j := j) (by rw [HO.out.lt]; exact hj)
                  have gf := Bk.frozen hkeep.2.2.1 j
                  have hjI : (j : Int) < 100 := by omega
                  have hkkI : (kk : Int) ≤ (s.length : Int) := by omega
                  have hlen2 : (T[j]?.getD []).length + kk ≤ 9223372036854775807 := by rw [List.length_append, List.getD_eq_getElem?_getD, List.length_take, Nat.min_eq_left hkk] at hlen; omega
                  clear hlen hfd hnd hkeep hab4
                  refine wp_region_F_ (G := fun a b => a = b) (F := fun i => i == 14) (S := fun W => W = w4.drew) ⟨fun _ => rfl, fun a b c h k => h.trans k, fun a b h k => k ▸ h, by kernel_rfl, fun _ _ d _ _ h => by cases d <;> exact h⟩ (by kernel_rfl) fun su => ?_
                  have SU := Lib.hid su
                  have HS : Hid (w4.drew = w4.drew) := Lib.hid rfl
                  clear su
                  generalize w4.drew = wq at *
                  refine F_move (i := 0) _ SU.out rfl rfl (by kernel_rfl) HS.out rfl ?_
                  simp only [Act.put, Act.eval, Array.getD_eq_getD_getElem?, List.setIfInBounds_toArray, List.set_cons_zero, List.set_cons_succ, List.getElem?_toArray, List.getElem?_cons_zero, List.getElem?_cons_succ, Option.getD_some]
                  refine F_val (i := 1) (v := ?_) SU.out rfl (by kernel_rfl) HS.out rfl (fun W hS => ?_) ?_
                  rotate_left
                  · obtain rfl := hS
                    go_simp
                    all_goals first | done | rfl | omega | (simp; done) | (simp; omega) | (simp [ba_append]; assumption) | (simp [ba_append]; done) | (simp [ba_extract, ba_append]; done)
                  simp only [Act.put, List.setIfInBounds_toArray, List.set_cons_zero, List.set_cons_succ]
                  refine F_val (i := 2) (v := .int .i64 (j : Int)) SU.out rfl (by kernel_rfl) HS.out rfl (fun W hS => ?_) ?_
                  · obtain rfl := hS
                    go_simp
                    all_goals first | done | rfl | omega | (simp; done) | (simp; omega) | (simp [ba_append]; assumption) | (simp [ba_append]; done) | (simp [ba_extract, ba_append]; done)
                  simp only [Act.put, List.setIfInBounds_toArray, List.set_cons_zero, List.set_cons_succ]
                  refine F_move (i := 3) _ SU.out rfl rfl (by kernel_rfl) HS.out rfl ?_
                  simp only [Act.put, Act.eval, Array.getD_eq_getD_getElem?, List.setIfInBounds_toArray, List.set_cons_zero, List.set_cons_succ, List.getElem?_toArray, List.getElem?_cons_zero, List.getElem?_cons_succ, Option.getD_some]
                  refine F_val (i := 4) (v := ?_) SU.out rfl (by kernel_rfl) HS.out rfl (fun W hS => ?_) ?_
                  rotate_left
                  · obtain rfl := hS
                    go_simp
                    all_goals first | done | rfl | omega | (simp; done) | (simp; omega) | (simp [ba_append]; assumption) | (simp [ba_append]; done) | (simp [ba_extract, ba_append]; done)
                  simp only [Act.put, List.setIfInBounds_toArray, List.set_cons_zero, List.set_cons_succ]
                  refine F_val (i := 5) (v := .int .i64 (j : Int)) SU.out rfl (by kernel_rfl) HS.out rfl (fun W hS => ?_) ?_
                  · obtain rfl := hS
                    go_simp
                    all_goals first | done | rfl | omega | (simp; done) | (simp; omega) | (simp [ba_append]; assumption) | (simp [ba_append]; done) | (simp [ba_extract, ba_append]; done)
                  simp only [Act.put, List.setIfInBounds_toArray, List.set_cons_zero, List.set_cons_succ]
                  refine F_val (i := 6) (v := ?_) SU.out rfl (by kernel_rfl) HS.out rfl (fun W hS => ?_) ?_
                  rotate_left
                  · obtain rfl := hS
                    go_simp
                    all_goals first | done | rfl | omega | (simp; done) | (simp; omega) | (simp [ba_append]; assumption) | (simp [ba_append]; done) | (simp [ba_extract, ba_append]; done)
                  simp only [Act.put, List.setIfInBounds_toArray, List.set_cons_zero, List.set_cons_succ]
                  refine F_val (i := 7) (v := .string ⟨(T.getD j []).toArray⟩) SU.out rfl (by kernel_rfl) HS.out rfl (fun W hS => ?_) ?_
                  · obtain rfl := hS
                    go_simp
                    all_goals first | done | rfl | omega | (simp; done) | (simp; omega) | (simp [ba_append]; assumption) | (simp [ba_append]; done) | (simp [ba_extract, ba_append]; done)
                  simp only [Act.put, List.setIfInBounds_toArray, List.set_cons_zero, List.set_cons_succ]
                  refine F_val (i := 8) (v := ?_) SU.out rfl (by kernel_rfl) HS.out rfl (fun W hS => ?_) ?_
                  rotate_left
                  · obtain rfl := hS
                    go_simp
                    all_goals first | done | rfl | omega | (simp; done) | (simp; omega) | (simp [ba_append]; assumption) | (simp [ba_append]; done) | (simp [ba_extract, ba_append]; done)
                  simp only [Act.put, List.setIfInBounds_toArray, List.set_cons_zero, List.set_cons_succ]
                  refine F_val (i := 9) (v := .string ⟨s.toArray⟩) SU.out rfl (by kernel_rfl) HS.out rfl (fun W hS => ?_) ?_
                  · obtain rfl := hS
                    go_simp
                    all_goals first | done | rfl | omega | (simp; done) | (simp; omega) | (simp [ba_append]; assumption) | (simp [ba_append]; done) | (simp [ba_extract, ba_append]; done)
                  simp only [Act.put, List.setIfInBounds_toArray, List.set_cons_zero, List.set_cons_succ]
                  refine F_move (i := 10) _ SU.out rfl rfl (by kernel_rfl) HS.out rfl ?_
                  simp only [Act.put, Act.eval, Array.getD_eq_getD_getElem?, List.setIfInBounds_toArray, List.set_cons_zero, List.set_cons_succ, List.getElem?_toArray, List.getElem?_cons_zero, List.getElem?_cons_succ, Option.getD_some]
                  refine F_val (i := 11) (v := .string ⟨(s.take kk).toArray⟩) SU.out rfl (by kernel_rfl) HS.out rfl (fun W hS => ?_) ?_
                  · obtain rfl := hS
                    go_simp
                    all_goals first | done | rfl | omega | (simp; done) | (simp; omega) | (simp [ba_append]; assumption) | (simp [ba_append]; done) | (simp [ba_extract, ba_append]; done)
                  simp only [Act.put, List.setIfInBounds_toArray, List.set_cons_zero, List.set_cons_succ]
                  refine F_val (i := 12) (v := .string ⟨(T.getD j [] ++ s.take kk).toArray⟩) SU.out rfl (by kernel_rfl) HS.out rfl (fun W hS => ?_) ?_
                  · obtain rfl := hS
                    go_simp
                    all_goals first | done | rfl | omega | (simp; done) | (simp; omega) | (simp [ba_append]; assumption) | (simp [ba_append]; done) | (simp [ba_extract, ba_append]; done)
                  simp only [Act.put, List.setIfInBounds_toArray, List.set_cons_zero, List.set_cons_succ]
                  refine wpAnyF_all (rs := [13]) (by kernel_rfl) (by simp) (fun w' hG => ?_)
                  obtain rfl := hG
                  refine allF.head rfl rfl (fun K13 hK13 => ?_) allF.nil
                  go_simp
                  refine hK13.out _ _ (.inr HS.out) ?_
                  clear hK13 K13
                  refine wpAnyF_all (rs := [14]) (by kernel_rfl) (by simp) (fun w' hG => ?_)
                  obtain rfl := hG
                  refine allF.head rfl rfl (fun K14 hK14 => ?_) allF.nil
                  go_simp
                  refine hK14.out _ _ (.inl rfl) ?_
                  clear hK14 K14
                  refine wpAnyF_done (by kernel_rfl) (fun w' hG => ?_)
                  obtain rfl := hG
                  go_wp2_with fail
                  go_roundw
                  case rel => exact ⟨i + 1, ws', S, R, _, by go_num, by omega, HREL.out⟩
                  case measure => first | (simp [intOf]; done) | (simp [intOf]; omega)
            have k6 : (k == 6) = false := beq_eq_false_iff_ne.2 hk6
            clear hk6
            by_cases hk7 : k = 7
            · subst hk7
              clear k0 k1 k2 k5 k6
              go_wp2_with fail
              go_at_call 17
              refine (shut_ord HNET.out HB1 HO.out cc).mono ?_
              rintro e w4 ⟨ws', r, hs, hf, rfl, ho'⟩
              have HS4 := Lib.hid hs; have HF4 := Lib.hid hf; have HO' := Lib.hid ho'; clear ho' hs hf
              go_wp2_with fail
              go_roundw
              case rel => exact ⟨i + 1, ws', S, R, T, by go_num, by omega, HN0.out.act HB1 hB0 HF4.out ⟨now, q0, q1, HS4.out⟩ HO'.out⟩
              case measure => first | (simp [intOf]; done) | (simp [intOf]; omega)
            have k7 : (k == 7) = false := beq_eq_false_iff_ne.2 hk7
            clear hk7
            by_cases hk8 : k = 8
            · subst hk8
              clear k0 k1 k2 k5 k6 k7
              go_wp2_with fail
              go_at_call 18
              refine (drop_ord HNET.out HB1 HO.out cc).mono ?_
              rintro e w4 ⟨ws', r, hs, hf, rfl, ho'⟩
              have HS4 := Lib.hid hs; have HF4 := Lib.hid hf; have HO' := Lib.hid ho'; clear ho' hs hf
              go_wp2_with fail
              go_roundw
              case rel => exact ⟨i + 1, ws', S, R, T, by go_num, by omega, HN0.out.act HB1 hB0 HF4.out ⟨now, q0, q1, HS4.out⟩ HO'.out⟩
              case measure => first | (simp [intOf]; done) | (simp [intOf]; omega)
            have k8 : (k == 8) = false := beq_eq_false_iff_ne.2 hk8
            clear hk8
            go_wp2_with fail
            go_roundw
            case rel => exact ⟨i + 1, ws, S, R, T, by go_num, by omega, HN0.out.act HB1 hB0 (NFr.refl _ _) ⟨now, q0, q1, HNET.out⟩ HO.out.next⟩
            case measure => first | (simp [intOf]; done) | (simp [intOf]; omega)
        · obtain rfl : i = n := by omega
          go_wp2_with fail
          go_loopw [14] (fun v14 wr => ∃ c : Nat, v14 = .int .i64 (c : Int) ∧ 1 ≤ c ∧ c ≤ ws.length + 1 ∧ NoS w B bS bR bT i ws S R T wr) (fun v14 _ => ws.length + 2 - (intOf v14).toNat)
          case atStart => exact ⟨1, rfl, by omega, by omega, HN.out⟩
          case round =>
            obtain ⟨c, rfl, hc1, hc2, hno⟩ := hrel
            obtain ⟨now, q0, q1, hnet⟩ := hno.net
            have HN1 := Lib.hid hno; have HNET := Lib.hid hnet
            have hl64 := hno.ord.lw
            clear HN hno hnet
            go_wp2_with fail
            go_at_call 12
            refine (len_any HNET.out).mono ?_
            rintro e w3 ⟨rfl, rfl⟩
            by_cases hc : c ≤ ws.length
            · obtain ⟨k, hk⟩ : ∃ k, c = k + 1 := ⟨c - 1, by omega⟩
              have hX := HN1.out.ord.one k (by omega)
              rw [← hk] at hX
              obtain ⟨x, hx⟩ : ∃ x, ws.getD k default = x := ⟨_, rfl⟩
              rw [hx] at hX
              have hwc := wire_yes HNET.out hl64 (k := k) (by omega) x hx (by have := hX.inl; omega) (by have := hX.tl; rw [hX.got]; omega)
              have hkc : ((k : Int) + 1) = (c : Int) := by omega
              rw [hkc, hX.got] at hwc
              have HWC := Lib.hid hwc
              have HXX := Lib.hid hX
              clear hwc hX hk hkc hx
              go_wp2_with fail
              go_at_call 14
              refine HWC.out.mono ?_
              rintro e w4 ⟨A1, c1, A2, c2, rfl, hb1, hb2, hs4, hf4⟩
              have HB1 := Lib.hid hb1; have HB2 := Lib.hid hb2; have HS4 := Lib.hid hs4; have HF4 := Lib.hid hf4
              clear hb1 hb2 hs4 hf4 HWC
              go_upto_region 35 with fail
              refine code_gen fun V7 hV7 => ?_
              have hf0 : Fr [] w4 V7 := by rw [hV7]; exact (Fr.refl _ _).alloc _
              have hab : Bk V7 w4.heap.size 41 #[.int .i64 x.st, .string ⟨x.nm.toArray⟩, .slice A1 x.inn.length c1, .int .i64 x.win, .slice A2 (T.getD c []).length c2, .bool x.en, .bool x.sh, .bool x.rs] := by rw [hV7]; exact Bk.new _ _ _
              have hn0 : NoS w B bS bR bT i ws S R T V7.drew := HN1.out.act HN1.out.bb hB0 (NFr.of_fr (HF4.out.trans hf0).drew) ⟨now, q0, q1, (HS4.out.fr_nil hf0).fr_nil (Fr.refl _ _).drew⟩ HN1.out.ord
              have hbb1 : At V7.drew A1 (byteVals x.inn) := HB1.out.fr_nil hf0.drew
              have hbb2 : At V7.drew A2 (byteVals (T.getD c [])) := HB2.out.fr_nil hf0.drew
              have hk2 := hab.cell_ (i := 2) rfl; have hk4 := hab.cell_ (i := 4) rfl; have hk7 := hab.cell_ (i := 7) rfl
              have d2 : V7.drew.cell? ⟨w4.heap.size, 2, none⟩ = some (.slice A1 x.inn.length c1) := hk2
              have d4 : V7.drew.cell? ⟨w4.heap.size, 4, none⟩ = some (.slice A2 (T.getD c []).length c2) := hk4
              have d7 : V7.drew.cell? ⟨w4.heap.size, 7, none⟩ = some (.bool x.rs) := hk7
              clear hk2 hk4 hk7 hab hV7 hf0
              have gs := hn0.ss.cell (j := c) (by rw [HN1.out.ord.ls]; omega)
              have gr := hn0.rr.cell (j := c) (by rw [HN1.out.ord.lr]; omega)
              have gt := hn0.tt.cell (j := c) (by rw [HN1.out.ord.lt]; omega)
              have HN0 := Lib.hid hn0
              clear hn0
              generalize w4.heap.size = gW at *
              have hpre := HXX.out.pre; have hinn := HXX.out.inn
              have hsl := HXX.out.sl
              clear HXX
              generalize T.getD c [] = t at *
              generalize R.getD c [] = r at *
              generalize S.getD c [] = s at *
              have hcv2 := run_str_ (P := Try.prog) (w := V7.drew) 32 9 5 Try.underlying32 Try.underlying5 Try.underlying9 A2 t t.length c2 hbb2 rfl
              have hcv1 := run_str_ (P := Try.prog) (w := V7.drew) 32 9 5 Try.underlying32 Try.underlying5 Try.underlying9 A1 x.inn x.inn.length c1 hbb1 rfl
              have htk : s.take r.length = r := by obtain ⟨z, rfl⟩ := hpre; simp
              have hrl : r.length ≤ s.length := hpre.length_le
              have u1 : decide ((s.length : Int) < (r.length : Int)) = false := decide_eq_false (by omega)
              have u2 : (r.length : Int) ≤ (s.length : Int) := by omega
              have u3 : (c : Int) < 100 := by omega
              clear hpre hbb1 hbb2
              obtain ⟨rs, hrs⟩ : ∃ rs, x.rs = rs := ⟨_, rfl⟩
              generalize x.inn = inn at *
              rw [hrs] at d7 hinn
              clear hrs
              cases rs with
              | true =>
                as_aux_lemma =>
                  clear hinn -- T
                  refine wp_region_M_ (G := fun a b => a = b) (S := fun W => W = V7.drew) ⟨fun _ => rfl, fun a b c h k => h.trans k, fun a b h k => k ▸ h, by kernel_rfl, fun _ _ d _ _ h => by cases d <;> exact h⟩ (by kernel_rfl) fun su => ?_
                  have SU := Lib.hid su
                  have HS : Hid (V7.drew = V7.drew) := Lib.hid rfl
                  clear su
                  generalize V7.drew = wq at *
                  refine M_move (i := 0) _ SU.out rfl rfl (by kernel_rfl) HS.out rfl ?_
                  simp only [Act.put, Act.eval, Array.getD_eq_getD_getElem?, List.setIfInBounds_toArray, List.set_cons_zero, List.set_cons_succ, List.getElem?_toArray, List.getElem?_cons_zero, List.getElem?_cons_succ, Option.getD_some]
                  refine M_val (i := 1) (v := .bool false) SU.out rfl (by kernel_rfl) HS.out rfl (fun W hS => ?_) ?_
                  · obtain rfl := hS
                    go_simp
                    all_goals first | done | rfl | omega | (simp; done) | (simp; omega) | (simp [ba_extract, htk]; done)
                  simp only [Act.put, List.setIfInBounds_toArray, List.set_cons_zero, List.set_cons_succ]
                  refine M_move (i := 2) _ SU.out rfl rfl (by kernel_rfl) HS.out rfl ?_
                  simp only [Act.put, Act.eval, Array.getD_eq_getD_getElem?, List.setIfInBounds_toArray, List.set_cons_zero, List.set_cons_succ, List.getElem?_toArray, List.getElem?_cons_zero, List.getElem?_cons_succ, Option.getD_some]
                  refine M_val (i := 3) (v := ?_) SU.out rfl (by kernel_rfl) HS.out rfl (fun W hS => ?_) ?_
                  rotate_left
                  · obtain rfl := hS
                    go_simp
                    all_goals first | done | rfl | omega | (simp; done) | (simp; omega) | (simp [ba_extract, htk]; done)
                  simp only [Act.put, List.setIfInBounds_toArray, List.set_cons_zero, List.set_cons_succ]
                  refine M_val (i := 4) (v := ?_) SU.out rfl (by kernel_rfl) HS.out rfl (fun W hS => ?_) ?_
                  rotate_left
                  · obtain rfl := hS
                    go_simp
                    all_goals first | done | rfl | omega | (simp; done) | (simp; omega) | (simp [ba_extract, htk]; done)
                  simp only [Act.put, List.setIfInBounds_toArray, List.set_cons_zero, List.set_cons_succ]
                  refine M_val (i := 5) (v := .string ⟨t.toArray⟩) SU.out rfl (by kernel_rfl) HS.out rfl (fun W hS => ?_) ?_
                  · obtain rfl := hS
                    go_simp
                    all_goals first | done | rfl | omega | (simp; done) | (simp; omega) | (simp [ba_extract, htk]; done)
                  simp only [Act.put, List.setIfInBounds_toArray, List.set_cons_zero, List.set_cons_succ]
                  refine M_move (i := 6) _ SU.out rfl rfl (by kernel_rfl) HS.out rfl ?_
                  simp only [Act.put, Act.eval, Array.getD_eq_getD_getElem?, List.setIfInBounds_toArray, List.set_cons_zero, List.set_cons_succ, List.getElem?_toArray, List.getElem?_cons_zero, List.getElem?_cons_succ, Option.getD_some]
                  refine M_move (i := 7) _ SU.out rfl rfl (by kernel_rfl) HS.out rfl ?_
                  simp only [Act.put, Act.eval, Array.getD_eq_getD_getElem?, List.setIfInBounds_toArray, List.set_cons_zero, List.set_cons_succ, List.getElem?_toArray, List.getElem?_cons_zero, List.getElem?_cons_succ, Option.getD_some]
                  refine M_val (i := 8) (v := ?_) SU.out rfl (by kernel_rfl) HS.out rfl (fun W hS => ?_) ?_
                  rotate_left
                  · obtain rfl := hS
                    go_simp
                    all_goals first | done | rfl | omega | (simp; done) | (simp; omega) | (simp [ba_extract, htk]; done)
                  simp only [Act.put, List.setIfInBounds_toArray, List.set_cons_zero, List.set_cons_succ]
                  refine M_val (i := 9) (v := .string ⟨t.toArray⟩) SU.out rfl (by kernel_rfl) HS.out rfl (fun W hS => ?_) ?_
                  · obtain rfl := hS
                    go_simp
                    all_goals first | done | rfl | omega | (simp; done) | (simp; omega) | (simp [ba_extract, htk]; done)
                  simp only [Act.put, List.setIfInBounds_toArray, List.set_cons_zero, List.set_cons_succ]
                  refine M_val (i := 10) (v := .bool false) SU.out rfl (by kernel_rfl) HS.out rfl (fun W hS => ?_) ?_
                  · obtain rfl := hS
                    go_simp
                    all_goals first | done | rfl | omega | (simp; done) | (simp; omega) | (simp [ba_extract, htk]; done)
                  simp only [Act.put, List.setIfInBounds_toArray, List.set_cons_zero, List.set_cons_succ]
                  refine M_val (i := 11) (v := .bool false) SU.out rfl (by kernel_rfl) HS.out rfl (fun W hS => ?_) ?_
                  · obtain rfl := hS
                    go_simp
                    all_goals first | done | rfl | omega | (simp; done) | (simp; omega) | (simp [ba_extract, htk]; done)
                  simp only [Act.put, List.setIfInBounds_toArray, List.set_cons_zero, List.set_cons_succ]
                  refine M_move (i := 12) _ SU.out rfl rfl (by kernel_rfl) HS.out rfl ?_
                  simp only [Act.put, Act.eval, Array.getD_eq_getD_getElem?, List.setIfInBounds_toArray, List.set_cons_zero, List.set_cons_succ, List.getElem?_toArray, List.getElem?_cons_zero, List.getElem?_cons_succ, Option.getD_some]
                  refine M_move (i := 13) _ SU.out rfl rfl (by kernel_rfl) HS.out rfl ?_
                  simp only [Act.put, Act.eval, Array.getD_eq_getD_getElem?, List.setIfInBounds_toArray, List.set_cons_zero, List.set_cons_succ, List.getElem?_toArray, List.getElem?_cons_zero, List.getElem?_cons_succ, Option.getD_some]
                  refine M_move (i := 14) _ SU.out rfl rfl (by kernel_rfl) HS.out rfl ?_
                  simp only [Act.put, Act.eval, Array.getD_eq_getD_getElem?, List.setIfInBounds_toArray, List.set_cons_zero, List.set_cons_succ, List.getElem?_toArray, List.getElem?_cons_zero, List.getElem?_cons_succ, Option.getD_some]
                  refine M_val (i := 15) (v := ?_) SU.out rfl (by kernel_rfl) HS.out rfl (fun W hS => ?_) ?_
                  rotate_left
                  · obtain rfl := hS
                    go_simp
                    all_goals first | done | rfl | omega | (simp; done) | (simp; omega) | (simp [ba_extract, htk]; done)
                  simp only [Act.put, List.setIfInBounds_toArray, List.set_cons_zero, List.set_cons_succ]
                  refine M_val (i := 16) (v := .string ⟨r.toArray⟩) SU.out rfl (by kernel_rfl) HS.out rfl (fun W hS => ?_) ?_
                  · obtain rfl := hS
                    go_simp
                    all_goals first | done | rfl | omega | (simp; done) | (simp; omega) | (simp [ba_extract, htk]; done)
                  simp only [Act.put, List.setIfInBounds_toArray, List.set_cons_zero, List.set_cons_succ]
                  refine M_val (i := 17) (v := ?_) SU.out rfl (by kernel_rfl) HS.out rfl (fun W hS => ?_) ?_
                  rotate_left
                  · obtain rfl := hS
                    go_simp
                    all_goals first | done | rfl | omega | (simp; done) | (simp; omega) | (simp [ba_extract, htk]; done)
                  simp only [Act.put, List.setIfInBounds_toArray, List.set_cons_zero, List.set_cons_succ]
                  refine M_move (i := 18) _ SU.out rfl rfl (by kernel_rfl) HS.out rfl ?_
                  simp only [Act.put, Act.eval, Array.getD_eq_getD_getElem?, List.setIfInBounds_toArray, List.set_cons_zero, List.set_cons_succ, List.getElem?_toArray, List.getElem?_cons_zero, List.getElem?_cons_succ, Option.getD_some]
                  refine M_move (i := 19) _ SU.out rfl rfl (by kernel_rfl) HS.out rfl ?_
                  simp only [Act.put, Act.eval, Array.getD_eq_getD_getElem?, List.setIfInBounds_toArray, List.set_cons_zero, List.set_cons_succ, List.getElem?_toArray, List.getElem?_cons_zero, List.getElem?_cons_succ, Option.getD_some]
                  refine M_val (i := 20) (v := ?_) SU.out rfl (by kernel_rfl) HS.out rfl (fun W hS => ?_) ?_
                  rotate_left
                  · obtain rfl := hS
                    go_simp
                    all_goals first | done | rfl | omega | (simp; done) | (simp; omega) | (simp [ba_extract, htk]; done)
                  simp only [Act.put, List.setIfInBounds_toArray, List.set_cons_zero, List.set_cons_succ]
                  refine M_val (i := 21) (v := .string ⟨s.toArray⟩) SU.out rfl (by kernel_rfl) HS.out rfl (fun W hS => ?_) ?_
                  · obtain rfl := hS
                    go_simp
                    all_goals first | done | rfl | omega | (simp; done) | (simp; omega) | (simp [ba_extract, htk]; done)
                  simp only [Act.put, List.setIfInBounds_toArray, List.set_cons_zero, List.set_cons_succ]
                  refine M_val (i := 22) (v := ?_) SU.out rfl (by kernel_rfl) HS.out rfl (fun W hS => ?_) ?_
                  rotate_left
                  · obtain rfl := hS
                    go_simp
                    all_goals first | done | rfl | omega | (simp; done) | (simp; omega) | (simp [ba_extract, htk]; done)
                  simp only [Act.put, List.setIfInBounds_toArray, List.set_cons_zero, List.set_cons_succ]
                  refine M_val (i := 23) (v := .bool false) SU.out rfl (by kernel_rfl) HS.out rfl (fun W hS => ?_) ?_
                  · obtain rfl := hS
                    go_simp
                    all_goals first | done | rfl | omega | (simp; done) | (simp; omega) | (simp [ba_extract, htk]; done)
                  simp only [Act.put, List.setIfInBounds_toArray, List.set_cons_zero, List.set_cons_succ]
                  refine M_val (i := 24) (v := .bool false) SU.out rfl (by kernel_rfl) HS.out rfl (fun W hS => ?_) ?_
                  · obtain rfl := hS
                    go_simp
                    all_goals first | done | rfl | omega | (simp; done) | (simp; omega) | (simp [ba_extract, htk]; done)
                  simp only [Act.put, List.setIfInBounds_toArray, List.set_cons_zero, List.set_cons_succ]
                  refine M_move (i := 25) _ SU.out rfl rfl (by kernel_rfl) HS.out rfl ?_
                  simp only [Act.put, Act.eval, Array.getD_eq_getD_getElem?, List.setIfInBounds_toArray, List.set_cons_zero, List.set_cons_succ, List.getElem?_toArray, List.getElem?_cons_zero, List.getElem?_cons_succ, Option.getD_some]
                  refine M_move (i := 26) _ SU.out rfl rfl (by kernel_rfl) HS.out rfl ?_
                  simp only [Act.put, Act.eval, Array.getD_eq_getD_getElem?, List.setIfInBounds_toArray, List.set_cons_zero, List.set_cons_succ, List.getElem?_toArray, List.getElem?_cons_zero, List.getElem?_cons_succ, Option.getD_some]
                  refine M_move (i := 27) _ SU.out rfl rfl (by kernel_rfl) HS.out rfl ?_
                  simp only [Act.put, Act.eval, Array.getD_eq_getD_getElem?, List.setIfInBounds_toArray, List.set_cons_zero, List.set_cons_succ, List.getElem?_toArray, List.getElem?_cons_zero, List.getElem?_cons_succ, Option.getD_some]
                  refine M_val (i := 28) (v := ?_) SU.out rfl (by kernel_rfl) HS.out rfl (fun W hS => ?_) ?_
                  rotate_left
                  · obtain rfl := hS
                    go_simp
                    all_goals first | done | rfl | omega | (simp; done) | (simp; omega) | (simp [ba_extract, htk]; done)
                  simp only [Act.put, List.setIfInBounds_toArray, List.set_cons_zero, List.set_cons_succ]
                  refine M_val (i := 29) (v := .string ⟨s.toArray⟩) SU.out rfl (by kernel_rfl) HS.out rfl (fun W hS => ?_) ?_
                  · obtain rfl := hS
                    go_simp
                    all_goals first | done | rfl | omega | (simp; done) | (simp; omega) | (simp [ba_extract, htk]; done)
                  simp only [Act.put, List.setIfInBounds_toArray, List.set_cons_zero, List.set_cons_succ]
                  refine M_move (i := 30) _ SU.out rfl rfl (by kernel_rfl) HS.out rfl ?_
                  simp only [Act.put, Act.eval, Array.getD_eq_getD_getElem?, List.setIfInBounds_toArray, List.set_cons_zero, List.set_cons_succ, List.getElem?_toArray, List.getElem?_cons_zero, List.getElem?_cons_succ, Option.getD_some]
                  refine M_move (i := 31) _ SU.out rfl rfl (by kernel_rfl) HS.out rfl ?_
                  simp only [Act.put, Act.eval, Array.getD_eq_getD_getElem?, List.setIfInBounds_toArray, List.set_cons_zero, List.set_cons_succ, List.getElem?_toArray, List.getElem?_cons_zero, List.getElem?_cons_succ, Option.getD_some]
                  refine M_val (i := 32) (v := ?_) SU.out rfl (by kernel_rfl) HS.out rfl (fun W hS => ?_) ?_
                  rotate_left
                  · obtain rfl := hS
                    go_simp
                    all_goals first | done | rfl | omega | (simp; done) | (simp; omega) | (simp [ba_extract, htk]; done)
                  simp only [Act.put, List.setIfInBounds_toArray, List.set_cons_zero, List.set_cons_succ]
                  refine M_val (i := 33) (v := .string ⟨r.toArray⟩) SU.out rfl (by kernel_rfl) HS.out rfl (fun W hS => ?_) ?_
                  · obtain rfl := hS
                    go_simp
                    all_goals first | done | rfl | omega | (simp; done) | (simp; omega) | (simp [ba_extract, htk]; done)
                  simp only [Act.put, List.setIfInBounds_toArray, List.set_cons_zero, List.set_cons_succ]
                  refine M_val (i := 34) (v := ?_) SU.out rfl (by kernel_rfl) HS.out rfl (fun W hS => ?_) ?_
                  rotate_left
                  · obtain rfl := hS
                    go_simp
                    all_goals first | done | rfl | omega | (simp; done) | (simp; omega) | (simp [ba_extract, htk]; done)
                  simp only [Act.put, List.setIfInBounds_toArray, List.set_cons_zero, List.set_cons_succ]
                  refine M_val (i := 35) (v := .string ⟨r.toArray⟩) SU.out rfl (by kernel_rfl) HS.out rfl (fun W hS => ?_) ?_
                  · obtain rfl := hS
                    go_simp
                    all_goals first | done | rfl | omega | (simp; done) | (simp; omega) | (simp [ba_extract, htk]; done)
                  simp only [Act.put, List.setIfInBounds_toArray, List.set_cons_zero, List.set_cons_succ]
                  refine M_move (i := 36) _ SU.out rfl rfl (by kernel_rfl) HS.out rfl ?_
                  simp only [Act.put, Act.eval, Array.getD_eq_getD_getElem?, List.setIfInBounds_toArray, List.set_cons_zero, List.set_cons_succ, List.getElem?_toArray, List.getElem?_cons_zero, List.getElem?_cons_succ, Option.getD_some]
                  refine M_move (i := 37) _ SU.out rfl rfl (by kernel_rfl) HS.out rfl ?_
                  simp only [Act.put, Act.eval, Array.getD_eq_getD_getElem?, List.setIfInBounds_toArray, List.set_cons_zero, List.set_cons_succ, List.getElem?_toArray, List.getElem?_cons_zero, List.getElem?_cons_succ, Option.getD_some]
                  refine M_val (i := 38) (v := ?_) SU.out rfl (by kernel_rfl) HS.out rfl (fun W hS => ?_) ?_
                  rotate_left
                  · obtain rfl := hS
                    go_simp
                    all_goals first | done | rfl | omega | (simp; done) | (simp; omega) | (simp [ba_extract, htk]; done)
                  simp only [Act.put, List.setIfInBounds_toArray, List.set_cons_zero, List.set_cons_succ]
                  refine M_val (i := 39) (v := .string ⟨r.toArray⟩) SU.out rfl (by kernel_rfl) HS.out rfl (fun W hS => ?_) ?_
                  · obtain rfl := hS
                    go_simp
                    all_goals first | done | rfl | omega | (simp; done) | (simp; omega) | (simp [ba_extract, htk]; done)
                  simp only [Act.put, List.setIfInBounds_toArray, List.set_cons_zero, List.set_cons_succ]
                  refine M_val (i := 40) (v := .bool false) SU.out rfl (by kernel_rfl) HS.out rfl (fun W hS => ?_) ?_
                  · obtain rfl := hS
                    go_simp
                    all_goals first | done | rfl | omega | (simp; done) | (simp; omega) | (simp [ba_extract, htk]; done)
                  simp only [Act.put, List.setIfInBounds_toArray, List.set_cons_zero, List.set_cons_succ]
                  refine M_val (i := 41) (v := .bool false) SU.out rfl (by kernel_rfl) HS.out rfl (fun W hS => ?_) ?_
                  · obtain rfl := hS
                    go_simp
                    all_goals first | done | rfl | omega | (simp; done) | (simp; omega) | (simp [ba_extract, htk]; done)
                  simp only [Act.put, List.setIfInBounds_toArray, List.set_cons_zero, List.set_cons_succ]
                  refine M_move (i := 42) _ SU.out rfl rfl (by kernel_rfl) HS.out rfl ?_
                  simp only [Act.put, Act.eval, Array.getD_eq_getD_getElem?, List.setIfInBounds_toArray, List.set_cons_zero, List.set_cons_succ, List.getElem?_toArray, List.getElem?_cons_zero, List.getElem?_cons_succ, Option.getD_some]
                  refine M_val (i := 43) (v := ?_) SU.out rfl (by kernel_rfl) HS.out rfl (fun W hS => ?_) ?_
                  rotate_left
                  · obtain rfl := hS
                    go_simp
                    all_goals first | done | rfl | omega | (simp; done) | (simp; omega) | (simp [ba_extract, htk]; done)
                  simp only [Act.put, List.setIfInBounds_toArray, List.set_cons_zero, List.set_cons_succ]
                  refine M_val (i := 44) (v := .bool true) SU.out rfl (by kernel_rfl) HS.out rfl (fun W hS => ?_) ?_
                  · obtain rfl := hS
                    go_simp
                    all_goals first | done | rfl | omega | (simp; done) | (simp; omega) | (simp [ba_extract, htk]; done)
                  simp only [Act.put, List.setIfInBounds_toArray, List.set_cons_zero, List.set_cons_succ]
                  refine M_val (i := 45) (v := .bool false) SU.out rfl (by kernel_rfl) HS.out rfl (fun W hS => ?_) ?_
                  · obtain rfl := hS
                    go_simp
                    all_goals first | done | rfl | omega | (simp; done) | (simp; omega) | (simp [ba_extract, htk]; done)
                  simp only [Act.put, List.setIfInBounds_toArray, List.set_cons_zero, List.set_cons_succ]
                  refine M_move (i := 46) _ SU.out rfl rfl (by kernel_rfl) HS.out rfl ?_
                  simp only [Act.put, Act.eval, Array.getD_eq_getD_getElem?, List.setIfInBounds_toArray, List.set_cons_zero, List.set_cons_succ, List.getElem?_toArray, List.getElem?_cons_zero, List.getElem?_cons_succ, Option.getD_some]
                  refine M_skip (i := 47) SU.out rfl (by kernel_rfl) HS.out rfl ?_
                  simp only [Act.put, List.setIfInBounds_toArray, List.set_cons_zero, List.set_cons_succ]
                  refine M_skip (i := 48) SU.out rfl (by kernel_rfl) HS.out rfl ?_
                  simp only [Act.put, List.setIfInBounds_toArray, List.set_cons_zero, List.set_cons_succ]
                  refine M_skip (i := 49) SU.out rfl (by kernel_rfl) HS.out rfl ?_
                  simp only [Act.put, List.setIfInBounds_toArray, List.set_cons_zero, List.set_cons_succ]
                  refine M_skip (i := 50) SU.out rfl (by kernel_rfl) HS.out rfl ?_
                  simp only [Act.put, List.setIfInBounds_toArray, List.set_cons_zero, List.set_cons_succ]
                  refine M_skip (i := 51) SU.out rfl (by kernel_rfl) HS.out rfl ?_
                  simp only [Act.put, List.setIfInBounds_toArray, List.set_cons_zero, List.set_cons_succ]
                  refine M_skip (i := 52) SU.out rfl (by kernel_rfl) HS.out rfl ?_
                  simp only [Act.put, List.setIfInBounds_toArray, List.set_cons_zero, List.set_cons_succ]
                  refine M_skip (i := 53) SU.out rfl (by kernel_rfl) HS.out rfl ?_
                  simp only [Act.put, List.setIfInBounds_toArray, List.set_cons_zero, List.set_cons_succ]
                  refine M_skip (i := 54) SU.out rfl (by kernel_rfl) HS.out rfl ?_
                  simp only [Act.put, List.setIfInBounds_toArray, List.set_cons_zero, List.set_cons_succ]
                  refine M_skip (i := 55) SU.out rfl (by kernel_rfl) HS.out rfl ?_
                  simp only [Act.put, List.setIfInBounds_toArray, List.set_cons_zero, List.set_cons_succ]
                  refine M_skip (i := 56) SU.out rfl (by kernel_rfl) HS.out rfl ?_
                  simp only [Act.put, List.setIfInBounds_toArray, List.set_cons_zero, List.set_cons_succ]
                  refine M_skip (i := 57) SU.out rfl (by kernel_rfl) HS.out rfl ?_
                  simp only [Act.put, List.setIfInBounds_toArray, List.set_cons_zero, List.set_cons_succ]
                  refine M_skip (i := 58) SU.out rfl (by kernel_rfl) HS.out rfl ?_
                  simp only [Act.put, List.setIfInBounds_toArray, List.set_cons_zero, List.set_cons_succ]
                  refine M_skip (i := 59) SU.out rfl (by kernel_rfl) HS.out rfl ?_
                  simp only [Act.put, List.setIfInBounds_toArray, List.set_cons_zero, List.set_cons_succ]
                  refine M_val (i := 60) (v := .bool false) SU.out rfl (by kernel_rfl) HS.out rfl (fun W hS => ?_) ?_
                  · obtain rfl := hS
                    go_simp
                    all_goals first | done | rfl | omega | (simp; done) | (simp; omega) | (simp [ba_extract, htk]; done)
                  simp only [Act.put, List.setIfInBounds_toArray, List.set_cons_zero, List.set_cons_succ]
                  refine M_val (i := 61) (v := .bool false) SU.out rfl (by kernel_rfl) HS.out rfl (fun W hS => ?_) ?_
                  · obtain rfl := hS
                    go_simp
                    all_goals first | done | rfl | omega | (simp; done) | (simp; omega) | (simp [ba_extract, htk]; done)
                  simp only [Act.put, List.setIfInBounds_toArray, List.set_cons_zero, List.set_cons_succ]
                  refine wpAnyM_done (by kernel_rfl) (fun w' hG => ?_)
                  obtain rfl := hG
                  go_wp2_with fail
                  go_roundw
                  case rel => exact ⟨c + 1, by go_num, by omega, by omega, HN0.out⟩
                  case measure => first | (simp [intOf]; done) | (simp [intOf]; omega)
              | false =>
                as_aux_lemma =>
                  have hri : r ++ inn = s := hinn rfl
                  have hl3 : r.length + inn.length ≤ 9223372036854775807 := by have := congrArg List.length hri; rw [List.length_append] at this; omega
                  clear hinn
                  refine wp_region_M_ (G := fun a b => a = b) (S := fun W => W = V7.drew) ⟨fun _ => rfl, fun a b c h k => h.trans k, fun a b h k => k ▸ h, by kernel_rfl, fun _ _ d _ _ h => by cases d <;> exact h⟩ (by kernel_rfl) fun su => ?_
                  have SU := Lib.hid su
                  have HS : Hid (V7.drew = V7.drew) := Lib.hid rfl
                  clear su
                  generalize V7.drew = wq at *
                  refine M_move (i := 0) _ SU.out rfl rfl (by kernel_rfl) HS.out rfl ?_
                  simp only [Act.put, Act.eval, Array.getD_eq_getD_getElem?, List.setIfInBounds_toArray, List.set_cons_zero, List.set_cons_succ, List.getElem?_toArray, List.getElem?_cons_zero, List.getElem?_cons_succ, Option.getD_some]
                  refine M_val (i := 1) (v := .bool false) SU.out rfl (by kernel_rfl) HS.out rfl (fun W hS => ?_) ?_
                  · obtain rfl := hS
                    go_simp
                    all_goals first | done | rfl | omega | (simp; done) | (simp; omega) | (simp [ba_extract, htk]; done) | (simp [ba_append, hri]; done) | (simp [ba_append, hri]; omega)
                  simp only [Act.put, List.setIfInBounds_toArray, List.set_cons_zero, List.set_cons_succ]
                  refine M_move (i := 2) _ SU.out rfl rfl (by kernel_rfl) HS.out rfl ?_
                  simp only [Act.put, Act.eval, Array.getD_eq_getD_getElem?, List.setIfInBounds_toArray, List.set_cons_zero, List.set_cons_succ, List.getElem?_toArray, List.getElem?_cons_zero, List.getElem?_cons_succ, Option.getD_some]
                  refine M_val (i := 3) (v := ?_) SU.out rfl (by kernel_rfl) HS.out rfl (fun W hS => ?_) ?_
                  rotate_left
                  · obtain rfl := hS
                    go_simp
                    all_goals first | done | rfl | omega | (simp; done) | (simp; omega) | (simp [ba_extract, htk]; done) | (simp [ba_append, hri]; done) | (simp [ba_append, hri]; omega)
                  simp only [Act.put, List.setIfInBounds_toArray, List.set_cons_zero, List.set_cons_succ]
                  refine M_val (i := 4) (v := ?_) SU.out rfl (by kernel_rfl) HS.out rfl (fun W hS => ?_) ?_
                  rotate_left
                  · obtain rfl := hS
                    go_simp
                    all_goals first | done | rfl | omega | (simp; done) | (simp; omega) | (simp [ba_extract, htk]; done) | (simp [ba_append, hri]; done) | (simp [ba_append, hri]; omega)
                  simp only [Act.put, List.setIfInBounds_toArray, List.set_cons_zero, List.set_cons_succ]
                  refine M_val (i := 5) (v := .string ⟨t.toArray⟩) SU.out rfl (by kernel_rfl) HS.out rfl (fun W hS => ?_) ?_
                  · obtain rfl := hS
                    go_simp
                    all_goals first | done | rfl | omega | (simp; done) | (simp; omega) | (simp [ba_extract, htk]; done) | (simp [ba_append, hri]; done) | (simp [ba_append, hri]; omega)
                  simp only [Act.put, List.setIfInBounds_toArray, List.set_cons_zero, List.set_cons_succ]
                  refine M_move (i := 6) _ SU.out rfl rfl (by kernel_rfl) HS.out rfl ?_
                  simp only [Act.put, Act.eval, Array.getD_eq_getD_getElem?, List.setIfInBounds_toArray, List.set_cons_zero, List.set_cons_succ, List.getElem?_toArray, List.getElem?_cons_zero, List.getElem?_cons_succ, Option.getD_some]
                  refine M_move (i := 7) _ SU.out rfl rfl (by kernel_rfl) HS.out rfl ?_
                  simp only [Act.put, Act.eval, Array.getD_eq_getD_getElem?, List.setIfInBounds_toArray, List.set_cons_zero, List.set_cons_succ, List.getElem?_toArray, List.getElem?_cons_zero, List.getElem?_cons_succ, Option.getD_some]
                  refine M_val (i := 8) (v := ?_) SU.out rfl (by kernel_rfl) HS.out rfl (fun W hS => ?_) ?_
                  rotate_left
                  · obtain rfl := hS
                    go_simp
                    all_goals first | done | rfl | omega | (simp; done) | (simp; omega) | (simp [ba_extract, htk]; done) | (simp [ba_append, hri]; done) | (simp [ba_append, hri]; omega)
                  simp only [Act.put, List.setIfInBounds_toArray, List.set_cons_zero, List.set_cons_succ]
                  refine M_val (i := 9) (v := .string ⟨t.toArray⟩) SU.out rfl (by kernel_rfl) HS.out rfl (fun W hS => ?_) ?_
                  · obtain rfl := hS
                    go_simp
                    all_goals first | done | rfl | omega | (simp; done) | (simp; omega) | (simp [ba_extract, htk]; done) | (simp [ba_append, hri]; done) | (simp [ba_append, hri]; omega)
                  simp only [Act.put, List.setIfInBounds_toArray, List.set_cons_zero, List.set_cons_succ]
                  refine M_val (i := 10) (v := .bool false) SU.out rfl (by kernel_rfl) HS.out rfl (fun W hS => ?_) ?_
                  · obtain rfl := hS
                    go_simp
                    all_goals first | done | rfl | omega | (simp; done) | (simp; omega) | (simp [ba_extract, htk]; done) | (simp [ba_append, hri]; done) | (simp [ba_append, hri]; omega)
                  simp only [Act.put, List.setIfInBounds_toArray, List.set_cons_zero, List.set_cons_succ]
                  refine M_val (i := 11) (v := .bool false) SU.out rfl (by kernel_rfl) HS.out rfl (fun W hS => ?_) ?_
                  · obtain rfl := hS
                    go_simp
                    all_goals first | done | rfl | omega | (simp; done) | (simp; omega) | (simp [ba_extract, htk]; done) | (simp [ba_append, hri]; done) | (simp [ba_append, hri]; omega)
                  simp only [Act.put, List.setIfInBounds_toArray, List.set_cons_zero, List.set_cons_succ]
                  refine M_move (i := 12) _ SU.out rfl rfl (by kernel_rfl) HS.out rfl ?_
                  simp only [Act.put, Act.eval, Array.getD_eq_getD_getElem?, List.setIfInBounds_toArray, List.set_cons_zero, List.set_cons_succ, List.getElem?_toArray, List.getElem?_cons_zero, List.getElem?_cons_succ, Option.getD_some]
                  refine M_move (i := 13) _ SU.out rfl rfl (by kernel_rfl) HS.out rfl ?_
                  simp only [Act.put, Act.eval, Array.getD_eq_getD_getElem?, List.setIfInBounds_toArray, List.set_cons_zero, List.set_cons_succ, List.getElem?_toArray, List.getElem?_cons_zero, List.getElem?_cons_succ, Option.getD_some]
                  refine M_move (i := 14) _ SU.out rfl rfl (by kernel_rfl) HS.out rfl ?_
                  simp only [Act.put, Act.eval, Array.getD_eq_getD_getElem?, List.setIfInBounds_toArray, List.set_cons_zero, List.set_cons_succ, List.getElem?_toArray, List.getElem?_cons_zero, List.getElem?_cons_succ, Option.getD_some]
                  refine M_val (i := 15) (v := ?_) SU.out rfl (by kernel_rfl) HS.out rfl (fun W hS => ?_) ?_
                  rotate_left
                  · obtain rfl := hS
                    go_simp
                    all_goals first | done | rfl | omega | (simp; done) | (simp; omega) | (simp [ba_extract, htk]; done) | (simp [ba_append, hri]; done) | (simp [ba_append, hri]; omega)
                  simp only [Act.put, List.setIfInBounds_toArray, List.set_cons_zero, List.set_cons_succ]
                  refine M_val (i := 16) (v := .string ⟨r.toArray⟩) SU.out rfl (by kernel_rfl) HS.out rfl (fun W hS => ?_) ?_
                  · obtain rfl := hS
                    go_simp
                    all_goals first | done | rfl | omega | (simp; done) | (simp; omega) | (simp [ba_extract, htk]; done) | (simp [ba_append, hri]; done) | (simp [ba_append, hri]; omega)
                  simp only [Act.put, List.setIfInBounds_toArray, List.set_cons_zero, List.set_cons_succ]
                  refine M_val (i := 17) (v := ?_) SU.out rfl (by kernel_rfl) HS.out rfl (fun W hS => ?_) ?_
                  rotate_left
                  · obtain rfl := hS
                    go_simp
                    all_goals first | done | rfl | omega | (simp; done) | (simp; omega) | (simp [ba_extract, htk]; done) | (simp [ba_append, hri]; done) | (simp [ba_append, hri]; omega)
                  simp only [Act.put, List.setIfInBounds_toArray, List.set_cons_zero, List.set_cons_succ]
                  refine M_move (i := 18) _ SU.out rfl rfl (by kernel_rfl) HS.out rfl ?_
                  simp only [Act.put, Act.eval, Array.getD_eq_getD_getElem?, List.setIfInBounds_toArray, List.set_cons_zero, List.set_cons_succ, List.getElem?_toArray, List.getElem?_cons_zero, List.getElem?_cons_succ, Option.getD_some]
                  refine M_move (i := 19) _ SU.out rfl rfl (by kernel_rfl) HS.out rfl ?_
                  simp only [Act.put, Act.eval, Array.getD_eq_getD_getElem?, List.setIfInBounds_toArray, List.set_cons_zero, List.set_cons_succ, List.getElem?_toArray, List.getElem?_cons_zero, List.getElem?_cons_succ, Option.getD_some]
                  refine M_val (i := 20) (v := ?_) SU.out rfl (by kernel_rfl) HS.out rfl (fun W hS => ?_) ?_
                  rotate_left
                  · obtain rfl := hS
                    go_simp
                    all_goals first | done | rfl | omega | (simp; done) | (simp; omega) | (simp [ba_extract, htk]; done) | (simp [ba_append, hri]; done) | (simp [ba_append, hri]; omega)
                  simp only [Act.put, List.setIfInBounds_toArray, List.set_cons_zero, List.set_cons_succ]
                  refine M_val (i := 21) (v := .string ⟨s.toArray⟩) SU.out rfl (by kernel_rfl) HS.out rfl (fun W hS => ?_) ?_
                  · obtain rfl := hS
                    go_simp
                    all_goals first | done | rfl | omega | (simp; done) | (simp; omega) | (simp [ba_extract, htk]; done) | (simp [ba_append, hri]; done) | (simp [ba_append, hri]; omega)
                  simp only [Act.put, List.setIfInBounds_toArray, List.set_cons_zero, List.set_cons_succ]
                  refine M_val (i := 22) (v := ?_) SU.out rfl (by kernel_rfl) HS.out rfl (fun W hS => ?_) ?_
                  rotate_left
                  · obtain rfl := hS
                    go_simp
                    all_goals first | done | rfl | omega | (simp; done) | (simp; omega) | (simp [ba_extract, htk]; done) | (simp [ba_append, hri]; done) | (simp [ba_append, hri]; omega)
                  simp only [Act.put, List.setIfInBounds_toArray, List.set_cons_zero, List.set_cons_succ]
                  refine M_val (i := 23) (v := .bool false) SU.out rfl (by kernel_rfl) HS.out rfl (fun W hS => ?_) ?_
                  · obtain rfl := hS
                    go_simp
                    all_goals first | done | rfl | omega | (simp; done) | (simp; omega) | (simp [ba_extract, htk]; done) | (simp [ba_append, hri]; done) | (simp [ba_append, hri]; omega)
                  simp only [Act.put, List.setIfInBounds_toArray, List.set_cons_zero, List.set_cons_succ]
                  refine M_val (i := 24) (v := .bool false) SU.out rfl (by kernel_rfl) HS.out rfl (fun W hS => ?_) ?_
                  · obtain rfl := hS
                    go_simp
                    all_goals first | done | rfl | omega | (simp; done) | (simp; omega) | (simp [ba_extract, htk]; done) | (simp [ba_append, hri]; done) | (simp [ba_append, hri]; omega)
                  simp only [Act.put, List.setIfInBounds_toArray, List.set_cons_zero, List.set_cons_succ]
                  refine M_move (i := 25) _ SU.out rfl rfl (by kernel_rfl) HS.out rfl ?_
                  simp only [Act.put, Act.eval, Array.getD_eq_getD_getElem?, List.setIfInBounds_toArray, List.set_cons_zero, List.set_cons_succ, List.getElem?_toArray, List.getElem?_cons_zero, List.getElem?_cons_succ, Option.getD_some]
                  refine M_move (i := 26) _ SU.out rfl rfl (by kernel_rfl) HS.out rfl ?_
                  simp only [Act.put, Act.eval, Array.getD_eq_getD_getElem?, List.setIfInBounds_toArray, List.set_cons_zero, List.set_cons_succ, List.getElem?_toArray, List.getElem?_cons_zero, List.getElem?_cons_succ, Option.getD_some]
                  refine M_move (i := 27) _ SU.out rfl rfl (by kernel_rfl) HS.out rfl ?_
                  simp only [Act.put, Act.eval, Array.getD_eq_getD_getElem?, List.setIfInBounds_toArray, List.set_cons_zero, List.set_cons_succ, List.getElem?_toArray, List.getElem?_cons_zero, List.getElem?_cons_succ, Option.getD_some]
                  refine M_val (i := 28) (v := ?_) SU.out rfl (by kernel_rfl) HS.out rfl (fun W hS => ?_) ?_
                  rotate_left
                  · obtain rfl := hS
                    go_simp
                    all_goals first | done | rfl | omega | (simp; done) | (simp; omega) | (simp [ba_extract, htk]; done) | (simp [ba_append, hri]; done) | (simp [ba_append, hri]; omega)
                  simp only [Act.put, List.setIfInBounds_toArray, List.set_cons_zero, List.set_cons_succ]
                  refine M_val (i := 29) (v := .string ⟨s.toArray⟩) SU.out rfl (by kernel_rfl) HS.out rfl (fun W hS => ?_) ?_
                  · obtain rfl := hS
                    go_simp
                    all_goals first | done | rfl | omega | (simp; done) | (simp; omega) | (simp [ba_extract, htk]; done) | (simp [ba_append, hri]; done) | (simp [ba_append, hri]; omega)
                  simp only [Act.put, List.setIfInBounds_toArray, List.set_cons_zero, List.set_cons_succ]
                  refine M_move (i := 30) _ SU.out rfl rfl (by kernel_rfl) HS.out rfl ?_
                  simp only [Act.put, Act.eval, Array.getD_eq_getD_getElem?, List.setIfInBounds_toArray, List.set_cons_zero, List.set_cons_succ, List.getElem?_toArray, List.getElem?_cons_zero, List.getElem?_cons_succ, Option.getD_some]
                  refine M_move (i := 31) _ SU.out rfl rfl (by kernel_rfl) HS.out rfl ?_
                  simp only [Act.put, Act.eval, Array.getD_eq_getD_getElem?, List.setIfInBounds_toArray, List.set_cons_zero, List.set_cons_succ, List.getElem?_toArray, List.getElem?_cons_zero, List.getElem?_cons_succ, Option.getD_some]
                  refine M_val (i := 32) (v := ?_) SU.out rfl (by kernel_rfl) HS.out rfl (fun W hS => ?_) ?_
                  rotate_left
                  · obtain rfl := hS
                    go_simp
                    all_goals first | done | rfl | omega | (simp; done) | (simp; omega) | (simp [ba_extract, htk]; done) | (simp [ba_append, hri]; done) | (simp [ba_append, hri]; omega)
                  simp only [Act.put, List.setIfInBounds_toArray, List.set_cons_zero, List.set_cons_succ]
                  refine M_val (i := 33) (v := .string ⟨r.toArray⟩) SU.out rfl (by kernel_rfl) HS.out rfl (fun W hS => ?_) ?_
                  · obtain rfl := hS
                    go_simp
                    all_goals first | done | rfl | omega | (simp; done) | (simp; omega) | (simp [ba_extract, htk]; done) | (simp [ba_append, hri]; done) | (simp [ba_append, hri]; omega)
                  simp only [Act.put, List.setIfInBounds_toArray, List.set_cons_zero, List.set_cons_succ]
                  refine M_val (i := 34) (v := ?_) SU.out rfl (by kernel_rfl) HS.out rfl (fun W hS => ?_) ?_
                  rotate_left
                  · obtain rfl := hS
                    go_simp
                    all_goals first | done | rfl | omega | (simp; done) | (simp; omega) | (simp [ba_extract, htk]; done) | (simp [ba_append, hri]; done) | (simp [ba_append, hri]; omega)
                  simp only [Act.put, List.setIfInBounds_toArray, List.set_cons_zero, List.set_cons_succ]
                  refine M_val (i := 35) (v := .string ⟨r.toArray⟩) SU.out rfl (by kernel_rfl) HS.out rfl (fun W hS => ?_) ?_
                  · obtain rfl := hS
                    go_simp
                    all_goals first | done | rfl | omega | (simp; done) | (simp; omega) | (simp [ba_extract, htk]; done) | (simp [ba_append, hri]; done) | (simp [ba_append, hri]; omega)
                  simp only [Act.put, List.setIfInBounds_toArray, List.set_cons_zero, List.set_cons_succ]
                  refine M_move (i := 36) _ SU.out rfl rfl (by kernel_rfl) HS.out rfl ?_
                  simp only [Act.put, Act.eval, Array.getD_eq_getD_getElem?, List.setIfInBounds_toArray, List.set_cons_zero, List.set_cons_succ, List.getElem?_toArray, List.getElem?_cons_zero, List.getElem?_cons_succ, Option.getD_some]
                  refine M_move (i := 37) _ SU.out rfl rfl (by kernel_rfl) HS.out rfl ?_
                  simp only [Act.put, Act.eval, Array.getD_eq_getD_getElem?, List.setIfInBounds_toArray, List.set_cons_zero, List.set_cons_succ, List.getElem?_toArray, List.getElem?_cons_zero, List.getElem?_cons_succ, Option.getD_some]
                  refine M_val (i := 38) (v := ?_) SU.out rfl (by kernel_rfl) HS.out rfl (fun W hS => ?_) ?_
                  rotate_left
                  · obtain rfl := hS
                    go_simp
                    all_goals first | done | rfl | omega | (simp; done) | (simp; omega) | (simp [ba_extract, htk]; done) | (simp [ba_append, hri]; done) | (simp [ba_append, hri]; omega)
                  simp only [Act.put, List.setIfInBounds_toArray, List.set_cons_zero, List.set_cons_succ]
                  refine M_val (i := 39) (v := .string ⟨r.toArray⟩) SU.out rfl (by kernel_rfl) HS.out rfl (fun W hS => ?_) ?_
                  · obtain rfl := hS
                    go_simp
                    all_goals first | done | rfl | omega | (simp; done) | (simp; omega) | (simp [ba_extract, htk]; done) | (simp [ba_append, hri]; done) | (simp [ba_append, hri]; omega)
                  simp only [Act.put, List.setIfInBounds_toArray, List.set_cons_zero, List.set_cons_succ]
                  refine M_val (i := 40) (v := .bool false) SU.out rfl (by kernel_rfl) HS.out rfl (fun W hS => ?_) ?_
                  · obtain rfl := hS
                    go_simp
                    all_goals first | done | rfl | omega | (simp; done) | (simp; omega) | (simp [ba_extract, htk]; done) | (simp [ba_append, hri]; done) | (simp [ba_append, hri]; omega)
                  simp only [Act.put, List.setIfInBounds_toArray, List.set_cons_zero, List.set_cons_succ]
                  refine M_val (i := 41) (v := .bool false) SU.out rfl (by kernel_rfl) HS.out rfl (fun W hS => ?_) ?_
                  · obtain rfl := hS
                    go_simp
                    all_goals first | done | rfl | omega | (simp; done) | (simp; omega) | (simp [ba_extract, htk]; done) | (simp [ba_append, hri]; done) | (simp [ba_append, hri]; omega)
                  simp only [Act.put, List.setIfInBounds_toArray, List.set_cons_zero, List.set_cons_succ]
                  refine M_move (i := 42) _ SU.out rfl rfl (by kernel_rfl) HS.out rfl ?_
                  simp only [Act.put, Act.eval, Array.getD_eq_getD_getElem?, List.setIfInBounds_toArray, List.set_cons_zero, List.set_cons_succ, List.getElem?_toArray, List.getElem?_cons_zero, List.getElem?_cons_succ, Option.getD_some]
                  refine M_val (i := 43) (v := ?_) SU.out rfl (by kernel_rfl) HS.out rfl (fun W hS => ?_) ?_
                  rotate_left
                  · obtain rfl := hS
                    go_simp
                    all_goals first | done | rfl | omega | (simp; done) | (simp; omega) | (simp [ba_extract, htk]; done) | (simp [ba_append, hri]; done) | (simp [ba_append, hri]; omega)
                  simp only [Act.put, List.setIfInBounds_toArray, List.set_cons_zero, List.set_cons_succ]
                  refine M_val (i := 44) (v := .bool false) SU.out rfl (by kernel_rfl) HS.out rfl (fun W hS => ?_) ?_
                  · obtain rfl := hS
                    go_simp
                    all_goals first | done | rfl | omega | (simp; done) | (simp; omega) | (simp [ba_extract, htk]; done) | (simp [ba_append, hri]; done) | (simp [ba_append, hri]; omega)
                  simp only [Act.put, List.setIfInBounds_toArray, List.set_cons_zero, List.set_cons_succ]
                  refine M_val (i := 45) (v := .bool true) SU.out rfl (by kernel_rfl) HS.out rfl (fun W hS => ?_) ?_
                  · obtain rfl := hS
                    go_simp
                    all_goals first | done | rfl | omega | (simp; done) | (simp; omega) | (simp [ba_extract, htk]; done) | (simp [ba_append, hri]; done) | (simp [ba_append, hri]; omega)
                  simp only [Act.put, List.setIfInBounds_toArray, List.set_cons_zero, List.set_cons_succ]
                  refine M_move (i := 46) _ SU.out rfl rfl (by kernel_rfl) HS.out rfl ?_
                  simp only [Act.put, Act.eval, Array.getD_eq_getD_getElem?, List.setIfInBounds_toArray, List.set_cons_zero, List.set_cons_succ, List.getElem?_toArray, List.getElem?_cons_zero, List.getElem?_cons_succ, Option.getD_some]
                  refine M_move (i := 47) _ SU.out rfl rfl (by kernel_rfl) HS.out rfl ?_
                  simp only [Act.put, Act.eval, Array.getD_eq_getD_getElem?, List.setIfInBounds_toArray, List.set_cons_zero, List.set_cons_succ, List.getElem?_toArray, List.getElem?_cons_zero, List.getElem?_cons_succ, Option.getD_some]
                  refine M_move (i := 48) _ SU.out rfl rfl (by kernel_rfl) HS.out rfl ?_
                  simp only [Act.put, Act.eval, Array.getD_eq_getD_getElem?, List.setIfInBounds_toArray, List.set_cons_zero, List.set_cons_succ, List.getElem?_toArray, List.getElem?_cons_zero, List.getElem?_cons_succ, Option.getD_some]
                  refine M_val (i := 49) (v := ?_) SU.out rfl (by kernel_rfl) HS.out rfl (fun W hS => ?_) ?_
                  rotate_left
                  · obtain rfl := hS
                    go_simp
                    all_goals first | done | rfl | omega | (simp; done) | (simp; omega) | (simp [ba_extract, htk]; done) | (simp [ba_append, hri]; done) | (simp [ba_append, hri]; omega)
                  simp only [Act.put, List.setIfInBounds_toArray, List.set_cons_zero, List.set_cons_succ]
                  refine M_val (i := 50) (v := .string ⟨r.toArray⟩) SU.out rfl (by kernel_rfl) HS.out rfl (fun W hS => ?_) ?_
                  · obtain rfl := hS
                    go_simp
                    all_goals first | done | rfl | omega | (simp; done) | (simp; omega) | (simp [ba_extract, htk]; done) | (simp [ba_append, hri]; done) | (simp [ba_append, hri]; omega)
                  simp only [Act.put, List.setIfInBounds_toArray, List.set_cons_zero, List.set_cons_succ]
                  refine M_val (i := 51) (v := ?_) SU.out rfl (by kernel_rfl) HS.out rfl (fun W hS => ?_) ?_
                  rotate_left
                  · obtain rfl := hS
                    go_simp
                    all_goals first | done | rfl | omega | (simp; done) | (simp; omega) | (simp [ba_extract, htk]; done) | (simp [ba_append, hri]; done) | (simp [ba_append, hri]; omega)
                  simp only [Act.put, List.setIfInBounds_toArray, List.set_cons_zero, List.set_cons_succ]
                  refine M_val (i := 52) (v := ?_) SU.out rfl (by kernel_rfl) HS.out rfl (fun W hS => ?_) ?_
                  rotate_left
                  · obtain rfl := hS
                    go_simp
                    all_goals first | done | rfl | omega | (simp; done) | (simp; omega) | (simp [ba_extract, htk]; done) | (simp [ba_append, hri]; done) | (simp [ba_append, hri]; omega)
                  simp only [Act.put, List.setIfInBounds_toArray, List.set_cons_zero, List.set_cons_succ]
                  refine M_val (i := 53) (v := .string ⟨inn.toArray⟩) SU.out rfl (by kernel_rfl) HS.out rfl (fun W hS => ?_) ?_
                  · obtain rfl := hS
                    go_simp
                    all_goals first | done | rfl | omega | (simp; done) | (simp; omega) | (simp [ba_extract, htk]; done) | (simp [ba_append, hri]; done) | (simp [ba_append, hri]; omega)
                  simp only [Act.put, List.setIfInBounds_toArray, List.set_cons_zero, List.set_cons_succ]
                  refine M_val (i := 54) (v := .string ⟨s.toArray⟩) SU.out rfl (by kernel_rfl) HS.out rfl (fun W hS => ?_) ?_
                  · obtain rfl := hS
                    go_simp
                    all_goals first | done | rfl | omega | (simp; done) | (simp; omega) | (simp [ba_extract, htk]; done) | (simp [ba_append, hri]; done) | (simp [ba_append, hri]; omega)
                  simp only [Act.put, List.setIfInBounds_toArray, List.set_cons_zero, List.set_cons_succ]
                  refine M_move (i := 55) _ SU.out rfl rfl (by kernel_rfl) HS.out rfl ?_
                  simp only [Act.put, Act.eval, Array.getD_eq_getD_getElem?, List.setIfInBounds_toArray, List.set_cons_zero, List.set_cons_succ, List.getElem?_toArray, List.getElem?_cons_zero, List.getElem?_cons_succ, Option.getD_some]
                  refine M_move (i := 56) _ SU.out rfl rfl (by kernel_rfl) HS.out rfl ?_
                  simp only [Act.put, Act.eval, Array.getD_eq_getD_getElem?, List.setIfInBounds_toArray, List.set_cons_zero, List.set_cons_succ, List.getElem?_toArray, List.getElem?_cons_zero, List.getElem?_cons_succ, Option.getD_some]
                  refine M_val (i := 57) (v := ?_) SU.out rfl (by kernel_rfl) HS.out rfl (fun W hS => ?_) ?_
                  rotate_left
                  · obtain rfl := hS
                    go_simp
                    all_goals first | done | rfl | omega | (simp; done) | (simp; omega) | (simp [ba_extract, htk]; done) | (simp [ba_append, hri]; done) | (simp [ba_append, hri]; omega)
                  simp only [Act.put, List.setIfInBounds_toArray, List.set_cons_zero, List.set_cons_succ]
                  refine M_val (i := 58) (v := .string ⟨s.toArray⟩) SU.out rfl (by kernel_rfl) HS.out rfl (fun W hS => ?_) ?_
                  · obtain rfl := hS
                    go_simp
                    all_goals first | done | rfl | omega | (simp; done) | (simp; omega) | (simp [ba_extract, htk]; done) | (simp [ba_append, hri]; done) | (simp [ba_append, hri]; omega)
                  simp only [Act.put, List.setIfInBounds_toArray, List.set_cons_zero, List.set_cons_succ]
                  refine M_val (i := 59) (v := .bool false) SU.out rfl (by kernel_rfl) HS.out rfl (fun W hS => ?_) ?_
                  · obtain rfl := hS
                    go_simp
                    all_goals first | done | rfl | omega | (simp; done) | (simp; omega) | (simp [ba_extract, htk]; done) | (simp [ba_append, hri]; done) | (simp [ba_append, hri]; omega)
                  simp only [Act.put, List.setIfInBounds_toArray, List.set_cons_zero, List.set_cons_succ]
                  refine M_val (i := 60) (v := .bool false) SU.out rfl (by kernel_rfl) HS.out rfl (fun W hS => ?_) ?_
                  · obtain rfl := hS
                    go_simp
                    all_goals first | done | rfl | omega | (simp; done) | (simp; omega) | (simp [ba_extract, htk]; done) | (simp [ba_append, hri]; done) | (simp [ba_append, hri]; omega)
                  simp only [Act.put, List.setIfInBounds_toArray, List.set_cons_zero, List.set_cons_succ]
                  refine M_val (i := 61) (v := .bool false) SU.out rfl (by kernel_rfl) HS.out rfl (fun W hS => ?_) ?_
                  · obtain rfl := hS
                    go_simp
                    all_goals first | done | rfl | omega | (simp; done) | (simp; omega) | (simp [ba_extract, htk]; done) | (simp [ba_append, hri]; done) | (simp [ba_append, hri]; omega)
                  simp only [Act.put, List.setIfInBounds_toArray, List.set_cons_zero, List.set_cons_succ]
                  refine wpAnyM_done (by kernel_rfl) (fun w' hG => ?_)
                  obtain rfl := hG
                  go_wp2_with fail
                  go_roundw
                  case rel => exact ⟨c + 1, by go_num, by omega, by omega, HN0.out⟩
                  case measure => first | (simp [intOf]; done) | (simp [intOf]; omega)
            · go_wp2_with fail
              go_ret
              exact ⟨rfl, HN1.out.bel⟩
theorem netOrder_open {H : Type} {enc : TypeId × Value → H} (W : World) (base : Nat) (v0 : Value) (d0 : DataW H) (p0 : List MemPlace)
    (k0 : Value.okWide Try.prog W .any base 45 v0) (h0 : DataW.Trod enc Try.prog W 0 (fun _ => true) true 45 v0 d0 p0) :
    Calls Try.prog 5 #[v0] W fun e W' => e = .returned (.bool true) ∧ Below W.heap.size W W' := by
  obtain ⟨A, n, c, K, rfl, hn, ha⟩ := actn_open k0 h0
  exact order_walk ha hn
end Go.Proofs.Ytedcheicnaphmaa
