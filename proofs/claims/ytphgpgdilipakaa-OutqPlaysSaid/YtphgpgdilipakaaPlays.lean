/-
  The walk of OutqPlays: whatever is put, taken and cleared, the queue is the document's. For every input.
-/
import Derived.Test.YtphgpgdilipakaaRefq
import Derived.Test.YtphgpgdilipakaaCode
import Derived.Test.YtphgpgdilipakaaQuOpen
import Derived.Test.YtphgpgdilipakaaDrawn
import Derived.Deep.CutRange
namespace Go.Proofs.Ytphgpgdilipakaa
open Go.RowKit Go.ChangeShapes Go.WideShapes Go.ChangeAt
set_option linter.unusedVariables false
set_option linter.unusedSimpArgs false

theorem code_gen {P : Program} {c : Code} {Q : Exit → Act → World → Prop} {a : Act} {w : World} (h : ∀ W, W = w → c.wp P Q a W) : c.wp P Q a w := h w rfl
theorem calls_gen {P : Program} {f : FuncId} {args : Array Value} {R : Ending → World → Prop} {w : World} (h : ∀ W, W = w → Calls P f args W R) : Calls P f args w R := h w rfl
/-- Bytes do not lie in the reference's block. -/
theorem bytes_apart {w : World} {A : Option Addr} {bs : List UInt8} {x : Nat} {t : TypeId} {lo hi room : Int} {l : List UInt8} {go held : Int} {ab : Bool} (h : Bytes w A bs) (hx : Bk w x t (rCells lo hi room l go held ab)) :
    bs = [] ∨ ∀ a, A = some a → a.block ≠ x := by
  rcases h with h | ⟨a, rfl, hb, hc⟩
  · left; simpa [byteVals] using h
  · cases bs with
    | nil => left; rfl
    | cons u bs =>
      right
      rintro a' e
      injection e with e
      subst e
      have h0 := hc 0 (.int .u8 (u.toNat : Int)) (by simp [byteVals])
      obtain ⟨b, off, spot⟩ := a
      rintro rfl
      cases spot with
      | some s =>
        have e0 : (⟨b, off, some s⟩ : Addr).add 0 = ⟨b, off, some s⟩ := by simp [Addr.add]
        rw [e0] at h0
        unfold World.cell? at h0
        split at h0
        · simp at h0
        · cases h0
      | none =>
        have e0 : (⟨b, off, none⟩ : Addr).add 0 = ⟨b, off, none⟩ := by simp [Addr.add]
        rw [e0, hx.cell] at h0
        unfold rCells at h0
        match off with
        | 0 | 1 | 2 | 3 | 4 | 5 | 6 => simp at h0
        | n + 7 => simp at h0
theorem Bytes.frx {w w' : World} {A : Option Addr} {bs : List UInt8} {x : Nat} {t : TypeId} {lo hi room : Int} {l : List UInt8} {go held : Int} {ab : Bool} (h : Bytes w A bs) (hx : Bk w x t (rCells lo hi room l go held ab)) (hf : Fr [x] w w') : Bytes w' A bs := by
  rcases bytes_apart h hx with rfl | hn
  · left; rfl
  · exact At.fr h hf (fun a ha _ => by simpa using hn a ha)
theorem Que.frx {w w' : World} {q : Nat} {lo hi room : Int} {bs : List UInt8} {ab : Bool} {qu go : Int} {x : Nat} {t : TypeId} {l : List UInt8} {held go' : Int} {ab' : Bool} (h : Que w q lo hi room bs ab qu go) (hx : Bk w x t (rCells lo hi room l go' held ab')) (hf : Fr [x] w w') (hq : q ≠ x) : Que w' q lo hi room bs ab qu go := by
  obtain ⟨A, c, h1, h2, h3⟩ := h
  exact ⟨A, c, h1.fr hf (by simpa using hq), h2.frx hx hf, h3⟩
/-- The queue, and the reference's queue. -/
def PS (w0 : World) (q x : Nat) (lo hi room : Int) (bs pre : List UInt8) (ab : Bool) (go : Int) (k : Nat) (wr : World) : Prop :=
  Que wr q lo hi room bs ab ((pre ++ bs).length : Nat) go ∧ Bk wr x 42 (rCells lo hi room (pre ++ bs) go bs.length ab) ∧ (pre ++ bs).length ≤ 60 * k ∧ (bs.length : Int) ≤ room ∧ 0 ≤ go ∧ go + bs.length ≤ 60 * k ∧ Below w0.heap.size w0 wr
/-- What holds at each round's head. -/
def PlayRel (w0 : World) (q x n : Nat) (lo hi room : Int) (i : Value) (wr : World) : Prop :=
  ∃ (k : Nat) (bs pre : List UInt8) (ab : Bool) (go : Int), i = .int .i64 k ∧ k ≤ n ∧ PS w0 q x lo hi room bs pre ab go k wr

set_option maxRecDepth 100000 in
set_option maxHeartbeats 4000000 in
theorem plays_walk {w : World} {A : Option Addr} {n c : Nat} {K N : Nat → Int} {BA : Nat → Option Addr} {BC : Nat → Nat} {BB : Nat → List UInt8} (h : Acts w A n K N BA BC BB) (hn : n ≤ maxLen) (lo hi room m : Int) :
    Calls Try.prog 5 #[.int .i64 lo, .int .i64 hi, .int .i64 room, .slice A n c, .int .i64 m] w fun e w' => e = .returned (.bool true) ∧ Below w.heap.size w w' := by
  go_enter Try.func5, Try.ntmps5
  go_wp2_with fail
  refine (awake_any w).mono ?_
  rintro e w1 ⟨rfl, hf1⟩
  have HF1 := Lib.hid hf1; clear hf1
  go_wp2_with fail
  by_cases hbad : lo < 0 ∨ hi ≤ lo ∨ room < hi ∨ 65536 < room
  · refine (new_no lo hi room w1 hbad).mono ?_
    rintro e w2 ⟨rfl, rfl⟩
    have HBAD := Lib.hid hbad; clear hbad
    go_wp2_with fail
    go_at_call 16
    refine (good_no lo hi room _ HBAD.out).mono ?_
    rintro e w2 ⟨rfl, rfl⟩
    go_wp2_with fail
    go_ret
    exact ⟨rfl, HF1.out.below_nil⟩
  have hlo : ¬ lo < 0 := fun h => hbad (.inl h)
  have hhi : ¬ hi ≤ lo := fun h => hbad (.inr (.inl h))
  have hro : ¬ room < hi := fun h => hbad (.inr (.inr (.inl h)))
  have hmx : ¬ 65536 < room := fun h => hbad (.inr (.inr (.inr h)))
  clear hbad
  refine (new_yes lo hi room w1 hlo hhi hro hmx).mono ?_
  rintro e w2 ⟨rfl, hw2⟩
  have hq := que_new (w := w1) (lo := lo) (hi := hi) (room := room)
  rw [← hw2] at hq
  have hf2 : Fr [] w w2 := by rw [hw2]; exact HF1.out.alloc _
  have hq0 : w.heap.size ≤ w1.heap.size := HF1.out.size
  have HQ := Lib.hid hq; have HF2 := Lib.hid hf2; clear hq hf2 hw2
  generalize hqq : w1.heap.size = q at *
  clear hqq HF1
  have HA := Lib.hid h; clear h
  go_wp2_with fail
  go_at_call 16
  refine (good_yes lo hi room _ (by omega) (by omega) (by omega) (by omega)).mono ?_
  rintro e w3 ⟨rfl, rfl⟩
  go_wp2_with fail
  go_at_call 8
  refine (few_any (HA.out.fr HF2.out) hn).mono ?_
  rintro e w3 ⟨rfl, rfl⟩
  cases hfew : fewB n BB with
  | false =>
    clear hfew
    go_wp2_with fail
    go_ret
    exact ⟨rfl, HF2.out.below_nil⟩
  | true =>
    have hn40 : n ≤ 40 := by unfold fewB at hfew; simp at hfew; exact hfew.1
    have h60 : ∀ i, i < n → (BB i).length ≤ 60 := by unfold fewB at hfew; simp at hfew; exact hfew.2
    have H60 := Lib.hid h60
    clear hfew h60
    have hqx : q < w2.heap.size := HQ.out.lt
    go_wp2_with fail
    have hstart : PS w q w2.heap.size lo hi room [] [] false 0 0 (w2.alloc (.cells (rCells lo hi room [] 0 0 false) 42)) :=
      ⟨HQ.out.fr_nil ((Fr.refl [] w2).alloc _), Bk.new w2 _ _, by simp, by simp; omega, by omega, by simp, (HF2.out.alloc _).below_nil⟩
    have hx0 : w.heap.size ≤ w2.heap.size := HF2.out.size
    generalize hxx : w2.heap.size = x at *
    have HST := Lib.hid hstart; clear hstart
    go_loopw [13] (fun i wr => PlayRel w q x n lo hi room i wr) (fun i _ => n - (intOf i).toNat)
    case atStart => exact ⟨0, [], [], false, 0, rfl, by omega, by simpa [rCells] using HST.out⟩
    case round =>
      obtain ⟨k, bs, pre, ab, go, rfl, hk, hps⟩ := hrel
      clear HST
      have HPS := Lib.hid hps
      obtain ⟨hq, hx, hl, hr, hg0, hg1, hbe⟩ := hps
      have HBE := Lib.hid hbe
      clear hbe hq hx
      by_cases hlt : k < n
      · obtain ⟨b, off, rfl, hb, e0, e1, e2, e3, e4⟩ := (HA.out.below HBE.out) k hlt
        have h60 := H60.out k hlt
        clear e3
        go_upto_region 12 with fail
        go_cut [14] from 49 to 52 (fun v14 wx => v14 = .pointer (some ⟨wr.heap.size, 0, none⟩) ∧ wx = wr.alloc (.cells #[.int .i64 (K k), .int .i64 (N k), .slice (BA k) (BB k).length (BC k)] 29))
        case first =>
          go_wp2_with fail
          go_meet
          case rel => exact ⟨rfl, rfl⟩
        case rest =>
          obtain ⟨rfl, rfl⟩ := hcut
          rename_i Kx hKx
          refine hKx _ _ ?_
          refine wp_seq_k fun K2 hK2 => ?_
          go_cut [13] from 53 to 96 (fun v13 wx => v13 = .int .i64 (k : Int) ∧ ∃ bs pre ab go, PS w q x lo hi room bs pre ab go (k + 1) wx)
          case first =>
            refine code_gen fun W hW => ?_
            have hqW : Que W q lo hi room bs ab ((pre ++ bs).length : Nat) go := by rw [hW]; exact HPS.out.1.fr_nil ((Fr.refl [] wr).alloc _)
            have hxW : Bk W x 42 (rCells lo hi room (pre ++ bs) go bs.length ab) := by rw [hW]; exact HPS.out.2.1.alloc _
            have haW : Bk W wr.heap.size 29 #[.int .i64 (K k), .int .i64 (N k), .slice (BA k) (BB k).length (BC k)] := by rw [hW]; exact Bk.new wr _ _
            have hbW : Below w.heap.size w W := by rw [hW]; exact HBE.out.alloc HBE.out.size _
            have hyW : Bytes W (BA k) (BB k) := (HA.out.below hbW).bytes hlt
            have hxg : x < wr.heap.size := HPS.out.2.1.lt
            clear hW
            generalize wr.heap.size = g at *
            have HQ := Lib.hid hqW; have HX := Lib.hid hxW; have HAC := Lib.hid haW; have HB := Lib.hid hbW; have HY := Lib.hid hyW
            have d0 := haW.cell_ (i := 0) rfl; have d1 := haW.cell_ (i := 1) rfl; have d2 := haW.cell_ (i := 2) rfl
            obtain ⟨⟨x0, x1, x2, x3, x4, x5, x6⟩, f0, f1, f2, f3, f4, f5, f6⟩ := r_cells hxW
            have hxb : w.heap.size ≤ x := by omega
            clear hqW hxW haW hbW hyW e0 e1 e2
            have hbl : bs.length ≤ 65536 := by omega
            have hpl : (pre ++ bs).length ≤ 65536 := by omega
            by_cases h01 : K k = 0 ∨ K k = 1
            · by_cases hfit : room < ((bs.length + (BB k).length : Nat) : Int)
              · go_wp2_with (refine wpList_str rfl 27 9 (.tmp 61) rfl 5 Try.underlying27 Try.underlying5 Try.underlying9 (BA k) (BB k).length (BC k) (by first | rfl | (simp [Act.eval]; done)) (BB k) HY.out rfl ?_)
                all_goals go_at_call 17
                all_goals refine (rput_no lo hi room (pre ++ bs) (BB k) go bs.length ab (by omega) hbl (by omega) (by omega) _).mono ?_
                all_goals
                  rintro e w5 ⟨rfl, hf5⟩
                  unfold rv rCells
                  have HF5 := Lib.hid hf5
                  have hx5 := HX.out.fr hf5 (by simp)
                  clear x0 x1 x2 x3 x4 x5 x6 f0 f1 f2 f3 f4 f5 f6 d0 d1 d2
                  obtain ⟨⟨x0, x1, x2, x3, x4, x5, x6⟩, f0, f1, f2, f3, f4, f5, f6⟩ := r_cells hx5
                  have ha5 := HAC.out.fr hf5 (by simp)
                  have d0 := ha5.cell_ (i := 0) rfl; have d1 := ha5.cell_ (i := 1) rfl; have d2 := ha5.cell_ (i := 2) rfl
                  have HX5 := Lib.hid hx5
                  have hx5l := hx5.lt
                  have ha5l := ha5.lt
                  clear hf5 hx5 ha5
                  go_wp2_with fail
                  go_at_call 11
                  refine calls_gen fun V hV => ?_
                  have hfV : Fr [x] W V := by rw [hV]; exact (set7_fr (w := w5) (HF5.out.nil_) (.inl (by simp)) (.int .i64 lo) (.int .i64 hi) (.int .i64 room) (.string ⟨(pre ++ bs).toArray⟩) (.int .i64 go) (.int .i64 (bs.length : Int)) (.bool ab)).alloc (.cells (rCells lo hi room (pre ++ bs) go bs.length ab) 42)
                  have hxV : Bk V x 42 (rCells lo hi room (pre ++ bs) go bs.length ab) := by rw [hV]; exact (set7_bk (w := w5) HX5.out (.int .i64 lo) (.int .i64 hi) (.int .i64 room) (.string ⟨(pre ++ bs).toArray⟩) (.int .i64 go) (.int .i64 (bs.length : Int)) (.bool ab)).alloc (.cells (rCells lo hi room (pre ++ bs) go bs.length ab) 42)
                  clear x0 x1 x2 x3 x4 x5 x6 f0 f1 f2 f3 f4 f5 f6 d0 d1 d2 hV
                  have hqV := HQ.out.frx HX.out hfV (by omega)
                  refine (put_no hqV (by omega) (by omega) (BA k) (BB k).length (BC k) e4 (by omega)).mono ?_
                  rintro e w6 ⟨rfl, d6, hw6⟩
                  have hps6 : PS w q x lo hi room bs pre ab go (k + 1) w6 := by
                    rw [hw6]
                    exact ⟨hqV.fr_nil ((Fr.refl _ _).drewN d6), hxV.drewN d6, by omega, hr, hg0, by omega, below_drewN (HB.out.trans (hfV.below_at HB.out.size (by simpa using hxb))) d6⟩
                  have HP6 := Lib.hid hps6
                  clear hw6 hps6 hqV hxV hfV
                  go_wp2_with (go_at_call 15; refine (code_errno 17 _ (by omega) (by omega)).mono ?_; rintro e w7 ⟨rfl, rfl⟩)
                  go_meet
                  case rel => exact ⟨rfl, _, _, _, _, HP6.out⟩
              · go_wp2_with (refine wpList_str rfl 27 9 (.tmp 61) rfl 5 Try.underlying27 Try.underlying5 Try.underlying9 (BA k) (BB k).length (BC k) (by first | rfl | (simp [Act.eval]; done)) (BB k) HY.out rfl ?_)
                all_goals go_at_call 17
                all_goals refine (rput_yes lo hi room (pre ++ bs) (BB k) go bs.length ab (by omega) (by omega) hbl (by omega) hpl (by omega) _).mono ?_
                all_goals
                  rintro e w5 ⟨rfl, hf5⟩
                  have hl2 : (pre ++ (bs ++ BB k)).length ≤ 60 * (k + 1) := by simp at hl ⊢; omega
                  have hr2 : ((bs ++ BB k).length : Int) ≤ room := by simp; omega
                  have hg2 : go + ((bs ++ BB k).length : Int) ≤ 60 * ((k + 1 : Nat) : Int) := by simp at hg1 ⊢; omega
                  have hqu : (((pre ++ bs).length : Nat) : Int) + ((BB k).length : Int) = ((pre ++ (bs ++ BB k)).length : Nat) := by simp; omega
                  rw [List.append_assoc, show bs.length + (BB k).length = (bs ++ BB k).length by simp]
                  obtain ⟨nb, hnb⟩ : ∃ nb, nb = bs ++ BB k := ⟨_, rfl⟩
                  rw [← hnb] at hl2 hr2 hg2 hqu ⊢
                  have HNB := Lib.hid hnb; clear hnb
                  unfold rv rCells
                  have HF5 := Lib.hid hf5
                  have HQU := Lib.hid hqu
                  clear hqu
                  have hx5 := HX.out.fr hf5 (by simp)
                  clear x0 x1 x2 x3 x4 x5 x6 f0 f1 f2 f3 f4 f5 f6 d0 d1 d2
                  obtain ⟨⟨x0, x1, x2, x3, x4, x5, x6⟩, f0, f1, f2, f3, f4, f5, f6⟩ := r_cells hx5
                  have ha5 := HAC.out.fr hf5 (by simp)
                  have d0 := ha5.cell_ (i := 0) rfl; have d1 := ha5.cell_ (i := 1) rfl; have d2 := ha5.cell_ (i := 2) rfl
                  have HX5 := Lib.hid hx5
                  have hx5l := hx5.lt
                  have ha5l := ha5.lt
                  clear hf5 hx5 ha5
                  go_wp2_with fail
                  go_at_call 11
                  refine calls_gen fun V hV => ?_
                  have hfV : Fr [x] W V := by rw [hV]; exact (set7_fr (w := w5) (HF5.out.nil_) (.inl (by simp)) (.int .i64 lo) (.int .i64 hi) (.int .i64 room) (.string ⟨(pre ++ nb).toArray⟩) (.int .i64 go) (.int .i64 (nb.length : Int)) (.bool (markB lo hi nb.length ab))).alloc (.cells (rCells lo hi room (pre ++ nb) go nb.length (markB lo hi nb.length ab)) 42)
                  have hxV : Bk V x 42 (rCells lo hi room (pre ++ nb) go nb.length (markB lo hi nb.length ab)) := by rw [hV]; exact (set7_bk (w := w5) HX5.out (.int .i64 lo) (.int .i64 hi) (.int .i64 room) (.string ⟨(pre ++ nb).toArray⟩) (.int .i64 go) (.int .i64 (nb.length : Int)) (.bool (markB lo hi nb.length ab))).alloc (.cells (rCells lo hi room (pre ++ nb) go nb.length (markB lo hi nb.length ab)) 42)
                  clear x0 x1 x2 x3 x4 x5 x6 f0 f1 f2 f3 f4 f5 f6 d0 d1 d2 hV
                  have hqV := HQ.out.frx HX.out hfV (by omega)
                  have hyV := HY.out.frx HX.out hfV
                  refine (put_yes hqV (by omega) _ _ hyV (by omega) (by omega) (by omega)).mono ?_
                  rintro e w6 ⟨rfl, hq6, hf6⟩
                  rw [HQU.out, ← HNB.out] at hq6
                  have hps6 : PS w q x lo hi room nb pre (markB lo hi nb.length ab) go (k + 1) w6 :=
                    ⟨hq6, hxV.fr hf6 (by simp; omega), hl2, hr2, hg0, hg2, (HB.out.trans (hfV.below_at HB.out.size (by simpa using hxb))).trans (hf6.below_at (HB.out.trans (hfV.below_at HB.out.size (by simpa using hxb))).size (by simp; omega))⟩
                  have HP6 := Lib.hid hps6
                  clear hq6 hf6 hps6 hqV hxV hfV hyV hl2 hr2 hg2
                  go_wp2_with (go_at_call 15; refine (code_nil _).mono ?_; rintro e w7 ⟨rfl, rfl⟩)
                  go_meet
                  case rel => exact ⟨rfl, _, _, _, _, HP6.out⟩
            · by_cases h23 : K k = 2 ∨ K k = 3
              · obtain ⟨kk, hkk⟩ : ∃ kk, kk = clampN (N k) bs.length := ⟨_, rfl⟩
                have hkl : kk ≤ bs.length := by rw [hkk]; exact clampN_le _ _
                obtain ⟨ds, hds⟩ : ∃ ds, ds = bs.drop kk := ⟨_, rfl⟩
                obtain ⟨ts, hts⟩ : ∃ ts, ts = bs.take kk := ⟨_, rfl⟩
                have hcat : ts ++ ds = bs := by rw [hts, hds, List.take_append_drop]
                have hdl : ds.length + kk = bs.length := by rw [hds]; simp; omega
                obtain ⟨g2, hg2⟩ : ∃ g2, g2 = go + (kk : Int) := ⟨_, rfl⟩
                have HKK := Lib.hid hkk; have HDS := Lib.hid hds; have HCAT := Lib.hid hcat; have HG2 := Lib.hid hg2
                have hg20 : 0 ≤ g2 := by omega
                have hg21 : g2 + (ds.length : Int) ≤ 60 * (k : Int) := by omega
                clear hkk hds hts hcat hg2
                go_wp2_with fail
                all_goals go_at_call 18
                all_goals refine (rtook_any lo hi room pre bs go ab (N k) kk HKK.out (by omega) hg0 (by omega) hpl _).mono ?_
                all_goals
                  rintro e w5 ⟨rfl, hf5⟩
                  rw [← HDS.out, ← HG2.out]
                  unfold rv rCells
                  have HF5 := Lib.hid hf5
                  have hx5 := HX.out.fr hf5 (by simp)
                  clear x0 x1 x2 x3 x4 x5 x6 f0 f1 f2 f3 f4 f5 f6 d0 d1 d2
                  obtain ⟨⟨x0, x1, x2, x3, x4, x5, x6⟩, f0, f1, f2, f3, f4, f5, f6⟩ := r_cells hx5
                  have ha5 := HAC.out.fr hf5 (by simp)
                  have d0 := ha5.cell_ (i := 0) rfl; have d1 := ha5.cell_ (i := 1) rfl; have d2 := ha5.cell_ (i := 2) rfl
                  have HX5 := Lib.hid hx5
                  have hx5l := hx5.lt
                  have ha5l := ha5.lt
                  clear hf5 hx5 ha5
                  go_wp2_with fail
                  go_at_call 10
                  refine calls_gen fun V hV => ?_
                  have hfV : Fr [x] W V := by rw [hV]; exact (set7_fr (w := w5) (HF5.out.nil_) (.inl (by simp)) (.int .i64 lo) (.int .i64 hi) (.int .i64 room) (.string ⟨(pre ++ bs).toArray⟩) (.int .i64 g2) (.int .i64 (ds.length : Int)) (.bool (markB lo hi ds.length ab))).alloc (.cells (rCells lo hi room (pre ++ bs) g2 (ds.length : Int) (markB lo hi ds.length ab)) 42)
                  have hxV : Bk V x 42 (rCells lo hi room (pre ++ bs) g2 ds.length (markB lo hi ds.length ab)) := by rw [hV]; exact (set7_bk (w := w5) HX5.out (.int .i64 lo) (.int .i64 hi) (.int .i64 room) (.string ⟨(pre ++ bs).toArray⟩) (.int .i64 g2) (.int .i64 (ds.length : Int)) (.bool (markB lo hi ds.length ab))).alloc (.cells (rCells lo hi room (pre ++ bs) g2 (ds.length : Int) (markB lo hi ds.length ab)) 42)
                  clear x0 x1 x2 x3 x4 x5 x6 f0 f1 f2 f3 f4 f5 f6 d0 d1 d2 hV
                  have hqV := HQ.out.frx HX.out hfV (by omega)
                  refine (took_at hqV hbl (N k) kk HKK.out hg0 (by omega)).mono ?_
                  rintro e w6 ⟨rfl, hq6, hf6⟩
                  rw [← HDS.out, ← HG2.out] at hq6
                  have hbV := HB.out.trans (hfV.below_at HB.out.size (by simpa using hxb))
                  have hps6 : PS w q x lo hi room ds (pre ++ ts) (markB lo hi ds.length ab) g2 (k + 1) w6 := by
                    unfold PS
                    rw [List.append_assoc, HCAT.out]
                    exact ⟨hq6, hxV.fr hf6 (by simp; omega), by omega, by omega, hg20, by omega, hbV.trans (hf6.below_at hbV.size (by simp; omega))⟩
                  have HP6 := Lib.hid hps6
                  clear hq6 hf6 hps6 hqV hxV hfV hbV
                  go_wp2_with fail
                  go_meet
                  case rel => exact ⟨rfl, _, _, _, _, HP6.out⟩
              · by_cases h4 : K k = 4
                · go_wp2_with fail
                  go_at_call 19
                  refine (clear_any HQ.out).mono ?_
                  rintro e w5 ⟨rfl, hq5, hf5⟩
                  have hx5 := HX.out.fr hf5 (by simp; omega)
                  clear x0 x1 x2 x3 x4 x5 x6 f0 f1 f2 f3 f4 f5 f6 d0 d1 d2
                  obtain ⟨⟨x0, x1, x2, x3, x4, x5, x6⟩, f0, f1, f2, f3, f4, f5, f6⟩ := r_cells hx5
                  have HX5 := Lib.hid hx5; have HQ5 := Lib.hid hq5; have HF5 := Lib.hid hf5
                  clear hf5 hx5 hq5
                  go_wp2_with fail
                  go_at_call 20
                  refine (rclear_any lo hi room (pre ++ bs) go bs.length ab (by omega) _).mono ?_
                  rintro e w6 ⟨rfl, hf6⟩
                  unfold rv rCells
                  have hx6 := HX5.out.fr hf6 (by simp)
                  clear x0 x1 x2 x3 x4 x5 x6 f0 f1 f2 f3 f4 f5 f6
                  obtain ⟨⟨x0, x1, x2, x3, x4, x5, x6⟩, f0, f1, f2, f3, f4, f5, f6⟩ := r_cells hx6
                  have hx6l := hx6.lt
                  have hfV : Fr [x] w6 (set7 w6 x (.int .i64 lo) (.int .i64 hi) (.int .i64 room) (.string ⟨(pre ++ bs).toArray⟩) (.int .i64 go) (.int .i64 0) (.bool (markB lo hi 0 ab))) := set7_fr (Fr.refl _ _) (.inl (by simp)) _ _ _ _ _ _ _
                  have hbV : Below w.heap.size w (set7 w6 x (.int .i64 lo) (.int .i64 hi) (.int .i64 room) (.string ⟨(pre ++ bs).toArray⟩) (.int .i64 go) (.int .i64 0) (.bool (markB lo hi 0 ab))) := by
                    have h1 := HB.out.trans (HF5.out.below_at HB.out.size (by simp; omega))
                    have h2 := h1.trans (hf6.below_at h1.size (by simp))
                    exact h2.trans (hfV.below_at h2.size (by simpa using hxb))
                  have hps6 : PS w q x lo hi room [] (pre ++ bs) (markB lo hi 0 ab) go (k + 1) (set7 w6 x (.int .i64 lo) (.int .i64 hi) (.int .i64 room) (.string ⟨(pre ++ bs).toArray⟩) (.int .i64 go) (.int .i64 0) (.bool (markB lo hi 0 ab))) := by
                    unfold PS
                    rw [List.append_nil]
                    exact ⟨(HQ5.out.fr_nil hf6).frx hx6 hfV (by omega), set7_bk hx6 _ _ _ _ _ _ _, by omega, by simp; omega, hg0, by simp; omega, hbV⟩
                  have HP6 := Lib.hid hps6
                  clear hf6 hx6 hfV hbV hps6
                  go_wp2_with fail
                  go_meet
                  case rel => exact ⟨rfl, _, _, _, _, HP6.out⟩
                · go_wp2_with fail
                  go_meet
                  case rel => exact ⟨rfl, bs, pre, ab, go, HQ.out, HX.out, by omega, hr, hg0, by omega, HB.out⟩
          case rest =>
            obtain ⟨rfl, bs, pre, ab, go, hps⟩ := hcut
            obtain ⟨hqW, hxW, hl2, hr2, hg02, hg12, hbW⟩ := hps
            have HB := Lib.hid hbW
            have HP := Lib.hid (show PS w q x lo hi room bs pre ab go (k + 1) wc from ⟨hqW, hxW, hl2, hr2, hg02, hg12, hbW⟩)
            clear hbW e0 e1 e2
            refine hK2 _ _ ?_
            go_upto_region 29 with fail
            have hbl : bs.length ≤ 65536 := by omega
            have hpl : (pre ++ bs).length ≤ 65536 := by omega
            obtain ⟨kk, hkk⟩ : ∃ kk, kk = clampN m bs.length := ⟨_, rfl⟩
            have hkl : kk ≤ bs.length := by rw [hkk]; exact clampN_le _ _
            have HKK := Lib.hid hkk
            have hsz := ba_size (pre ++ bs)
            refine wp_region_M_ (G := fun a b => Fr [] a b) (S := fun W => Que W q lo hi room bs ab ((pre ++ bs).length : Nat) go ∧ Bk W x 42 (rCells lo hi room (pre ++ bs) go bs.length ab) ∧ Fr [] wc W) ⟨fun w => Fr.refl [] w, fun a b c h k => h.trans k, fun a b h k => ⟨h.1.fr_nil k, h.2.1.fr k (by simp), h.2.2.trans k⟩, by kernel_rfl, fun _ _ d _ _ h => by cases d <;> exact h⟩ (by kernel_rfl) fun su => ?_
            have SU := Lib.hid su
            have hS0 : Que wc.drew q lo hi room bs ab ((pre ++ bs).length : Nat) go ∧ Bk wc.drew x 42 (rCells lo hi room (pre ++ bs) go bs.length ab) ∧ Fr [] wc wc.drew := ⟨hqW.fr_nil (Fr.refl [] wc).drew, hxW.drew, (Fr.refl [] wc).drew⟩
            have HS := Lib.hid hS0
            clear su hS0 hqW hxW hkk
            refine M_move (i := 0) _ SU.out rfl rfl (by kernel_rfl) HS.out rfl ?_
            simp only [Act.put, Act.eval, List.setIfInBounds_toArray, List.set_cons_zero, List.set_cons_succ, List.getElem?_toArray, List.getElem?_cons_zero, List.getElem?_cons_succ, Option.getD_some]
            refine M_move (i := 1) _ SU.out rfl rfl (by kernel_rfl) HS.out rfl ?_
            simp only [Act.put, Act.eval, List.setIfInBounds_toArray, List.set_cons_zero, List.set_cons_succ, List.getElem?_toArray, List.getElem?_cons_zero, List.getElem?_cons_succ, Option.getD_some]
            refine M_val (i := 4) (v := .agg (rCells lo hi room (pre ++ bs) go bs.length ab)) SU.out rfl (by kernel_rfl) HS.out rfl (fun W hS => ?_) ?_
            · obtain ⟨⟨x0, x1, x2, x3, x4, x5, x6⟩, -⟩ := r_cells hS.2.1
              go_simp
              first | done | rfl | (unfold rCells; rfl)
            simp only [Act.put, List.setIfInBounds_toArray, List.set_cons_zero, List.set_cons_succ]
            refine M_move (i := 5) _ SU.out rfl rfl (by kernel_rfl) HS.out rfl ?_
            simp only [Act.put, Act.eval, List.setIfInBounds_toArray, List.set_cons_zero, List.set_cons_succ, List.getElem?_toArray, List.getElem?_cons_zero, List.getElem?_cons_succ, Option.getD_some]
            refine wpAnyM_all (rs := [2]) (by kernel_rfl) (by simp) (fun w5 hG5 => ?_)
            refine allM.head rfl rfl (fun K5 hK5 => ?_) allM.nil
            go_simp
            have hS5 := SU.out.sg _ _ HS.out hG5
            refine (next_at hS5.1 hbl m kk HKK.out).mono ?_
            rintro e w6 ⟨A6, c6, rfl, hb6, hk6, hc6, hn6, hq6, hf6, hnw⟩
            have hS6 := SU.out.sg _ _ hS5 hf6
            refine hK5.out _ _ hS6 ?_
            clear hK5 K5
            refine M_weaken (S' := fun W => (Que W q lo hi room bs ab ((pre ++ bs).length : Nat) go ∧ Bk W x 42 (rCells lo hi room (pre ++ bs) go bs.length ab) ∧ Fr [] wc W) ∧ Bytes W A6 (bs.take kk)) (fun _ h => h.1) _ _ _ _ ?_
            refine Setup_and SU.out (T := fun W => Bytes W A6 (bs.take kk)) (fun a b h k => At.fr_nil h k) fun su2 => ?_
            have SU := Lib.hid su2
            have HS := Lib.hid (And.intro hS6 hb6)
            have htk : (bs.take kk).length = kk := by simp; omega
            clear su2 hS5 hS6 hb6 hq6 hf6 hnw hG5 hn6 hk6 hc6
            refine M_val (i := 3) (v := .string ⟨(bs.take kk).toArray⟩) SU.out rfl (by kernel_rfl) HS.out rfl (fun W hS => ?_) ?_
            · have hst := run_str_ (P := Try.prog) (w := W) 27 9 5 Try.underlying27 Try.underlying5 Try.underlying9 A6 (bs.take kk) kk c6 hS.2 htk
              go_simp
              first | done | rfl
            simp only [Act.put, List.setIfInBounds_toArray, List.set_cons_zero, List.set_cons_succ]
            have hnx := fun W => rnext_any lo hi room pre bs go ab m hpl W
            rw [← HKK.out] at hnx
            refine M_call (i := 6) SU.out rfl (by kernel_rfl) HS.out rfl (fun W hS => hnx W) (fun W => ?_) ?_
            · go_simp
              first | done | rfl
            simp only [Act.put, List.setIfInBounds_toArray, List.set_cons_zero, List.set_cons_succ]
            clear hnx
            refine M_val (i := 7) (v := .bool false) SU.out rfl (by kernel_rfl) HS.out rfl (fun W hS => ?_) ?_
            · go_simp
              first | done | rfl
            simp only [Act.put, List.setIfInBounds_toArray, List.set_cons_zero, List.set_cons_succ]
            refine M_move (i := 8) _ SU.out rfl rfl (by kernel_rfl) HS.out rfl ?_
            simp only [Act.put, Act.eval, List.setIfInBounds_toArray, List.set_cons_zero, List.set_cons_succ, List.getElem?_toArray, List.getElem?_cons_zero, List.getElem?_cons_succ, Option.getD_some]
            refine M_move (i := 9) _ SU.out rfl rfl (by kernel_rfl) HS.out rfl ?_
            simp only [Act.put, Act.eval, List.setIfInBounds_toArray, List.set_cons_zero, List.set_cons_succ, List.getElem?_toArray, List.getElem?_cons_zero, List.getElem?_cons_succ, Option.getD_some]
            refine M_call (i := 10) SU.out rfl (by kernel_rfl) HS.out rfl (fun W hS => ((held_any hS.1.1).mono (fun e w2 h => ⟨h.1, by rw [h.2]; exact Fr.refl _ _⟩))) (fun W => ?_) ?_
            · go_simp
              first | done | rfl
            simp only [Act.put, List.setIfInBounds_toArray, List.set_cons_zero, List.set_cons_succ]
            refine M_val (i := 11) (v := ?_) SU.out rfl (by kernel_rfl) HS.out rfl (fun W hS => ?_) ?_
            rotate_left
            · go_simp
              first | done | rfl
            simp only [Act.put, List.setIfInBounds_toArray, List.set_cons_zero, List.set_cons_succ]
            refine M_val (i := 12) (v := .int .i64 (bs.length : Int)) SU.out rfl (by kernel_rfl) HS.out rfl (fun W hS => ?_) ?_
            · obtain ⟨⟨x0, x1, x2, x3, x4, x5, x6⟩, -⟩ := r_cells hS.1.2.1
              go_simp
              first | done | rfl
            simp only [Act.put, List.setIfInBounds_toArray, List.set_cons_zero, List.set_cons_succ]
            refine M_val (i := 13) (v := .bool false) SU.out rfl (by kernel_rfl) HS.out rfl (fun W hS => ?_) ?_
            · go_simp
              first | done | rfl
            simp only [Act.put, List.setIfInBounds_toArray, List.set_cons_zero, List.set_cons_succ]
            refine M_val (i := 14) (v := ?_) SU.out rfl (by kernel_rfl) HS.out rfl (fun W hS => ?_) ?_
            rotate_left
            · go_simp
              first | done | rfl
            simp only [Act.put, List.setIfInBounds_toArray, List.set_cons_zero, List.set_cons_succ]
            refine M_move (i := 15) _ SU.out rfl rfl (by kernel_rfl) HS.out rfl ?_
            simp only [Act.put, Act.eval, List.setIfInBounds_toArray, List.set_cons_zero, List.set_cons_succ, List.getElem?_toArray, List.getElem?_cons_zero, List.getElem?_cons_succ, Option.getD_some]
            refine M_move (i := 16) _ SU.out rfl rfl (by kernel_rfl) HS.out rfl ?_
            simp only [Act.put, Act.eval, List.setIfInBounds_toArray, List.set_cons_zero, List.set_cons_succ, List.getElem?_toArray, List.getElem?_cons_zero, List.getElem?_cons_succ, Option.getD_some]
            refine M_call (i := 17) SU.out rfl (by kernel_rfl) HS.out rfl (fun W hS => ((above_any hS.1.1).mono (fun e w2 h => ⟨h.1, by rw [h.2]; exact Fr.refl _ _⟩))) (fun W => ?_) ?_
            · go_simp
              first | done | rfl
            simp only [Act.put, List.setIfInBounds_toArray, List.set_cons_zero, List.set_cons_succ]
            refine M_val (i := 18) (v := ?_) SU.out rfl (by kernel_rfl) HS.out rfl (fun W hS => ?_) ?_
            rotate_left
            · go_simp
              first | done | rfl
            simp only [Act.put, List.setIfInBounds_toArray, List.set_cons_zero, List.set_cons_succ]
            refine M_val (i := 19) (v := .bool ab) SU.out rfl (by kernel_rfl) HS.out rfl (fun W hS => ?_) ?_
            · obtain ⟨⟨x0, x1, x2, x3, x4, x5, x6⟩, -⟩ := r_cells hS.1.2.1
              go_simp
              first | done | rfl
            simp only [Act.put, List.setIfInBounds_toArray, List.set_cons_zero, List.set_cons_succ]
            refine M_val (i := 20) (v := .bool false) SU.out rfl (by kernel_rfl) HS.out rfl (fun W hS => ?_) ?_
            · go_simp
              first | done | rfl
            simp only [Act.put, List.setIfInBounds_toArray, List.set_cons_zero, List.set_cons_succ]
            refine M_val (i := 21) (v := ?_) SU.out rfl (by kernel_rfl) HS.out rfl (fun W hS => ?_) ?_
            rotate_left
            · go_simp
              first | done | rfl
            simp only [Act.put, List.setIfInBounds_toArray, List.set_cons_zero, List.set_cons_succ]
            refine M_move (i := 22) _ SU.out rfl rfl (by kernel_rfl) HS.out rfl ?_
            simp only [Act.put, Act.eval, List.setIfInBounds_toArray, List.set_cons_zero, List.set_cons_succ, List.getElem?_toArray, List.getElem?_cons_zero, List.getElem?_cons_succ, Option.getD_some]
            refine M_move (i := 23) _ SU.out rfl rfl (by kernel_rfl) HS.out rfl ?_
            simp only [Act.put, Act.eval, List.setIfInBounds_toArray, List.set_cons_zero, List.set_cons_succ, List.getElem?_toArray, List.getElem?_cons_zero, List.getElem?_cons_succ, Option.getD_some]
            refine M_call (i := 24) SU.out rfl (by kernel_rfl) HS.out rfl (fun W hS => ((queued_any hS.1.1).mono (fun e w2 h => ⟨h.1, by rw [h.2]; exact Fr.refl _ _⟩))) (fun W => ?_) ?_
            · go_simp
              first | done | rfl
            simp only [Act.put, List.setIfInBounds_toArray, List.set_cons_zero, List.set_cons_succ]
            refine M_val (i := 25) (v := ?_) SU.out rfl (by kernel_rfl) HS.out rfl (fun W hS => ?_) ?_
            rotate_left
            · go_simp
              first | done | rfl
            simp only [Act.put, List.setIfInBounds_toArray, List.set_cons_zero, List.set_cons_succ]
            refine M_val (i := 26) (v := .string ⟨(pre ++ bs).toArray⟩) SU.out rfl (by kernel_rfl) HS.out rfl (fun W hS => ?_) ?_
            · obtain ⟨⟨x0, x1, x2, x3, x4, x5, x6⟩, -⟩ := r_cells hS.1.2.1
              go_simp
              first | done | rfl
            simp only [Act.put, List.setIfInBounds_toArray, List.set_cons_zero, List.set_cons_succ]
            refine M_val (i := 27) (v := .int .i64 ((pre ++ bs).length : Nat)) SU.out rfl (by kernel_rfl) HS.out rfl (fun W hS => ?_) ?_
            · go_simp
              first | done | rfl
            simp only [Act.put, List.setIfInBounds_toArray, List.set_cons_zero, List.set_cons_succ]
            refine M_val (i := 28) (v := .bool false) SU.out rfl (by kernel_rfl) HS.out rfl (fun W hS => ?_) ?_
            · go_simp
              first | done | rfl
            simp only [Act.put, List.setIfInBounds_toArray, List.set_cons_zero, List.set_cons_succ]
            refine M_val (i := 29) (v := ?_) SU.out rfl (by kernel_rfl) HS.out rfl (fun W hS => ?_) ?_
            rotate_left
            · go_simp
              first | done | rfl
            simp only [Act.put, List.setIfInBounds_toArray, List.set_cons_zero, List.set_cons_succ]
            refine M_move (i := 30) _ SU.out rfl rfl (by kernel_rfl) HS.out rfl ?_
            simp only [Act.put, Act.eval, List.setIfInBounds_toArray, List.set_cons_zero, List.set_cons_succ, List.getElem?_toArray, List.getElem?_cons_zero, List.getElem?_cons_succ, Option.getD_some]
            refine M_move (i := 31) _ SU.out rfl rfl (by kernel_rfl) HS.out rfl ?_
            simp only [Act.put, Act.eval, List.setIfInBounds_toArray, List.set_cons_zero, List.set_cons_succ, List.getElem?_toArray, List.getElem?_cons_zero, List.getElem?_cons_succ, Option.getD_some]
            refine M_call (i := 32) SU.out rfl (by kernel_rfl) HS.out rfl (fun W hS => ((gone_any hS.1.1).mono (fun e w2 h => ⟨h.1, by rw [h.2]; exact Fr.refl _ _⟩))) (fun W => ?_) ?_
            · go_simp
              first | done | rfl
            simp only [Act.put, List.setIfInBounds_toArray, List.set_cons_zero, List.set_cons_succ]
            refine M_val (i := 33) (v := ?_) SU.out rfl (by kernel_rfl) HS.out rfl (fun W hS => ?_) ?_
            rotate_left
            · go_simp
              first | done | rfl
            simp only [Act.put, List.setIfInBounds_toArray, List.set_cons_zero, List.set_cons_succ]
            refine M_val (i := 34) (v := .int .i64 go) SU.out rfl (by kernel_rfl) HS.out rfl (fun W hS => ?_) ?_
            · obtain ⟨⟨x0, x1, x2, x3, x4, x5, x6⟩, -⟩ := r_cells hS.1.2.1
              go_simp
              first | done | rfl
            simp only [Act.put, List.setIfInBounds_toArray, List.set_cons_zero, List.set_cons_succ]
            refine M_val (i := 35) (v := .bool false) SU.out rfl (by kernel_rfl) HS.out rfl (fun W hS => ?_) ?_
            · go_simp
              first | done | rfl
            simp only [Act.put, List.setIfInBounds_toArray, List.set_cons_zero, List.set_cons_succ]
            refine M_val (i := 36) (v := ?_) SU.out rfl (by kernel_rfl) HS.out rfl (fun W hS => ?_) ?_
            rotate_left
            · go_simp
              first | done | rfl
            simp only [Act.put, List.setIfInBounds_toArray, List.set_cons_zero, List.set_cons_succ]
            refine wpAnyM_done (by kernel_rfl) (fun w7 hG7 => ?_)
            have hS7 := SU.out.sg _ _ HS.out hG7
            have hR : PlayRel w q x n lo hi room (.int .i64 ((k + 1 : Nat) : Int)) w7 := ⟨k + 1, bs, pre, ab, go, rfl, by omega, hS7.1.1, hS7.1.2.1, hl2, hr2, hg02, hg12, HB.out.trans (hS7.1.2.2.below_at HB.out.size (by simp))⟩
            have HR := Lib.hid hR
            clear hS7 hR hG7
            go_wp2_with fail
            go_roundw
            case rel => exact HR.out
            case measure => simp [intOf]; omega
      · obtain rfl : k = n := by omega
        go_wp2_with fail
        go_ret
        exact ⟨rfl, HBE.out⟩

theorem outqPlays_open {H : Type} {enc : TypeId × Value → H} (W : World) (base : Nat) (v0 : Value) (d0 : DataW H) (p0 : List MemPlace) (v1 : Value) (d1 : DataW H) (p1 : List MemPlace) (v2 : Value) (d2 : DataW H) (p2 : List MemPlace) (v3 : Value) (d3 : DataW H) (p3 : List MemPlace) (v4 : Value) (d4 : DataW H) (p4 : List MemPlace)
    (k0 : Value.okWide Try.prog W .any base 3 v0) (k1 : Value.okWide Try.prog W .any base 3 v1) (k2 : Value.okWide Try.prog W .any base 3 v2) (k3 : Value.okWide Try.prog W .any base 22 v3) (k4 : Value.okWide Try.prog W .any base 3 v4)
    (h0 : DataW.Trod enc Try.prog W 0 (fun _ => true) true 3 v0 d0 p0) (h1 : DataW.Trod enc Try.prog W 0 (fun _ => true) true 3 v1 d1 p1) (h2 : DataW.Trod enc Try.prog W 0 (fun _ => true) true 3 v2 d2 p2) (h3 : DataW.Trod enc Try.prog W 0 (fun _ => true) true 22 v3 d3 p3) (h4 : DataW.Trod enc Try.prog W 0 (fun _ => true) true 3 v4 d4 p4) :
    Calls Try.prog 5 #[v0, v1, v2, v3, v4] W fun e W' => e = .returned (.bool true) ∧ Below W.heap.size W W' := by
  obtain ⟨lo, rfl, -⟩ := arg_int Try.underlying3 k0 h0
  obtain ⟨hi, rfl, -⟩ := arg_int Try.underlying3 k1 h1
  obtain ⟨room, rfl, -⟩ := arg_int Try.underlying3 k2 h2
  obtain ⟨A, n, c, K, N, BA, BC, BB, rfl, hn, -, ha⟩ := acts_open k3 h3
  obtain ⟨m, rfl, -⟩ := arg_int Try.underlying3 k4 h4
  exact plays_walk ha hn lo hi room m
end Go.Proofs.Ytphgpgdilipakaa
