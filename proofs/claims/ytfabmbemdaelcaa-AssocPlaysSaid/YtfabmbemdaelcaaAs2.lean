/-
  Set of an array of ints. No conditions.
-/
import Derived.Test.YtfabmbemdaelcaaAs1
import Derived.Test.YtfabmbemdaelcaaDrawnF
import Derived.Deep.Cut
import Derived.Deep.CutBlock
import Derived.Deep.CutRange
import Derived.OwnWalk
import Derived.WalkSpells
import Derived.Deep.RegionWith
namespace Go.Proofs.Ytfabmbemdaelcaa
open Go.RowKit Go.ChangeShapes Go.WideShapes Go.Maps
set_option linter.unusedVariables false
set_option linter.unusedSimpArgs false

theorem code_gen {P : Program} {c : Code} {Q : Exit → Act → World → Prop} {a : Act} {w : World} (h : ∀ W, W = w → c.wp P Q a W) : c.wp P Q a w := h w rfl
theorem entParts : ∃ i, Try.prog.info? 66 = some i ∧ i.zero = some (.agg #[.string ⟨#[]⟩, .int .i64 0, .bool false]) ∧ i.size = 3 ∧ i.bytes = 32 := info_parts (by kernel_rfl)
theorem flatE_set (es : List (Ent Int)) (k : List UInt8) (u v : Int) : ∀ i : Nat, es[i]? = some (some (k, u)) → (es.flatMap cellsE).set (i * 3 + 1) (.int .i64 v) = (es.set i (some (k, v))).flatMap cellsE := by
  induction es with
  | nil => intro i h; simp at h
  | cons a r ih =>
    intro i h
    have hl := cellsE_len a
    rw [List.flatMap_cons]
    cases i with
    | zero =>
      injection h with h; subst h
      rw [List.set_cons_zero, List.flatMap_cons, List.set_append_left _ _ (by rw [cellsE_len]; omega)]; rfl
    | succ i =>
      rw [List.set_cons_succ, List.flatMap_cons, List.set_append_right _ _ (by omega), hl, show (i + 1) * 3 + 1 - 3 = i * 3 + 1 by omega, ih i (by simpa using h)]
theorem row_set {w : World} {b n cap : Nat} {es : List (Ent Int)} (h : w.ownsRow 0 66 3 (.slice (some ⟨b, 0, none⟩) n cap) n (es.flatMap cellsE)) {i : Nat} {k : List UInt8} {u : Int} (hi : es[i]? = some (some (k, u))) (v : Int) :
    (w.setCell ⟨b, i * 3 + 1, none⟩ (.int .i64 v)).ownsRow 0 66 3 (.slice (some ⟨b, 0, none⟩) n cap) n ((es.set i (some (k, v))).flatMap cellsE) := by
  obtain ⟨h1, ⟨h2, h3⟩ | ⟨b', cap', cur, h2, h0, hb, h3, h4, h5, h6⟩⟩ := h
  · cases h2
  · injection h2 with h2 _ h2'
    injection h2 with h2; injection h2 with h2
    subst h2 h2'
    have hbk : Bk w b 66 cur := hb
    refine ⟨by rw [flatE_len, List.length_set]; rw [flatE_len] at h1; exact h1, .inr ⟨b, cap, _, rfl, h0, hbk.put (i * 3 + 1) (.int .i64 v), h3, h4, by simpa using h5, ?_⟩⟩
    rw [Array.toList_setIfInBounds, List.take_set, h6, flatE_set es k u v i hi]
theorem bk_ne_map {w : World} {g b : Nat} {t : TypeId} {cs : Array Value} (h : Bk w g t cs) {es : Array MapEntry} {c : Nat} (hb : w.heap[b]? = some (.map es c)) : g ≠ b := by
  rintro rfl
  unfold Bk at h
  rw [h] at hb; cases hb
theorem MapV.ne_ {w : World} {mv : Value} {n : Nat} {D : DataW Unit} (h : MapV w mv n D) {g : Nat} {t : TypeId} {cs : Array Value} (hb : Bk w g t cs) : mapBlk mv ≠ some g := by
  rcases h with ⟨rfl, -⟩ | ⟨b, rfl, es, clock, hm, -⟩
  · simp [mapBlk]
  · intro e; injection e with e; exact bk_ne_map hb hm e.symm
theorem own_ne {w : World} {base g n cap sz : Nat} {A : Option Addr} {e t : TypeId} {xs : List Value} {cs : Array Value} (h : w.ownsRow base e sz (.slice A n cap) n xs) (hb : Bk w g t cs) (ht : t ≠ e) : (Value.slice A n cap).ownBlock ≠ some g := by
  obtain ⟨h1, ⟨h2, h3⟩ | ⟨b', cap', cur, h2, h0, hb', h6⟩⟩ := h
  · rw [h2]; simp [Value.ownBlock]
  · rw [h2]; intro e'; injection e' with e'; exact hb.ne_ (g' := b') (t' := e) (cs' := cur) hb' ht e'.symm
theorem own_fr {w w' : World} {base n cap sz : Nat} {A : Option Addr} {e : TypeId} {xs : List Value} {l : List Nat} (h : w.ownsRow base e sz (.slice A n cap) n xs) (hf : Fr l w w') (hn : ∀ b, (Value.slice A n cap).ownBlock = some b → b ∉ l) : w'.ownsRow base e sz (.slice A n cap) n xs := by
  obtain ⟨h1, h2 | ⟨b', cap', cur, h2, h0, hb', h6⟩⟩ := h
  · exact ⟨h1, .inl h2⟩
  · have hbk : Bk w b' e cur := hb'
    exact ⟨h1, .inr ⟨b', cap', cur, h2, h0, (hf.block b' hbk.lt (hn b' (by rw [h2]; rfl))).trans hb', h6⟩⟩
theorem own_ne_map {w : World} {base g n cap sz : Nat} {A : Option Addr} {e : TypeId} {xs : List Value} {es : Array MapEntry} {c : Nat} (h : w.ownsRow base e sz (.slice A n cap) n xs) (hb : w.heap[g]? = some (.map es c)) : (Value.slice A n cap).ownBlock ≠ some g := by
  obtain ⟨h1, ⟨h2, h3⟩ | ⟨b', cap', cur, h2, h0, hb', h6⟩⟩ := h
  · rw [h2]; simp [Value.ownBlock]
  · rw [h2]; intro e'; injection e' with e'; exact bk_ne_map (g := b') (t := e) (cs := cur) hb' hb e'
theorem own_form {w : World} {base n sz : Nat} {v : Value} {e : TypeId} {xs : List Value} (h : w.ownsRow base e sz v n xs) (hn : 0 < n) : ∃ A c, v = .slice A n c := by
  obtain ⟨h1, ⟨h2, h3⟩ | ⟨b', cap', cur, h2, -⟩⟩ := h
  · omega
  · exact ⟨_, _, h2⟩
/-- What Set and Drop leave. -/
def SetPost (w : World) (g : Nat) (l : List Nat) (es' : List (Ent Int)) (r : Bool) (e : Ending) (w' : World) : Prop :=
  e = .returned (.bool r) ∧ ∃ l', Arr w' g l' es' ∧ Fr l w w' ∧ ∀ b ∈ l', b ∈ l ∨ w.heap.size ≤ b
set_option maxRecDepth 100000 in
set_option maxHeartbeats 4000000 in
theorem set_old {w : World} {g : Nat} {l : List Nat} {es : List (Ent Int)} (h : Arr w g l es) (k : List UInt8) (v : Int) (hk : k.length ≤ 1000) {i : Nat} (hi : idxOf es k = some i) :
    Calls Try.prog 8 #[.pointer (some ⟨g, 0, none⟩), .string ⟨k.toArray⟩, .int .i64 v] w (SetPost w g l (es.set i (some (k, v))) false) := by
  obtain ⟨mv, A, cap, D, rfl, hb, hm, M, hr⟩ := h
  have hlk := hm.look M (k := k) (by unfold maxLen; omega)
  have c0 := hb.cell_ (i := 0) rfl; have c1 := hb.cell_ (i := 1) rfl
  obtain ⟨u, hu⟩ := idxOf_some hi
  have e1 : posI es k = (i : Int) := by unfold posI; rw [hi]
  have hlt := idxOf_lt hi
  have hne := own_ne hr hb (by decide)
  obtain ⟨b, rfl, hbl, fz, hc⟩ := row_ent hr hu
  have d1 := hc 1 _ (by omega) rfl
  have hltI : (i : Int) < (es.length : Int) := by omega
  have hbg : b ≠ g := fun e => hne (by rw [← e]; rfl)
  have hbm : mapBlk mv ≠ some b := by
    obtain ⟨h1, ⟨h2, h3⟩ | ⟨b', cap', cur, h2, h0, hb', h6⟩⟩ := hr
    · cases h2
    · injection h2 with h2 _ _; injection h2 with h2; injection h2 with h2; subst h2
      exact hm.ne_ (g := b) (t := 66) (cs := cur) hb'
  have hsl := (live_set_len v hu).2
  have hfin : SetPost w g (g :: ((mapBlk mv).toList ++ (Value.slice (some ⟨b, 0, none⟩) es.length cap).ownBlock.toList)) (es.set i (some (k, v))) false (.returned (.bool false)) (w.setCell ⟨b, i * 3 + 1, none⟩ (.int .i64 v)) := by
    refine ⟨rfl, _, ⟨mv, some ⟨b, 0, none⟩, cap, D, rfl, ?_, ?_, M.set v hi, ?_⟩, (Fr.refl _ w).setCell (.inl (by simp [Value.ownBlock])) _, fun b hb => ?_⟩
    · rw [List.length_set, hsl]; exact hb.far (p := ⟨b, i * 3 + 1, none⟩) (fun e => hbg e.symm) _
    · rw [List.length_set]; exact hm.keep fun b' hb' => Below.heap_setCell w ⟨b, i * 3 + 1, none⟩ _ b' (fun e => hbm (by rw [hb', e]))
    · rw [List.length_set]; exact row_set hr hu v
    · rw [List.length_set] at hb; exact .inl hb
  have HFIN := Lib.hid hfin
  rw [hi, e1] at hlk
  clear hi e1 hm M hr hb hc hu hne hbm hsl hfin
  go_enter Try.func8, Try.ntmps8
  go_wp2_with fail
  go_ret
  exact HFIN.out
set_option maxRecDepth 100000 in
set_option maxHeartbeats 8000000 in
theorem set_new {w : World} {g : Nat} {l : List Nat} {es : List (Ent Int)} (h : Arr w g l es) (k : List UInt8) (v : Int) (hk : k.length ≤ 1000) (hn : es.length ≤ 1000) (hwt : wt es ≤ 10000000) (hi : idxOf es k = none) :
    Calls Try.prog 8 #[.pointer (some ⟨g, 0, none⟩), .string ⟨k.toArray⟩, .int .i64 v] w (SetPost w g l (es ++ [some (k, v)]) true) := by
  obtain ⟨mv, A, cap, D, rfl, hb, hm, M, hr⟩ := h
  have hlk := hm.look M (k := k) (by unfold maxLen; omega)
  have c0 := hb.cell_ (i := 0) rfl; have c1 := hb.cell_ (i := 1) rfl; have f0 := hb.frozen 0
  have e1 : posI es k = 0 := by unfold posI; rw [hi]
  rw [hi, e1] at hlk
  obtain ⟨i0, hi0, hz0, hz1, hz2⟩ := entParts
  obtain ⟨ls, hls⟩ : ∃ ls, ls = g :: ((mapBlk mv).toList ++ (Value.slice A es.length cap).ownBlock.toList) := ⟨_, rfl⟩
  rw [← hls]
  have HLS := Lib.hid hls; have HNE := Lib.hid (own_ne hr hb (by decide))
  have HI := Lib.hid hi; have HMP := Lib.hid M; have HB := Lib.hid hb; have HR := Lib.hid hr
  have hgl := hb.lt
  clear e1 hls hi M hb hr
  rcases hm with ⟨rfl, rfl⟩ | ⟨bm, rfl, hown⟩
  case' inl =>
    have hmm := @run_makeMap Try.prog
    have heq := run_eql_map_nil (P := Try.prog) w 25 9 3 none Try.underlying25
    go_enter Try.func8, Try.ntmps8
    go_upto_region 7 with fail
    clear hmm heq
    obtain ⟨bm, hbm⟩ : ∃ bm, bm = w.heap.size := ⟨_, rfl⟩
    rw [← hbm]
    refine code_gen fun W1 hW1 => ?_
    have HB1 : Hid (Bk W1 g 28 #[.map (some bm), .slice A es.length cap, .int .i64 (wt es : Int)]) := Lib.hid (by rw [hW1]; exact (HB.out.put 0 _).alloc _)
    have HM1 : Hid (W1.ownsMap Try.prog 9 (plainElem Try.prog 3) bm es.length (.map [] : DataW Unit)) := Lib.hid (by
      rw [hW1, hbm]
      have h := (World.ownsMap_made (w.setCell ⟨g, 0, none⟩ (.map (some w.heap.size))) Try.prog 9 (plainElem (H := Unit) Try.prog 3)).mono (Nat.zero_le es.length)
      have e : (w.setCell ⟨g, 0, none⟩ (.map (some w.heap.size))).heap.size = w.heap.size := by simp
      rw [e] at h
      exact h)
    have HF1 : Hid (Fr ls w W1) := Lib.hid (by rw [hW1]; exact ((Fr.refl ls w).setCell (.inl (by rw [HLS.out]; simp)) _).alloc _)
    have HBM : Hid (bm ∈ ls ∨ w.heap.size ≤ bm) := Lib.hid (.inr (by rw [hbm]; exact Nat.le_refl _))
    have HR1 : Hid (W1.ownsRow 0 66 3 (.slice A es.length cap) es.length (es.flatMap cellsE)) := Lib.hid (own_fr HR.out (l := [g]) (by rw [hW1]; exact ((Fr.refl [g] w).setCell (.inl (by simp)) _).alloc _) (fun b hb hbg => by simp at hbg; subst hbg; exact HNE.out hb))
    clear hW1 hbm
  case' inr =>
    have heq := run_eql_map_nil (P := Try.prog) w 25 9 3 (some bm) Try.underlying25
    go_enter Try.func8, Try.ntmps8
    go_upto_region 7 with fail
    refine code_gen fun W1 hW1 => ?_
    have HB1 : Hid (Bk W1 g 28 #[.map (some bm), .slice A es.length cap, .int .i64 (wt es : Int)]) := Lib.hid (by rw [hW1]; exact HB.out)
    have HM1 : Hid (W1.ownsMap Try.prog 9 (plainElem Try.prog 3) bm es.length D) := Lib.hid (by rw [hW1]; exact hown)
    have HF1 : Hid (Fr ls w W1) := Lib.hid (by rw [hW1]; exact Fr.refl ls w)
    have HBM : Hid (bm ∈ ls ∨ w.heap.size ≤ bm) := Lib.hid (.inl (by rw [HLS.out]; simp [mapBlk]))
    have HR1 : Hid (W1.ownsRow 0 66 3 (.slice A es.length cap) es.length (es.flatMap cellsE)) := Lib.hid (by rw [hW1]; exact HR.out)
    clear hW1 hown heq
  all_goals
    clear c0 c1 f0 hlk
    refine wp_region_M_ (G := fun a b => a = b) (S := fun W => W.cell? ⟨g, 0, none⟩ = some (.map (some bm)) ∧ W.cell? ⟨g, 1, none⟩ = some (.slice A es.length cap)) ⟨fun _ => rfl, fun a b c h k => h.trans k, fun a b h k => k ▸ h, by kernel_rfl, fun _ _ d _ _ h => by cases d <;> exact h⟩ (by kernel_rfl) fun su => ?_
    have SU := Lib.hid su
    have HS : Hid (W1.drew.cell? ⟨g, 0, none⟩ = some (.map (some bm)) ∧ W1.drew.cell? ⟨g, 1, none⟩ = some (.slice A es.length cap)) := Lib.hid ⟨HB1.out.cell_ (i := 0) rfl, HB1.out.cell_ (i := 1) rfl⟩
    clear su
    refine M_move (i := 0) _ SU.out rfl rfl (by kernel_rfl) HS.out rfl ?_
    simp only [Act.put, Act.eval, Array.getD_eq_getD_getElem?, List.setIfInBounds_toArray, List.set_cons_zero, List.set_cons_succ, List.getElem?_toArray, List.getElem?_cons_zero, List.getElem?_cons_succ, Option.getD_some]
    refine M_val (i := 1) (v := ?_) SU.out rfl (by kernel_rfl) HS.out rfl (fun W hS => ?_) ?_
    rotate_left
    · obtain ⟨s0, s1⟩ := hS
      go_simp
      first | done | rfl | omega | (simp; done) | (simp; omega)
    simp only [Act.put, List.setIfInBounds_toArray, List.set_cons_zero, List.set_cons_succ]
    refine M_val (i := 2) (v := ?_) SU.out rfl (by kernel_rfl) HS.out rfl (fun W hS => ?_) ?_
    rotate_left
    · obtain ⟨s0, s1⟩ := hS
      go_simp
      first | done | rfl | omega | (simp; done) | (simp; omega)
    simp only [Act.put, List.setIfInBounds_toArray, List.set_cons_zero, List.set_cons_succ]
    refine M_val (i := 3) (v := .map (some bm)) SU.out rfl (by kernel_rfl) HS.out rfl (fun W hS => ?_) ?_
    · obtain ⟨s0, s1⟩ := hS
      go_simp
      first | done | rfl | omega | (simp; done) | (simp; omega)
    simp only [Act.put, List.setIfInBounds_toArray, List.set_cons_zero, List.set_cons_succ]
    refine M_move (i := 4) _ SU.out rfl rfl (by kernel_rfl) HS.out rfl ?_
    simp only [Act.put, Act.eval, Array.getD_eq_getD_getElem?, List.setIfInBounds_toArray, List.set_cons_zero, List.set_cons_succ, List.getElem?_toArray, List.getElem?_cons_zero, List.getElem?_cons_succ, Option.getD_some]
    refine M_move (i := 5) _ SU.out rfl rfl (by kernel_rfl) HS.out rfl ?_
    simp only [Act.put, Act.eval, Array.getD_eq_getD_getElem?, List.setIfInBounds_toArray, List.set_cons_zero, List.set_cons_succ, List.getElem?_toArray, List.getElem?_cons_zero, List.getElem?_cons_succ, Option.getD_some]
    refine M_val (i := 6) (v := ?_) SU.out rfl (by kernel_rfl) HS.out rfl (fun W hS => ?_) ?_
    rotate_left
    · obtain ⟨s0, s1⟩ := hS
      go_simp
      first | done | rfl | omega | (simp; done) | (simp; omega)
    simp only [Act.put, List.setIfInBounds_toArray, List.set_cons_zero, List.set_cons_succ]
    refine M_val (i := 7) (v := ?_) SU.out rfl (by kernel_rfl) HS.out rfl (fun W hS => ?_) ?_
    rotate_left
    · obtain ⟨s0, s1⟩ := hS
      go_simp
      first | done | rfl | omega | (simp; done) | (simp; omega)
    simp only [Act.put, List.setIfInBounds_toArray, List.set_cons_zero, List.set_cons_succ]
    refine M_val (i := 8) (v := .slice A es.length cap) SU.out rfl (by kernel_rfl) HS.out rfl (fun W hS => ?_) ?_
    · obtain ⟨s0, s1⟩ := hS
      go_simp
      first | done | rfl | omega | (simp; done) | (simp; omega)
    simp only [Act.put, List.setIfInBounds_toArray, List.set_cons_zero, List.set_cons_succ]
    refine M_val (i := 9) (v := .int .i64 (es.length : Int)) SU.out rfl (by kernel_rfl) HS.out rfl (fun W hS => ?_) ?_
    · obtain ⟨s0, s1⟩ := hS
      go_simp
      first | done | rfl | omega | (simp; done) | (simp; omega)
    simp only [Act.put, List.setIfInBounds_toArray, List.set_cons_zero, List.set_cons_succ]
    refine wpAnyM_all (rs := [10]) (by kernel_rfl) (by simp) (fun w' hG => ?_)
    obtain rfl := hG
    obtain ⟨W2, hst, hown2, hturn⟩ := HM1.out.drew.store strKey Try.underlying25 (by unfold maxLen; omega) (keyS (k := k) (by unfold maxLen; omega)) (plainElem_int (H := Unit) Try.underlying3 (a := (es.length : Int)) (WalkArith.wf_i64 (by omega)))
    refine allM.head rfl rfl (fun K6 hK6 => ?_) allM.nil
    obtain ⟨mes, mc, hmb, -⟩ := HM1.out
    have hgm : g ≠ bm := bk_ne_map HB1.out hmb
    have HNB := Lib.hid (own_ne_map HR1.out hmb)
    have hF2 : Fr [bm] W1.drew W2 := (Fr.refl [bm] W1.drew).grown hturn.grown (fun g' e => .inl (by injection e with e; simp [e]))
    have hb2 := (Bk.drew HB1.out).fr hF2 (by simpa using hgm)
    have hr2 := own_fr (w := W1.drew) HR1.out hF2 (fun b hb hbm => by simp at hbm; subst hbm; exact own_ne_map HR1.out hmb hb)
    have HS2 : Hid (W2.cell? ⟨g, 0, none⟩ = some (.map (some bm)) ∧ W2.cell? ⟨g, 1, none⟩ = some (.slice A es.length cap)) := Lib.hid ⟨hb2.cell_ (i := 0) rfl, hb2.cell_ (i := 1) rfl⟩
    have HOWN2 := Lib.hid hown2; have HF2 := Lib.hid hF2; have HB2 := Lib.hid hb2; have HR2 := Lib.hid hr2
    clear hown2 hturn hmb hF2 hb2 hr2
    go_simp
    refine hK6.out _ _ HS2.out ?_
    clear hK6 K6 hst
    refine wpAnyM_done (by kernel_rfl) (fun w' hG => ?_)
    obtain rfl := hG
    clear SU HS HS2
    have c1 := HB2.out.cell_ (i := 1) rfl; have c2 := HB2.out.cell_ (i := 2) rfl; have f1 := HB2.out.frozen 1
    have s1 : IntKind.i64.wrap (32 + (k.length : Int)) = 32 + (k.length : Int) := by rw [IntKind.wrap_i64]; omega
    have s2 : IntKind.i64.wrap ((wt es : Int) + (32 + (k.length : Int))) = (wt es : Int) + (32 + (k.length : Int)) := by rw [IntKind.wrap_i64]; omega
    have HNEWS : Hid (∀ i u, ([.string ⟨k.toArray⟩, .int .i64 v, .bool true] : List Value)[i]? = some u → (W2.alloc (.cells #[.string ⟨k.toArray⟩, .int .i64 v, .bool true] 66)).cell? ((⟨W2.heap.size, 0, none⟩ : Addr).add i) = some u) := Lib.hid (by
      intro i u hu
      have hb : Bk (W2.alloc (.cells #[.string ⟨k.toArray⟩, .int .i64 v, .bool true] 66)) W2.heap.size 66 #[.string ⟨k.toArray⟩, .int .i64 v, .bool true] := Bk.new W2 _ _
      match i, hu with
      | 0, hu => injection hu with hu; subst hu; exact hb.cell_ (i := 0) rfl
      | 1, hu => injection hu with hu; subst hu; exact hb.cell_ (i := 1) rfl
      | 2, hu => injection hu with hu; subst hu; exact hb.cell_ (i := 2) rfl)
    go_wp2_with (at_builtin; refine wpList_append_own_at _ rfl (.tmp 50) (.tmp 54) 26 rfl 0 66 i0 _ 3 32 Try.underlying26 hi0 hz0 hz1 hz2 rfl (by omega) (.slice A es.length cap) es.length (es.flatMap cellsE) (by first | rfl | (simp [Act.eval]; done)) (own_fr HR2.out ((Fr.refl [] W2).alloc (.cells #[.string ⟨k.toArray⟩, .int .i64 v, .bool true] 66)) (by simp)) ⟨W2.heap.size, 0, none⟩ 1 1 [.string ⟨k.toArray⟩, .int .i64 v, .bool true] (by first | rfl | (simp [Act.eval]; done)) rfl HNEWS.out (by simp [Value.oneCell']) (by unfold maxLen; omega) (by omega) (Nat.zero_le _) ?_; intro v' w4 hown4 hgr hnil hat; obtain ⟨VA, vc, rfl⟩ := own_form hown4 (by omega); have hb4 := (Bk.alloc HB2.out (.cells #[.string ⟨k.toArray⟩, .int .i64 v, .bool true] 66)).grown hgr (fun e => own_ne HR2.out HB2.out (by decide) e.symm); have g1 := hb4.frozen 1; have g2 := hb4.frozen 2; have x1 := hb4.cell_ (i := 1) rfl; have x2 := hb4.cell_ (i := 2) rfl; have HOWN4 := Lib.hid hown4; have HGR := Lib.hid hgr; have HAT := Lib.hid hat; have HB4 := Lib.hid hb4; clear hown4 hgr hnil hat hb4 c1 c2 f1)
    go_ret
    have hl : (es ++ [some (k, v)]).length = es.length + 1 := by simp
    have hw : wt (es ++ [some (k, v)]) = wt es + (32 + k.length) := by simp [wt, live]
    have hwI : ((wt es + (32 + k.length) : Nat) : Int) = (wt es : Int) + (32 + (k.length : Int)) := by omega
    have hfl : (es ++ [some (k, v)]).flatMap cellsE = es.flatMap cellsE ++ [.string ⟨k.toArray⟩, .int .i64 v, .bool true] := by simp [cellsE]
    have hFr : Fr (g :: (Value.slice A es.length cap).ownBlock.toList) W2 ((w4.setCell ⟨g, 1, none⟩ (.slice VA (es.length + 1) vc)).setCell ⟨g, 2, none⟩ (.int .i64 ((wt es : Int) + (32 + (k.length : Int))))) :=
      ((((Fr.refl _ W2).alloc _).grown HGR.out (fun g' e => .inl (by simp [e]))).setCell (.inl (by simp)) _).setCell (.inl (by simp)) _
    have hm2 : MapV W2 (.map (some bm)) (es.length + 1) _ := .inr ⟨bm, rfl, HOWN2.out⟩
    have hng := own_ne HOWN4.out HB4.out (by decide)
    have hs1 := HF1.out.size
    have hs2 := HF2.out.size
    refine ⟨rfl, g :: ((mapBlk (.map (some bm))).toList ++ (Value.slice VA (es ++ [some (k, v)]).length vc).ownBlock.toList), ⟨.map (some bm), VA, vc, _, rfl, ?_, ?_, HMP.out.new v HI.out, ?_⟩, ?_, ?_⟩
    · rw [hl, hw, hwI]; exact (HB4.out.put 1 _).put 2 _
    · rw [hl]; exact hm2.fr hFr (fun b hb hbl => by
        injection hb with hb; subst hb
        rcases List.mem_cons.1 hbl with e | hbl
        · exact hgm e.symm
        · exact HNB.out (by simpa using hbl))
    · rw [hl, hfl]
      exact own_fr HOWN4.out (l := [g]) (((Fr.refl [g] w4).setCell (.inl (by simp)) _).setCell (.inl (by simp)) _) (fun b hb hbg => by simp at hbg; subst hbg; exact hng hb)
    · exact ((HF1.out.drew).trans' HF2.out (fun b hb => by simp at hb; subst hb; exact HBM.out)).trans' hFr (fun b hb => .inl (by
        rw [HLS.out]
        rcases List.mem_cons.1 hb with rfl | hb
        · simp
        · simp only [List.mem_cons, List.mem_append]; exact .inr (.inr hb)))
    · intro b hb
      rcases List.mem_cons.1 hb with rfl | hb
      · left; rw [HLS.out]; simp
      · rcases List.mem_append.1 hb with hb | hb
        · have : b = bm := by simpa [mapBlk, eq_comm] using hb
          subst this; exact HBM.out
        · rw [hl] at hb
          rcases HAT.out with h | h
          · left; rw [h] at hb; rw [HLS.out]; simp only [List.mem_cons, List.mem_append]; exact .inr (.inr hb)
          · right; rw [h] at hb; simp at hb; subst hb; exact Nat.le_succ_of_le (Nat.le_trans hs1 hs2)
theorem set_any {w : World} {g : Nat} {l : List Nat} {es : List (Ent Int)} (h : Arr w g l es) (k : List UInt8) (v : Int) (hk : k.length ≤ 1000) (hn : es.length ≤ 1000) (hwt : wt es ≤ 10000000) :
    Calls Try.prog 8 #[.pointer (some ⟨g, 0, none⟩), .string ⟨k.toArray⟩, .int .i64 v] w (SetPost w g l (setE es k v) (idxOf es k).isNone) := by
  unfold setE
  cases hi : idxOf es k with
  | none => exact set_new h k v hk hn hwt hi
  | some i => exact set_old h k v hk hi
end Go.Proofs.Ytfabmbemdaelcaa
