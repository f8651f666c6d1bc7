/-
  living of an array of cells: a list of the elements, without gaps. No conditions.
-/
import Derived.Test.YtfabmbemdaelcaaAc4
namespace Go.Proofs.Ytfabmbemdaelcaa.C
open Go.RowKit Go.ChangeShapes Go.WideShapes Go.Maps
set_option linter.unusedVariables false
set_option linter.unusedSimpArgs false

theorem ent_new2 (w : World) (o : Obj) (key : List UInt8) (v : CV) : ∀ j u, ([.string ⟨key.toArray⟩, .int .i64 v.k, .string ⟨v.s.toArray⟩, .bool v.n, .int .u64 v.h, .int .u64 v.l, .bool true] : List Value)[j]? = some u → ((w.alloc o).alloc (.cells #[.string ⟨key.toArray⟩, .int .i64 v.k, .string ⟨v.s.toArray⟩, .bool v.n, .int .u64 v.h, .int .u64 v.l, .bool true] 69)).cell? ((⟨w.heap.size + 1, 0, none⟩ : Addr).add j) = some u := by
  intro i u hu
  have e : (w.alloc o).heap.size = w.heap.size + 1 := by simp
  have hb : Bk ((w.alloc o).alloc (.cells #[.string ⟨key.toArray⟩, .int .i64 v.k, .string ⟨v.s.toArray⟩, .bool v.n, .int .u64 v.h, .int .u64 v.l, .bool true] 69)) (w.heap.size + 1) 69 #[.string ⟨key.toArray⟩, .int .i64 v.k, .string ⟨v.s.toArray⟩, .bool v.n, .int .u64 v.h, .int .u64 v.l, .bool true] := by rw [← e]; exact Bk.new _ _ _
  match i, hu with
  | 0, hu => injection hu with hu; subst hu; exact hb.cell_ (i := 0) rfl
  | 1, hu => injection hu with hu; subst hu; exact hb.cell_ (i := 1) rfl
  | 2, hu => injection hu with hu; subst hu; exact hb.cell_ (i := 2) rfl
  | 3, hu => injection hu with hu; subst hu; exact hb.cell_ (i := 3) rfl
  | 4, hu => injection hu with hu; subst hu; exact hb.cell_ (i := 4) rfl
  | 5, hu => injection hu with hu; subst hu; exact hb.cell_ (i := 5) rfl
  | 6, hu => injection hu with hu; subst hu; exact hb.cell_ (i := 6) rfl
/-- What Keys leaves. -/
def LivingPost (w : World) (es : List (Ent CV)) (e : Ending) (w' : World) : Prop :=
  ∃ B, e = .returned (.slice (some ⟨B, 0, none⟩) (live es).length (live es).length) ∧ w.heap.size ≤ B ∧ Fr [] w w' ∧
    w'.ownsRow 0 69 7 (.slice (some ⟨B, 0, none⟩) (live es).length (live es).length) (live es).length (((live es).map some).flatMap cellsE)
set_option maxRecDepth 100000 in
set_option maxHeartbeats 4000000 in
theorem living_any {w : World} {g : Nat} {l : List Nat} {es : List (Ent CV)} (h : Arr w g l es) (hn : es.length ≤ 1000) :
    Calls Try.prog 29 #[.pointer (some ⟨g, 0, none⟩)] w (LivingPost w es) := by
  obtain ⟨mv, A, cap, D, W0, rfl, hb, hm, M, hr, hW0⟩ := h
  have hlen := fun ty => hm.len_ M ty
  have c0 := hb.cell_ (i := 0) rfl
  have hgl := hb.lt
  obtain ⟨i0, hi0, hz0, hz1, hz2⟩ := entParts
  obtain ⟨n, hnl⟩ : ∃ n, n = (live es).length := ⟨_, rfl⟩
  have hle : n ≤ 1000 := by rw [hnl]; exact Nat.le_trans (live_le es) hn
  have HR := Lib.hid hr; have HB := Lib.hid hb; have HNL := Lib.hid hnl
  rw [← hnl] at hlen
  clear hW0 hm M hr hb hnl
  go_enter Try.func29, Try.ntmps29
  go_wp2_with (refine wpList_make_own _ rfl _ _ 44 rfl 0 69 i0 _ 7 Try.underlying44 hi0 hz0 hz1 .i64 .i64 _ n rfl rfl rfl (by rw [hz2]; omega) (by unfold maxLen; omega) (Nat.zero_le _) ?_; intro w3 hown3 hgr3; have hb3 := HB.out.grown hgr3 (by simp); have x1 := hb3.cell_ (i := 1) rfl; have HOWN3 := Lib.hid hown3; have HGR3 := Lib.hid hgr3; clear hown3 hgr3 c0 hb3)
  have hf3 : Fr [] w w3 := (Fr.refl [] w).grown HGR3.out (by simp)
  have hr3 := own_fr HR.out hf3 (by simp)
  have HF3 := Lib.hid hf3; have HR3 := Lib.hid hr3
  have hsz : w.heap.size ≤ w3.heap.size := hf3.size
  clear hf3 hr3
  obtain ⟨B, hB⟩ : ∃ B, B = w.heap.size := ⟨_, rfl⟩
  have hown3 := HOWN3.out
  rw [← hB] at hown3
  have HO3 := Lib.hid hown3
  have hBl : B < w3.heap.size := by
    obtain ⟨h1, ⟨h2, h3⟩ | ⟨b', cap', cur, h2, h0, hb', h6⟩⟩ := hown3
    · cases h2
    · injection h2 with h2 _ _; injection h2 with h2; injection h2 with h2; subst h2
      exact Bk.lt (g := B) (t := 69) (cs := cur) hb'
  have HBE := Lib.hid hB
  clear hB hown3
  go_wp2_with fail
  rw [← HBE.out]
  go_loopw [3, 17] (fun v3 v17 wr => ∃ k m : Nat, v17 = .int .i64 (k : Int) ∧ v3 = .slice (some ⟨B, 0, none⟩) m n ∧ m = (live (es.take k)).length ∧ k ≤ es.length ∧ wr.ownsRow 0 69 7 (.slice (some ⟨B, 0, none⟩) m n) m (((live (es.take k)).map some).flatMap cellsE) ∧ Fr [B] w3 wr) (fun _ v17 _ => es.length - (intOf v17).toNat)
  case atStart => exact ⟨0, 0, rfl, rfl, rfl, by omega, HO3.out, Fr.refl _ _⟩
  case round =>
    obtain ⟨k, m, rfl, rfl, hm, hk, hown, hf⟩ := hrel
    clear x1
    by_cases hlt : k < es.length
    · obtain ⟨e, he⟩ : ∃ e, es[k]? = some e := ⟨_, List.getElem?_eq_getElem hlt⟩
      have hrr := own_fr HR3.out hf (fun b hb hbB => by
        simp at hbB; subst hbB
        obtain ⟨h1, ⟨h2, h3⟩ | ⟨b', cap', cur, h2, h0, hb', h6⟩⟩ := HR.out
        · rw [h2] at hb; simp [Value.ownBlock] at hb
        · rw [h2] at hb; injection hb with hb
          have := Bk.lt (g := b') (t := 69) (cs := cur) hb'
          have h7 := HBE.out
          simp at hb; omega)
      obtain ⟨b, rfl, hbl, -, hc⟩ := row_ent hrr he
      have hml := live_take_le es (k + 1)
      rw [live_take es k e he, List.length_append] at hml
      have hlt2 := live_take es k e he
      have HLT := Lib.hid hlt2; have HOWN := Lib.hid hown; have HF := Lib.hid hf; have HM := Lib.hid hm
      rw [← HNL.out, ← hm] at hml
      have hltI : (k : Int) < (es.length : Int) := by omega
      cases e with
      | none =>
        have d0 := hc 0 _ (by omega) rfl; have d1 := hc 1 _ (by omega) rfl; have d2 := hc 2 _ (by omega) rfl; have d3 := hc 3 _ (by omega) rfl; have d4 := hc 4 _ (by omega) rfl; have d5 := hc 5 _ (by omega) rfl; have d6 := hc 6 _ (by omega) rfl
        rw [Nat.add_zero] at d0
        clear hc hrr he hlt2 hown hf hm
        go_wp2_with fail
        go_roundw
        case rel => exact ⟨k + 1, m, by go_num, rfl, by rw [HLT.out]; simpa using HM.out, by omega, by rw [HLT.out]; simpa using own_fr HOWN.out ((Fr.refl [] wr).alloc _) (by simp), HF.out.alloc _⟩
        case measure => first | (simp [intOf]; done) | (simp [intOf]; omega)
      | some p =>
        obtain ⟨key, v⟩ := p
        have d0 := hc 0 _ (by omega) rfl; have d1 := hc 1 _ (by omega) rfl; have d2 := hc 2 _ (by omega) rfl; have d3 := hc 3 _ (by omega) rfl; have d4 := hc 4 _ (by omega) rfl; have d5 := hc 5 _ (by omega) rfl; have d6 := hc 6 _ (by omega) rfl
        rw [Nat.add_zero] at d0
        have hml' : m + 1 ≤ n := by simpa using hml
        clear hc hrr he hlt2 hown hf hm hml
        go_wp2_with (at_builtin; refine wpList_append_fits _ rfl _ _ 44 rfl 0 69 i0 7 Try.underlying44 hi0 hz1 B m n (((live (es.take k)).map some).flatMap cellsE) rfl (own_fr (own_fr HOWN.out ((Fr.refl [] wr).alloc (.cells #[.string ⟨key.toArray⟩, .int .i64 v.k, .string ⟨v.s.toArray⟩, .bool v.n, .int .u64 v.h, .int .u64 v.l, .bool true] 69)) (by simp)) ((Fr.refl [] _).alloc (.cells #[.string ⟨key.toArray⟩, .int .i64 v.k, .string ⟨v.s.toArray⟩, .bool v.n, .int .u64 v.h, .int .u64 v.l, .bool true] 69)) (by simp)) ⟨wr.heap.size + 1, 0, none⟩ 1 1 [.string ⟨key.toArray⟩, .int .i64 v.k, .string ⟨v.s.toArray⟩, .bool v.n, .int .u64 v.h, .int .u64 v.l, .bool true] (by first | rfl | (simp [Act.eval]; done)) rfl (ent_new2 _ _ _ _) (by simp [Value.oneCell']) (by omega) ?_; intro w4 hown' hgr'; have HOWN4 := Lib.hid hown'; have HGR4 := Lib.hid hgr'; clear hown' hgr')
        go_roundw
        case rel => exact ⟨k + 1, m + 1, by go_num, rfl, by rw [HLT.out, List.length_append, ← HM.out]; rfl, by omega, by rw [HLT.out]; simpa [cellsE] using HOWN4.out, ((HF.out.alloc _).alloc _).grown HGR4.out (fun g' e => .inl (by injection e with e; simp [e]))⟩
        case measure => first | (simp [intOf]; done) | (simp [intOf]; omega)
    · obtain rfl : k = es.length := by omega
      rw [List.take_length] at hm hown
      have hmn : m = n := by rw [hm, ← HNL.out]
      subst hmn
      have hfin : LivingPost w es (.returned (.slice (some ⟨B, 0, none⟩) m m)) wr :=
        ⟨B, by rw [← HNL.out], by rw [HBE.out]; exact Nat.le_refl _, HF3.out.trans' hf (fun b hb => by simp at hb; subst hb; exact .inr (by rw [HBE.out]; exact Nat.le_refl _)), by rw [← HNL.out]; exact hown⟩
      have HFIN := Lib.hid hfin
      clear hfin hown hf hm
      go_wp2_with fail
      go_ret
      exact HFIN.out
end Go.Proofs.Ytfabmbemdaelcaa.C
