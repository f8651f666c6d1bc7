/-
  The map from lists of parts to their extents: what a look-up and a store in it do. No conditions.
-/
import Derived.Test.YtkihikphebkepaaRows
import Derived.Test.YtkihikphebkepaaPt
import Derived.LaidEql
import Derived.Maps.OwnSet
namespace Go.Proofs.Ytkihikphebkepaa
open Go.RowKit Go.ChangeMaps
set_option linter.unusedVariables false
set_option linter.unusedSimpArgs false

/-- A key: block, place, number; what stands there: how many steps, how deep. -/
abbrev Ky := Nat × Nat × Nat
abbrev Ex := Nat × Nat
def kyV (k : Ky) : Value := .agg #[.pointer (some ⟨k.1, k.2.1, none⟩), .int .i64 k.2.2]
def exV (x : Ex) : Value := .agg #[.int .i64 x.1, .int .i64 x.2]
def getM (es : List (Ky × Ex)) (k : Ky) : Option Ex := (es.find? (fun p => p.1 == k)).map (·.2)
def MapB (w : World) (mv : Nat) (es : List (Ky × Ex)) : Prop :=
  ∃ arr clock, w.heap[mv]? = some (.map arr clock) ∧ arr.toList.map (fun e => (e.key, e.val)) = es.map (fun p => (kyV p.1, exV p.2)) ∧ ∀ p ∈ es, ∃ cs, Bk w p.1.1 30 cs

theorem ky_stood : Try.prog.stoodInHeld 85 = false := by kernel_rfl
theorem part_info : (Try.prog.info? 30).map (fun i => i.size == 0) = some false := by kernel_rfl
theorem run_equalIn_ptr (w : World) (d : Nat) (a b : Addr) {ca cb : Array Value} {ta tb : TypeId} (ha : w.heap[a.block]? = some (.cells ca ta (0, 0))) (hb : w.heap[b.block]? = some (.cells cb tb (0, 0))) :
    (Op.equalIn (d + 1) 53 (.pointer (some a)) (.pointer (some b))).run Try.prog w = .ok (a == b) w := by
  obtain ⟨i, hi, hz⟩ : ∃ i, Try.prog.info? 30 = some i ∧ (i.size == 0) = false := by
    have h := part_info
    cases e : Try.prog.info? 30 with
    | none => rw [e] at h; cases h
    | some i => rw [e] at h; exact ⟨i, rfl, by simpa using h⟩
  have hz' : i.size ≠ 0 := by simpa using hz
  by_cases e : a = b
  · subst e
    simp [Op.equalIn, run_underlying Try.underlying53, typeInfo, hi, sizeOf, hz', run_sameAddr_same]
  · have e' : (a == b) = false := beq_eq_false_iff_ne.2 e
    simp [Op.equalIn, run_underlying Try.underlying53, typeInfo, hi, sizeOf, hz', run_sameAddr_other w e ha hb, e']
theorem run_equalIn_int (w : World) (d : Nat) (a b : Int) : (Op.equalIn (d + 1) 3 (.int .i64 a) (.int .i64 b)).run Try.prog w = .ok (a == b) w := by
  simp [Op.equalIn, run_underlying Try.underlying3]
theorem ky_part0 (w : World) (k : Ky) : (part 53 #[.pointer (some ⟨k.1, k.2.1, none⟩), .int .i64 k.2.2] 0).run Try.prog w = .ok (.pointer (some ⟨k.1, k.2.1, none⟩)) w := by kernel_rfl
theorem ky_part1 (w : World) (k : Ky) : (part 3 #[.pointer (some ⟨k.1, k.2.1, none⟩), .int .i64 k.2.2] 1).run Try.prog w = .ok (.int .i64 k.2.2) w := by kernel_rfl
theorem run_equal_ky (w : World) (k k' : Ky) {ca cb : Array Value} (ha : Bk w k.1 30 ca) (hb : Bk w k'.1 30 cb) :
    (Op.equal 85 (kyV k) (kyV k')).run Try.prog w = .ok (k == k') w := by
  have h1 := run_equalIn_ptr w 9998 ⟨k.1, k.2.1, none⟩ ⟨k'.1, k'.2.1, none⟩ ha hb
  have h2 := run_equalIn_int w 9998 k.2.2 k'.2.2
  have e : (k == k') = ((⟨k.1, k.2.1, none⟩ : Addr) == ⟨k'.1, k'.2.1, none⟩ && (k.2.2 : Int) == (k'.2.2 : Int)) := by
    obtain ⟨a, b, c⟩ := k
    obtain ⟨a', b', c'⟩ := k'
    rw [Bool.eq_iff_iff]
    simp [Prod.ext_iff]
    constructor
    · rintro ⟨rfl, rfl, rfl⟩; simp
    · rintro ⟨⟨rfl, rfl⟩, h⟩; exact ⟨rfl, rfl, by omega⟩
  rw [e]
  have hu := run_underlying (w := w) Try.underlying85
  show (Op.equalIn (9999 + 1) _ _ _).run Try.prog w = _
  unfold Op.equalIn kyV
  simp [hu, ky_stood, ky_part0, ky_part1, h1, h2]
  by_cases a1 : k.1 = k'.1 <;> by_cases a2 : k.2.1 = k'.2.1 <;> by_cases a3 : (k.2.2 : Int) = (k'.2.2 : Int) <;> simp [a1, a2, a3]
theorem run_checkKey_ky (w : World) (em : Bool) (k : Ky) : (Instr.checkKey em 10000 85 (kyV k)).run Try.prog w = .ok () w := by
  have hu := run_underlying (w := w) Try.underlying85
  have hu1 := run_underlying (w := w) Try.underlying53
  have hu2 := run_underlying (w := w) Try.underlying3
  show (Instr.checkKey em (9998 + 1 + 1) _ _).run Try.prog w = _
  unfold Instr.checkKey kyV
  simp [hu, ky_part0, ky_part1]
  unfold Instr.checkKey
  simp [hu1, hu2]
theorem run_findAsking_ky (w : World) (k : Ky) {ck : Array Value} (hk : Bk w k.1 30 ck) : ∀ (L : List MapEntry) (es : List (Ky × Ex)) (i : Nat),
    L.map (fun e => (e.key, e.val)) = es.map (fun p => (kyV p.1, exV p.2)) → (∀ p ∈ es, ∃ cs, Bk w p.1.1 30 cs) →
    (getM es k = none → (Instr.findAsking 85 (kyV k) L i).run Try.prog w = .ok none w) ∧
    (∀ x, getM es k = some x → ∃ j, es[j]? = some (k, x) ∧ (Instr.findAsking 85 (kyV k) L i).run Try.prog w = .ok (some (i + j, exV x)) w)
  | [], es, i, h, hb => by
    have : es = [] := by simpa using h.symm
    subst this
    exact ⟨fun _ => by simp [Instr.findAsking], fun x hx => by simp [getM] at hx⟩
  | e :: L, [], i, h, hb => by simp at h
  | e :: L, p :: es, i, h, hb => by
    simp only [List.map_cons, List.cons.injEq, Prod.mk.injEq] at h
    obtain ⟨⟨hke, hve⟩, hr⟩ := h
    obtain ⟨cs, hcs⟩ := hb p (by simp)
    have heq := run_equal_ky w k p.1 hk hcs
    have ih := run_findAsking_ky w k hk L es (i + 1) hr (fun q hq => hb q (by simp [hq]))
    have hg : getM (p :: es) k = if p.1 = k then some p.2 else getM es k := by
      unfold getM
      rw [List.find?_cons]
      by_cases e1 : p.1 = k
      · simp [e1]
      · have : (p.1 == k) = false := beq_eq_false_iff_ne.2 e1
        simp [this, e1]
    rw [hg]
    unfold Instr.findAsking
    by_cases e1 : p.1 = k
    · rw [if_pos e1]
      have e2 : (k == p.1) = true := by simp [e1]
      refine ⟨(fun h => by cases h), fun x hx => ?_⟩
      cases hx
      exact ⟨0, by simp [← e1], by simp [hke, hve, heq, e2]⟩
    · rw [if_neg e1]
      have e2 : (k == p.1) = false := beq_eq_false_iff_ne.2 (fun h => e1 h.symm)
      refine ⟨fun h => ?_, fun x hx => ?_⟩
      · simp [hke, heq, e2, ih.1 h]
      · obtain ⟨j, hj0, hj⟩ := ih.2 x hx
        exact ⟨j + 1, by simpa using hj0, by simp [hke, heq, e2, hj]; omega⟩
theorem run_findKey_ky (w : World) (k : Ky) {ck : Array Value} (hk : Bk w k.1 30 ck) (L : List MapEntry) (es : List (Ky × Ex))
    (h : L.map (fun e => (e.key, e.val)) = es.map (fun p => (kyV p.1, exV p.2))) (hb : ∀ p ∈ es, ∃ cs, Bk w p.1.1 30 cs) :
    (getM es k = none → (Instr.findKey 85 (kyV k) L).run Try.prog w = .ok none w) ∧
    (∀ x, getM es k = some x → ∃ j, es[j]? = some (k, x) ∧ (Instr.findKey 85 (kyV k) L).run Try.prog w = .ok (some (j, exV x)) w) := by
  have hu := run_underlying (w := w) Try.underlying85
  have h1 := run_findAsking_ky w k hk L es 0 h hb
  cases L with
  | nil =>
    have : es = [] := by simpa using h.symm
    subst this
    exact ⟨fun _ => by simp [Instr.findKey, hu, Instr.findNow], fun x hx => by simp [getM] at hx⟩
  | cons e L =>
    have hn : ∀ d, Instr.findNow (.struct d) (kyV k) (e :: L) 0 = none := fun d => by simp [Instr.findNow, Instr.sameNow]
    unfold Instr.findKey
    refine ⟨fun hg => ?_, fun x hx => ?_⟩
    · simp [hu, hn, h1.1 hg]
    · obtain ⟨j, hj0, hj⟩ := h1.2 x hx
      exact ⟨j, hj0, by simp [hu, hn, hj]⟩
theorem MapB.look {w : World} {mv : Nat} {es : List (Ky × Ex)} (h : MapB w mv es) (k : Ky) {ck : Array Value} (hk : Bk w k.1 30 ck) (ok : Bool) :
    (Instr.lookup 50 (.map (some mv)) (kyV k) ok).run Try.prog w =
      .ok (if ok then .tuple #[exV ((getM es k).getD (0, 0)), .bool (getM es k).isSome] else exV ((getM es k).getD (0, 0))) w := by
  obtain ⟨arr, clock, hb, he, hbk⟩ := h
  have hu := run_underlying (w := w) Try.underlying50
  obtain ⟨f1, f2⟩ := run_findKey_ky w k hk arr.toList es he hbk
  unfold Instr.lookup
  cases hg : getM es k with
  | none => cases ok <;> simp [hu, MapKept.run_getObj_map hb, run_checkKey_ky, f1 hg, Try.zeroValue67, exV]
  | some x =>
    obtain ⟨j, -, hj⟩ := f2 x hg
    cases ok <;> simp [hu, MapKept.run_getObj_map hb, run_checkKey_ky, hj]
theorem getM_append (es : List (Ky × Ex)) (k : Ky) (x : Ex) (q : Ky) : getM (es ++ [(k, x)]) q = (getM es q).or (if k = q then some x else none) := by
  unfold getM
  rw [List.find?_append]
  cases h : es.find? (fun p => p.1 == q) with
  | some p => simp
  | none =>
    by_cases e : k = q
    · simp [e]
    · have : (k == q) = false := beq_eq_false_iff_ne.2 e
      simp [List.find?_cons, this, e]
theorem MapB.store {w : World} {mv : Nat} {es : List (Ky × Ex)} (h : MapB w mv es) (k : Ky) {ck : Array Value} (hk : Bk w k.1 30 ck) (x : Ex) (hn : getM es k = none) :
    ∃ w', (Instr.mapUpdate 50 (.map (some mv)) (kyV k) (exV x)).run Try.prog w = .ok () w' ∧ MapB w' mv (es ++ [(k, x)]) ∧ Fr [mv] w w' := by
  obtain ⟨arr, clock, hb, he, hbk⟩ := h
  have hu := run_underlying (w := w) Try.underlying50
  obtain ⟨f1, -⟩ := run_findKey_ky w k hk arr.toList es he hbk
  have hfr : Fr [mv] w (setBlock w mv (.map (arr.push { key := kyV k, val := exV x, born := clock }) (clock + 1))) :=
    ⟨rfl, rfl, rfl, by simp [setBlock], fun i _ hi => heap_setBlock_other hb _ (by simpa using hi)⟩
  have hmv : ∀ {g cs}, Bk w g 30 cs → g ∉ [mv] := fun {g cs} hg hm => by
    simp at hm; subst hm; unfold Bk at hg; rw [hb] at hg; cases hg
  refine ⟨_, ?_, ⟨_, _, heap_setBlock_same hb _, ?_, ?_⟩, hfr⟩
  · unfold Instr.mapUpdate
    simp [hu, MapKept.run_getObj_map hb, run_checkKey_ky, f1 hn, MapKept.run_setObj_map _ hb, setBlock]
  · simp [he]
  · intro p hp
    rcases List.mem_append.1 hp with hp | hp
    · obtain ⟨cs, hcs⟩ := hbk p hp
      exact ⟨cs, hcs.fr hfr (hmv hcs)⟩
    · simp at hp; subst hp
      exact ⟨ck, hk.fr hfr (hmv hk)⟩
theorem ky_same (k : Ky) : Instr.sameBits 10000 (kyV k) (kyV k) = true := by
  unfold kyV
  show Instr.sameBits (9998 + 1 + 1) _ _ = true
  simp [Instr.sameBits]
/-- A store of what is there already. -/
theorem MapB.again {w : World} {mv : Nat} {es : List (Ky × Ex)} (h : MapB w mv es) (k : Ky) {ck : Array Value} (hk : Bk w k.1 30 ck) (x : Ex) (hn : getM es k = some x) :
    ∃ w', (Instr.mapUpdate 50 (.map (some mv)) (kyV k) (exV x)).run Try.prog w = .ok () w' ∧ MapB w' mv es ∧ Fr [mv] w w' := by
  obtain ⟨arr, clock, hb, he, hbk⟩ := h
  have hu := run_underlying (w := w) Try.underlying50
  obtain ⟨-, f2⟩ := run_findKey_ky w k hk arr.toList es he hbk
  obtain ⟨j, hj0, hj⟩ := f2 x hn
  have hold : arr.toList[j]?.map (fun e => (e.key, e.val)) = some (kyV k, exV x) := by
    have h1 := congrArg (fun l => l[j]?) he
    simp only [List.getElem?_map] at h1
    rw [h1, hj0]; rfl
  have hfr : Fr [mv] w (setBlock w mv (.map (arr.modify j fun e => { e with key := kyV k, val := exV x }) clock)) :=
    ⟨rfl, rfl, rfl, by simp [setBlock], fun i _ hi => heap_setBlock_other hb _ (by simpa using hi)⟩
  have hmv : ∀ {g cs}, Bk w g 30 cs → g ∉ [mv] := fun {g cs} hg hm => by
    simp at hm; subst hm; unfold Bk at hg; rw [hb] at hg; cases hg
  have hkey : ((arr[j]?).map (·.key)).getD (kyV k) = kyV k := by
    cases hq : arr[j]? with
    | none => rfl
    | some e =>
      have : arr.toList[j]? = some e := by simpa using hq
      rw [this] at hold
      simp at hold
      simp [hold.1]
  refine ⟨_, ?_, ⟨_, _, heap_setBlock_same hb _, ?_, fun p hp => ?_⟩, hfr⟩
  · unfold Instr.mapUpdate
    simp [hu, MapKept.run_getObj_map hb, run_checkKey_ky, hj, hkey, Instr.keyThatStays, ky_same, MapKept.run_setObj_map _ hb, setBlock]
  · rw [← he]
    apply List.ext_getElem?
    intro i
    simp only [List.getElem?_map, Array.getElem?_toList, Array.getElem?_modify]
    by_cases e : j = i
    · subst e
      rw [if_pos rfl]
      have h2 : arr.toList[j]? = arr[j]? := by simp
      rw [h2] at hold
      cases hq : arr[j]? with
      | none => rfl
      | some v => rw [hq] at hold; simp at hold; simp [hold.1, hold.2]
    · rw [if_neg e]
  · obtain ⟨cs, hcs⟩ := hbk p hp
    exact ⟨cs, hcs.fr hfr (hmv hcs)⟩
theorem MapB.made (w : World) : MapB (w.alloc (.map #[] 0)) w.heap.size [] := ⟨#[], 0, heap_alloc_new w _, rfl, by simp⟩
theorem MapB.keep {w w' : World} {mv : Nat} {es : List (Ky × Ex)} (h : MapB w mv es) (hm : w'.heap[mv]? = w.heap[mv]?) (hk : ∀ b cs, Bk w b 30 cs → Bk w' b 30 cs) : MapB w' mv es := by
  obtain ⟨arr, clock, hb, he, hbk⟩ := h
  exact ⟨arr, clock, hm.trans hb, he, fun p hp => (hbk p hp).imp fun cs h => hk _ _ h⟩
theorem MapB.lt {w : World} {mv : Nat} {es : List (Ky × Ex)} (h : MapB w mv es) : mv < w.heap.size := by
  obtain ⟨arr, clock, hb, -⟩ := h
  exact (Array.getElem?_eq_some_iff.1 hb).1
theorem MapB.ne {w : World} {mv : Nat} {es : List (Ky × Ex)} (h : MapB w mv es) {g : Nat} {t : TypeId} {cs : Array Value} (hg : Bk w g t cs) : g ≠ mv := by
  obtain ⟨arr, clock, hb, -⟩ := h
  rintro rfl
  unfold Bk at hg; rw [hb] at hg; cases hg
end Go.Proofs.Ytkihikphebkepaa
