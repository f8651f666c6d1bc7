/-
  The walk of AssocAgain. No conditions.
-/
import Derived.Test.YtfabmbemdaelcaaRn2
import Derived.Test.YtfabmbemdaelcaaAcW

namespace Go.Proofs.Ytfabmbemdaelcaa.C
open Go.RowKit Go.Shelf Go.Maps Go.ChangeShapes Go.WideShapes Go.ChangeAt Go.Deep
attribute [local go_sem] Oper.semAt_some
set_option linter.unusedVariables false
set_option linter.unusedSimpArgs false

/-- What a body owes that does not panic. -/
def bodyPostN (P : Program) (fn : Func) (R : Ending → World → Prop) : Exit → Act → World → Prop
  | .normal, a, w => bodyPostM Fence.wide 5 P fn R .normal a w
  | .ret, a, w => bodyPostM Fence.wide 5 P fn R .ret a w
  | .outgrown, a, w => bodyPostM Fence.wide 5 P fn R .outgrown a w
  | _, _, _ => False
theorem calls_marks {P : Program} {f : FuncId} {fn : Func} {c : Code} {args : Array Value} {w : World} {R : Ending → World → Prop} (hf : P.funcs[f]? = some fn) (hb : fn.body = some c)
    (h : c.wp P (bodyPostN P fn R) { tmps := args ++ Array.replicate (fn.ntmps - args.size) undef, defers := [] } w) : Calls P f args w R :=
  callsIn_wide.1 (callsIn_of_wp_marks (F := Fence.wide) (n := 5) hf hb trivial (wpIn_wide.2 (wp_mono h fun e a w hq => by cases e <;> first | exact hq.elim | exact hq)) rfl)
/-- An array beside what stays: its blocks are its own, or newer than w0. -/
def ArS (w0 w : World) (g : Nat) (es : List (Ent CV)) : Prop := ∃ l, Arr w g l es ∧ (∀ b ∈ l, b = g ∨ w0.heap.size ≤ b) ∧ Fr [g] w0 w
theorem ArS.step {w0 w w' : World} {g : Nat} {l : List Nat} {es' : List (Ent CV)} (hl : ∀ b ∈ l, b = g ∨ w0.heap.size ≤ b) (hf : Fr [g] w0 w) (h : ∃ l', Arr w' g l' es' ∧ Fr l w w' ∧ ∀ b ∈ l', b ∈ l ∨ w.heap.size ≤ b) : ArS w0 w' g es' := by
  obtain ⟨l', h1, h2, h3⟩ := h
  refine ⟨l', h1, fun b hb => ?_, hf.trans' h2 (fun b hb => by rcases hl b hb with h | h; exact .inl (by simp [h]); exact .inr h)⟩
  rcases h3 b hb with h | h
  · exact hl b h
  · exact .inr (Nat.le_trans hf.size h)
def ACT (K : Nat → Int) (S : Nat → List UInt8) (V : Nat → CV) (i : Nat) (es : List (Ent CV)) : List (Ent CV) := if K i = 3 then dropC es (S i) else setE es (S i) (V i)
/-- Where the first loop stands. -/
def AgRel (w0 : World) (ga n : Nat) (K : Nat → Int) (S : Nat → List UInt8) (V : Nat → CV) (v5 : Value) (wr : World) : Prop :=
  ∃ (i : Nat) (es : List (Ent CV)), v5 = .int .i64 (i : Int) ∧ i ≤ n ∧ ArS w0 wr ga es ∧ es.length ≤ i ∧ KeysOk maxLen es
theorem take_fresh {es : List (Ent CV)} (hd : Dist es) {k : Nat} {key : List UInt8} {v : CV} (hx : (live es)[k]? = some (key, v)) : idxOf (((live es).take k).map some : List (Ent CV)) key = none := by
  refine idxOf_none.2 fun e he => ?_
  obtain ⟨x, hm, rfl⟩ := List.mem_map.1 he
  have hp := live_pairs hd
  obtain ⟨hk, hxe⟩ := List.getElem?_eq_some_iff.1 hx
  have hsp : live es = (live es).take k ++ (live es).drop k := (List.take_append_drop k _).symm
  rw [hsp, List.pairwise_append] at hp
  have h := hp.2.2 x hm (key, v) (by rw [List.drop_eq_getElem_cons hk, hxe]; simp)
  simp [keyIs, h]
theorem take_set {es : List (Ent CV)} (hd : Dist es) {k : Nat} {key : List UInt8} {v : CV} (hx : (live es)[k]? = some (key, v)) : setE (((live es).take k).map some : List (Ent CV)) key v = (((live es).take (k + 1)).map some) := by
  unfold setE
  rw [take_fresh hd hx, List.take_add_one, hx]
  simp
theorem all_any {w : World} {ga : Nat} : Calls Try.prog 26 #[.pointer (some ⟨ga, 0, none⟩)] w fun e w' =>
    e = .returned (.func (.func 30) #[] #[.pointer (some ⟨w.heap.size, 0, none⟩)]) ∧ w' = w.alloc (.cells #[.pointer (some ⟨ga, 0, none⟩)] 43) := by
  go_enter Try.func26, Try.ntmps26
  go_wp2_with fail
  go_ret
  exact ⟨rfl, rfl⟩
theorem arr_new (w : World) : Arr (w.alloc (.cells #[.map none, .slice none 0 0, .int .i64 0] 46)) w.heap.size [w.heap.size] [] :=
  ⟨.map none, none, 0, .map [], 0, rfl, Bk.new w _ _, .inl ⟨rfl, rfl⟩, Mp.nil_, World.ownsRow_nil _ _ _ _, rfl⟩
set_option maxRecDepth 100000 in
set_option maxHeartbeats 16000000 in
theorem again_walk {w : World} {A : Option Addr} {n c : Nat} {K : Nat → Int} {S : Nat → List UInt8} {V : Nat → CV} (h : ActsC w A n K S V) (hn : n ≤ maxLen) :
    Calls Try.prog 6 #[.slice A n c] w fun e w' => e = .returned (.bool true) ∧ Below w.heap.size w w' := by
  have HACT := Lib.hid h; have HNN := Lib.hid hn
  clear h hn
  refine calls_marks Try.func6 rfl ?_
  simp only [Try.ntmps6, List.size_toArray, List.length_cons, List.length_nil, Nat.reduceAdd, Nat.reduceSub, Array.replicate_succ, Array.replicate_zero, List.push_toArray, List.append_toArray, List.nil_append, List.cons_append]
  go_wp2_with fail
  go_at_call 7
  obtain ⟨wb, hwb⟩ : ∃ wb, wb = w.alloc (.cells #[.bool false] 4) := ⟨_, rfl⟩
  have hbr : Bk wb w.heap.size 4 #[.bool false] := by rw [hwb]; exact Bk.new w _ _
  have hfb : Fr [] w wb := by rw [hwb]; exact (Fr.refl [] w).alloc _
  rw [← hwb]
  obtain ⟨br, hbre⟩ : ∃ br, br = w.heap.size := ⟨_, rfl⟩
  rw [← hbre] at hbr ⊢
  have hbrw : w.heap.size ≤ br := by omega
  refine (awake_any wb).mono ?_
  rintro e w1 ⟨rfl, hf1⟩
  have hbr1 := hbr.fr hf1 (by simp)
  have HF1 := Lib.hid (hfb.trans hf1); have HBR1 := Lib.hid hbr1
  have r0 := hbr1.cell_ (i := 0) rfl
  have z0 := hbr1.frozen 0
  clear hwb hbr hfb hf1 hbr1 hbre
  go_wp2_with fail
  go_at_call 13
  refine (few_any (HACT.out.fr HF1.out) HNN.out).mono ?_
  intro e w2 hp
  obtain ⟨r, rfl, rfl, hr⟩ := hp
  cases r with
  | false =>
    clear hr
    go_wp2_with fail
    have hb5 := HBR1.out.put 0 (.bool true)
    have r5 := hb5.cell_ (i := 0) rfl
    have hfin : Fr [] w (w2.setCell ⟨br, 0, none⟩ (.bool true)) := HF1.out.setCell (.inr hbrw) _
    refine ⟨.bool true, ?_, rfl, hfin.below_nil⟩
    simp [results, Try.results6, go_sem, r5]
  | true =>
    obtain ⟨hn60, hs60⟩ := hr rfl
    have HS60 := Lib.hid hs60
    clear hr hs60
    go_upto_region 6 with fail
    obtain ⟨w3, hw3⟩ : ∃ w3, w3 = ((w2.alloc (.cells #[.map none, .slice none 0 0, .int .i64 0] 46)).alloc (.cells #[.map none, .slice none 0 0, .int .i64 0] 46)).alloc (.cells #[.pointer (some ⟨w2.heap.size + 1, 0, none⟩)] 43) := ⟨_, rfl⟩
    have ha3 : Arr w3 w2.heap.size [w2.heap.size] [] := by
      rw [hw3]
      exact ((arr_new w2).fr_nil ((Fr.refl [] _).alloc _)).fr_nil ((Fr.refl [] _).alloc _)
    have hb3 : Arr w3 (w2.heap.size + 1) [w2.heap.size + 1] [] := by
      rw [hw3]
      have h := arr_new (w2.alloc (.cells #[.map none, .slice none 0 0, .int .i64 0] 46))
      rw [World.size_alloc] at h
      exact h.fr_nil ((Fr.refl [] _).alloc _)
    have h43 : Bk w3 (w2.heap.size + 2) 43 #[.pointer (some ⟨w2.heap.size + 1, 0, none⟩)] := by
      rw [hw3]
      have h := Bk.new ((w2.alloc (.cells #[.map none, .slice none 0 0, .int .i64 0] 46)).alloc (.cells #[.map none, .slice none 0 0, .int .i64 0] 46)) 43 #[.pointer (some ⟨w2.heap.size + 1, 0, none⟩)]
      rw [World.size_alloc, World.size_alloc] at h
      exact h
    have hf3 : Fr [] w2 w3 := by rw [hw3]; exact (((Fr.refl [] w2).alloc _).alloc _).alloc _
    have hsz3 : w3.heap.size = w2.heap.size + 3 := by rw [hw3]; simp
    rw [← hw3]
    obtain ⟨ga, hga⟩ : ∃ ga, ga = w2.heap.size := ⟨_, rfl⟩
    obtain ⟨gb, hgb⟩ : ∃ gb, gb = w2.heap.size + 1 := ⟨_, rfl⟩
    obtain ⟨b4, hb4⟩ : ∃ b4, b4 = w2.heap.size + 2 := ⟨_, rfl⟩
    have e4 : (⟨w2.heap.size + 1 + 1, 0, none⟩ : Addr) = ⟨b4, 0, none⟩ := by rw [hb4]
    have e3 : (⟨w2.heap.size + 1, 0, none⟩ : Addr) = ⟨gb, 0, none⟩ := by rw [hgb]
    have e2 : (⟨w2.heap.size, 0, none⟩ : Addr) = ⟨ga, 0, none⟩ := by rw [hga]
    rw [e4, e3, e2]
    rw [← hga] at ha3
    rw [← hgb] at hb3 h43
    rw [← hb4] at h43
    have hbr3 := HBR1.out.fr hf3 (by simp)
    have hlt3 : ga < w3.heap.size ∧ gb < w3.heap.size ∧ b4 < w3.heap.size ∧ br < w3.heap.size ∧ ga ≠ gb ∧ ga ≠ b4 ∧ ga ≠ br ∧ gb ≠ br ∧ gb ≠ b4 ∧ b4 ≠ br := by
      have h1 := HBR1.out.lt
      refine ⟨?_, ?_, ?_, ?_, ?_, ?_, ?_, ?_, ?_, ?_⟩ <;> omega
    have hgaw : w.heap.size ≤ ga := by have := HF1.out.size; omega
    have hgbw : w.heap.size ≤ gb := by have := HF1.out.size; omega
    have HLT := Lib.hid hlt3; have HA3 := Lib.hid ha3; have HB3 := Lib.hid hb3; have H43 := Lib.hid h43; have HF3 := Lib.hid (HF1.out.trans hf3); have HBR3 := Lib.hid hbr3
    clear hw3 ha3 hb3 h43 hf3 hsz3 hga hgb hb4 e4 e3 e2 hbr3 r0 z0
    have HREL : Hid (AgRel w3 ga n K S V (.int .i64 0) w3) := Lib.hid ⟨0, [], rfl, by omega, ⟨[ga], HA3.out, fun b hb => by simp at hb; exact .inl hb, Fr.refl _ _⟩, by simp, by intro p hp; cases hp⟩
    go_wp2_with fail
    go_loopw [5] (fun v5 wr => AgRel w3 ga n K S V v5 wr) (fun v5 _ => n - (intOf v5).toNat)
    case atStart => exact HREL.out
    case round =>
      unfold AgRel at hrel
      obtain ⟨i, es, rfl, hi, ⟨la, harr, hla, hfr⟩, hel, hks⟩ := hrel
      have HARR := Lib.hid harr; have HLA := Lib.hid hla; have HFR := Lib.hid hfr; have HKS := Lib.hid hks
      clear harr hla hfr hks
      by_cases hlt : i < n
      · obtain ⟨b, off, rfl, hba, c0, c1, c2, c3, c4, c5, c6⟩ := HACT.out i hlt
        have hsi := HS60.out i hlt
        obtain ⟨s, hs⟩ : ∃ s, s = S i := ⟨_, rfl⟩
        obtain ⟨y, hy⟩ : ∃ y, y = V i := ⟨_, rfl⟩
        obtain ⟨kd, hkd⟩ : ∃ kd, kd = K i := ⟨_, rfl⟩
        rw [← hs] at c1 hsi
        rw [← hy] at c2 c3 c4 c5 c6
        rw [← hkd] at c0
        have hsl : s.length ≤ maxLen := by unfold maxLen; omega
        have HSL := Lib.hid hsl
        have hbga : b ≠ ga := by omega
        have g := fun x => (HFR.out.cell (p := ⟨b, x, none⟩) (Nat.lt_of_lt_of_le hba HF3.out.size) (by simpa using hbga)).trans (HF3.out.cell (p := ⟨b, x, none⟩) hba (by simp))
        replace c0 := (g _).trans c0
        replace c1 := (g _).trans c1
        replace c2 := (g _).trans c2
        replace c3 := (g _).trans c3
        replace c4 := (g _).trans c4
        replace c5 := (g _).trans c5
        replace c6 := (g _).trans c6
        clear g hs hy hkd hsl
        by_cases h3 : kd = 3
        · subst h3
          go_wp2_with fail
          go_at_call 15
          refine (drop_any HARR.out s HSL.out (by omega) HKS.out).mono ?_
          rintro e w5 ⟨rfl, h5⟩
          have h6 : ArS w3 w5 ga (dropC es s) := ArS.step HLA.out HFR.out h5
          have hdl := dropC_len es s
          have H6 := Lib.hid h6
          clear h5 h6 c0 c1 c2 c3 c4 c5 c6
          go_wp2_with fail
          go_roundw
          case rel => exact ⟨i + 1, dropC es s, by go_num, by omega, H6.out, by omega, HKS.out.drop s⟩
          case measure => first | (simp [intOf]; done) | (simp [intOf]; omega)
        · have g3 : (kd == 3) = false := beq_eq_false_iff_ne.2 h3
          go_upto_region 11 with fail
          go_still_tail 11, (by kernel_rfl)
          change wpList _ _ _ _ _ wr.drew
          obtain ⟨wq, hwq⟩ : ∃ wq, wq = wr.drew := ⟨_, rfl⟩
          rw [← hwq]
          have hfq : Fr [] wr wq := by rw [hwq]; exact (Fr.refl [] wr).drew
          have HAQ := Lib.hid (HARR.out.fr_nil hfq); have HFQ := Lib.hid (HFR.out.trans hfq.nil_)
          clear hwq hfq c0 c1 c2 c3 c4 c5 c6
          go_wp2_with fail
          go_at_call 14
          refine (set_any HAQ.out s y HSL.out (by omega)).mono ?_
          rintro e w5 ⟨rfl, h5⟩
          have h6 : ArS w3 w5 ga (setE es s y) := ArS.step HLA.out HFQ.out h5
          have hsl2 := setE_len es s y
          have H6 := Lib.hid h6
          clear h5 h6
          go_wp2_with fail
          go_roundw
          case rel => exact ⟨i + 1, setE es s y, by go_num, by omega, H6.out, by omega, HKS.out.set s y HSL.out⟩
          case measure => first | (simp [intOf]; done) | (simp [intOf]; omega)
      · obtain rfl : i = n := by omega
        go_wp2_with fail
        go_at_call 26
        refine all_any.mono ?_
        rintro e w5 ⟨rfl, hw5⟩
        have hf5 : Fr [] wr w5 := by rw [hw5]; exact (Fr.refl [] wr).alloc _
        have hbox : w5.cell? ⟨wr.heap.size, 0, none⟩ = some (.pointer (some ⟨ga, 0, none⟩)) := by rw [hw5]; exact (Bk.new wr _ _).cell_ (i := 0) rfl
        have hbl : wr.heap.size < w5.heap.size := by rw [hw5]; simp
        obtain ⟨bx, hbx⟩ : ∃ bx, bx = wr.heap.size := ⟨_, rfl⟩
        rw [← hbx] at hbox hbl ⊢
        have ha5 := HARR.out.fr_nil hf5
        have hfa5 : Fr [ga] w3 w5 := HFR.out.trans hf5.nil_
        obtain ⟨l1, l2, l3, l4, n1, n2, n3, n4, n5, n6⟩ := HLT.out
        have hdi : Dist es := by obtain ⟨mv, A', cap', D', W0', -, -, -, M, -, -⟩ := HARR.out; exact M.dist
        have HDI := Lib.hid hdi; clear hdi
        have hb5 : Arr w5 gb [gb] [] := HB3.out.fr hfa5 (fun b hb => by simp at hb; subst hb; simpa using n1.symm)
        have h45 := H43.out.fr hfa5 (by simpa using n2.symm)
        have hbr5 := HBR3.out.fr hfa5 (by simpa using n3.symm)
        have HA5 := Lib.hid ha5; have HFA5 := Lib.hid hfa5; have HB5 := Lib.hid hb5; have H45 := Lib.hid h45; have HBR5 := Lib.hid hbr5; have HBOX := Lib.hid hbox
        clear hw5 hf5 hbx ha5 hfa5 hb5 h45 hbr5 hbox
        go_wp2_with fail
        refine wp_rangeAll (ba := bx) (ga := ga) (la := la) (es := es) rfl rfl HBOX.out HA5.out (by omega) hbl
          (fun St k W => (∃ lb, Arr W gb lb (((live es).take k).map some) ∧ ∀ b ∈ lb, b = gb ∨ (w5.heap.size ≤ b ∧ b ∉ St)) ∧ Fr [gb] w5 W ∧ ∀ b ∈ St, w5.heap.size ≤ b)
          (fun _ _ _ => False) ?hI0 ?hfr (fun _ _ _ _ h _ => h.elim) ?round ?done (fun _ _ _ _ _ _ h _ => h.elim)
        case hI0 =>
          intro St W' hf hSt
          exact ⟨⟨[gb], by simpa using HB5.out.fr_nil hf, fun b hb => by simp at hb; exact .inl hb⟩, hf.nil_, fun b hb => (hSt b hb).1⟩
        case hfr =>
          rintro St k W1 W2 ⟨⟨lb, h1, h2⟩, h3, h4⟩ hf
          have hgbl : gb < w5.heap.size := HB5.out.lt gb (by simp)
          refine ⟨⟨lb, h1.fr hf (fun b hb hm => ?_), h2⟩, h3.trans' hf (fun b hb => .inr (h4 b hb)), h4⟩
          rcases h2 b hb with h | h
          · have := h4 b hm; omega
          · exact h.2 hm
        case round =>
          rintro St l k ⟨key, v⟩ W hl hSt hx ⟨⟨lb, h1, h2⟩, h3, h4⟩
          unfold CV.val
          dsimp only
          gi_wp2
          refine ⟨(Fr.refl [] W).alloc _, fun W2 hf2 => ?_⟩
          have hlW := hSt l hl
          have hgbl : gb < w5.heap.size := HB5.out.lt gb (by simp)
          have hllb : l ∉ lb := fun hm => by
            rcases h2 l hm with h | h
            · omega
            · exact h.2 hl
          have hbox7 := (Bk.new W 41 #[.int .i64 v.k, .string ⟨v.s.toArray⟩, .bool v.n, .int .u64 v.h, .int .u64 v.l]).fr hf2 (by simp; omega)
          have h4b := (((H45.out.fr h3 (by simpa using n5.symm)).alloc (.cells #[.int .i64 v.k, .string ⟨v.s.toArray⟩, .bool v.n, .int .u64 v.h, .int .u64 v.l] 41)).fr hf2 (by have := H45.out.lt; simp; omega))
          have harr2 := (h1.fr_nil ((Fr.refl [] W).alloc (.cells #[.int .i64 v.k, .string ⟨v.s.toArray⟩, .bool v.n, .int .u64 v.h, .int .u64 v.l] 41))).fr hf2 (fun b hb hm => by simp at hm; subst hm; exact hllb hb)
          have hfr2 : Fr [gb] w5 W2 := (h3.alloc _).trans' hf2 (by simp; right; omega)
          have hSt2 : ∀ b ∈ St, b < W2.heap.size := fun b hb => by have h := (hSt b hb).2; have h' := hf2.size; simp at h'; omega
          have y0 := hbox7.cell_ (i := 0) rfl
          have y1 := hbox7.cell_ (i := 1) rfl
          have y2 := hbox7.cell_ (i := 2) rfl
          have y3 := hbox7.cell_ (i := 3) rfl
          have y4 := hbox7.cell_ (i := 4) rfl
          have x0 := h4b.cell_ (i := 0) rfl
          obtain ⟨b7, hb7⟩ : ∃ b7, b7 = W.heap.size := ⟨_, rfl⟩
          rw [← hb7] at y0 y1 y2 y3 y4 ⊢
          have hkl : key.length ≤ maxLen := HKS.out _ (List.mem_of_getElem? hx)
          have hfresh := take_fresh HDI.out hx
          have hset := take_set HDI.out hx
          have hlen : (((live es).take k).map some : List (Ent CV)).length ≤ 1000 := by
            have h := live_le es
            simp
            omega
          have HAR2 := Lib.hid harr2; have HFR2 := Lib.hid hfr2; have HSET := Lib.hid hset; have HFRE := Lib.hid hfresh; have HST2 := Lib.hid hSt2; have H2 := Lib.hid h2; have H4 := Lib.hid h4; have HSTT := Lib.hid hSt; have HX := Lib.hid hx; have HKL := Lib.hid hkl; have HLN := Lib.hid hlen
          clear hf2 hb7 hbox7 h4b harr2 hfr2 hset hfresh hSt2 h2 h4 hSt hx hkl hlen h1 h3
          gi_wp2
          refine ⟨trivial, ?_⟩
          refine (CallsIn.inRound l (callsIn_wide.2 (set_any HAR2.out key v HKL.out HLN.out))).mono ?_
          rintro e W3 ⟨rfl, hpost⟩
          rw [HFRE.out]
          have HPOST := Lib.hid hpost
          clear hpost y0 y1 y2 y3 y4 x0
          gi_wp2
          obtain ⟨lb', p1, p2, p3⟩ := HPOST.out
          have hgbl2 : gb < w5.heap.size := HB5.out.lt gb (by simp)
          rw [HSET.out] at p1
          refine ⟨fun b hb => p2.block b (HST2.out b hb) (fun hm => ?_), ⟨lb', p1, fun b hb => ?_⟩, HFR2.out.trans' p2 (fun b hb => ?_), H4.out⟩
          · rcases H2.out b hm with h | h
            · have := H4.out b hb; omega
            · exact h.2 hb
          · rcases p3 b hb with h | h
            · exact H2.out b h
            · exact .inr ⟨Nat.le_trans HFR2.out.size h, fun hm => by have := HST2.out b hm; omega⟩
          · rcases H2.out b hb with h | h
            · exact .inl (by simp [h])
            · exact .inr h.1
        case done =>
          rintro D St w8 hD hSt ⟨⟨lb, h1, h2⟩, h3, h4⟩ hd
          rw [List.take_length] at h1
          have hgbl2 : gb < w5.heap.size := HB5.out.lt gb (by simp)
          have hlad : ∀ b ∈ la, b ∉ lb := fun b hb hm => by
            have hbl5 := HA5.out.lt b hb
            rcases h2 b hm with h | h
            · subst h
              rcases HLA.out b hb with h' | h'
              · exact n1 h'.symm
              · omega
            · omega
          have haW := HA5.out.fr h3 (fun b hb => by
            have := hlad b hb
            simp
            intro e
            subst e
            rcases HLA.out b hb with h' | h'
            · exact n1 h'.symm
            · omega)
          have h4W := H45.out.fr h3 (by simpa using n5.symm)
          have hbrW := HBR5.out.fr h3 (by simpa using n4.symm)
          have hDl : ∀ b ∈ lb, b ≠ D := fun b hb e => by
            subst e
            rcases h2 b hb with h | h
            · have := h4 b hD; omega
            · exact h.2 hD
          have hbrl : br ∉ lb := fun hm => by
            rcases h2 br hm with h | h
            · exact n4 h.symm
            · have := HBR5.out.lt; omega
          have hb4l : b4 ∉ lb := fun hm => by
            rcases h2 b4 hm with h | h
            · exact n5 h.symm
            · have := H45.out.lt; omega
          have HB4L := Lib.hid hb4l; clear hb4l
          have hDw : w.heap.size ≤ D := by have h5 := h4 D hD; have h6 := HF3.out.size; have h7 := HFA5.out.size; omega
          have hlbw : ∀ b ∈ lb, w.heap.size ≤ b := fun b hb => by
            rcases h2 b hb with h | h
            · omega
            · have h6 := HF3.out.size; have h7 := HFA5.out.size; omega
          have hfW : Fr [] w w8 := (HF3.out.trans' (HFA5.out) (by simp; omega)).trans' h3 (by simp; omega)
          have HAW := Lib.hid haW; have HBW := Lib.hid h1; have H4W := Lib.hid h4W; have HBRW := Lib.hid hbrW; have HDD := Lib.hid hd; have HDL := Lib.hid hDl; have HBRL := Lib.hid hbrl; have HLAD := Lib.hid hlad; have HFW := Lib.hid hfW; have HLBW := Lib.hid hlbw
          clear h1 h2 h3 h4 hd hlad haW h4W hbrW hDl hbrl hfW hlbw hSt hD
          go_upto_region 17 with fail
          obtain ⟨m, hm⟩ : ∃ m, m = (live es).length := ⟨_, rfl⟩
          have hles := live_le es
          have hm60 : m ≤ 1000 := by omega
          obtain ⟨eb, heb⟩ : ∃ eb, eb = ((live es).map some : List (Ent CV)) := ⟨_, rfl⟩
          obtain ⟨hs1, hs2, hs3⟩ := refill_same es
          have hlb : live eb = live es := by rw [heb]; exact hs1
          have hwb : wt eb = wt es := by rw [heb]; exact hs2
          have hgb : ∀ k, getE eb k = getE es k := by rw [heb]; exact hs3
          have hbl : eb.length ≤ 1000 := by rw [heb, List.length_map]; omega
          rw [← heb] at HBW
          have HEB := Lib.hid heb; have HM := Lib.hid hm; have HLB := Lib.hid hlb; have HWB := Lib.hid hwb; have HGB := Lib.hid hgb
          clear hm heb hs1 hs2 hs3 hlb hwb hgb
          refine wp_region_M_ (G := fun a b => Fr [] a b) (S := fun V => Fr [] w8 V) ⟨fun _ => Fr.refl _ _, fun a b c h k => h.trans k, fun a b h k => h.trans k, by kernel_rfl, fun _ _ d _ _ h => by cases d <;> exact h⟩ (by kernel_rfl) fun su => ?_
          have SU := Lib.hid su
          have HS : Hid (Fr [] w8 (World.drew w8)) := Lib.hid ((Fr.refl [] w8).drew)
          clear su
          refine M_move (i := 0) _ SU.out rfl rfl (by kernel_rfl) HS.out rfl ?_
          simp only [Act.put, Act.eval, Array.getD_eq_getD_getElem?, List.setIfInBounds_toArray, List.set_cons_zero, List.set_cons_succ, List.getElem?_toArray, List.getElem?_cons_zero, List.getElem?_cons_succ, Option.getD_some]
          refine M_val (i := 2) (v := .pointer (some ⟨gb, 0, none⟩)) SU.out rfl (by kernel_rfl) HS.out rfl (fun V hS => ?_) ?_
          · have c4 := (H4W.out.fr hS (by simp)).cell_ (i := 0) rfl
            go_simp
            first | done | rfl
          simp only [Act.put, List.setIfInBounds_toArray, List.set_cons_zero, List.set_cons_succ]
          refine wpAnyM_all (rs := [1]) (by kernel_rfl) (by simp) (fun v1 hG => ?_)
          have hg1 : Fr [] w8 v1 := ((Fr.refl [] w8).drew).trans hG
          refine allM.head rfl rfl (fun K1 hK1 => ?_) allM.nil
          go_simp
          refine (keys_any (HAW.out.fr_nil hg1) (by omega)).mono ?_
          intro e w9 hp
          obtain ⟨BA, rfl, hBA1, hBA2, hf9, hcA⟩ := hp
          rw [← HM.out]
          have HF9 : Hid (Fr [] w8 w9) := Lib.hid (hg1.trans hf9)
          have HCA := Lib.hid hcA
          have hbaw : w8.heap.size ≤ BA := Nat.le_trans hg1.size hBA1
          refine hK1.out _ _ HF9.out ?_
          clear hK1 K1 hG hg1 hf9 hcA hBA1
          refine wpAnyM_all (rs := [3]) (by kernel_rfl) (by simp) (fun v1 hG => ?_)
          have hg1 : Fr [] w8 v1 := HF9.out.trans hG
          have HG1 := Lib.hid hG
          refine allM.head rfl rfl (fun K1 hK1 => ?_) allM.nil
          go_simp
          refine (keys_any (HBW.out.fr_nil hg1) hbl).mono ?_
          intro e w10 hp
          obtain ⟨BB, rfl, hBB1, hBB2, hf10, hcB⟩ := hp
          rw [HLB.out, ← HM.out]
          have HF10 : Hid (Fr [] w8 w10) := Lib.hid (hg1.trans hf10)
          have HCB := Lib.hid hcB
          have HF910 : Hid (Fr [] w9 w10) := Lib.hid (HG1.out.trans hf10)
          refine hK1.out _ _ HF10.out ?_
          clear hK1 K1 hG hg1 hf10 hcB hBB1
          refine wpAnyM_all (rs := [4]) (by kernel_rfl) (by simp) (fun v1 hG => ?_)
          have HG2 := Lib.hid hG
          refine allM.head rfl rfl (fun K1 hK1 => ?_) allM.nil
          go_simp
          refine hK1.out _ _ (HF10.out.trans hG) ?_
          clear hK1 K1 hG
          refine wpAnyM_all (rs := [5]) (by kernel_rfl) (by simp) (fun v2 hG => ?_)
          have HG3 := Lib.hid hG
          refine allM.head rfl rfl (fun K1 hK1 => ?_) allM.nil
          go_simp
          refine hK1.out _ _ ((HF10.out.trans HG2.out).trans hG) ?_
          clear hK1 K1 hG
          refine wpAnyM_done (by kernel_rfl) (fun w11 hG => ?_)
          have HF1011 : Hid (Fr [] w10 w11) := Lib.hid ((HG2.out.trans HG3.out).trans hG)
          have HF11 : Hid (Fr [] w8 w11) := Lib.hid (HF10.out.trans HF1011.out)
          clear SU HS hG HG1 HG2 HG3
          go_upto_region 18 with fail
          obtain ⟨WA, hWA⟩ : ∃ WA, WA = IntKind.i64.wrap (wt es : Int) := ⟨_, rfl⟩
          have HWA := Lib.hid hWA; clear hWA
          refine wp_region_M_ (G := fun a b => Fr [] a b) (S := fun V => Fr [] w11 V) ⟨fun _ => Fr.refl _ _, fun a b c h k => h.trans k, fun a b h k => h.trans k, by kernel_rfl, fun _ _ d _ _ h => by cases d <;> exact h⟩ (by kernel_rfl) fun su => ?_
          have SU := Lib.hid su
          have HS : Hid (Fr [] w11 (World.drew w11)) := Lib.hid ((Fr.refl [] w11).drew)
          clear su
          refine M_move (i := 0) _ SU.out rfl rfl (by kernel_rfl) HS.out rfl ?_
          simp only [Act.put, Act.eval, Array.getD_eq_getD_getElem?, List.setIfInBounds_toArray, List.set_cons_zero, List.set_cons_succ, List.getElem?_toArray, List.getElem?_cons_zero, List.getElem?_cons_succ, Option.getD_some]
          refine M_val (i := 1) (v := .int .i64 (m : Int)) SU.out rfl (by kernel_rfl) HS.out rfl (fun W hS => ?_) ?_
          · have c4 := (H4W.out.fr (HF11.out.trans hS) (by simp)).cell_ (i := 0) rfl
            go_simp
            first | done | rfl | omega | (simp; done) | (simp; omega)
          simp only [Act.put, List.setIfInBounds_toArray, List.set_cons_zero, List.set_cons_succ]
          refine M_move (i := 2) _ SU.out rfl rfl (by kernel_rfl) HS.out rfl ?_
          simp only [Act.put, Act.eval, Array.getD_eq_getD_getElem?, List.setIfInBounds_toArray, List.set_cons_zero, List.set_cons_succ, List.getElem?_toArray, List.getElem?_cons_zero, List.getElem?_cons_succ, Option.getD_some]
          refine M_val (i := 3) (v := .int .i64 (m : Int)) SU.out rfl (by kernel_rfl) HS.out rfl (fun W hS => ?_) ?_
          · have c4 := (H4W.out.fr (HF11.out.trans hS) (by simp)).cell_ (i := 0) rfl
            go_simp
            first | done | rfl | omega | (simp; done) | (simp; omega)
          simp only [Act.put, List.setIfInBounds_toArray, List.set_cons_zero, List.set_cons_succ]
          refine M_val (i := 4) (v := .bool false) SU.out rfl (by kernel_rfl) HS.out rfl (fun W hS => ?_) ?_
          · have c4 := (H4W.out.fr (HF11.out.trans hS) (by simp)).cell_ (i := 0) rfl
            go_simp
            first | done | rfl | omega | (simp; done) | (simp; omega)
          simp only [Act.put, List.setIfInBounds_toArray, List.set_cons_zero, List.set_cons_succ]
          refine M_move (i := 5) _ SU.out rfl rfl (by kernel_rfl) HS.out rfl ?_
          simp only [Act.put, Act.eval, Array.getD_eq_getD_getElem?, List.setIfInBounds_toArray, List.set_cons_zero, List.set_cons_succ, List.getElem?_toArray, List.getElem?_cons_zero, List.getElem?_cons_succ, Option.getD_some]
          refine M_move (i := 6) _ SU.out rfl rfl (by kernel_rfl) HS.out rfl ?_
          simp only [Act.put, Act.eval, Array.getD_eq_getD_getElem?, List.setIfInBounds_toArray, List.set_cons_zero, List.set_cons_succ, List.getElem?_toArray, List.getElem?_cons_zero, List.getElem?_cons_succ, Option.getD_some]
          refine M_call (i := 7) (v := .int .i64 WA) SU.out rfl (by kernel_rfl) HS.out rfl (fun V hS => (weight_any (HAW.out.fr_nil (HF11.out.trans hS))).mono fun e w' h => by
            obtain ⟨⟨W0, rfl, h2⟩, rfl⟩ := h
            exact ⟨by rw [h2, HWA.out], Fr.refl _ _⟩) (fun V => ?_) ?_
          · go_simp
            first | done | rfl
          simp only [Act.put, List.setIfInBounds_toArray, List.set_cons_zero, List.set_cons_succ]
          refine M_val (i := 8) (v := .pointer (some ⟨gb, 0, none⟩)) SU.out rfl (by kernel_rfl) HS.out rfl (fun W hS => ?_) ?_
          · have c4 := (H4W.out.fr (HF11.out.trans hS) (by simp)).cell_ (i := 0) rfl
            go_simp
            first | done | rfl | omega | (simp; done) | (simp; omega)
          simp only [Act.put, List.setIfInBounds_toArray, List.set_cons_zero, List.set_cons_succ]
          refine M_call (i := 9) (v := .int .i64 WA) SU.out rfl (by kernel_rfl) HS.out rfl (fun V hS => (weight_any (HBW.out.fr_nil (HF11.out.trans hS))).mono fun e w' h => by
            obtain ⟨⟨W0, rfl, h2⟩, rfl⟩ := h
            exact ⟨by rw [h2, HWA.out, HWB.out], Fr.refl _ _⟩) (fun V => ?_) ?_
          · go_simp
            first | done | rfl
          simp only [Act.put, List.setIfInBounds_toArray, List.set_cons_zero, List.set_cons_succ]
          refine M_val (i := 10) (v := .bool false) SU.out rfl (by kernel_rfl) HS.out rfl (fun W hS => ?_) ?_
          · have c4 := (H4W.out.fr (HF11.out.trans hS) (by simp)).cell_ (i := 0) rfl
            go_simp
            first | done | rfl | omega | (simp; done) | (simp; omega)
          simp only [Act.put, List.setIfInBounds_toArray, List.set_cons_zero, List.set_cons_succ]
          refine M_val (i := 11) (v := .bool false) SU.out rfl (by kernel_rfl) HS.out rfl (fun W hS => ?_) ?_
          · have c4 := (H4W.out.fr (HF11.out.trans hS) (by simp)).cell_ (i := 0) rfl
            go_simp
            first | done | rfl | omega | (simp; done) | (simp; omega)
          simp only [Act.put, List.setIfInBounds_toArray, List.set_cons_zero, List.set_cons_succ]
          refine M_move (i := 12) _ SU.out rfl rfl (by kernel_rfl) HS.out rfl ?_
          simp only [Act.put, Act.eval, Array.getD_eq_getD_getElem?, List.setIfInBounds_toArray, List.set_cons_zero, List.set_cons_succ, List.getElem?_toArray, List.getElem?_cons_zero, List.getElem?_cons_succ, Option.getD_some]
          refine M_move (i := 13) _ SU.out rfl rfl (by kernel_rfl) HS.out rfl ?_
          simp only [Act.put, Act.eval, Array.getD_eq_getD_getElem?, List.setIfInBounds_toArray, List.set_cons_zero, List.set_cons_succ, List.getElem?_toArray, List.getElem?_cons_zero, List.getElem?_cons_succ, Option.getD_some]
          refine M_call (i := 14) (v := .int .i64 (m : Int)) SU.out rfl (by kernel_rfl) HS.out rfl (fun V hS => (len_any (HAW.out.fr_nil (HF11.out.trans hS))).mono fun e w' h => by
            obtain ⟨rfl, rfl⟩ := h
            exact ⟨by rw [HM.out], Fr.refl _ _⟩) (fun V => ?_) ?_
          · go_simp
            first | done | rfl
          simp only [Act.put, List.setIfInBounds_toArray, List.set_cons_zero, List.set_cons_succ]
          refine M_val (i := 15) (v := .pointer (some ⟨gb, 0, none⟩)) SU.out rfl (by kernel_rfl) HS.out rfl (fun W hS => ?_) ?_
          · have c4 := (H4W.out.fr (HF11.out.trans hS) (by simp)).cell_ (i := 0) rfl
            go_simp
            first | done | rfl | omega | (simp; done) | (simp; omega)
          simp only [Act.put, List.setIfInBounds_toArray, List.set_cons_zero, List.set_cons_succ]
          refine M_call (i := 16) (v := .int .i64 (m : Int)) SU.out rfl (by kernel_rfl) HS.out rfl (fun V hS => (len_any (HBW.out.fr_nil (HF11.out.trans hS))).mono fun e w' h => by
            obtain ⟨rfl, rfl⟩ := h
            exact ⟨by rw [HLB.out, HM.out], Fr.refl _ _⟩) (fun V => ?_) ?_
          · go_simp
            first | done | rfl
          simp only [Act.put, List.setIfInBounds_toArray, List.set_cons_zero, List.set_cons_succ]
          refine M_val (i := 17) (v := .bool false) SU.out rfl (by kernel_rfl) HS.out rfl (fun W hS => ?_) ?_
          · have c4 := (H4W.out.fr (HF11.out.trans hS) (by simp)).cell_ (i := 0) rfl
            go_simp
            first | done | rfl | omega | (simp; done) | (simp; omega)
          simp only [Act.put, List.setIfInBounds_toArray, List.set_cons_zero, List.set_cons_succ]
          refine M_val (i := 18) (v := .bool false) SU.out rfl (by kernel_rfl) HS.out rfl (fun W hS => ?_) ?_
          · have c4 := (H4W.out.fr (HF11.out.trans hS) (by simp)).cell_ (i := 0) rfl
            go_simp
            first | done | rfl | omega | (simp; done) | (simp; omega)
          simp only [Act.put, List.setIfInBounds_toArray, List.set_cons_zero, List.set_cons_succ]
          refine wpAnyM_done (by kernel_rfl) (fun w12 hG => ?_)
          have HF12 : Hid (Fr [] w11 w12) := Lib.hid (((Fr.refl [] w11).drew).trans hG)
          clear SU HS hG
          have HF812 : Hid (Fr [] w8 w12) := Lib.hid (HF11.out.trans HF12.out)
          have hAk : ∀ V, Fr [] w12 V → ∀ j (p : List UInt8 × CV), (live es)[j]? = some p → V.cell? ⟨BA, j, none⟩ = some (.string ⟨p.1.toArray⟩) := fun V hV j p hp =>
            ((((HF910.out.trans HF1011.out).trans HF12.out).trans hV).cell (p := ⟨BA, j, none⟩) hBA2 (by simp)).trans (HCA.out j p hp)
          have hBk : ∀ V, Fr [] w12 V → ∀ j (p : List UInt8 × CV), (live es)[j]? = some p → V.cell? ⟨BB, j, none⟩ = some (.string ⟨p.1.toArray⟩) := fun V hV j p hp =>
            (((HF1011.out.trans HF12.out).trans hV).cell (p := ⟨BB, j, none⟩) hBB2 (by simp)).trans (HCB.out j p (by rw [HLB.out]; exact hp))
          have HAK := Lib.hid hAk; have HBK := Lib.hid hBk
          clear hAk hBk
          go_wp2_with fail
          go_loopw [10] (fun v wr => ∃ j : Nat, v = .int .i64 (j : Int) ∧ j ≤ m ∧ Fr [] w12 wr) (fun v _ => m - (intOf v).toNat)
          case atStart => exact ⟨0, rfl, by omega, Fr.refl _ _⟩
          case round =>
            obtain ⟨j, rfl, hj, hfr⟩ := hrel
            have HFR12 := Lib.hid hfr; clear hfr
            by_cases hlt : j < m
            · obtain ⟨p, hp⟩ : ∃ p, (live es)[j]? = some p := ⟨_, List.getElem?_eq_getElem (by rw [← HM.out]; exact hlt)⟩
              have cA := HAK.out wr HFR12.out j p hp
              have hkl : p.1.length ≤ maxLen := HKS.out _ (List.mem_of_getElem? hp)
              obtain ⟨key, v⟩ := p
              dsimp only at cA hkl
              have hsome : (idxOf eb key).isSome = true := by
                cases hq : idxOf eb key with
                | some q => rfl
                | none =>
                  have h1 := idxOf_none.1 hq (some (key, v)) (by rw [HEB.out]; exact List.mem_map.2 ⟨_, List.mem_of_getElem? hp, rfl⟩)
                  simp [keyIs] at h1
              have hval : valC eb key = valC es key := by rw [(getE_is eb key).2, (getE_is es key).2, HGB.out]
              obtain ⟨u, hu⟩ : ∃ u, u = valC es key := ⟨_, rfl⟩
              have HP := Lib.hid hp; have HKL := Lib.hid hkl; have HSO := Lib.hid hsome; have HVA := Lib.hid hval; have HU := Lib.hid hu
              clear hp hkl hsome hval hu
              go_wp2_with fail
              go_at_call 17
              refine (get_any (HAW.out.fr_nil (HF812.out.trans HFR12.out)) key HKL.out).mono ?_
              rintro e w13 ⟨rfl, hf13⟩
              rw [← HU.out]
              have HF13 := Lib.hid (HFR12.out.trans hf13)
              clear hf13 cA
              unfold CV.val
              go_upto_region 24 with fail
              obtain ⟨b11, hb11⟩ : ∃ b11, b11 = w13.heap.size := ⟨_, rfl⟩
              obtain ⟨w14, hw14⟩ : ∃ w14, w14 = w13.alloc (.cells #[.int .i64 u.k, .string ⟨u.s.toArray⟩, .bool u.n, .int .u64 u.h, .int .u64 u.l] 41) := ⟨_, rfl⟩
              have hx11 : Bk w14 b11 41 #[.int .i64 u.k, .string ⟨u.s.toArray⟩, .bool u.n, .int .u64 u.h, .int .u64 u.l] := by rw [hw14, hb11]; exact Bk.new w13 _ _
              have hf14 : Fr [] w12 w14 := by rw [hw14]; exact HF13.out.alloc _
              rw [← hw14, ← hb11]
              have HX11 := Lib.hid hx11; have HF14 := Lib.hid hf14
              clear hb11 hw14 hx11 hf14
              refine wp_region_M_ (G := fun a b => Fr [] a b) (S := fun V => Fr [] w14 V) ⟨fun _ => Fr.refl _ _, fun a b c h k => h.trans k, fun a b h k => h.trans k, by kernel_rfl, fun _ _ d _ _ h => by cases d <;> exact h⟩ (by kernel_rfl) fun su => ?_
              have SU := Lib.hid su
              have HS : Hid (Fr [] w14 (World.drew w14)) := Lib.hid ((Fr.refl [] w14).drew)
              clear su
              refine M_val (i := 0) (v := .pointer (some ⟨gb, 0, none⟩)) SU.out rfl (by kernel_rfl) HS.out rfl (fun W hS => ?_) ?_
              · have c4 := (H4W.out.fr ((HF812.out.trans HF14.out).trans hS) (by simp)).cell_ (i := 0) rfl; have cK := HAK.out _ (HF14.out.trans hS) j (key, v) HP.out; dsimp only at cK
                go_simp
                first | done | rfl | omega | (simp; done) | (simp; omega)
              simp only [Act.put, List.setIfInBounds_toArray, List.set_cons_zero, List.set_cons_succ]
              refine M_move (i := 1) _ SU.out rfl rfl (by kernel_rfl) HS.out rfl ?_
              simp only [Act.put, Act.eval, Array.getD_eq_getD_getElem?, List.setIfInBounds_toArray, List.set_cons_zero, List.set_cons_succ, List.getElem?_toArray, List.getElem?_cons_zero, List.getElem?_cons_succ, Option.getD_some]
              refine M_move (i := 2) _ SU.out rfl rfl (by kernel_rfl) HS.out rfl ?_
              simp only [Act.put, Act.eval, Array.getD_eq_getD_getElem?, List.setIfInBounds_toArray, List.set_cons_zero, List.set_cons_succ, List.getElem?_toArray, List.getElem?_cons_zero, List.getElem?_cons_succ, Option.getD_some]
              refine M_val (i := 3) (v := .pointer (some ⟨BA, j, none⟩)) SU.out rfl (by kernel_rfl) HS.out rfl (fun W hS => ?_) ?_
              · have c4 := (H4W.out.fr ((HF812.out.trans HF14.out).trans hS) (by simp)).cell_ (i := 0) rfl; have cK := HAK.out _ (HF14.out.trans hS) j (key, v) HP.out; dsimp only at cK
                go_simp
                first | done | rfl | omega | (simp; done) | (simp; omega)
              simp only [Act.put, List.setIfInBounds_toArray, List.set_cons_zero, List.set_cons_succ]
              refine M_val (i := 4) (v := .string ⟨key.toArray⟩) SU.out rfl (by kernel_rfl) HS.out rfl (fun W hS => ?_) ?_
              · have c4 := (H4W.out.fr ((HF812.out.trans HF14.out).trans hS) (by simp)).cell_ (i := 0) rfl; have cK := HAK.out _ (HF14.out.trans hS) j (key, v) HP.out; dsimp only at cK
                go_simp
                first | done | rfl | omega | (simp; done) | (simp; omega)
              simp only [Act.put, List.setIfInBounds_toArray, List.set_cons_zero, List.set_cons_succ]
              refine M_call (i := 5) (v := .tuple #[.agg #[.int .i64 u.k, .string ⟨u.s.toArray⟩, .bool u.n, .int .u64 u.h, .int .u64 u.l], .bool true]) SU.out rfl (by kernel_rfl) HS.out rfl (fun V hS => (get_any (HBW.out.fr_nil ((HF812.out.trans HF14.out).trans hS)) key HKL.out).mono fun e w' h => by
                obtain ⟨rfl, h2⟩ := h
                exact ⟨by rw [HSO.out, HVA.out, ← HU.out]; rfl, h2⟩) (fun V => ?_) ?_
              · go_simp
                first | done | rfl
              simp only [Act.put, List.setIfInBounds_toArray, List.set_cons_zero, List.set_cons_succ]
              refine M_move (i := 6) _ SU.out rfl rfl (by kernel_rfl) HS.out rfl ?_
              simp only [Act.put, Act.eval, Array.getD_eq_getD_getElem?, List.setIfInBounds_toArray, List.set_cons_zero, List.set_cons_succ, List.getElem?_toArray, List.getElem?_cons_zero, List.getElem?_cons_succ, Option.getD_some]
              refine M_val (i := 7) (v := .agg #[.int .i64 u.k, .string ⟨u.s.toArray⟩, .bool u.n, .int .u64 u.h, .int .u64 u.l]) SU.out rfl (by kernel_rfl) HS.out rfl (fun W hS => ?_) ?_
              · have c4 := (H4W.out.fr ((HF812.out.trans HF14.out).trans hS) (by simp)).cell_ (i := 0) rfl; have cK := HAK.out _ (HF14.out.trans hS) j (key, v) HP.out; dsimp only at cK
                go_simp
                first | done | rfl | omega | (simp; done) | (simp; omega)
              simp only [Act.put, List.setIfInBounds_toArray, List.set_cons_zero, List.set_cons_succ]
              refine M_val (i := 8) (v := .bool true) SU.out rfl (by kernel_rfl) HS.out rfl (fun W hS => ?_) ?_
              · have c4 := (H4W.out.fr ((HF812.out.trans HF14.out).trans hS) (by simp)).cell_ (i := 0) rfl; have cK := HAK.out _ (HF14.out.trans hS) j (key, v) HP.out; dsimp only at cK
                go_simp
                first | done | rfl | omega | (simp; done) | (simp; omega)
              simp only [Act.put, List.setIfInBounds_toArray, List.set_cons_zero, List.set_cons_succ]
              refine wpAnyM_all (rs := [9]) (by kernel_rfl) (by simp) (fun v1 hG => ?_)
              have hg1 : Fr [] w14 v1 := ((Fr.refl [] w14).drew).trans hG
              have HG1 := Lib.hid hg1
              refine allM.head rfl rfl (fun K1 hK1 => ?_) allM.nil
              go_simp
              obtain ⟨b13, hb13⟩ : ∃ b13, b13 = v1.heap.size := ⟨_, rfl⟩
              obtain ⟨v2, hv2⟩ : ∃ v2, v2 = v1.alloc (.cells #[.int .i64 0, .string ⟨#[]⟩, .bool false, .int .u64 0, .int .u64 0] 41) := ⟨_, rfl⟩
              have hx13 : Bk v2 b13 41 #[.int .i64 0, .string ⟨#[]⟩, .bool false, .int .u64 0, .int .u64 0] := by rw [hv2, hb13]; exact Bk.new v1 _ _
              have hg2 : Fr [] w14 v2 := by rw [hv2]; exact HG1.out.alloc _
              have hb13w : w14.heap.size ≤ b13 := by rw [hb13]; exact HG1.out.size
              rw [← hv2, ← hb13]
              have HX13 := Lib.hid hx13; have HG2 := Lib.hid hg2
              refine hK1.out _ _ hg2 ?_
              clear hK1 K1 hG hg1 hb13 hv2 hx13 hg2
              refine wpAnyM_all (rs := [10]) (by kernel_rfl) (by simp) (fun v3 hG => ?_)
              have hx3 := HX13.out.fr hG (by simp)
              have hg3 := HG2.out.trans hG
              have e0 := hx3.cell_ (i := 0) rfl; have e1 := hx3.cell_ (i := 1) rfl; have e2 := hx3.cell_ (i := 2) rfl; have e3 := hx3.cell_ (i := 3) rfl; have e4 := hx3.cell_ (i := 4) rfl
              have f0 := hx3.frozen 0; have f1 := hx3.frozen 1; have f2 := hx3.frozen 2; have f3 := hx3.frozen 3; have f4 := hx3.frozen 4
              have HX3 := Lib.hid hx3; have HG3 := Lib.hid hg3
              refine allM.head rfl rfl (fun K1 hK1 => ?_) allM.nil
              clear hG hx3 hg3
              go_simp
              have hputs : Fr [] w14 (putC v3 b13 0 u) := putC_fr HG3.out (.inr hb13w) 0 u
              have hx4 : Bk (putC v3 b13 0 u) b13 41 #[.int .i64 u.k, .string ⟨u.s.toArray⟩, .bool u.n, .int .u64 u.h, .int .u64 u.l] := ((((HX3.out.put 0 _).put 1 _).put 2 _).put 3 _).put 4 _
              unfold putC at hputs hx4
              simp only [Nat.zero_add] at hputs hx4
              have HPU := Lib.hid hputs; have HX4 := Lib.hid hx4
              refine hK1.out _ _ hputs ?_
              clear hK1 K1 hputs hx4 e0 e1 e2 e3 e4 f0 f1 f2 f3 f4
              refine wpAnyM_all (rs := [11]) (by kernel_rfl) (by simp) (fun v5 hG => ?_)
              have HG5 := Lib.hid (HPU.out.trans hG); have HX5 := Lib.hid (HX4.out.fr hG (by simp))
              refine allM.head rfl rfl (fun K1 hK1 => ?_) allM.nil
              go_simp
              refine hK1.out _ _ HG5.out ?_
              clear hK1 K1 hG
              refine wpAnyM_done (by kernel_rfl) (fun w15 hG => ?_)
              have hf15 : Fr [] w12 w15 := (HF14.out.trans HG5.out).trans hG
              have hx15 := HX5.out.fr hG (by simp)
              have hx11 := HX11.out.fr (HG5.out.trans hG) (by simp)
              have HF15 := Lib.hid hf15
              have cA := HAK.out w15 hf15 j (key, v) HP.out
              have cB := HBK.out w15 hf15 j (key, v) HP.out
              dsimp only at cA cB
              have e0 := hx15.cell_ (i := 0) rfl; have e1 := hx15.cell_ (i := 1) rfl; have e2 := hx15.cell_ (i := 2) rfl; have e3 := hx15.cell_ (i := 3) rfl; have e4 := hx15.cell_ (i := 4) rfl
              have d0 := hx11.cell_ (i := 0) rfl; have d1 := hx11.cell_ (i := 1) rfl; have d2 := hx11.cell_ (i := 2) rfl; have d3 := hx11.cell_ (i := 3) rfl; have d4 := hx11.cell_ (i := 4) rfl
              clear hG hf15 hx15 hx11 SU HS HG1 HG2 HG3 HX13 HX3 HX4 HPU
              go_upto_region 25 with fail
              refine wp_region_M_ (G := fun a b => a = b) (S := fun W => W = w15.drew) ⟨fun _ => rfl, fun a b c h k => h.trans k, fun a b h k => k ▸ h, by kernel_rfl, fun _ _ d _ _ h => by cases d <;> exact h⟩ (by kernel_rfl) fun su => ?_
              have SU := Lib.hid su
              have HS : Hid (w15.drew = w15.drew) := Lib.hid rfl
              clear su
              refine M_move (i := 0) _ SU.out rfl rfl (by kernel_rfl) HS.out rfl ?_
              simp only [Act.put, Act.eval, Array.getD_eq_getD_getElem?, List.setIfInBounds_toArray, List.set_cons_zero, List.set_cons_succ, List.getElem?_toArray, List.getElem?_cons_zero, List.getElem?_cons_succ, Option.getD_some]
              refine M_move (i := 1) _ SU.out rfl rfl (by kernel_rfl) HS.out rfl ?_
              simp only [Act.put, Act.eval, Array.getD_eq_getD_getElem?, List.setIfInBounds_toArray, List.set_cons_zero, List.set_cons_succ, List.getElem?_toArray, List.getElem?_cons_zero, List.getElem?_cons_succ, Option.getD_some]
              refine M_val (i := 2) (v := .pointer (some ⟨BA, j, none⟩)) SU.out rfl (by kernel_rfl) HS.out rfl (fun W hS => ?_) ?_
              · obtain rfl := hS
                go_simp
                first | done | rfl | omega | (simp; done) | (simp; omega)
              simp only [Act.put, List.setIfInBounds_toArray, List.set_cons_zero, List.set_cons_succ]
              refine M_val (i := 3) (v := .string ⟨key.toArray⟩) SU.out rfl (by kernel_rfl) HS.out rfl (fun W hS => ?_) ?_
              · obtain rfl := hS
                go_simp
                first | done | rfl | omega | (simp; done) | (simp; omega)
              simp only [Act.put, List.setIfInBounds_toArray, List.set_cons_zero, List.set_cons_succ]
              refine M_move (i := 4) _ SU.out rfl rfl (by kernel_rfl) HS.out rfl ?_
              simp only [Act.put, Act.eval, Array.getD_eq_getD_getElem?, List.setIfInBounds_toArray, List.set_cons_zero, List.set_cons_succ, List.getElem?_toArray, List.getElem?_cons_zero, List.getElem?_cons_succ, Option.getD_some]
              refine M_move (i := 5) _ SU.out rfl rfl (by kernel_rfl) HS.out rfl ?_
              simp only [Act.put, Act.eval, Array.getD_eq_getD_getElem?, List.setIfInBounds_toArray, List.set_cons_zero, List.set_cons_succ, List.getElem?_toArray, List.getElem?_cons_zero, List.getElem?_cons_succ, Option.getD_some]
              refine M_val (i := 6) (v := .pointer (some ⟨BB, j, none⟩)) SU.out rfl (by kernel_rfl) HS.out rfl (fun W hS => ?_) ?_
              · obtain rfl := hS
                go_simp
                first | done | rfl | omega | (simp; done) | (simp; omega)
              simp only [Act.put, List.setIfInBounds_toArray, List.set_cons_zero, List.set_cons_succ]
              refine M_val (i := 7) (v := .string ⟨key.toArray⟩) SU.out rfl (by kernel_rfl) HS.out rfl (fun W hS => ?_) ?_
              · obtain rfl := hS
                go_simp
                first | done | rfl | omega | (simp; done) | (simp; omega)
              simp only [Act.put, List.setIfInBounds_toArray, List.set_cons_zero, List.set_cons_succ]
              refine M_val (i := 8) (v := .bool false) SU.out rfl (by kernel_rfl) HS.out rfl (fun W hS => ?_) ?_
              · obtain rfl := hS
                go_simp
                first | done | rfl | omega | (simp; done) | (simp; omega)
              simp only [Act.put, List.setIfInBounds_toArray, List.set_cons_zero, List.set_cons_succ]
              refine M_move (i := 9) _ SU.out rfl rfl (by kernel_rfl) HS.out rfl ?_
              simp only [Act.put, Act.eval, Array.getD_eq_getD_getElem?, List.setIfInBounds_toArray, List.set_cons_zero, List.set_cons_succ, List.getElem?_toArray, List.getElem?_cons_zero, List.getElem?_cons_succ, Option.getD_some]
              refine M_val (i := 10) (v := .agg #[.int .i64 u.k, .string ⟨u.s.toArray⟩, .bool u.n, .int .u64 u.h, .int .u64 u.l]) SU.out rfl (by kernel_rfl) HS.out rfl (fun W hS => ?_) ?_
              · obtain rfl := hS
                go_simp
                first | done | rfl | omega | (simp; done) | (simp; omega)
              simp only [Act.put, List.setIfInBounds_toArray, List.set_cons_zero, List.set_cons_succ]
              refine M_val (i := 11) (v := .agg #[.int .i64 u.k, .string ⟨u.s.toArray⟩, .bool u.n, .int .u64 u.h, .int .u64 u.l]) SU.out rfl (by kernel_rfl) HS.out rfl (fun W hS => ?_) ?_
              · obtain rfl := hS
                go_simp
                first | done | rfl | omega | (simp; done) | (simp; omega)
              simp only [Act.put, List.setIfInBounds_toArray, List.set_cons_zero, List.set_cons_succ]
              refine M_val (i := 12) (v := .bool false) SU.out rfl (by kernel_rfl) HS.out rfl (fun W hS => ?_) ?_
              · obtain rfl := hS
                go_simp
                first | done | rfl | omega | (simp; done) | (simp; omega)
              simp only [Act.put, List.setIfInBounds_toArray, List.set_cons_zero, List.set_cons_succ]
              refine M_val (i := 13) (v := .bool false) SU.out rfl (by kernel_rfl) HS.out rfl (fun W hS => ?_) ?_
              · obtain rfl := hS
                go_simp
                first | done | rfl | omega | (simp; done) | (simp; omega)
              simp only [Act.put, List.setIfInBounds_toArray, List.set_cons_zero, List.set_cons_succ]
              refine M_move (i := 14) _ SU.out rfl rfl (by kernel_rfl) HS.out rfl ?_
              simp only [Act.put, Act.eval, Array.getD_eq_getD_getElem?, List.setIfInBounds_toArray, List.set_cons_zero, List.set_cons_succ, List.getElem?_toArray, List.getElem?_cons_zero, List.getElem?_cons_succ, Option.getD_some]
              refine M_move (i := 15) _ SU.out rfl rfl (by kernel_rfl) HS.out rfl ?_
              simp only [Act.put, Act.eval, Array.getD_eq_getD_getElem?, List.setIfInBounds_toArray, List.set_cons_zero, List.set_cons_succ, List.getElem?_toArray, List.getElem?_cons_zero, List.getElem?_cons_succ, Option.getD_some]
              refine M_val (i := 16) (v := .bool false) SU.out rfl (by kernel_rfl) HS.out rfl (fun W hS => ?_) ?_
              · obtain rfl := hS
                go_simp
                first | done | rfl | omega | (simp; done) | (simp; omega)
              simp only [Act.put, List.setIfInBounds_toArray, List.set_cons_zero, List.set_cons_succ]
              refine M_val (i := 17) (v := .bool false) SU.out rfl (by kernel_rfl) HS.out rfl (fun W hS => ?_) ?_
              · obtain rfl := hS
                go_simp
                first | done | rfl | omega | (simp; done) | (simp; omega)
              simp only [Act.put, List.setIfInBounds_toArray, List.set_cons_zero, List.set_cons_succ]
              refine wpAnyM_done (by kernel_rfl) (fun w' hG => ?_)
              obtain rfl := hG
              clear cA cB e0 e1 e2 e3 e4 d0 d1 d2 d3 d4
              go_wp2_with fail
              go_roundw
              case rel => exact ⟨j + 1, by go_num, by omega, HF15.out.drew⟩
              case measure => first | (simp [intOf]; done) | (simp [intOf]; omega)
            · obtain rfl : j = m := by omega
              have h4r := H4W.out.fr (HF812.out.trans HFR12.out) (by simp)
              have x0 := h4r.cell_ (i := 0) rfl
              have H4R := Lib.hid h4r
              clear h4r
              go_wp2_with fail
              go_at_call 16
              refine (clear_any (HBW.out.fr_nil (HF812.out.trans HFR12.out))).mono ?_
              rintro e w16 ⟨rfl, lb', hb16, hf16, hl16⟩
              have ha16 := (HAW.out.fr_nil (HF812.out.trans HFR12.out)).fr hf16 (fun b hb => HLAD.out b hb)
              have h416 := H4R.out.fr hf16 HB4L.out
              have hbr16 := (HBRW.out.fr (HF812.out.trans HFR12.out) (by simp)).fr hf16 HBRL.out
              have hd12 : wr.heap[D]? = some (.deferred (some [])) := ((HF812.out.trans HFR12.out).block D (Array.getElem?_eq_some_iff.1 HDD.out).1 (by simp)).trans HDD.out
              have hd16 : w16.heap[D]? = some (.deferred (some [])) := (hf16.block D (Array.getElem?_eq_some_iff.1 hd12).1 (fun hm => HDL.out D hm rfl)).trans hd12
              have hfw16 : Fr [] w w16 := (HFW.out.trans (HF812.out.trans HFR12.out)).trans' hf16 (fun b hb => .inr (HLBW.out b hb))
              have x0 := h416.cell_ (i := 0) rfl
              have HB16 := Lib.hid hb16; have HA16 := Lib.hid ha16; have HBR16 := Lib.hid hbr16; have HD16 := Lib.hid hd16; have HFW16 := Lib.hid hfw16
              clear hf16 hb16 ha16 h416 hbr16 hd12 hd16 hfw16 hl16
              go_wp2_with fail
              go_at_call 24
              refine (weight_any HB16.out).mono ?_
              rintro e w17 ⟨⟨W0, rfl, hW0⟩, rfl⟩
              have hW00 : W0 = 0 := by rw [hW0]; rfl
              subst hW00
              clear hW0
              go_wp2_with fail
              go_at_call 19
              refine (len_any HB16.out).mono ?_
              rintro e w18 ⟨rfl, rfl⟩
              have hl0 : ((live ([] : List (Ent CV))).length : Int) = 0 := rfl
              rw [hl0]
              clear hl0
              go_wp2_with fail
              go_at_call 18
              refine (keys_any HB16.out (by simp)).mono ?_
              intro e w19 hp
              obtain ⟨BK, rfl, -, -, hf19, -⟩ := hp
              have hl0 : (live ([] : List (Ent CV))).length = 0 := rfl
              rw [hl0]
              have hd19 := (hf19.block D (Array.getElem?_eq_some_iff.1 HD16.out).1 (by simp)).trans HD16.out
              have hbr19 := HBR16.out.fr hf19 (by simp)
              have HA19 := Lib.hid (HA16.out.fr_nil hf19); have HD19 := Lib.hid hd19; have HBR19 := Lib.hid hbr19; have HFW19 := Lib.hid (HFW16.out.trans hf19)
              have y0 := hbr19.cell_ (i := 0) rfl
              have z0 := hbr19.frozen 0
              clear hl0 hf19 hd19 hbr19 x0
              go_wp2_with fail
              go_at_call 19
              refine (len_any HA19.out).mono ?_
              rintro e w20 ⟨rfl, rfl⟩
              rw [← HM.out]
              go_wp2_with fail
              have hDbr : D ≠ br := fun e => by
                have h1 := HD19.out
                have h2 := HBR19.out
                unfold Bk at h2
                rw [e, h2] at h1
                cases h1
              have hb5 := HBR19.out.put 0 (.bool true)
              have hd5 : (w20.setCell ⟨br, 0, none⟩ (.bool true)).heap[D]? = some (.deferred (some [])) := (((Fr.refl [br] w20).setCell (.inl (by simp)) (.bool true)).block D (Array.getElem?_eq_some_iff.1 HD19.out).1 (by simpa using hDbr)).trans HD19.out
              have hb6 := hb5.fr (fr_put (l := D) (.deferred none)) (by simpa using hDbr.symm)
              have r6 := hb6.cell_ (i := 0) rfl
              have hfin : Fr [] w ((w20.setCell ⟨br, 0, none⟩ (.bool true)).putObj D (.deferred none)) := (HFW19.out.setCell (.inr hbrw) _).trans' (fr_put (l := D) _) (by simp; exact hDw)
              refine ⟨by simp, .inl ⟨_, _, rfl, run_takeDeferred hd5, ⟨.bool true, ?_, rfl, hfin.below_nil⟩⟩⟩
              simp [results, Try.results6, go_sem, r6]
end Go.Proofs.Ytfabmbemdaelcaa.C
namespace Go.Proofs.Ytfabmbemdaelcaa
open Go.RowKit Go.ChangeShapes Go.WideShapes Go.ChangeAt Go.Maps Go.Deep
theorem assocAgain_open {H : Type} {enc : TypeId × Value → H} (W : World) (base : Nat) (v0 : Value) (d0 : DataW H) (p0 : List MemPlace)
    (k0 : Value.okWide Try.prog W .any base 36 v0) (h0 : DataW.Trod enc Try.prog W 0 (fun _ => true) true 36 v0 d0 p0) :
    Calls Try.prog 6 #[v0] W fun e W' => e = .returned (.bool true) ∧ Below W.heap.size W W' := by
  obtain ⟨A, n, c, K, S, V, rfl, hn, hact⟩ := C.actc_open k0 h0
  exact C.again_walk hact hn
end Go.Proofs.Ytfabmbemdaelcaa
