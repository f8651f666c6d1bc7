/-
  The walk of AssocLast. No conditions.
-/
import Derived.Test.YtfabmbemdaelcaaAcA
import Derived.StillTailTactics
namespace Go.Proofs.Ytfabmbemdaelcaa.C
open Go.RowKit Go.ChangeShapes Go.WideShapes Go.ChangeAt Go.Maps Go.Deep
set_option linter.unusedVariables false
set_option linter.unusedSimpArgs false

theorem ArrB.put {w0 w w' : World} {g B : Nat} {es : List (Ent CV)} (h : ArrB w0 w g es B) (hf : Fr [B] w w') (hB : w0.heap.size ≤ B) : ArrB w0 w' g es B := by
  obtain ⟨l, h1, h2, h3, h4, h5⟩ := h
  exact ⟨l, h1.fr hf (fun b hb hbB => by simp at hbB; subst hbB; exact h4 hb), h2, h3.trans' hf (fun b hb => by simp at hb; subst hb; exact .inr hB), h4, Nat.lt_of_lt_of_le h5 hf.size⟩
theorem ArrB.frm {w0 w : World} {g B : Nat} {es : List (Ent CV)} (h : ArrB w0 w g es B) : Fr [] w0 w := by obtain ⟨l, h1, h2, h3, h4, h5⟩ := h; exact h3
theorem ArrB.dist {w0 w : World} {g B : Nat} {es : List (Ent CV)} (h : ArrB w0 w g es B) : Dist es := by
  obtain ⟨l, ⟨mv, A, cap, D, W0, -, -, -, M, -, -⟩, -⟩ := h
  exact M.dist
theorem bk_heap {w w' : World} {B : Nat} {t : TypeId} {cs : Array Value} (h : Bk w B t cs) (he : w'.heap[B]? = w.heap[B]?) : Bk w' B t cs := he.trans h
theorem calls_gen {P : Program} {f : FuncId} {args : Array Value} {R : Ending → World → Prop} {w : World} (h : ∀ W, W = w → Calls P f args W R) : Calls P f args w R := h w rfl
/-- Where the loop stands. -/
def LastRel (w0 : World) (g b8 n : Nat) (key : List UInt8) (v9 v10 : Value) (wr : World) : Prop :=
  ∃ (i : Nat) (th : Bool) (es : List (Ent CV)) (x : CV), v10 = .int .i64 (i : Int) ∧ v9 = .bool th ∧ i ≤ n ∧ ArrB w0 wr g es b8 ∧ Bk wr b8 41 #[.int .i64 x.k, .string ⟨x.s.toArray⟩, .bool x.n, .int .u64 x.h, .int .u64 x.l] ∧ (getE es key).isSome = th ∧ (th = true → getE es key = some x) ∧ es.length ≤ i + 1 ∧ KeysOk maxLen es
set_option maxRecDepth 100000 in
set_option maxHeartbeats 16000000 in
theorem last_walk {w : World} {A : Option Addr} {n c : Nat} {K : Nat → Int} {S : Nat → List UInt8} {V : Nat → CV} (h : ActsC w A n K S V) (hn : n ≤ maxLen) {key : List UInt8} (hk : key.length ≤ maxLen) (v : CV) :
    Calls Try.prog 4 #[.slice A n c, .string ⟨key.toArray⟩, v.val] w fun e w' => e = .returned (.bool true) ∧ Below w.heap.size w w' := by
  obtain ⟨bx, hbx⟩ : ∃ bx, bx = w.heap.size := ⟨_, rfl⟩
  obtain ⟨wb, hwb⟩ : ∃ wb, wb = w.alloc (.cells #[.int .i64 v.k, .string ⟨v.s.toArray⟩, .bool v.n, .int .u64 v.h, .int .u64 v.l] 41) := ⟨_, rfl⟩
  have hfw : Fr [] w wb := by rw [hwb]; exact (Fr.refl [] w).alloc _
  have hbk : Bk wb bx 41 #[.int .i64 v.k, .string ⟨v.s.toArray⟩, .bool v.n, .int .u64 v.h, .int .u64 v.l] := by rw [hwb, hbx]; exact Bk.new w _ _
  have HFW := Lib.hid hfw; have HBK := Lib.hid hbk; have HWB := Lib.hid hwb; have HBXE := Lib.hid hbx
  have HACT := Lib.hid h; have HK := Lib.hid hk; have HNN := Lib.hid hn
  clear hfw hbk hwb hbx h hk hn
  unfold CV.val
  go_enter Try.func4, Try.ntmps4
  go_wp2_with fail
  go_at_call 7
  rw [← HWB.out, ← HBXE.out]
  refine (awake_any wb).mono ?_
  rintro e w1 ⟨rfl, hf1⟩
  have HF1 := Lib.hid (HFW.out.trans hf1); have HFB := Lib.hid hf1
  clear hf1
  go_wp2_with fail
  go_at_call 13
  refine (few_any (HACT.out.fr HF1.out) HNN.out).mono ?_
  intro e w2 hp
  obtain ⟨r, rfl, rfl, hr⟩ := hp
  cases r with
  | false =>
    clear hr
    go_wp2_with fail
    go_ret
    exact ⟨rfl, HF1.out.below_nil⟩
  | true =>
    obtain ⟨hn60, hs60⟩ := hr rfl
    have HS60 := Lib.hid hs60
    have hb2 := HBK.out.fr HFB.out (by simp)
    have hbl := hb2.lt
    have HBP : Hid (∀ W, Fr [] w2 W → Bk W bx 41 #[.int .i64 v.k, .string ⟨v.s.toArray⟩, .bool v.n, .int .u64 v.h, .int .u64 v.l]) := Lib.hid (fun W hW => hb2.fr hW (by simp))
    have q0 := hb2.cell_ (i := 0) rfl; have q1 := hb2.cell_ (i := 1) rfl; have q2 := hb2.cell_ (i := 2) rfl; have q3 := hb2.cell_ (i := 3) rfl; have q4 := hb2.cell_ (i := 4) rfl
    have HNEW := Lib.hid (ArrB.new (Fr.refl [] w2) hbl)
    clear hr hs60 hb2
    go_wp2_with fail
    go_at_call 14
    refine (setB HNEW.out key v HK.out (by simp)).mono ?_
    rintro e w3 ⟨rfl, h3, -⟩
    obtain ⟨g, hg⟩ : ∃ g, g = w2.heap.size := ⟨_, rfl⟩
    rw [← hg] at h3 ⊢
    have hb3 := HBP.out w3 h3.frm
    have r0 := hb3.cell_ (i := 0) rfl; have r1 := hb3.cell_ (i := 1) rfl; have r2 := hb3.cell_ (i := 2) rfl; have r3 := hb3.cell_ (i := 3) rfl; have r4 := hb3.cell_ (i := 4) rfl
    have H3 := Lib.hid h3
    have hs3 := h3.frm.size
    clear h3 hb3 q0 q1 q2 q3 q4 hg
    go_wp2_with fail
    clear r0 r1 r2 r3 r4
    obtain ⟨b8, hb8⟩ : ∃ b8, b8 = w3.heap.size := ⟨_, rfl⟩
    have H4 : Hid (ArrB w2 (w3.alloc (.cells #[.int .i64 v.k, .string ⟨v.s.toArray⟩, .bool v.n, .int .u64 v.h, .int .u64 v.l] 41)) g (setE [] key v) b8) := Lib.hid (by rw [hb8]; exact H3.out.other (B' := 0))
    have HK4 : Hid (Bk (w3.alloc (.cells #[.int .i64 v.k, .string ⟨v.s.toArray⟩, .bool v.n, .int .u64 v.h, .int .u64 v.l] 41)) b8 41 #[.int .i64 v.k, .string ⟨v.s.toArray⟩, .bool v.n, .int .u64 v.h, .int .u64 v.l]) := Lib.hid (by rw [hb8]; exact Bk.new w3 _ _)
    have h28 : w2.heap.size ≤ b8 := by rw [hb8]; exact hs3
    rw [← hb8]
    clear hb8
    go_loopw [9, 10] (fun v9 v10 wr => LastRel w2 g b8 n key v9 v10 wr) (fun _ v10 _ => n - (intOf v10).toNat)
    case atStart => exact ⟨0, true, _, v, rfl, rfl, by omega, H4.out, HK4.out, by rw [getE_setE, if_pos rfl]; rfl, fun _ => by rw [getE_setE, if_pos rfl], setE_len _ _ _, KeysOk.set (by intro p hp; cases hp) key v HK.out⟩
    case round =>
      unfold LastRel at hrel
      obtain ⟨i, th, es, x, rfl, rfl, hi, harr, hbx8, hth, hgx, hel, hks⟩ := hrel
      have HARR := Lib.hid harr; have HX8 := Lib.hid hbx8; have HTH := Lib.hid hth; have HGX := Lib.hid hgx; have HKS := Lib.hid hks
      have hfr := harr.frm
      have HFR := Lib.hid hfr
      have hact := HACT.out.fr HF1.out
      clear harr hbx8 hth hgx hks hfr
      by_cases hlt : i < n
      · obtain ⟨b, off, rfl, hba, c0, c1, c2, c3, c4, c5, c6⟩ := hact i hlt
        have hsi := HS60.out i hlt
        obtain ⟨s, hs⟩ : ∃ s, s = S i := ⟨_, rfl⟩
        obtain ⟨y, hy⟩ : ∃ y, y = V i := ⟨_, rfl⟩
        obtain ⟨kd, hkd⟩ : ∃ kd, kd = K i := ⟨_, rfl⟩
        rw [← hs] at c1 hsi
        rw [← hy] at c2 c3 c4 c5 c6
        rw [← hkd] at c0
        have hsl : s.length ≤ maxLen := by unfold maxLen; omega
        have HSL := Lib.hid hsl
        have hcc : ∀ W, Fr [] w2 W → W.cell? ⟨b, off + i * 7, none⟩ = some (.int .i64 kd) ∧ W.cell? ⟨b, off + i * 7 + 1, none⟩ = some (.string ⟨s.toArray⟩) ∧ W.cell? ⟨b, off + i * 7 + 2, none⟩ = some (.int .i64 y.k) ∧ W.cell? ⟨b, off + i * 7 + 3, none⟩ = some (.string ⟨y.s.toArray⟩) ∧ W.cell? ⟨b, off + i * 7 + 4, none⟩ = some (.bool y.n) ∧ W.cell? ⟨b, off + i * 7 + 5, none⟩ = some (.int .u64 y.h) ∧ W.cell? ⟨b, off + i * 7 + 6, none⟩ = some (.int .u64 y.l) := fun W hW => by
          have g := fun x => hW.cell (p := ⟨b, x, none⟩) hba (by simp)
          exact ⟨(g _).trans c0, (g _).trans c1, (g _).trans c2, (g _).trans c3, (g _).trans c4, (g _).trans c5, (g _).trans c6⟩
        have HQQ := Lib.hid hcc
        clear hs hy hkd hact hsl c0 c1 c2 c3 c4 c5 c6 hcc
        obtain ⟨c0, c1, c2, c3, c4, c5, c6⟩ := HQQ.out wr HFR.out
        by_cases h3 : kd = 3
        · subst h3
          go_wp2_with fail
          go_at_call 15
          refine (dropB HARR.out s HSL.out (by omega) HKS.out).mono ?_
          rintro e w5 ⟨rfl, h5, he5⟩
          have HB5 := Lib.hid (bk_heap HX8.out he5)
          have H5 := Lib.hid h5
          have hgd := getE_drop HARR.out.dist s key
          have HGD := Lib.hid hgd
          have hdl := dropC_len es s
          clear c0 c1 c2 c3 c4 c5 c6
          obtain ⟨c0, c1, -⟩ := HQQ.out w5 h5.frm
          clear h5 he5 hgd
          cases th with
          | false =>
            go_wp2_with fail
            go_roundw
            case rel => exact ⟨i + 1, false, _, x, by go_num, rfl, by omega, H5.out, HB5.out, by rw [HGD.out]; by_cases e : key = s; rw [if_pos e]; rfl; rw [if_neg e]; exact HTH.out, by simp, by omega, HKS.out.drop s⟩
            case measure => first | (simp [intOf]; done) | (simp [intOf]; omega)
          | true =>
            by_cases hsk : s = key
            · subst hsk
              go_wp2_with fail
              go_roundw
              case rel => exact ⟨i + 1, false, _, x, by go_num, rfl, by omega, H5.out, HB5.out, by have h := HGD.out; simp at h; rw [h]; rfl, by simp, by omega, HKS.out.drop s⟩
              case measure => first | (simp [intOf]; done) | (simp [intOf]; omega)
            · have hks2 : ¬ key = s := fun e => hsk e.symm
              have hsk3 : (s == key) = false := beq_eq_false_iff_ne.2 hsk
              go_wp2_with fail
              go_roundw
              case rel => exact ⟨i + 1, true, _, x, by go_num, rfl, by omega, H5.out, HB5.out, by rw [HGD.out, if_neg hks2]; exact HTH.out, fun _ => by rw [HGD.out, if_neg hks2]; exact HGX.out (by simp), by omega, HKS.out.drop s⟩
              case measure => first | (simp [intOf]; done) | (simp [intOf]; omega)
        by_cases h4 : kd = 4
        · subst h4
          go_wp2_with fail
          go_at_call 16
          refine (clearB HARR.out).mono ?_
          rintro e w5 ⟨rfl, h5, he5⟩
          have HB5 := Lib.hid (bk_heap HX8.out he5)
          have H5 := Lib.hid h5
          clear h5 he5 c0 c1 c2 c3 c4 c5 c6
          go_wp2_with fail
          go_roundw
          case rel => exact ⟨i + 1, false, [], x, by go_num, rfl, by omega, H5.out, HB5.out, rfl, by simp, by simp, by intro p hp; cases hp⟩
          case measure => first | (simp [intOf]; done) | (simp [intOf]; omega)
        have g3 : (kd == 3) = false := beq_eq_false_iff_ne.2 h3
        have g4 : (kd == 4) = false := beq_eq_false_iff_ne.2 h4
        go_upto_region 12 with fail
        go_still_tail 11, (by kernel_rfl)
        change wpList _ _ _ _ _ wr.drew
        obtain ⟨wq, hwq⟩ : ∃ wq, wq = wr.drew := ⟨_, rfl⟩
        rw [← hwq]
        have HARq : Hid (ArrB w2 wq g es b8) := Lib.hid (by rw [hwq]; exact HARR.out.fr ((Fr.refl [] wr).drew))
        have HX8q : Hid (Bk wq b8 41 #[.int .i64 x.k, .string ⟨x.s.toArray⟩, .bool x.n, .int .u64 x.h, .int .u64 x.l]) := Lib.hid (by rw [hwq]; exact HX8.out.drew)
        clear hwq c0 c1 c2 c3 c4 c5 c6
        go_wp2_with fail
        go_at_call 14
        refine (setB HARq.out s y HSL.out (by omega)).mono ?_
        rintro e w5 ⟨rfl, h5, he5⟩
        have hb5 := bk_heap HX8q.out he5
        have HB5 := Lib.hid hb5
        have H5 := Lib.hid h5
        have HGS := Lib.hid (getE_setE es s y key)
        have hsl2 := setE_len es s y
        obtain ⟨c0, c1, c2, c3, c4, c5, c6⟩ := HQQ.out w5 h5.frm
        have e0 := hb5.cell_ (i := 0) rfl; have e1 := hb5.cell_ (i := 1) rfl; have e2 := hb5.cell_ (i := 2) rfl; have e3 := hb5.cell_ (i := 3) rfl; have e4 := hb5.cell_ (i := 4) rfl
        have f0 := hb5.frozen 0; have f1 := hb5.frozen 1; have f2 := hb5.frozen 2; have f3 := hb5.frozen 3; have f4 := hb5.frozen 4
        clear h5 he5 hb5
        by_cases hsk : s = key
        · subst hsk
          go_wp2_with fail
          go_roundw
          case rel =>
            refine ⟨i + 1, true, setE es s y, y, by go_num, rfl, by omega, ?_, ?_, ?_, ?_, by omega, HKS.out.set s y HSL.out⟩
            · exact H5.out.put ((((((Fr.refl [b8] w5).setCell (.inl (by simp)) _).setCell (.inl (by simp)) _).setCell (.inl (by simp)) _).setCell (.inl (by simp)) _).setCell (.inl (by simp)) _) h28
            · exact ((((HB5.out.put 0 _).put 1 _).put 2 _).put 3 _).put 4 _
            · have h := HGS.out; simp at h; rw [h]; rfl
            · intro _; have h := HGS.out; simp at h; exact h
          case measure => first | (simp [intOf]; done) | (simp [intOf]; omega)
        · have hks2 : ¬ key = s := fun e => hsk e.symm
          have hsk3 : (s == key) = false := beq_eq_false_iff_ne.2 hsk
          go_wp2_with fail
          go_roundw
          case rel => exact ⟨i + 1, th, setE es s y, x, by go_num, rfl, by omega, H5.out, HB5.out, by rw [HGS.out, if_neg hks2]; exact HTH.out, fun ht => by rw [HGS.out, if_neg hks2]; exact HGX.out ht, by omega, HKS.out.set s y HSL.out⟩
          case measure => first | (simp [intOf]; done) | (simp [intOf]; omega)
      · obtain rfl : i = n := by omega
        obtain ⟨l9, a9, -⟩ := id HARR.out
        have HA9 := Lib.hid a9
        obtain ⟨g1, g2⟩ := getE_is es key
        have HG1 := Lib.hid (g1.trans HTH.out); have HG2 := Lib.hid g2
        clear hact a9 g1 g2
        go_wp2_with fail
        go_at_call 17
        refine (get_any HA9.out key HK.out).mono ?_
        rintro e w5 ⟨rfl, hf5⟩
        have hb5 := HX8.out.fr hf5 (by simp)
        have e0 := hb5.cell_ (i := 0) rfl; have e1 := hb5.cell_ (i := 1) rfl; have e2 := hb5.cell_ (i := 2) rfl; have e3 := hb5.cell_ (i := 3) rfl; have e4 := hb5.cell_ (i := 4) rfl
        have H5 := Lib.hid (HARR.out.fr hf5)
        have hb8l := hb5.lt
        have HBL := Lib.hid hb5
        have y0 := fun o => (hb5.alloc o).cell_ (i := 0) rfl; have y1 := fun o => (hb5.alloc o).cell_ (i := 1) rfl; have y2 := fun o => (hb5.alloc o).cell_ (i := 2) rfl; have y3 := fun o => (hb5.alloc o).cell_ (i := 3) rfl; have y4 := fun o => (hb5.alloc o).cell_ (i := 4) rfl
        clear hf5 hb5
        rw [HG1.out, HG2.out]
        cases th with
        | false =>
          have hgn : getE es key = none := by have h := HTH.out; simpa using h
          rw [hgn]
          clear hgn
          unfold Option.getD CV.zero CV.val
          go_wp2_with fail
          go_at_call 15
          refine calls_gen fun W6 hW6 => ?_
          have h6 : ArrB w2 W6 g es b8 := by rw [hW6]; exact H5.out.fr ((Fr.refl [] w5).alloc _)
          clear hW6
          refine (dropB h6 key HK.out (by omega) HKS.out).mono ?_
          rintro e w7 ⟨rfl, h7, -⟩
          have hnone := dropC_none h6.dist key
          have hl7 := dropC_len es key
          have hb7 := HBP.out w7 h7.frm
          have q0 := hb7.cell_ (i := 0) rfl; have q1 := hb7.cell_ (i := 1) rfl; have q2 := hb7.cell_ (i := 2) rfl; have q3 := hb7.cell_ (i := 3) rfl; have q4 := hb7.cell_ (i := 4) rfl
          have H7 := Lib.hid h7; have HNO := Lib.hid hnone
          clear h6 h7 hnone hb7 e0 e1 e2 e3 e4 y0 y1 y2 y3 y4
          go_wp2_with fail
          go_at_call 14
          refine (setB H7.out key v HK.out (by omega)).mono ?_
          rintro e w8 ⟨rfl, h8, -⟩
          have hset : setE (dropC es key) key v = dropC es key ++ [some (key, v)] := by unfold setE; rw [HNO.out]
          rw [hset] at h8
          have H8 := Lib.hid h8
          obtain ⟨l8, a8, -⟩ := id h8
          have HA8 := Lib.hid a8
          clear h8 a8 hset q0 q1 q2 q3 q4
          go_wp2_with fail
          go_at_call 18
          refine (keys_any HA8.out (by simp; omega)).mono ?_
          rintro e w9 ⟨B, rfl, -, -, hf9, hc9⟩
          obtain ⟨L, hL⟩ : ∃ L, L = (live (dropC es key)).length := ⟨_, rfl⟩
          have hlv : live (dropC es key ++ [some (key, v)]) = live (dropC es key) ++ [(key, v)] := by rw [live_append]; rfl
          have hll : (live (dropC es key ++ [some (key, v)])).length = L + 1 := by rw [hlv, List.length_append, ← hL]; rfl
          have d0 := hc9 L (key, v) (by rw [hlv, hL, List.getElem?_append_right (Nat.le_refl _), Nat.sub_self]; rfl)
          have hLn : L ≤ 1000 := by have := live_le (dropC es key); omega
          have HA9' := Lib.hid (HA8.out.fr_nil hf9); have HF9 := Lib.hid (H8.out.frm.trans hf9); have HLL := Lib.hid hll
          rw [hll]
          have hw1 : IntKind.i64.wrap (L : Int) = (L : Int) := by rw [IntKind.wrap_i64]; omega
          have hw2 : (L : Int) < (L : Int) + 1 := by omega
          clear hc9 hf9 hlv hll hL
          go_wp2_with fail
          go_at_call 19
          refine (len_any HA9'.out).mono ?_
          rintro e w10 ⟨rfl, rfl⟩
          rw [HLL.out]
          go_wp2_with fail
          go_ret
          exact ⟨rfl, (HF1.out.trans HF9.out).below_nil⟩
        | true =>
          have hgn : getE es key = some x := HGX.out rfl
          rw [hgn]
          clear hgn
          unfold Option.getD CV.val
          go_wp2_with fail
          go_at_call 15
          refine calls_gen fun W6 hW6 => ?_
          have h6 : ArrB w2 W6 g es b8 := by rw [hW6]; exact H5.out.fr ((Fr.refl [] w5).alloc _)
          clear hW6
          refine (dropB h6 key HK.out (by omega) HKS.out).mono ?_
          rintro e w7 ⟨rfl, h7, -⟩
          have hnone := dropC_none h6.dist key
          have hl7 := dropC_len es key
          have hb7 := HBP.out w7 h7.frm
          have q0 := hb7.cell_ (i := 0) rfl; have q1 := hb7.cell_ (i := 1) rfl; have q2 := hb7.cell_ (i := 2) rfl; have q3 := hb7.cell_ (i := 3) rfl; have q4 := hb7.cell_ (i := 4) rfl
          have H7 := Lib.hid h7; have HNO := Lib.hid hnone
          clear h6 h7 hnone hb7 e0 e1 e2 e3 e4 y0 y1 y2 y3 y4
          go_wp2_with fail
          go_at_call 14
          refine (setB H7.out key v HK.out (by omega)).mono ?_
          rintro e w8 ⟨rfl, h8, -⟩
          have hset : setE (dropC es key) key v = dropC es key ++ [some (key, v)] := by unfold setE; rw [HNO.out]
          rw [hset] at h8
          have H8 := Lib.hid h8
          obtain ⟨l8, a8, -⟩ := id h8
          have HA8 := Lib.hid a8
          clear h8 a8 hset q0 q1 q2 q3 q4
          go_wp2_with fail
          go_at_call 18
          refine (keys_any HA8.out (by simp; omega)).mono ?_
          rintro e w9 ⟨B, rfl, -, -, hf9, hc9⟩
          obtain ⟨L, hL⟩ : ∃ L, L = (live (dropC es key)).length := ⟨_, rfl⟩
          have hlv : live (dropC es key ++ [some (key, v)]) = live (dropC es key) ++ [(key, v)] := by rw [live_append]; rfl
          have hll : (live (dropC es key ++ [some (key, v)])).length = L + 1 := by rw [hlv, List.length_append, ← hL]; rfl
          have d0 := hc9 L (key, v) (by rw [hlv, hL, List.getElem?_append_right (Nat.le_refl _), Nat.sub_self]; rfl)
          have hLn : L ≤ 1000 := by have := live_le (dropC es key); omega
          have HA9' := Lib.hid (HA8.out.fr_nil hf9); have HF9 := Lib.hid (H8.out.frm.trans hf9); have HLL := Lib.hid hll
          rw [hll]
          have hw1 : IntKind.i64.wrap (L : Int) = (L : Int) := by rw [IntKind.wrap_i64]; omega
          have hw2 : (L : Int) < (L : Int) + 1 := by omega
          clear hc9 hf9 hlv hll hL
          go_wp2_with fail
          go_at_call 19
          refine (len_any HA9'.out).mono ?_
          rintro e w10 ⟨rfl, rfl⟩
          rw [HLL.out]
          go_wp2_with fail
          go_ret
          exact ⟨rfl, (HF1.out.trans HF9.out).below_nil⟩
end Go.Proofs.Ytfabmbemdaelcaa.C
namespace Go.Proofs.Ytfabmbemdaelcaa
open Go.RowKit Go.ChangeShapes Go.WideShapes Go.ChangeAt Go.Maps Go.Deep
theorem arg_strL {H : Type} {enc : TypeId × Value → H} {w : World} {base base' : Nat} {spare : Nat → Bool} {held : Bool} {r : Reach} {v : Value} {d : DataW H} {p : List MemPlace}
    (hv : Value.okWide Try.prog w r base' 9 v) (h : DataW.Trod enc Try.prog w base spare held 9 v d p) : ∃ s : List UInt8, v = .string ⟨s.toArray⟩ ∧ s.length ≤ maxLen := by
  obtain ⟨s, rfl, hs⟩ := arg_string Try.underlying9 hv h
  exact ⟨s.data.toList, by rw [← ba_of], by have := hs; rw [ba_of s, ba_size] at this; exact this⟩
theorem assocLast_open {H : Type} {enc : TypeId × Value → H} (W : World) (base : Nat) (v0 : Value) (d0 : DataW H) (p0 : List MemPlace) (v1 : Value) (d1 : DataW H) (p1 : List MemPlace) (v2 : Value) (d2 : DataW H) (p2 : List MemPlace)
    (k0 : Value.okWide Try.prog W .any base 36 v0) (k1 : Value.okWide Try.prog W .any base 9 v1) (k2 : Value.okWide Try.prog W .any base 41 v2)
    (h0 : DataW.Trod enc Try.prog W 0 (fun _ => true) true 36 v0 d0 p0) (h1 : DataW.Trod enc Try.prog W 0 (fun _ => true) true 9 v1 d1 p1) (h2 : DataW.Trod enc Try.prog W 0 (fun _ => true) true 41 v2 d2 p2) :
    Calls Try.prog 4 #[v0, v1, v2] W fun e W' => e = .returned (.bool true) ∧ Below W.heap.size W W' := by
  obtain ⟨A, n, c, K, S, V, rfl, hn, hact⟩ := C.actc_open k0 h0
  obtain ⟨key, rfl, hk⟩ := arg_strL k1 h1
  obtain ⟨v, rfl⟩ := C.arg_cell k2 h2
  exact C.last_walk hact hn hk v
end Go.Proofs.Ytfabmbemdaelcaa
