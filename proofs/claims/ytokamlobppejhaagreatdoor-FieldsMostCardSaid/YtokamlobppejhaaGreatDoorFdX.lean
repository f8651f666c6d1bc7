/-
  The walk of FieldsMost. No conditions.
-/
import Derived.Test.YtokamlobppejhaaGreatDoorFd5
import Derived.Test.YtokamlobppejhaaGreatDoorRead
import Derived.Test.YtokamlobppejhaaGreatDoorCode
namespace Go.Proofs.YtokamlobppejhaaGreatDoor
open Go.RowKit Go.ChangeShapes Go.WideShapes Go.ChangeAt Go.Deep
set_option linter.unusedVariables false
set_option linter.unusedSimpArgs false

theorem RcM.far {w w' : World} {r : Nat} {x : Rc} (h : RcM w r x) {b : Nat} {cs : Array Value} (hb : Bk w b 5 cs) (hf : Fr [b] w w') : RcM w' r x := by
  obtain ⟨v, h1, h2⟩ := h
  exact ⟨v, h1.fr hf (by simpa using Bk.ne_ h1 hb (by decide)), Own.fr h2 hf (fun k hk => by have := Own.ne_bk h2 hb (by decide); simp; rintro rfl; exact this hk)⟩
def xs_ (size i : Nat) : List UInt8 := List.replicate i 120 ++ List.replicate (size - i) 0
theorem xs_len (size i : Nat) (h : i ≤ size) : (xs_ size i).length = size := by simp [xs_]; omega
theorem xs_set (size i : Nat) (h : i < size) : (xs_ size i).set i 120 = xs_ size (i + 1) := by
  unfold xs_
  rw [List.set_append_right _ _ (by simp)]
  have e : size - i = (size - (i + 1)) + 1 := by omega
  rw [e, List.length_replicate, Nat.sub_self, List.replicate_succ (n := size - (i + 1)), List.set_cons_zero, List.replicate_succ' (n := i)]
  simp
theorem mk_bytes (n : Nat) (hn : n ≤ 100000) (W : World) : (Instr.makeSlice 31 (.int .i64 (n : Int)) (.int .i64 (n : Int))).run Tryz.prog W = .ok (.slice (some ⟨W.heap.size, 0, none⟩) n n) (W.alloc (.cells (byteVals (xs_ n 0)).toArray 5)) := by
  obtain ⟨i, hi, hz, hs, hb⟩ : ∃ i, Tryz.prog.info? 5 = some i ∧ i.zero = some (.int .u8 0) ∧ i.size = 1 ∧ i.bytes = 1 := info_parts (by kernel_rfl)
  have h := run_make (P := Tryz.prog) (w := W) 31 5 i _ Tryz.underlying31 hi hz .i64 .i64 (n : Int) (n : Int) (by omega) (by omega) (by rw [hb]; omega) (by omega)
  rw [hs] at h
  have e1 : Int.toNat (n : Int) = n := by omega
  have e2 : madeCells (Value.int .u8 0).cells (n * 1) = (byteVals (xs_ n 0)).toArray := by
    have := toList_madeCells_one (.int .u8 0) n
    rw [Nat.mul_one]
    apply Array.ext'
    rw [show (Value.int .u8 0).cells = #[Value.int .u8 0] from rfl, this]
    simp [byteVals, xs_]
  rw [e1, e2] at h
  exact h
theorem put_two (s : List UInt8) (l : List (List UInt8)) (h : l = [s] ∨ l = [] ∧ s = []) : putM l 2 [121] = [s, [121]] := by
  rcases h with rfl | ⟨rfl, rfl⟩ <;> rfl
theorem join_two (s : List UInt8) : Lib.join [s, [121]] [32] = s ++ [32, 121] := by simp [Lib.join_cons, Lib.joinTail]
theorem cut_xs (size : Nat) : let s := List.replicate size (120 : UInt8); (cutM s 44 = [s] ∨ cutM s 44 = [] ∧ s = []) := by
  intro s
  by_cases h : size = 0
  · subst h; exact .inr ⟨rfl, rfl⟩
  · exact .inl (cutM_none s 44 (by simp [s]) (by simp [s, h]))
theorem sepr_comma {w : World} {r : Nat} {x : Rc} (h : RcM w r x) : Calls Tryz.prog 6 #[.pointer (some ⟨r, 0, none⟩), .string ⟨#[44]⟩] w fun e w' => e = .returned .nilIface ∧ RcM w' r { x with kind := 1, c := 44 } ∧ Fr [r] w w' :=
  sepr_one h 44 (by decide) (by decide)
set_option maxRecDepth 100000 in
set_option maxHeartbeats 8000000 in
theorem most_walk {w : World} (hg : GlobOk w) (a1 a2 : Int) :
    Calls Tryz.prog 3 #[.int .i64 a1, .int .i64 a2] w fun e w' => e = .returned (.bool true) ∧ Fr [] w w' := by
  have HG := Lib.hid hg; clear hg
  go_enter Tryz.func3, Tryz.ntmps3
  go_wp2_with fail
  go_at_call 4
  refine (awake_any w).mono ?_
  rintro e w1 ⟨rfl, hf1⟩
  have HF1 := Lib.hid hf1; clear hf1
  by_cases h1 : a1 < 0
  · have t0 : decide (a1 < 0) = true := decide_eq_true h1
    go_wp2_with fail
    go_ret
    exact ⟨rfl, HF1.out⟩
  have t0 : decide (a1 < 0) = false := decide_eq_false h1
  by_cases h2 : 1003 < a1
  · have t1 : decide (1003 < a1) = true := decide_eq_true h2
    go_wp2_with fail
    go_ret
    exact ⟨rfl, HF1.out⟩
  have t1 : decide (1003 < a1) = false := decide_eq_false h2
  by_cases h3 : a2 < 0
  · have t2 : decide (a2 < 0) = true := decide_eq_true h3
    go_wp2_with fail
    go_ret
    exact ⟨rfl, HF1.out⟩
  have t2 : decide (a2 < 0) = false := decide_eq_false h3
  by_cases h4 : 70000 < a2
  · have t3 : decide (70000 < a2) = true := decide_eq_true h4
    go_wp2_with fail
    go_ret
    exact ⟨rfl, HF1.out⟩
  have t3 : decide (70000 < a2) = false := decide_eq_false h4
  obtain ⟨n, rfl⟩ := Int.eq_ofNat_of_zero_le (Int.not_lt.1 h1)
  obtain ⟨size, rfl⟩ := Int.eq_ofNat_of_zero_le (Int.not_lt.1 h3)
  have hn : n ≤ 1003 := by omega
  have hz : size ≤ 70000 := by omega
  clear h1 h2 h3 h4
  go_wp2_with fail
  go_at_call 5
  refine (fnew_any w1).mono ?_
  rintro e w2 ⟨rfl, hr2, hf2, -⟩
  obtain ⟨g, hge⟩ : ∃ g, w1.heap.size = g := ⟨_, rfl⟩
  have hgw : w.heap.size ≤ g := by rw [← hge]; exact HF1.out.size
  rw [hge] at hr2 ⊢
  have HR2 := Lib.hid hr2; have HF2 := Lib.hid (HF1.out.trans hf2)
  clear hr2 hf2 hge HF1 t0 t1 t2 t3
  go_wp2_with fail
  go_at_call 6
  refine (sepr_comma HR2.out).mono ?_
  rintro e w3 ⟨rfl, hr3, hf3⟩
  have hr3' : RcM w3 g ⟨1, 44, [32], [], []⟩ := hr3
  have HR3 := Lib.hid hr3'; have HF3 := Lib.hid (trans_new HF2.out hf3 hgw)
  clear hr3 hr3' hf3 HR2 HF2
  go_wp2_with fail
  go_at_call 7
  refine (resize_any HR3.out n (by omega) (by show 1 * n + 0 ≤ _; omega)).mono ?_
  intro e w4 hp
  have hpl : (padM [] n).length = n := pad_len [] n
  have hjl : (Lib.join (padM [] n) [32]).length ≤ n := by rw [pad_nil, join_len, lens_rep]; simp
  rcases hp with ⟨hb, rfl, rfl⟩ | ⟨-, hb, -⟩ | ⟨hb, -, rfl, hr4, hf4⟩
  case' inl =>
    have hb2 : 1000 < n := by have : (padM [] n).length = n := hpl; simp only [] at hb; omega
    have u0 : decide ((n : Int) ≤ 1000) = false := decide_eq_false (by omega)
    unfold errV
    clear hb hpl hjl
    go_wp2_with fail
    go_at_call 9
    refine (code_errno 5 _ (by omega) (by omega)).mono ?_
    rintro e w5 ⟨rfl, rfl⟩
    go_wp2_with fail
    go_at_call 8
    refine (count_any HR3.out).mono ?_
    rintro e w5 ⟨rfl, rfl⟩
    have e3 : ((⟨1, 44, [32], [], []⟩ : Rc).l.length : Int) = 0 := by rfl
    rw [e3]
    clear e3
    obtain ⟨x, hx⟩ : ∃ x : Rc, x = ⟨1, 44, [32], [], []⟩ := ⟨_, rfl⟩
    have HR4 : Hid (RcM w3 g x) := Lib.hid (by rw [hx]; exact HR3.out)
    have HF4 := HF3
    have hxk : x.kind = 1 := by rw [hx]
    have hxc : x.c = 44 := by rw [hx]
    have hxj : x.jn = [32] := by rw [hx]
    clear hx
    obtain ⟨w4, hw4⟩ : ∃ w4, w4 = w3 := ⟨_, rfl⟩
    subst hw4
  case' inr.inl => exfalso; have : (Lib.join (padM [] n) [32]).length ≤ n := hjl; simp only [] at hb; omega
  case' inr.inr =>
    have hb2 : n ≤ 1000 := by simp only [] at hb; omega
    have u0 : decide ((n : Int) ≤ 1000) = true := decide_eq_true (by omega)
    have hcl : ((padM [] n).length : Int) = (n : Int) := by rw [hpl]
    clear hb hpl hjl
    obtain ⟨x, hx⟩ : ∃ x : Rc, x = { (⟨1, 44, [32], [], []⟩ : Rc) with text := Lib.join (padM [] n) [32], l := padM [] n } := ⟨_, rfl⟩
    have HR4 : Hid (RcM w4 g x) := Lib.hid (by rw [hx]; exact hr4)
    have HF4 := Lib.hid (trans_new HF3.out hf4 hgw)
    have hxk : x.kind = 1 := by rw [hx]
    have hxc : x.c = 44 := by rw [hx]
    have hxj : x.jn = [32] := by rw [hx]
    have hxl : (x.l.length : Int) = (n : Int) := by rw [hx]; exact hcl
    clear hx hr4 hf4 hcl
    go_wp2_with fail
    go_at_call 8
    refine (count_any HR4.out).mono ?_
    rintro e w5 ⟨rfl, rfl⟩
    rw [hxl]
    clear hxl
  all_goals
    have hmk := mk_bytes size (by omega)
    obtain ⟨E, hE⟩ : ∃ E, E = (byteVals (xs_ size 0)).toArray := ⟨_, rfl⟩
    rw [← hE] at hmk
    have HE := Lib.hid hE; clear hE
    obtain ⟨bb, hbb⟩ : ∃ bb, bb = w4.heap.size := ⟨_, rfl⟩
    have hst : Bk (w4.alloc (.cells E 5)) bb 5 (byteVals (xs_ size 0)).toArray := by rw [hbb, ← HE.out]; exact Bk.new _ _ _
    have hst2 : RcM (w4.alloc (.cells E 5)) g x := HR4.out.fr_nil ((Fr.refl _ _).alloc _)
    have hst3 : Fr [] w (w4.alloc (.cells E 5)) := HF4.out.alloc _
    have hbw : w.heap.size ≤ bb := by rw [hbb]; exact HF4.out.size
    have HST := Lib.hid (And.intro hst (And.intro hst2 hst3))
    clear hst hst2 hst3
    go_wp2_with fail
    rw [← hbb]
    generalize w4.alloc (.cells E 5) = w5 at *
    clear hbb hmk
    go_loopw [9] (fun v9 wr => ∃ i : Nat, v9 = .int .i64 (i : Int) ∧ i ≤ size ∧ Bk wr bb 5 (byteVals (xs_ size i)).toArray ∧ RcM wr g x ∧ Fr [] w wr) (fun v9 _ => size + 1 - (intOf v9).toNat)
    case atStart => exact ⟨0, rfl, by omega, HST.out.1, HST.out.2.1, HST.out.2.2⟩
    case round =>
      obtain ⟨i, rfl, hi, hbk, hrc, hfr⟩ := hrel
      by_cases hlt : i < size
      · have f0 := hbk.frozen i
        have hcell := hbk.cell_ (i := i) (v := .int .u8 (((xs_ size i).getD i 0).toNat : Int)) (by have := xs_len size i hi; simp [byteVals, this, hlt])
        have hiI : (i : Int) < (size : Int) := by omega
        have HB := Lib.hid (And.intro hbk (And.intro hrc hfr))
        clear hbk hrc hfr
        go_wp2_with fail
        go_roundw
        case rel =>
          obtain ⟨q1, q2, q3⟩ := HB.out
          have hs : Fr [bb] wr (wr.setCell ⟨bb, i, none⟩ (.int .u8 120)) := (Fr.refl _ _).setCell (.inl (by simp)) _
          refine ⟨i + 1, by go_num, by omega, ?_, q2.far q1 hs, trans_new q3 hs hbw⟩
          have := q1.put i (.int .u8 120)
          have e : (byteVals (xs_ size (i + 1))).toArray = (byteVals (xs_ size i)).toArray.setIfInBounds i (.int .u8 120) := by
            rw [← xs_set size i hlt]; simp [byteVals, List.map_set]
          rw [e]; exact this
        case measure => first | (simp [intOf]; done) | (simp [intOf]; omega)
      · obtain rfl : i = size := by omega
        obtain ⟨s, hs⟩ : ∃ s, s = List.replicate i (120 : UInt8) := ⟨_, rfl⟩
        have hxs : xs_ i i = s := by rw [hs]; simp [xs_]
        have hsl : s.length = i := by rw [hs]; simp
        rw [hxs] at hbk
        have hcut := cut_xs i
        simp only [] at hcut
        rw [← hs] at hcut
        have HBY : Hid (At wr (some ⟨bb, 0, none⟩) (byteVals s)) := Lib.hid (At.of_bk (n := i) hbk (by rw [← hsl]; simp [← byteVals_length s]))
        have HR5 := Lib.hid hrc; have HF5 := Lib.hid hfr; have HCUT := Lib.hid hcut
        have hfl : fldM x s = cutM s 44 := by unfold fldM; rw [hxk, hxc]; rfl
        have hcl : (cutM s 44).length ≤ 1 := by rcases hcut with h | ⟨h, -⟩ <;> rw [h] <;> simp
        clear hbk hrc hfr hcut hxs hs
        go_wp2_with (refine wpList_str rfl 31 9 (.tmp 73) rfl 5 Tryz.underlying31 Tryz.underlying5 Tryz.underlying9 (some ⟨bb, 0, none⟩) i i (by rfl) s HBY.out hsl ?_)
        go_at_call 10
        refine (set_any HR5.out (.inr ⟨hxk, HG.out.fr HF5.out⟩) s (by unfold maxLen; omega)).mono ?_
        intro e w6 hp
        rcases hp with ⟨hb, rfl, rfl⟩ | ⟨-, hb, -⟩ | ⟨hb, -, rfl, hr6, hf6⟩
        · have v0 : decide ((i : Int) ≤ 65536) = false := decide_eq_false (by omega)
          unfold errV
          go_wp2_with fail
          go_at_call 9
          refine (code_errno 13 _ (by omega) (by omega)).mono ?_
          rintro e w7 ⟨rfl, rfl⟩
          go_wp2_with fail
          go_ret
          exact ⟨rfl, HF5.out⟩
        · exfalso; rw [hfl] at hb; omega
        · have v0 : decide ((i : Int) ≤ 65536) = true := decide_eq_true (by omega)
          obtain ⟨y, hy⟩ : ∃ y : Rc, y = { x with text := s, l := fldM x s } := ⟨_, rfl⟩
          rw [← hy] at hr6
          have hyj : y.jn = [32] := by rw [hy]; exact hxj
          have hyt : y.text = s := by rw [hy]
          have hyl : y.l = cutM s 44 := by rw [hy]; exact hfl
          have hpm : putM y.l 2 [121] = [s, [121]] := put_two s _ (by rw [hyl]; exact HCUT.out)
          have hjm : Lib.join (putM y.l 2 [121]) y.jn = s ++ [32, 121] := by rw [hpm, hyj, join_two]
          have HR6 := Lib.hid hr6; have HF6 := Lib.hid (trans_new HF5.out hf6 hgw)
          clear hy hr6 hf6 HR5 HF5
          have hlens : Lib.lens y.l ≤ i := by rw [hyl]; rcases HCUT.out with h | ⟨h, -⟩ <;> rw [h] <;> simp [Lib.lens] <;> omega
          have hyl1 : y.l.length ≤ 1 := by rw [hyl]; exact hcl
          go_wp2_with fail
          go_at_call 11
          refine (put_any HR6.out 2 (by omega) (by omega) (by omega) [121] (by rw [hyj]; show 1 * max 2 y.l.length + Lib.lens y.l + 1 ≤ _; omega)).mono ?_
          intro e w7 hp
          have hpl2 : (putM y.l 2 [121]).length = 2 := by rw [hpm]; rfl
          have hjl2 : (Lib.join (putM y.l 2 [121]) y.jn).length = i + 2 := by rw [hjm]; simp [hsl]
          rcases hp with ⟨hb3, -⟩ | ⟨-, hb3, rfl, hr7, hf7⟩ | ⟨-, hb3, rfl, hr7, hf7⟩
          · exfalso; rw [hpl2] at hb3; omega
          · rw [hjl2] at hb3
            have v1 : decide ((i : Int) ≤ 65534) = false := decide_eq_false (by omega)
            have HR7 := Lib.hid hr7; have HF7 := Lib.hid (HF6.out.trans hf7)
            clear hr7 hf7 hpm hjm hpl2 hjl2
            unfold errV
            go_wp2_with fail
            go_at_call 9
            refine (code_errno 13 _ (by omega) (by omega)).mono ?_
            rintro e w8 ⟨rfl, rfl⟩
            go_wp2_with fail
            go_at_call 12
            refine (get_any HR7.out 0).mono ?_
            rintro e w8 ⟨rfl, rfl⟩
            rw [getM_zero, hyt]
            go_wp2_with fail
            go_ret
            exact ⟨rfl, HF7.out⟩
          · rw [hjl2] at hb3
            have v1 : decide ((i : Int) ≤ 65534) = true := decide_eq_true (by omega)
            have HR7 : Hid (RcM w7 g { y with text := s ++ [32, 121], l := putM y.l 2 [121] }) := Lib.hid (by rw [← hjm]; exact hr7)
            have HF7 := Lib.hid (trans_new HF6.out hf7 hgw)
            clear hr7 hf7 hpm hjm hpl2 hjl2
            go_wp2_with fail
            go_at_call 12
            refine (get_any HR7.out 0).mono ?_
            rintro e w8 ⟨rfl, rfl⟩
            rw [getM_zero]
            have hq : ((⟨s.toArray⟩ : ByteArray) ++ ⟨#[32, 121]⟩).toList = s ++ [32, 121] := by
              rw [show (⟨#[32, 121]⟩ : ByteArray) = ⟨([32, 121] : List UInt8).toArray⟩ from rfl, ba_append, ByteArray.toList_mk]
            go_wp2_with fail
            go_ret
            exact ⟨rfl, HF7.out⟩
set_option maxRecDepth 100000 in
theorem fieldsMost_open {H : Type} {enc : TypeId × Value → H} (W : World) (base : Nat) (v0 : Value) (d0 : DataW H) (p0 : List MemPlace) (v1 : Value) (d1 : DataW H) (p1 : List MemPlace)
    (k0 : Value.okWide Tryz.prog W .any base 3 v0) (k1 : Value.okWide Tryz.prog W .any base 3 v1) (h0 : DataW.Trod enc Tryz.prog W 0 (fun _ => true) true 3 v0 d0 p0) (h1 : DataW.Trod enc Tryz.prog W 0 (fun _ => true) true 3 v1 d1 p1) (hg : GlobOk W) :
    Calls Tryz.prog 3 #[v0, v1] W fun e W' => e = .returned (.bool true) ∧ Below W.heap.size W W' := by
  obtain ⟨n, rfl, -⟩ := arg_int Tryz.underlying3 k0 h0
  obtain ⟨m, rfl, -⟩ := arg_int Tryz.underlying3 k1 h1
  exact (most_walk hg n m).mono fun e w' h => ⟨h.1, h.2.below_nil⟩
end Go.Proofs.YtokamlobppejhaaGreatDoor
