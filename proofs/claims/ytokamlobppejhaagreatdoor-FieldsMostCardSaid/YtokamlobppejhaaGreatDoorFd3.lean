/-
  A record's Set, made, take, Put, Resize. No conditions on the program.
-/
import Derived.Test.YtokamlobppejhaaGreatDoorFd2
import Derived.Laws.CopyRow
import Derived.Laws.IdiomCopy
import Derived.Laws.MakeOwn
namespace Go.Proofs.YtokamlobppejhaaGreatDoor
open Go.RowKit
set_option linter.unusedVariables false
set_option linter.unusedSimpArgs false

def errV (c : Int) : Value := .iface 47 (.int .i64 c)
/-- The fields of a text. -/
def fldM (x : Rc) (text : List UInt8) : List (List UInt8) := if x.kind = 0 then splM text else cutM text x.c
def SepOk (w : World) (x : Rc) : Prop := x.kind = 0 ∨ (x.kind = 1 ∧ GlobOk w)
theorem fld_len (x : Rc) (t : List UInt8) : (fldM x t).length ≤ t.length + 1 := by
  unfold fldM
  split
  · have := splM_len t; omega
  · exact cutM_len t x.c
theorem sep_any {w : World} (x : Rc) (hk : SepOk w x) (text : List UInt8) (ht : text.length ≤ 1000000000) :
    Calls Tryz.prog 17 #[.agg #[.int .i64 x.kind, .int .u8 (x.c.toNat : Int), .pointer none], .string ⟨text.toArray⟩] w fun e w' => ∃ v, e = .returned v ∧ OwnL w' v (fldM x text) ∧ Fr [] w w' := by
  unfold fldM
  have hf0 : Fr [] w (w.alloc (.cells #[.int .i64 x.kind, .int .u8 (x.c.toNat : Int), .pointer none] 37)) := (Fr.refl _ _).alloc _
  rcases hk with hk | ⟨hk, hg⟩
  · rw [hk, if_pos rfl]
    rw [hk] at hf0
    have HF0 := Lib.hid hf0; clear hf0 hk
    go_enter Tryz.func17, Tryz.ntmps17
    go_wp2_with fail
    go_at_call 23
    refine (wsplit_any _ text ht).mono ?_
    rintro e w2 ⟨v, rfl, ho, hf⟩
    have HO := Lib.hid ho; have HF := Lib.hid (HF0.out.trans hf)
    clear ho hf
    go_wp2_with fail
    go_ret
    exact ⟨v, rfl, HO.out, HF.out⟩
  · rw [hk, if_neg (by decide)]
    rw [hk] at hf0
    have HF0 := Lib.hid hf0; have HG := Lib.hid hg; clear hf0 hk hg
    go_enter Tryz.func17, Tryz.ntmps17
    go_wp2_with fail
    go_at_call 24
    refine (cut_any (HG.out.fr HF0.out) text x.c (by omega)).mono ?_
    rintro e w2 ⟨v, rfl, ho, hf⟩
    have HO := Lib.hid ho; have HF := Lib.hid (HF0.out.trans hf)
    clear ho hf
    go_wp2_with fail
    go_ret
    exact ⟨v, rfl, HO.out, HF.out⟩
/-- What 'Set' leaves. -/
def SetPost (w : World) (r : Nat) (x : Rc) (text : List UInt8) (e : Ending) (w' : World) : Prop :=
  (65536 < text.length ∧ e = .returned (errV 13) ∧ w = w') ∨ (text.length ≤ 65536 ∧ 1000 < (fldM x text).length ∧ e = .returned (errV 5) ∧ RcM w' r x ∧ Fr [] w w') ∨
    (text.length ≤ 65536 ∧ (fldM x text).length ≤ 1000 ∧ e = .returned .nilIface ∧ RcM w' r { x with text := text, l := fldM x text } ∧ Fr [r] w w')
set_option maxRecDepth 100000 in
theorem set_any {w : World} {r : Nat} {x : Rc} (h : RcM w r x) (hk : SepOk w x) (text : List UInt8) (ht : text.length ≤ maxLen) :
    Calls Tryz.prog 10 #[.pointer (some ⟨r, 0, none⟩), .string ⟨text.toArray⟩] w (SetPost w r x text) := by
  unfold maxLen at ht
  by_cases hbig : 65536 < text.length
  · have t1 : decide ((65536 : Int) < (text.length : Int)) = true := by simp; omega
    have HB := Lib.hid hbig; clear hbig h hk
    go_enter Tryz.func10, Tryz.ntmps10
    go_wp2_with fail
    go_ret
    exact .inl ⟨HB.out, rfl, rfl⟩
  have t1 : decide ((65536 : Int) < (text.length : Int)) = false := by simp; omega
  have ht2 : text.length ≤ 65536 := by omega
  obtain ⟨v, h⟩ := h
  obtain ⟨d0, d1, d2, -, -, -⟩ := rc_cells h.1
  have H := Lib.hid h; have HK := Lib.hid hk
  clear h hk hbig
  go_enter Tryz.func10, Tryz.ntmps10
  go_wp2_with fail
  go_at_call 17
  refine (sep_any x HK.out text (by omega)).mono ?_
  rintro e w2 ⟨u, rfl, ho, hf⟩
  obtain ⟨A, cap, hv, hl1, hl2, -, -⟩ := OwnL.val ho
  subst hv
  have hr2 : RcR w2 r x v := ⟨H.out.1.fr hf (by simp), Own.fr H.out.2 hf (by simp)⟩
  have f4 := hr2.1.frozen 4; have f5 := hr2.1.frozen 5
  obtain ⟨-, -, -, -, d4, d5⟩ := rc_cells hr2.1
  have HO := Lib.hid ho; have HF := Lib.hid hf; have HR := Lib.hid hr2
  clear ho hf hr2 d0 d1 d2
  by_cases hm : 1000 < (fldM x text).length
  · have t2 : decide ((1000 : Int) < ((fldM x text).length : Int)) = true := by simp; omega
    go_wp2_with fail
    go_ret
    exact .inr (.inl ⟨ht2, hm, rfl, ⟨v, HR.out⟩, HF.out⟩)
  · have t2 : decide ((1000 : Int) < ((fldM x text).length : Int)) = false := by simp; omega
    go_wp2_with fail
    go_ret
    have hfr : Fr [r] w2 ((w2.setCell ⟨r, 4, none⟩ (.string ⟨text.toArray⟩)).setCell ⟨r, 5, none⟩ (.slice A (fldM x text).length cap)) := ((Fr.refl _ _).setCell (.inl (by simp)) _).setCell (.inl (by simp)) _
    exact .inr (.inr ⟨ht2, by omega, rfl, ⟨_, HR.out.fr_put (y := { x with text := text, l := fldM x text }) hfr ((HR.out.1.put 4 _).put 5 _) HO.out⟩, (Fr.nil_ HF.out).trans hfr⟩)

/-- 'copy(d, x)' into a block of its own. -/
theorem wpList_copy_new {P : Program} {ops : Array Oper} {rest : List Oper} {o : Oper} {a : Act} {w : World} {Q : Exit → Act → World → Prop} (hgd : Region.wanted o (yielded ops a.tmps) = true) (d x : Operand) (t : TypeId)
    (ho : o.op = .call { callee := .builtin .copy, args := #[d, x], argTypes := #[t, t] }) (e : TypeId) (i : TypeInfo) (ht : P.underlying t = some (.slice e)) (hi : P.info? e = some i) (hs : i.size = 1)
    (g n c : Nat) (cur : Array Value) (hdv : a.eval d = .slice (some ⟨g, 0, none⟩) n c) (hg : Bk w g e cur) (hcs : n ≤ cur.size)
    (A : Option Addr) (m cx : Nat) (hxv : a.eval x = .slice A m cx) (xs : List Value) (hx : At w A xs) (hm : xs.length = m) (h1 : ∀ u ∈ xs, u.oneCell' = true)
    (hK : ∀ k w', Bk w' g e (xs.take n ++ cur.toList.drop (min m n)).toArray → Fr [g] w w' → wpList P ops Q rest (a.put o.dst (.int .i64 k)) w') :
    wpList P ops Q (o :: rest) a w := by
  refine wpList_wanted hgd fun K hKK => ?_
  have hsz : (P.info? e).map (·.size) = some 1 := by rw [hi]; simp [hs]
  unfold Oper.wp execOp
  simp only [ho, resolve, invoke, builtin, Sem.run_bind, Sem.run_pure, Result.andThen_ok, List.map_toArray, List.map_cons, List.map_nil, hdv, hxv]
  by_cases h0 : min m n = 0
  · rw [run_copy_none (P := P) w t t o.type e (some ⟨g, 0, none⟩) A n c m cx ht hsz h0]
    refine hKK _ _ (hK 0 w ?_ (Fr.refl _ _))
    have e1 : xs.take n = [] := by
      apply List.eq_nil_of_length_eq_zero
      rw [List.length_take]
      omega
    rw [e1, h0]
    simpa using hg
  · obtain ⟨b, rfl⟩ : ∃ b, A = some b := by
      rcases hx with h | ⟨b, h, _⟩
      · rw [h] at hm; simp at hm; omega
      · exact ⟨b, h⟩
    have hl : (xs.take n).length = min m n := by rw [List.length_take]; omega
    have hr := run_copy_row (P := P) w t t o.type e g 0 n c b m cx cur e (xs.take n) ht hsz hg hl (hx.take n).cells (by rw [hl]; omega) (fun u hu => h1 u (List.mem_of_mem_take hu))
    rw [hl] at hr
    rw [hr]
    refine hKK _ _ (hK _ _ ?_ ⟨rfl, rfl, rfl, by simp, fun k hk hn => setRow_other w g k _ (fun e => hn (by simp [e]))⟩)
    have hh := setRow_heap w g cur (cur.toList.take 0 ++ xs.take n ++ cur.toList.drop (0 + min m n)).toArray e _ hg
    unfold Bk
    rw [hh]
    simp
theorem own_of_bk {w : World} {g : Nat} {l : List (List UInt8)} (h : Bk w g 9 (strVals l).toArray) (hl : l.length ≤ maxLen) : OwnL w (.slice (some ⟨g, 0, none⟩) l.length l.length) l :=
  ⟨_, l.length, by rw [strVals_length], by rw [strVals_length]; exact Nat.le_refl _, hl, .inr ⟨g, 0, _, rfl, h, by simp [strVals_length], by simp⟩⟩
theorem mk_strs (n : Nat) (hn : n ≤ 1000) (W : World) : (Instr.makeSlice 38 (.int .i64 (n : Int)) (.int .i64 (n : Int))).run Tryz.prog W = .ok (.slice (some ⟨W.heap.size, 0, none⟩) n n) (W.alloc (.cells (strVals (List.replicate n [])).toArray 9)) := by
  obtain ⟨i, hi, hz, hs, hb⟩ := strParts
  have h := run_make (P := Tryz.prog) (w := W) 38 9 i _ Tryz.underlying38 hi hz .i64 .i64 (n : Int) (n : Int) (by omega) (by omega) (by rw [hb]; omega) (by omega)
  rw [hs] at h
  have e1 : Int.toNat (n : Int) = n := by omega
  have e2 : madeCells (Value.string ByteArray.empty).cells (n * 1) = (strVals (List.replicate n [])).toArray := by
    have := toList_madeCells_one (.string ByteArray.empty) n
    rw [Nat.mul_one]
    apply Array.ext'
    rw [show (Value.string ByteArray.empty).cells = #[Value.string ByteArray.empty] from rfl, this]
    simp [strVals]
    right
    rfl
  rw [e1, e2] at h
  exact h
/-- What 'made' leaves. -/
def MadePost (w : World) (l : List (List UInt8)) (n : Nat) (e : Ending) (w' : World) : Prop :=
  (1000 < n ∧ e = .returned (.tuple #[.slice none 0 0, errV 5]) ∧ w = w') ∨ (n ≤ 1000 ∧ ∃ g, e = .returned (.tuple #[.slice (some ⟨g, 0, none⟩) n n, .nilIface]) ∧ w.heap.size ≤ g ∧ Bk w' g 9 (strVals (padM l n)).toArray ∧ Fr [] w w')
set_option maxRecDepth 100000 in
theorem made_any {w : World} {r : Nat} {x : Rc} (h : RcM w r x) (n : Nat) (hn : n ≤ 100000) :
    Calls Tryz.prog 14 #[.pointer (some ⟨r, 0, none⟩), .int .i64 (n : Int)] w (MadePost w x.l n) := by
  by_cases hbig : 1000 < n
  · have t0 : decide ((n : Int) < 0) = false := decide_eq_false (by omega)
    have t1 : decide ((1000 : Int) < (n : Int)) = true := by simp; omega
    clear h
    go_enter Tryz.func14, Tryz.ntmps14
    go_wp2_with fail
    go_ret2
    exact .inl ⟨hbig, rfl, rfl⟩
  have t0 : decide ((n : Int) < 0) = false := decide_eq_false (by omega)
  have t1 : decide ((1000 : Int) < (n : Int)) = false := by simp; omega
  have hn2 : n ≤ 1000 := by omega
  obtain ⟨v, h⟩ := h
  obtain ⟨A, cap, hv, hl1, hl2, hat, -⟩ := OwnL.val h.2
  subst hv
  obtain ⟨-, -, -, -, -, d5⟩ := rc_cells h.1
  obtain ⟨i0, hi0, hz0, hz1, hz2⟩ := strParts
  have hmk := mk_strs n hn2
  have d5' : ∀ O, (w.alloc O).cell? ⟨r, 5, none⟩ = some (.slice A x.l.length cap) := fun O => (h.1.alloc O).cell_ (i := 5) rfl
  have HAT := Lib.hid hat
  clear h hbig hat
  obtain ⟨E, hE⟩ : ∃ E, E = (strVals (List.replicate n [])).toArray := ⟨_, rfl⟩
  rw [← hE] at hmk
  have HE := Lib.hid hE; clear hE
  go_enter Tryz.func14, Tryz.ntmps14
  go_wp2_with (refine wpList_copy_new rfl (.tmp 15) (.tmp 19) 38 rfl 9 i0 Tryz.underlying38 hi0 hz1 w.heap.size n n E (by rfl) (Bk.new w _ _) (by rw [HE.out]; simp [strVals]) A x.l.length cap (by rfl) (strVals x.l) (HAT.out.alloc _) (strVals_length _) (strVals_one _) ?_; intro kk w3 hb3 hf3; have HB3 := Lib.hid hb3; have HF3 := Lib.hid hf3; clear hb3 hf3)
  go_ret2
  have hb := HB3.out
  have e1 : (strVals x.l).take n ++ E.toList.drop (min x.l.length n) = strVals (padM x.l n) := by
    rw [HE.out]
    unfold padM strVals
    rw [List.map_append, List.map_take]
    congr 1
    simp only [List.map_replicate, List.drop_replicate]
    congr 1
    omega
  rw [e1] at hb
  exact .inr ⟨hn2, _, rfl, Nat.le_refl _, hb, (((Fr.refl [] w).alloc _).trans' HF3.out (by simp))⟩
/-- How long the first i fields are, with the joiner between. -/
def szM (l : List (List UInt8)) (jn : List UInt8) (i : Nat) : Nat := jn.length * (i - 1) + Lib.lens (l.take i)
theorem szM_all (l : List (List UInt8)) (jn : List UInt8) : szM l jn l.length = (Lib.join l jn).length := by unfold szM; rw [join_len, List.take_length]
theorem szM_next (l : List (List UInt8)) (jn : List UInt8) (i : Nat) (hi : i < l.length) (h0 : 0 < i) : szM l jn (i + 1) = szM l jn i + jn.length + (l.getD i []).length := by
  unfold szM
  rw [Lib.lens_take_succ l i (l.getD i []) (by simp [hi])]
  obtain ⟨k, rfl⟩ : ∃ k, i = k + 1 := ⟨i - 1, by omega⟩
  simp only [Nat.add_sub_cancel]
  rw [Nat.mul_succ]
  omega
theorem szM_one (l : List (List UInt8)) (jn : List UInt8) (hi : 0 < l.length) : szM l jn 1 = (l.getD 0 []).length := by
  unfold szM
  rw [show 1 = 0 + 1 from rfl, Lib.lens_take_succ l 0 (l.getD 0 []) (by simp [hi])]
  simp [Lib.lens]
theorem szM_le (l : List (List UInt8)) (jn : List UInt8) (i : Nat) (hi : i ≤ l.length) : szM l jn i ≤ jn.length * l.length + Lib.lens l := by
  unfold szM
  have h1 := Lib.lens_take_le l i
  have h2 : jn.length * (i - 1) ≤ jn.length * l.length := Nat.mul_le_mul_left _ (by omega)
  omega
/-- What 'take' leaves. -/
def TakePost (w : World) (r : Nat) (x : Rc) (l : List (List UInt8)) (e : Ending) (w' : World) : Prop :=
  (65536 < (Lib.join l x.jn).length ∧ e = .returned (errV 13) ∧ w = w') ∨ ((Lib.join l x.jn).length ≤ 65536 ∧ e = .returned .nilIface ∧ RcM w' r { x with text := Lib.join l x.jn, l := l } ∧ Fr [r] w w')
set_option maxRecDepth 100000 in
set_option maxHeartbeats 1000000 in
theorem take_any {w : World} {r : Nat} {x : Rc} (h : RcM w r x) {A : Option Addr} {n c : Nat} {l : List (List UInt8)} (hn : l.length = n) (ho : OwnL w (.slice A n c) l) (hl : l.length ≤ 1000) (hb : x.jn.length * l.length + Lib.lens l ≤ 1000000000000) :
    Calls Tryz.prog 15 #[.pointer (some ⟨r, 0, none⟩), .slice A n c] w (TakePost w r x l) := by
  obtain ⟨v, h⟩ := h
  obtain ⟨-, -, -, d3, -, -⟩ := rc_cells h.1
  have H := Lib.hid h; have HO := Lib.hid ho
  clear h ho
  have hjn : x.jn.length ≤ 1000000000000 ∨ l.length = 0 := by
    rcases Nat.eq_zero_or_pos l.length with h | h
    · exact .inr h
    · have := Nat.mul_le_mul_left x.jn.length h
      omega
  go_enter Tryz.func15, Tryz.ntmps15
  go_wp2_with fail
  go_loop [5, 10] (fun v5 v10 => ∃ i : Nat, v10 = .int .i64 (i : Int) ∧ v5 = .int .i64 (szM l x.jn i : Int) ∧ i ≤ n) (fun _ v10 => n + 1 - (intOf v10).toNat)
  case atStart => exact ⟨0, rfl, by simp [szM, Lib.lens], by omega⟩
  case round =>
    obtain ⟨i, rfl, rfl, hi⟩ := hrel
    have hle := szM_le l x.jn i (by omega)
    by_cases hlt : i < n
    · obtain ⟨b, off, rfl, hc⟩ := OwnL.cell HO.out (j := i) (by omega)
      have hle2 := szM_le l x.jn (i + 1) (by omega)
      obtain ⟨el, hel⟩ : ∃ el, l.getD i [] = el := ⟨_, rfl⟩
      rw [hel] at hc
      by_cases h0 : 0 < i
      · have hnx := szM_next l x.jn i (by omega) h0
        rw [hel] at hnx
        have t0 : decide ((0 : Int) < (i : Int)) = true := decide_eq_true (by omega)
        have HX := Lib.hid (And.intro hle (And.intro hle2 hnx))
        clear hle hle2 hnx hel
        go_wp2_with fail
        go_round
        case rel =>
          obtain ⟨q1, q2, q3⟩ := HX.out
          exact ⟨i + 1, by go_num, by refine congrArg _ ?_; rw [Go.IntWalk.wrap64_in ((szM l x.jn i : Int) + (x.jn.length : Int)) ?_, Go.IntWalk.wrap64_in _ ?_] <;> omega, by omega⟩
        case measure => first | (simp [intOf]; done) | (simp [intOf]; omega)
      · obtain rfl : i = 0 := by omega
        have hnx := szM_one l x.jn (by omega)
        rw [hel] at hnx
        have hs0 : szM l x.jn 0 = 0 := by simp [szM, Lib.lens]
        rw [Nat.add_zero] at hc
        rw [hs0]
        have HX := Lib.hid (And.intro hle2 (And.intro hnx hs0))
        clear hle hle2 hnx hel hs0
        go_wp2_with fail
        go_round
        case rel =>
          obtain ⟨q2, q3, q4⟩ := HX.out
          exact ⟨1, by go_num, by rw [q3] at q2 ⊢; first | go_num | (refine congrArg _ ?_; rw [Go.IntWalk.wrap64_in _ ?_] <;> omega), by omega⟩
        case measure => first | (simp [intOf]; done) | (simp [intOf]; omega)
    · obtain rfl : i = n := by omega
      subst hn
      rw [szM_all] at hle ⊢
      by_cases hbig : 65536 < (Lib.join l x.jn).length
      · have t1 : decide ((65536 : Int) < ((Lib.join l x.jn).length : Int)) = true := decide_eq_true (by omega)
        have HB := Lib.hid hbig; clear hbig
        go_wp2_with fail
        go_ret
        exact .inl ⟨HB.out, rfl, rfl⟩
      · have t1 : decide ((65536 : Int) < ((Lib.join l x.jn).length : Int)) = false := decide_eq_false (by omega)
        have hbig' : (Lib.join l x.jn).length ≤ 65536 := by omega
        clear hbig
        go_wp2_with fail
        go_at_call 20
        refine (joins_any HO.out x.jn (by omega) (by omega)).mono ?_
        rintro e w2 ⟨rfl, hf⟩
        have hr2 : RcR w2 r x v := ⟨H.out.1.fr hf (by simp), Own.fr H.out.2 hf (by simp)⟩
        have ho2 : OwnL w2 (.slice A l.length c) l := Own.fr HO.out hf (by simp)
        have f4 := hr2.1.frozen 4; have f5 := hr2.1.frozen 5
        obtain ⟨-, -, -, -, d4, d5⟩ := rc_cells hr2.1
        have HO2 := Lib.hid ho2; have HF := Lib.hid hf; have HR := Lib.hid hr2
        clear ho2 hf hr2
        obtain ⟨tx, htx⟩ : ∃ tx, Lib.join l x.jn = tx := ⟨_, rfl⟩
        rw [htx]
        have HTX := Lib.hid htx; clear htx
        go_wp2_with fail
        go_ret
        have hfr : Fr [r] w2 ((w2.setCell ⟨r, 4, none⟩ (.string ⟨tx.toArray⟩)).setCell ⟨r, 5, none⟩ (.slice A l.length c)) := ((Fr.refl _ _).setCell (.inl (by simp)) _).setCell (.inl (by simp)) _
        have htx := HTX.out
        refine .inr ⟨hbig', rfl, ⟨_, HR.out.fr_put (y := { x with text := Lib.join l x.jn, l := l }) hfr ?_ HO2.out⟩, (Fr.nil_ HF.out).trans hfr⟩
        rw [htx]
        exact (HR.out.1.put 4 _).put 5 _
end Go.Proofs.YtokamlobppejhaaGreatDoor
