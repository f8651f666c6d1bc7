/-
  WdB, Read, Ws3, Door: several small texts in one. No conditions.
-/
import Derived.Test.YteofhjegaaoglaaDoorWd9
import Derived.Test.YteofhjegaaoglaaDoorGdA
import Derived.Test.YteofhjegaaoglaaDoorBase
import Derived.ProofKit
import Derived.OpenShut
import Derived.ShutString
import Derived.ChangeOld
import Derived.Deep.Slices
import Derived.Test.YteofhjegaaoglaaDoorGdC
import Derived.HandedShaped
import Derived.LaidMore
namespace Go.Proofs.YteofhjegaaoglaaDoor
open Go.RowKit
set_option linter.unusedVariables false
set_option linter.unusedSimpArgs false

def AwakeOk : Prop := ∀ w : World, GlobOk w → Calls Tryd.prog 4 #[] w fun e w' => e = .returned (.bool true) ∧ Fr [] w w'
theorem ex7_out : replF (piecesM [91, 38, 93]) [104, 101, 108, 108, 111] [(2, 4)] 0 = [104, 101, 91, 108, 108, 93, 111] := by kernel_rfl
theorem ex7_s1 : subM [104, 101, 108, 108, 111] 2 3 false = [101, 108, 108] := by kernel_rfl
theorem ex7_s2 : subM [104, 101, 108, 108, 111] (-1) 3 false = [104] := by kernel_rfl
theorem ex7_ix : Lib.index [104, 101, 108, 108, 111] [108, 111] = 3 := by kernel_rfl
set_option maxRecDepth 100000 in
set_option maxHeartbeats 4000000 in
theorem awake_ok : AwakeOk := by
  intro w hg
  obtain ⟨LA, hLA⟩ : ∃ LA, LA = progT (tOf [108, 43]) := ⟨_, rfl⟩
  have hfa := ex7_find; have hga := ex7_af
  rw [← hLA] at hfa hga
  have HRP : Hid (∀ (W : World) (lo fb : Nat), FinderAt W lo fb LA → Calls Tryd.prog 11 #[.pointer (some ⟨fb, 0, none⟩), .string ⟨#[91, 38, 93]⟩, .string ⟨#[104, 101, 108, 108, 111]⟩, .bool false] W fun e w' => e = .returned (.tuple #[.string ⟨#[104, 101, 91, 108, 108, 93, 111]⟩, .int .i64 1, .nilIface]) ∧ Fr [] W w') := Lib.hid (fun W lo fb hF => by
    have h := replace_any hF hga [91, 38, 93] [104, 101, 108, 108, 111] false (by decide) (by decide) [(2, 4)] (by rw [hfa]; rfl) [104, 101, 91, 108, 108, 93, 111] ex7_out.symm (by decide)
    refine h.mono fun e w' hp => ?_
    obtain ⟨rfl, hf⟩ := hp
    exact ⟨rfl, hf⟩)
  obtain ⟨sb, hsb⟩ : ∃ sb : Int → ByteArray, ∀ a, sb a = ⟨(subM [104, 101, 108, 108, 111] a 3 false).toArray⟩ := ⟨fun a => ⟨(subM [104, 101, 108, 108, 111] a 3 false).toArray⟩, fun a => rfl⟩
  have HSB : Hid (∀ (W : World) (a : Int), (-1000 ≤ a ∧ a ≤ 1000) → Calls Tryd.prog 12 #[.string ⟨#[104, 101, 108, 108, 111]⟩, .int .i64 a, .int .i64 3, .bool false] W fun e w' => e = .returned (.string (sb a)) ∧ W = w') := Lib.hid (fun W a ha => by
    rw [hsb]
    exact substr_any W [104, 101, 108, 108, 111] a 3 (by omega) (by omega) (by decide) false)
  have q1 : sb 2 = ⟨#[101, 108, 108]⟩ := by rw [hsb, ex7_s1]
  have q2 : sb (-1) = ⟨#[104]⟩ := by rw [hsb, ex7_s2]
  clear hsb
  have HIX : Hid (∀ W : World, GlobOk W → Calls Tryd.prog 13 #[.string ⟨#[104, 101, 108, 108, 111]⟩, .string ⟨#[108, 111]⟩] W fun e w' => e = .returned (.int .i64 4) ∧ w' = W) := Lib.hid (fun W hg => by
    have h := widx_any W [104, 101, 108, 108, 111] [108, 111] (by decide) hg
    rw [ex7_ix] at h
    refine h.mono fun e w' hp => ?_
    obtain ⟨rfl, hf⟩ := hp
    exact ⟨rfl, hf⟩)
  have HG := Lib.hid hg; have HLA := Lib.hid hLA
  clear hg hLA hfa hga
  go_enter Tryd.func4, Tryd.ntmps4
  go_upto_region 2 with (first | (refine wpList_same rfl 27 (.tmp 7) rfl 5 Tryd.underlying27 Tryd.underlying5 ⟨w.heap.size, 0, none⟩ 2 2 (by first | rfl | (simp [Act.eval]; done)) (byteVals [108, 43]) (bytes_new w [108, 43]) ?_; intro v1 hS hF; have HS1 := Lib.hid hS; have HV1 : Hid (Fr [] w v1) := Lib.hid (((Fr.refl [] w).alloc (.cells (byteVals [108, 43]).toArray 5)).trans' hF (by simp)); clear hS hF) | (go_at_call 10; refine (new_at 2 rfl _ ex7_a ex7_as HS1.out (by omega) (Nat.le_refl _) (by intro h; cases h) (by decide) (HG.out.fr HV1.out)).mono ?_; rintro e w1 ⟨fa, rfl, hn, hf⟩; rw [← HLA.out] at hn; have HN1 := Lib.hid hn; have HX1 := Lib.hid (HV1.out.trans hf); clear hn hf))
  go_upto_region 5 with (go_at_call 11; refine (HRP.out _ _ _ HN1.out).mono ?_; rintro e w2 ⟨rfl, hf⟩; have HX2 := Lib.hid (HX1.out.trans hf); clear hf)
  go_wp2_with (first
    | (go_at_call 13; refine (HIX.out _ (HG.out.fr HX2.out)).mono ?_; rintro e w3 ⟨rfl, rfl⟩)
    | (go_at_call 12; refine (HSB.out _ _ (by omega)).mono ?_; rintro e w3 ⟨rfl, rfl⟩; simp only [q1, q2]))
  go_ret
  exact ⟨rfl, HX2.out⟩
end Go.Proofs.YteofhjegaaoglaaDoor
namespace Go.Proofs.YteofhjegaaoglaaDoor
open Go.ChangeShapes Go.WideShapes Go.ChangeAt Go.RowKit Go.Deep
set_option linter.unusedVariables false
set_option linter.unusedSimpArgs false
section
variable {H : Type} {enc : TypeId × Value → H} {P : Program} {w : World} {base : Nat} {spare : Nat → Bool} {held : Bool}

def Rd (enc : TypeId × Value → H) (P : Program) (w : World) (base : Nat) (spare : Nat → Bool) (held : Bool) (t : TypeId) (cs : List Value) : Prop :=
  ∃ fuel x, DataW.trod enc P w base spare held fuel t cs = some x

theorem Rd.of_trod {t : TypeId} {v : Value} {d : DataW H} {p : List MemPlace} (h : DataW.Trod enc P w base spare held t v d p) : Rd enc P w base spare held t v.cells.toList := by
  obtain ⟨fuel, hf⟩ := h
  exact ⟨fuel, _, hf⟩

theorem Rd.int_ {t : TypeId} {cs : List Value} {k : IntKind} (ht : P.underlying t = some (.int k)) (h : Rd enc P w base spare held t cs) : ∃ n, cs = [.int k n] ∧ (Lit.int k n).wf = true := by
  obtain ⟨fuel, x, hx⟩ := h
  obtain ⟨n, h1, _, h3⟩ := DataW.trod_int ht hx
  exact ⟨n, h1, h3⟩
theorem Rd.bool_ {t : TypeId} {cs : List Value} (ht : P.underlying t = some .bool) (h : Rd enc P w base spare held t cs) : ∃ b, cs = [.bool b] := by
  obtain ⟨fuel, x, hx⟩ := h
  obtain ⟨n, h1, _⟩ := DataW.trod_bool ht hx
  exact ⟨n, h1⟩
theorem Rd.string_ {t : TypeId} {cs : List Value} (ht : P.underlying t = some .string) (h : Rd enc P w base spare held t cs) : ∃ s : ByteArray, cs = [.string s] ∧ s.size ≤ maxLen := by
  obtain ⟨fuel, x, hx⟩ := h
  obtain ⟨n, h1, _, h3⟩ := DataW.trod_string ht hx
  exact ⟨n, h1, h3⟩
theorem Rd.struct_ {t : TypeId} {fs : Array Field} {cs : List Value} (ht : P.underlying t = some (.struct fs)) (h : Rd enc P w base spare held t cs) :
    cs.length = P.cellsOf t ∧ ∀ (i : Nat) (f : Field), fs[i]? = some f → Rd enc P w base spare held f.type ((cs.drop f.offset).take (P.cellsOf f.type)) := by
  obtain ⟨fuel, x, hx⟩ := h
  obtain ⟨xs, n, _, _, hl, hxs, hf⟩ := DataW.trod_struct ht hx
  refine ⟨hl, fun i f hi => ?_⟩
  have h1 : i < xs.length := by rw [hxs]; exact (Array.getElem?_eq_some_iff.1 hi).1
  exact ⟨n, xs[i], by rw [hf i f hi]; exact List.getElem?_eq_getElem h1⟩
theorem Rd.slice_ {t e : TypeId} {cs : List Value} (ht : P.underlying t = some (.slice e)) (hc : 0 < P.cellsOf e) (h : Rd enc P w base spare held t cs) :
    ∃ A len cap, cs = [.slice A len cap] ∧ len ≤ cap ∧ cap ≤ maxLen ∧ (A = none → cap = 0) ∧
      ∀ i, i < len → ∃ b off es, A = some ⟨b, off, none⟩ ∧ b < w.heap.size ∧ es.length = P.cellsOf e ∧ (∀ j, j < P.cellsOf e → w.cell? ⟨b, off + i * P.cellsOf e + j, none⟩ = es[j]?) ∧ Rd enc P w base spare held e es := by
  obtain ⟨fuel, x, hx⟩ := h
  rcases open_slice ht hx with ⟨rfl, _⟩ | ⟨a, len, cap, m, n, D, Pl, rfl, hb, hl, hm, hmm, _, hi⟩
  · exact ⟨none, 0, 0, rfl, Nat.le_refl _, by simp, fun _ => rfl, fun i hi => absurd hi (by omega)⟩
  · refine ⟨some a, len, cap, rfl, hl, hm, by simp, fun i hil => ?_⟩
    have hlm : len ≤ m := by rw [hmm]; split <;> omega
    obtain ⟨es, h1, h2⟩ := hi i (by omega)
    obtain ⟨es0, g1, g2⟩ := hi 0 (by omega)
    obtain ⟨_, h3, h4⟩ := World.cells?_some h1
    obtain ⟨_, g3, g4⟩ := World.cells?_some g1
    have hc0 := g4 0 hc
    rw [Nat.zero_mul] at hc0
    have ha0 : (a.add 0).add 0 = a := by simp [Addr.add]
    rw [ha0] at hc0
    have hsome : w.cell? a = some (es0[0]'(by omega)) := by rw [hc0]; exact List.getElem?_eq_getElem (by omega)
    have hlt := World.block_lt_of_cell? w a hsome
    obtain ⟨b, off, spot⟩ := a
    have hsp : spot = none := by
      cases spot with
      | none => rfl
      | some s =>
        exfalso
        unfold World.cell? at hsome
        split at hsome
        · simp at hsome
        · cases hsome
    subst hsp
    refine ⟨b, off, es, rfl, hlt, h3, fun j hj => ?_, ⟨n, _, h2⟩⟩
    rw [← h4 j hj, add_add_]
    congr 1
    unfold Addr.add
    split <;> simp_all [Nat.add_assoc]
end

section
variable {H : Type} {enc : TypeId × Value → H} {P : Program} {w : World} {base base' : Nat} {spare : Nat → Bool} {held : Bool} {r : Reach}
theorem arg_int {t : TypeId} {v : Value} {d : DataW H} {p : List MemPlace} {k : IntKind} (ht : P.underlying t = some (.int k)) (hv : Value.okWide P w r base' t v) (h : DataW.Trod enc P w base spare held t v d p) : ∃ n, v = .int k n ∧ (Lit.int k n).wf = true := by
  obtain ⟨n, rfl, _, _, h3⟩ := open_int ht hv h
  exact ⟨n, rfl, h3⟩
theorem arg_bool {t : TypeId} {v : Value} {d : DataW H} {p : List MemPlace} (ht : P.underlying t = some .bool) (hv : Value.okWide P w r base' t v) (h : DataW.Trod enc P w base spare held t v d p) : ∃ n, v = .bool n := by
  obtain ⟨n, rfl, _⟩ := open_bool ht hv h
  exact ⟨n, rfl⟩
theorem arg_string {t : TypeId} {v : Value} {d : DataW H} {p : List MemPlace} (ht : P.underlying t = some .string) (hv : Value.okWide P w r base' t v) (h : DataW.Trod enc P w base spare held t v d p) : ∃ s : ByteArray, v = .string s ∧ s.size ≤ maxLen := by
  obtain ⟨s, rfl, _, _, h3⟩ := Go.ChangeMaps.open_string ht hv h
  exact ⟨s, rfl, h3⟩
theorem arg_slice {t e : TypeId} {v : Value} {d : DataW H} {p : List MemPlace} (ht : P.underlying t = some (.slice e)) (hc : 0 < P.cellsOf e) (hv : Value.okWide P w r base' t v) (h : DataW.Trod enc P w base spare held t v d p) :
    ∃ A len cap, v = .slice A len cap ∧ len ≤ cap ∧ cap ≤ maxLen ∧ (A = none → cap = 0) ∧
      ∀ i, i < len → ∃ b off es, A = some ⟨b, off, none⟩ ∧ b < w.heap.size ∧ es.length = P.cellsOf e ∧ (∀ j, j < P.cellsOf e → w.cell? ⟨b, off + i * P.cellsOf e + j, none⟩ = es[j]?) ∧ Rd enc P w base spare held e es := by
  obtain ⟨A, len, cap, rfl⟩ := okWide_slice ht hv
  obtain ⟨A', len', cap', h1, h2⟩ := (Rd.of_trod h).slice_ ht hc
  simp [Value.cells] at h1
  obtain ⟨rfl, rfl, rfl⟩ := h1
  exact ⟨_, _, _, rfl, h2⟩
theorem Rd.bytes_ {t e : TypeId} {cs : List Value} (ht : P.underlying t = some (.slice e)) (he : P.underlying e = some (.int .u8)) (hc : P.cellsOf e = 1) (h : Rd enc P w base spare held t cs) :
    ∃ A cap bs, cs = [.slice A bs.length cap] ∧ bs.length ≤ cap ∧ cap ≤ maxLen ∧ (A = none → cap = 0) ∧ Bytes w A bs := by
  obtain ⟨A, len, cap, rfl, hl, hm, hA, hi⟩ := h.slice_ ht (by omega)
  have hx : ∀ i, i < len → ∃ x : UInt8, ∀ b off, A = some ⟨b, off, none⟩ → b < w.heap.size ∧ w.cell? ⟨b, off + i, none⟩ = some (.int .u8 x.toNat) := by
    intro i hil
    obtain ⟨b, off, es, hA', hb, hel, hcell, hrd⟩ := hi i hil
    obtain ⟨n, rfl, hw⟩ := hrd.int_ he
    refine ⟨UInt8.ofNat n.toNat, fun b' off' e => ?_⟩
    rw [hA'] at e
    obtain ⟨rfl, rfl⟩ : b = b' ∧ off = off' := by simpa using e
    have := hcell 0 (by omega)
    rw [hc] at this
    simp only [Nat.mul_one, Nat.add_zero] at this
    refine ⟨hb, this.trans ?_⟩
    have hb' : 0 ≤ n ∧ n ≤ 255 := by simpa [Lit.wf, IntKind.min, IntKind.max, IntKind.signed, IntKind.bits] using hw
    simp
    omega
  obtain ⟨f, hf⟩ := choose_lt (α := UInt8) hx
  refine ⟨A, cap, (List.range len).map f, by simp, by simpa using hl, hm, hA, ?_⟩
  by_cases h0 : len = 0
  · left; subst h0; simp [byteVals]
  · obtain ⟨b, off, _, hA', hb, _⟩ := hi 0 (by omega)
    refine .inr ⟨_, hA', hb, fun j u hu => ?_⟩
    have hj : j < len := by
      rcases Nat.lt_or_ge j len with h | h
      · exact h
      · rw [List.getElem?_eq_none (by simpa [byteVals] using h)] at hu; cases hu
    have hadd : (⟨b, off, none⟩ : Addr).add j = ⟨b, off + j, none⟩ := by unfold Addr.add; split <;> simp_all
    rw [hadd, (hf j hj b off hA').2]
    simp [byteVals, hj] at hu
    rw [← hu]
end
end Go.Proofs.YteofhjegaaoglaaDoor
namespace Go.Proofs.YteofhjegaaoglaaDoor
open Go.RowKit
set_option linter.unusedVariables false
set_option linter.unusedSimpArgs false

theorem OwnL.is {w : World} {v : Value} {l : List (List UInt8)} (n : Nat) (hn : n = l.length) (h : OwnL w v l) : ∃ A cap, v = .slice A n cap ∧ OwnL w (.slice A n cap) l := by
  obtain ⟨A, cap, rfl, -, -, -, -⟩ := OwnL.val h
  exact ⟨A, cap, by rw [hn], by rw [hn]; exact h⟩
theorem beq7 (a : ByteArray) : (a == a) = true := by
  cases a with
  | mk d => show (d == d) = true; exact beq_self_eq_true d
set_option maxRecDepth 100000 in
set_option maxHeartbeats 8000000 in
theorem splits7_walk {w : World} (s : List UInt8) (c : UInt8) (hg : GlobOk w) :
    Calls Tryd.prog 3 #[.string ⟨s.toArray⟩, .int .u8 (c.toNat : Int)] w fun e w' => e = .returned (.bool true) ∧ Fr [] w w' := by
  have HAW := Lib.hid (awake_ok w hg)
  obtain ⟨S, hS⟩ : ∃ S, S = (⟨s.toArray⟩ : ByteArray) := ⟨_, rfl⟩
  obtain ⟨L, hL⟩ : ∃ L, L = s.length := ⟨_, rfl⟩
  obtain ⟨cn, hcn⟩ : ∃ cn, cn = c.toNat := ⟨_, rfl⟩
  have hs1 : S.size = L := by rw [hS, hL]; simp [ByteArray.size]
  rw [← hS, ← hcn]
  by_cases h200 : 200 < L
  · have hI : (200 : Int) < (L : Int) := by omega
    clear hS hL hcn hg
    go_enter Tryd.func3, Tryd.ntmps3
    go_wp2_with (go_at_call 4; refine HAW.out.mono ?_; rintro e w1 ⟨rfl, hf⟩; have HX := Lib.hid hf; clear hf)
    go_ret
    exact ⟨rfl, HX.out⟩
  have hI : ¬ ((200 : Int) < (L : Int)) := by omega
  obtain ⟨l, hl⟩ : ∃ l, l = cutM s c := ⟨_, rfl⟩
  obtain ⟨m, hm⟩ : ∃ m, m = l.length := ⟨_, rfl⟩
  obtain ⟨k, hk⟩ : ∃ k, k = (splM s).length := ⟨_, rfl⟩
  have hm2 : m ≤ 201 := by rw [hm, hl]; have := cutM_len s c; omega
  have hk2 : k ≤ 200 := by rw [hk]; have := splM_len s; omega
  have hCU : ∀ W, GlobOk W → Calls Tryd.prog 5 #[.string S, .int .u8 (cn : Int)] W fun e w' => ∃ A cap, e = .returned (.slice A m cap) ∧ OwnL w' (.slice A m cap) l ∧ Fr [] W w' := fun W hg => by
    rw [hS, hcn]
    refine (cut_any hg s c (by omega)).mono fun e w' ⟨v, he, ho, hf⟩ => ?_
    rw [← hl] at ho
    obtain ⟨A, cap, rfl, h⟩ := ho.is m hm
    exact ⟨A, cap, he, h, hf⟩
  have hRC : ∀ W, Calls Tryd.prog 9 #[.string S, .int .u8 (cn : Int)] W fun e w' => ∃ A cap, e = .returned (.slice A m cap) ∧ OwnL w' (.slice A m cap) l ∧ Fr [] W w' := fun W => by
    rw [hS, hcn]
    refine (rcut7_any W s c (by omega)).mono fun e w' ⟨v, he, ho, hf⟩ => ?_
    rw [← hl] at ho
    obtain ⟨A, cap, rfl, h⟩ := ho.is m hm
    exact ⟨A, cap, he, h, hf⟩
  have hSP : ∀ W, Calls Tryd.prog 7 #[.string S] W fun e w' => ∃ A cap, e = .returned (.slice A k cap) ∧ OwnL w' (.slice A k cap) (splM s) ∧ Fr [] W w' := fun W => by
    rw [hS]
    refine (wsplit_any W s (by omega)).mono fun e w' ⟨v, he, ho, hf⟩ => ?_
    obtain ⟨A, cap, rfl, h⟩ := ho.is k hk
    exact ⟨A, cap, he, h, hf⟩
  have hRS : ∀ W, Calls Tryd.prog 8 #[.string S] W fun e w' => ∃ A cap, e = .returned (.slice A k cap) ∧ OwnL w' (.slice A k cap) (splM s) ∧ Fr [] W w' := fun W => by
    rw [hS]
    refine (rsplit7_any W s (by omega)).mono fun e w' ⟨v, he, ho, hf⟩ => ?_
    obtain ⟨A, cap, rfl, h⟩ := ho.is k hk
    exact ⟨A, cap, he, h, hf⟩
  have hSM : ∀ (W : World) (v1 v2 : Value), (∃ (l : List (List UInt8)), OwnL W v1 l ∧ OwnL W v2 l ∧ l.length ≤ 1000) → Calls Tryd.prog 6 #[v1, v2] W fun e w' => e = .returned (.bool true) ∧ Fr [] W w' := fun W v1 v2 ⟨l, h1, h2, h3⟩ => by
    obtain ⟨A1, c1, rfl, h1⟩ := h1.is _ rfl
    obtain ⟨A2, c2, rfl, h2⟩ := h2.is _ rfl
    exact same7_any rfl h3 h1 h2
  have hjl : ∀ i, (jnF c (l.take i)).length ≤ L := fun i => by rw [hl, hL]; exact jnF_len c s i
  have hfin : (⟨(jnF c l).toArray⟩ : ByteArray) = S := by rw [hl, jn_cutM, hS]
  have hby : ∀ W : World, Bytes (W.alloc (.cells #[.int .u8 (cn : Int)] 5)) (some ⟨W.heap.size, 0, none⟩) [c] := fun W => by
    rw [hcn]
    exact At.of_bk (n := 1) (xs := byteVals [c]) (Bk.new W 5 #[.int .u8 (c.toNat : Int)]) (by simp [byteVals])
  have hk3 : (splM s).length ≤ 1000 := by omega
  have hm3 : l.length ≤ 1000 := by omega
  have eS := beq7 S
  have HCU := Lib.hid hCU; have HRC := Lib.hid hRC; have HSP := Lib.hid hSP; have HRS := Lib.hid hRS; have HSM := Lib.hid hSM; have HJL := Lib.hid hjl; have HFIN := Lib.hid hfin; have HBY := Lib.hid hby; have HK3 := Lib.hid hk3; have HM3 := Lib.hid hm3; have HM := Lib.hid hm; have HG := Lib.hid hg
  clear hS hL hcn hl hm hk hCU hRC hSP hRS hSM hjl hfin hby hk3 hm3 hg
  go_enter Tryd.func3, Tryd.ntmps3
  go_upto_region 5 with (go_at_call 4; refine HAW.out.mono ?_; rintro e w1 ⟨rfl, hf⟩; have HX := Lib.hid hf; clear hf)
  go_upto_region 6 with (go_at_call 5; refine (HCU.out _ (HG.out.fr HX.out)).mono ?_; rintro e w2 ⟨CA, cc, rfl, ho, hf⟩; have HX := Lib.hid (HX.out.trans hf); have HC := Lib.hid ho; clear hf ho)
  go_upto_region 10 with (first
    | (go_at_call 7; refine (HSP.out _).mono ?_; rintro e w3 ⟨SA, sc, rfl, ho, hf⟩; have HX := Lib.hid (HX.out.trans hf); have HC := Lib.hid (HC.out.fr_nil hf); have HS := Lib.hid ho; clear hf ho)
    | (go_at_call 8; refine (HRS.out _).mono ?_; rintro e w4 ⟨RA, rc, rfl, ho, hf⟩; have HX := Lib.hid (HX.out.trans hf); have HC := Lib.hid (HC.out.fr_nil hf); have HS := Lib.hid (HS.out.fr_nil hf); have HR := Lib.hid ho; clear hf ho)
    | (go_at_call 9; refine (HRC.out _).mono ?_; rintro e w6 ⟨DA, dc, rfl, ho, hf⟩; have HX := Lib.hid (HX.out.trans hf); have HC := Lib.hid (HC.out.fr_nil hf); have HD := Lib.hid ho; clear hf ho)
    | (go_at_call 6; refine (HSM.out _ _ _ (by first | exact ⟨_, HS.out, HR.out, HK3.out⟩ | exact ⟨_, HC.out, HD.out, HM3.out⟩)).mono ?_; rintro e w7 ⟨rfl, hf⟩; have HX := Lib.hid (HX.out.trans hf); have HC := Lib.hid (HC.out.fr_nil hf); clear hf))
  obtain ⟨w8, hw8⟩ : ∃ w8, w8 = w7 := ⟨_, rfl⟩
  go_loopw [6, 7] (fun v6 v7 wr => ∃ i : Nat, v7 = .int .i64 (i : Int) ∧ i ≤ m ∧ v6 = .string ⟨(jnF c (l.take i)).toArray⟩ ∧ Fr [] w7 wr) (fun _ v7 _ => m + 1 - (intOf v7).toNat)
  case atStart => exact ⟨0, rfl, Nat.zero_le _, by rw [List.take_zero]; rfl, Fr.refl _ _⟩
  case round =>
    obtain ⟨i, rfl, hi, rfl, hfr⟩ := hrel
    have HFR := Lib.hid hfr
    clear hfr
    obtain ⟨O, hO⟩ : ∃ O, O = (⟨(jnF c (l.take i)).toArray⟩ : ByteArray) := ⟨_, rfl⟩
    rw [← hO]
    have hos : O.size ≤ L := by rw [hO]; have := HJL.out i; simpa [ByteArray.size] using this
    have HO := Lib.hid hO
    clear hO
    rcases Nat.lt_or_ge i m with hin | hin
    · have hinI : (i : Int) < (m : Int) := by omega
      obtain ⟨x, hx⟩ : ∃ x, l[i]? = some x := ⟨_, List.getElem?_eq_getElem (by rw [← HM.out]; exact hin)⟩
      have hgd : l.getD i [] = x := by rw [List.getD_eq_getElem?_getD, hx]; rfl
      obtain ⟨CB, co, hca, e0⟩ := (HC.out.fr_nil HFR.out).cell (j := i) (by rw [← HM.out]; exact hin)
      rw [hgd] at e0
      have hst := jn_step c hx
      have hln := HJL.out (i + 1)
      rw [hst] at hln
      obtain ⟨X, hX⟩ : ∃ X, X = (⟨x.toArray⟩ : ByteArray) := ⟨_, rfl⟩
      rw [← hX] at e0
      by_cases hi0 : i = 0
      · rw [if_pos hi0] at hst hln
        have hOe : O = ⟨#[]⟩ := by rw [HO.out, hi0]; rfl
        have hgt : ¬ ((0 : Int) < (i : Int)) := by omega
        have hxs : X.size ≤ 200 := by rw [hX]; simp [ByteArray.size]; omega
        have hnov : ¬ 9223372036854775807 < O.size + X.size := by omega
        have hcat : O ++ X = (⟨(jnF c (l.take (i + 1))).toArray⟩ : ByteArray) := by rw [hst, hOe, hX, ba_append]; rfl
        have HCAT := Lib.hid hcat; have HOE := Lib.hid hOe
        subst hca
        clear hst hln hcat hOe hX hx hgd hi0
        go_wp2_with fail
        go_roundw
        case rel => exact ⟨i + 1, by go_num, by omega, by rw [HCAT.out], HFR.out⟩
        case measure => first | (simp [intOf]; done) | (simp [intOf]; omega)
      · rw [if_neg hi0] at hst hln
        have hgt : (0 : Int) < (i : Int) := by omega
        obtain ⟨E, hE⟩ : ∃ E, E = (⟨[c].toArray⟩ : ByteArray) := ⟨_, rfl⟩
        have hes : E.size = 1 := by rw [hE]; rfl
        obtain ⟨P, hP⟩ : ∃ P, O ++ E = P := ⟨_, rfl⟩
        have hPs : P = ⟨(jnF c (l.take i) ++ [c]).toArray⟩ := by rw [← hP, HO.out, hE, ba_append]
        have hpz : P.size + x.length ≤ L := by rw [hPs]; simp [ByteArray.size] at hln ⊢; omega
        have hxs : X.size = x.length := by rw [hX]; simp [ByteArray.size]
        have hnov1 : ¬ 9223372036854775807 < O.size + E.size := by omega
        have hnov2 : ¬ 9223372036854775807 < P.size + X.size := by omega
        have hcat : P ++ X = (⟨(jnF c (l.take (i + 1))).toArray⟩ : ByteArray) := by rw [hst, hPs, hX, ba_append]
        have hfa : Fr [] wr (wr.alloc (.cells #[.int .u8 (cn : Int)] 5)) := (Fr.refl [] wr).alloc _
        have e1 := (hfa.cell (World.block_lt_of_cell? _ _ e0) (by simp)).trans e0
        have HCAT := Lib.hid hcat; have HE := Lib.hid hE
        subst hca
        clear hst hln hcat hX hx hgd hi0 hE hPs hpz e0 hfa
        go_wp2_with (refine wpList_str rfl 27 9 (.tmp 40) rfl 5 Tryd.underlying27 Tryd.underlying5 Tryd.underlying9 (some ⟨wr.heap.size, 0, none⟩) 1 1 (by first | rfl | (simp [Act.eval]; done)) [c] (HBY.out _) rfl ?_; rw [← HE.out])
        go_roundw
        case rel => exact ⟨i + 1, by go_num, by omega, by rw [HCAT.out], HFR.out.alloc _⟩
        case measure => first | (simp [intOf]; done) | (simp [intOf]; omega)
    · have hinI : ¬ ((i : Int) < (m : Int)) := by omega
      have hOS : O = S := by rw [HO.out, List.take_of_length_le (by rw [← HM.out]; exact hin), HFIN.out]
      clear hos HO
      subst hOS
      go_wp2_with fail
      go_ret
      exact ⟨rfl, HX.out.trans HFR.out⟩
theorem u8_arg (n : Int) (h : (Lit.int .u8 n).wf = true) : ∃ c : UInt8, n = ((c.toNat : Nat) : Int) := by
  have h2 : 0 ≤ n ∧ n ≤ 255 := by (simp [Lit.wf, IntKind.min, IntKind.max, IntKind.signed, IntKind.bits] at h; omega)
  refine ⟨UInt8.ofNat n.toNat, ?_⟩
  simp
  omega
set_option maxRecDepth 100000 in
theorem wordsSplits_open {H : Type} {enc : TypeId × Value → H} (W : World) (base : Nat) (v0 : Value) (d0 : DataW H) (p0 : List MemPlace) (v1 : Value) (d1 : DataW H) (p1 : List MemPlace)
    (k0 : Value.okWide Tryd.prog W .any base 9 v0) (k1 : Value.okWide Tryd.prog W .any base 5 v1)
    (h0 : DataW.Trod enc Tryd.prog W 0 (fun _ => true) true 9 v0 d0 p0) (h1 : DataW.Trod enc Tryd.prog W 0 (fun _ => true) true 5 v1 d1 p1) (hg : GlobOk W) :
    Calls Tryd.prog 3 #[v0, v1] W fun e W' => e = .returned (.bool true) ∧ Below W.heap.size W W' := by
  obtain ⟨s, rfl, hs⟩ := arg_string Tryd.underlying9 k0 h0
  obtain ⟨n, rfl, hn⟩ := arg_int Tryd.underlying5 k1 h1
  obtain ⟨c, rfl⟩ := u8_arg n hn
  have h := splits7_walk (w := W) s.data.toList c hg
  rw [← ba_of] at h
  exact h.mono fun e W' ⟨h1, h2⟩ => ⟨h1, h2.below_nil⟩
end Go.Proofs.YteofhjegaaoglaaDoor
namespace Go.Proofs.YteofhjegaaoglaaDoor
open Go.ChangeShapes Go.WideShapes Go.ChangeAt Go.RowKit
set_option linter.unusedVariables false

theorem handed_door {H : Type} {enc : TypeId × Value → H} {a : Assume} {C : Checked} {os : Os} {f : FuncId} {fn : Func} {s : ChangeSpec} {conds : List PathCond} {apart fresh handsOn again : Bool} {X : World → Prop}
    (hX : ∀ (w w' : World), w.heap = w'.heap → X w → X w') (own : ownKnob C.prog.godebug = none) (started : os.Started) (noInit : C.prog.inits.idxOf? f = none) (hfn : C.prog.funcs[f]? = some fn)
    (witness : ∃ (w : World) (tape : Tape) (i : Input), w.os = os ∧ (w.forCall tape i).Shaped C.prog ∧ i.vars = [] ∧ Input.okWide C.prog (w.forCall tape i) .any w.heap.size f i ∧
      ((s.pre enc C.prog fn conds apart (w.forCall tape i).memory i.args ∧ X (w.forCall tape i).memory) ∧ sizedMet enc C.prog fn (OpenSpec.ofChange s) apart (w.forCall tape i).memory i.args) ∧ a.holds C.prog (lone (Frame.enter C.prog f i.args .normal) [] (w.forCall tape i)))
    (contract : ∀ (W : World) (base : Nat) (args : Array Value) (ds gs : List (DataW H)) (before : List MemPlace),
      (∀ (j : Nat) t v, fn.params[j]? = some t → args[j]? = some v → Value.okWide C.prog W .any base t v) → DataW.Whole enc C.prog fn.params.toList s.vars apart W args.toList ds gs before → W.ShapedOpen C.prog → X W →
      Calls C.prog f args W fun e W' => ∃ v, e = .returned v ∧ s.post enc C.prog fn apart fresh handsOn again W args v W') :
    ReturnsInHanded a C os f .any (fun w args => (s.pre enc C.prog fn conds apart w args ∧ X w) ∧ sizedMet enc C.prog fn (OpenSpec.ofChange s) apart w args) (s.post enc C.prog fn apart fresh handsOn again) := by
  refine returnsInHanded_of_calls own started noInit witness ?_
  intro w tape i _ hsh _ hok hpre _
  obtain ⟨_, _, _, fn', hfn', _, _, _, _, hval⟩ := hok
  obtain rfl : fn' = fn := Option.some.inj (hfn'.symm.trans hfn)
  obtain ⟨⟨⟨ds, gs, before, hw, _⟩, hx⟩, _⟩ := hpre
  refine (contract (w.forCall tape i) w.heap.size i.args ds gs before hval (DataW.Whole.of_heap (w' := w.forCall tape i) (by rfl) hw) hsh (hX _ _ (by rfl) hx)).mono fun e W' ⟨v, he, hp⟩ => ?_
  subst he
  exact ChangeSpec.post_blind hp
end Go.Proofs.YteofhjegaaoglaaDoor
