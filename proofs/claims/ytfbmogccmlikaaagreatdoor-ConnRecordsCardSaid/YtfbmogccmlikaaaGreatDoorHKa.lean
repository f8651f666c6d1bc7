/-
 KRcM, KRc1: several small texts in one. No conditions.
-/
import Derived.Test.YtfbmogccmlikaaaGreatDoorBase
import Derived.Lib.Bytealg
import Derived.Test.YtfbmogccmlikaaaGreatDoorRows
import Derived.Test.YtfbmogccmlikaaaGreatDoorOwn
import Derived.Test.YtfbmogccmlikaaaGreatDoorGl
import Derived.Test.YtfbmogccmlikaaaGreatDoorShelf
import Derived.LoopTactic
import Derived.Deep.QuietTactic
import Derived.BigQuiet
import Derived.Laws.ResultCell
namespace Go.Proofs.YtfbmogccmlikaaaGreatDoor.K
open Go.RowKit
set_option linter.unusedVariables false
set_option linter.unusedSimpArgs false
theorem cut1 (c : UInt8) : ∀ (s : List UInt8), c ∈ s → ∃ a b, s = a ++ c :: b ∧ c ∉ a
 | [], h => by simp at h
 | x :: r, h => by
  by_cases e : x = c
  ·exact ⟨[], r, by simp [e], by simp⟩
  ·obtain ⟨a, b, h1, h2⟩ := cut1 c r (by simpa [Ne.symm e] using h)
   exact ⟨x :: a, b, by simp [h1], by simp [h2, Ne.symm e]⟩
theorem indexByte_hit (c : UInt8) : ∀ (a b : List UInt8), c ∉ a → Lib.indexByte (a ++ c :: b) c = a.length
 | [], b, _ => by simp [Lib.indexByte]
 | x :: a, b, h => by
  have h1 : ¬ x = c := fun e => h (by simp [e])
  have h2 : c ∉ a := fun e => h (by simp [e])
  have ih := indexByte_hit c a b h2
  have h3 : ((a.length : Int) == -1) = false := by rw [beq_eq_false_iff_ne]; omega
  simp [Lib.indexByte, h1, ih, h3]
theorem indexByte_miss (c : UInt8) : ∀ (s : List UInt8), c ∉ s → Lib.indexByte s c = -1
 | [], _ => by simp [Lib.indexByte]
 | x :: a, h => by
  have h1 : ¬ x = c := fun e => h (by simp [e])
  have h2 : c ∉ a := fun e => h (by simp [e])
  simp [Lib.indexByte, h1, indexByte_miss c a h2]
def recG (c : UInt8) : List UInt8 → List UInt8 → List (List UInt8)
 | [], cur => if cur = [] then [] else [cur]
 | x :: r, cur => if x = c then cur :: recG c r [] else recG c r (cur ++ [x])
def recM (c : UInt8) (s : List UInt8) : List (List UInt8) := recG c s []
def closed (c : UInt8) (s : List UInt8) : List UInt8 := if s = [] ∨ s.getLast? = some c then s else s ++ [c]
def ends (c : UInt8) (s : List UInt8) : Nat := s.count c + if s = [] ∨ s.getLast? = some c then 0 else 1
end Go.Proofs.YtfbmogccmlikaaaGreatDoor.K
namespace Go.Proofs.YtfbmogccmlikaaaGreatDoor.K
open Go.RowKit
set_option linter.unusedVariables false
set_option linter.unusedSimpArgs false
theorem calls_gen {P : Program} {f : FuncId} {args : Array Value} {R : Ending → World → Prop} {w : World} (h : ∀ W, W = w → Calls P f args W R) : Calls P f args w R := h w rfl
theorem code_gen {P : Program} {c : Code} {Q : Exit → Act → World → Prop} {a : Act} {w : World} (h : ∀ W, W = w → c.wp P Q a W) : c.wp P Q a w := h w rfl
def errV (c : Int) : Value := .iface 52 (.int .i64 c)
theorem Own.ne_bk {w : World} {e : TypeId} {v : Value} {xs : List Value} {g : Nat} {t : TypeId} {cs : Array Value} (h : Own w e v xs) (hb : Bk w g t cs) (hne : e ≠ t) : v.ownBlock ≠ some g := by
 obtain ⟨A, cap, rfl, -, -, ⟨rfl, -⟩ | ⟨g', off, cur, rfl, hg, -⟩⟩ := h
 ·simp [Value.ownBlock]
 ·intro hk
  simp [Value.ownBlock] at hk
  subst hk
  exact Bk.ne_ (g := g') (cs := cur) hg hb hne rfl
def OwnB (w : World) (v : Value) (bs : List UInt8) : Prop := Own w 5 v (byteVals bs)
theorem OwnB.val {w : World} {v : Value} {bs : List UInt8} (h : OwnB w v bs) : ∃ A cap, v = .slice A bs.length cap ∧ bs.length ≤ cap ∧ cap ≤ maxLen ∧ Bytes w A bs ∧ (A = none → cap = 0) := by
 obtain ⟨A, cap, rfl, h1, h2, h3, h4, -⟩ := Own.at_ h
 rw [byteVals_length] at h2
 exact ⟨A, cap, by rw [byteVals_length], h2, h3, h1, h4⟩
structure Cu where
 c : UInt8
 room : Int
 bs : List UInt8
 en : Bool
def cuCells (x : Cu) (v : Value) : Array Value := #[.int .i64 0, .int .u8 (x.c.toNat : Int), .pointer none, .int .i64 x.room, v, .bool x.en]
def CuR (w : World) (q : Nat) (x : Cu) (v : Value) : Prop := Bk w q 72 (cuCells x v) ∧ OwnB w v x.bs
def CuM (w : World) (q : Nat) (x : Cu) : Prop := ∃ v, CuR w q x v
theorem cu_cells {w : World} {q : Nat} {x : Cu} {v : Value} (h : Bk w q 72 (cuCells x v)) :
    w.cell? ⟨q, 0, none⟩ = some (.int .i64 0) ∧ w.cell? ⟨q, 1, none⟩ = some (.int .u8 (x.c.toNat : Int)) ∧ w.cell? ⟨q, 2, none⟩ = some (.pointer none) ∧ w.cell? ⟨q, 3, none⟩ = some (.int .i64 x.room) ∧ w.cell? ⟨q, 4, none⟩ = some v ∧ w.cell? ⟨q, 5, none⟩ = some (.bool x.en) :=
 ⟨h.cell_ rfl, h.cell_ rfl, h.cell_ rfl, h.cell_ rfl, h.cell_ rfl, h.cell_ rfl⟩
theorem CuM.fr_nil {w w' : World} {q : Nat} {x : Cu} (h : CuM w q x) (hf : Fr [] w w') : CuM w' q x := by
 obtain ⟨v, h1, h2⟩ := h
 exact ⟨v, h1.fr hf (by simp), Own.fr h2 hf (by simp)⟩
theorem CuR.fr_put {w w' : World} {q : Nat} {x y : Cu} {v u : Value} (h : CuR w q x v) (hf : Fr [q] w w') (hb : Bk w' q 72 (cuCells y u)) (ho : OwnB w u y.bs) : CuR w' q y u :=
 ⟨hb, Own.fr ho hf (fun k hk => by have := Own.ne_bk ho h.1 (by decide); simp; rintro rfl; exact this hk)⟩
theorem results_tmp4 {fn : Func} {t u v x : Tmp} (h : fn.results = #[.tmp t, .tmp u, .tmp v, .tmp x]) (tmps : Array Value) (P : Program) (w : World) :
    (results fn tmps).run P w = .ok (.tuple #[tmps.getD t undef, tmps.getD u undef, tmps.getD v undef, tmps.getD x undef]) w := by
 simp [results, h]
def fstM (c : UInt8) (bs : List UInt8) (ended : Bool) : Nat × Nat × Bool :=
 if c ∈ bs then ((bs.takeWhile (· != c)).length, (bs.takeWhile (· != c)).length + 1, true) else if ended = true ∧ bs ≠ [] then (bs.length, bs.length, true) else (0, 0, false)
theorem takeWhile_hit (c : UInt8) (a b : List UInt8) (h : c ∉ a) : (a ++ c :: b).takeWhile (· != c) = a := by
 rw [List.takeWhile_append_of_pos (by intro x hx; simp; rintro rfl; exact h hx)]
 simp
theorem fst_hit (c : UInt8) (a b : List UInt8) (h : c ∉ a) (e : Bool) : fstM c (a ++ c :: b) e = (a.length, a.length + 1, true) := by
 unfold fstM
 rw [if_pos (by simp), takeWhile_hit c a b h]
theorem fst_miss (c : UInt8) (bs : List UInt8) (h : c ∉ bs) (e : Bool) : fstM c bs e = if e = true ∧ bs ≠ [] then (bs.length, bs.length, true) else (0, 0, false) := by
 unfold fstM
 rw [if_neg h]
theorem nums_of (l : List UInt8) : Lib.bytesOf (l.map fun b : UInt8 => (b.toNat : Int)) = l := by
 unfold Lib.bytesOf
 rw [List.map_map]
 conv => rhs; rw [← List.map_id l]
 apply List.map_congr_left
 intro b _
 simp
theorem nums_cells {w : World} {a : Addr} {l : List UInt8} (h : Bytes w (some a) l) : ∀ i, i < l.length → w.cell? (a.add i) = some (.int .u8 ((l.map fun b : UInt8 => (b.toNat : Int)).getD i 0)) := by
 intro i hi
 have e : (byteVals l)[i]? = some (.int .u8 ((l.map fun b : UInt8 => (b.toNat : Int)).getD i 0)) := by simp [byteVals, hi]
 exact At.cells h i _ e
theorem indexByte_any {w : World} {A : Option Addr} {bs : List UInt8} {n cp : Nat} (hn : bs.length = n) (h : Bytes w A bs) (hA : A = none → cp = 0) (hc : n ≤ cp) (c : UInt8) :
    Calls Tryz.prog 49 #[.slice A n cp, .int .u8 (c.toNat : Int)] w fun e w' => e = .returned (.int .i64 (Lib.indexByte bs c)) ∧ w = w' := by
 cases A with
 | none =>
  obtain rfl : cp = 0 := hA rfl
  obtain rfl : n = 0 := by omega
  obtain rfl : bs = [] := List.eq_nil_of_length_eq_zero hn
  exact (Tryz.bytes_IndexByte_nil (c.toNat : Int) w).mono fun e w' h => ⟨h.1, h.2.symm⟩
 | some a =>
  have hx := Tryz.bytes_IndexByte_at a n cp (bs.map fun b : UInt8 => (b.toNat : Int)) (c.toNat : Int) w (by simpa using hn) (by subst hn; exact nums_cells h)
  rw [nums_of] at hx
  have e : ((c.toNat : Int).toNat).toUInt8 = c := by simp
  rw [e] at hx
  exact hx.mono fun e w' h => ⟨h.1, h.2.symm⟩
set_option maxRecDepth 100000 in
set_option maxHeartbeats 1000000 in
theorem first_any {w : World} {g : Nat} {c : UInt8} (h0 : w.cell? ⟨g, 0, none⟩ = some (.int .i64 0)) (h1 : w.cell? ⟨g, 1, none⟩ = some (.int .u8 (c.toNat : Int))) {A : Option Addr} {bs : List UInt8} {n cp : Nat} (hn : bs.length = n) (h : Bytes w A bs) (hA : A = none → cp = 0) (hc : n ≤ cp) (hm : n ≤ 1000000000) (ended : Bool) (to nx : Nat) (ok : Bool) (he : fstM c bs ended = (to, nx, ok)) :
    Calls Tryz.prog 32 #[.pointer (some ⟨g, 0, none⟩), .slice A n cp, .bool ended] w fun e w' => e = .returned (.tuple #[.int .i64 0, .int .i64 (to : Int), .int .i64 (nx : Int), .bool ok]) ∧ w = w' := by
 have HIX := Lib.hid (indexByte_any hn h hA hc c)
 clear h hA
 by_cases hm2 : c ∈ bs
 ·obtain ⟨a, b, rfl, h2⟩ := cut1 c bs hm2
  rw [fst_hit c a b h2] at he
  injection he with e1 e2
  injection e2 with e2 e3
  subst e1 e2 e3
  have hi := indexByte_hit c a b h2
  have hl : a.length < n := by rw [← hn]; simp
  rw [hi] at HIX
  clear hm2 hn hi
  go_enter Tryz.func32, Tryz.ntmps32
  go_wp2_with fail
  go_at_call 49
  refine HIX.out.mono ?_
  rintro e w' ⟨rfl, rfl⟩
  have t0 : decide ((0 : Int) ≤ (a.length : Int)) = true := decide_eq_true (by omega)
  go_wp2_with fail
  (try simp only [Exit.inBlock, Exit.then])
  refine bodyPost_ret (results_tmp4 rfl _ _ _) rfl ?_
  exact ⟨rfl, rfl⟩
 ·rw [fst_miss c bs hm2] at he
  rw [indexByte_miss c bs hm2] at HIX
  cases ended with
  | false =>
   simp only [Bool.false_eq_true, false_and, if_false] at he
   injection he with e1 e2
   injection e2 with e2 e3
   subst e1 e2 e3
   clear hm2
   go_enter Tryz.func32, Tryz.ntmps32
   go_wp2_with fail
   go_at_call 49
   refine HIX.out.mono ?_
   rintro e w' ⟨rfl, rfl⟩
   go_wp2_with fail
   (try simp only [Exit.inBlock, Exit.then])
   refine bodyPost_ret (results_tmp4 rfl _ _ _) rfl ?_
   exact ⟨rfl, rfl⟩
  | true =>
   by_cases h0b : n = 0
   ·subst h0b
    have hb0 : bs = [] := List.eq_nil_of_length_eq_zero (by omega)
    rw [if_neg (by rw [hb0]; simp)] at he
    injection he with e1 e2
    injection e2 with e2 e3
    subst e1 e2 e3
    clear hm2 hb0
    go_enter Tryz.func32, Tryz.ntmps32
    go_wp2_with fail
    go_at_call 49
    refine HIX.out.mono ?_
    rintro e w' ⟨rfl, rfl⟩
    go_wp2_with fail
    (try simp only [Exit.inBlock, Exit.then])
    refine bodyPost_ret (results_tmp4 rfl _ _ _) rfl ?_
    exact ⟨rfl, rfl⟩
   ·rw [if_pos ⟨rfl, by rintro rfl; simp at hn; omega⟩, hn] at he
    injection he with e1 e2
    injection e2 with e2 e3
    subst e1 e2 e3
    have t0 : decide ((0 : Int) < (n : Int)) = true := decide_eq_true (by omega)
    clear hm2
    go_enter Tryz.func32, Tryz.ntmps32
    go_wp2_with fail
    go_at_call 49
    refine HIX.out.mono ?_
    rintro e w' ⟨rfl, rfl⟩
    go_wp2_with fail
    (try simp only [Exit.inBlock, Exit.then])
    refine bodyPost_ret (results_tmp4 rfl _ _ _) rfl ?_
    exact ⟨rfl, rfl⟩
set_option maxRecDepth 100000 in
set_option maxHeartbeats 1000000 in
theorem read_one {w : World} (c : UInt8) (h2 : c ≠ 92) : Calls Tryz.prog 31 #[.string ⟨#[c]⟩] w fun e w' => e = .returned (.tuple #[.agg #[.int .i64 0, .int .u8 (c.toNat : Int), .pointer none], .nilIface]) ∧ Fr [] w w' := by
 have t2 : ([c] == ([] : List UInt8)) = false := by simp
 have h3 : c.toNat ≠ 92 := fun e => h2 (UInt8.toNat_inj.1 e)
 have t3 : ((c.toNat : Int) != 92) = true := by simp; omega
 have i0 : ∀ W, (Instr.index 9 (.string ⟨#[c]⟩) (.int .i64 0)).run Tryz.prog W = .ok (.int .u8 (c.toNat : Int)) W := fun W => by kernel_rfl
 clear h2 h3
 go_enter Tryz.func31, Tryz.ntmps31
 go_wp2_with fail
 have hb := Bk.new w 62 #[.int .i64 0, .int .u8 (c.toNat : Int), .pointer none]
 have r0 := hb.cell_ (i := 0) rfl; have r1 := hb.cell_ (i := 1) rfl; have r2 := hb.cell_ (i := 2) rfl
 refine bodyPost_ret (v := .tuple #[.agg #[.int .i64 0, .int .u8 (c.toNat : Int), .pointer none], .nilIface]) ?_ rfl ⟨rfl, (Fr.refl _ _).alloc _⟩
 rw [results_cell_tmp rfl]
 clear hb
 generalize w.alloc (.cells #[.int .i64 0, .int .u8 (c.toNat : Int), .pointer none] 62) = W at *
 go_simp
end Go.Proofs.YtfbmogccmlikaaaGreatDoor.K
