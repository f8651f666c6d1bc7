/-
  ShelfB, Wd2, Wd3, Wd4: several small texts in one. No conditions.
-/
import Derived.Test.YteofhjegaaoglaaShelf
import Derived.Shelf.Strings.Search3
import Derived.Shelf.Strings.Shaped
import Derived.Test.YteofhjegaaoglaaWd1
import Derived.Test.YteofhjegaaoglaaGe
import Derived.Lib.IndexMore
import Derived.LoopTactic
import Derived.Deep.Cut
import Derived.Test.YteofhjegaaoglaaLy6
import Derived.Lib.AppendStr
namespace Go.Proofs
open Go.Shelf
def Try.lays143_ren : Go.Shelf.Ren := ⟨fun | 143 => 18 | 219 => 26 | 217 => 36 | 225 => 37 | 224 => 38 | 267 => 39 | 266 => 48 | 314 => 49 | n => n, fun | 9 => 9 | 3 => 3 | 4 => 4 | 5 => 5 | 46 => 95 | 146 => 106 | 51 => 105 | n => n, fun | 1 => 0 | n => n⟩
theorem Try.lays143 : Go.Proofs.Lays.n143 Try.prog Try.lays143_ren := {
  mixed := by kernel_rfl
  f143 := Try.func18.trans (congrArg some (by kernel_rfl))
  f217 := Try.func36.trans (congrArg some (by kernel_rfl))
  f219 := Try.func26.trans (congrArg some (by kernel_rfl))
  f224 := Try.func38.trans (congrArg some (by kernel_rfl))
  f225 := Try.func37.trans (congrArg some (by kernel_rfl))
  f266 := Try.func48.trans (congrArg some (by kernel_rfl))
  f267 := Try.func39.trans (congrArg some (by kernel_rfl))
  f314 := Try.func49.trans (congrArg some (by kernel_rfl))
  t3 := Try.underlying3
  a3 := Try.isAgg3
  z3 := Try.sizeOf3
  v3 := Try.zeroValue3
  t4 := Try.underlying4
  a4 := Try.isAgg4
  z4 := Try.sizeOf4
  v4 := Try.zeroValue4
  t5 := Try.underlying5
  a5 := Try.isAgg5
  z5 := Try.sizeOf5
  v5 := Try.zeroValue5
  t9 := Try.underlying9
  a9 := Try.isAgg9
  z9 := Try.sizeOf9
  v9 := Try.zeroValue9
  t46 := Try.underlying95
  a46 := Try.isAgg95
  z46 := Try.sizeOf95
  v46 := Try.zeroValue95
  t51 := Try.underlying105
  a51 := Try.isAgg105
  z51 := Try.sizeOf105
  v51 := Try.zeroValue105
  t146 := Try.underlying106
  a146 := Try.isAgg106
  z146 := Try.sizeOf106
  v146 := Try.zeroValue106
  g1 := by kernel_rfl }
open Go.RowKit Go.Lib in
theorem Try.strings_Index_one (s : ByteArray) (c : UInt8) (w : World) :
    Calls Try.prog 18 #[.string s, .string ⟨#[c]⟩] w fun e w' => e = .returned (.int .i64 (Lib.indexByte s.data.toList c)) ∧ w' = w := Any.strings_Index_one Try.lays143 s c w
open Go.RowKit Go.Lib in
theorem Try.strings_Index (s sub : ByteArray) (m : Int) (w : World) (hs : s.size < 4294967281) (hm : w.cell? ⟨0, 0, none⟩ = some (.int .i64 m)) :
    Calls Try.prog 18 #[.string s, .string sub] w fun e w' => e = .returned (.int .i64 (Lib.index s.data.toList sub.data.toList)) ∧ w' = w := Any.strings_Index Try.lays143 s sub m w hs hm
def Try.laysM219_ren : Go.Shelf.Ren := ⟨fun | 219 => 26 | 217 => 36 | 225 => 37 | 224 => 38 | 267 => 39 | 266 => 48 | 314 => 49 | n => n, fun | 9 => 9 | 3 => 3 | 4 => 4 | 5 => 5 | 46 => 95 | 146 => 106 | 51 => 105 | n => n, fun | 1 => 0 | n => n⟩
theorem Try.laysM219 : Go.Proofs.LaysM.n219 Try.prog Try.laysM219_ren := {
  mixed := by kernel_rfl
  f217 := Try.func36.trans (congrArg some (by kernel_rfl))
  f219 := Try.func26.trans (congrArg some (by kernel_rfl))
  f224 := Try.func38.trans (congrArg some (by kernel_rfl))
  f225 := Try.func37.trans (congrArg some (by kernel_rfl))
  f266 := Try.func48.trans (congrArg some (by kernel_rfl))
  f267 := Try.func39.trans (congrArg some (by kernel_rfl))
  f314 := Try.func49.trans (congrArg some (by kernel_rfl))
  t3 := Try.underlying3
  a3 := Try.isAgg3
  z3 := Try.sizeOf3
  v3 := Try.zeroValue3
  t4 := Try.underlying4
  a4 := Try.isAgg4
  z4 := Try.sizeOf4
  v4 := Try.zeroValue4
  t5 := Try.underlying5
  a5 := Try.isAgg5
  z5 := Try.sizeOf5
  v5 := Try.zeroValue5
  t9 := Try.underlying9
  a9 := Try.isAgg9
  z9 := Try.sizeOf9
  v9 := Try.zeroValue9
  t46 := Try.underlying95
  a46 := Try.isAgg95
  z46 := Try.sizeOf95
  v46 := Try.zeroValue95
  t51 := Try.underlying105
  a51 := Try.isAgg105
  z51 := Try.sizeOf105
  v51 := Try.zeroValue105
  t146 := Try.underlying106
  a146 := Try.isAgg106
  z146 := Try.sizeOf106
  v146 := Try.zeroValue106
  g1 := by kernel_rfl
  i3 := by kernel_rfl
  i4 := by kernel_rfl
  i5 := by kernel_rfl
  i9 := by kernel_rfl
  i46 := by kernel_rfl
  i51 := by kernel_rfl
  i146 := by kernel_rfl
  m1 := by kernel_rfl
  s1_3 := fun w h => Go.Proofs.cell_of_shapedOpen_int (zero := #[.int .i64 0]) (t := 3) h (of_decide_eq_true (by kernel_rfl)) (by kernel_rfl) rfl (by kernel_rfl) (by kernel_rfl) Try.underlying3 }
open Go.RowKit Go.Lib in
theorem Try.stringslite_Index_shaped (s sub : ByteArray) (w : World) (h : w.ShapedOpen Try.prog) (hs : s.size < 4294967281) :
    Calls Try.prog 26 #[.string s, .string sub] w fun e w' => e = .returned (.int .i64 (Lib.index s.data.toList sub.data.toList)) ∧ w' = w := Any.stringslite_Index_shaped Try.laysM219 s sub w h hs
def Try.laysM143_ren : Go.Shelf.Ren := ⟨fun | 143 => 18 | 219 => 26 | 217 => 36 | 225 => 37 | 224 => 38 | 267 => 39 | 266 => 48 | 314 => 49 | n => n, fun | 9 => 9 | 3 => 3 | 4 => 4 | 5 => 5 | 46 => 95 | 146 => 106 | 51 => 105 | n => n, fun | 1 => 0 | n => n⟩
theorem Try.laysM143 : Go.Proofs.LaysM.n143 Try.prog Try.laysM143_ren := {
  mixed := by kernel_rfl
  f143 := Try.func18.trans (congrArg some (by kernel_rfl))
  f217 := Try.func36.trans (congrArg some (by kernel_rfl))
  f219 := Try.func26.trans (congrArg some (by kernel_rfl))
  f224 := Try.func38.trans (congrArg some (by kernel_rfl))
  f225 := Try.func37.trans (congrArg some (by kernel_rfl))
  f266 := Try.func48.trans (congrArg some (by kernel_rfl))
  f267 := Try.func39.trans (congrArg some (by kernel_rfl))
  f314 := Try.func49.trans (congrArg some (by kernel_rfl))
  t3 := Try.underlying3
  a3 := Try.isAgg3
  z3 := Try.sizeOf3
  v3 := Try.zeroValue3
  t4 := Try.underlying4
  a4 := Try.isAgg4
  z4 := Try.sizeOf4
  v4 := Try.zeroValue4
  t5 := Try.underlying5
  a5 := Try.isAgg5
  z5 := Try.sizeOf5
  v5 := Try.zeroValue5
  t9 := Try.underlying9
  a9 := Try.isAgg9
  z9 := Try.sizeOf9
  v9 := Try.zeroValue9
  t46 := Try.underlying95
  a46 := Try.isAgg95
  z46 := Try.sizeOf95
  v46 := Try.zeroValue95
  t51 := Try.underlying105
  a51 := Try.isAgg105
  z51 := Try.sizeOf105
  v51 := Try.zeroValue105
  t146 := Try.underlying106
  a146 := Try.isAgg106
  z146 := Try.sizeOf106
  v146 := Try.zeroValue106
  g1 := by kernel_rfl
  i3 := by kernel_rfl
  i4 := by kernel_rfl
  i5 := by kernel_rfl
  i9 := by kernel_rfl
  i46 := by kernel_rfl
  i51 := by kernel_rfl
  i146 := by kernel_rfl
  m1 := by kernel_rfl
  s1_3 := fun w h => Go.Proofs.cell_of_shapedOpen_int (zero := #[.int .i64 0]) (t := 3) h (of_decide_eq_true (by kernel_rfl)) (by kernel_rfl) rfl (by kernel_rfl) (by kernel_rfl) Try.underlying3 }
open Go.RowKit Go.Lib in
theorem Try.strings_Index_shaped (s sub : ByteArray) (w : World) (h : w.ShapedOpen Try.prog) (hs : s.size < 4294967281) :
    Calls Try.prog 18 #[.string s, .string sub] w fun e w' => e = .returned (.int .i64 (Lib.index s.data.toList sub.data.toList)) ∧ w' = w := Any.strings_Index_shaped Try.laysM143 s sub w h hs
end Go.Proofs
namespace Go.Proofs.Yteofhjegaaoglaa
open Go.RowKit
set_option linter.unusedVariables false
set_option linter.unusedSimpArgs false

theorem widx_any (w : World) (s t : List UInt8) (hs : s.length ≤ 1000000000) (hg : GlobOk w) :
    Calls Try.prog 8 #[.string ⟨s.toArray⟩, .string ⟨t.toArray⟩] w fun e w' => e = .returned (.int .i64 (Lib.index s t + 1)) ∧ w' = w := by
  obtain ⟨m, hm⟩ := hg
  have HC := Lib.hid (Try.strings_Index ⟨s.toArray⟩ ⟨t.toArray⟩ m w (by simp [ByteArray.size]; omega) hm)
  obtain ⟨i, hi⟩ : ∃ i, Lib.index s t = i := ⟨_, rfl⟩
  have hb : -1 ≤ i ∧ i ≤ 1000000000 := by
    rcases Lib.index_spec s t with ⟨h1, -⟩ | ⟨k, h1, h2, -, -⟩ <;> omega
  have e0 : Lib.index (⟨s.toArray⟩ : ByteArray).data.toList (⟨t.toArray⟩ : ByteArray).data.toList = i := hi
  rw [hi]
  rw [e0] at HC
  clear hi e0 hm
  go_enter Try.func8, Try.ntmps8
  go_wp2_with (go_at_call 18; refine HC.out.mono ?_; rintro e w' ⟨rfl, rfl⟩)
  go_ret
  exact ⟨rfl, rfl⟩

def Bz (w : World) (g : Nat) (t : TypeId) (cs : Array Value) : Prop := ∃ r : Nat × Nat, w.heap[g]? = some (.cells cs t r) ∧ ∀ i, i < cs.size → ¬ (r.1 ≤ i ∧ i < r.2)
theorem Bz.lt {w : World} {g : Nat} {t : TypeId} {cs : Array Value} (h : Bz w g t cs) : g < w.heap.size := by
  obtain ⟨r, h, -⟩ := h
  rcases Nat.lt_or_ge g w.heap.size with hlt | hge
  · exact hlt
  · rw [Array.getElem?_eq_none hge] at h; cases h
theorem Bz.cell {w : World} {g : Nat} {t : TypeId} {cs : Array Value} (h : Bz w g t cs) (i : Nat) : w.cell? ⟨g, i, none⟩ = cs[i]? := by
  obtain ⟨r, h, -⟩ := h
  exact cell_of_row w g i cs t r h
theorem Bz.frozen {w : World} {g : Nat} {t : TypeId} {cs : Array Value} (h : Bz w g t cs) (i : Nat) (hi : i < cs.size) : w.frozen? ⟨g, i, none⟩ = false := by
  obtain ⟨r, h, hr⟩ := h
  have := hr i hi
  simp only [World.frozen?, h]
  rw [← Bool.decide_and, decide_eq_false this]
theorem Bz.put {w : World} {g : Nat} {t : TypeId} {cs : Array Value} (h : Bz w g t cs) (i : Nat) (u : Value) : Bz (w.setCell ⟨g, i, none⟩ u) g t (cs.setIfInBounds i u) := by
  obtain ⟨r, h, hr⟩ := h
  refine ⟨r, ?_, by simpa using hr⟩
  unfold World.setCell
  simp only [Array.getElem?_modify, if_pos, h, Option.map_some]
  rfl
theorem Bz.at_ {w : World} {g : Nat} {t : TypeId} {cs : Array Value} (h : Bz w g t cs) {n : Nat} {xs : List Value} (hx : cs.toList.take n = xs) : At w (some ⟨g, 0, none⟩) xs := by
  refine .inr ⟨⟨g, 0, none⟩, rfl, h.lt, fun j u hu => ?_⟩
  have e : (⟨g, 0, none⟩ : Addr).add j = ⟨g, j, none⟩ := by simp [Addr.add]; intro h; exact h.symm
  rw [e, h.cell, ← Array.getElem?_toList]
  rw [← hx, List.getElem?_take] at hu
  split at hu
  · exact hu
  · cases hu
section
variable {P : Program}
theorem wpList_bytesZ {w : World} {ops : Array Oper} {rest : List Oper} {o : Oper} {a : Act} {Q : Exit → Act → World → Prop} (hgd : Region.wanted o (yielded ops a.tmps) = true) (src dst : TypeId) (x : Operand)
    (ho : o.op = .convert src dst x) (e : TypeId) (hs : P.underlying src = some .string) (hd : P.underlying dst = some (.slice e)) (he : P.underlying e = some (.int .u8))
    (s : List UInt8) (hxv : a.eval x = .string ⟨s.toArray⟩) (hsz : s.length ≤ maxLen)
    (hK : ∀ k c' w', s.length + k = c' → c' ≤ maxLen → Bz w' w.heap.size e (byteVals s ++ List.replicate k (Value.int .u8 0)).toArray → Fr [] w w' → w'.heap.size = w.heap.size + 1 → wpList P ops Q rest (a.put o.dst (.slice (some ⟨w.heap.size, 0, none⟩) s.length c')) w') : wpList P ops Q (o :: rest) a w := by
  refine wpList_wanted hgd fun K hKK => ?_
  have hsl : (⟨s.toArray⟩ : ByteArray).size = s.length := by simp [ByteArray.size]
  have hge := grownCap_ge w s.length 0 e
  have hle := grownCap_le_maxLen w s.length 0 e hsz
  obtain ⟨cp, hcp⟩ : ∃ cp, grownCap w s.length 0 e = cp := ⟨_, rfl⟩
  rw [hcp] at hge hle
  obtain ⟨cs, hcs⟩ : ∃ cs : Array Value, cs = (byteVals s ++ List.replicate (cp - s.length) (Value.int .u8 0)).toArray := ⟨_, rfl⟩
  have hlen : cs.size = cp := by rw [hcs]; simp [byteVals_length]; omega
  have hrun : (convert src dst (.string ⟨s.toArray⟩)).run P w = .ok (.slice (some ⟨w.heap.size, 0, none⟩) s.length cp) ((w.drew.alloc (.cells cs e)).freeze ⟨w.heap.size, cs.size, none⟩ 1) := by
    have e1 : (s.map (fun b => Value.int .u8 b.toNat)).toArray ++ Array.replicate (cp - s.length) (Value.int .u8 0) = cs := by
      rw [hcs]; apply Array.ext'; simp [byteVals]
    have hsh : (w.drew.alloc (.cells cs e)).shape? w.heap.size = some (e, cs.size) := by
      have h := heap_alloc_new w.drew (.cells cs e)
      have h' : (w.drew.alloc (.cells cs e)).heap[w.heap.size]? = some (.cells cs e) := h
      simp only [World.shape?, h']
    simp [convert, run_underlying hs, run_underlying hd, run_underlying he, Conv.stringToBytes, Question.forced, newRow, markStringish]
    unfold grownCap at hcp
    rw [hsl, hcp, e1, hsh]
    simp
  unfold Oper.wp execOp
  simp only [ho, hxv, hrun, Sem.run_bind, Result.andThen_ok, Sem.run_pure]
  refine hKK _ _ (hK (cp - s.length) cp _ (by omega) hle ?_ ?_ ?_)
  · rw [← hcs]
    have h : (w.drew.alloc (.cells cs e)).heap[w.heap.size]? = some (.cells cs e (0, 0)) := heap_alloc_new w.drew (.cells cs e)
    refine ⟨(cs.size, cs.size + 1), ?_, fun i hi => by omega⟩
    unfold World.freeze
    rw [if_neg (by omega)]
    simp only [Array.getElem?_modify, if_pos, h, Option.map_some]
    rfl
  · exact ((Fr.refl [] w).drew.alloc _).trans' (Fr.freeze _ ⟨w.heap.size, cs.size, none⟩ 1) (by simp)
  · unfold World.freeze; rw [if_neg (by omega)]; simp
end
def turnB (f t : Nat) (b : Int) (c : UInt8) : UInt8 := if f ≤ c.toNat ∧ c.toNat ≤ t then UInt8.ofNat ((c.toNat : Int) + b).toNat else c
def upM (s : List UInt8) : List UInt8 := s.map (turnB 97 122 (-32))
def loM (s : List UInt8) : List UInt8 := s.map (turnB 65 90 32)
theorem turn_all (p : UInt8 → Bool) (h : (List.range 256).all (fun n => p (UInt8.ofNat n)) = true) (c : UInt8) : p c = true := by
  have h1 := List.all_eq_true.1 h c.toNat (by simp; exact UInt8.toNat_lt _)
  simpa using h1
theorem up_up1 (c : UInt8) : turnB 97 122 (-32) (turnB 97 122 (-32) c) = turnB 97 122 (-32) c := by
  have := turn_all (fun c => decide (turnB 97 122 (-32) (turnB 97 122 (-32) c) = turnB 97 122 (-32) c)) (by decide +kernel) c
  simpa using this
theorem lo_up1 (c : UInt8) : turnB 65 90 32 (turnB 97 122 (-32) c) = turnB 65 90 32 c := by
  have := turn_all (fun c => decide (turnB 65 90 32 (turnB 97 122 (-32) c) = turnB 65 90 32 c)) (by decide +kernel) c
  simpa using this
theorem up_lo1 (c : UInt8) : turnB 97 122 (-32) (turnB 65 90 32 c) = turnB 97 122 (-32) c := by
  have := turn_all (fun c => decide (turnB 97 122 (-32) (turnB 65 90 32 c) = turnB 97 122 (-32) c)) (by decide +kernel) c
  simpa using this
theorem up_up (s : List UInt8) : upM (upM s) = upM s := by unfold upM; rw [List.map_map]; exact List.map_congr_left (fun c _ => up_up1 c)
theorem lo_up (s : List UInt8) : loM (upM s) = loM s := by unfold upM loM; rw [List.map_map]; exact List.map_congr_left (fun c _ => lo_up1 c)
theorem up_lo (s : List UInt8) : upM (loM s) = upM s := by unfold upM loM; rw [List.map_map]; exact List.map_congr_left (fun c _ => up_lo1 c)
theorem up_len (s : List UInt8) : (upM s).length = s.length := by simp [upM]
end Go.Proofs.Yteofhjegaaoglaa
namespace Go.Proofs.Yteofhjegaaoglaa
open Go.RowKit
set_option linter.unusedVariables false
set_option linter.unusedSimpArgs false

def turnAt (f t : Nat) (b : Int) (s : List UInt8) (i : Nat) : List UInt8 := (s.take i).map (turnB f t b) ++ s.drop i
theorem turnAt_len (f t : Nat) (b : Int) (s : List UInt8) (i : Nat) : (turnAt f t b s i).length = s.length := by simp [turnAt]; omega
theorem turnAt_get {f t : Nat} {b : Int} {s : List UInt8} {i : Nat} {c : UInt8} (h : s[i]? = some c) : (turnAt f t b s i)[i]? = some c := by
  obtain ⟨hi, hc⟩ := List.getElem?_eq_some_iff.1 h
  unfold turnAt
  rw [List.getElem?_append_right (by simp; omega)]
  simp only [List.length_map, List.length_take, List.getElem?_drop]
  rw [show i + (i - min i s.length) = i by omega, h]
theorem turnAt_step {f t : Nat} {b : Int} {s : List UInt8} {i : Nat} {c : UInt8} (h : s[i]? = some c) : (turnAt f t b s i).set i (turnB f t b c) = turnAt f t b s (i + 1) := by
  obtain ⟨hi, hc⟩ := List.getElem?_eq_some_iff.1 h
  have hl : ((s.take i).map (turnB f t b)).length = i := by simp; omega
  unfold turnAt
  rw [List.set_append_right _ _ (by omega), hl, Nat.sub_self, List.drop_eq_getElem_cons hi, List.set_cons_zero, List.take_add_one, h]
  simp
theorem turnAt_all (f t : Nat) (b : Int) (s : List UInt8) : turnAt f t b s s.length = s.map (turnB f t b) := by simp [turnAt]
def turnC (f t : Nat) (b : Int) (s : List UInt8) (k i : Nat) : Array Value := (byteVals (turnAt f t b s i) ++ List.replicate k (Value.int .u8 0)).toArray
theorem turnC_size (f t : Nat) (b : Int) (s : List UInt8) (k i : Nat) : (turnC f t b s k i).size = s.length + k := by simp [turnC, byteVals_length, turnAt_len]
theorem turnC_get {f t : Nat} {b : Int} {s : List UInt8} {k i : Nat} {c : UInt8} (h : s[i]? = some c) : (turnC f t b s k i)[i]? = some (.int .u8 (c.toNat : Int)) := by
  obtain ⟨hi, hc⟩ := List.getElem?_eq_some_iff.1 h
  unfold turnC
  rw [List.getElem?_toArray, List.getElem?_append_left (by simp [byteVals_length, turnAt_len]; exact hi)]
  simp [byteVals, turnAt_get h]
theorem turnC_step {f t : Nat} {b : Int} {s : List UInt8} {k i : Nat} {c : UInt8} (h : s[i]? = some c) : (turnC f t b s k i).setIfInBounds i (.int .u8 ((turnB f t b c).toNat : Int)) = turnC f t b s k (i + 1) := by
  obtain ⟨hi, hc⟩ := List.getElem?_eq_some_iff.1 h
  unfold turnC
  rw [List.setIfInBounds_toArray, List.set_append_left _ _ (by simp [byteVals_length, turnAt_len]; exact hi), ← turnAt_step h]
  simp [byteVals]
theorem turnC_same {f t : Nat} {b : Int} {s : List UInt8} {k i : Nat} {c : UInt8} (h : s[i]? = some c) (hc : turnB f t b c = c) : turnC f t b s k (i + 1) = turnC f t b s k i := by
  rw [← turnC_step h, hc]
  apply Array.ext_getElem?
  intro j
  rw [Array.getElem?_setIfInBounds]
  split
  · rename_i hj
    subst hj
    rw [turnC_get h]
    obtain ⟨hi, -⟩ := List.getElem?_eq_some_iff.1 h
    rw [if_pos (by rw [turnC_size]; omega)]
  · rfl
theorem turnC_all (f t : Nat) (b : Int) (s : List UInt8) (k : Nat) : (turnC f t b s k s.length).toList.take s.length = byteVals (s.map (turnB f t b)) := by
  unfold turnC
  rw [turnAt_all]
  have : (byteVals (s.map (turnB f t b))).length = s.length := by simp [byteVals_length]
  simp only []
  rw [← this, List.take_left]
def TurnRel (w : World) (f t : Nat) (b : Int) (s : List UInt8) (k : Nat) (v16 : Value) (wr : World) : Prop := ∃ i : Nat, v16 = .int .i64 (i : Int) ∧ i ≤ s.length ∧ Bz wr w.heap.size 5 (turnC f t b s k i) ∧ Fr [] w wr
set_option maxRecDepth 100000 in
set_option maxHeartbeats 4000000 in
theorem turned_any (w : World) (s : List UInt8) (f t : Nat) (b : Int) (hf : f < 256) (ht : t < 256) (hb : -100 ≤ b ∧ b ≤ 100) (hin : ∀ c : Nat, f ≤ c → c ≤ t → 0 ≤ (c : Int) + b ∧ (c : Int) + b < 256) (hs : s.length ≤ 1000000) :
    Calls Try.prog 20 #[.string ⟨s.toArray⟩, .int .u8 (f : Int), .int .u8 (t : Int), .int .i64 b] w fun e w' => e = .returned (.string ⟨(s.map (turnB f t b)).toArray⟩) ∧ Fr [] w w' := by
  obtain ⟨n, hn⟩ : ∃ n, n = s.length := ⟨_, rfl⟩
  obtain ⟨R, hR⟩ : ∃ R, R = s.map (turnB f t b) := ⟨_, rfl⟩
  rw [← hR]
  have HN := Lib.hid hn; have HR := Lib.hid hR; have HIN := Lib.hid hin
  have hn1 : n ≤ 1000000 := by omega
  clear hn hR hin hs
  go_enter Try.func20, Try.ntmps20
  go_upto_region 2 with (refine wpList_bytesZ rfl 9 28 (.tmp 12) rfl 5 Try.underlying9 Try.underlying28 Try.underlying5 s (by first | rfl | (simp [Act.eval]; done)) (by unfold maxLen; have := HN.out; omega) ?_; intro k c' w1 hkc hcm hbz hf1 hs1; have HBZ := Lib.hid hbz; have HF1 := Lib.hid hf1; rw [← HN.out] at hkc; clear hbz hf1 hs1)
  rw [← HN.out]
  go_upto_region 3 with fail
  go_loopw [10, 11, 16] (fun v10 v11 v16 wr => TurnRel w f t b s k v16 wr) (fun _ _ v16 _ => n + 1 - (intOf v16).toNat)
  case atStart => exact ⟨0, rfl, Nat.zero_le _, by have h := HBZ.out; simpa [turnC, turnAt] using h, HF1.out⟩
  case round =>
    obtain ⟨i, rfl, hi, hbz, hfr⟩ := hrel
    have HB := Lib.hid hbz; have HFR := Lib.hid hfr
    have hi' : i ≤ n := by have := HN.out; omega
    clear hbz hfr hi
    rcases Nat.lt_or_ge i n with hin | hin
    · have hinI : (i : Int) < (n : Int) := by omega
      obtain ⟨c, hc⟩ : ∃ c, s[i]? = some c := ⟨_, List.getElem?_eq_getElem (by have := HN.out; omega)⟩
      have hcell : wr.cell? ⟨w.heap.size, i, none⟩ = some (.int .u8 (c.toNat : Int)) := (HB.out.cell i).trans (turnC_get hc)
      have hfz : wr.frozen? ⟨w.heap.size, i, none⟩ = false := HB.out.frozen i (by rw [turnC_size]; have := HN.out; omega)
      have HC := Lib.hid hc
      obtain ⟨cn, hcn⟩ : ∃ cn : Nat, cn = c.toNat := ⟨_, rfl⟩
      have hcn1 : cn < 256 := by rw [hcn]; exact c.toNat_lt
      rw [← hcn] at hcell
      have HCN := Lib.hid hcn
      clear hc hcn
      by_cases h1 : f ≤ cn
      · by_cases h2 : cn ≤ t
        · obtain ⟨z1, z2⟩ := HIN.out cn h1 h2
          obtain ⟨d, hd⟩ : ∃ d : Nat, (cn : Int) + b = (d : Int) := ⟨((cn : Int) + b).toNat, by omega⟩
          have hdd : turnB f t b c = UInt8.ofNat d := by
            unfold turnB
            rw [← HCN.out, if_pos ⟨h1, h2⟩, hd]; simp
          have hdn : (turnB f t b c).toNat = d := by rw [hdd]; simp; omega
          have HDN := Lib.hid hdn
          have h1' : (f : Int) ≤ (cn : Int) := by omega
          have h2' : (cn : Int) ≤ (t : Int) := by omega
          have hd2 : (d : Int) % 256 = (d : Int) := by omega
          have hd3 : ((cn : Int) + b) % 256 = (d : Int) := by omega
          clear hdd hdn
          go_wp2_with fail
          go_roundw
          case rel => exact ⟨i + 1, by go_num, by have := HN.out; omega, by rw [← turnC_step HC.out, HDN.out]; exact HB.out.put i _, HFR.out.setCell (.inr (Nat.le_refl _)) _⟩
          case measure => first | (simp [intOf]; done) | (simp [intOf]; omega)
        · have h1' : (f : Int) ≤ (cn : Int) := by omega
          have h2' : ¬ ((cn : Int) ≤ (t : Int)) := by omega
          have hsm : turnB f t b c = c := by unfold turnB; rw [← HCN.out, if_neg (fun h => h2 h.2)]
          have HSM := Lib.hid hsm
          clear hsm
          go_wp2_with fail
          go_roundw
          case rel => exact ⟨i + 1, by go_num, by have := HN.out; omega, by rw [turnC_same HC.out HSM.out]; exact HB.out, HFR.out⟩
          case measure => first | (simp [intOf]; done) | (simp [intOf]; omega)
      · have h1' : ¬ ((f : Int) ≤ (cn : Int)) := by omega
        have hsm : turnB f t b c = c := by unfold turnB; rw [← HCN.out, if_neg (fun h => h1 h.1)]
        have HSM := Lib.hid hsm
        clear hsm
        go_wp2_with fail
        go_roundw
        case rel => exact ⟨i + 1, by go_num, by have := HN.out; omega, by rw [turnC_same HC.out HSM.out]; exact HB.out, HFR.out⟩
        case measure => first | (simp [intOf]; done) | (simp [intOf]; omega)
    · have hinI : ¬ ((i : Int) < (n : Int)) := by omega
      obtain rfl : i = n := by omega
      have hby : Bytes wr (some ⟨w.heap.size, 0, none⟩) R := by
        have h := HB.out
        rw [HN.out] at h
        have h2 := h.at_ (turnC_all f t b s k)
        rw [← HR.out] at h2
        exact h2
      have hRl : R.length = i := by rw [HR.out, HN.out]; simp
      have HBY := Lib.hid hby; have HRL := Lib.hid hRl
      clear hby hRl
      go_wp2_with (refine wpList_str rfl 28 9 (.tmp 38) rfl 5 Try.underlying28 Try.underlying5 Try.underlying9 (some ⟨w.heap.size, 0, none⟩) i c' (by first | rfl | (simp [Act.eval]; done)) R HBY.out HRL.out ?_)
      go_ret
      exact ⟨rfl, HFR.out⟩
theorem upper_any (w : World) (s : List UInt8) (hs : s.length ≤ 1000000) : Calls Try.prog 12 #[.string ⟨s.toArray⟩] w fun e w' => e = .returned (.string ⟨(upM s).toArray⟩) ∧ Fr [] w w' := by
  have HC := Lib.hid (turned_any w s 97 122 (-32) (by decide) (by decide) (by decide) (fun c h1 h2 => by omega) hs)
  obtain ⟨R, hR⟩ : ∃ R, R = upM s := ⟨_, rfl⟩
  rw [show s.map (turnB 97 122 (-32)) = R from hR.symm] at HC
  rw [← hR]
  clear hR hs
  go_enter Try.func12, Try.ntmps12
  go_wp2_with (go_at_call 20; refine HC.out.mono ?_; rintro e w1 ⟨rfl, hf⟩; have HF := Lib.hid hf; clear hf)
  go_ret
  exact ⟨rfl, HF.out⟩
theorem lower_any (w : World) (s : List UInt8) (hs : s.length ≤ 1000000) : Calls Try.prog 14 #[.string ⟨s.toArray⟩] w fun e w' => e = .returned (.string ⟨(loM s).toArray⟩) ∧ Fr [] w w' := by
  have HC := Lib.hid (turned_any w s 65 90 32 (by decide) (by decide) (by decide) (fun c h1 h2 => by omega) hs)
  obtain ⟨R, hR⟩ : ∃ R, R = loM s := ⟨_, rfl⟩
  rw [show s.map (turnB 65 90 32) = R from hR.symm] at HC
  rw [← hR]
  clear hR hs
  go_enter Try.func14, Try.ntmps14
  go_wp2_with (go_at_call 20; refine HC.out.mono ?_; rintro e w1 ⟨rfl, hf⟩; have HF := Lib.hid hf; clear hf)
  go_ret
  exact ⟨rfl, HF.out⟩
end Go.Proofs.Yteofhjegaaoglaa
namespace Go.Proofs.Yteofhjegaaoglaa
open Go.RowKit
set_option linter.unusedVariables false
set_option linter.unusedSimpArgs false

theorem byteParts : ∃ i, Try.prog.info? 5 = some i ∧ i.zero = some (.int .u8 0) ∧ i.size = 1 ∧ i.bytes = 1 := info_parts (by kernel_rfl)
theorem own_slice {w : World} {base n sz : Nat} {v : Value} {e : TypeId} {xs : List Value} (h : w.ownsRow base e sz v n xs) : ∃ A c, v = .slice A n c := by
  obtain ⟨h1, ⟨h2, h3⟩ | ⟨b', cap', cur, h2, -⟩⟩ := h
  · exact ⟨none, 0, by rw [h2, h3]⟩
  · exact ⟨_, _, h2⟩
section
variable {P : Program}
theorem append_str_own {w : World} (t u ty e : TypeId) (i : TypeInfo) (ht : P.underlying t = some (.slice e)) (hu : P.underlying u = some .string) (hi : P.info? e = some i) (hz : i.zero = some (.int .u8 0)) (hsize : i.size = 1) (hby : i.bytes = 1)
    (v : Value) (n : Nat) (xs : List Value) (hown : w.ownsRow 0 e 1 v n xs) (s : List UInt8) (hl : n + s.length ≤ 100000000) :
    ∃ v' w', (Builtin.append_ #[t, u] ty #[v, .string ⟨s.toArray⟩]).run P w = .ok v' w' ∧ w'.ownsRow 0 e 1 v' (n + s.length) (xs ++ byteVals s) ∧ w.grownBy w' v.ownBlock ∧ (∀ b, v'.ownBlock = some b → v.ownBlock = some b ∨ w.heap.size ≤ b) := by
  have hsz : (⟨s.toArray⟩ : ByteArray).size = s.length := by simp [ByteArray.size]
  have hcl : Lib.strCells ⟨s.toArray⟩ = byteVals s := by simp [Lib.strCells, byteVals]
  obtain ⟨v', w', hr, h2, h3, -⟩ := Lib.run_append_own_string (P := P) w 0 t u ty e i ht hu hi hz hsize hby v n xs hown ⟨s.toArray⟩ (by rw [hsz]; unfold maxLen; omega) (by rw [hsz]; omega) (Nat.zero_le _)
  rw [hsz, hcl] at h2
  refine ⟨v', w', hr, h2, h3, ?_⟩
  have hxl : xs.length = n := by simpa using hown.1
  rcases hown.2 with ⟨rfl, rfl⟩ | ⟨g, cap, cur, rfl, hbg, hg, hnc, hcm, hcs, htake⟩
  · obtain ⟨v2, w2, hr2, k2, -, -⟩ := Lib.run_append_own_string (P := P) w w.heap.size t u ty e i ht hu hi hz hsize hby (.slice none 0 0) 0 xs ⟨hown.1, .inl ⟨rfl, rfl⟩⟩ ⟨s.toArray⟩ (by rw [hsz]; unfold maxLen; omega) (by rw [hsz]; omega) (Nat.le_refl _)
    rw [hr] at hr2
    injection hr2 with e1 e2
    subst e1 e2
    exact fun b hb => .inr (own_base k2 b hb).1
  · by_cases hroom : n + s.length ≤ cap
    · have hcs' : cur.size = cap := by simpa using hcs
      have hr2 := Lib.run_append_room_string (P := P) w t u ty e i ht hu hi hsize g n cap cur hg ⟨s.toArray⟩ (by rw [hsz]; exact hroom) (by rw [hsz]; omega)
      rw [hr] at hr2
      injection hr2 with e1 e2
      subst e1
      exact fun b hb => .inl hb
    · have holds : ∀ j u, xs[j]? = some u → w.cell? ((⟨g, 0, none⟩ : Addr).add j) = some u := hown.cells (g := g) rfl
      have hr2 := Lib.run_append_grow_string (P := P) w t u ty e i (.int .u8 0) ht hu hi hz ⟨g, 0, none⟩ n cap xs (by rw [hsize]; simpa using hxl) holds ⟨s.toArray⟩ (by rw [hsz]; omega) (by rw [hsz]; omega) (by rw [hsz, hby]; exact growslice_fits (by omega) (by omega))
      rw [hr] at hr2
      injection hr2 with e1 e2
      subst e1
      exact fun b hb => .inr (by simp [Value.ownBlock] at hb; omega)
theorem wpList_append_strZ {ops : Array Oper} {rest : List Oper} {o : Oper} {a : Act} {w : World} {Q : Exit → Act → World → Prop} (hgd : Region.wanted o (yielded ops a.tmps) = true) (sl x : Operand) (t u : TypeId)
    (ho : o.op = .call { callee := .builtin .append, args := #[sl, x], argTypes := #[t, u] })
    (e : TypeId) (i : TypeInfo) (ht : P.underlying t = some (.slice e)) (hu : P.underlying u = some .string) (hi : P.info? e = some i) (hz : i.zero = some (.int .u8 0)) (hsize : i.size = 1) (hby : i.bytes = 1)
    (v : Value) (n : Nat) (xs : List Value) (hs : a.eval sl = v) (hown : w.ownsRow 0 e 1 v n xs) (s : List UInt8) (hx : a.eval x = .string ⟨s.toArray⟩) (hl : n + s.length ≤ 100000000)
    (h : ∀ v' w', w'.ownsRow 0 e 1 v' (n + s.length) (xs ++ byteVals s) → w.grownBy w' v.ownBlock → (∀ b, v'.ownBlock = some b → v.ownBlock = some b ∨ w.heap.size ≤ b) → wpList P ops Q rest (a.put o.dst v') w') : wpList P ops Q (o :: rest) a w := by
  refine wpList_wanted hgd fun K hK => ?_
  obtain ⟨v', w', hr, h2, h3, h4⟩ := append_str_own (P := P) (w := w) t u o.type e i ht hu hi hz hsize hby v n xs hown s hl
  unfold Oper.wp execOp
  simp only [ho, resolve, invoke, builtin, Sem.run_bind, Sem.run_pure, Result.andThen_ok, List.map_toArray, List.map_cons, List.map_nil, hs, hx, hr]
  exact hK _ _ (h v' w' h2 h3 h4)
end
def BuM (w : World) (g : Nat) (v : Value) (tx : List UInt8) : Prop := Bk w g 61 #[v, .bool false] ∧ w.ownsRow 0 5 1 v tx.length (byteVals tx)
def AddP (w : World) (g : Nat) (v : Value) (w' : World) (v' : Value) : Prop := Fr (g :: v.ownBlock.toList) w w' ∧ (∀ b, v'.ownBlock = some b → v.ownBlock = some b ∨ w.heap.size ≤ b)
theorem AddP.refl (w : World) (g : Nat) (v : Value) : AddP w g v w v := ⟨Fr.refl _ _, fun _ h => .inl h⟩
theorem AddP.trans {w w1 w2 : World} {g : Nat} {v v1 v2 : Value} (h : AddP w g v w1 v1) (k : AddP w1 g v1 w2 v2) : AddP w g v w2 v2 := by
  refine ⟨h.1.trans' k.1 fun b hb => ?_, fun b hb => ?_⟩
  · rcases List.mem_cons.1 hb with rfl | hb
    · exact .inl (by simp)
    · rcases h.2 b (by simpa using hb) with hb | hb
      · exact .inl (by simp [hb])
      · exact .inr hb
  · rcases k.2 b hb with hb | hb
    · exact h.2 b hb
    · exact .inr (Nat.le_trans h.1.size hb)
theorem BuM.ne_ {w : World} {g : Nat} {v : Value} {tx : List UInt8} (h : BuM w g v tx) : v.ownBlock ≠ some g := by
  intro e
  obtain ⟨-, cur, hc⟩ := own_base h.2 g e
  exact h.1.ne_ hc (by decide) rfl
theorem BuM.add {w w4 : World} {g : Nat} {v v4 : Value} {tx s : List UInt8} (h : BuM w g v tx) (h2 : w4.ownsRow 0 5 1 v4 (tx.length + s.length) (byteVals tx ++ byteVals s)) (h3 : w.grownBy w4 v.ownBlock) (h4 : ∀ b, v4.ownBlock = some b → v.ownBlock = some b ∨ w.heap.size ≤ b) :
    BuM (w4.setCell ⟨g, 0, none⟩ v4) g v4 (tx ++ s) ∧ AddP w g v (w4.setCell ⟨g, 0, none⟩ v4) v4 ∧ w4.frozen? ⟨g, 0, none⟩ = false ∧ (∃ u, w4.cell? ⟨g, 0, none⟩ = some u) := by
  have hb4 : Bk w4 g 61 #[v, .bool false] := h.1.grown h3 (fun e => h.ne_ e.symm)
  have hne : v4.ownBlock ≠ some g := by
    intro e
    obtain ⟨-, cur, hc⟩ := own_base h2 g e
    exact hb4.ne_ hc (by decide) rfl
  refine ⟨⟨hb4.put 0 v4, ?_⟩, ⟨?_, h4⟩, hb4.frozen 0, ⟨v, hb4.cell_ (i := 0) rfl⟩⟩
  · rw [List.length_append, byteVals_append]
    exact own_keep h2 fun b cs hb => hb.far (p := ⟨g, 0, none⟩) (hb.ne_ hb4 (by decide)) v4
  · refine Fr.setCell ?_ (.inl (by simp)) v4
    exact (Fr.refl _ _).grown h3 fun b hb => .inl (by simp [hb])
def AddRel (w : World) (g : Nat) (v : Value) (tx s : List UInt8) (n : Nat) (v7 : Value) (wr : World) : Prop := ∃ (i : Nat) (v' : Value), v7 = .int .i64 (i : Int) ∧ i ≤ n ∧ BuM wr g v' (tx ++ (List.replicate i s).flatten) ∧ AddP w g v wr v'
def AddPost (w : World) (g : Nat) (v : Value) (tx : List UInt8) (e : Ending) (w' : World) : Prop := e = .returned (.tuple #[]) ∧ ∃ v', BuM w' g v' tx ∧ AddP w g v w' v'
set_option maxRecDepth 100000 in
set_option maxHeartbeats 4000000 in
theorem add_any {w : World} {g : Nat} {v : Value} {tx : List UInt8} (h : BuM w g v tx) (s : List UInt8) (n : Nat) (hl : tx.length + n * s.length ≤ 65536) :
    Calls Try.prog 25 #[.pointer (some ⟨g, 0, none⟩), .string ⟨s.toArray⟩, .int .i64 (n : Int)] w (AddPost w g v (tx ++ (List.replicate n s).flatten)) := by
  obtain ⟨bi, hbi, hz0, hz1, hz2⟩ := byteParts
  have H := Lib.hid h
  clear h
  go_enter Try.func25, Try.ntmps25
  go_upto_region 1 with fail
  go_loopw [7] (fun v7 wr => AddRel w g v tx s n v7 wr) (fun v7 _ => n + 1 - (intOf v7).toNat)
  case atStart => exact ⟨0, v, rfl, Nat.zero_le _, by simpa using H.out, AddP.refl _ _ _⟩
  case round =>
    obtain ⟨i, v', rfl, hi, hb, ha⟩ := hrel
    rcases Nat.lt_or_ge i n with hin | hin
    · have hinI : (i : Int) < (n : Int) := by omega
      by_cases hs0 : s = []
      · subst hs0
        have e : ∀ k, (List.replicate k ([] : List UInt8)).flatten = [] := by simp
        rw [e, List.append_nil] at hb
        have HB := Lib.hid hb; have HA := Lib.hid ha; have HE := Lib.hid e
        clear hb ha e
        go_wp2_with fail
        (try simp only [Exit.inBlock, Exit.then])
        refine bodyPost_ret (results_none rfl _ _ _) rfl ?_
        exact ⟨rfl, v', by rw [HE.out, List.append_nil]; exact HB.out, HA.out⟩
      have hsl : 0 < s.length := List.length_pos_iff.2 hs0
      have hnn : n ≤ 65536 := by
        have := Nat.mul_le_mul_left n hsl
        omega
      have hemp : s.isEmpty = false := by cases s with | nil => exact absurd rfl hs0 | cons _ _ => rfl
      obtain ⟨ty, hty⟩ : ∃ ty, ty = tx ++ (List.replicate i s).flatten := ⟨_, rfl⟩
      have htl : ty.length + s.length ≤ 65536 := by
        rw [hty, List.length_append, List.length_flatten, List.map_replicate, List.sum_replicate_nat]
        have h1 : (i + 1) * s.length ≤ n * s.length := Nat.mul_le_mul_right _ (by omega)
        rw [Nat.succ_mul] at h1
        omega
      rw [← hty] at hb
      obtain ⟨A, c, rfl⟩ := own_slice hb.2
      have c0 := hb.1.cell_ (i := 0) rfl
      have c1 := hb.1.cell_ (i := 1) rfl
      obtain ⟨m, hm⟩ : ∃ m, m = ty.length := ⟨_, rfl⟩
      obtain ⟨k, hk⟩ : ∃ k, k = s.length := ⟨_, rfl⟩
      rw [← hm] at c0 c1 htl hb ha
      rw [← hk] at htl hsl
      have HB := Lib.hid hb; have HA := Lib.hid ha; have HTY := Lib.hid hty; have HM := Lib.hid hm; have HK := Lib.hid hk
      have hfit : ¬ ((65536 : Int) < (m : Int) + (k : Int)) := by omega
      have hle : (m : Int) + (k : Int) ≤ 65536 := by omega
      have hsz : (⟨s.toArray⟩ : ByteArray).size = k := by rw [hk]; simp [ByteArray.size]
      clear hb ha hty hm hk
      go_upto_region 6 with (at_builtin; refine wpList_append_strZ rfl (.tmp 33) (.tmp 34) 28 9 rfl 5 bi Try.underlying28 Try.underlying9 hbi hz0 hz1 hz2 (.slice A m c) m (byteVals ty) (by first | rfl | (simp [Act.eval]; done)) (by have := HB.out.2; rw [← HM.out] at this; exact this) s (by first | rfl | (simp [Act.eval]; done)) (by have := HK.out; omega) ?_; intro v4 w4 h2 h3 h4; obtain ⟨A4, c4, rfl⟩ := own_slice h2; have HADD := Lib.hid (BuM.add (s := s) HB.out (by rw [← HM.out]; exact h2) h3 h4); obtain ⟨-, -, fz4, u4, cz4⟩ := HADD.out; clear h2 h3 h4)
      go_wp2_with fail
      go_roundw
      case rel => exact ⟨i + 1, _, by go_num, by omega, by have h := HADD.out.1; rw [HTY.out] at h; rw [List.replicate_succ', List.flatten_append]; simpa using h, HA.out.trans HADD.out.2.1⟩
      case measure => first | (simp [intOf]; done) | (simp [intOf]; omega)
    · have hinI : ¬ ((i : Int) < (n : Int)) := by omega
      obtain rfl : i = n := by omega
      have HB := Lib.hid hb; have HA := Lib.hid ha
      clear hb ha
      go_wp2_with fail
      go_end0
      exact ⟨rfl, v', HB.out, HA.out⟩
end Go.Proofs.Yteofhjegaaoglaa
