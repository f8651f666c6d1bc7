/-
 Big, Rf1, Rf2, RfP, RfB, Rf3: several small texts in one. No conditions.
-/
import Derived.Test.YteofhjegaaoglaaGreatBase
import Derived.Deep.MidRow
import Derived.Great.BuildSlice
import Derived.Great.FillDense
import Derived.Test.YteofhjegaaoglaaGreatGc
import Derived.Test.YteofhjegaaoglaaGreatGh
import Derived.Test.YteofhjegaaoglaaGreatErB
import Derived.LoopTactic
import Derived.Deep.Cut
namespace Go.Proofs.YteofhjegaaoglaaGreat
open Go.RowKit
set_option linter.unusedVariables false
set_option linter.unusedSimpArgs false
section
variable {P : Program} {ops : Array Oper} {rest : List Oper} {o : Oper} {a : Act} {w : World} {Q : Exit → Act → World → Prop}
theorem zero_of_ {T : TypeId} {Z : List Value} {n : Nat} (hz : (P.info? T).map (fun i => (i.zero, i.size)) = some (some (.agg Z.toArray), n)) :
    (∀ w, (zeroValue T).run P w = .ok (.agg Z.toArray) w) ∧ (P.info? T).map (·.size) = some n := by
 cases hq : P.info? T with
 | none => simp [hq] at hz
 | some i =>
  simp [hq] at hz; exact ⟨fun w => by simp [zeroValue, typeInfo, hq, hz.1], by simp [hz.2]⟩
theorem wpList_alloc_bk (hgd : o.guard = none) (T : TypeId) (ho : o.op = .alloc T) (Z : List Value) (n : Nat) (hz : (P.info? T).map (fun i => (i.zero, i.size)) = some (some (.agg Z.toArray), n))
    (h : ∀ w', Bk w' w.heap.size T Z.toArray → Fr [] w w' → wpList P ops Q rest (a.put o.dst (.pointer (some ⟨w.heap.size, 0, none⟩))) w') : wpList P ops Q (o :: rest) a w := by
 refine wpList_plain hgd fun K hK => ?_; obtain ⟨h1, -⟩ := zero_of_ hz; have h2 := hK _ _ (h _ (Bk.new w T Z.toArray) ((Fr.refl [] w).alloc _)); unfold Oper.wp execOp; simp only [ho, Instr.alloc, newVar, newRow, h1, Sem.run_bind, Sem.run_pure, Result.andThen_ok]; exact h2
theorem wpList_store_bk (hgd : o.guard = none) (T : TypeId) (x y : Operand) (ho : o.op = .store T x y) (g : Nat) (C : List Value) (hx : a.eval x = .pointer (some ⟨g, 0, none⟩)) (hy : a.eval y = .agg C.toArray)
    (t : TypeId) (old : Array Value) (hg : Bk w g t old) (hi : (P.info? T).map (·.size) = some C.length) (hold : old.size = C.length) (h1 : ∀ v ∈ C, v.oneCell' = true)
    (h : ∀ w', Bk w' g t C.toArray → Fr [g] w w' → wpList P ops Q rest (a.put o.dst undef) w') : wpList P ops Q (o :: rest) a w := by
 refine wpList_store_row hgd T x y ho g C.toArray hx hy t old hg (by simpa using hi) (by simpa using hold) (all_oneCell_toArray h1) (h _ (setRow_heap w g old C.toArray t (0, 0) hg) ?_); refine ⟨rfl, rfl, rfl, by simp, fun k hk hn => ?_⟩; exact setRow_other w g k C.toArray (by simpa using hn)
theorem wpList_store_bkA (hgd : o.guard = none) (T : TypeId) (x y : Operand) (ho : o.op = .store T x y) (g : Nat) (C : Array Value) (hx : a.eval x = .pointer (some ⟨g, 0, none⟩)) (hy : a.eval y = .agg C)
    (t : TypeId) (old : Array Value) (hg : Bk w g t old) (hi : (P.info? T).map (·.size) = some C.toList.length) (hold : old.size = C.toList.length) (h1 : ∀ v ∈ C.toList, v.oneCell' = true)
    (h : ∀ w', Bk w' g t C → Fr [g] w w' → wpList P ops Q rest (a.put o.dst undef) w') : wpList P ops Q (o :: rest) a w :=
 wpList_store_bk hgd T x y ho g C.toList hx (by simpa using hy) t old hg hi hold h1 (fun w' hb hf => h w' (by simpa using hb) hf)
theorem wpList_load_bk (hgd : o.guard = none) (T : TypeId) (x : Operand) (ho : o.op = .load T x) (g off : Nat) (hx : a.eval x = .pointer (some ⟨g, off, none⟩)) (C : List Value) (d : TypeDesc)
    (t : TypeId) (cs : Array Value) (hg : Bk w g t cs) (hc : ∀ j u, C[j]? = some u → cs[off + j]? = some u) (hu : P.underlying T = some d) (hd : d.isRow = true) (hi : (P.info? T).map (·.size) = some C.length)
    (h : wpList P ops Q rest (a.put o.dst (.agg C.toArray)) w) : wpList P ops Q (o :: rest) a w :=
 wpList_load_mid hgd T x ho g off hx C d (fun j v hv => hg.cell_ (hc j v hv)) hu hd hi h
theorem wpList_build_ (hgd : o.guard = none) (T : TypeId) (parts : Array (Nat × Operand)) (ho : o.op = .build T parts) (C : List Value) (hb : P.built T (parts.map fun (i, x) => (i, a.eval x)).toList = some C.toArray)
    (h : wpList P ops Q rest (a.put o.dst (.agg C.toArray)) w) : wpList P ops Q (o :: rest) a w :=
 wpList_build hgd T parts ho (by rw [hb]; rfl) (by rw [hb]; exact h)
theorem wpList_build1 (hgd : o.guard = none) (T : TypeId) (i0 : Nat) (x0 : Operand) (ho : o.op = .build T #[(i0, x0)]) (v0 : Value) (e0 : a.eval x0 = v0) (C : List Value) (hb : P.built T [(i0, v0)] = some C.toArray)
    (h : wpList P ops Q rest (a.put o.dst (.agg C.toArray)) w) : wpList P ops Q (o :: rest) a w :=
 wpList_build_ hgd T #[(i0, x0)] ho C (by simpa [e0] using hb) h
theorem wpList_build2 (hgd : o.guard = none) (T : TypeId) (i0 i1 : Nat) (x0 x1 : Operand) (ho : o.op = .build T #[(i0, x0), (i1, x1)]) (v0 v1 : Value) (e0 : a.eval x0 = v0) (e1 : a.eval x1 = v1) (C : List Value) (hb : P.built T [(i0, v0), (i1, v1)] = some C.toArray)
    (h : wpList P ops Q rest (a.put o.dst (.agg C.toArray)) w) : wpList P ops Q (o :: rest) a w :=
 wpList_build_ hgd T #[(i0, x0), (i1, x1)] ho C (by simpa [e0, e1] using hb) h
theorem wpList_build4 (hgd : o.guard = none) (T : TypeId) (i0 i1 i2 i3 : Nat) (x0 x1 x2 x3 : Operand) (ho : o.op = .build T #[(i0, x0), (i1, x1), (i2, x2), (i3, x3)]) (v0 v1 v2 v3 : Value) (e0 : a.eval x0 = v0) (e1 : a.eval x1 = v1) (e2 : a.eval x2 = v2) (e3 : a.eval x3 = v3) (C : List Value) (hb : P.built T [(i0, v0), (i1, v1), (i2, v2), (i3, v3)] = some C.toArray)
    (h : wpList P ops Q rest (a.put o.dst (.agg C.toArray)) w) : wpList P ops Q (o :: rest) a w :=
 wpList_build_ hgd T #[(i0, x0), (i1, x1), (i2, x2), (i3, x3)] ho C (by simpa [e0, e1, e2, e3] using hb) h
theorem wpList_slice1 (hgd : o.guard = none) (T e : TypeId) (x : Operand) (ho : o.op = .buildSlice T 1 #[(0, x)]) (C : List Value) (hx : a.eval x = .agg C.toArray) (Z : Value) (hu : P.underlying T = some (.slice e))
    (hz : (P.info? e).map (fun i => (i.zero, i.size)) = some (some Z, C.length)) (h0 : 0 < C.length) (h1 : C.length ≤ 100000)
    (h : ∀ w', Bk w' w.heap.size e C.toArray → Fr [] w w' → wpList P ops Q rest (a.put o.dst (.slice (some ⟨w.heap.size, 0, none⟩) 1 1)) w') : wpList P ops Q (o :: rest) a w := by
 cases hq : P.info? e with
 | none => simp [hq] at hz
 | some ie =>
  simp [hq] at hz; refine wpList_buildSlice hgd T e 1 _ ho C.toArray ie Z hu hq hz.1 (by rw [hz.2]; omega) (by rw [hz.2]; omega) ?_ (h _ (Bk.new w e C.toArray) ((Fr.refl [] w).alloc _)); simp only [List.map_toArray, List.map_cons, List.map_nil, hx]; rw [hz.2]; obtain ⟨r, hr, hsz, hk⟩ := Go.Great.fill_dense h0 [.agg C.toArray] 0 ((Array.range (1 * C.length)).map fun j => Z.cells[j % Z.cells.size]!) (by intro v hv; simp at hv; subst hv; simp [Value.cells]) (by simp); simp only [List.zipIdx_cons, List.zipIdx_nil, List.map_cons, List.map_nil] at hr; rw [hr]
  congr 1
  apply Array.ext_getElem?
  intro k; rw [hk k]; by_cases hkl : k < C.length
  ·rw [if_pos (by simp; omega)]; have e : k / C.length = 0 := Nat.div_eq_of_lt hkl; simp [e, Value.cells, Nat.mod_eq_of_lt hkl]
  ·rw [if_neg (by simp; omega)]; rw [Array.getElem?_eq_none (by simp; omega), Array.getElem?_eq_none (by simp; omega)]
end
def splice (C : List Value) (off : Nat) (v : List Value) : List Value := C.take off ++ v ++ C.drop (off + v.length)
theorem fill_step (pl : Nat → Option (Nat × Nat)) (C : List Value) (i off : Nat) (v : Value) (rest : List (Nat × Value)) (hp : pl i = some (off, v.cells.size)) (hs : off + v.cells.size ≤ C.length) :
    Instr.fill pl C.toArray ((i, v) :: rest) = Instr.fill pl (splice C off v.cells.toList).toArray rest := by
 have e : (Array.foldl (fun cs (x : Value × Nat) => cs.setIfInBounds (off + x.2) x.1) C.toArray v.cells.zipIdx) = (splice C off v.cells.toList).toArray := by
  obtain ⟨g1, g2⟩ := Go.Great.foldl_set off v.cells.toList 0 C.toArray
  have e1 : (Array.foldl (fun cs (x : Value × Nat) => cs.setIfInBounds (off + x.2) x.1) C.toArray v.cells.zipIdx) = (v.cells.toList.zipIdx 0).foldl (fun cs (x : Value × Nat) => cs.setIfInBounds (off + x.2) x.1) C.toArray := by
   rw [← Array.foldl_toList, Array.toList_zipIdx]
  rw [e1]
  apply Array.ext_getElem?
  intro k; rw [g2 k]; unfold splice; simp only [List.getElem?_toArray, List.size_toArray, Array.length_toList, Nat.add_zero]; by_cases h1 : k < off
  ·rw [if_neg (by omega), List.append_assoc, List.getElem?_append_left (by simp; omega), List.getElem?_take, if_pos h1]
  ·by_cases h2 : k < off + v.cells.size
   ·rw [if_pos ⟨by omega, h2, by omega⟩, List.append_assoc, List.getElem?_append_right (by simp; omega), List.getElem?_append_left (by simp; omega)]
    congr 1
    simp; omega
   ·rw [if_neg (by omega), List.getElem?_append_right (by simp; omega), List.getElem?_drop]
    congr 1
    simp; omega
 rw [Instr.fill]; simp only [hp]; rw [if_neg (by simp; omega)]; exact congrArg (fun c => Instr.fill pl c rest) e
theorem fill_nil (pl : Nat → Option (Nat × Nat)) (C : List Value) : Instr.fill pl C.toArray [] = some C.toArray := by unfold Instr.fill; rfl
def structOf (P : Program) (T : TypeId) : Option (Value × List (Nat × Nat)) :=
 match P.info? T, P.underlying T with
 | some it, some (.struct fields) => match it.zero, fields.toList.mapM (fun f => (P.info? f.type).map fun i => (f.offset, i.size)) with
  | some z, some pl => some (z, pl)
  | _, _ => none
 | _, _ => none
theorem built_of {P : Program} {T : TypeId} {Z : List Value} {pl : List (Nat × Nat)} (h : structOf P T = some (.agg Z.toArray, pl)) (parts : List (Nat × Value)) : P.built T parts = Instr.fill (pl.toArray[·]?) Z.toArray parts := by
 unfold structOf at h; unfold Program.built
 cases hi : P.info? T with
 | none => simp [hi] at h
 | some it =>
  cases hu : P.underlying T with
  | none => simp [hi, hu] at h
  | some d =>
   cases d <;> try (simp [hi, hu] at h; done)
   case struct fields =>
    cases hz : it.zero with
    | none => simp [hi, hu, hz] at h
    | some z =>
     cases hp : fields.toList.mapM (fun f => (P.info? f.type).map fun i => (f.offset, i.size)) with
     | none => simp [hi, hu, hz, hp] at h
     | some pl' =>
      simp only [hi, hu, hz, hp] at h
      injection h with h; injection h with h1 h2
      subst h1 h2; simp only [hz, hp, Value.cells]
end Go.Proofs.YteofhjegaaoglaaGreat
namespace Go.Proofs.YteofhjegaaoglaaGreat
open Go.RowKit
set_option linter.unusedVariables false
set_option linter.unusedSimpArgs false
def bitsV (s : S4) : List Value := (List.range 256).map fun c => .bool (s.mem c)
theorem bitsV_len (s : S4) : (bitsV s).length = 256 := by simp [bitsV]
theorem bitsV_get (s : S4) {c : Nat} (h : c < 256) : (bitsV s)[c]? = some (.bool (s.mem c)) := by simp [bitsV, h]
theorem bitsV_one (s : S4) : ∀ v ∈ bitsV s, v.oneCell' = true := by
 intro v hv; simp [bitsV] at hv; obtain ⟨c, -, rfl⟩ := hv; rfl
def partC (k : Int) (s : S4) (mn mx : Int) (L : Value) : List Value := .int .i64 k :: (bitsV s ++ [.int .i64 mn, .int .i64 mx, L])
theorem partC_len (k : Int) (s : S4) (mn mx : Int) (L : Value) : (partC k s mn mx L).length = 260 := by simp [partC, bitsV_len]
theorem partC_one (k : Int) (s : S4) (mn mx : Int) {L : Value} (hL : L.oneCell' = true) : ∀ v ∈ partC k s mn mx L, v.oneCell' = true := by
 intro v hv; simp only [partC, List.mem_cons, List.mem_append, List.not_mem_nil, or_false] at hv; rcases hv with rfl | hv | rfl | rfl | rfl
 ·rfl
 ·exact bitsV_one s v hv
 ·rfl
 ·rfl
 ·exact hL
theorem partC_k (k : Int) (s : S4) (mn mx : Int) (L : Value) : (partC k s mn mx L)[0]? = some (.int .i64 k) := rfl
theorem partC_set (k : Int) (s : S4) (mn mx : Int) (L : Value) {c : Nat} (h : c < 256) : (partC k s mn mx L)[1 + c]? = some (.bool (s.mem c)) := by
 unfold partC; rw [Nat.add_comm 1 c, List.getElem?_cons_succ, List.getElem?_append_left (by rw [bitsV_len]; exact h), bitsV_get s h]
theorem partC_tail (k : Int) (s : S4) (mn mx : Int) (L : Value) (j : Nat) : (partC k s mn mx L)[257 + j]? = [Value.int .i64 mn, .int .i64 mx, L][j]? := by
 unfold partC; rw [show 257 + j = (256 + j) + 1 by omega, List.getElem?_cons_succ, List.getElem?_append_right (by rw [bitsV_len]; omega), bitsV_len, Nat.add_sub_cancel_left]
theorem partC_mn (k : Int) (s : S4) (mn mx : Int) (L : Value) : (partC k s mn mx L)[257]? = some (.int .i64 mn) := partC_tail k s mn mx L 0
theorem partC_mx (k : Int) (s : S4) (mn mx : Int) (L : Value) : (partC k s mn mx L)[258]? = some (.int .i64 mx) := partC_tail k s mn mx L 1
theorem partC_l (k : Int) (s : S4) (mn mx : Int) (L : Value) : (partC k s mn mx L)[259]? = some L := partC_tail k s mn mx L 2
def zeroPC : List Value := partC 0 S4.empty 0 0 (.slice none 0 0)
def gotC (p : List Value) (n e at_ : Int) : List Value := p ++ [.int .i64 n, .int .i64 e, .int .i64 at_]
theorem gotC_len {p : List Value} (h : p.length = 260) (n e at_ : Int) : (gotC p n e at_).length = 263 := by simp [gotC, h]
theorem gotC_one {p : List Value} (h : ∀ v ∈ p, v.oneCell' = true) (n e at_ : Int) : ∀ v ∈ gotC p n e at_, v.oneCell' = true := by
 intro v hv; simp only [gotC, List.mem_cons, List.mem_append, List.not_mem_nil, or_false] at hv; rcases hv with hv | rfl | rfl | rfl
 ·exact h v hv
 all_goals rfl
theorem gotC_p {p : List Value} (n e at_ : Int) {j : Nat} {u : Value} (hj : p[j]? = some u) : (gotC p n e at_)[j]? = some u := by
 unfold gotC; rw [List.getElem?_append_left (List.getElem?_eq_some_iff.1 hj).1, hj]
theorem gotC_tail {p : List Value} (h : p.length = 260) (n e at_ : Int) (j : Nat) : (gotC p n e at_)[260 + j]? = [Value.int .i64 n, .int .i64 e, .int .i64 at_][j]? := by
 unfold gotC; rw [List.getElem?_append_right (by omega)]
 congr 1
 omega
theorem gotC_n {p : List Value} (h : p.length = 260) (n e at_ : Int) : (gotC p n e at_)[260]? = some (.int .i64 n) := gotC_tail h n e at_ 0
theorem gotC_e {p : List Value} (h : p.length = 260) (n e at_ : Int) : (gotC p n e at_)[261]? = some (.int .i64 e) := gotC_tail h n e at_ 1
def brgC (s : S4) (n e at_ : Int) : List Value := bitsV s ++ [.int .i64 n, .int .i64 e, .int .i64 at_]
theorem brgC_len (s : S4) (n e at_ : Int) : (brgC s n e at_).length = 259 := by simp [brgC, bitsV_len]
theorem brgC_one (s : S4) (n e at_ : Int) : ∀ v ∈ brgC s n e at_, v.oneCell' = true := by
 intro v hv; simp only [brgC, List.mem_cons, List.mem_append, List.not_mem_nil, or_false] at hv; rcases hv with hv | rfl | rfl | rfl
 ·exact bitsV_one s v hv
 all_goals rfl
theorem brgC_s (s : S4) (n e at_ : Int) {j : Nat} {u : Value} (hj : (bitsV s)[j]? = some u) : (brgC s n e at_)[j]? = some u := by
 unfold brgC; rw [List.getElem?_append_left (List.getElem?_eq_some_iff.1 hj).1, hj]
theorem brgC_tail (s : S4) (n e at_ : Int) (j : Nat) : (brgC s n e at_)[256 + j]? = [Value.int .i64 n, .int .i64 e, .int .i64 at_][j]? := by
 unfold brgC; rw [List.getElem?_append_right (by rw [bitsV_len]; omega), bitsV_len, Nat.add_sub_cancel_left]
theorem brgC_n (s : S4) (n e at_ : Int) : (brgC s n e at_)[256]? = some (.int .i64 n) := brgC_tail s n e at_ 0
theorem brgC_e (s : S4) (n e at_ : Int) : (brgC s n e at_)[257]? = some (.int .i64 e) := brgC_tail s n e at_ 1
theorem brgC_at (s : S4) (n e at_ : Int) : (brgC s n e at_)[258]? = some (.int .i64 at_) := brgC_tail s n e at_ 2
theorem rp_zero : (Tryz.prog.info? 33).map (fun i => (i.zero, i.size)) = some (some (.agg zeroPC.toArray), 260) := by kernel_rfl
theorem rp_bytes : (Tryz.prog.info? 33).map (·.bytes) = some 304 := by kernel_rfl
theorem rg_zero : (Tryz.prog.info? 35).map (fun i => (i.zero, i.size)) = some (some (.agg (gotC zeroPC 0 0 0).toArray), 263) := by kernel_rfl
theorem rs_zero : (Tryz.prog.info? 30).map (fun i => (i.zero, i.size)) = some (some (.agg (bitsV S4.empty).toArray), 256) := by kernel_rfl
theorem rb_zero : (Tryz.prog.info? 155).map (fun i => (i.zero, i.size)) = some (some (.agg (brgC S4.empty 0 0 0).toArray), 259) := by kernel_rfl
theorem rp_struct : structOf Tryz.prog 33 = some (.agg zeroPC.toArray, [(0, 1), (1, 256), (257, 1), (258, 1), (259, 1)]) := by kernel_rfl
theorem rg_struct : structOf Tryz.prog 35 = some (.agg (gotC zeroPC 0 0 0).toArray, [(0, 260), (260, 1), (261, 1), (262, 1)]) := by kernel_rfl
theorem rb_struct : structOf Tryz.prog 155 = some (.agg (brgC S4.empty 0 0 0).toArray, [(0, 256), (256, 1), (257, 1), (258, 1)]) := by kernel_rfl
theorem rp_size : (Tryz.prog.info? 33).map (·.size) = some 260 := (zero_of_ rp_zero).2
theorem rg_size : (Tryz.prog.info? 35).map (·.size) = some 263 := (zero_of_ rg_zero).2
theorem rs_size : (Tryz.prog.info? 30).map (·.size) = some 256 := (zero_of_ rs_zero).2
theorem rb_size : (Tryz.prog.info? 155).map (·.size) = some 259 := (zero_of_ rb_zero).2
theorem splice_put {C : List Value} {i : Nat} {v : Value} (h : i < C.length) : splice C i [v] = C.set i v := by
 unfold splice; rw [List.set_eq_take_append_cons_drop, if_pos h]; simp
section
variable {X : List Value}
theorem gput (p : List Value) (hp : p.length = 260) (n e q : Int) : splice (gotC zeroPC n e q) 0 p = gotC p n e q := by
 unfold splice gotC; rw [hp, List.take_zero, List.nil_append, Nat.zero_add, List.drop_append_of_le_length (by simp [zeroPC, partC_len]), List.drop_of_length_le (by simp [zeroPC, partC_len]), List.nil_append]
theorem zeroPC_len : zeroPC.length = 260 := partC_len _ _ _ _ _
theorem gput_n {p : List Value} (hp : p.length = 260) (n n' e q : Int) : splice (gotC p n e q) 260 [.int .i64 n'] = gotC p n' e q := by
 rw [splice_put (by rw [gotC_len hp]; omega)]; unfold gotC; rw [List.set_append_right _ _ (by omega), hp]; rfl
theorem gput_e {p : List Value} (hp : p.length = 260) (n e e' q : Int) : splice (gotC p n e q) 261 [.int .i64 e'] = gotC p n e' q := by
 rw [splice_put (by rw [gotC_len hp]; omega)]; unfold gotC; rw [List.set_append_right _ _ (by omega), hp]; rfl
theorem gput_q {p : List Value} (hp : p.length = 260) (n e q q' : Int) : splice (gotC p n e q) 262 [.int .i64 q'] = gotC p n e q' := by
 rw [splice_put (by rw [gotC_len hp]; omega)]; unfold gotC; rw [List.set_append_right _ _ (by omega), hp]; rfl
theorem built_pn {p : List Value} (hp : p.length = 260) (n : Int) : Tryz.prog.built 35 [(0, .agg p.toArray), (1, .int .i64 n)] = some (gotC p n 0 0).toArray := by
 rw [built_of rg_struct, fill_step _ _ 0 0 _ _ (by simp [Value.cells, hp]) (by simp [Value.cells, hp, gotC_len zeroPC_len])]; simp only [Value.cells, List.toList_toArray]; rw [gput p hp, fill_step _ _ 1 260 _ _ (by simp [Value.cells]) (by simp [Value.cells, gotC_len hp])]; simp only [Value.cells, List.toList_toArray]; rw [gput_n hp, fill_nil]
theorem built_n (n : Int) : Tryz.prog.built 35 [(1, .int .i64 n)] = some (gotC zeroPC n 0 0).toArray := by
 rw [built_of rg_struct, fill_step _ _ 1 260 _ _ (by simp [Value.cells]) (by simp [Value.cells, gotC_len zeroPC_len])]; simp only [Value.cells, List.toList_toArray]; rw [gput_n zeroPC_len, fill_nil]
theorem built_e (e : Int) : Tryz.prog.built 35 [(2, .int .i64 e)] = some (gotC zeroPC 0 e 0).toArray := by
 rw [built_of rg_struct, fill_step _ _ 2 261 _ _ (by simp [Value.cells]) (by simp [Value.cells, gotC_len zeroPC_len])]; simp only [Value.cells, List.toList_toArray]; rw [gput_e zeroPC_len, fill_nil]
theorem built_eq_ (e q : Int) : Tryz.prog.built 35 [(2, .int .i64 e), (3, .int .i64 q)] = some (gotC zeroPC 0 e q).toArray := by
 rw [built_of rg_struct, fill_step _ _ 2 261 _ _ (by simp [Value.cells]) (by simp [Value.cells, gotC_len zeroPC_len])]; simp only [Value.cells, List.toList_toArray]; rw [gput_e zeroPC_len, fill_step _ _ 3 262 _ _ (by simp [Value.cells]) (by simp [Value.cells, gotC_len zeroPC_len])]; simp only [Value.cells, List.toList_toArray]; rw [gput_q zeroPC_len, fill_nil]
theorem pput_k (k k' : Int) (s : S4) (mn mx : Int) (L : Value) : splice (partC k s mn mx L) 0 [.int .i64 k'] = partC k' s mn mx L := by
 rw [splice_put (by rw [partC_len]; omega)]; rfl
theorem pput_s (k : Int) (s s' : S4) (mn mx : Int) (L : Value) : splice (partC k s mn mx L) 1 (bitsV s') = partC k s' mn mx L := by
 unfold splice partC; rw [bitsV_len, List.take_succ_cons, List.take_zero, show 1 + 256 = 256 + 1 by omega, List.drop_succ_cons, List.drop_append_of_le_length (by rw [bitsV_len]; omega), List.drop_of_length_le (by rw [bitsV_len]; omega), List.nil_append]; rfl
theorem pput_tail (k : Int) (s : S4) (mn mx : Int) (L : Value) (j : Nat) (v : Value) (hj : j < 3) : splice (partC k s mn mx L) (257 + j) [v] = .int .i64 k :: (bitsV s ++ [Value.int .i64 mn, .int .i64 mx, L].set j v) := by
 rw [splice_put (by rw [partC_len]; omega)]; unfold partC; rw [show 257 + j = (256 + j) + 1 by omega, List.set_cons_succ, List.set_append_right _ _ (by rw [bitsV_len]; omega), bitsV_len, Nat.add_sub_cancel_left]
theorem pput_mn (k : Int) (s : S4) (mn mn' mx : Int) (L : Value) : splice (partC k s mn mx L) 257 [.int .i64 mn'] = partC k s mn' mx L := pput_tail k s mn mx L 0 _ (by omega)
theorem pput_mx (k : Int) (s : S4) (mn mx mx' : Int) (L : Value) : splice (partC k s mn mx L) 258 [.int .i64 mx'] = partC k s mn mx' L := pput_tail k s mn mx L 1 _ (by omega)
theorem pput_l (k : Int) (s : S4) (mn mx : Int) (L L' : Value) : splice (partC k s mn mx L) 259 [L'] = partC k s mn mx L' := pput_tail k s mn mx L 2 _ (by omega)
theorem built_k (k : Int) : Tryz.prog.built 33 [(0, .int .i64 k)] = some (partC k S4.empty 0 0 (.slice none 0 0)).toArray := by
 rw [built_of rp_struct]; unfold zeroPC; rw [fill_step _ _ 0 0 _ _ (by simp [Value.cells]) (by simp [Value.cells, partC_len])]; simp only [Value.cells, List.toList_toArray]; rw [pput_k, fill_nil]
theorem built_ks (k : Int) (s : S4) : Tryz.prog.built 33 [(0, .int .i64 k), (1, .agg (bitsV s).toArray)] = some (partC k s 0 0 (.slice none 0 0)).toArray := by
 rw [built_of rp_struct]; unfold zeroPC; rw [fill_step _ _ 0 0 _ _ (by simp [Value.cells]) (by simp [Value.cells, partC_len])]; simp only [Value.cells, List.toList_toArray]; rw [pput_k, fill_step _ _ 1 1 _ _ (by simp [Value.cells, bitsV_len]) (by simp [Value.cells, partC_len, bitsV_len])]; simp only [Value.cells, List.toList_toArray]; rw [pput_s, fill_nil]
theorem built_kl (k : Int) (A : Option Addr) (n c : Nat) : Tryz.prog.built 33 [(0, .int .i64 k), (4, .slice A n c)] = some (partC k S4.empty 0 0 (.slice A n c)).toArray := by
 rw [built_of rp_struct]; unfold zeroPC; rw [fill_step _ _ 0 0 _ _ (by simp [Value.cells]) (by simp [Value.cells, partC_len])]; simp only [Value.cells, List.toList_toArray]; rw [pput_k, fill_step _ _ 4 259 _ _ (by simp [Value.cells]) (by simp [Value.cells, partC_len])]; simp only [Value.cells, List.toList_toArray]; rw [pput_l, fill_nil]
theorem built_kml (k mn mx : Int) (A : Option Addr) (n c : Nat) : Tryz.prog.built 33 [(0, .int .i64 k), (2, .int .i64 mn), (3, .int .i64 mx), (4, .slice A n c)] = some (partC k S4.empty mn mx (.slice A n c)).toArray := by
 rw [built_of rp_struct]; unfold zeroPC; rw [fill_step _ _ 0 0 _ _ (by simp [Value.cells]) (by simp [Value.cells, partC_len])]; simp only [Value.cells, List.toList_toArray]; rw [pput_k, fill_step _ _ 2 257 _ _ (by simp [Value.cells]) (by simp [Value.cells, partC_len])]; simp only [Value.cells, List.toList_toArray]; rw [pput_mn, fill_step _ _ 3 258 _ _ (by simp [Value.cells]) (by simp [Value.cells, partC_len])]; simp only [Value.cells, List.toList_toArray]; rw [pput_mx, fill_step _ _ 4 259 _ _ (by simp [Value.cells]) (by simp [Value.cells, partC_len])]; simp only [Value.cells, List.toList_toArray]; rw [pput_l, fill_nil]
theorem bput (s : S4) (n e q : Int) : splice (brgC S4.empty n e q) 0 (bitsV s) = brgC s n e q := by
 unfold splice brgC; rw [bitsV_len, List.take_zero, List.nil_append, Nat.zero_add, List.drop_append_of_le_length (by rw [bitsV_len]; omega), List.drop_of_length_le (by rw [bitsV_len]; omega), List.nil_append]
theorem bput_tail (s : S4) (n e q : Int) (j : Nat) (v : Value) (hj : j < 3) : splice (brgC s n e q) (256 + j) [v] = bitsV s ++ [Value.int .i64 n, .int .i64 e, .int .i64 q].set j v := by
 rw [splice_put (by rw [brgC_len]; omega)]; unfold brgC; rw [List.set_append_right _ _ (by rw [bitsV_len]; omega), bitsV_len, Nat.add_sub_cancel_left]
theorem bput_n (s : S4) (n n' e q : Int) : splice (brgC s n e q) 256 [.int .i64 n'] = brgC s n' e q := bput_tail s n e q 0 _ (by omega)
theorem bput_e (s : S4) (n e e' q : Int) : splice (brgC s n e q) 257 [.int .i64 e'] = brgC s n e' q := bput_tail s n e q 1 _ (by omega)
theorem bput_q (s : S4) (n e q q' : Int) : splice (brgC s n e q) 258 [.int .i64 q'] = brgC s n e q' := bput_tail s n e q 2 _ (by omega)
theorem bbuilt_eq (e q : Int) : Tryz.prog.built 155 [(2, .int .i64 e), (3, .int .i64 q)] = some (brgC S4.empty 0 e q).toArray := by
 rw [built_of rb_struct, fill_step _ _ 2 257 _ _ (by simp [Value.cells]) (by simp [Value.cells, brgC_len])]; simp only [Value.cells, List.toList_toArray]; rw [bput_e, fill_step _ _ 3 258 _ _ (by simp [Value.cells]) (by simp [Value.cells, brgC_len])]; simp only [Value.cells, List.toList_toArray]; rw [bput_q, fill_nil]
theorem bbuilt_sn (s : S4) (n : Int) : Tryz.prog.built 155 [(0, .agg (bitsV s).toArray), (1, .int .i64 n)] = some (brgC s n 0 0).toArray := by
 rw [built_of rb_struct, fill_step _ _ 0 0 _ _ (by simp [Value.cells, bitsV_len]) (by simp [Value.cells, brgC_len, bitsV_len])]; simp only [Value.cells, List.toList_toArray]; rw [bput, fill_step _ _ 1 256 _ _ (by simp [Value.cells]) (by simp [Value.cells, brgC_len])]; simp only [Value.cells, List.toList_toArray]; rw [bput_n, fill_nil]
end
end Go.Proofs.YteofhjegaaoglaaGreat
namespace Go.Proofs.YteofhjegaaoglaaGreat
open Go.RowKit
set_option linter.unusedVariables false
set_option linter.unusedSimpArgs false
def isS (bs : List UInt8) (i : Nat) (t : List UInt8) : Bool := decide (i + t.length ≤ bs.length) && ((bs.drop i).take t.length == t)
theorem str_at (bs : List UInt8) (i : Nat) (hi : i < bs.length) (W : World) : (Instr.index 9 (.string ⟨bs.toArray⟩) (.int .i64 (i : Int))).run Tryz.prog W = .ok (.int .u8 (bn bs i : Int)) W := by
 have h : (⟨bs.toArray⟩ : ByteArray)[i]? = some (bs.getD i 0) := by
  rw [getElem?_pos (⟨bs.toArray⟩ : ByteArray) i (by rw [ba_size]; exact hi)]
  congr 1
  show bs.toArray[i] = _; simp [List.getD_eq_getElem?_getD, List.getElem?_eq_getElem hi]
 unfold Instr.index; simp [asIntOf, run_underlying Tryz.underlying9, h, bn]
theorem is_any (bs t : List UInt8) (i : Nat) (hl : bs.length ≤ 1000000000) (hi : i ≤ 1000000000) (ht : t.length ≤ 1000) (w : World) : Calls Tryz.prog 74 #[.string ⟨bs.toArray⟩, .int .i64 (i : Int), .string ⟨t.toArray⟩] w fun e w' => e = .returned (.bool (isS bs i t)) ∧ w = w' := by
 obtain ⟨S, hS⟩ : ∃ S, S = (⟨bs.toArray⟩ : ByteArray) := ⟨_, rfl⟩; obtain ⟨T, hT⟩ : ∃ T, T = (⟨t.toArray⟩ : ByteArray) := ⟨_, rfl⟩; obtain ⟨L, hL⟩ : ∃ L, L = bs.length := ⟨_, rfl⟩; obtain ⟨m, hm⟩ : ∃ m, m = t.length := ⟨_, rfl⟩; have hs1 : S.size = L := by rw [hS, hL]; simp [ByteArray.size]
 have hs2 : T.size = m := by rw [hT, hm]; simp [ByteArray.size]
 rw [← hS, ← hT]; rw [← hL] at hl; rw [← hm] at ht; have HS := zh hS; have HT := zh hT; have HL := zh hL; have HM := zh hm; clear hS hT hL hm; by_cases h1 : i + m ≤ L
 ·have h1I : (i : Int) ≤ (L : Int) - (m : Int) := by omega
  go_enter Tryz.func74, Tryz.ntmps74
  go_wp2_with fail
  go_ret
  refine ⟨?_, rfl⟩; unfold isS; have : decide (i + t.length ≤ bs.length) = true := by rw [← HL.out, ← HM.out]; simpa using h1
  rw [this, HS.out, HT.out, ba_extract, ByteArray.toList_mk, ByteArray.toList_mk, ← HM.out]; simp
 ·have h1I : ¬ (i : Int) ≤ (L : Int) - (m : Int) := by omega
  go_enter Tryz.func74, Tryz.ntmps74
  go_wp2_with fail
  go_ret
  refine ⟨?_, rfl⟩; unfold isS; have : decide (i + t.length ≤ bs.length) = false := by rw [← HL.out, ← HM.out]; simpa using h1
  rw [this]; rfl
theorem bn_ge {bs : List UInt8} {i : Nat} (h : bs.length ≤ i) : bn bs i = 0 := by
 unfold bn; simp [List.getD_eq_getElem?_getD, List.getElem?_eq_none h]
theorem bn_eq_get {bs : List UInt8} {i : Nat} (h : i < bs.length) : bn bs i = (bs[i]'h).toNat := by
 unfold bn; simp [List.getD_eq_getElem?_getD, List.getElem?_eq_getElem h]
theorem isS_one (bs : List UInt8) (i : Nat) (x : UInt8) (hx : 0 < x.toNat) : isS bs i [x] = decide (bn bs i = x.toNat) := by
 unfold isS; rcases Nat.lt_or_ge i bs.length with h | h
 ·rw [bn_eq_get h, List.drop_eq_getElem_cons h]; have : decide (i + [x].length ≤ bs.length) = true := by simp; omega
  rw [this, Bool.true_and, Bool.eq_iff_iff, beq_iff_eq, show [x].length = 0 + 1 from rfl, List.take_succ_cons, List.take_zero, decide_eq_true_iff, UInt8.toNat_inj]; exact ⟨fun h => by injection h, fun h => by rw [h]⟩
 ·have : decide (i + [x].length ≤ bs.length) = false := by simp; omega
  rw [this, bn_ge h, Bool.false_and]
  symm; simp; omega
theorem isS_two (bs : List UInt8) (i : Nat) (x y : UInt8) (hx : 0 < x.toNat) (hy : 0 < y.toNat) : isS bs i [x, y] = (decide (bn bs i = x.toNat) && decide (bn bs (i + 1) = y.toNat)) := by
 unfold isS; rcases Nat.lt_or_ge (i + 1) bs.length with h | h
 ·rw [bn_eq_get h, bn_eq_get (i := i) (by omega), List.drop_eq_getElem_cons (by omega), List.drop_eq_getElem_cons h]; have : decide (i + [x, y].length ≤ bs.length) = true := by simp; omega
  rw [this, Bool.true_and, Bool.eq_iff_iff, beq_iff_eq, show [x, y].length = 0 + 1 + 1 from rfl, List.take_succ_cons, List.take_succ_cons, List.take_zero, Bool.and_eq_true, decide_eq_true_iff, decide_eq_true_iff, UInt8.toNat_inj, UInt8.toNat_inj]; exact ⟨fun h => by injection h with h1 h2; injection h2 with h2; exact ⟨h1, h2⟩, fun h => by rw [h.1, h.2]⟩
 ·have : decide (i + [x, y].length ≤ bs.length) = false := by simp; omega
  rw [this, bn_ge h, Bool.false_and]
  symm; simp; omega
theorem isS_opens (bs : List UInt8) (i : Nat) : isS bs i [91, 58] = opensS bs i := by
 rw [isS_two bs i 91 58 (by decide) (by decide)]; unfold opensS; rw [Bool.eq_iff_iff]; simp; constructor
 ·rintro ⟨h1, h2⟩; refine ⟨?_, by omega, by omega⟩; rcases Nat.lt_or_ge (i + 1) bs.length with h | h
  ·exact h
  ·rw [bn_ge h] at h2; omega
 ·rintro ⟨-, h1, h2⟩; omega
theorem resc_any (c : Nat) (hc : c < 256) (w : World) : Calls Tryz.prog 68 #[.int .u8 (c : Int)] w fun e w' => e = .returned (.int .u8 (escN c : Int)) ∧ w = w' := by
 by_cases h : c = 110 ∨ c = 116 ∨ c = 114 ∨ c = 102 ∨ c = 118 ∨ c = 97 ∨ c = 98
 ·rcases h with rfl | rfl | rfl | rfl | rfl | rfl | rfl
  all_goals
   go_enter Tryz.func68, Tryz.ntmps68
   go_wp2_with fail
   go_ret
   exact ⟨rfl, rfl⟩
 ·have e110 : ((c : Int) == 110) = false := by simp; omega
  have e116 : ((c : Int) == 116) = false := by simp; omega
  have e114 : ((c : Int) == 114) = false := by simp; omega
  have e102 : ((c : Int) == 102) = false := by simp; omega
  have e118 : ((c : Int) == 118) = false := by simp; omega
  have e97 : ((c : Int) == 97) = false := by simp; omega
  have e98 : ((c : Int) == 98) = false := by simp; omega
  have he : escN c = c := by unfold escN; (repeat' split) <;> omega
  rw [he]; clear he h; go_enter Tryz.func68, Tryz.ntmps68
  go_wp2_with fail
  go_ret
  exact ⟨rfl, rfl⟩
def oneS (bs : List UInt8) (i : Nat) : Nat × Nat := match singleS bs i with
 | none => (0, 0)
 | some (c, n) => (c, n - i)
theorem rone_any (bs : List UInt8) (i : Nat) (hl : bs.length ≤ 1000000000) (hi : i ≤ 1000000000) (w : World) : Calls Tryz.prog 76 #[.string ⟨bs.toArray⟩, .int .i64 (i : Int)] w fun e w' => e = .returned (.tuple #[.int .u8 ((oneS bs i).1 : Int), .int .i64 ((oneS bs i).2 : Int)]) ∧ w = w' := by
 obtain ⟨S, hS⟩ : ∃ S, S = (⟨bs.toArray⟩ : ByteArray) := ⟨_, rfl⟩; obtain ⟨L, hL⟩ : ∃ L, L = bs.length := ⟨_, rfl⟩; have hs1 : S.size = L := by rw [hS, hL]; simp [ByteArray.size]
 have hix : ∀ j, j < L → ∀ W, (Instr.index 9 (.string S) (.int .i64 (j : Int))).run Tryz.prog W = .ok (.int .u8 (bn bs j : Int)) W := fun j hj W => by rw [hS]; exact str_at bs j (by omega) W
 have HR : Hid (oneS bs i = if L ≤ i then (0, 0) else if bn bs i ≠ 92 then (bn bs i, 1) else if L ≤ i + 1 then (0, 0) else (escN (bn bs (i + 1)), 2)) := zh (by
  unfold oneS singleS; rw [← hL]
  (repeat' split) <;> first | rfl | (simp_all; done) | (simp_all; omega) | omega)
 rw [← hS]; rw [← hL] at hl; clear hS hL; have HIX := zh hix; clear hix; by_cases h1 : L ≤ i
 ·rw [if_pos h1] at HR; rw [HR.out]; clear HR; go_enter Tryz.func76, Tryz.ntmps76
  go_wp2_with fail
  go_ret2
  exact ⟨rfl, rfl⟩
 ·rw [if_neg h1] at HR; have i1 := HIX.out i (by omega); obtain ⟨x, hx⟩ : ∃ x, x = bn bs i := ⟨_, rfl⟩; have hxl : x < 256 := by rw [hx]; exact bn_lt _ _
  rw [← hx] at i1 HR; clear hx; by_cases h2 : x = 92
  ·rw [if_neg (by omega)] at HR; subst h2; by_cases h3 : L ≤ i + 1
   ·rw [if_pos h3] at HR; rw [HR.out]; clear HR; go_enter Tryz.func76, Tryz.ntmps76
    go_wp2_with fail
    go_ret2
    exact ⟨rfl, rfl⟩
   ·rw [if_neg h3] at HR; have i2 := HIX.out (i + 1) (by omega); obtain ⟨y, hy⟩ : ∃ y, y = bn bs (i + 1) := ⟨_, rfl⟩; have hyl : y < 256 := by rw [hy]; exact bn_lt _ _
    rw [← hy] at i2 HR; clear hy; rw [HR.out]; clear HR; have e1 : ((i + 1 : Nat) : Int) = (i : Int) + 1 := by omega
    rw [e1] at i2; clear e1; go_enter Tryz.func76, Tryz.ntmps76
    go_wp2_with (go_at_call 68; refine (resc_any y hyl _).mono ?_; rintro e w1 ⟨rfl, rfl⟩)
    go_ret2
    exact ⟨rfl, rfl⟩
  ·have g1 : ((x : Int) != 92) = true := by simp; omega
   rw [if_pos h2] at HR; rw [HR.out]; clear HR; go_enter Tryz.func76, Tryz.ntmps76
   go_wp2_with fail
   go_ret2
   exact ⟨rfl, rfl⟩
end Go.Proofs.YteofhjegaaoglaaGreat
namespace Go.Proofs.YteofhjegaaoglaaGreat
open Go.RowKit
set_option linter.unusedVariables false
set_option linter.unusedSimpArgs false
def PT.rset (p : PT) : S4 := ⟨p.s0.toNat, p.s1.toNat, p.s2.toNat, p.s3.toNat⟩
def PT.rcells (p : PT) : List Value := partC p.k p.rset p.mn p.mx (.slice p.A p.l.length p.c)
theorem rcells_len (p : PT) : p.rcells.length = 260 := partC_len _ _ _ _ _
theorem rcells_one (p : PT) : ∀ v ∈ p.rcells, v.oneCell' = true := partC_one _ _ _ _ (by rfl)
theorem RepP.rset {t : RT} {p : PT} (h : RepP t p) : p.rset = t.s := by
 rw [RepP_eq] at h; obtain ⟨-, h0, h1, h2, h3, -⟩ := h; unfold PT.rset; rw [h0, h1, h2, h3]; simp
theorem RepP.rcells {t : RT} {p : PT} (h : RepP t p) : p.rcells = partC t.k t.s t.mn t.mx (.slice p.A p.l.length p.c) := by
 unfold PT.rcells; rw [h.rset]; rw [RepP_eq] at h; obtain ⟨h0, -, -, -, -, h1, h2, -⟩ := h; rw [h0, h1, h2]
def RCellsAt (w : World) (b o : Nat) (cs : List Value) : Prop := ∃ arr, Bk w b 33 arr ∧ ∀ j u, cs[j]? = some u → arr[o + j]? = some u
mutual
def RPMem (w : World) : PT → Prop | .mk _ _ _ _ _ _ _ A _ l => RLMem w A l 0
def RLMem (w : World) (A : Option Addr) : List PT → Nat → Prop
 | [], _ => True
 | t :: r, i => (∃ b off, A = some ⟨b, off, none⟩ ∧ RCellsAt w b (off + i * 260) t.rcells) ∧ RPMem w t ∧ RLMem w A r (i + 1)
end
theorem RPMem_eq (w : World) (t : PT) : RPMem w t = RLMem w t.A t.l 0 := by cases t; rw [RPMem]; rfl
theorem RCellsAt.cell {w : World} {b o : Nat} {cs : List Value} (h : RCellsAt w b o cs) {j : Nat} {u : Value} (hu : cs[j]? = some u) : w.cell? ⟨b, o + j, none⟩ = some u := by
 obtain ⟨arr, h1, h2⟩ := h; rw [h1.cell]; exact h2 j u hu
theorem RLMem.get {w : World} {A : Option Addr} : ∀ {l : List PT} {i k : Nat} {t : PT}, RLMem w A l i → l[k]? = some t → (∃ b off, A = some ⟨b, off, none⟩ ∧ RCellsAt w b (off + (i + k) * 260) t.rcells) ∧ RPMem w t
 | [], i, k, t, h, ht => by simp at ht
 | u :: r, i, 0, t, h, ht => by
  rw [RLMem] at h; simp at ht; subst ht; exact ⟨h.1, h.2.1⟩
 | u :: r, i, k + 1, t, h, ht => by
  rw [RLMem] at h; have := RLMem.get h.2.2 (show r[k]? = some t by simpa using ht); rw [show i + (k + 1) = i + 1 + k by omega]; exact this
theorem RCellsAt.fr {l : List Nat} {w w' : World} {b o : Nat} {cs : List Value} (h : RCellsAt w b o cs) (hf : Fr l w w') (hb : b ∉ l) : RCellsAt w' b o cs := by
 obtain ⟨arr, h1, h2⟩ := h; exact ⟨arr, h1.fr hf hb, h2⟩
mutual
theorem RPMem.fr_ {l : List Nat} {w w' : World} (hf : Fr l w w') : ∀ t, (∀ b ∈ blkP t, b ∉ l) → RPMem w t → RPMem w' t
 | .mk k _ _ _ _ _ _ A _ ts, hn, h => by
  rw [blkP] at hn; rw [RPMem] at h ⊢; refine RLMem.fr_ hf A ts 0 (fun hne a ha => hn a.block (by rw [ha]; simp)) (fun b hb => hn b (List.mem_append_right _ hb)) h
theorem RLMem.fr_ {l : List Nat} {w w' : World} (hf : Fr l w w') (A : Option Addr) : ∀ (ts : List PT) (i : Nat), (ts ≠ [] → ∀ a, A = some a → a.block ∉ l) → (∀ b ∈ blkL ts, b ∉ l) → RLMem w A ts i → RLMem w' A ts i
 | [], i, _, _, h => by rw [RLMem]; trivial
 | t :: r, i, hA, hn, h => by
  rw [RLMem] at h ⊢; rw [blkL] at hn; obtain ⟨⟨b, off, hAe, hc⟩, h2, h3⟩ := h; exact ⟨⟨b, off, hAe, hc.fr hf (hA (by simp) _ hAe)⟩, RPMem.fr_ hf t (fun b hb => hn b (List.mem_append_left _ hb)) h2, RLMem.fr_ hf A r (i + 1) (fun _ => hA (by simp)) (fun b hb => hn b (List.mem_append_right _ hb)) h3⟩
end
structure NewR (lo : Nat) (w : World) (t : RT) (p : PT) : Prop where
 rep : RepP t p
 mem : RPMem w p
 new : ∀ b ∈ blkP p, lo ≤ b ∧ b < w.heap.size
theorem NewR.fr {lo : Nat} {l : List Nat} {w w' : World} {t : RT} {p : PT} (h : NewR lo w t p) (hf : Fr l w w') (hl : ∀ b ∈ l, b < lo ∨ b ∉ blkP p) : NewR lo w' t p :=
 ⟨h.rep, h.mem.fr_ hf _ (fun b hb hm => by
  rcases hl b hm with h1 | h1
  ·have := (h.new b hb).1; omega
  ·exact h1 hb), fun b hb => ⟨(h.new b hb).1, Nat.lt_of_lt_of_le (h.new b hb).2 hf.size⟩⟩
theorem NewR.fr_nil {lo : Nat} {w w' : World} {t : RT} {p : PT} (h : NewR lo w t p) (hf : Fr [] w w') : NewR lo w' t p := h.fr hf (by simp)
theorem NewR.lower {lo lo' : Nat} {w : World} {t : RT} {p : PT} (h : NewR lo w t p) (hl : lo' ≤ lo) : NewR lo' w t p :=
 ⟨h.rep, h.mem, fun b hb => ⟨Nat.le_trans hl (h.new b hb).1, (h.new b hb).2⟩⟩
structure NewQ (lo : Nat) (w : World) (v : Value) (ts : List RT) (ps : List PT) : Prop where
 rep : RepL ts ps
 mem : ∀ p ∈ ps, RPMem w p
 new : ∀ b ∈ blkL ps, lo ≤ b ∧ b < w.heap.size
 off : ∀ b ∈ blkL ps, v.ownBlock ≠ some b
 own : w.ownsRow lo 33 260 v ps.length (ps.flatMap PT.rcells)
theorem NewQ.nil (lo : Nat) (w : World) : NewQ lo w (.slice none 0 0) [] [] :=
 ⟨by rw [RepL_nil], by simp, by simp [blkL], by simp [blkL], ⟨by simp, .inl ⟨rfl, rfl⟩⟩⟩
theorem NewQ.form {lo : Nat} {w : World} {v : Value} {ts : List RT} {ps : List PT} (h : NewQ lo w v ts ps) : ∃ A c, v = .slice A ps.length c := by
 obtain ⟨h1, ⟨h2, h3⟩ | ⟨b', cap', cur, h2, -⟩⟩ := h.own
 ·exact ⟨none, 0, by rw [h2, h3]⟩
 ·exact ⟨_, _, h2⟩
theorem NewQ.blk {lo : Nat} {w : World} {v : Value} {ts : List RT} {ps : List PT} (h : NewQ lo w v ts ps) : ∀ b, v.ownBlock = some b → lo ≤ b ∧ b < w.heap.size := by
 obtain ⟨h1, ⟨h2, h3⟩ | ⟨b', cap', cur, h2, h0, hb, -⟩⟩ := h.own
 ·intro b hb; rw [h2] at hb; simp [Value.ownBlock] at hb
 ·intro b hb'; rw [h2] at hb'; simp [Value.ownBlock] at hb'; subst hb'; exact ⟨h0, Bk.lt (t := 33) (cs := cur) hb⟩
theorem NewQ.fr {lo : Nat} {l : List Nat} {w w' : World} {v : Value} {ts : List RT} {ps : List PT} (h : NewQ lo w v ts ps) (hf : Fr l w w') (hl : ∀ b ∈ l, b < lo) : NewQ lo w' v ts ps :=
 ⟨h.rep, fun p hp => (h.mem p hp).fr_ hf _ (fun b hb hm => by
  have := (h.new b (blkL_mem hp b hb)).1; have := hl b hm; omega), fun b hb => ⟨(h.new b hb).1, Nat.lt_of_lt_of_le (h.new b hb).2 hf.size⟩, h.off,
  own_frv h.own hf (fun b hb hm => by have := (h.blk b hb).1; have := hl b hm; omega)⟩
theorem NewQ.fr_nil {lo : Nat} {w w' : World} {v : Value} {ts : List RT} {ps : List PT} (h : NewQ lo w v ts ps) (hf : Fr [] w w') : NewQ lo w' v ts ps := h.fr hf (by simp)
theorem NewQ.snoc {lo : Nat} {w wa w' : World} {v v' : Value} {ts : List RT} {ps : List PT} {t : RT} {p : PT} (h : NewQ lo w v ts ps) (k : NewR lo w t p) (hk : ∀ b ∈ blkP p, v.ownBlock ≠ some b) (hf : Fr [] w wa)
    (hown : w'.ownsRow lo 33 260 v' (ps.length + 1) (ps.flatMap PT.rcells ++ p.rcells)) (hgr : wa.grownBy w' v.ownBlock) (hat : v'.ownBlock = v.ownBlock ∨ v'.ownBlock = some wa.heap.size) :
    NewQ lo w' v' (ts ++ [t]) (ps ++ [p]) ∧ Fr v.ownBlock.toList w w' := by
 have hfr : Fr v.ownBlock.toList w w' := hf.nil_.grown hgr (fun g hg => .inl (by rw [hg]; simp)); have hsz := hf.size
 have hoff : ∀ b ∈ blkL (ps ++ [p]), v.ownBlock ≠ some b ∧ lo ≤ b ∧ b < w.heap.size := fun b hb => by
  rw [blkL_append, blkL, blkL, List.append_nil] at hb; rcases List.mem_append.1 hb with hb | hb
  ·exact ⟨h.off b hb, h.new b hb⟩
  ·exact ⟨hk b hb, k.new b hb⟩
 refine ⟨⟨h.rep.snoc k.rep, fun q hq => ?_, fun b hb => ⟨(hoff b hb).2.1, Nat.lt_of_lt_of_le (hoff b hb).2.2 hfr.size⟩, fun b hb e => ?_, ?_⟩, hfr⟩
 ·have hq' : RPMem w q := by
   rcases List.mem_append.1 hq with hq | hq
   ·exact h.mem q hq
   ·simp at hq; subst hq; exact k.mem
  exact hq'.fr_ hfr _ (fun b hb hm => by
   have := (hoff b (blkL_mem hq b hb)).1
   simp at hm; exact this hm)
 ·have h3 := hoff b hb; rcases hat with h4 | h4
  ·rw [h4] at e; exact h3.1 e
  ·rw [h4] at e; injection e with e; omega
 ·have e1 : (ps ++ [p]).length = ps.length + 1 := by simp
  have e2 : (ps ++ [p]).flatMap PT.rcells = ps.flatMap PT.rcells ++ p.rcells := by simp
  rw [e1, e2]; exact hown
theorem NewQ.part {lo : Nat} {w : World} {A : Option Addr} {n c : Nat} {ts : List RT} {ps : List PT} (h : NewQ lo w (.slice A n c) ts ps) (k : Int) (mn mx : Int) : NewR lo w (.mk k S4.empty mn mx ts) (.mk k 0 0 0 0 mn mx A c ps) ∧ n = ps.length := by
 have hb := h.blk; obtain ⟨h1, h2⟩ := h.own; refine ⟨⟨?_, ?_, ?_⟩, ?_⟩
 ·rw [RepP_eq]; exact ⟨rfl, by simp [RT.s, S4.empty, PT.s0], by simp [RT.s, S4.empty, PT.s1], by simp [RT.s, S4.empty, PT.s2], by simp [RT.s, S4.empty, PT.s3], rfl, rfl, h.rep⟩
 ·rw [RPMem]; rcases h2 with ⟨h2, h3⟩ | ⟨b', cap', cur, h2, h0, hb', h4, h5, h6, h7⟩
  ·have : ps = [] := List.eq_nil_of_length_eq_zero h3; subst this; rw [RLMem]; trivial
  ·injection h2 with h2 h2n h2c
   subst h2
   have hcur : ∀ (i : Nat) (q : PT), ps[i]? = some q → RCellsAt w b' (0 + i * 260) q.rcells := fun i q hq => ⟨cur, hb', fun j u hu => by
    have hj : j < 260 := by
     rcases Nat.lt_or_ge j 260 with h8 | h8
     ·exact h8
     ·rw [List.getElem?_eq_none (by rw [rcells_len]; exact h8)] at hu; cases hu
    have h8 := flat_at (f := PT.rcells) (sz := 260) rcells_len q j hj ps i hq; rw [hu] at h8; rw [Nat.zero_add, ← Array.getElem?_toList]; rw [← h7, List.getElem?_take] at h8; split at h8
    ·exact h8
    ·cases h8⟩
   have hall : ∀ (r pre : List PT), ps = pre ++ r → RLMem w (some ⟨b', 0, none⟩) r pre.length := by
    intro r
    induction r with
    | nil => intro pre _; rw [RLMem]; trivial
    | cons q r ih =>
     intro pre hp; rw [RLMem]; have hq : ps[pre.length]? = some q := by rw [hp]; simp
     refine ⟨⟨b', 0, rfl, hcur _ q hq⟩, h.mem q (by rw [hp]; simp), ?_⟩; have := ih (pre ++ [q]) (by rw [hp]; simp)
     simpa using this
   exact hall ps [] rfl
 ·intro b hb1; rw [blkP] at hb1; rcases List.mem_append.1 hb1 with hb1 | hb1
  ·cases A with
   | none => simp at hb1
   | some a =>
    simp at hb1; subst hb1; exact hb _ rfl
  ·exact h.new b hb1
 ·rcases h2 with ⟨h2, h3⟩ | ⟨b', cap', cur, h2, -⟩
  ·injection h2 with _ h2 _; omega
  ·injection h2
end Go.Proofs.YteofhjegaaoglaaGreat
namespace Go.Proofs.YteofhjegaaoglaaGreat
open Go.RowKit
set_option linter.unusedVariables false
set_option linter.unusedSimpArgs false
theorem isS_occ (bs t : List UInt8) (i : Nat) (ht : t ≠ []) : isS bs i t = Lib.occAt bs t i := by
 unfold isS; by_cases h : i + t.length ≤ bs.length
 ·rw [Lib.occAt_iff_take bs t i h]; simp [h]
 ·have h1 : decide (i + t.length ≤ bs.length) = false := by simpa using h
  rw [h1, Bool.false_and]
  cases h2 : Lib.occAt bs t i with
  | false => rfl
  | true =>
   rcases Lib.occAt_room h2 with h3 | h3
   ·omega
   ·exact absurd h3 ht
theorem occAt_drop (bs t : List UInt8) (k j : Nat) : Lib.occAt (bs.drop k) t j = Lib.occAt bs t (k + j) := by unfold Lib.occAt; rw [List.drop_drop]
theorem mem_open_none {bs : List UInt8} {n : Nat} (ho : opensS bs n = true) (h : ∀ j, n + 2 ≤ j → isS bs j [58, 93] = false) : memberS bs n = .error (bs.length, 7) := by
 have e : Lib.index (bs.drop (n + 2)) [58, 93] = -1 := Lib.index_none fun j _ => by rw [occAt_drop, ← isS_occ _ _ _ (by simp)]; exact h _ (by omega)
 unfold memberS; rw [if_pos ho, e, if_pos (by decide)]
theorem mem_open_at {bs : List UInt8} {n e : Nat} (ho : opensS bs n = true) (he : n + 2 ≤ e) (hl : e < bs.length) (h1 : isS bs e [58, 93] = true) (h2 : ∀ j, n + 2 ≤ j → j < e → isS bs j [58, 93] = false) :
    memberS bs n = match classS ((bs.drop (n + 2)).take (e - (n + 2))) with
     | none => .error (n, 8)
     | some R => .ok (R, e + 2) := by
 have e1 : Lib.index (bs.drop (n + 2)) [58, 93] = ((e - (n + 2) : Nat) : Int) := Lib.index_first (by simp; omega) (by rw [occAt_drop, ← isS_occ _ _ _ (by simp), show n + 2 + (e - (n + 2)) = e by omega]; exact h1)
  (fun j hj => by rw [occAt_drop, ← isS_occ _ _ _ (by simp)]; exact h2 _ (by omega) (by omega))
 unfold memberS; rw [if_pos ho, e1, if_neg (by omega), Int.toNat_natCast]; split
 ·rename_i h3; rw [h3]
 ·rename_i R h3; rw [h3]; simp only []; congr 2; omega
theorem brk_go {bs : List UInt8} {first n k : Nat} {S : S4} (h : n = first ∨ bs.length ≤ n ∨ bn bs n ≠ 93) (hk : 0 < k) :
    brkL bs first k n S = match memberS bs n with
     | .error p => .error p
     | .ok (m, j) => brkL bs first (k - 1) j (S.or m) := by
 obtain ⟨k, rfl⟩ : ∃ k', k = k' + 1 := ⟨k - 1, by omega⟩; rw [brkL, if_pos h]; rfl
theorem brk_stop {bs : List UInt8} {first n k : Nat} {S : S4} (h : ¬ (n = first ∨ bs.length ≤ n ∨ bn bs n ≠ 93)) : brkL bs first k n S = .ok (S, n) := by
 cases k with
 | zero => rw [brkL]
 | succ k => rw [brkL, if_neg h]
theorem brk_dash {bs : List UInt8} {first n k f nx : Nat} {S : S4} (h : n = first ∨ bs.length ≤ n ∨ bn bs n ≠ 93) (ho : opensS bs n = false) (hs : singleS bs n = some (f, nx)) (hk : bs.length < n + k) (h1 : nx + 1 = bs.length) (h2 : bn bs nx = 45) :
    brkL bs first k n S = .error (bs.length, 7) := by
 have hlt := singleS_lt hs; rw [brk_go h (by omega)]
 have m1 : memberS bs n = .ok (S4.range f f, nx) := by
  unfold memberS; rw [ho, hs]; simp only [Bool.false_eq_true, if_false]; rw [if_pos (.inl (by omega))]
 rw [m1]; simp only []; rw [brk_go (.inr (.inr (by omega))) (by omega)]
 have m2 : memberS bs nx = .ok (S4.range 45 45, nx + 1) := by
  have ho2 : opensS bs nx = false := by unfold opensS; simp; omega
  have hs2 : singleS bs nx = some (45, nx + 1) := by
   unfold singleS; rw [if_neg (by omega), if_pos (by omega), h2]
  unfold memberS; rw [ho2, hs2]; simp only [Bool.false_eq_true, if_false]; rw [if_pos (.inl (by omega))]
 rw [m2]; simp only []; rw [brk_go (.inr (.inl (by omega))) (by omega), h1, member_past (Nat.le_refl _)]
def bitsF (f : Nat → Bool) : List Value := (List.range 256).map fun c => .bool (f c)
theorem bitsF_mem (s : S4) : bitsF s.mem = bitsV s := rfl
theorem bitsF_len (f : Nat → Bool) : (bitsF f).length = 256 := by simp [bitsF]
theorem bitsF_get (f : Nat → Bool) {c : Nat} (h : c < 256) : (bitsF f)[c]? = some (.bool (f c)) := by simp [bitsF, h]
theorem bitsF_ext {f g : Nat → Bool} (h : ∀ c, c < 256 → f c = g c) : bitsF f = bitsF g := by
 unfold bitsF; exact List.map_congr_left fun c hc => by rw [h c (by simpa using hc)]
theorem bitsF_set (f : Nat → Bool) {c : Nat} (h : c < 256) (b : Bool) : (bitsF f).set c (.bool b) = bitsF fun x => if x = c then b else f x := by
 apply List.ext_getElem?
 intro j; rw [List.getElem?_set]; by_cases hj : j < 256
 ·by_cases hc : c = j
  ·subst hc; rw [if_pos rfl, if_pos (by rw [bitsF_len]; exact h), bitsF_get _ h, if_pos rfl]
  ·rw [if_neg hc, bitsF_get f hj, bitsF_get _ hj, if_neg (fun h => hc h.symm)]
 ·rw [if_neg (by omega), List.getElem?_eq_none (by rw [bitsF_len]; omega), List.getElem?_eq_none (by rw [bitsF_len]; omega)]
theorem bitsF_put (f : Nat → Bool) {c : Nat} (h : c < 256) (b : Bool) : (bitsF f).toArray.setIfInBounds c (.bool b) = (bitsF fun x => if x = c then b else f x).toArray := by
 rw [← bitsF_set f h b]; simp
theorem ret_row_ {P : Program} {fn : Func} {p : Tmp} {T : TypeId} (h : fn.results = #[.cell p T]) {R : Ending → World → Prop} {a : Act} {w : World} (g : Nat) (C : List Value) (d : TypeDesc) (hp : a.tmps.getD p undef = .pointer (some ⟨g, 0, none⟩))
    {t : TypeId} (hb : Bk w g t C.toArray) (hu : P.underlying T = some d) (hd : d.isRow = true) (hi : (P.info? T).map (·.size) = some C.length) (hdf : a.defers = []) (hR : R (.returned (.agg C.toArray)) w) : bodyPost P fn R .ret a w :=
 bodyPost_ret (v := .agg C.toArray) (results_cell_row h _ _ g t C.toArray (0, 0) d hp hb hu (by cases d <;> simp_all [TypeDesc.isRow]) (by simpa using hi)) hdf hR
end Go.Proofs.YteofhjegaaoglaaGreat
namespace Go.Proofs.YteofhjegaaoglaaGreat
open Go.RowKit
set_option linter.unusedVariables false
set_option linter.unusedSimpArgs false
theorem ret_row {P : Program} {fn : Func} {p : Tmp} {T : TypeId} (h : fn.results = #[.cell p T]) {R : Ending → World → Prop} {a : Act} {w : World} (g : Nat) (C : List Value) (d : TypeDesc) (hp : a.tmps.getD p undef = .pointer (some ⟨g, 0, none⟩))
    {t : TypeId} (hb : Bk w g t C.toArray) (hu : P.underlying T = some d) (hd : d.isRow = true) (hi : (P.info? T).map (·.size) = some C.length) (hdf : a.defers = []) (hR : R (.returned (.agg C.toArray)) w) : bodyPost P fn R .ret a w :=
 bodyPost_ret (v := .agg C.toArray) (results_cell_row h _ _ g t C.toArray (0, 0) d hp hb hu (by cases d <;> simp_all [TypeDesc.isRow]) (by simpa using hi)) hdf hR
def rnumS (l : List UInt8) : Nat × Nat := (numV ((l.takeWhile isDig).take 3), ((l.takeWhile isDig).take 3).length)
theorem isDig_iff (c : UInt8) : isDig c = true ↔ 48 ≤ c.toNat ∧ c.toNat ≤ 57 := by unfold isDig; simp
theorem takeWhile_get {p : UInt8 → Bool} : ∀ (l : List UInt8) (n : Nat), n < (l.takeWhile p).length → ∃ c, l[n]? = some c ∧ p c = true ∧ (l.takeWhile p)[n]? = some c
 | [], n, h => by simp at h
 | a :: r, n, h => by
  by_cases ha : p a = true
  ·rw [List.takeWhile_cons_of_pos ha] at h ⊢; rcases n with _ | n
   ·exact ⟨a, rfl, ha, rfl⟩
   ·exact takeWhile_get r n (by simpa using h)
  ·rw [List.takeWhile_cons_of_neg ha] at h; simp at h
theorem takeWhile_end {p : UInt8 → Bool} : ∀ (l : List UInt8), (l.takeWhile p).length = l.length ∨ ∃ c, l[(l.takeWhile p).length]? = some c ∧ p c = false
 | [] => .inl rfl
 | a :: r => by
  by_cases ha : p a = true
  ·rw [List.takeWhile_cons_of_pos ha]; rcases takeWhile_end (p := p) r with h | ⟨c, h1, h2⟩
   ·left; simp [h]
   ·right; exact ⟨c, by simpa using h1, h2⟩
  ·rw [List.takeWhile_cons_of_neg ha]
   right; exact ⟨a, rfl, by simpa using ha⟩
theorem rnumV_snoc (l : List UInt8) (c : UInt8) : numV (l ++ [c]) = numV l * 10 + (c.toNat - 48) := by unfold numV; rw [List.foldl_append]; rfl
theorem numV_lt : ∀ (l : List UInt8), (∀ c ∈ l, isDig c = true) → l.length ≤ 3 → numV l ≤ 999 := by
 intro x hall h3; have hd : ∀ c : UInt8, isDig c = true → c.toNat - 48 ≤ 9 := fun c hc => by unfold isDig at hc; simp at hc; omega
 match x with
 | [] => simp [numV]
 | [a] => have := hd a (hall a (by simp)); simp [numV]; omega
 | [a, b] => have := hd a (hall a (by simp)); have := hd b (hall b (by simp)); simp [numV]; omega
 | [a, b, c] => have := hd a (hall a (by simp)); have := hd b (hall b (by simp)); have := hd c (hall c (by simp)); simp [numV]; omega
 | _ :: _ :: _ :: _ :: _ => simp at h3
theorem digs_all (l : List UInt8) (n : Nat) : ∀ c ∈ (l.takeWhile isDig).take n, isDig c = true := fun c hc => by
 have := List.all_takeWhile (p := isDig) (l := l); rw [List.all_eq_true] at this; exact this c (List.mem_of_mem_take hc)
theorem rnum_le (l : List UInt8) : (rnumS l).2 ≤ 3 ∧ (rnumS l).1 ≤ 999 ∧ (rnumS l).2 ≤ l.length := by
 refine ⟨by unfold rnumS; simp; omega, numV_lt _ (digs_all l 3) (by simp; omega), ?_⟩; have h := (List.takeWhile_sublist (l := l) isDig).length_le; unfold rnumS; simp; omega
set_option maxRecDepth 100000 in
set_option maxHeartbeats 2000000 in
theorem rnumber_any (bs : List UInt8) (i : Nat) (hl : bs.length ≤ 1000000000) (hi : i ≤ 1000000000) (w : World) : Calls Tryz.prog 69 #[.string ⟨bs.toArray⟩, .int .i64 (i : Int)] w fun e w' => e = .returned (.tuple #[.int .i64 ((rnumS (bs.drop i)).1 : Int), .int .i64 ((rnumS (bs.drop i)).2 : Int)]) ∧ w = w' := by
 obtain ⟨S, hS⟩ : ∃ S, S = (⟨bs.toArray⟩ : ByteArray) := ⟨_, rfl⟩; obtain ⟨L, hL⟩ : ∃ L, L = bs.length := ⟨_, rfl⟩; have hs1 : S.size = L := by rw [hS, hL]; simp [ByteArray.size]
 have hix : ∀ j, j < L → ∀ W, (Instr.index 9 (.string S) (.int .i64 (j : Int))).run Tryz.prog W = .ok (.int .u8 (bn bs j : Int)) W := fun j hj W => by rw [hS]; exact str_at bs j (by omega) W
 obtain ⟨D, hD⟩ : ∃ D, D = (bs.drop i).takeWhile isDig := ⟨_, rfl⟩; have HR : Hid (rnumS (bs.drop i) = (numV (D.take 3), (D.take 3).length)) := zh (by unfold rnumS; rw [hD])
 have HIN : Hid (∀ n, n < D.length → i + n < L ∧ 48 ≤ bn bs (i + n) ∧ bn bs (i + n) ≤ 57 ∧ ∃ c, D[n]? = some c ∧ c.toNat = bn bs (i + n)) := zh (fun n hn => by
  rw [hD] at hn ⊢; obtain ⟨c, h1, h2, h3⟩ := takeWhile_get (bs.drop i) n hn; rw [List.getElem?_drop] at h1; obtain ⟨h4, h5⟩ := List.getElem?_eq_some_iff.1 h1; have hb : bn bs (i + n) = c.toNat := by rw [bn_eq_get h4, h5]
  have h6 := (isDig_iff c).1 h2
  exact ⟨by omega, by omega, by omega, c, h3, hb.symm⟩)
 have HEND : Hid (L ≤ i + D.length ∨ (i + D.length < L ∧ (bn bs (i + D.length) < 48 ∨ 57 < bn bs (i + D.length)))) := zh (by
  rw [hD]; rcases takeWhile_end (p := isDig) (bs.drop i) with h | ⟨c, h1, h2⟩
  ·left; rw [h]; simp; omega
  ·right
   rw [List.getElem?_drop] at h1; obtain ⟨h4, h5⟩ := List.getElem?_eq_some_iff.1 h1; have hb : bn bs (i + ((bs.drop i).takeWhile isDig).length) = c.toNat := by rw [bn_eq_get h4, h5]
   have h6 : ¬ (48 ≤ c.toNat ∧ c.toNat ≤ 57) := fun h => by rw [(isDig_iff c).2 h] at h2; cases h2
   exact ⟨by omega, by omega⟩)
 have HDL : Hid (∀ n, n ≤ 3 → numV (D.take n) ≤ 999) := zh (fun n hn => by rw [hD]; exact numV_lt _ (digs_all _ n) (by simp; omega)); rw [← hS]; rw [← hL] at hl; have HIX := zh hix; clear hS hL hD hix; go_enter Tryz.func69, Tryz.ntmps69
 go_wp2_with fail
 go_loopw [6, 7] (fun v6 v7 wr => ∃ n : Nat, v6 = .int .i64 (numV (D.take n) : Int) ∧ v7 = .int .i64 (n : Int) ∧ n ≤ 3 ∧ n ≤ D.length ∧ w = wr) (fun _ v7 _ => 4 - (intOf v7).toNat)
 case atStart => exact ⟨0, by simp [numV], rfl, by omega, by omega, rfl⟩
 case round =>
  obtain ⟨n, rfl, rfl, hn3, hnD, rfl⟩ := hrel; obtain ⟨v, hv⟩ : ∃ v, v = numV (D.take n) := ⟨_, rfl⟩; have hv9 : v ≤ 999 := by rw [hv]; exact HDL.out n hn3
  rw [← hv]; have HV := zh hv; clear hv; by_cases h3 : n = 3
  ·subst h3; have HRR : Hid (rnumS (bs.drop i) = (v, 3)) := zh (by rw [HR.out, HV.out]; simp; omega); go_wp2_with fail
   go_ret2
   exact ⟨by rw [HRR.out]; rfl, rfl⟩
  ·have h3I : (n : Int) < 3 := by omega
   by_cases hlt : n < D.length
   ·obtain ⟨g1, g2, g3, c, g4, g5⟩ := HIN.out n hlt; obtain ⟨x, hx⟩ : ∃ x, x = bn bs (i + n) := ⟨_, rfl⟩; have ix := HIX.out (i + n) g1; rw [← hx] at ix g2 g3 g5; have e1 : ((i + n : Nat) : Int) = (i : Int) + (n : Int) := by omega
    rw [e1] at ix; have hnx : numV (D.take (n + 1)) = v * 10 + (x - 48) := by rw [List.take_add_one, g4, HV.out]; simp only [Option.toList_some]; rw [rnumV_snoc, g5]
    have HNX := zh hnx; have hgI : (i : Int) + (n : Int) < (L : Int) := by omega
    have g2I : (48 : Int) ≤ (x : Int) := by omega
    have g3I : (x : Int) ≤ 57 := by omega
    clear hnx e1 g4 g5 hx g1; go_wp2_with fail
    go_roundw
    case rel => exact ⟨n + 1, by rw [HNX.out]; congr 1; omega, by go_num, by omega, by omega, by first | rfl | trivial⟩
    case measure => first | (simp [intOf]; done) | (simp [intOf]; omega)
   ·obtain rfl : n = D.length := by omega
    have HRR : Hid (rnumS (bs.drop i) = (v, D.length)) := zh (by rw [HR.out, HV.out, List.take_of_length_le (by omega), List.take_of_length_le (by omega)]); obtain ⟨q, hq⟩ : ∃ q, q = D.length := ⟨_, rfl⟩; have HE2 : Hid (L ≤ i + q ∨ (i + q < L ∧ (bn bs (i + q) < 48 ∨ 57 < bn bs (i + q)))) := zh (by rw [hq]; exact HEND.out); rw [← hq] at h3I h3 HRR ⊢; clear hq HR; rcases HE2.out with h4 | ⟨h4, h5⟩
    ·have h4I : ¬ ((i : Int) + (q : Int) < (L : Int)) := by omega
     go_wp2_with fail
     go_ret2
     exact ⟨by rw [HRR.out]; rfl, rfl⟩
    ·have h4I : (i : Int) + (q : Int) < (L : Int) := by omega
     have ix := HIX.out (i + q) h4; obtain ⟨x, hx⟩ : ∃ x, x = bn bs (i + q) := ⟨_, rfl⟩; rw [← hx] at ix h5; have e1 : ((i + q : Nat) : Int) = (i : Int) + (q : Int) := by omega
     rw [e1] at ix; clear hx e1; by_cases h6 : x < 48
     ·have h6I : ¬ ((48 : Int) ≤ (x : Int)) := by omega
      go_wp2_with fail
      go_ret2
      exact ⟨by rw [HRR.out]; rfl, rfl⟩
     ·have h6I : (48 : Int) ≤ (x : Int) := by omega
      have h7I : ¬ ((x : Int) ≤ 57) := by omega
      go_wp2_with fail
      go_ret2
      exact ⟨by rw [HRR.out]; rfl, rfl⟩
theorem ret_rowA {P : Program} {fn : Func} {p : Tmp} {T : TypeId} (h : fn.results = #[.cell p T]) {R : Ending → World → Prop} {a : Act} {w : World} (g : Nat) (C : Array Value) (d : TypeDesc) (hp : a.tmps.getD p undef = .pointer (some ⟨g, 0, none⟩))
    {t : TypeId} (hb : Bk w g t C) (hu : P.underlying T = some d) (hd : d.isRow = true) (hi : (P.info? T).map (·.size) = some C.toList.length) (hdf : a.defers = []) (hR : R (.returned (.agg C)) w) : bodyPost P fn R .ret a w :=
 ret_row (C := C.toList) h g d hp (by simpa using hb) hu hd hi hdf (by simpa using hR)
def sgC (mn mx n : Int) (bad : Bool) : List Value := [.int .i64 mn, .int .i64 mx, .int .i64 n, .bool bad]
theorem sg_zero : (Tryz.prog.info? 142).map (fun i => (i.zero, i.size)) = some (some (.agg (sgC 0 0 0 false).toArray), 4) := by kernel_rfl
theorem sg_size : (Tryz.prog.info? 142).map (·.size) = some 4 := (zero_of_ sg_zero).2
def signC (g : Int × Int × Nat) : List Value := sgC g.1 g.2.1 g.2.2 (badS g)
def rintS (bs : List UInt8) (i : Nat) : Int × Int × Nat :=
 let q := rnumS (bs.drop (i + 1))
 let k := i + 1 + q.2
 if q.2 = 0 ∨ bs.length ≤ k then (0, 0, 0)
 else if bn bs k = 44 then
  let r := rnumS (bs.drop (k + 1))
  if bs.length ≤ k + 1 + r.2 ∨ bn bs (k + 1 + r.2) ≠ 125 then (0, 0, 0) else ((q.1 : Int), (if r.2 = 0 then -1 else (r.1 : Int)), k + 1 + r.2 + 1 - i)
 else if bn bs k = 125 then ((q.1 : Int), (q.1 : Int), k + 1 - i) else (0, 0, 0)
theorem numS_cases (l : List UInt8) : (numS l = rnumS l ∧ (rnumS l).2 = (l.takeWhile isDig).length) ∨ (numS l = (0, 0) ∧ (rnumS l).2 = 3 ∧ 48 ≤ bn l 3 ∧ bn l 3 ≤ 57) := by
 unfold numS rnumS; by_cases h : 3 < (l.takeWhile isDig).length
 ·right
  rw [if_pos h]; obtain ⟨c, h1, h2, -⟩ := takeWhile_get l 3 h; obtain ⟨h4, h5⟩ := List.getElem?_eq_some_iff.1 h1; have := (isDig_iff c).1 h2; rw [bn_eq_get h4, h5]; exact ⟨rfl, by simp; omega, this.1, this.2⟩
 ·left
  rw [if_neg h, List.take_of_length_le (by omega)]; exact ⟨rfl, rfl⟩
theorem rintS_eq (bs : List UInt8) (i : Nat) (hi : i < bs.length) : rintS bs i = intervalS (bs.drop i) := by
 unfold rintS intervalS; have hd : ∀ k j, bn (bs.drop k) j = bn bs (k + j) := fun k j => bn_drop bs k j; have e1 : (bs.drop i).drop 1 = bs.drop (i + 1) := by rw [List.drop_drop]
 rw [e1]; rcases numS_cases (bs.drop (i + 1)) with ⟨h1, -⟩ | ⟨h1, h2, h3, h4⟩
 ·rw [h1]
  generalize rnumS (bs.drop (i + 1)) = q
  simp only []; unfold intervalT; by_cases hq : q.2 = 0
  ·rw [if_pos (.inl hq), if_pos hq]
  ·rw [if_neg hq]; have e2 : bn (bs.drop i) (q.2 + 1) = bn bs (i + 1 + q.2) := by rw [hd]; congr 1; omega
   rw [e2]; by_cases hk : bs.length ≤ i + 1 + q.2
   ·rw [if_pos (.inr hk), bn_ge hk]; simp
   ·rw [if_neg (by omega)]; by_cases h44 : bn bs (i + 1 + q.2) = 44
    ·rw [if_pos h44, if_pos h44]; have e3 : (bs.drop i).drop (q.2 + 2) = bs.drop (i + 1 + q.2 + 1) := by rw [List.drop_drop]; congr 1; omega
     rw [e3]; rcases numS_cases (bs.drop (i + 1 + q.2 + 1)) with ⟨g1, -⟩ | ⟨g1, g2, g3, g4⟩
     ·rw [g1]
      generalize rnumS (bs.drop (i + 1 + q.2 + 1)) = r
      have e4 : bn (bs.drop i) (q.2 + 2 + r.2) = bn bs (i + 1 + q.2 + 1 + r.2) := by rw [hd]; congr 1; omega
      rw [e4]; by_cases h125 : bn bs (i + 1 + q.2 + 1 + r.2) = 125
      ·have := bn_pos h125 (by omega); rw [if_neg (by omega), if_pos h125]
       congr 2; omega
      ·rw [if_pos (.inr h125), if_neg h125]
     ·rw [g1, g2]; have e4 : bn (bs.drop i) (q.2 + 2 + 0) = bn bs (i + 1 + q.2 + 1) := by rw [hd]; congr 1; omega
      simp only []; rw [e4]; have hm := bn_drop bs (i + 1 + q.2 + 1) 3; rw [hm] at g3 g4
      have h0 : 48 ≤ bn bs (i + 1 + q.2 + 1) ∧ bn bs (i + 1 + q.2 + 1) ≤ 57 := by
       have hlt : 0 < ((bs.drop (i + 1 + q.2 + 1)).takeWhile isDig).length := by
        have := g2; unfold rnumS at this; simp at this; omega
       obtain ⟨c, k1, k2, -⟩ := takeWhile_get _ 0 hlt; rw [List.getElem?_drop] at k1; obtain ⟨k4, k5⟩ := List.getElem?_eq_some_iff.1 k1; have := (isDig_iff c).1 k2; have hb : bn bs (i + 1 + q.2 + 1) = c.toNat := by rw [bn_eq_get k4]; exact congrArg UInt8.toNat k5
       omega
      rw [if_pos (.inr (by omega)), if_neg (by omega)]
    ·rw [if_neg h44, if_neg h44]; by_cases h125 : bn bs (i + 1 + q.2) = 125
     ·rw [if_pos h125, if_pos h125]
      congr 2; omega
     ·rw [if_neg h125, if_neg h125]
 ·rw [h1]; unfold intervalT; simp only []; rw [h2, if_pos trivial]; have hm := bn_drop bs (i + 1) 3; rw [hm] at h3 h4; by_cases hk : bs.length ≤ i + 1 + 3
  ·rw [if_pos (.inr hk)]
  ·rw [if_neg (by omega), if_neg (by omega), if_neg (by omega)]
set_option maxRecDepth 100000 in
set_option maxHeartbeats 8000000 in
theorem sign_any_ (bs : List UInt8) (i : Nat) (hl : bs.length ≤ 1000000) (hi : i ≤ bs.length) (w : World) : Calls Tryz.prog 54 #[.string ⟨bs.toArray⟩, .int .i64 (i : Int)] w fun e w' => e = .returned (.agg (signC (signS bs i)).toArray) ∧ Fr [] w w' := by
 obtain ⟨S, hS⟩ : ∃ S, S = (⟨bs.toArray⟩ : ByteArray) := ⟨_, rfl⟩; obtain ⟨L, hL⟩ : ∃ L, L = bs.length := ⟨_, rfl⟩; have hs1 : S.size = L := by rw [hS, hL]; simp [ByteArray.size]
 have hix : ∀ j, j < L → ∀ W, (Instr.index 9 (.string S) (.int .i64 (j : Int))).run Tryz.prog W = .ok (.int .u8 (bn bs j : Int)) W := fun j hj W => by rw [hS]; exact str_at bs j (by omega) W
 have HIX := zh hix; have HNUM : Hid (∀ j : Nat, j ≤ 1000000000 → ∀ W, Calls Tryz.prog 69 #[.string S, .int .i64 (j : Int)] W fun e w' => e = .returned (.tuple #[.int .i64 ((rnumS (bs.drop j)).1 : Int), .int .i64 ((rnumS (bs.drop j)).2 : Int)]) ∧ W = w') := zh (fun j hj W => by rw [hS]; exact rnumber_any bs j (by omega) hj W)
 have HSG : Hid (signS bs i = if L ≤ i then (0, 0, 0) else if bn bs i = 42 then (0, -1, 1) else if bn bs i = 43 then (1, -1, 1) else if bn bs i = 63 then (0, 1, 1) else if bn bs i = 123 then rintS bs i else (0, 0, 0)) := zh (by
  unfold signS; by_cases h : L ≤ i
  ·rw [if_pos h, bn_ge (by omega)]; simp
  ·rw [if_neg h, rintS_eq bs i (by omega)])
 obtain ⟨g, hg⟩ : ∃ g, g = w.heap.size := ⟨_, rfl⟩; have HG := zh hg; have HL := zh hL; rw [← hS]; rw [← hL] at hl hi; clear hS hix hL; go_enter Tryz.func54, Tryz.ntmps54
 go_upto_region 1 with (refine wpList_alloc_bk rfl 142 rfl (sgC 0 0 0 false) 4 sg_zero ?_; intro w1 hz hf1; have HZ := zh hz; have HF := zh hf1; clear hz hf1)
 rw [← hg]; have HZ : Hid (Bk w1 g 142 (sgC 0 0 0 false).toArray) := zh (by rw [hg]; exact HZ.out); clear hg; by_cases h1 : L ≤ i
 ·have HE : Hid (signS bs i = (0, 0, 0)) := zh (by rw [HSG.out, if_pos h1]); go_wp2_with (refine wpList_store_bkA rfl 142 _ _ rfl g _ rfl rfl _ _ HZ.out sg_size (by first | rfl | simp) (by simp [Value.oneCell']) ?_; intro w9 hb9 hf9; have HB9 := zh hb9; have HF9 := zh hf9; clear hb9 hf9)
  refine ret_rowA (p := 4) (T := 142) rfl g _ _ rfl HB9.out Tryz.underlying142 rfl sg_size rfl ?_; refine ⟨?_, HF.out.trans' HF9.out (by simp; have := HG.out; omega)⟩; first | (rw [HE.out]; rfl) | (rw [HE.out]; unfold signC sgC badS; simp; done) | (rw [HE.out]; unfold signC sgC badS; simp; omega) | (rw [HE.out]; unfold signC sgC badS; have := HEK.out; simp; omega)
 have i1 := HIX.out i (by omega); have HSG2 : Hid (signS bs i = if bn bs i = 42 then (0, -1, 1) else if bn bs i = 43 then (1, -1, 1) else if bn bs i = 63 then (0, 1, 1) else if bn bs i = 123 then rintS bs i else (0, 0, 0)) := zh (by rw [HSG.out, if_neg h1]); clear HSG; obtain ⟨x, hx⟩ : ∃ x, x = bn bs i := ⟨_, rfl⟩; have hxl : x < 256 := by rw [hx]; exact bn_lt _ _
 rw [← hx] at i1 HSG2; clear hx; by_cases h42 : x = 42
 ·subst h42; have HE : Hid (signS bs i = (0, -1, 1)) := zh (by rw [HSG2.out]; rfl); go_wp2_with (refine wpList_store_bkA rfl 142 _ _ rfl g _ rfl rfl _ _ HZ.out sg_size (by first | rfl | simp) (by simp [Value.oneCell']) ?_; intro w9 hb9 hf9; have HB9 := zh hb9; have HF9 := zh hf9; clear hb9 hf9)
  refine ret_rowA (p := 4) (T := 142) rfl g _ _ rfl HB9.out Tryz.underlying142 rfl sg_size rfl ?_; refine ⟨?_, HF.out.trans' HF9.out (by simp; have := HG.out; omega)⟩; first | (rw [HE.out]; rfl) | (rw [HE.out]; unfold signC sgC badS; simp; done) | (rw [HE.out]; unfold signC sgC badS; simp; omega) | (rw [HE.out]; unfold signC sgC badS; have := HEK.out; simp; omega)
 by_cases h43 : x = 43
 ·subst h43; have HE : Hid (signS bs i = (1, -1, 1)) := zh (by rw [HSG2.out]; rfl); go_wp2_with (refine wpList_store_bkA rfl 142 _ _ rfl g _ rfl rfl _ _ HZ.out sg_size (by first | rfl | simp) (by simp [Value.oneCell']) ?_; intro w9 hb9 hf9; have HB9 := zh hb9; have HF9 := zh hf9; clear hb9 hf9)
  refine ret_rowA (p := 4) (T := 142) rfl g _ _ rfl HB9.out Tryz.underlying142 rfl sg_size rfl ?_; refine ⟨?_, HF.out.trans' HF9.out (by simp; have := HG.out; omega)⟩; first | (rw [HE.out]; rfl) | (rw [HE.out]; unfold signC sgC badS; simp; done) | (rw [HE.out]; unfold signC sgC badS; simp; omega) | (rw [HE.out]; unfold signC sgC badS; have := HEK.out; simp; omega)
 by_cases h63 : x = 63
 ·subst h63; have HE : Hid (signS bs i = (0, 1, 1)) := zh (by rw [HSG2.out]; rfl); go_wp2_with (refine wpList_store_bkA rfl 142 _ _ rfl g _ rfl rfl _ _ HZ.out sg_size (by first | rfl | simp) (by simp [Value.oneCell']) ?_; intro w9 hb9 hf9; have HB9 := zh hb9; have HF9 := zh hf9; clear hb9 hf9)
  refine ret_rowA (p := 4) (T := 142) rfl g _ _ rfl HB9.out Tryz.underlying142 rfl sg_size rfl ?_; refine ⟨?_, HF.out.trans' HF9.out (by simp; have := HG.out; omega)⟩; first | (rw [HE.out]; rfl) | (rw [HE.out]; unfold signC sgC badS; simp; done) | (rw [HE.out]; unfold signC sgC badS; simp; omega) | (rw [HE.out]; unfold signC sgC badS; have := HEK.out; simp; omega)
 have t42 : ((x : Int) == 42) = false := by simp; omega
 have t43 : ((x : Int) == 43) = false := by simp; omega
 have t63 : ((x : Int) == 63) = false := by simp; omega
 have HSG3 : Hid (signS bs i = if x = 123 then rintS bs i else (0, 0, 0)) := zh (by rw [HSG2.out, if_neg h42, if_neg h43, if_neg h63]); clear HSG2 h42 h43 h63; by_cases h123 : x = 123
 case neg =>
  have t123 : ((x : Int) != 123) = true := by simp; omega
  have HE : Hid (signS bs i = (0, 0, 0)) := zh (by rw [HSG3.out, if_neg h123]); go_wp2_with (refine wpList_store_bkA rfl 142 _ _ rfl g _ rfl rfl _ _ HZ.out sg_size (by first | rfl | simp) (by simp [Value.oneCell']) ?_; intro w9 hb9 hf9; have HB9 := zh hb9; have HF9 := zh hf9; clear hb9 hf9)
  refine ret_rowA (p := 4) (T := 142) rfl g _ _ rfl HB9.out Tryz.underlying142 rfl sg_size rfl ?_; refine ⟨?_, HF.out.trans' HF9.out (by simp; have := HG.out; omega)⟩; first | (rw [HE.out]; rfl) | (rw [HE.out]; unfold signC sgC badS; simp; done) | (rw [HE.out]; unfold signC sgC badS; simp; omega) | (rw [HE.out]; unfold signC sgC badS; have := HEK.out; simp; omega)
 case pos =>
  subst h123; have HSI : Hid (signS bs i = rintS bs i) := zh (by rw [HSG3.out, if_pos rfl]); clear HSG3; unfold rintS at HSI; simp only [] at HSI; have HN : Hid (∀ W, Calls Tryz.prog 69 #[.string S, .int .i64 ((i : Int) + 1)] W fun e w' => e = .returned (.tuple #[.int .i64 ((rnumS (bs.drop (i + 1))).1 : Int), .int .i64 ((rnumS (bs.drop (i + 1))).2 : Int)]) ∧ W = w') := zh (fun W => by have := HNUM.out (i + 1) (by omega) W; simpa using this); obtain ⟨hn3, hv9, -⟩ := rnum_le (bs.drop (i + 1)); obtain ⟨v, hv⟩ : ∃ v, v = (rnumS (bs.drop (i + 1))).1 := ⟨_, rfl⟩; obtain ⟨n, hn⟩ : ∃ n, n = (rnumS (bs.drop (i + 1))).2 := ⟨_, rfl⟩; rw [← hv] at HN hv9 HSI; rw [← hn] at HN hn3 HSI; clear hv hn; go_upto_region 14 with (go_at_call 69; refine (HN.out _).mono ?_; rintro e w2 ⟨rfl, rfl⟩)
  by_cases hn0 : n = 0
  ·subst hn0; have HE : Hid (signS bs i = (0, 0, 0)) := zh (by rw [HSI.out, if_pos (.inl rfl)]); go_wp2_with (refine wpList_store_bkA rfl 142 _ _ rfl g _ rfl rfl _ _ HZ.out sg_size (by first | rfl | simp) (by simp [Value.oneCell']) ?_; intro w9 hb9 hf9; have HB9 := zh hb9; have HF9 := zh hf9; clear hb9 hf9)
   refine ret_rowA (p := 4) (T := 142) rfl g _ _ rfl HB9.out Tryz.underlying142 rfl sg_size rfl ?_; refine ⟨?_, HF.out.trans' HF9.out (by simp; have := HG.out; omega)⟩; first | (rw [HE.out]; rfl) | (rw [HE.out]; unfold signC sgC badS; simp; done) | (rw [HE.out]; unfold signC sgC badS; simp; omega) | (rw [HE.out]; unfold signC sgC badS; have := HEK.out; simp; omega)
  have tn0 : ((n : Int) == 0) = false := by simp; omega
  by_cases hk : L ≤ i + 1 + n
  ·have hkI : (L : Int) ≤ (i : Int) + 1 + (n : Int) := by omega
   have HE : Hid (signS bs i = (0, 0, 0)) := zh (by rw [HSI.out, if_pos (.inr (by rw [← HL.out]; exact hk))]); go_wp2_with (refine wpList_store_bkA rfl 142 _ _ rfl g _ rfl rfl _ _ HZ.out sg_size (by first | rfl | simp) (by simp [Value.oneCell']) ?_; intro w9 hb9 hf9; have HB9 := zh hb9; have HF9 := zh hf9; clear hb9 hf9)
   refine ret_rowA (p := 4) (T := 142) rfl g _ _ rfl HB9.out Tryz.underlying142 rfl sg_size rfl ?_; refine ⟨?_, HF.out.trans' HF9.out (by simp; have := HG.out; omega)⟩; first | (rw [HE.out]; rfl) | (rw [HE.out]; unfold signC sgC badS; simp; done) | (rw [HE.out]; unfold signC sgC badS; simp; omega) | (rw [HE.out]; unfold signC sgC badS; have := HEK.out; simp; omega)
  have hkI : ¬ ((L : Int) ≤ (i : Int) + 1 + (n : Int)) := by omega
  rw [if_neg (by rw [← HL.out]; omega)] at HSI; have i2 := HIX.out (i + 1 + n) (by omega); obtain ⟨k, hk2⟩ : ∃ k, k = i + 1 + n := ⟨_, rfl⟩; have hkL : k < L := by omega
  have ek : (i : Int) + 1 + (n : Int) = (k : Int) := by omega
  rw [← hk2] at i2 HSI; have HKE := zh hk2; clear hk2 hk hkI; rw [ek]; obtain ⟨y, hy⟩ : ∃ y, y = bn bs k := ⟨_, rfl⟩; have hyl : y < 256 := by rw [hy]; exact bn_lt _ _
  rw [← hy] at i2 HSI; clear hy ek; have hkI : (k : Int) < (L : Int) := by omega
  by_cases h44 : y = 44
  ·subst h44; rw [if_pos rfl] at HSI; have HN2 : Hid (∀ W, Calls Tryz.prog 69 #[.string S, .int .i64 ((k : Int) + 1)] W fun e w' => e = .returned (.tuple #[.int .i64 ((rnumS (bs.drop (k + 1))).1 : Int), .int .i64 ((rnumS (bs.drop (k + 1))).2 : Int)]) ∧ W = w') := zh (fun W => by have := HNUM.out (k + 1) (by omega) W; simpa using this); obtain ⟨hm3, hu9, -⟩ := rnum_le (bs.drop (k + 1)); obtain ⟨u, hu⟩ : ∃ u, u = (rnumS (bs.drop (k + 1))).1 := ⟨_, rfl⟩; obtain ⟨m, hm⟩ : ∃ m, m = (rnumS (bs.drop (k + 1))).2 := ⟨_, rfl⟩; rw [← hu] at HN2 hu9 HSI; rw [← hm] at HN2 hm3 HSI; clear hu hm; go_upto_region 20 with (go_at_call 69; refine (HN2.out _).mono ?_; rintro e w2 ⟨rfl, rfl⟩)
   obtain ⟨k2, hk2⟩ : ∃ k2, k2 = k + 1 + m := ⟨_, rfl⟩; have ek : (k : Int) + 1 + (m : Int) = (k2 : Int) := by omega
   rw [← hk2] at HSI; have HKF := zh hk2; have hk2b : k2 ≤ 2000000 := by omega
   have hk2c : (k : Int) ≤ (k2 : Int) := by omega
   have hkik : (i : Int) ≤ (k : Int) := by have := HKE.out; omega
   clear hk2; obtain ⟨t, ht⟩ : ∃ t : Int, t = (if m = 0 then -1 else (u : Int)) := ⟨_, rfl⟩; have htb : -1 ≤ t ∧ t ≤ 999 := by rw [ht]; split <;> omega
   rw [← ht] at HSI; have hmc : (m = 0 ∧ t = -1) ∨ (m ≠ 0 ∧ t = (u : Int)) := by by_cases h : m = 0 <;> simp_all
   clear ht; have hcc : L ≤ k2 ∨ (k2 < L ∧ bn bs k2 ≠ 125) ∨ (k2 < L ∧ bn bs k2 = 125) := by omega
   rcases hcc with hc | ⟨hc, h125⟩ | ⟨hc, h125⟩
   ·have hcI : (L : Int) ≤ (k2 : Int) := by omega
    have HE : Hid (signS bs i = (0, 0, 0)) := zh (by rw [HSI.out, if_pos (.inl (by rw [← HL.out]; exact hc))]); rcases hmc with ⟨rfl, -⟩ | ⟨hm0, -⟩
    ·have ek0 : (k : Int) + 1 = (k2 : Int) := by omega
     have hcI2 : (L : Int) ≤ (k : Int) + 1 := by omega
     clear ek; go_wp2_with (refine wpList_store_bkA rfl 142 _ _ rfl g _ rfl rfl _ _ HZ.out sg_size (by first | rfl | simp) (by simp [Value.oneCell']) ?_; intro w9 hb9 hf9; have HB9 := zh hb9; have HF9 := zh hf9; clear hb9 hf9)
     refine ret_rowA (p := 4) (T := 142) rfl g _ _ rfl HB9.out Tryz.underlying142 rfl sg_size rfl ?_; refine ⟨?_, HF.out.trans' HF9.out (by simp; have := HG.out; omega)⟩; first | (rw [HE.out]; rfl) | (rw [HE.out]; unfold signC sgC badS; simp; done) | (rw [HE.out]; unfold signC sgC badS; simp; omega) | (rw [HE.out]; unfold signC sgC badS; have := HEK.out; simp; omega)
    ·have tm : ((m : Int) == 0) = false := by simp; omega
     have hcI2 : (L : Int) ≤ (k : Int) + 1 + (m : Int) := by omega
     clear ek; go_wp2_with (refine wpList_store_bkA rfl 142 _ _ rfl g _ rfl rfl _ _ HZ.out sg_size (by first | rfl | simp) (by simp [Value.oneCell']) ?_; intro w9 hb9 hf9; have HB9 := zh hb9; have HF9 := zh hf9; clear hb9 hf9)
     refine ret_rowA (p := 4) (T := 142) rfl g _ _ rfl HB9.out Tryz.underlying142 rfl sg_size rfl ?_; refine ⟨?_, HF.out.trans' HF9.out (by simp; have := HG.out; omega)⟩; first | (rw [HE.out]; rfl) | (rw [HE.out]; unfold signC sgC badS; simp; done) | (rw [HE.out]; unfold signC sgC badS; simp; omega) | (rw [HE.out]; unfold signC sgC badS; have := HEK.out; simp; omega)
   ·have HE : Hid (signS bs i = (0, 0, 0)) := zh (by rw [HSI.out, if_pos (.inr h125)]); have i3 := HIX.out k2 hc; obtain ⟨z, hz⟩ : ∃ z, z = bn bs k2 := ⟨_, rfl⟩; have hzl : z < 256 := by rw [hz]; exact bn_lt _ _
    rw [← hz] at i3 h125; clear hz; have tz : ((z : Int) != 125) = true := by simp; omega
    rw [← ek] at i3; rcases hmc with ⟨rfl, -⟩ | ⟨hm0, -⟩
    ·have hcI2 : (k : Int) + 1 < (L : Int) := by omega
     rw [show (k : Int) + 1 + ((0 : Nat) : Int) = (k : Int) + 1 by omega] at i3; clear ek; go_wp2_with (refine wpList_store_bkA rfl 142 _ _ rfl g _ rfl rfl _ _ HZ.out sg_size (by first | rfl | simp) (by simp [Value.oneCell']) ?_; intro w9 hb9 hf9; have HB9 := zh hb9; have HF9 := zh hf9; clear hb9 hf9)
     refine ret_rowA (p := 4) (T := 142) rfl g _ _ rfl HB9.out Tryz.underlying142 rfl sg_size rfl ?_; refine ⟨?_, HF.out.trans' HF9.out (by simp; have := HG.out; omega)⟩; first | (rw [HE.out]; rfl) | (rw [HE.out]; unfold signC sgC badS; simp; done) | (rw [HE.out]; unfold signC sgC badS; simp; omega) | (rw [HE.out]; unfold signC sgC badS; have := HEK.out; simp; omega)
    ·have tm : ((m : Int) == 0) = false := by simp; omega
     have hcI2 : (k : Int) + 1 + (m : Int) < (L : Int) := by omega
     clear ek; go_wp2_with (refine wpList_store_bkA rfl 142 _ _ rfl g _ rfl rfl _ _ HZ.out sg_size (by first | rfl | simp) (by simp [Value.oneCell']) ?_; intro w9 hb9 hf9; have HB9 := zh hb9; have HF9 := zh hf9; clear hb9 hf9)
     refine ret_rowA (p := 4) (T := 142) rfl g _ _ rfl HB9.out Tryz.underlying142 rfl sg_size rfl ?_; refine ⟨?_, HF.out.trans' HF9.out (by simp; have := HG.out; omega)⟩; first | (rw [HE.out]; rfl) | (rw [HE.out]; unfold signC sgC badS; simp; done) | (rw [HE.out]; unfold signC sgC badS; simp; omega) | (rw [HE.out]; unfold signC sgC badS; have := HEK.out; simp; omega)
   ·have HE : Hid (signS bs i = ((v : Int), t, k2 + 1 - i)) := zh (by rw [HSI.out, if_neg (by rw [← HL.out]; omega)]); have i3 := HIX.out k2 hc; rw [h125, ← ek] at i3; clear h125; have HEK := zh ek; rcases hmc with ⟨rfl, rfl⟩ | ⟨hm0, rfl⟩
    ·have hcI2 : (k : Int) + 1 < (L : Int) := by omega
     rw [show (k : Int) + 1 + ((0 : Nat) : Int) = (k : Int) + 1 by omega] at i3; clear ek; by_cases hb1 : 255 < v
     ·have c1 : (255 : Int) < (v : Int) := by omega
      go_wp2_with (refine wpList_store_bkA rfl 142 _ _ rfl g _ rfl rfl _ _ HZ.out sg_size (by first | rfl | simp) (by simp [Value.oneCell']) ?_; intro w9 hb9 hf9; have HB9 := zh hb9; have HF9 := zh hf9; clear hb9 hf9)
      refine ret_rowA (p := 4) (T := 142) rfl g _ _ rfl HB9.out Tryz.underlying142 rfl sg_size rfl ?_; refine ⟨?_, HF.out.trans' HF9.out (by simp; have := HG.out; omega)⟩; first | (rw [HE.out]; rfl) | (rw [HE.out]; unfold signC sgC badS; simp; done) | (rw [HE.out]; unfold signC sgC badS; simp; omega) | (rw [HE.out]; unfold signC sgC badS; have := HEK.out; simp; omega)
     ·have c1 : ¬ ((255 : Int) < (v : Int)) := by omega
      go_wp2_with (refine wpList_store_bkA rfl 142 _ _ rfl g _ rfl rfl _ _ HZ.out sg_size (by first | rfl | simp) (by simp [Value.oneCell']) ?_; intro w9 hb9 hf9; have HB9 := zh hb9; have HF9 := zh hf9; clear hb9 hf9)
      refine ret_rowA (p := 4) (T := 142) rfl g _ _ rfl HB9.out Tryz.underlying142 rfl sg_size rfl ?_; refine ⟨?_, HF.out.trans' HF9.out (by simp; have := HG.out; omega)⟩; first | (rw [HE.out]; rfl) | (rw [HE.out]; unfold signC sgC badS; simp; done) | (rw [HE.out]; unfold signC sgC badS; simp; omega) | (rw [HE.out]; unfold signC sgC badS; have := HEK.out; simp; omega)
    ·have tm : ((m : Int) == 0) = false := by simp; omega
     have hcI2 : (k : Int) + 1 + (m : Int) < (L : Int) := by omega
     clear ek; have hcb : 255 < v ∨ (v ≤ 255 ∧ 255 < u) ∨ (v ≤ 255 ∧ u ≤ 255 ∧ u < v) ∨ (v ≤ 255 ∧ u ≤ 255 ∧ v ≤ u) := by omega
     rcases hcb with hb1 | ⟨hb1, hb2⟩ | ⟨hb1, hb2, hb3⟩ | ⟨hb1, hb2, hb3⟩
     ·have c1 : (255 : Int) < (v : Int) := by omega
      go_wp2_with (refine wpList_store_bkA rfl 142 _ _ rfl g _ rfl rfl _ _ HZ.out sg_size (by first | rfl | simp) (by simp [Value.oneCell']) ?_; intro w9 hb9 hf9; have HB9 := zh hb9; have HF9 := zh hf9; clear hb9 hf9)
      refine ret_rowA (p := 4) (T := 142) rfl g _ _ rfl HB9.out Tryz.underlying142 rfl sg_size rfl ?_; refine ⟨?_, HF.out.trans' HF9.out (by simp; have := HG.out; omega)⟩; first | (rw [HE.out]; rfl) | (rw [HE.out]; unfold signC sgC badS; simp; done) | (rw [HE.out]; unfold signC sgC badS; simp; omega) | (rw [HE.out]; unfold signC sgC badS; have := HEK.out; simp; omega)
     ·have c1 : ¬ ((255 : Int) < (v : Int)) := by omega
      have c2 : (255 : Int) < (u : Int) := by omega
      go_wp2_with (refine wpList_store_bkA rfl 142 _ _ rfl g _ rfl rfl _ _ HZ.out sg_size (by first | rfl | simp) (by simp [Value.oneCell']) ?_; intro w9 hb9 hf9; have HB9 := zh hb9; have HF9 := zh hf9; clear hb9 hf9)
      refine ret_rowA (p := 4) (T := 142) rfl g _ _ rfl HB9.out Tryz.underlying142 rfl sg_size rfl ?_; refine ⟨?_, HF.out.trans' HF9.out (by simp; have := HG.out; omega)⟩; first | (rw [HE.out]; rfl) | (rw [HE.out]; unfold signC sgC badS; simp; done) | (rw [HE.out]; unfold signC sgC badS; simp; omega) | (rw [HE.out]; unfold signC sgC badS; have := HEK.out; simp; omega)
     ·have c1 : ¬ ((255 : Int) < (v : Int)) := by omega
      have c2 : ¬ ((255 : Int) < (u : Int)) := by omega
      have c3 : (u : Int) < (v : Int) := by omega
      go_wp2_with (refine wpList_store_bkA rfl 142 _ _ rfl g _ rfl rfl _ _ HZ.out sg_size (by first | rfl | simp) (by simp [Value.oneCell']) ?_; intro w9 hb9 hf9; have HB9 := zh hb9; have HF9 := zh hf9; clear hb9 hf9)
      refine ret_rowA (p := 4) (T := 142) rfl g _ _ rfl HB9.out Tryz.underlying142 rfl sg_size rfl ?_; refine ⟨?_, HF.out.trans' HF9.out (by simp; have := HG.out; omega)⟩; first | (rw [HE.out]; rfl) | (rw [HE.out]; unfold signC sgC badS; simp; done) | (rw [HE.out]; unfold signC sgC badS; simp; omega) | (rw [HE.out]; unfold signC sgC badS; have := HEK.out; simp; omega)
     ·have c1 : ¬ ((255 : Int) < (v : Int)) := by omega
      have c2 : ¬ ((255 : Int) < (u : Int)) := by omega
      have c3 : ¬ ((u : Int) < (v : Int)) := by omega
      go_wp2_with (refine wpList_store_bkA rfl 142 _ _ rfl g _ rfl rfl _ _ HZ.out sg_size (by first | rfl | simp) (by simp [Value.oneCell']) ?_; intro w9 hb9 hf9; have HB9 := zh hb9; have HF9 := zh hf9; clear hb9 hf9)
      refine ret_rowA (p := 4) (T := 142) rfl g _ _ rfl HB9.out Tryz.underlying142 rfl sg_size rfl ?_; refine ⟨?_, HF.out.trans' HF9.out (by simp; have := HG.out; omega)⟩; first | (rw [HE.out]; rfl) | (rw [HE.out]; unfold signC sgC badS; simp; done) | (rw [HE.out]; unfold signC sgC badS; simp; omega) | (rw [HE.out]; unfold signC sgC badS; have := HEK.out; simp; omega)
  ·have t44 : ((y : Int) == 44) = false := by simp; omega
   rw [if_neg h44] at HSI; by_cases h125 : y = 125
   ·subst h125; rw [if_pos rfl] at HSI; have HE : Hid (signS bs i = ((v : Int), (v : Int), k + 1 - i)) := zh HSI.out; have hkik : (i : Int) ≤ (k : Int) := by have := HKE.out; omega
    by_cases hb1 : 255 < v
    ·have c1 : (255 : Int) < (v : Int) := by omega
     go_wp2_with (refine wpList_store_bkA rfl 142 _ _ rfl g _ rfl rfl _ _ HZ.out sg_size (by first | rfl | simp) (by simp [Value.oneCell']) ?_; intro w9 hb9 hf9; have HB9 := zh hb9; have HF9 := zh hf9; clear hb9 hf9)
     refine ret_rowA (p := 4) (T := 142) rfl g _ _ rfl HB9.out Tryz.underlying142 rfl sg_size rfl ?_; refine ⟨?_, HF.out.trans' HF9.out (by simp; have := HG.out; omega)⟩; first | (rw [HE.out]; rfl) | (rw [HE.out]; unfold signC sgC badS; simp; done) | (rw [HE.out]; unfold signC sgC badS; simp; omega) | (rw [HE.out]; unfold signC sgC badS; have := HEK.out; simp; omega)
    ·have c1 : ¬ ((255 : Int) < (v : Int)) := by omega
     go_wp2_with (refine wpList_store_bkA rfl 142 _ _ rfl g _ rfl rfl _ _ HZ.out sg_size (by first | rfl | simp) (by simp [Value.oneCell']) ?_; intro w9 hb9 hf9; have HB9 := zh hb9; have HF9 := zh hf9; clear hb9 hf9)
     refine ret_rowA (p := 4) (T := 142) rfl g _ _ rfl HB9.out Tryz.underlying142 rfl sg_size rfl ?_; refine ⟨?_, HF.out.trans' HF9.out (by simp; have := HG.out; omega)⟩; first | (rw [HE.out]; rfl) | (rw [HE.out]; unfold signC sgC badS; simp; done) | (rw [HE.out]; unfold signC sgC badS; simp; omega) | (rw [HE.out]; unfold signC sgC badS; have := HEK.out; simp; omega)
   ·have t125 : ((y : Int) != 125) = true := by simp; omega
    have HE : Hid (signS bs i = (0, 0, 0)) := zh (by rw [HSI.out, if_neg h125]); go_wp2_with (refine wpList_store_bkA rfl 142 _ _ rfl g _ rfl rfl _ _ HZ.out sg_size (by first | rfl | simp) (by simp [Value.oneCell']) ?_; intro w9 hb9 hf9; have HB9 := zh hb9; have HF9 := zh hf9; clear hb9 hf9)
    refine ret_rowA (p := 4) (T := 142) rfl g _ _ rfl HB9.out Tryz.underlying142 rfl sg_size rfl ?_; refine ⟨?_, HF.out.trans' HF9.out (by simp; have := HG.out; omega)⟩; first | (rw [HE.out]; rfl) | (rw [HE.out]; unfold signC sgC badS; simp; done) | (rw [HE.out]; unfold signC sgC badS; simp; omega) | (rw [HE.out]; unfold signC sgC badS; have := HEK.out; simp; omega)
end Go.Proofs.YteofhjegaaoglaaGreat
