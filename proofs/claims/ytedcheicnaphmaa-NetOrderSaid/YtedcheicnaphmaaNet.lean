/-
  A net in memory: its block, the row of its wires, each wire's block and its two slices of bytes. at, up, Len, Accept, Connect. No conditions on the program.
-/
import Derived.Test.YtedcheicnaphmaaRows
import Derived.Test.YtedcheicnaphmaaOwn
import Derived.Test.YtedcheicnaphmaaDrawn
import Derived.LoopTactic
import Derived.Deep.QuietTactic
import Derived.BigQuiet
namespace Go.Proofs.Ytedcheicnaphmaa
open Go.RowKit
set_option linter.unusedVariables false
set_option linter.unusedSimpArgs false

/-- A wire, as numbers and bytes. -/
structure Wr where
  st : Int
  nm : List UInt8
  inn : List UInt8
  win : Int
  got : List UInt8
  en : Bool
  sh : Bool
  rs : Bool
  fr : Bool
instance : Inhabited Wr := ⟨⟨0, [], [], 0, [], false, false, false, false⟩⟩
def wCells (x : Wr) (iv gv : Value) : Array Value := #[.int .i64 x.st, .string ⟨x.nm.toArray⟩, iv, .int .i64 x.win, gv, .bool x.en, .bool x.sh, .bool x.rs, .bool x.fr]
theorem w_cells {w : World} {g : Nat} {t : TypeId} {x : Wr} {iv gv : Value} (h : Bk w g t (wCells x iv gv)) :
    w.cell? ⟨g, 0, none⟩ = some (.int .i64 x.st) ∧ w.cell? ⟨g, 1, none⟩ = some (.string ⟨x.nm.toArray⟩) ∧ w.cell? ⟨g, 2, none⟩ = some iv ∧ w.cell? ⟨g, 3, none⟩ = some (.int .i64 x.win) ∧
      w.cell? ⟨g, 4, none⟩ = some gv ∧ w.cell? ⟨g, 5, none⟩ = some (.bool x.en) ∧ w.cell? ⟨g, 6, none⟩ = some (.bool x.sh) ∧ w.cell? ⟨g, 7, none⟩ = some (.bool x.rs) ∧ w.cell? ⟨g, 8, none⟩ = some (.bool x.fr) :=
  ⟨h.cell_ rfl, h.cell_ rfl, h.cell_ rfl, h.cell_ rfl, h.cell_ rfl, h.cell_ rfl, h.cell_ rfl, h.cell_ rfl, h.cell_ rfl⟩

/-- The pointers of a net's row. -/
def ptrs (G : Nat → Nat) (n : Nat) : List Value := (List.range n).map fun i => .pointer (some ⟨G i, 0, none⟩)
theorem ptrs_length (G : Nat → Nat) (n : Nat) : (ptrs G n).length = n := by simp [ptrs]
theorem ptrs_get (G : Nat → Nat) {n i : Nat} (h : i < n) : (ptrs G n)[i]? = some (.pointer (some ⟨G i, 0, none⟩)) := by simp [ptrs, h]
theorem ptrs_one (G : Nat → Nat) (n : Nat) : ∀ u ∈ ptrs G n, u.oneCell' = true := by
  intro u hu
  obtain ⟨i, _, rfl⟩ := List.mem_map.1 hu
  rfl
theorem ptrs_succ (G : Nat → Nat) (n g : Nat) : ptrs (fun i => if i = n then g else G i) (n + 1) = ptrs G n ++ [.pointer (some ⟨g, 0, none⟩)] := by
  unfold ptrs
  rw [List.range_succ, List.map_append]
  congr 1
  · refine List.map_congr_left fun i hi => ?_
    have : i ≠ n := by have := List.mem_range.1 hi; omega
    simp [this]
  · simp

/-- The net at block n, its time, its wires; all its blocks lie from B on. -/
structure NetR (w : World) (B n : Nat) (now : Int) (ws : List Wr) (v : Value) (G : Nat → Nat) (IV GV : Nat → Value) : Prop where
  net : Bk w n 57 #[.int .i64 now, v]
  row : Own w 58 v (ptrs G ws.length)
  wire : ∀ i, i < ws.length → Bk w (G i) 60 (wCells (ws.getD i default) (IV i) (GV i))
  inn : ∀ i, i < ws.length → Own w 5 (IV i) (byteVals (ws.getD i default).inn)
  got : ∀ i, i < ws.length → Own w 5 (GV i) (byteVals (ws.getD i default).got)
  gne : ∀ i j, i < ws.length → j < ws.length → i ≠ j → G i ≠ G j
  ine : ∀ i j k, i < ws.length → j < ws.length → i ≠ j → (IV i).ownBlock = some k → (IV j).ownBlock ≠ some k
  gve : ∀ i j k, i < ws.length → j < ws.length → i ≠ j → (GV i).ownBlock = some k → (GV j).ownBlock ≠ some k
  ige : ∀ i j k, i < ws.length → j < ws.length → (IV i).ownBlock = some k → (GV j).ownBlock ≠ some k
  bn : B ≤ n
  brow : ∀ k, v.ownBlock = some k → B ≤ k
  bg : ∀ i, i < ws.length → B ≤ G i
  bi : ∀ i k, i < ws.length → (IV i).ownBlock = some k → B ≤ k
  bgv : ∀ i k, i < ws.length → (GV i).ownBlock = some k → B ≤ k
def NetS (w : World) (B n : Nat) (now : Int) (ws : List Wr) : Prop := ∃ v G IV GV, NetR w B n now ws v G IV GV

/-- A change that leaves all below B as it was, and from there on all that no net has. -/
structure NFr (B : Nat) (w w' : World) : Prop where
  os : w'.os = w.os
  tape : w'.tape = w.tape
  output : w'.output = w.output
  size : w.heap.size ≤ w'.heap.size
  block : ∀ k, k < w.heap.size → (k < B ∨ ∃ cs t fz, w.heap[k]? = some (.cells cs t fz) ∧ t ≠ 5 ∧ t ≠ 58 ∧ t ≠ 60 ∧ t ≠ 57) → w'.heap[k]? = w.heap[k]?
namespace NFr
variable {B : Nat} {a b c w w' : World}
theorem refl (B : Nat) (w : World) : NFr B w w := ⟨rfl, rfl, rfl, Nat.le_refl _, fun _ _ _ => rfl⟩
theorem trans (h : NFr B a b) (k : NFr B b c) : NFr B a c :=
  ⟨k.os.trans h.os, k.tape.trans h.tape, k.output.trans h.output, Nat.le_trans h.size k.size, fun i hi hc => by
    have e1 := h.block i hi hc
    refine (k.block i (Nat.lt_of_lt_of_le hi h.size) ?_).trans e1
    rcases hc with hc | ⟨cs, t, fz, h1, h2⟩
    · exact .inl hc
    · exact .inr ⟨cs, t, fz, by rw [e1]; exact h1, h2⟩⟩
theorem of_fr (h : Fr [] w w') : NFr B w w' := ⟨h.os, h.tape, h.output, h.size, fun k hk _ => h.block k hk (by simp)⟩
theorem below (h : NFr B w w') (hB : B ≤ w.heap.size) : Below B w w' := ⟨h.os, h.tape, h.output, h.size, fun k hk => h.block k (by omega) (.inl hk)⟩
/-- A block of another type stays. -/
theorem bk (h : NFr B w w') {g : Nat} {t : TypeId} {cs : Array Value} (hb : Bk w g t cs) (h1 : t ≠ 5) (h2 : t ≠ 58) (h3 : t ≠ 60) (h4 : t ≠ 57) : Bk w' g t cs :=
  (h.block g hb.lt (.inr ⟨cs, t, (0, 0), hb, h1, h2, h3, h4⟩)).trans hb
end NFr
theorem NetR.fr_nil {w w' : World} {B n : Nat} {now : Int} {ws : List Wr} {v : Value} {G : Nat → Nat} {IV GV : Nat → Value} (h : NetR w B n now ws v G IV GV) (hf : Fr [] w w') : NetR w' B n now ws v G IV GV :=
  { h with net := h.net.fr hf (by simp), row := h.row.fr hf (by simp), wire := fun i hi => (h.wire i hi).fr hf (by simp), inn := fun i hi => (h.inn i hi).fr hf (by simp), got := fun i hi => (h.got i hi).fr hf (by simp) }
theorem NetS.fr_nil {w w' : World} {B n : Nat} {now : Int} {ws : List Wr} (h : NetS w B n now ws) (hf : Fr [] w w') : NetS w' B n now ws := by
  obtain ⟨v, G, IV, GV, h⟩ := h
  exact ⟨v, G, IV, GV, h.fr_nil hf⟩
/-- Where the row lies. -/
theorem NetR.row_at {w : World} {B n : Nat} {now : Int} {ws : List Wr} {v : Value} {G : Nat → Nat} {IV GV : Nat → Value} (h : NetR w B n now ws v G IV GV) :
    ∃ A cap, v = .slice A ws.length cap ∧ ws.length ≤ cap ∧ cap ≤ maxLen ∧ ∀ i, i < ws.length → ∃ b off, A = some ⟨b, off, none⟩ ∧ w.cell? ⟨b, off + i, none⟩ = some (.pointer (some ⟨G i, 0, none⟩)) := by
  obtain ⟨A, cap, rfl, h1, h2, h3⟩ := h.row
  rw [ptrs_length] at h1 h3
  refine ⟨A, cap, by rw [ptrs_length], h1, h2, fun i hi => ?_⟩
  rcases h3 with ⟨rfl, h3⟩ | ⟨g, off, cur, rfl, hg, h4, h5⟩
  · omega
  · refine ⟨g, off, rfl, ?_⟩
    have hb : Bk w g 58 cur := hg
    rw [hb.cell]
    have := ptrs_get G hi
    rw [← h5, List.getElem?_take, if_pos hi, List.getElem?_drop] at this
    simpa using this

theorem new_any (w : World) : Calls Try.prog 8 #[] w fun e w' => e = .returned (.pointer (some ⟨w.heap.size, 0, none⟩)) ∧ w' = w.alloc (.cells #[.int .i64 0, .slice none 0 0] 57) := by
  go_enter Try.func8, Try.ntmps8
  go_wp2_with fail
  go_ret
  exact ⟨rfl, rfl⟩
theorem net_new {w : World} {B : Nat} (hB : B ≤ w.heap.size) : NetS (w.alloc (.cells #[.int .i64 0, .slice none 0 0] 57)) B w.heap.size 0 [] :=
  ⟨.slice none 0 0, fun _ => 0, fun _ => .slice none 0 0, fun _ => .slice none 0 0, Bk.new w _ _, Own.nil_ _ _, by simp, by simp, by simp, by simp, by simp, by simp, by simp, hB, by simp [Value.ownBlock], by simp, by simp, by simp⟩

theorem len_any {w : World} {B n : Nat} {now : Int} {ws : List Wr} (h : NetS w B n now ws) :
    Calls Try.prog 12 #[.pointer (some ⟨n, 0, none⟩)] w fun e w' => e = .returned (.int .i64 ws.length) ∧ w = w' := by
  obtain ⟨v, G, IV, GV, h⟩ := h
  obtain ⟨A, cap, rfl, -⟩ := h.row_at
  have c1 := h.net.cell_ (i := 1) rfl
  clear h
  go_enter Try.func12, Try.ntmps12
  go_wp2_with fail
  go_ret
  exact ⟨rfl, rfl⟩

theorem Own.ne_bk {w : World} {e : TypeId} {v : Value} {xs : List Value} {g : Nat} {t : TypeId} {cs : Array Value} (h : Own w e v xs) (hb : Bk w g t cs) (hne : e ≠ t) : v.ownBlock ≠ some g := by
  obtain ⟨A, cap, rfl, -, -, ⟨rfl, -⟩ | ⟨g', off, cur, rfl, hg, -⟩⟩ := h
  · simp [Value.ownBlock]
  · intro hk
    simp [Value.ownBlock] at hk
    subst hk
    exact Bk.ne_ (g := g') (cs := cur) hg hb hne rfl
theorem Own.ne_own {w : World} {e e' : TypeId} {v v' : Value} {xs xs' : List Value} (h : Own w e v xs) (h' : Own w e' v' xs') (hne : e ≠ e') : ∀ k, v.ownBlock = some k → v'.ownBlock ≠ some k := by
  obtain ⟨A, cap, rfl, -, -, ⟨rfl, -⟩ | ⟨g', off, cur, rfl, hg, -⟩⟩ := h
  · intro k hk; simp [Value.ownBlock] at hk
  · intro k hk
    simp [Value.ownBlock] at hk
    subst hk
    have hb : Bk w g' e cur := hg
    exact h'.ne_bk hb (fun e => hne e.symm)
/-- What changes in the net's own blocks alone. -/
theorem NFr.own {w w' : World} {B : Nat} (l : List Nat) (hf : Fr l w w') (hl : ∀ k ∈ l, B ≤ k ∧ (w.heap.size ≤ k ∨ ∃ cs t fz, w.heap[k]? = some (.cells cs t fz) ∧ (t = 5 ∨ t = 58 ∨ t = 60 ∨ t = 57))) : NFr B w w' :=
  ⟨hf.os, hf.tape, hf.output, hf.size, fun k hk hc => hf.block k hk (fun hm => by
    obtain ⟨h1, h2⟩ := hl k hm
    rcases hc with hc | ⟨cs, t, fz, h3, h4, h5, h6, h7⟩
    · omega
    · rcases h2 with h2 | ⟨cs', t', fz', h8, h9⟩
      · omega
      · rw [h3] at h8
        injection h8 with h8
        injection h8 with _ h8 _
        subst h8
        rcases h9 with h9 | h9 | h9 | h9
        · exact h4 h9
        · exact h5 h9
        · exact h6 h9
        · exact h7 h9)⟩
/-- A wire's own cells are written. -/
theorem NetR.putW {w w' : World} {B n : Nat} {now : Int} {ws : List Wr} {v : Value} {G : Nat → Nat} {IV GV : Nat → Value} (h : NetR w B n now ws v G IV GV) {k : Nat} (hk : k < ws.length) (x : Wr)
    (hf : Fr [G k] w w') (hb : Bk w' (G k) 60 (wCells x (IV k) (GV k))) (h1 : x.inn = (ws.getD k default).inn) (h2 : x.got = (ws.getD k default).got) : NetR w' B n now (ws.set k x) v G IV GV := by
  have hw := h.wire k hk
  have hget : ∀ i, i < ws.length → (ws.set k x).getD i default = if i = k then x else ws.getD i default := by
    intro i hi
    by_cases e : i = k
    · subst e; simp [hi]
    · simp [List.getElem?_set, e, Ne.symm e]
  have hin : ∀ i, i < ws.length → ((ws.set k x).getD i default).inn = (ws.getD i default).inn := by
    intro i hi; rw [hget i hi]; split
    · rename_i e; subst e; exact h1
    · rfl
  have hgo : ∀ i, i < ws.length → ((ws.set k x).getD i default).got = (ws.getD i default).got := by
    intro i hi; rw [hget i hi]; split
    · rename_i e; subst e; exact h2
    · rfl
  have hlen : (ws.set k x).length = ws.length := by simp
  refine ⟨h.net.fr hf (by simpa using h.net.ne_ hw (by decide)), ?_, ?_, ?_, ?_, ?_, ?_, ?_, ?_, h.bn, h.brow, ?_, ?_, ?_⟩
  · rw [hlen]; exact h.row.fr hf (fun b hb' => by have := h.row.ne_bk hw (by decide); simp; rintro rfl; exact this hb')
  all_goals rw [hlen]
  · intro i hi
    rw [hget i hi]
    by_cases e : i = k
    · subst e; rw [if_pos rfl]; exact hb
    · rw [if_neg e]; exact (h.wire i hi).fr hf (by simpa using h.gne i k hi hk e)
  · intro i hi
    rw [hin i hi]
    exact (h.inn i hi).fr hf (fun b hb' => by have := (h.inn i hi).ne_bk hw (by decide); simp; rintro rfl; exact this hb')
  · intro i hi
    rw [hgo i hi]
    exact (h.got i hi).fr hf (fun b hb' => by have := (h.got i hi).ne_bk hw (by decide); simp; rintro rfl; exact this hb')
  · exact h.gne
  · exact h.ine
  · exact h.gve
  · exact h.ige
  · exact h.bg
  · exact h.bi
  · exact h.bgv
/-- One wire more. -/
theorem NetR.push {w w' : World} {B n : Nat} {now : Int} {ws : List Wr} {v : Value} {G : Nat → Nat} {IV GV : Nat → Value} (h : NetR w B n now ws v G IV GV) (hB : B ≤ w.heap.size) (x : Wr) (h1 : x.inn = []) (h2 : x.got = []) (v' : Value) (g : Nat)
    (hg : w.heap.size ≤ g) (hb : Bk w' g 60 (wCells x (.slice none 0 0) (.slice none 0 0))) (hrow : Own w' 58 v' (ptrs G ws.length ++ [.pointer (some ⟨g, 0, none⟩)])) (hnet : Bk w' n 57 #[.int .i64 now, v'])
    (hv : v'.ownBlock = v.ownBlock ∨ ∃ k, v'.ownBlock = some k ∧ w.heap.size ≤ k) (hk : ∀ k, k < w.heap.size → k ≠ n → v.ownBlock ≠ some k → w'.heap[k]? = w.heap[k]?) :
    NetR w' B n now (ws ++ [x]) v' (fun i => if i = ws.length then g else G i) (fun i => if i = ws.length then .slice none 0 0 else IV i) (fun i => if i = ws.length then .slice none 0 0 else GV i) := by
  have hlen : (ws ++ [x]).length = ws.length + 1 := by simp
  have hget : ∀ i, i < ws.length + 1 → (ws ++ [x]).getD i default = if i = ws.length then x else ws.getD i default := by
    intro i hi
    by_cases e : i = ws.length
    · subst e; simp
    · rw [if_neg e]; have : i < ws.length := by omega
      simp [List.getElem?_append_left this]
  have glt : ∀ i, i < ws.length → G i < w.heap.size := fun i hi => (h.wire i hi).lt
  have keepB : ∀ i, i < ws.length → w'.heap[G i]? = w.heap[G i]? := fun i hi => hk _ (glt i hi) (fun e => (h.net.ne_ (h.wire i hi) (by decide)) e.symm) (h.row.ne_bk (h.wire i hi) (by decide))
  have keepO : ∀ (u : Value) (ys : List Value), Own w 5 u ys → Own w' 5 u ys := fun u ys ho => ho.kept fun k hk' => hk k (ho.lt k hk') (fun e => ho.ne_bk h.net (by decide) (e ▸ hk')) (ho.ne_own h.row (by decide) k hk')
  refine ⟨hnet, ?_, ?_, ?_, ?_, ?_, ?_, ?_, ?_, h.bn, ?_, ?_, ?_, ?_⟩
  · rw [hlen, ptrs_succ]; exact hrow
  all_goals try rw [hlen]
  · intro i hi
    rw [hget i hi]
    by_cases e : i = ws.length
    · simp only [e, if_true]; exact hb
    · simp only [e, if_false]; exact (keepB i (by omega)).trans (h.wire i (by omega))
  · intro i hi
    rw [hget i hi]
    by_cases e : i = ws.length
    · simp only [e, if_true]; rw [h1]; exact Own.nil_ _ _
    · simp only [e, if_false]; exact keepO _ _ (h.inn i (by omega))
  · intro i hi
    rw [hget i hi]
    by_cases e : i = ws.length
    · simp only [e, if_true]; rw [h2]; exact Own.nil_ _ _
    · simp only [e, if_false]; exact keepO _ _ (h.got i (by omega))
  · intro i j hi hj hij
    try dsimp only
    by_cases e : i = ws.length
    · have e' : j ≠ ws.length := fun x => hij (e.trans x.symm)
      rw [if_pos e, if_neg e']
      have := glt j (by omega); omega
    · rw [if_neg e]
      by_cases e' : j = ws.length
      · rw [if_pos e']; have := glt i (by omega); omega
      · rw [if_neg e']; exact h.gne i j (by omega) (by omega) hij
  · intro i j k hi hj hij
    try dsimp only
    by_cases e : i = ws.length
    · rw [if_pos e]; simp [Value.ownBlock]
    · rw [if_neg e]
      by_cases e' : j = ws.length
      · rw [if_pos e']; simp [Value.ownBlock]
      · rw [if_neg e']; exact h.ine i j k (by omega) (by omega) hij
  · intro i j k hi hj hij
    try dsimp only
    by_cases e : i = ws.length
    · rw [if_pos e]; simp [Value.ownBlock]
    · rw [if_neg e]
      by_cases e' : j = ws.length
      · rw [if_pos e']; simp [Value.ownBlock]
      · rw [if_neg e']; exact h.gve i j k (by omega) (by omega) hij
  · intro i j k hi hj
    try dsimp only
    by_cases e : i = ws.length
    · rw [if_pos e]; simp [Value.ownBlock]
    · rw [if_neg e]
      by_cases e' : j = ws.length
      · rw [if_pos e']; simp [Value.ownBlock]
      · rw [if_neg e']; exact h.ige i j k (by omega) (by omega)
  · intro k hk'
    rcases hv with hv | ⟨k2, hv, hk2⟩
    · exact h.brow k (hv ▸ hk')
    · rw [hv] at hk'; injection hk' with hk'; omega
  · intro i hi
    try dsimp only
    by_cases e : i = ws.length
    · rw [if_pos e]; omega
    · rw [if_neg e]; exact h.bg i (by omega)
  · intro i k hi
    try dsimp only
    by_cases e : i = ws.length
    · rw [if_pos e]; simp [Value.ownBlock]
    · rw [if_neg e]; exact h.bi i k (by omega)
  · intro i k hi
    try dsimp only
    by_cases e : i = ws.length
    · rw [if_pos e]; simp [Value.ownBlock]
    · rw [if_neg e]; exact h.bgv i k (by omega)

theorem ptrParts : ∃ i, Try.prog.info? 58 = some i ∧ i.zero = some (.pointer none) ∧ i.size = 1 ∧ i.bytes = 8 := info_parts (by kernel_rfl)
theorem code_gen {P : Program} {c : Code} {Q : Exit → Act → World → Prop} {a : Act} {w : World} (h : ∀ W, W = w → c.wp P Q a W) : c.wp P Q a w := h w rfl
theorem calls_gen {P : Program} {f : FuncId} {args : Array Value} {R : Ending → World → Prop} {w : World} (h : ∀ W, W = w → Calls P f args W R) : Calls P f args w R := h w rfl
theorem body_gen {P : Program} {f : Func} {post : Ending → World → Prop} {ex : Exit} {a : Act} {w : World} (h : ∀ W, W = w → bodyPost P f post ex a W) : bodyPost P f post ex a w := h w rfl

/-- The place of a wire that is told. -/
def toldW (ws : List Wr) (i : Nat) : List Wr := ws.set i { ws.getD i default with fr := false }
theorem accept_yes {w : World} {B n : Nat} {now : Int} {ws : List Wr} (h : NetS w B n now ws) (hl : ws.length ≤ 64) (i : Nat) (hi : i < ws.length) (hfr : (ws.getD i default).fr = true) (hlow : ∀ j, j < i → (ws.getD j default).fr = false) :
    Calls Try.prog 11 #[.pointer (some ⟨n, 0, none⟩)] w fun e w' => e = .returned (.tuple #[.int .i64 ((i : Int) + 1), .bool true]) ∧ NetS w' B n now (toldW ws i) ∧ NFr B w w' := by
  obtain ⟨v, G, IV, GV, h⟩ := h
  obtain ⟨A, cap, hv, hc1, hc2, hrow⟩ := h.row_at
  have c1 := h.net.cell_ (i := 1) rfl
  rw [hv] at c1
  have H := Lib.hid h; have HROW := Lib.hid hrow; have HLOW := Lib.hid hlow; have HFR := Lib.hid hfr
  clear h hrow hlow hfr hv
  go_enter Try.func11, Try.ntmps11
  go_wp2_with fail
  go_loop [11] (fun x => ∃ k : Nat, x = .int .i64 (k : Int) ∧ k ≤ i) (fun x => ws.length - (intOf x).toNat)
  case atStart => exact ⟨0, rfl, by omega⟩
  case round =>
    obtain ⟨k, rfl, hk⟩ := hrel
    have hkl : k < ws.length := by omega
    obtain ⟨b, off, rfl, d0⟩ := HROW.out k hkl
    have hwk := H.out.wire k hkl
    obtain ⟨-, -, -, -, -, -, -, -, d8⟩ := w_cells hwk
    have f8 := hwk.frozen 8
    by_cases e : k = i
    · subst e
      rw [HFR.out] at d8
      have HW := Lib.hid hwk; clear hwk
      go_wp2_with fail
      go_ret2
      refine ⟨rfl, ?_⟩
      have hf : Fr [G k] w (w.setCell ⟨G k, 8, none⟩ (.bool false)) := (Fr.refl _ _).setCell (.inl (by simp)) _
      refine ⟨⟨_, G, IV, GV, H.out.putW hkl { ws.getD k default with fr := false } hf ?_ rfl rfl⟩, NFr.own [G k] hf ?_⟩
      · exact HW.out.put 8 _
      · intro j hj
        rw [List.mem_singleton.1 hj]
        exact ⟨H.out.bg k hkl, .inr ⟨_, _, _, HW.out, .inr (.inr (.inl rfl))⟩⟩
    · have hlt : k < i := by omega
      rw [HLOW.out k hlt] at d8
      clear hwk
      go_wp2_with fail
      go_round
      case rel => exact ⟨k + 1, by go_num, by omega⟩
      case measure => simp [intOf]; omega
theorem accept_no {w : World} {B n : Nat} {now : Int} {ws : List Wr} (h : NetS w B n now ws) (hl : ws.length ≤ 64) (hlow : ∀ j, j < ws.length → (ws.getD j default).fr = false) :
    Calls Try.prog 11 #[.pointer (some ⟨n, 0, none⟩)] w fun e w' => e = .returned (.tuple #[.int .i64 0, .bool false]) ∧ w = w' := by
  obtain ⟨v, G, IV, GV, h⟩ := h
  obtain ⟨A, cap, hv, hc1, hc2, hrow⟩ := h.row_at
  have c1 := h.net.cell_ (i := 1) rfl
  rw [hv] at c1
  have H := Lib.hid h; have HROW := Lib.hid hrow; have HLOW := Lib.hid hlow
  clear h hrow hlow hv
  go_enter Try.func11, Try.ntmps11
  go_wp2_with fail
  go_loop [11] (fun x => ∃ k : Nat, x = .int .i64 (k : Int) ∧ k ≤ ws.length) (fun x => ws.length - (intOf x).toNat)
  case atStart => exact ⟨0, rfl, by omega⟩
  case round =>
    obtain ⟨k, rfl, hk⟩ := hrel
    by_cases hkl : k < ws.length
    · obtain ⟨b, off, rfl, d0⟩ := HROW.out k hkl
      have hwk := H.out.wire k hkl
      obtain ⟨-, -, -, -, -, -, -, -, d8⟩ := w_cells hwk
      rw [HLOW.out k hkl] at d8
      clear hwk
      go_wp2_with fail
      go_round
      case rel => exact ⟨k + 1, by go_num, by omega⟩
      case measure => simp [intOf]; omega
    · go_wp2_with fail
      go_ret2
      exact ⟨rfl, rfl⟩

theorem one_ptr (w : World) (cs : Array Value) (t : TypeId) : At ((w.alloc (.cells cs t)).alloc (.cells #[.pointer (some ⟨w.heap.size, 0, none⟩)] 58)) (some ⟨w.heap.size + 1, 0, none⟩) [.pointer (some ⟨w.heap.size, 0, none⟩)] := by
  have h := At.of_bk (n := 1) (xs := [.pointer (some ⟨w.heap.size, 0, none⟩)]) (Bk.new (w.alloc (.cells cs t)) 58 #[.pointer (some ⟨w.heap.size, 0, none⟩)]) (by simp)
  simpa using h
/-- What 'Connect' adds. -/
def askedW (nm : List UInt8) : Wr := ⟨0, nm, [], 0, [], false, false, false, false⟩
/-- A wire is laid, appended, and the row is stored. -/
theorem net_pushed {w w3 : World} {B n : Nat} {now : Int} {ws : List Wr} {A A3 : Option Addr} {cap c3 : Nat} {G : Nat → Nat} {IV GV : Nat → Value} (h : NetR w B n now ws (.slice A ws.length cap) G IV GV) (hB : B ≤ w.heap.size) (x : Wr) (h1 : x.inn = []) (h2 : x.got = [])
    (hown : Own w3 58 (.slice A3 (ws.length + 1) c3) (ptrs G ws.length ++ [.pointer (some ⟨w.heap.size, 0, none⟩)]))
    (hgr : ((w.alloc (.cells (wCells x (.slice none 0 0) (.slice none 0 0)) 60)).alloc (.cells #[.pointer (some ⟨w.heap.size, 0, none⟩)] 58)).grownBy w3 (Value.slice A ws.length cap).ownBlock)
    (hloc : (Value.slice A3 (ws.length + 1) c3).ownBlock = (Value.slice A ws.length cap).ownBlock ∨ (Value.slice A3 (ws.length + 1) c3).ownBlock = some ((w.alloc (.cells (wCells x (.slice none 0 0) (.slice none 0 0)) 60)).alloc (.cells #[.pointer (some ⟨w.heap.size, 0, none⟩)] 58)).heap.size) :
    NetS (w3.setCell ⟨n, 1, none⟩ (.slice A3 (ws.length + 1) c3)) B n now (ws ++ [x]) ∧ NFr B w (w3.setCell ⟨n, 1, none⟩ (.slice A3 (ws.length + 1) c3)) := by
  obtain ⟨W2, hW2⟩ : ∃ W, W = (w.alloc (.cells (wCells x (.slice none 0 0) (.slice none 0 0)) 60)).alloc (.cells #[.pointer (some ⟨w.heap.size, 0, none⟩)] 58) := ⟨_, rfl⟩
  have hb2 : Bk W2 w.heap.size 60 (wCells x (.slice none 0 0) (.slice none 0 0)) := by rw [hW2]; exact (Bk.new w _ _).alloc _
  have hf2 : Fr [] w W2 := by rw [hW2]; exact ((Fr.refl [] w).alloc _).alloc _
  have hs2 : W2.heap.size = w.heap.size + 2 := by rw [hW2]; simp
  rw [← hW2] at hgr hloc
  clear hW2
  have hnl := h.net.lt
  have hrl := h.row.lt
  have hne : (Value.slice A ws.length cap).ownBlock ≠ some n := h.row.ne_bk h.net (by decide)
  have hnet3 : Bk w3 n 57 #[.int .i64 now, .slice A ws.length cap] := (h.net.fr hf2 (by simp)).grown hgr (fun e => hne e.symm)
  have hb3 : Bk w3 w.heap.size 60 (wCells x (.slice none 0 0) (.slice none 0 0)) := hb2.grown hgr (fun e => by have := hrl _ e.symm; omega)
  have hkeep : ∀ k, k < w.heap.size → k ≠ n → (Value.slice A ws.length cap).ownBlock ≠ some k → (w3.setCell ⟨n, 1, none⟩ (.slice A3 (ws.length + 1) c3)).heap[k]? = w.heap[k]? := by
    intro k hk hkn hkr
    rw [Below.heap_setCell w3 _ _ k (by simpa using hkn), hgr.block k (by omega) (fun e => hkr e.symm), hf2.block k hk (by simp)]
  have hown' : (Value.slice A3 (ws.length + 1) c3).ownBlock ≠ some n := by
    rcases hloc with e | e
    · rw [e]; exact hne
    · rw [e]; intro e2; injection e2 with e2; omega
  refine ⟨⟨_, _, _, _, h.push hB x h1 h2 (.slice A3 (ws.length + 1) c3) w.heap.size (Nat.le_refl _) (hb3.far (by simp; omega) _) ?_ (hnet3.put 1 _) ?_ hkeep⟩, ?_⟩
  · exact hown.kept fun k hk => Below.heap_setCell w3 _ _ k (by rintro rfl; exact hown' hk)
  · rcases hloc with e | e
    · exact .inl e
    · exact .inr ⟨_, e, by omega⟩
  · refine ⟨hgr.os.trans hf2.os, hgr.tape.trans hf2.tape, hgr.output.trans hf2.output, ?_, fun k hk hc => hkeep k hk ?_ ?_⟩
    · have := hgr.size; simp; omega
    · rintro rfl
      rcases hc with hc | ⟨cs, t, fz, g1, g2, g3, g4, g5⟩
      · have := h.bn; omega
      · have hn := h.net; unfold Bk at hn; rw [hn] at g1; injection g1 with g1; injection g1 with _ g1 _; exact g5 g1.symm
    · intro e
      rcases hc with hc | ⟨cs, t, fz, g1, g2, g3, g4, g5⟩
      · have := h.brow k e; omega
      · obtain ⟨A', cap', hv, -, -, ⟨rfl, -⟩ | ⟨g', off, cur, rfl, hg, -⟩⟩ := h.row
        · injection hv with hv; subst hv; simp [Value.ownBlock] at e
        · injection hv with hv; subst hv
          simp [Value.ownBlock] at e
          subst e
          rw [hg] at g1; injection g1 with g1; injection g1 with _ g1 _; exact g3 g1.symm
theorem net_two {w : World} {B n : Nat} {now : Int} {ws : List Wr} {v : Value} {G : Nat → Nat} {IV GV : Nat → Value} (h : NetR w B n now ws v G IV GV) (o o' : Obj) : Bk ((w.alloc o).alloc o') n 57 #[.int .i64 now, v] := (h.net.alloc o).alloc o'
theorem net_row {w : World} {B n : Nat} {now : Int} {ws : List Wr} {v : Value} {G : Nat → Nat} {IV GV : Nat → Value} (h : NetR w B n now ws v G IV GV) : some n ≠ v.ownBlock := fun e => h.row.ne_bk h.net (by decide) e.symm
set_option maxRecDepth 100000 in
set_option maxHeartbeats 1000000 in
theorem connect_yes {w : World} {B n : Nat} {now : Int} {ws : List Wr} (h : NetS w B n now ws) (hB : B ≤ w.heap.size) (hl : ws.length < 64) (nm : List UInt8) (h1 : 1 ≤ nm.length) (h2 : nm.length ≤ 60) :
    Calls Try.prog 9 #[.pointer (some ⟨n, 0, none⟩), .string ⟨nm.toArray⟩] w fun e w' => e = .returned (.tuple #[.int .i64 ((ws.length : Int) + 1), .bool true]) ∧ NetS w' B n now (ws ++ [askedW nm]) ∧ NFr B w w' := by
  obtain ⟨v, G, IV, GV, h⟩ := h
  obtain ⟨A, cap, hv, hc1, hc2, -⟩ := h.row_at
  have c1 := h.net.cell_ (i := 1) rfl
  have f1 := h.net.frozen 1
  have hnl := h.net.lt
  subst hv
  obtain ⟨i0, hi0, hz0, hz1, hz2⟩ := ptrParts
  have hsz := ba_size nm
  have H := Lib.hid h; clear h
  unfold maxLen at hc2
  go_enter Try.func9, Try.ntmps9
  go_wp2_with (at_builtin; refine wpList_append_OwnS rfl (.tmp 26) (.tmp 31) 55 rfl 58 i0 _ Try.underlying55 hi0 hz0 hz1 rfl (.slice A ws.length cap) (ptrs G ws.length) ws.length (ptrs_length _ _) (by first | rfl | (simp [Act.eval]; done)) ((H.out.row.fr ((Fr.refl [] w).alloc (.cells (wCells (askedW nm) (.slice none 0 0) (.slice none 0 0)) 60)) (by simp)).fr ((Fr.refl [] _).alloc (.cells #[.pointer (some ⟨w.heap.size, 0, none⟩)] 58)) (by simp)) (some ⟨w.heap.size + 1, 0, none⟩) 1 1 (by first | rfl | (simp [Act.eval]; done)) [.pointer (some ⟨w.heap.size, 0, none⟩)] (one_ptr w _ _) rfl (by simp [Value.oneCell']) (by unfold maxLen; omega) (by rw [hz2]; omega) ?_; intro A3 c3 w3 hown hgr hloc; have HOWN := Lib.hid hown; have HGR := Lib.hid hgr; have HLOC := Lib.hid hloc; have c1' := (hgr.block n (by simp; omega) (net_row H.out)).trans (net_two H.out _ _); have HN3 := Lib.hid c1'; have f1' := Bk.frozen (g := n) c1' 1; have c1'' := Bk.cell_ (g := n) c1' (i := 1) rfl; clear hown hgr hloc c1' c1 f1)
  go_ret2
  exact ⟨rfl, net_pushed H.out hB (askedW nm) rfl rfl HOWN.out HGR.out HLOC.out⟩
end Go.Proofs.Ytedcheicnaphmaa
