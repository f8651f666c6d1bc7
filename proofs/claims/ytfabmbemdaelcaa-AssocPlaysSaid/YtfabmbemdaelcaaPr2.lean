/-
  The document's list in memory: Set. No conditions.
-/
import Derived.Test.YtfabmbemdaelcaaPr1
namespace Go.Proofs.Ytfabmbemdaelcaa.C
open Go.RowKit Go.ChangeShapes Go.WideShapes Go.Maps
set_option linter.unusedVariables false
set_option linter.unusedSimpArgs false

theorem pairParts : ∃ i, Try.prog.info? 63 = some i ∧ i.zero = some (.agg #[.string ⟨#[]⟩, .int .i64 0, .string ⟨#[]⟩, .bool false, .int .u64 0, .int .u64 0]) ∧ i.size = 6 ∧ i.bytes = 64 := info_parts (by kernel_rfl)
theorem flatP_len (x : LP) : (x.flatMap cellsP).length = x.length * 6 := RR.flat_len cellsP_len x
theorem flatP_one (x : LP) : ∀ u ∈ x.flatMap cellsP, u.oneCell' = true := by
  intro u hu
  obtain ⟨p, -, hp⟩ := List.mem_flatMap.1 hu
  simp [cellsP] at hp
  rcases hp with rfl | rfl | rfl | rfl | rfl | rfl <;> simp [Value.oneCell']
theorem six_new (w : World) (t : TypeId) (a b c d e f : Value) : ∀ j u, [a, b, c, d, e, f][j]? = some u → (w.alloc (.cells #[a, b, c, d, e, f] t)).cell? ((⟨w.heap.size, 0, none⟩ : Addr).add j) = some u := by
  intro j u hu
  have hb := Bk.new w t #[a, b, c, d, e, f]
  have hadd : (⟨w.heap.size, 0, none⟩ : Addr).add j = ⟨w.heap.size, j, none⟩ := by unfold Addr.add; split <;> simp_all
  rw [hadd, hb.cell]
  simpa using hu
/-- All of a list appended to an empty row: as a law for the walk. -/
theorem wpList_append_pr {w : World} {ops : Array Oper} {rest : List Oper} {o : Oper} {a : Act} {Q : Exit → Act → World → Prop} (hgd : o.guard = none) (s y : Operand)
    (ho : o.op = .call { callee := .builtin .append, args := #[s, y], argTypes := #[53, 53] })
    (g : Nat) (hs : a.eval s = .slice (some ⟨g, 0, none⟩) 0 0) (hown : w.ownsRow 0 63 6 (.slice (some ⟨g, 0, none⟩) 0 0) 0 [])
    (v : Value) (x : LP) (hy : a.eval y = v) (h : PR w v x) (hx : x.length ≤ 1000)
    (hK : ∀ b7 c7 w', w'.ownsRow 0 63 6 (.slice (some ⟨b7, 0, none⟩) x.length c7) x.length (x.flatMap cellsP) → Fr [g] w w' → (b7 = g ∨ w.heap.size ≤ b7) → b7 < w'.heap.size → wpList Try.prog ops Q rest (a.put o.dst (.slice (some ⟨b7, 0, none⟩) x.length c7)) w') :
    wpList Try.prog ops Q (o :: rest) a w := by
  obtain ⟨i0, hi0, hz0, hz1, hz2⟩ := pairParts
  have hg : ∀ {W : World} {n c : Nat} {xs : List Value} {b : Nat}, W.ownsRow 0 63 6 (.slice (some ⟨b, 0, none⟩) n c) n xs → b < W.heap.size := fun h => by
    obtain ⟨cur, hbk⟩ := RR.own_bk h _ rfl
    exact hbk.lt
  obtain ⟨A, c, rfl, h1, h2⟩ := h
  by_cases hn : x = []
  · subst hn
    obtain ⟨rfl, rfl⟩ := h1 rfl
    exact wpList_append_own_none hgd s y _ ho 0 63 i0 6 Try.underlying53 hi0 _ 0 [] hs hown hy (hK g 0 w hown (Fr.refl _ _) (.inl rfl) (hg hown))
  · have hne : x.flatMap cellsP ≠ [] := by
      intro e
      have h3 := flatP_len x
      rw [e] at h3
      have : x.length ≠ 0 := fun e => hn (List.eq_nil_of_length_eq_zero e)
      simp at h3; omega
    obtain ⟨b, rfl, hbl, -, hc⟩ := RR.own_cells h2 hne
    refine RR.wpList_append_R (by simp [Region.wanted, hgd]) s y 53 ho 0 63 i0 _ 6 64 Try.underlying53 hi0 hz0 hz1 hz2 rfl (by omega) (.slice (some ⟨g, 0, none⟩) 0 0) 0 [] hs hown ⟨b, 0, none⟩ x.length c (x.flatMap cellsP) hy (flatP_len x) (fun j u hu => ?_) (flatP_one x) (by unfold maxLen; omega) (by omega) (Nat.zero_le _) ?_
    · have hadd : (⟨b, 0, none⟩ : Addr).add j = ⟨b, j, none⟩ := by unfold Addr.add; split <;> simp_all
      rw [hadd]; exact hc j u hu
    · intro v' w' o1 o2 o3
      rw [Nat.zero_add, List.nil_append] at o1
      have hpos : 0 < x.length := Nat.pos_of_ne_zero fun e => hn (List.eq_nil_of_length_eq_zero e)
      obtain ⟨A', c', rfl⟩ := RR.own_form o1 hpos
      obtain ⟨b7, rfl, -⟩ := RR.own_cells o1 hne
      refine hK b7 c' w' o1 ((Fr.refl [g] w).grown o2 (fun g' e => .inl (by simp [Value.ownBlock] at e; simp [e]))) ?_ (hg o1)
      rcases o3 with o3 | o3
      · left; simpa [Value.ownBlock] using o3
      · right; simp [Value.ownBlock] at o3; omega
/-- What Set leaves. -/
def SetPostP (w : World) (x' : LP) (e : Ending) (w' : World) : Prop := ∃ v', e = .returned v' ∧ PR w' v' x' ∧ Fr [] w w' ∧ ∀ b, v'.ownBlock = some b → w.heap.size ≤ b
theorem flatP_set (x : LP) (k : List UInt8) (u v : CV) (i : Nat) (h : x[i]? = some (k, u)) : put5 (x.flatMap cellsP) (i * 6 + 1) v = (x.set i (k, v)).flatMap cellsP := by
  have e1 := RR.flat_set cellsP_len (k, u) (k, ⟨v.k, u.s, u.n, u.h, u.l⟩) 1 (by omega) (.int .i64 v.k) rfl x i h
  have hs : ∀ a, (x.set i a)[i]? = some a := fun a => by
    have := (List.getElem?_eq_some_iff.1 h).1
    simp [this]
  have e2 := RR.flat_set cellsP_len (k, ⟨v.k, u.s, u.n, u.h, u.l⟩) (k, ⟨v.k, v.s, u.n, u.h, u.l⟩) 2 (by omega) (.string ⟨v.s.toArray⟩) rfl _ i (hs _)
  rw [List.set_set] at e2
  have e3 := RR.flat_set cellsP_len (k, ⟨v.k, v.s, u.n, u.h, u.l⟩) (k, ⟨v.k, v.s, v.n, u.h, u.l⟩) 3 (by omega) (.bool v.n) rfl _ i (hs _)
  rw [List.set_set] at e3
  have e4 := RR.flat_set cellsP_len (k, ⟨v.k, v.s, v.n, u.h, u.l⟩) (k, ⟨v.k, v.s, v.n, v.h, u.l⟩) 4 (by omega) (.int .u64 v.h) rfl _ i (hs _)
  rw [List.set_set] at e4
  have e5 := RR.flat_set cellsP_len (k, ⟨v.k, v.s, v.n, v.h, u.l⟩) (k, v) 5 (by omega) (.int .u64 v.l) rfl _ i (hs _)
  rw [List.set_set] at e5
  unfold put5
  rw [e1, e2, e3, e4, e5]
theorem rowP_set {w : World} {b n cap : Nat} {x : LP} (h : w.ownsRow 0 63 6 (.slice (some ⟨b, 0, none⟩) n cap) n (x.flatMap cellsP)) {i : Nat} {k : List UInt8} {u : CV} (hi : x[i]? = some (k, u)) (v : CV) :
    (putC w b (i * 6 + 1) v).ownsRow 0 63 6 (.slice (some ⟨b, 0, none⟩) n cap) n ((x.set i (k, v)).flatMap cellsP) := by
  rw [← flatP_set x k u v i hi]
  exact RR.own_set (RR.own_set (RR.own_set (RR.own_set (RR.own_set h _ _) _ _) _ _) _ _) _ _
set_option maxRecDepth 100000 in
set_option maxHeartbeats 4000000 in
theorem setP_any {w : World} {v : Value} {x : LP} (h : PR w v x) (k : List UInt8) (u : CV) (hx : x.length ≤ 900) :
    Calls Try.prog 21 #[v, .string ⟨k.toArray⟩, u.val] w (SetPostP w (setP x k u)) := by
  obtain ⟨i0, hi0, hz0, hz1, hz2⟩ := pairParts
  have HP := Lib.hid h
  clear h
  obtain ⟨f, hf⟩ : ∃ f, f = fndP x k := ⟨_, rfl⟩
  have HFF := Lib.hid hf; clear hf
  unfold CV.val
  have hown0 : ((w.alloc (.cells #[.int .i64 u.k, .string ⟨u.s.toArray⟩, .bool u.n, .int .u64 u.h, .int .u64 u.l] 41)).alloc (.cells #[] 63)).ownsRow 0 63 6 (.slice (some ⟨w.heap.size + 1, 0, none⟩) 0 0) 0 [] := by
    have h := World.ownsRow_lit (base := 0) (e := 63) (size := 6) (w.alloc (.cells #[.int .i64 u.k, .string ⟨u.s.toArray⟩, .bool u.n, .int .u64 u.h, .int .u64 u.l] 41)) #[] 0 (Nat.zero_le _) (by unfold maxLen; omega) rfl
    rw [World.size_alloc] at h
    exact h
  have hb0 : Bk ((w.alloc (.cells #[.int .i64 u.k, .string ⟨u.s.toArray⟩, .bool u.n, .int .u64 u.h, .int .u64 u.l] 41)).alloc (.cells #[] 63)) w.heap.size 41 #[.int .i64 u.k, .string ⟨u.s.toArray⟩, .bool u.n, .int .u64 u.h, .int .u64 u.l] := (Bk.new w _ _).alloc _
  have hf0 : Fr [] w ((w.alloc (.cells #[.int .i64 u.k, .string ⟨u.s.toArray⟩, .bool u.n, .int .u64 u.h, .int .u64 u.l] 41)).alloc (.cells #[] 63)) := ((Fr.refl [] w).alloc _).alloc _
  have HO0 := Lib.hid hown0; have HB0 := Lib.hid hb0; have HF0 := Lib.hid hf0
  clear hown0 hb0 hf0
  go_enter Try.func21, Try.ntmps21
  go_upto_region 2 with (at_builtin; refine wpList_append_pr rfl (.tmp 9) (.tmp 10) rfl (w.heap.size + 1) (by first | rfl | (simp [Act.eval]; done)) HO0.out v x (by first | rfl | (simp [Act.eval]; done)) (HP.out.fr_nil HF0.out) (by omega) ?_; intro b7 c7 w1 q1 q2 q3 q4; have HQ1 := Lib.hid q1; have HQ2 := Lib.hid q2; have HQ3 := Lib.hid q3; have HQ4 := Lib.hid q4; clear q1 q2 q3 q4)
  have hb7 : w.heap.size ≤ b7 ∧ b7 ≠ w.heap.size := by
    have h1 := HQ3.out
    simp at h1
    omega
  have hf1 : Fr [] w w1 := HF0.out.trans' HQ2.out (fun b hb => by simp at hb; subst hb; right; omega)
  have hbx := HB0.out.fr HQ2.out (by simp)
  have hp1 := HP.out.fr_nil hf1
  have HB7 := Lib.hid hb7; have HF1 := Lib.hid hf1; have HBX := Lib.hid hbx; have HP1 := Lib.hid hp1
  have hbe : w.heap.size < w1.heap.size := hbx.lt
  obtain ⟨bx, hbxe⟩ : ∃ bx, bx = w.heap.size := ⟨_, rfl⟩
  rw [← hbxe] at HB7 HBX hbe
  have HBE := Lib.hid hbxe
  have x0 := hbx.cell_ (i := 0) rfl; have x1 := hbx.cell_ (i := 1) rfl; have x2 := hbx.cell_ (i := 2) rfl; have x3 := hbx.cell_ (i := 3) rfl; have x4 := hbx.cell_ (i := 4) rfl
  simp only [← hbxe] at x0 x1 x2 x3 x4 ⊢
  clear hb7 hf1 hbx hp1 hbxe
  go_wp2_with fail
  go_at_call 20
  refine (find_any HP1.out k (by omega)).mono ?_
  rintro e w2 ⟨rfl, rfl⟩
  unfold posP
  rw [← HFF.out]
  cases f with
  | none =>
    dsimp only
    go_wp2_with (at_builtin; refine RR.wpList_append_R rfl (.tmp 17) (.tmp 21) 53 rfl 0 63 i0 _ 6 64 Try.underlying53 hi0 hz0 hz1 hz2 rfl (by omega) (.slice (some ⟨b7, 0, none⟩) x.length c7) x.length (x.flatMap cellsP) (by first | rfl | (simp [Act.eval]; done)) (RR.own_fr HQ1.out ((Fr.refl [] w2).alloc _) (by simp)) ⟨w2.heap.size, 0, none⟩ 1 1 [.string ⟨k.toArray⟩, .int .i64 u.k, .string ⟨u.s.toArray⟩, .bool u.n, .int .u64 u.h, .int .u64 u.l] (by first | rfl | (simp [Act.eval]; done)) rfl (six_new w2 63 _ _ _ _ _ _) (by simp [Value.oneCell']) (by unfold maxLen; omega) (by omega) (Nat.zero_le _) ?_; intro v' w4 hown4 hgr hat; have HOWN4 := Lib.hid hown4; have HGR := Lib.hid hgr; have HAT := Lib.hid hat; clear hown4 hgr hat)
    go_ret
    have hset : setP x k u = x ++ [(k, u)] := by unfold setP; rw [← HFF.out]
    rw [hset]
    have hl : (x ++ [(k, u)]).length = x.length + 1 := by simp
    have hfl : (x ++ [(k, u)]).flatMap cellsP = x.flatMap cellsP ++ [.string ⟨k.toArray⟩, .int .i64 u.k, .string ⟨u.s.toArray⟩, .bool u.n, .int .u64 u.h, .int .u64 u.l] := by simp [cellsP]
    obtain ⟨A', c', rfl⟩ := RR.own_form HOWN4.out (by omega)
    have h7 := HB7.out
    have h8 := HF1.out.size
    refine ⟨.slice A' (x.length + 1) c', rfl, ⟨A', c', by rw [hl], fun e => by simp at e, by rw [hl, hfl]; exact HOWN4.out⟩, ((HF1.out).trans ((Fr.refl [] w2).alloc _)).trans' ((Fr.refl [b7] _).grown HGR.out (fun g' e => .inl (by simp [Value.ownBlock] at e; simp [e]))) (fun b hb => by simp at hb; subst hb; right; rw [← HBE.out]; exact h7.1), fun b hb => ?_⟩
    rcases HAT.out with h | h
    · rw [h] at hb; injection hb with hb; simp at hb; rw [← HBE.out]; omega
    · rw [h] at hb; injection hb with hb; simp at hb; omega
  | some i =>
    obtain ⟨y, hy⟩ := fnd_at HFF.out.symm
    have hil := (List.getElem?_eq_some_iff.1 hy).1
    have hPQ : PR w2 (.slice (some ⟨b7, 0, none⟩) x.length c7) x := ⟨_, _, rfl, fun e => by subst e; simp at hil, HQ1.out⟩
    obtain ⟨b', c', hs, hb, c0, c1, c2, c3, c4, c5⟩ := hPQ.at_ hy
    injection hs with hs _ hcc; injection hs with hs; injection hs with hs; subst hs; subst hcc
    obtain ⟨cur, hcur⟩ := RR.own_bk HQ1.out b7 rfl
    have z0 := hcur.frozen (i * 6 + 1); have z1 := hcur.frozen (i * 6 + 2); have z2 := hcur.frozen (i * 6 + 3); have z3 := hcur.frozen (i * 6 + 4); have z4 := hcur.frozen (i * 6 + 5)
    dsimp only at c1 c2 c3 c4 c5
    have HPS := Lib.hid (rowP_set HQ1.out hy u)
    have hset : setP x k u = x.set i (k, u) := by unfold setP; rw [← HFF.out]
    have HSET := Lib.hid hset
    obtain ⟨n, hn⟩ : ∃ n, n = x.length := ⟨_, rfl⟩
    have HN := Lib.hid hn
    rw [← hn] at hil hx HPS ⊢
    have hilI : (i : Int) < (n : Int) := by omega
    have c2' : w2.cell? ⟨b7, i * 6 + 1 + 1, none⟩ = _ := c2
    have c3' : w2.cell? ⟨b7, i * 6 + 1 + 2, none⟩ = _ := c3
    have c4' : w2.cell? ⟨b7, i * 6 + 1 + 3, none⟩ = _ := c4
    have c5' : w2.cell? ⟨b7, i * 6 + 1 + 4, none⟩ = _ := c5
    have z1' : w2.frozen? ⟨b7, i * 6 + 1 + 1, none⟩ = _ := z1
    have z2' : w2.frozen? ⟨b7, i * 6 + 1 + 2, none⟩ = _ := z2
    have z3' : w2.frozen? ⟨b7, i * 6 + 1 + 3, none⟩ = _ := z3
    have z4' : w2.frozen? ⟨b7, i * 6 + 1 + 4, none⟩ = _ := z4
    have hbb := HB7.out.2
    clear hset hn hPQ hcur hy c0
    dsimp only
    go_wp2_with fail
    go_ret
    refine ⟨.slice (some ⟨b7, 0, none⟩) n c7, rfl, ?_, ?_, fun b hb => ?_⟩
    · rw [HSET.out]
      refine ⟨some ⟨b7, 0, none⟩, c7, by rw [List.length_set, HN.out], fun e => ?_, ?_⟩
      · have := congrArg List.length e
        rw [List.length_set, ← HN.out] at this
        simp at this; omega
      · rw [List.length_set, ← HN.out]
        exact HPS.out
    · exact putC_fr HF1.out (.inr (by rw [← HBE.out]; exact HB7.out.1)) (i * 6 + 1) u
    · injection hb with hb; simp at hb; rw [← HBE.out, ← hb]; exact HB7.out.1
end Go.Proofs.Ytfabmbemdaelcaa.C
