/-
  The layer's steps in memory; fork. No conditions.
-/
import Derived.Test.YtkihikphebkepaaLy1
namespace Go.Proofs.Ytkihikphebkepaa
open Go.RowKit Go.ChangeMaps
set_option linter.unusedVariables false
set_option linter.unusedSimpArgs false

theorem sp_len (s : Sp) : s.cells.length = 7 := rfl
theorem stepParts : ∃ i, Try.prog.info? 48 = some i ∧ i.zero = some (.agg #[.int .i64 0, .int .u64 0, .int .u64 0, .int .u64 0, .int .u64 0, .int .i64 0, .int .i64 0]) ∧ i.size = 7 ∧ i.bytes = 56 := info_parts (by kernel_rfl)
/-- The layer at block gy; l: the blocks that it writes. -/
def LaySt (w : World) (gy mv : Nat) (l : List Nat) (L : List Sp) : Prop :=
  ∃ A cap, l = gy :: (Value.slice A L.length cap).ownBlock.toList ∧ Bk w gy 56 #[.map (some mv), .slice A L.length cap] ∧ w.ownsRow 0 48 7 (.slice A L.length cap) L.length (L.flatMap Sp.cells)
theorem LaySt.lt {w : World} {gy mv : Nat} {l : List Nat} {L : List Sp} (h : LaySt w gy mv l L) : ∀ b ∈ l, b < w.heap.size := by
  obtain ⟨A, cap, rfl, hb, hr⟩ := h
  intro b hm
  rcases List.mem_cons.1 hm with rfl | hm
  · exact hb.lt
  · obtain ⟨cur, hc⟩ := own_bk hr b (by simpa using hm)
    exact hc.lt
theorem LaySt.fr {w w' : World} {gy mv : Nat} {l l' : List Nat} {L : List Sp} (h : LaySt w gy mv l L) (hf : Fr l' w w') (hn : ∀ b ∈ l, b ∉ l') : LaySt w' gy mv l L := by
  obtain ⟨A, cap, rfl, hb, hr⟩ := h
  exact ⟨A, cap, rfl, hb.fr hf (hn gy (by simp)), own_fr hr hf fun b hb => hn b (by simp [hb])⟩
theorem LaySt.fr_nil {w w' : World} {gy mv : Nat} {l : List Nat} {L : List Sp} (h : LaySt w gy mv l L) (hf : Fr [] w w') : LaySt w' gy mv l L := h.fr hf (by simp)
/-- Its blocks are of no part, and not the map. -/
theorem LaySt.kind {w : World} {gy mv : Nat} {l : List Nat} {L : List Sp} (h : LaySt w gy mv l L) : ∀ b ∈ l, ∀ cs, ¬ Bk w b 30 cs := by
  obtain ⟨A, cap, rfl, hb, hr⟩ := h
  intro b hm
  rcases List.mem_cons.1 hm with rfl | hm
  · exact hb.other_ (by decide)
  · obtain ⟨cur, hc⟩ := own_bk hr b (by simpa using hm)
    exact hc.other_ (by decide)
theorem LaySt.nomap {w : World} {gy mv : Nat} {l : List Nat} {L : List Sp} (h : LaySt w gy mv l L) {g : Nat} {es : Array MapEntry} {c : Nat} (hg : w.heap[g]? = some (.map es c)) : ∀ b ∈ l, b ≠ g := by
  obtain ⟨A, cap, rfl, hb, hr⟩ := h
  intro b hm
  rcases List.mem_cons.1 hm with rfl | hm
  · exact bk_ne_map hb hg
  · obtain ⟨cur, hc⟩ := own_bk hr b (by simpa using hm)
    exact bk_ne_map hc hg
theorem LaySt.none_ {w : World} {gy mv : Nat} {l : List Nat} {L : List Sp} (h : LaySt w gy mv l L) {g : Nat} {t : TypeId} {cs : Array Value} (hg : Bk w g t cs) (h1 : t ≠ 56) (h2 : t ≠ 48) : g ∉ l := by
  obtain ⟨A, cap, rfl, hb, hr⟩ := h
  intro hm
  rcases List.mem_cons.1 hm with rfl | hm
  · exact hg.ne_ hb h1 rfl
  · obtain ⟨cur, hc⟩ := own_bk hr g (by simpa using hm)
    exact hg.ne_ hc h2 rfl
/-- What a call leaves of it. -/
def LayOut (w : World) (gy mv : Nat) (l : List Nat) (L' : List Sp) (w' : World) : Prop := ∃ l', LaySt w' gy mv l' L' ∧ Fr l w w' ∧ ∀ b ∈ l', b ∈ l ∨ w.heap.size ≤ b
def LayPost (w : World) (gy mv : Nat) (l : List Nat) (L' : List Sp) (v : Value) (e : Ending) (w' : World) : Prop := e = .returned v ∧ LayOut w gy mv l L' w'
theorem LayOut.trans {w w1 w2 : World} {gy mv : Nat} {l : List Nat} {L1 L2 : List Sp} (h : LayOut w gy mv l L1 w1) (k : ∀ l1, LaySt w1 gy mv l1 L1 → LayOut w1 gy mv l1 L2 w2) : LayOut w gy mv l L2 w2 := by
  obtain ⟨l1, h1, h2, h3⟩ := h
  obtain ⟨l2, k1, k2, k3⟩ := k l1 h1
  refine ⟨l2, k1, h2.trans' k2 h3, fun b hb => ?_⟩
  rcases k3 b hb with hb | hb
  · exact h3 b hb
  · exact .inr (Nat.le_trans h2.size hb)
theorem LayOut.refl {w w' : World} {gy mv : Nat} {l : List Nat} {L : List Sp} (h : LaySt w gy mv l L) (hf : Fr [] w w') : LayOut w gy mv l L w' := ⟨l, h.fr_nil hf, hf.nil_, fun b hb => .inl hb⟩
theorem seven_new (w : World) (t : TypeId) (a b c d e f g : Value) : ∀ j u, [a, b, c, d, e, f, g][j]? = some u → (w.alloc (.cells #[a, b, c, d, e, f, g] t)).cell? ((⟨w.heap.size, 0, none⟩ : Addr).add j) = some u := by
  intro j u hu
  have hb := Bk.new w t #[a, b, c, d, e, f, g]
  have hadd : (⟨w.heap.size, 0, none⟩ : Addr).add j = ⟨w.heap.size, j, none⟩ := by unfold Addr.add; split <;> simp_all
  rw [hadd, hb.cell]
  simpa using hu
/-- Behind an append of one step: what is known. -/
theorem lay_snoc {w wa w4 : World} {gy mv n cap : Nat} {A : Option Addr} {L : List Sp} {s : Sp} {v' : Value} (hb : Bk w gy 56 #[.map (some mv), .slice A n cap]) (hr : w.ownsRow 0 48 7 (.slice A n cap) n (L.flatMap Sp.cells)) (hn : n = L.length)
    (hf : Fr [] w wa) (hown : w4.ownsRow 0 48 7 v' (n + 1) (L.flatMap Sp.cells ++ s.cells)) (hgr : wa.grownBy w4 (Value.slice A n cap).ownBlock) (hat : v'.ownBlock = (Value.slice A n cap).ownBlock ∨ v'.ownBlock = some wa.heap.size) :
    ∃ A' cap', v' = .slice A' (n + 1) cap' ∧ Bk w4 gy 56 #[.map (some mv), .slice A n cap] ∧ LayOut w gy mv (gy :: (Value.slice A n cap).ownBlock.toList) (L ++ [s]) (w4.setCell ⟨gy, 1, none⟩ v') := by
  obtain ⟨A', cap', rfl⟩ := own_form hown (by omega)
  have hne := own_ne hr hb (by decide)
  have hba := hb.fr hf (by simp)
  have hb4 := hba.grown hgr (fun e => hne e.symm)
  have hln : (L ++ [s]).length = n + 1 := by rw [List.length_append, hn]; rfl
  have hbs := hb4.put 1 (.slice A' (n + 1) cap')
  have hne' : (Value.slice A' (n + 1) cap').ownBlock ≠ some gy := own_ne hown hb4 (by decide)
  have hfr4 : Fr (gy :: (Value.slice A n cap).ownBlock.toList) w w4 := hf.nil_.grown hgr (fun g hg => .inl (by rw [hg]; simp))
  refine ⟨A', cap', rfl, hb4, gy :: (Value.slice A' (n + 1) cap').ownBlock.toList, ⟨A', cap', by rw [hln], by rw [hln]; exact hbs, ?_⟩, hfr4.setCell (.inl (by simp)) _, fun b hb' => ?_⟩
  · rw [hln]
    have hfl : (L ++ [s]).flatMap Sp.cells = L.flatMap Sp.cells ++ s.cells := by simp
    rw [hfl]
    exact own_fr hown ((Fr.refl [gy] w4).setCell (.inl (by simp)) _) (fun b hbb hm => by simp at hm; subst hm; exact hne' hbb)
  · rcases List.mem_cons.1 hb' with rfl | hb'
    · exact .inl (by simp)
    · rcases hat with h | h
      · left; rw [← h]; exact List.mem_cons_of_mem _ hb'
      · right
        have := hf.size
        rw [h] at hb'
        simp at hb'
        omega
set_option maxRecDepth 100000 in
set_option maxHeartbeats 4000000 in
theorem fork_any {w : World} {gy mv : Nat} {l : List Nat} {L : List Sp} (h : LaySt w gy mv l L) (hL : L.length ≤ 100000) :
    Calls Try.prog 37 #[.pointer (some ⟨gy, 0, none⟩)] w (LayPost w gy mv l (L ++ [Sp.fork (L.length + 1) 0]) (.int .i64 (L.length : Int))) := by
  obtain ⟨A, cap, rfl, hb, hr⟩ := h
  obtain ⟨i0, hi0, hz0, hz1, hz2⟩ := stepParts
  obtain ⟨n, hn⟩ : ∃ n, n = L.length := ⟨_, rfl⟩
  rw [← hn] at hb hr ⊢ hL
  have c1 := hb.cell_ (i := 1) rfl
  have f1 := hb.frozen 1
  have hlt := hb.lt
  have HB := Lib.hid hb; have HR := Lib.hid hr; have HN := Lib.hid hn
  have hownA : ∀ O, (w.alloc O).ownsRow 0 48 7 (.slice A n cap) n (L.flatMap Sp.cells) := fun O => own_fr hr ((Fr.refl [] w).alloc O) (by simp)
  have HOA := Lib.hid hownA
  clear hb hr hn hownA
  go_enter Try.func37, Try.ntmps37
  go_wp2_with (at_builtin; refine wpList_append_R rfl (.tmp 13) (.tmp 17) 22 rfl 0 48 i0 _ 7 56 Try.underlying22 hi0 hz0 hz1 hz2 rfl (by omega) (.slice A n cap) n (L.flatMap Sp.cells) (by first | rfl | (simp [Act.eval]; done)) (HOA.out _) ⟨w.heap.size, 0, none⟩ 1 1 [.int .i64 1, .int .u64 0, .int .u64 0, .int .u64 0, .int .u64 0, .int .i64 ((n : Int) + 1), .int .i64 0] (by first | rfl | (simp [Act.eval]; done)) rfl (seven_new w 48 _ _ _ _ _ _ _) (by simp [Value.oneCell']) (by unfold maxLen; omega) (by omega) (Nat.zero_le _) ?_; intro v' w4 hown4 hgr hat; obtain ⟨A', cap', rfl, hb4, hout⟩ := lay_snoc (s := Sp.fork (n + 1) 0) HB.out HR.out HN.out ((Fr.refl [] w).alloc _) hown4 hgr hat; have g1 := hb4.cell_ (i := 1) rfl; have k1 := hb4.frozen 1; have HOUT := Lib.hid hout; clear hown4 hgr hat hb4 hout)
  go_ret
  exact ⟨rfl, HOUT.out⟩
end Go.Proofs.Ytkihikphebkepaa
