/-
 Ly2, Ly3, Ly4, Ly5: several small texts in one. No conditions.
-/
import Derived.Test.YtfbmogccmlikaaaGreatDoorLy1
namespace Go.Proofs.YtfbmogccmlikaaaGreatDoor
open Go.RowKit Go.ChangeMaps
set_option linter.unusedVariables false
set_option linter.unusedSimpArgs false
theorem sp_len (s : Sp) : s.cells.length = 7 := rfl
theorem stepParts : ∃ i, Tryz.prog.info? 150 = some i ∧ i.zero = some (.agg #[.int .i64 0, .int .u64 0, .int .u64 0, .int .u64 0, .int .u64 0, .int .i64 0, .int .i64 0]) ∧ i.size = 7 ∧ i.bytes = 56 := info_parts (by kernel_rfl)
def LaySt (w : World) (gy mv : Nat) (l : List Nat) (L : List Sp) : Prop :=
 ∃ A cap, l = gy :: (Value.slice A L.length cap).ownBlock.toList ∧ Bk w gy 147 #[.map (some mv), .slice A L.length cap] ∧ w.ownsRow 0 150 7 (.slice A L.length cap) L.length (L.flatMap Sp.cells)
theorem LaySt.lt {w : World} {gy mv : Nat} {l : List Nat} {L : List Sp} (h : LaySt w gy mv l L) : ∀ b ∈ l, b < w.heap.size := by
 obtain ⟨A, cap, rfl, hb, hr⟩ := h
 intro b hm
 rcases List.mem_cons.1 hm with rfl | hm
 ·exact hb.lt
 ·obtain ⟨cur, hc⟩ := own_bk hr b (by simpa using hm)
  exact hc.lt
theorem LaySt.fr {w w' : World} {gy mv : Nat} {l l' : List Nat} {L : List Sp} (h : LaySt w gy mv l L) (hf : Fr l' w w') (hn : ∀ b ∈ l, b ∉ l') : LaySt w' gy mv l L := by
 obtain ⟨A, cap, rfl, hb, hr⟩ := h
 exact ⟨A, cap, rfl, hb.fr hf (hn gy (by simp)), own_fr hr hf fun b hb => hn b (by simp [hb])⟩
theorem LaySt.fr_nil {w w' : World} {gy mv : Nat} {l : List Nat} {L : List Sp} (h : LaySt w gy mv l L) (hf : Fr [] w w') : LaySt w' gy mv l L := h.fr hf (by simp)
theorem LaySt.kind {w : World} {gy mv : Nat} {l : List Nat} {L : List Sp} (h : LaySt w gy mv l L) : ∀ b ∈ l, ∀ cs, ¬ Bk w b 104 cs := by
 obtain ⟨A, cap, rfl, hb, hr⟩ := h
 intro b hm
 rcases List.mem_cons.1 hm with rfl | hm
 ·exact hb.other_ (by decide)
 ·obtain ⟨cur, hc⟩ := own_bk hr b (by simpa using hm)
  exact hc.other_ (by decide)
theorem LaySt.nomap {w : World} {gy mv : Nat} {l : List Nat} {L : List Sp} (h : LaySt w gy mv l L) {g : Nat} {es : Array MapEntry} {c : Nat} (hg : w.heap[g]? = some (.map es c)) : ∀ b ∈ l, b ≠ g := by
 obtain ⟨A, cap, rfl, hb, hr⟩ := h
 intro b hm
 rcases List.mem_cons.1 hm with rfl | hm
 ·exact bk_ne_map hb hg
 ·obtain ⟨cur, hc⟩ := own_bk hr b (by simpa using hm)
  exact bk_ne_map hc hg
theorem LaySt.none_ {w : World} {gy mv : Nat} {l : List Nat} {L : List Sp} (h : LaySt w gy mv l L) {g : Nat} {t : TypeId} {cs : Array Value} (hg : Bk w g t cs) (h1 : t ≠ 147) (h2 : t ≠ 150) : g ∉ l := by
 obtain ⟨A, cap, rfl, hb, hr⟩ := h
 intro hm
 rcases List.mem_cons.1 hm with rfl | hm
 ·exact hg.ne_ hb h1 rfl
 ·obtain ⟨cur, hc⟩ := own_bk hr g (by simpa using hm)
  exact hg.ne_ hc h2 rfl
def LayOut (w : World) (gy mv : Nat) (l : List Nat) (L' : List Sp) (w' : World) : Prop := ∃ l', LaySt w' gy mv l' L' ∧ Fr l w w' ∧ ∀ b ∈ l', b ∈ l ∨ w.heap.size ≤ b
def LayPost (w : World) (gy mv : Nat) (l : List Nat) (L' : List Sp) (v : Value) (e : Ending) (w' : World) : Prop := e = .returned v ∧ LayOut w gy mv l L' w'
theorem LayOut.trans {w w1 w2 : World} {gy mv : Nat} {l : List Nat} {L1 L2 : List Sp} (h : LayOut w gy mv l L1 w1) (k : ∀ l1, LaySt w1 gy mv l1 L1 → LayOut w1 gy mv l1 L2 w2) : LayOut w gy mv l L2 w2 := by
 obtain ⟨l1, h1, h2, h3⟩ := h
 obtain ⟨l2, k1, k2, k3⟩ := k l1 h1
 refine ⟨l2, k1, h2.trans' k2 h3, fun b hb => ?_⟩
 rcases k3 b hb with hb | hb
 ·exact h3 b hb
 ·exact .inr (Nat.le_trans h2.size hb)
theorem LayOut.refl {w w' : World} {gy mv : Nat} {l : List Nat} {L : List Sp} (h : LaySt w gy mv l L) (hf : Fr [] w w') : LayOut w gy mv l L w' := ⟨l, h.fr_nil hf, hf.nil_, fun b hb => .inl hb⟩
theorem seven_new (w : World) (t : TypeId) (a b c d e f g : Value) : ∀ j u, [a, b, c, d, e, f, g][j]? = some u → (w.alloc (.cells #[a, b, c, d, e, f, g] t)).cell? ((⟨w.heap.size, 0, none⟩ : Addr).add j) = some u := by
 intro j u hu
 have hb := Bk.new w t #[a, b, c, d, e, f, g]
 have hadd : (⟨w.heap.size, 0, none⟩ : Addr).add j = ⟨w.heap.size, j, none⟩ := by unfold Addr.add; split <;> simp_all
 rw [hadd, hb.cell]
 simpa using hu
theorem lay_snoc {w wa w4 : World} {gy mv n cap : Nat} {A : Option Addr} {L : List Sp} {s : Sp} {v' : Value} (hb : Bk w gy 147 #[.map (some mv), .slice A n cap]) (hr : w.ownsRow 0 150 7 (.slice A n cap) n (L.flatMap Sp.cells)) (hn : n = L.length)
    (hf : Fr [] w wa) (hown : w4.ownsRow 0 150 7 v' (n + 1) (L.flatMap Sp.cells ++ s.cells)) (hgr : wa.grownBy w4 (Value.slice A n cap).ownBlock) (hat : v'.ownBlock = (Value.slice A n cap).ownBlock ∨ v'.ownBlock = some wa.heap.size) :
    ∃ A' cap', v' = .slice A' (n + 1) cap' ∧ Bk w4 gy 147 #[.map (some mv), .slice A n cap] ∧ LayOut w gy mv (gy :: (Value.slice A n cap).ownBlock.toList) (L ++ [s]) (w4.setCell ⟨gy, 1, none⟩ v') := by
 obtain ⟨A', cap', rfl⟩ := own_form hown (by omega)
 have hne := own_ne hr hb (by decide)
 have hba := hb.fr hf (by simp)
 have hb4 := hba.grown hgr (fun e => hne e.symm)
 have hln : (L ++ [s]).length = n + 1 := by rw [List.length_append, hn]; rfl
 have hbs := hb4.put 1 (.slice A' (n + 1) cap')
 have hne' : (Value.slice A' (n + 1) cap').ownBlock ≠ some gy := own_ne hown hb4 (by decide)
 have hfr4 : Fr (gy :: (Value.slice A n cap).ownBlock.toList) w w4 := hf.nil_.grown hgr (fun g hg => .inl (by rw [hg]; simp))
 refine ⟨A', cap', rfl, hb4, gy :: (Value.slice A' (n + 1) cap').ownBlock.toList, ⟨A', cap', by rw [hln], by rw [hln]; exact hbs, ?_⟩, hfr4.setCell (.inl (by simp)) _, fun b hb' => ?_⟩
 ·rw [hln]
  have hfl : (L ++ [s]).flatMap Sp.cells = L.flatMap Sp.cells ++ s.cells := by simp
  rw [hfl]
  exact own_fr hown ((Fr.refl [gy] w4).setCell (.inl (by simp)) _) (fun b hbb hm => by simp at hm; subst hm; exact hne' hbb)
 ·rcases List.mem_cons.1 hb' with rfl | hb'
  ·exact .inl (by simp)
  ·rcases hat with h | h
   ·left; rw [← h]; exact List.mem_cons_of_mem _ hb'
   ·right
    have := hf.size
    rw [h] at hb'
    simp at hb'
    omega
set_option maxRecDepth 100000 in
set_option maxHeartbeats 4000000 in
theorem fork_any {w : World} {gy mv : Nat} {l : List Nat} {L : List Sp} (h : LaySt w gy mv l L) (hL : L.length ≤ 100000) :
    Calls Tryz.prog 88 #[.pointer (some ⟨gy, 0, none⟩)] w (LayPost w gy mv l (L ++ [Sp.fork (L.length + 1) 0]) (.int .i64 (L.length : Int))) := by
 obtain ⟨A, cap, rfl, hb, hr⟩ := h
 obtain ⟨i0, hi0, hz0, hz1, hz2⟩ := stepParts
 obtain ⟨n, hn⟩ : ∃ n, n = L.length := ⟨_, rfl⟩
 rw [← hn] at hb hr ⊢ hL
 have c1 := hb.cell_ (i := 1) rfl
 have f1 := hb.frozen 1
 have hlt := hb.lt
 have HB := Lib.hid hb; have HR := Lib.hid hr; have HN := Lib.hid hn
 have hownA : ∀ O, (w.alloc O).ownsRow 0 150 7 (.slice A n cap) n (L.flatMap Sp.cells) := fun O => own_fr hr ((Fr.refl [] w).alloc O) (by simp)
 have HOA := Lib.hid hownA
 clear hb hr hn hownA
 go_enter Tryz.func88, Tryz.ntmps88
 go_wp2_with (at_builtin; refine wpList_append_R rfl (.tmp 13) (.tmp 17) 107 rfl 0 150 i0 _ 7 56 Tryz.underlying107 hi0 hz0 hz1 hz2 rfl (by omega) (.slice A n cap) n (L.flatMap Sp.cells) (by first | rfl | (simp [Act.eval]; done)) (HOA.out _) ⟨w.heap.size, 0, none⟩ 1 1 [.int .i64 1, .int .u64 0, .int .u64 0, .int .u64 0, .int .u64 0, .int .i64 ((n : Int) + 1), .int .i64 0] (by first | rfl | (simp [Act.eval]; done)) rfl (seven_new w 150 _ _ _ _ _ _ _) (by simp [Value.oneCell']) (by unfold maxLen; omega) (by omega) (Nat.zero_le _) ?_; intro v' w4 hown4 hgr hat; obtain ⟨A', cap', rfl, hb4, hout⟩ := lay_snoc (s := Sp.fork (n + 1) 0) HB.out HR.out HN.out ((Fr.refl [] w).alloc _) hown4 hgr hat; have g1 := hb4.cell_ (i := 1) rfl; have k1 := hb4.frozen 1; have HOUT := Lib.hid hout; clear hown4 hgr hat hb4 hout)
 go_ret
 exact ⟨rfl, HOUT.out⟩
end Go.Proofs.YtfbmogccmlikaaaGreatDoor
namespace Go.Proofs.YtfbmogccmlikaaaGreatDoor
open Go.RowKit Go.ChangeMaps
set_option linter.unusedVariables false
set_option linter.unusedSimpArgs false
set_option maxRecDepth 100000 in
set_option maxHeartbeats 4000000 in
theorem one_any {w : World} {gy mv : Nat} {l : List Nat} {L : List Sp} (h : LaySt w gy mv l L) (hL : L.length ≤ 100000) (k s0 s1 s2 s3 : Int) :
    Calls Tryz.prog 80 #[.pointer (some ⟨gy, 0, none⟩), .int .i64 k, .agg #[.int .u64 s0, .int .u64 s1, .int .u64 s2, .int .u64 s3]] w (LayPost w gy mv l (L ++ [⟨k, s0, s1, s2, s3, (L.length : Int) + 1, 0⟩]) (.tuple #[])) := by
 obtain ⟨A, cap, rfl, hb, hr⟩ := h
 obtain ⟨i0, hi0, hz0, hz1, hz2⟩ := stepParts
 obtain ⟨n, hn⟩ : ∃ n, n = L.length := ⟨_, rfl⟩
 rw [← hn] at hb hr ⊢ hL
 have HN := Lib.hid hn; have HB := Lib.hid hb; have HR := Lib.hid hr
 clear hn
 go_enter Tryz.func80, Tryz.ntmps80
 go_upto_region 1 with fail
 obtain ⟨wb, hwb⟩ : ∃ wb, wb = w.alloc (.cells #[.int .u64 s0, .int .u64 s1, .int .u64 s2, .int .u64 s3] 101) := ⟨_, rfl⟩
 have hbx : Bk wb w.heap.size 101 #[.int .u64 s0, .int .u64 s1, .int .u64 s2, .int .u64 s3] := by rw [hwb]; exact Bk.new w _ _
 have hbb : Bk wb gy 147 #[.map (some mv), .slice A n cap] := by rw [hwb]; exact hb.alloc _
 have hfb : Fr [] w wb := by rw [hwb]; exact (Fr.refl [] w).alloc _
 have hrb := own_fr hr hfb (by simp)
 rw [← hwb]
 obtain ⟨bx, hbxe⟩ : ∃ bx, bx = w.heap.size := ⟨_, rfl⟩
 rw [← hbxe] at hbx ⊢
 have HBX := Lib.hid hbx; have HBB := Lib.hid hbb; have HFB := Lib.hid hfb; have HRB := Lib.hid hrb
 clear hb hr hbx hbb hfb hrb hwb hbxe
 refine wp_region_F_ (G := fun a b => a = b) (F := fun i => i == 18) (S := fun W => W.cell? ⟨gy, 1, none⟩ = some (.slice A n cap) ∧ Bk W bx 101 #[.int .u64 s0, .int .u64 s1, .int .u64 s2, .int .u64 s3]) ⟨fun _ => rfl, fun a b c h k => h.trans k, fun a b h k => k ▸ h, by kernel_rfl, fun _ _ d _ _ h => by cases d <;> exact h⟩ (by kernel_rfl) fun su => ?_
 have SU := Lib.hid su
 obtain ⟨wd, hwd⟩ : ∃ wd, wd = wb.drew := ⟨_, rfl⟩
 rw [← hwd]
 have HBD : Hid (Bk wd gy 147 #[.map (some mv), .slice A n cap]) := Lib.hid (by rw [hwd]; exact HBB.out.drew)
 have HXD : Hid (Bk wd bx 101 #[.int .u64 s0, .int .u64 s1, .int .u64 s2, .int .u64 s3]) := Lib.hid (by rw [hwd]; exact HBX.out.drew)
 have HRD : Hid (wd.ownsRow 0 150 7 (.slice A n cap) n (L.flatMap Sp.cells)) := Lib.hid (by rw [hwd]; exact HRB.out)
 have HFD : Hid (Fr [] w wd) := Lib.hid (by rw [hwd]; exact HFB.out.drew)
 have HS : Hid (wd.cell? ⟨gy, 1, none⟩ = some (.slice A n cap) ∧ Bk wd bx 101 #[.int .u64 s0, .int .u64 s1, .int .u64 s2, .int .u64 s3]) := Lib.hid ⟨HBD.out.cell_ (i := 1) rfl, HXD.out⟩
 clear su hwd
 refine F_move (i := 0) _ SU.out rfl rfl (by kernel_rfl) HS.out rfl ?_
 simp only [Act.put, Act.eval, PE]
 refine F_move (i := 1) _ SU.out rfl rfl (by kernel_rfl) HS.out rfl ?_
 simp only [Act.put, Act.eval, PE]
 refine F_val (i := 2) (v := ?_) SU.out rfl (by kernel_rfl) HS.out rfl (fun W hS => ?_) ?_
 rotate_left
 ·obtain ⟨t0, t1⟩ := hS; have q0 := t1.cell_ (i := 0) rfl; have q1 := t1.cell_ (i := 1) rfl; have q2 := t1.cell_ (i := 2) rfl; have q3 := t1.cell_ (i := 3) rfl
  go_simp
  first | done | rfl | omega | (exact IntWalk.i64_in _ (by omega)) | (simp; done) | (simp; omega)
 simp only [Act.put, PU]
 refine F_val (i := 3) (v := ?_) SU.out rfl (by kernel_rfl) HS.out rfl (fun W hS => ?_) ?_
 rotate_left
 ·obtain ⟨t0, t1⟩ := hS; have q0 := t1.cell_ (i := 0) rfl; have q1 := t1.cell_ (i := 1) rfl; have q2 := t1.cell_ (i := 2) rfl; have q3 := t1.cell_ (i := 3) rfl
  go_simp
  first | done | rfl | omega | (exact IntWalk.i64_in _ (by omega)) | (simp; done) | (simp; omega)
 simp only [Act.put, PU]
 refine F_val (i := 4) (v := .slice A n cap) SU.out rfl (by kernel_rfl) HS.out rfl (fun W hS => ?_) ?_
 ·obtain ⟨t0, t1⟩ := hS; have q0 := t1.cell_ (i := 0) rfl; have q1 := t1.cell_ (i := 1) rfl; have q2 := t1.cell_ (i := 2) rfl; have q3 := t1.cell_ (i := 3) rfl
  go_simp
  first | done | rfl | omega | (exact IntWalk.i64_in _ (by omega)) | (simp; done) | (simp; omega)
 simp only [Act.put, PU]
 refine F_move (i := 5) _ SU.out rfl rfl (by kernel_rfl) HS.out rfl ?_
 simp only [Act.put, Act.eval, PE]
 refine F_val (i := 6) (v := .agg #[.int .u64 s0, .int .u64 s1, .int .u64 s2, .int .u64 s3]) SU.out rfl (by kernel_rfl) HS.out rfl (fun W hS => ?_) ?_
 ·obtain ⟨t0, t1⟩ := hS; have q0 := t1.cell_ (i := 0) rfl; have q1 := t1.cell_ (i := 1) rfl; have q2 := t1.cell_ (i := 2) rfl; have q3 := t1.cell_ (i := 3) rfl
  go_simp
  first | done | rfl | omega | (exact IntWalk.i64_in _ (by omega)) | (simp; done) | (simp; omega)
 simp only [Act.put, PU]
 refine F_move (i := 7) _ SU.out rfl rfl (by kernel_rfl) HS.out rfl ?_
 simp only [Act.put, Act.eval, PE]
 refine F_val (i := 8) (v := ?_) SU.out rfl (by kernel_rfl) HS.out rfl (fun W hS => ?_) ?_
 rotate_left
 ·obtain ⟨t0, t1⟩ := hS; have q0 := t1.cell_ (i := 0) rfl; have q1 := t1.cell_ (i := 1) rfl; have q2 := t1.cell_ (i := 2) rfl; have q3 := t1.cell_ (i := 3) rfl
  go_simp
  first | done | rfl | omega | (exact IntWalk.i64_in _ (by omega)) | (simp; done) | (simp; omega)
 simp only [Act.put, PU]
 refine F_val (i := 9) (v := ?_) SU.out rfl (by kernel_rfl) HS.out rfl (fun W hS => ?_) ?_
 rotate_left
 ·obtain ⟨t0, t1⟩ := hS; have q0 := t1.cell_ (i := 0) rfl; have q1 := t1.cell_ (i := 1) rfl; have q2 := t1.cell_ (i := 2) rfl; have q3 := t1.cell_ (i := 3) rfl
  go_simp
  first | done | rfl | omega | (exact IntWalk.i64_in _ (by omega)) | (simp; done) | (simp; omega)
 simp only [Act.put, PU]
 refine F_val (i := 10) (v := .slice A n cap) SU.out rfl (by kernel_rfl) HS.out rfl (fun W hS => ?_) ?_
 ·obtain ⟨t0, t1⟩ := hS; have q0 := t1.cell_ (i := 0) rfl; have q1 := t1.cell_ (i := 1) rfl; have q2 := t1.cell_ (i := 2) rfl; have q3 := t1.cell_ (i := 3) rfl
  go_simp
  first | done | rfl | omega | (exact IntWalk.i64_in _ (by omega)) | (simp; done) | (simp; omega)
 simp only [Act.put, PU]
 refine F_val (i := 11) (v := .int .i64 (n : Int)) SU.out rfl (by kernel_rfl) HS.out rfl (fun W hS => ?_) ?_
 ·obtain ⟨t0, t1⟩ := hS; have q0 := t1.cell_ (i := 0) rfl; have q1 := t1.cell_ (i := 1) rfl; have q2 := t1.cell_ (i := 2) rfl; have q3 := t1.cell_ (i := 3) rfl
  go_simp
  first | done | rfl | omega | (exact IntWalk.i64_in _ (by omega)) | (simp; done) | (simp; omega)
 simp only [Act.put, PU]
 refine F_val (i := 12) (v := .int .i64 ((n : Int) + 1)) SU.out rfl (by kernel_rfl) HS.out rfl (fun W hS => ?_) ?_
 ·obtain ⟨t0, t1⟩ := hS; have q0 := t1.cell_ (i := 0) rfl; have q1 := t1.cell_ (i := 1) rfl; have q2 := t1.cell_ (i := 2) rfl; have q3 := t1.cell_ (i := 3) rfl
  go_simp
  first | done | rfl | omega | (exact IntWalk.i64_in _ (by omega)) | (simp; done) | (simp; omega)
 simp only [Act.put, PU]
 refine F_val (i := 13) (v := .agg #[.int .i64 k, .int .u64 s0, .int .u64 s1, .int .u64 s2, .int .u64 s3, .int .i64 ((n : Int) + 1), .int .i64 0]) SU.out rfl (by kernel_rfl) HS.out rfl (fun W hS => ?_) ?_
 ·obtain ⟨t0, t1⟩ := hS; have q0 := t1.cell_ (i := 0) rfl; have q1 := t1.cell_ (i := 1) rfl; have q2 := t1.cell_ (i := 2) rfl; have q3 := t1.cell_ (i := 3) rfl
  go_simp
  first | done | rfl | omega | (exact IntWalk.i64_in _ (by omega)) | (simp; done) | (simp; omega)
 simp only [Act.put, PU]
 refine wpAnyF_all (rs := [14]) (by kernel_rfl) (by simp) (fun w' hG => ?_)
 obtain rfl := hG
 refine allF.head rfl rfl (fun K6 hK6 => ?_) allF.nil
 go_simp
 obtain ⟨we, hwe⟩ : ∃ we, we = wd.alloc (.cells #[.int .i64 k, .int .u64 s0, .int .u64 s1, .int .u64 s2, .int .u64 s3, .int .i64 ((n : Int) + 1), .int .i64 0] 150) := ⟨_, rfl⟩
 rw [← hwe]
 have hBE : Bk we gy 147 #[.map (some mv), .slice A n cap] := by rw [hwe]; exact HBD.out.alloc _
 have hXE : Bk we bx 101 #[.int .u64 s0, .int .u64 s1, .int .u64 s2, .int .u64 s3] := by rw [hwe]; exact HXD.out.alloc _
 have hRE : we.ownsRow 0 150 7 (.slice A n cap) n (L.flatMap Sp.cells) := by rw [hwe]; exact own_fr HRD.out ((Fr.refl [] wd).alloc _) (by simp)
 have hNE : ∀ j u, [.int .i64 k, .int .u64 s0, .int .u64 s1, .int .u64 s2, .int .u64 s3, .int .i64 ((n : Int) + 1), .int .i64 0][j]? = some u → we.cell? ((⟨wd.heap.size, 0, none⟩ : Addr).add j) = some u := by rw [hwe]; exact seven_new wd _ _ _ _ _ _ _ _
 have hFE : Fr [] w we := by rw [hwe]; exact HFD.out.alloc _
 have HBE := Lib.hid hBE; have HXE := Lib.hid hXE; have HRE := Lib.hid hRE; have HNE := Lib.hid hNE; have HFE := Lib.hid hFE
 refine hK6.out _ _ (.inr ⟨hBE.cell_ (i := 1) rfl, hXE⟩) ?_
 clear hK6 K6 hwe hBE hXE hRE hNE hFE
 refine wpAnyF_all (rs := [15]) (by kernel_rfl) (by simp) (fun w' hG => ?_)
 obtain rfl := hG
 refine allF.head rfl rfl (fun K7 hK7 => ?_) allF.nil
 refine wp_append_R (.tmp 10) (.tmp 20) 107 rfl 0 150 i0 _ 7 56 Tryz.underlying107 hi0 hz0 hz1 hz2 rfl (by omega) (.slice A n cap) n (L.flatMap Sp.cells) (by first | rfl | (simp [Act.eval]; done)) HRE.out ⟨wd.heap.size, 0, none⟩ 1 1 [.int .i64 k, .int .u64 s0, .int .u64 s1, .int .u64 s2, .int .u64 s3, .int .i64 ((n : Int) + 1), .int .i64 0] (by first | rfl | (simp [Act.eval]; done)) rfl HNE.out (by simp [Value.oneCell']) (by unfold maxLen; omega) (by omega) (Nat.zero_le _) ?_
 intro v' w4 hown4 hgr hat
 have hx4 := HXE.out.grown hgr (fun e => own_ne HRE.out HXE.out (by decide) e.symm)
 obtain ⟨A', cap', rfl, hb4, hout⟩ := lay_snoc (s := ⟨k, s0, s1, s2, s3, (n : Int) + 1, 0⟩) HB.out HR.out HN.out HFE.out hown4 hgr (hat.imp id (fun h => by rw [h]))
 have HS4 : Hid (w4.cell? ⟨gy, 1, none⟩ = some (.slice A n cap) ∧ Bk w4 bx 101 #[.int .u64 s0, .int .u64 s1, .int .u64 s2, .int .u64 s3]) := Lib.hid ⟨hb4.cell_ (i := 1) rfl, hx4⟩
 have c1 := HS4.out.1
 have f1 := hb4.frozen 1
 have HOUT := Lib.hid hout
 refine hK7.out _ _ (.inr HS4.out) ?_
 clear hown4 hgr hat hx4 hb4 hout hK7 K7
 simp only [Act.put, PU]
 refine wpAnyF_all (rs := [16]) (by kernel_rfl) (by simp) (fun w' hG => ?_)
 obtain rfl := hG
 refine allF.head rfl rfl (fun K9 hK9 => ?_) allF.nil
 go_simp
 refine hK9.out _ _ (.inr HS4.out) ?_
 clear hK9 K9
 refine wpAnyF_all (rs := [17]) (by kernel_rfl) (by simp) (fun w' hG => ?_)
 obtain rfl := hG
 refine allF.head rfl rfl (fun K9 hK9 => ?_) allF.nil
 go_simp
 refine hK9.out _ _ (.inr HS4.out) ?_
 clear hK9 K9
 refine wpAnyF_all (rs := [18]) (by kernel_rfl) (by simp) (fun w' hG => ?_)
 obtain rfl := hG
 refine allF.head rfl rfl (fun K9 hK9 => ?_) allF.nil
 go_simp
 refine hK9.out _ _ (.inl rfl) ?_
 clear hK9 K9
 refine wpAnyF_done (by kernel_rfl) (fun w' hG => ?_)
 obtain rfl := hG
 go_wp2_with fail
 go_end0
 exact ⟨rfl, HOUT.out⟩
def Sp.put (s : Sp) (j : Nat) (v : Int) : Sp := if j = 5 then { s with x := v } else { s with y := v }
theorem lay_set {w : World} {gy mv : Nat} {l : List Nat} {L : List Sp} (h : LaySt w gy mv l L) {i : Nat} {s : Sp} (hs : L[i]? = some s) {j : Nat} (hj : j = 5 ∨ j = 6) (v : Int) :
    ∃ B cap, l = [gy, B] ∧ gy ≠ B ∧ w.cell? ⟨gy, 1, none⟩ = some (.slice (some ⟨B, 0, none⟩) L.length cap) ∧ w.frozen? ⟨B, i * 7 + j, none⟩ = false ∧ (∃ u, w.cell? ⟨B, i * 7 + j, none⟩ = some u) ∧
     LaySt (w.setCell ⟨B, i * 7 + j, none⟩ (.int .i64 v)) gy mv l (L.set i (s.put j v)) := by
 obtain ⟨A, cap, rfl, hb, hr⟩ := h
 have hi : i < L.length := (List.getElem?_eq_some_iff.1 hs).1
 have hfl := flat_len sp_len L
 have hne : L.flatMap Sp.cells ≠ [] := fun e => by rw [e] at hfl; simp at hfl; omega
 obtain ⟨B, rfl, hB, hfz, hcl⟩ := own_cells hr hne
 have hgB : gy ≠ B := fun e => own_ne hr hb (by decide) (by rw [e]; rfl)
 have hj7 : j < 7 := by omega
 have hat := flat_at sp_len s j hj7 L i hs
 refine ⟨B, cap, rfl, hgB, hb.cell_ (i := 1) rfl, hfz _, ?_, some ⟨B, 0, none⟩, cap, by rw [List.length_set], ?_, ?_⟩
 ·rcases hj with rfl | rfl
  ·exact ⟨_, hcl _ _ (hat.trans rfl)⟩
  ·exact ⟨_, hcl _ _ (hat.trans rfl)⟩
 ·rw [List.length_set]; exact hb.far hgB _
 ·rw [List.length_set]
  have h1 := own_set hr (i * 7 + j) (.int .i64 v)
  rw [flat_set sp_len s (s.put j v) j hj7 (.int .i64 v) (by rcases hj with rfl | rfl <;> rfl) L i hs] at h1
  exact h1
end Go.Proofs.YtfbmogccmlikaaaGreatDoor
namespace Go.Proofs.YtfbmogccmlikaaaGreatDoor
open Go.RowKit Go.ChangeMaps
set_option linter.unusedVariables false
set_option linter.unusedSimpArgs false
theorem set_last {α : Type} (L : List α) (x y : α) : (L ++ [x]).set L.length y = L ++ [y] := by
 rw [List.set_append_right _ _ (Nat.le_refl _), Nat.sub_self]; rfl
set_option maxRecDepth 100000 in
set_option maxHeartbeats 4000000 in
theorem jump_any {w : World} {gy mv : Nat} {l : List Nat} {L : List Sp} (h : LaySt w gy mv l L) (hL : L.length ≤ 100000) (to : Nat) :
    Calls Tryz.prog 89 #[.pointer (some ⟨gy, 0, none⟩), .int .i64 (to : Int)] w (LayPost w gy mv l (L ++ [Sp.fork to to]) (.int .i64 (L.length : Int))) := by
 have H := Lib.hid h; clear h
 go_enter Tryz.func89, Tryz.ntmps89
 go_wp2_with fail
 go_at_call 88
 refine (fork_any H.out hL).mono ?_
 rintro e w1 ⟨rfl, hout⟩
 have HOUT := Lib.hid hout
 obtain ⟨l1, h1, hf1, hl1⟩ := hout
 obtain ⟨n, hn⟩ : ∃ n, n = L.length := ⟨_, rfl⟩
 rw [← hn] at hL ⊢
 have hat : (L ++ [Sp.fork (L.length + 1) 0])[n]? = some (Sp.fork (L.length + 1) 0) := by rw [hn]; simp
 have h1d : LaySt w1.drew gy mv l1 (L ++ [Sp.fork (L.length + 1) 0]) := h1.fr_nil ((Fr.refl [] w1).drew)
 obtain ⟨B, cap, hlB, hgB, hc, hz, ⟨u5, hu5⟩, hs5⟩ := lay_set h1d hat (j := 5) (.inl rfl) (to : Int)
 have hat2 : ((L ++ [Sp.fork (L.length + 1) 0]).set n ((Sp.fork (L.length + 1) 0).put 5 to))[n]? = some ((Sp.fork (L.length + 1) 0).put 5 to) := by
  rw [List.getElem?_set_self (by rw [hn]; simp)]
 obtain ⟨B2, cap2, hlB2, -, hc2, hz2, ⟨u6, hu6⟩, hs6⟩ := lay_set hs5 hat2 (j := 6) (.inr rfl) (to : Int)
 have hBB : B2 = B := by rw [hlB] at hlB2; simpa using hlB2.symm
 subst hBB
 have hlen : (L ++ [Sp.fork (L.length + 1) 0]).length = n + 1 := by rw [List.length_append, hn]; rfl
 rw [hlen] at hc
 have hfin : ((L ++ [Sp.fork (L.length + 1) 0]).set n ((Sp.fork (L.length + 1) 0).put 5 to)).set n (((Sp.fork (L.length + 1) 0).put 5 to).put 6 to) = L ++ [Sp.fork to to] := by
  rw [hn, set_last, set_last]; rfl
 rw [hfin] at hs6
 have HS6 := Lib.hid hs6; have HFIN := Lib.hid hfin; have HF1 := Lib.hid hf1; have HL1 := Lib.hid hl1; have HLB := Lib.hid hlB; have HN := Lib.hid hn
 have hn1 : (n : Int) < (n : Int) + 1 := by omega
 have hn2 : n < n + 1 := by omega
 have hlB1 : B2 < w1.heap.size := by have := h1.lt B2 (by rw [hlB]; simp); exact this
 clear h1 hf1 hl1 hat h1d hs5 hat2 hs6 hlB hlB2 hlen hfin hn hc2
 go_upto_region 2 with fail
 refine wp_region_M_ (G := fun a b => a = b) (S := fun W => W.cell? ⟨gy, 1, none⟩ = some (.slice (some ⟨B2, 0, none⟩) (n + 1) cap)) ⟨fun _ => rfl, fun a b c h k => h.trans k, fun a b h k => k ▸ h, by kernel_rfl, fun _ _ d _ _ h => by cases d <;> exact h⟩ (by kernel_rfl) fun su => ?_
 have SU := Lib.hid su
 clear su
 have hfd : Fr [] w1 w1.drew := (Fr.refl [] w1).drew
 have HFD := Lib.hid hfd
 clear hfd
 generalize w1.drew = wd at *
 have HS := Lib.hid hc
 refine M_move (i := 0) _ SU.out rfl rfl (by kernel_rfl) HS.out rfl ?_
 simp only [Act.put, Act.eval, PE]
 refine M_val (i := 1) (v := ?_) SU.out rfl (by kernel_rfl) HS.out rfl (fun W hS => ?_) ?_
 rotate_left
 ·have hs1 := hS
  go_simp
  first | done | rfl | omega | (exact IntWalk.i64_in _ (by omega)) | (simp; done) | (simp; omega)
 simp only [Act.put, PU]
 refine M_val (i := 2) (v := ?_) SU.out rfl (by kernel_rfl) HS.out rfl (fun W hS => ?_) ?_
 rotate_left
 ·have hs1 := hS
  go_simp
  first | done | rfl | omega | (exact IntWalk.i64_in _ (by omega)) | (simp; done) | (simp; omega)
 simp only [Act.put, PU]
 refine M_val (i := 3) (v := .slice (some ⟨B2, 0, none⟩) (n + 1) cap) SU.out rfl (by kernel_rfl) HS.out rfl (fun W hS => ?_) ?_
 ·have hs1 := hS
  go_simp
  first | done | rfl | omega | (exact IntWalk.i64_in _ (by omega)) | (simp; done) | (simp; omega)
 simp only [Act.put, PU]
 refine M_move (i := 4) _ SU.out rfl rfl (by kernel_rfl) HS.out rfl ?_
 simp only [Act.put, Act.eval, PE]
 refine M_move (i := 5) _ SU.out rfl rfl (by kernel_rfl) HS.out rfl ?_
 simp only [Act.put, Act.eval, PE]
 refine M_val (i := 6) (v := ?_) SU.out rfl (by kernel_rfl) HS.out rfl (fun W hS => ?_) ?_
 rotate_left
 ·have hs1 := hS
  go_simp
  first | done | rfl | omega | (exact IntWalk.i64_in _ (by omega)) | (simp; done) | (simp; omega)
 simp only [Act.put, PU]
 refine M_val (i := 7) (v := ?_) SU.out rfl (by kernel_rfl) HS.out rfl (fun W hS => ?_) ?_
 rotate_left
 ·have hs1 := hS
  go_simp
  first | done | rfl | omega | (exact IntWalk.i64_in _ (by omega)) | (simp; done) | (simp; omega)
 simp only [Act.put, PU]
 refine M_val (i := 8) (v := .slice (some ⟨B2, 0, none⟩) (n + 1) cap) SU.out rfl (by kernel_rfl) HS.out rfl (fun W hS => ?_) ?_
 ·have hs1 := hS
  go_simp
  first | done | rfl | omega | (exact IntWalk.i64_in _ (by omega)) | (simp; done) | (simp; omega)
 simp only [Act.put, PU]
 refine M_move (i := 9) _ SU.out rfl rfl (by kernel_rfl) HS.out rfl ?_
 simp only [Act.put, Act.eval, PE]
 refine M_move (i := 10) _ SU.out rfl rfl (by kernel_rfl) HS.out rfl ?_
 simp only [Act.put, Act.eval, PE]
 refine M_move (i := 11) _ SU.out rfl rfl (by kernel_rfl) HS.out rfl ?_
 simp only [Act.put, Act.eval, PE]
 refine M_val (i := 12) (v := .pointer (some ⟨B2, n * 7, none⟩)) SU.out rfl (by kernel_rfl) HS.out rfl (fun W hS => ?_) ?_
 ·have hs1 := hS
  go_simp
  first | done | rfl | omega | (exact IntWalk.i64_in _ (by omega)) | (simp; done) | (simp; omega)
 simp only [Act.put, PU]
 refine M_val (i := 13) (v := .pointer (some ⟨B2, n * 7 + 5, none⟩)) SU.out rfl (by kernel_rfl) HS.out rfl (fun W hS => ?_) ?_
 ·have hs1 := hS
  go_simp
  first | done | rfl | omega | (exact IntWalk.i64_in _ (by omega)) | (simp; done) | (simp; omega)
 simp only [Act.put, PU]
 refine wpAnyM_all (rs := [14]) (by kernel_rfl) (by simp) (fun w' hG => ?_)
 obtain rfl := hG
 refine allM.head rfl rfl (fun K6 hK6 => ?_) allM.nil
 go_simp
 refine hK6.out _ _ (by go_simp) ?_
 clear hK6 K6
 refine wpAnyM_all (rs := [15]) (by kernel_rfl) (by simp) (fun w' hG => ?_)
 obtain rfl := hG
 refine allM.head rfl rfl (fun K6 hK6 => ?_) allM.nil
 go_simp
 refine hK6.out _ _ (by go_simp) ?_
 clear hK6 K6
 refine wpAnyM_all (rs := [16]) (by kernel_rfl) (by simp) (fun w' hG => ?_)
 obtain rfl := hG
 refine allM.head rfl rfl (fun K6 hK6 => ?_) allM.nil
 go_simp
 refine hK6.out _ _ (by go_simp) ?_
 clear hK6 K6
 refine wpAnyM_all (rs := [17]) (by kernel_rfl) (by simp) (fun w' hG => ?_)
 obtain rfl := hG
 refine allM.head rfl rfl (fun K6 hK6 => ?_) allM.nil
 go_simp
 refine hK6.out _ _ (by go_simp) ?_
 clear hK6 K6
 refine wpAnyM_done (by kernel_rfl) (fun w' hG => ?_)
 obtain rfl := hG
 go_wp2_with fail
 go_ret
 have hfr : Fr l1 w1 ((wd.setCell ⟨B2, n * 7 + 5, none⟩ (.int .i64 (to : Int))).setCell ⟨B2, n * 7 + 6, none⟩ (.int .i64 (to : Int))) := by
  rw [HLB.out]
  exact ((HFD.out.nil_).setCell (.inl (by simp)) _).setCell (.inl (by simp)) _
 exact ⟨by rw [← HN.out]; rfl, l1, HS6.out, HF1.out.trans' hfr HL1.out, HL1.out⟩
end Go.Proofs.YtfbmogccmlikaaaGreatDoor
namespace Go.Proofs.YtfbmogccmlikaaaGreatDoor
open Go.RowKit Go.ChangeMaps
set_option linter.unusedVariables false
set_option linter.unusedSimpArgs false
def StL (w0 : World) (gy mv : Nat) (l0 : List Nat) (es : List (Ky × Ex)) (L : List Sp) (w : World) : Prop := LayOut w0 gy mv l0 L w ∧ MInv w mv es ∧ KeepT w0 w
theorem StL.start {w : World} {gy mv : Nat} {l : List Nat} {es : List (Ky × Ex)} {L : List Sp} (h : LaySt w gy mv l L) (hm : MInv w mv es) : StL w gy mv l es L w :=
 ⟨LayOut.refl h (Fr.refl [] w), hm, KeepT.refl w⟩
theorem StL.nil_ {w0 w w1 : World} {gy mv : Nat} {l0 : List Nat} {es : List (Ky × Ex)} {L : List Sp} (h : StL w0 gy mv l0 es L w) (hf : Fr [] w w1) : StL w0 gy mv l0 es L w1 :=
 ⟨h.1.trans fun l1 h1 => LayOut.refl h1 hf, h.2.1.nil_ hf, h.2.2.trans (KeepT.of_nil hf)⟩
theorem StL.step {w0 w w1 : World} {gy mv : Nat} {l0 l : List Nat} {es : List (Ky × Ex)} {L L' : List Sp} (h : StL w0 gy mv l0 es L w) (hl : LaySt w gy mv l L) (hs : Fr l0 w0 w) (hb : ∀ b ∈ l, b ∈ l0 ∨ w0.heap.size ≤ b) (k : LayOut w gy mv l L' w1) : StL w0 gy mv l0 es L' w1 := by
 obtain ⟨h1, h2, h3⟩ := h
 obtain ⟨l', k1, k2, k3⟩ := k
 have hk : KeepT w w1 := KeepT.of_fr k2 hl.kind
 have hmv := h2.1
 obtain ⟨arr, clock, hmb, -, -⟩ := hmv
 refine ⟨⟨l', k1, hs.trans' k2 hb, fun b hb' => ?_⟩, h2.keep (k2.block mv h2.1.lt (fun hm => hl.nomap hmb mv hm rfl)) hk, h3.trans hk⟩
 rcases k3 b hb' with hb' | hb'
 ·exact hb b hb'
 ·exact .inr (Nat.le_trans hs.size hb')
theorem StL.grown {w0 w w1 : World} {gy mv : Nat} {l0 : List Nat} {es : List (Ky × Ex)} {L : List Sp} {row : Option Nat} (h : StL w0 gy mv l0 es L w) (hg : w.grownBy w1 row) (hr : ∀ g, row = some g → w0.heap.size ≤ g ∧ ∃ cur, Bk w g 3 cur) : StL w0 gy mv l0 es L w1 := by
 obtain ⟨⟨l, h1, hf, hb⟩, h2, h3⟩ := h
 have hfr : Fr row.toList w w1 := (Fr.refl row.toList w).grown hg (fun g e => .inl (by rw [e]; simp))
 have hk : KeepT w w1 := KeepT.of_fr hfr (fun b hb' cs hc => by
  have e : row = some b := by simpa using hb'
  obtain ⟨cur, hcur⟩ := (hr b e).2
  exact hc.ne_ hcur (by decide) rfl)
 refine ⟨⟨l, h1.fr hfr (fun b hb' hm => ?_), hf.grown hg (fun g e => .inr (hr g e).1), hb⟩, h2.keep (hfr.block mv h2.1.lt (fun hm => ?_)) hk, h3.trans hk⟩
 ·have e : row = some b := by simpa using hm
  obtain ⟨cur, hcur⟩ := (hr b e).2
  exact h1.none_ hcur (by decide) (by decide) hb'
 ·have e : row = some mv := by simpa using hm
  obtain ⟨cur, hcur⟩ := (hr mv e).2
  exact h2.1.ne hcur rfl
theorem StL.set_ {w0 w : World} {gy mv : Nat} {l0 : List Nat} {es : List (Ky × Ex)} {L : List Sp} (h : StL w0 gy mv l0 es L w) {i : Nat} {s : Sp} (hs : L[i]? = some s) {j : Nat} (hj : j = 5 ∨ j = 6) (v : Int) :
    ∃ B cap, gy ≠ B ∧ w.cell? ⟨gy, 1, none⟩ = some (.slice (some ⟨B, 0, none⟩) L.length cap) ∧ w.frozen? ⟨B, i * 7 + j, none⟩ = false ∧ (∃ u, w.cell? ⟨B, i * 7 + j, none⟩ = some u) ∧ StL w0 gy mv l0 es (L.set i (s.put j v)) (w.setCell ⟨B, i * 7 + j, none⟩ (.int .i64 v)) ∧
     (∀ g t cs, Bk w g t cs → t ≠ 150 → g ≠ B) := by
 obtain ⟨l, h1, hf, hb⟩ := id h.1
 obtain ⟨B, cap, hlB, hgB, hc, hz, hu, hs'⟩ := lay_set h1 hs hj v
 have hBt : ∃ cur, Bk w B 150 cur := by
  obtain ⟨A, cap', hl', hbk, hr⟩ := h1
  rw [hlB] at hl'
  injection hl' with _ hl'
  exact own_bk hr B (by
   cases ho : (Value.slice A L.length cap').ownBlock with
   | none => rw [ho] at hl'; cases hl'
   | some x => rw [ho] at hl'; simp at hl'; rw [hl'])
 obtain ⟨cur, hcur⟩ := hBt
 refine ⟨B, cap, hgB, hc, hz, hu, h.step h1 hf hb ⟨l, hs', (Fr.refl l w).setCell (.inl (by rw [hlB]; simp)) _, fun b hb' => .inl hb'⟩, fun g t cs hg ht e => ?_⟩
 subst e
 exact hg.ne_ hcur ht rfl
theorem timesP_snoc (f : Nat → List Sp) (n : Nat) : ∀ k a, timesP f n (k + 1) a = timesP f n k a ++ f (a + k * n)
 | 0, a => by simp [timesP]
 | k + 1, a => by
  rw [timesP, timesP_snoc f n k (a + n), timesP, List.append_assoc, Nat.succ_mul]
  rw [show a + n + k * n = a + (k * n + n) by omega]
theorem maybeP_snoc (f : Nat → List Sp) (n all : Nat) : ∀ k a, maybeP f n all (k + 1) a = maybeP f n all k a ++ Sp.fork (a + k * (n + 1) + 1) all :: f (a + k * (n + 1) + 1)
 | 0, a => by simp [maybeP]
 | k + 1, a => by
  rw [maybeP, maybeP_snoc f n all k (a + 1 + n), maybeP, Nat.succ_mul]
  rw [show a + 1 + n + k * (n + 1) + 1 = a + (k * (n + 1) + (n + 1)) + 1 by omega]
  simp
theorem layL_one (t : PT) (a : Nat) : layL [t] a = layP t a := by simp [layL]
theorem sizL_one (t : PT) : sizL [t] = sizP t := by simp [sizL]
theorem set_mid {α : Type} (L Q : List α) (x y : α) : (L ++ x :: Q).set L.length y = L ++ y :: Q := by
 rw [List.set_append_right _ _ (Nat.le_refl _), Nat.sub_self]; rfl
theorem get_mid {α : Type} (L Q : List α) (x : α) : (L ++ x :: Q)[L.length]? = some x := by simp
end Go.Proofs.YtfbmogccmlikaaaGreatDoor
