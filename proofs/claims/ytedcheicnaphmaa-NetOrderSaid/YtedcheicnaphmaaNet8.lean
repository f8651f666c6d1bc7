/-
  Write of a net's wire. No conditions on the program.
-/
import Derived.Test.YtedcheicnaphmaaNet7
namespace Go.Proofs.Ytedcheicnaphmaa
open Go.RowKit
set_option linter.unusedVariables false
set_option linter.unusedSimpArgs false

section
variable {P : Program} {Q : Exit → Act → World → Prop} {md : Region.Mode} {G : World → World → Prop} {S : World → Prop} {F : Nat → Bool} {l r : List Oper} {o : Oper} {i n : Nat} {listed : Array Bool} {a : Act} {w : World}
/-- 's[:h]' in a region that draws. -/
theorem F_cut (t : TypeId) (x oh : Operand) (su : Setup P l Q G S) (ho : l.drop i = o :: r) (hop : o.op = .slice t x none (some oh) none) (e : TypeId) (ti : TypeInfo) (ht : P.underlying t = some (.slice e)) (hi : P.info? e = some ti) (hs : ti.size = 1)
    (A : Option Addr) (len c h : Nat) (hxv : a.eval x = .slice A len c) (hh : a.eval oh = .int .i64 (h : Int)) (h1 : h ≤ len) (h2 : len ≤ c)
    (hB : ((Region.ready md l.toArray listed).contains i && Region.free md l.toArray listed i && waits md l.toArray F i) = true) (hS : S w) (hw : Region.wanted o (yielded l.toArray a.tmps) = true)
    (hr : wpAnyF P md l.toArray Q G S F n (listed.setIfInBounds i true) (a.put o.dst (.slice A h c)) w) : wpAnyF P md l.toArray Q G S F (n + 1) listed a w := by
  refine F_val su ho hB hS hw (fun w' _ => ?_) hr
  have hrun : (Instr.sliceAt t (a.eval x) none (some (a.eval oh)) none).run P w' = .ok (.slice A h c) w' := by
    rw [hxv, hh]
    have hb := run_bounds_ (P := P) len c none (some (.int .i64 (h : Int))) none 0 h c w' (.inl ⟨rfl, rfl⟩) (.inr rfl) (.inl ⟨rfl, rfl⟩) (Nat.zero_le _) (Nat.le_trans h1 h2) (Nat.le_refl _)
    have hA : A.map (·.add 0) = A := by cases A <;> simp [Addr.add]
    simp [Instr.sliceAt, Instr.slice, run_underlying ht, sizeOf, typeInfo, hi, hs, hb, hA]
  unfold execOp
  simp only [hop, Option.map_none, Option.map_some, hrun, Sem.run_bind, Result.andThen_ok, Sem.run_pure]
end

set_option maxRecDepth 100000 in
set_option maxHeartbeats 2000000 in
theorem write_yesR {w : World} {B n : Nat} {now : Int} {ws : List Wr} (v : Value) (G : Nat → Nat) (IV GV : Nat → Value) (h : NetR w B n now ws v G IV GV) (hB : B ≤ w.heap.size) (hlen : ws.length ≤ 64) {k : Nat} (hk : k < ws.length) (x : Wr) (hx : ws.getD k default = x) (hst : x.st = 1) (hsh : x.sh = false) (hw0 : 0 ≤ x.win) (hw1 : x.win ≤ 1048576) (hgl : x.got.length ≤ 100000000)
    (bA : Option Addr) (bs : List UInt8) (bc : Nat) (hby : Bytes w bA bs) (hbc : bs.length ≤ bc) (hb1 : bs.length ≤ 100000000) (kk : Nat) (hkk : (kk : Int) = min (bs.length : Int) x.win) :
    Calls Try.prog 13 #[.pointer (some ⟨n, 0, none⟩), .int .i64 ((k : Int) + 1), .slice bA bs.length bc] w fun e w' => e = .returned (.tuple #[.int .i64 (kk : Int), .nilIface]) ∧
      NetS w' B n now (ws.set k { x with got := x.got ++ bs.take kk, win := x.win - kk }) ∧ NFr B w w' ∧ ∀ b, b < w.heap.size → b ≠ G k → (GV k).ownBlock ≠ some b → w'.heap[b]? = w.heap[b]? := by
  have hkb : kk ≤ bs.length := by omega
  have hup := up_yes h hlen k hk (by rw [hx]; exact hst)
  have hw := h.wire k hk
  rw [hx] at hw
  obtain ⟨GA, gcap, hgv, -, hgl1, hgl2, -, -⟩ := (h.got k hk).at_
  rw [hx, byteVals_length] at hgv
  obtain ⟨-, -, -, d3, d4, -, d6, -⟩ := w_cells hw
  rw [hgv] at d4
  rw [hsh] at d6
  obtain ⟨i0, hi0, hz0, hz1, hz2⟩ := u8parts
  have hwr : IntKind.i64.wrap (x.win - (kk : Int)) = x.win - (kk : Int) := by rw [IntKind.wrap_i64]; omega
  have HUP := Lib.hid hup; have H0 := Lib.hid h; have HGV := Lib.hid hgv; have HX := Lib.hid hx; have HBY := Lib.hid hby; have HMIN := Lib.hid hkk.symm
  clear h hw hgv hx hby hup hkk hgl1 hgl2
  go_enter Try.func13, Try.ntmps13
  go_wp2_with fail
  go_at_call 23
  refine HUP.out.mono ?_
  rintro e w1 ⟨rfl, rfl⟩
  go_upto_region 7 with (refine wpList_min rfl (.tmp 27) (.tmp 32) _ rfl _ _ _ (kk : Int) (by first | rfl | (simp [Act.eval]; done)) (by first | rfl | (simp [Act.eval]; done)) HMIN.out ?_)
  have H := Lib.hid (H0.out.fr_nil (Fr.refl [] w).drew)
  have HBYD : Hid (Bytes w.drew bA bs) := Lib.hid (HBY.out.fr_nil (Fr.refl [] w).drew)
  have HFD := Lib.hid ((Fr.refl [] w).drew)
  have HBD : Hid (B ≤ w.drew.heap.size) := Lib.hid hB
  have hwd := H.out.wire k hk
  rw [HX.out, HGV.out] at hwd
  have hod := H.out.got k hk
  rw [HX.out, HGV.out] at hod
  refine wp_region_F_ (G := fun a b => a = b) (F := fun i => i == 13) (S := fun W => W.cell? ⟨G k, 4, none⟩ = some (.slice GA x.got.length gcap)) ⟨fun _ => rfl, fun a b c h k => h.trans k, fun a b h k => k ▸ h, by kernel_rfl, fun _ _ d _ _ h => by cases d <;> exact h⟩ (by kernel_rfl) fun su => ?_
  have SU := Lib.hid su
  have HS : Hid (w.drew.cell? ⟨G k, 4, none⟩ = some (.slice GA x.got.length gcap)) := Lib.hid (hwd.cell_ (i := 4) rfl)
  have HWD := Lib.hid hwd; have HOD := Lib.hid hod
  clear su hwd hod d3 d4 d6
  generalize w.drew = wd at *
  refine F_move (i := 0) _ SU.out rfl rfl (by kernel_rfl) HS.out rfl ?_
  simp only [Act.put, Act.eval, List.setIfInBounds_toArray, List.set_cons_zero, List.set_cons_succ, List.getElem?_toArray, List.getElem?_cons_zero, List.getElem?_cons_succ, Option.getD_some]
  refine F_move (i := 1) _ SU.out rfl rfl (by kernel_rfl) HS.out rfl ?_
  simp only [Act.put, Act.eval, List.setIfInBounds_toArray, List.set_cons_zero, List.set_cons_succ, List.getElem?_toArray, List.getElem?_cons_zero, List.getElem?_cons_succ, Option.getD_some]
  refine F_val (i := 2) (v := ?_) SU.out rfl (by kernel_rfl) HS.out rfl (fun W hS => ?_) ?_
  rotate_left
  · go_simp
    first | done | rfl
  simp only [Act.put, List.setIfInBounds_toArray, List.set_cons_zero, List.set_cons_succ]
  refine F_val (i := 3) (v := ?_) SU.out rfl (by kernel_rfl) HS.out rfl (fun W hS => ?_) ?_
  rotate_left
  · go_simp
    first | done | rfl
  simp only [Act.put, List.setIfInBounds_toArray, List.set_cons_zero, List.set_cons_succ]
  refine F_val (i := 4) (v := ?_) SU.out rfl (by kernel_rfl) HS.out rfl (fun W hS => ?_) ?_
  rotate_left
  · go_simp
    first | done | rfl
  simp only [Act.put, List.setIfInBounds_toArray, List.set_cons_zero, List.set_cons_succ]
  refine F_val (i := 5) (v := .slice GA x.got.length gcap) SU.out rfl (by kernel_rfl) HS.out rfl (fun W hS => ?_) ?_
  · have s1 := hS
    go_simp
    first | done | rfl
  simp only [Act.put, List.setIfInBounds_toArray, List.set_cons_zero, List.set_cons_succ]
  refine F_move (i := 6) _ SU.out rfl rfl (by kernel_rfl) HS.out rfl ?_
  simp only [Act.put, Act.eval, List.setIfInBounds_toArray, List.set_cons_zero, List.set_cons_succ, List.getElem?_toArray, List.getElem?_cons_zero, List.getElem?_cons_succ, Option.getD_some]
  refine F_move (i := 7) _ SU.out rfl rfl (by kernel_rfl) HS.out rfl ?_
  simp only [Act.put, Act.eval, List.setIfInBounds_toArray, List.set_cons_zero, List.set_cons_succ, List.getElem?_toArray, List.getElem?_cons_zero, List.getElem?_cons_succ, Option.getD_some]
  refine F_cut (i := 8) 32 (.tmp 40) (.tmp 41) SU.out rfl rfl 5 i0 Try.underlying32 hi0 hz1 bA bs.length bc kk (by first | rfl | (simp [Act.eval]; done)) (by first | rfl | (simp [Act.eval]; done)) hkb hbc (by kernel_rfl) HS.out rfl ?_
  simp only [Act.put, List.setIfInBounds_toArray, List.set_cons_zero, List.set_cons_succ]
  refine wpAnyF_all (rs := [9]) (by kernel_rfl) (by simp) (fun w' hG => ?_)
  obtain rfl := hG
  refine allF.head rfl rfl (fun K7 hK7 => ?_) allF.nil
  have htk : (bs.take kk).length = kk := by simp; omega
  refine wp_append_OwnS (.tmp 39) (.tmp 42) 32 rfl 5 i0 _ Try.underlying32 hi0 hz0 hz1 rfl (.slice GA x.got.length gcap) (byteVals x.got) x.got.length (byteVals_length _) (by first | rfl | (simp [Act.eval]; done)) HOD.out bA kk bc (by first | rfl | (simp [Act.eval]; done)) (byteVals (bs.take kk)) (by have := At.take HBYD.out kk; simpa [byteVals, List.map_take] using this) (by rw [byteVals_length]; exact htk) (byteVals_one _) (by unfold maxLen; omega) (by rw [hz2]; omega) ?_
  intro A3 c3 w3 hown hgr hloc
  rw [← byteVals_append] at hown
  have hw3 := HWD.out.grown hgr (fun e => HOD.out.ne_bk HWD.out (by decide) e.symm)
  have c4 : w3.cell? ⟨G k, 4, none⟩ = some (.slice GA x.got.length gcap) := hw3.cell_ (i := 4) rfl
  have f4 := hw3.frozen 4
  have c3' : w3.cell? ⟨G k, 3, none⟩ = some (.int .i64 x.win) := hw3.cell_ (i := 3) rfl
  have f3 := hw3.frozen 3
  refine hK7.out _ _ (.inr c4) ?_
  have HOWN := Lib.hid hown; have HGR := Lib.hid hgr; have HLOC := Lib.hid hloc
  clear hK7 K7 hw3 hown hgr hloc
  simp only [Act.put, List.setIfInBounds_toArray, List.set_cons_zero, List.set_cons_succ]
  refine wpAnyF_all (rs := [10]) (by kernel_rfl) (by simp) (fun w' hG => ?_)
  obtain rfl := hG
  refine allF.head rfl rfl (fun K9 hK9 => ?_) allF.nil
  go_simp
  refine hK9.out _ _ (.inr c4) ?_
  clear hK9 K9
  refine wpAnyF_all (rs := [11]) (by kernel_rfl) (by simp) (fun w' hG => ?_)
  obtain rfl := hG
  refine allF.head rfl rfl (fun Ka hKa => ?_) allF.nil
  go_simp
  refine hKa.out _ _ (.inr c4) ?_
  clear hKa Ka
  refine wpAnyF_all (rs := [12]) (by kernel_rfl) (by simp) (fun w' hG => ?_)
  obtain rfl := hG
  refine allF.head rfl rfl (fun Kb hKb => ?_) allF.nil
  go_simp
  refine hKb.out _ _ (.inr c4) ?_
  clear hKb Kb
  refine wpAnyF_all (rs := [13]) (by kernel_rfl) (by simp) (fun w' hG => ?_)
  obtain rfl := hG
  refine allF.head rfl rfl (fun K8 hK8 => ?_) allF.nil
  go_simp
  refine hK8.out _ _ (.inl rfl) ?_
  clear hK8 K8 c4 f4
  refine wpAnyF_done (by kernel_rfl) (fun w' hG => ?_)
  obtain rfl := hG
  go_wp2_with fail
  refine body_gen fun W hW => ?_
  go_ret2
  have hgr2 := HGR.out
  have hloc2 := HLOC.out
  rw [← HGV.out] at hgr2 hloc2
  have hp := net_got H.out HBD.out hk _ (x.got ++ bs.take kk) HOWN.out hgr2 hloc2
  rw [HX.out] at hp
  have hw5 := hp.1.wire k (by simpa using hk)
  rw [getD_set ws _ hk, if_pos rfl] at hw5
  have hf5 : Fr [G k] (w3.setCell ⟨G k, 4, none⟩ (.slice A3 (x.got.length + kk) c3)) W := by rw [hW]; exact (Fr.refl _ _).setCell (.inl (by simp)) _
  have hq := hp.1.putW (k := k) (by simpa using hk) { x with got := x.got ++ bs.take kk, win := x.win - kk } hf5 (by rw [hW]; exact hw5.put 3 _) (by rw [getD_set ws _ hk, if_pos rfl]) (by rw [getD_set ws _ hk, if_pos rfl])
  rw [List.set_set] at hq
  refine ⟨rfl, ⟨_, _, _, _, hq⟩, ((NFr.of_fr HFD.out).trans hp.2).trans (NFr.own [G k] hf5 ?_), ?_⟩
  rotate_left
  · intro b hb h1 h2
    have hs3 : w.heap.size ≤ w3.heap.size := Nat.le_trans HFD.out.size HGR.out.size
    rw [hf5.block b (by simp; omega) (by simpa using h1), Below.heap_setCell w3 _ _ b (by simpa using h1), HGR.out.block b (Nat.lt_of_lt_of_le hb HFD.out.size) (by rw [← HGV.out]; exact fun e => h2 e.symm), HFD.out.block b hb (by simp)]
  intro j hj
  rw [List.mem_singleton.1 hj]
  exact ⟨H.out.bg k hk, .inr ⟨_, _, _, hw5, .inr (.inr (.inl rfl))⟩⟩
theorem write_yes {w : World} {B n : Nat} {now : Int} {ws : List Wr} (h : NetS w B n now ws) (hB : B ≤ w.heap.size) (hlen : ws.length ≤ 64) {k : Nat} (hk : k < ws.length) (x : Wr) (hx : ws.getD k default = x) (hst : x.st = 1) (hsh : x.sh = false) (hw0 : 0 ≤ x.win) (hw1 : x.win ≤ 1048576) (hgl : x.got.length ≤ 100000000)
    (bA : Option Addr) (bs : List UInt8) (bc : Nat) (hby : Bytes w bA bs) (hbc : bs.length ≤ bc) (hb1 : bs.length ≤ 100000000) (kk : Nat) (hkk : (kk : Int) = min (bs.length : Int) x.win) :
    Calls Try.prog 13 #[.pointer (some ⟨n, 0, none⟩), .int .i64 ((k : Int) + 1), .slice bA bs.length bc] w fun e w' => e = .returned (.tuple #[.int .i64 (kk : Int), .nilIface]) ∧
      NetS w' B n now (ws.set k { x with got := x.got ++ bs.take kk, win := x.win - kk }) ∧ NFr B w w' := by
  obtain ⟨v, G, IV, GV, h⟩ := h
  exact (write_yesR v G IV GV h hB hlen hk x hx hst hsh hw0 hw1 hgl bA bs bc hby hbc hb1 kk hkk).mono fun e w' h => ⟨h.1, h.2.1, h.2.2.1⟩
end Go.Proofs.Ytedcheicnaphmaa
