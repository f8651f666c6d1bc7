/-
  The walk over a finder's Look. No conditions but sizes. (Printed by a program of the prover's.)
-/
import Derived.Test.YtekfpipgcpkejaaMb5
import Derived.Test.YtekfpipgcpkejaaMkP
namespace Go.Proofs.Ytekfpipgcpkejaa
open Go.RowKit Go.ChangeMaps
set_option linter.unusedVariables false
set_option linter.unusedSimpArgs false

theorem SrM.opens {lo : Nat} {w : World} {sb : Nat} {L : List Sp} {tx : List UInt8} {opn : Bool} {now : List (Nat × Nat)} {todo : List Nat} {stamp : Nat} {s : Sr} {A : Option Addr} {c : Nat} {A2 : Option Addr} {c2 : Nat} {nowv nextv seenv todov : Value} {xs : List Nat} {st en : Int}
    (h : SrM lo w sb L tx opn now todo stamp s A c A2 c2 nowv nextv seenv todov xs st en) : SrM lo (w.setCell ⟨sb, 2, none⟩ (.bool true)) sb L tx true now todo stamp s A c A2 c2 nowv nextv seenv todov xs st en := by
  obtain ⟨r1, r2, r3, r4, r5, r6⟩ := h.rows 2 (.bool true)
  exact { h with blk := h.blk.put 2 _, prog := r1, text := r2, now_ := r3, next_ := r4, seen_ := r5, todo_ := r6 }
theorem lookS_of {L : List Sp} {tx : List UInt8} {T : List (Nat × Nat)} {q : Nat × Nat} (h : runS L tx true false 0 = (T, some q)) : ((∀ t ∈ T, q.1 < t.2) → lookS L tx = some q) ∧ (∀ t ∈ T, t.2 ≤ q.1 → lookS L tx = none) := by
  unfold lookS
  rw [h]
  dsimp only
  refine ⟨fun ha => ?_, fun t ht hq => ?_⟩
  · rw [if_neg]
    intro hc
    obtain ⟨t, ht, h2⟩ := List.any_eq_true.1 hc
    have := ha t ht
    have h3 : t.2 ≤ q.1 := by simpa using h2
    omega
  · rw [if_pos]
    exact List.any_eq_true.2 ⟨t, ht, by simpa using hq⟩
theorem own_max {w : World} {base n cap sz : Nat} {A : Option Addr} {e : TypeId} {l : List Value} (h : w.ownsRow base e sz (.slice A n cap) n l) : n ≤ maxLen := by
  obtain ⟨h1, ⟨h2, h3⟩ | ⟨g, cap', cur, h2, h0, hb, h3, h4, h5, h6⟩⟩ := h
  · injection h2 with h2 h2a h2b
    omega
  · injection h2 with h2 _ h2'
    subst h2'
    omega
def LkRel (w : World) (T : List (Nat × Nat)) (q : Nat × Nat) (v : Value) (wr : World) : Prop := ∃ i : Nat, v = .int .i64 (i : Int) ∧ i ≤ T.length ∧ (∀ k t, k < i → T[k]? = some t → q.1 < t.2) ∧ Fr [] w wr
set_option maxRecDepth 100000 in
set_option maxHeartbeats 8000000 in
theorem Look_any {w : World} {lo fb : Nat} {L : List Sp} {A2 : Option Addr} {tx : List UInt8} {c2 : Nat} (h : FinderAt w lo fb L) (ht : Bytes w A2 tx) (htc : tx.length ≤ c2) (htl : ∀ a, A2 = some a → a.block < w.heap.size) (h0 : 0 < L.length) (hL : L.length ≤ 5000)
    (hok : ProgOk L) (htx : tx.length ≤ 10000) :
    Calls Try.prog 24 #[.pointer (some ⟨fb, 0, none⟩), .slice A2 tx.length c2] w fun e w' => e = .returned (found3 (lookS L tx)) ∧ Fr [] w w' := by
  have HN := Lib.hid (newSearch_any h ht htc htl h0 hL)
  obtain ⟨F, hF⟩ : ∃ F, F = lookS L tx := ⟨_, rfl⟩
  rw [← hF]
  obtain ⟨m, hm⟩ : ∃ m, m = tx.length := ⟨_, rfl⟩
  rw [← hm] at HN ⊢
  have HM := Lib.hid hm; have HF := Lib.hid hF
  clear h ht htl hm htc hF
  go_enter Try.func24, Try.ntmps24
  go_upto_region 2 with (go_at_call 31; refine HN.out.mono ?_; rintro e w1 ⟨sb, l, P, s, rfl, hsr, hsn, hf1, hl⟩; have HF1 := Lib.hid hf1; have HL := Lib.hid hl; have HSR := Lib.hid hsr; have HSN := Lib.hid hsn; clear hsr hsn hf1 hl)
  obtain ⟨PA, pc, PB, pc2, pnx, psn, ptd, pxs, pst, pen, hle, hsm⟩ := HSR.out
  have hlt := hsm.blk.lt
  have f2 := hsm.blk.frozen 2
  have c2' := hsm.blk.cell_ (i := 2) rfl
  have hop := hsm.opens
  have hfo : Fr l w1 (w1.setCell ⟨sb, 2, none⟩ (.bool true)) := (Fr.refl l w1).setCell (.inl (by rw [hle]; simp [srBlocks])) _
  have HOP := Lib.hid hop; have HFO := Lib.hid hfo; have HLE := Lib.hid hle
  clear hle hsm hop hfo HN
  go_upto_region 3 with fail
  clear hlt f2 c2'
  obtain ⟨wo, hwo⟩ : ∃ wo, wo = w1.setCell ⟨sb, 2, none⟩ (.bool true) := ⟨_, rfl⟩
  have hsr : SrAt w.heap.size wo sb l L tx true P [] 0 s := by rw [hwo]; exact ⟨_, _, _, _, _, _, _, _, _, _, HLE.out, HOP.out⟩
  have hfw : Fr [] w wo := by rw [hwo]; exact HF1.out.trans' HFO.out (fun b hb => .inr (HL.out b hb))
  rw [← hwo]
  have hfi := find_any (from_ := 0) hsr hok h0 hL (Nat.zero_le _) htx (by omega) (by rw [HSN.out]; simp)
  rw [show ((0 : Nat) : Int) = 0 from rfl] at hfi
  have HFI := Lib.hid hfi; have HFW := Lib.hid hfw
  clear hwo hsr hfw hfi HOP HFO HLE HSR
  obtain ⟨R, hR⟩ : ∃ R, R = runS L tx true false 0 := ⟨_, rfl⟩
  unfold FindPost at HFI
  rw [← hR] at HFI
  have HR := Lib.hid hR
  clear hR
  go_wp2_with fail
  go_at_call 32
  refine HFI.out.mono ?_
  rintro e w2 ⟨rfl, hp⟩
  have hff := hp.found
  obtain ⟨k10, kq, hf2, hlt2⟩ := hff
  have hf02 : Fr [] w w2 := HFW.out.trans' hf2 (fun b hb => .inr (HL.out b hb))
  obtain ⟨-, Q, s2, st2, ⟨l2, ⟨A3, c3, A4, c4, nx, sn, td, xs, st, en, -, hm2⟩, -, -⟩, hQ, -, -, -⟩ := hp
  have HF2 := Lib.hid hf02; have HM2 := Lib.hid hm2; have HQ := Lib.hid hQ; have HKQ := Lib.hid kq
  clear hf2 hf02 hm2 hQ kq HFI HFW k10
  obtain ⟨T, fd⟩ := R
  cases fd with
  | none =>
    have hlk : F = none := by rw [HF.out]; unfold lookS; rw [← HR.out]
    subst hlk
    go_wp2_with fail
    go_ret3
    exact ⟨rfl, HF2.out⟩
  | some q =>
    obtain ⟨k8, k9⟩ := HKQ.out q rfl
    obtain ⟨QV, Q2⟩ := Q
    have hQ2 : Q2 = T := HQ.out
    subst hQ2
    obtain ⟨NB, nd, hNB⟩ := own_any HM2.out.now_
    dsimp only at hNB
    subst hNB
    obtain ⟨n, hn⟩ : ∃ n, n = Q2.length := ⟨_, rfl⟩
    have k3 : w2.cell? ⟨sb, 3, none⟩ = some (.slice NB n nd) := by rw [hn]; exact HM2.out.blk.cell_ (i := 3) rfl
    obtain ⟨hr1, hr2⟩ := own_room HM2.out.now_
    have hown : w2.ownsRow w.heap.size 95 2 (.slice NB n nd) n (thV Q2) := by rw [hn]; exact HM2.out.now_
    have hn5 : n ≤ 9223372036854775807 := by
      have h9 := own_max hown
      unfold maxLen at h9
      omega
    obtain ⟨hl1, hl2⟩ := lookS_of HR.out.symm
    have HL1 := Lib.hid hl1; have HL2 := Lib.hid hl2; have HOWN := Lib.hid hown; have HNN := Lib.hid hn; have HK8 := Lib.hid k8; have HK9 := Lib.hid k9
    clear hl1 hl2 hown hn HM2 HKQ HQ hr1 hr2 k8 k9
    go_wp2_with fail
    go_loopw [24] (fun v24 wr => LkRel w2 Q2 q v24 wr) (fun v24 _ => n + 1 - (intOf v24).toNat)
    case atStart => exact ⟨0, rfl, Nat.zero_le _, fun k t hk _ => by omega, Fr.refl _ _⟩
    case round =>
      obtain ⟨i, rfl, hi, hall, hfr⟩ := hrel
      have HI := Lib.hid hi; have HALL := Lib.hid hall; have HFR := Lib.hid hfr
      clear hi hall hfr
      have hin' : i ≤ n := by rw [HNN.out]; exact HI.out
      rcases Nat.lt_or_ge i n with hin | hin
      · have hinI : (i : Int) < (n : Int) := by omega
        obtain ⟨t, ht⟩ : ∃ t, Q2[i]? = some t := ⟨Q2[i]'(by rw [← HNN.out]; exact hin), List.getElem?_eq_getElem _⟩
        obtain ⟨BN, rfl, e0, e1⟩ := own_th (own_keep HOWN.out (KeepB.of_nil HFR.out)) ht
        obtain ⟨t1, t2⟩ := t
        dsimp only at e0 e1
        have HT := Lib.hid ht
        clear ht
        go_upto_region 8 with fail
        obtain ⟨wt, hwt⟩ : ∃ wt, wt = wr.alloc (.cells #[.int .i64 (t1 : Int), .int .i64 (t2 : Int)] 95) := ⟨_, rfl⟩
        have hbt : Bk wt wr.heap.size 95 #[.int .i64 (t1 : Int), .int .i64 (t2 : Int)] := by rw [hwt]; exact Bk.new wr _ _
        have hft : Fr [] w2 wt := by rw [hwt]; exact HFR.out.alloc _
        rw [← hwt]
        obtain ⟨b9, hb9⟩ : ∃ b9, b9 = wr.heap.size := ⟨_, rfl⟩
        rw [← hb9] at hbt ⊢
        have tc1 : wt.cell? ⟨b9, 1, none⟩ = some (.int .i64 (t2 : Int)) := hbt.cell_ (i := 1) rfl
        have tc8 : wt.cell? ⟨sb, 8, none⟩ = some (.int .i64 (q.1 : Int)) := (hft.cell (World.block_lt_of_cell? _ _ HK8.out) (by simp)).trans HK8.out
        have hltb := hbt.lt
        have hlts := World.block_lt_of_cell? _ _ tc8
        have HFT := Lib.hid hft
        clear hwt hbt hft hb9 e0 e1
        rcases Nat.lt_or_ge q.1 t2 with hqt | hqt
        · have hqtI : ¬ ((t2 : Int) ≤ (q.1 : Int)) := by omega
          refine wp_region_M_ (G := fun a b => a = b) (S := fun W => W = wt.drew) ⟨fun _ => rfl, fun a b c h k => h.trans k, fun a b h k => k ▸ h, by kernel_rfl, fun _ _ d _ _ h => by cases d <;> exact h⟩ (by kernel_rfl) fun su => ?_
          have SU := Lib.hid su
          have HS : Hid (wt.drew = wt.drew) := Lib.hid rfl
          clear su
          refine M_val (i := 0) (v := ?_) SU.out rfl (by kernel_rfl) HS.out rfl (fun W hS => ?_) ?_
          rotate_left
          · obtain rfl := hS
            go_simp
            first | done | rfl | omega | (exact IntWalk.i64_in _ (by omega)) | (simp; done) | (simp; omega)
          simp only [Act.put, PU]
          refine M_val (i := 1) (v := .int .i64 (t2 : Int)) SU.out rfl (by kernel_rfl) HS.out rfl (fun W hS => ?_) ?_
          · obtain rfl := hS
            go_simp
            first | done | rfl | omega | (exact IntWalk.i64_in _ (by omega)) | (simp; done) | (simp; omega)
          simp only [Act.put, PU]
          refine M_move (i := 2) _ SU.out rfl rfl (by kernel_rfl) HS.out rfl ?_
          simp only [Act.put, Act.eval, PE]
          refine M_val (i := 3) (v := ?_) SU.out rfl (by kernel_rfl) HS.out rfl (fun W hS => ?_) ?_
          rotate_left
          · obtain rfl := hS
            go_simp
            first | done | rfl | omega | (exact IntWalk.i64_in _ (by omega)) | (simp; done) | (simp; omega)
          simp only [Act.put, PU]
          refine M_val (i := 4) (v := ?_) SU.out rfl (by kernel_rfl) HS.out rfl (fun W hS => ?_) ?_
          rotate_left
          · obtain rfl := hS
            go_simp
            first | done | rfl | omega | (exact IntWalk.i64_in _ (by omega)) | (simp; done) | (simp; omega)
          simp only [Act.put, PU]
          refine M_val (i := 5) (v := .int .i64 (q.1 : Int)) SU.out rfl (by kernel_rfl) HS.out rfl (fun W hS => ?_) ?_
          · obtain rfl := hS
            go_simp
            first | done | rfl | omega | (exact IntWalk.i64_in _ (by omega)) | (simp; done) | (simp; omega)
          simp only [Act.put, PU]
          refine M_val (i := 6) (v := .bool false) SU.out rfl (by kernel_rfl) HS.out rfl (fun W hS => ?_) ?_
          · obtain rfl := hS
            go_simp
            first | done | rfl | omega | (exact IntWalk.i64_in _ (by omega)) | (simp; done) | (simp; omega)
          simp only [Act.put, PU]
          refine wpAnyM_done (by kernel_rfl) (fun w' hG => ?_)
          obtain rfl := hG
          go_wp2_with fail
          go_roundw
          case rel =>
            refine ⟨i + 1, by go_num, by rw [← HNN.out]; exact hin, fun k u hk hu => ?_, HFT.out.drew⟩
            rcases Nat.lt_or_ge k i with h | h
            · exact HALL.out k u h hu
            · have : k = i := by omega
              subst this
              rw [HT.out] at hu; injection hu with hu; subst hu
              exact hqt
          case measure => first | (simp [intOf]; done) | (simp [intOf]; omega)
        · have hqtI : (t2 : Int) ≤ (q.1 : Int) := by omega
          have hlk : F = none := by rw [HF.out]; exact HL2.out (t1, t2) (List.mem_of_getElem? HT.out) hqt
          subst hlk
          refine wp_region_M_ (G := fun a b => a = b) (S := fun W => W = wt.drew) ⟨fun _ => rfl, fun a b c h k => h.trans k, fun a b h k => k ▸ h, by kernel_rfl, fun _ _ d _ _ h => by cases d <;> exact h⟩ (by kernel_rfl) fun su => ?_
          have SU := Lib.hid su
          have HS : Hid (wt.drew = wt.drew) := Lib.hid rfl
          clear su
          refine M_val (i := 0) (v := ?_) SU.out rfl (by kernel_rfl) HS.out rfl (fun W hS => ?_) ?_
          rotate_left
          · obtain rfl := hS
            go_simp
            first | done | rfl | omega | (exact IntWalk.i64_in _ (by omega)) | (simp; done) | (simp; omega)
          simp only [Act.put, PU]
          refine M_val (i := 1) (v := .int .i64 (t2 : Int)) SU.out rfl (by kernel_rfl) HS.out rfl (fun W hS => ?_) ?_
          · obtain rfl := hS
            go_simp
            first | done | rfl | omega | (exact IntWalk.i64_in _ (by omega)) | (simp; done) | (simp; omega)
          simp only [Act.put, PU]
          refine M_move (i := 2) _ SU.out rfl rfl (by kernel_rfl) HS.out rfl ?_
          simp only [Act.put, Act.eval, PE]
          refine M_val (i := 3) (v := ?_) SU.out rfl (by kernel_rfl) HS.out rfl (fun W hS => ?_) ?_
          rotate_left
          · obtain rfl := hS
            go_simp
            first | done | rfl | omega | (exact IntWalk.i64_in _ (by omega)) | (simp; done) | (simp; omega)
          simp only [Act.put, PU]
          refine M_val (i := 4) (v := ?_) SU.out rfl (by kernel_rfl) HS.out rfl (fun W hS => ?_) ?_
          rotate_left
          · obtain rfl := hS
            go_simp
            first | done | rfl | omega | (exact IntWalk.i64_in _ (by omega)) | (simp; done) | (simp; omega)
          simp only [Act.put, PU]
          refine M_val (i := 5) (v := .int .i64 (q.1 : Int)) SU.out rfl (by kernel_rfl) HS.out rfl (fun W hS => ?_) ?_
          · obtain rfl := hS
            go_simp
            first | done | rfl | omega | (exact IntWalk.i64_in _ (by omega)) | (simp; done) | (simp; omega)
          simp only [Act.put, PU]
          refine M_val (i := 6) (v := .bool true) SU.out rfl (by kernel_rfl) HS.out rfl (fun W hS => ?_) ?_
          · obtain rfl := hS
            go_simp
            first | done | rfl | omega | (exact IntWalk.i64_in _ (by omega)) | (simp; done) | (simp; omega)
          simp only [Act.put, PU]
          refine wpAnyM_done (by kernel_rfl) (fun w' hG => ?_)
          obtain rfl := hG
          go_wp2_with fail
          go_ret3
          exact ⟨rfl, HF2.out.trans HFT.out.drew⟩
      · have hinI : ¬ ((i : Int) < (n : Int)) := by omega
        have hlk : F = some q := by
          rw [HF.out]
          refine HL1.out fun t ht => ?_
          obtain ⟨k, hk, hkt⟩ := List.getElem_of_mem ht
          exact HALL.out k t (by have := HNN.out; omega) (by rw [List.getElem?_eq_getElem hk, hkt])
        subst hlk
        have k8 : wr.cell? ⟨sb, 8, none⟩ = some (.int .i64 (q.1 : Int)) := (HFR.out.cell (World.block_lt_of_cell? _ _ HK8.out) (by simp)).trans HK8.out
        have k9 : wr.cell? ⟨sb, 9, none⟩ = some (.int .i64 (q.2 : Int)) := (HFR.out.cell (World.block_lt_of_cell? _ _ HK9.out) (by simp)).trans HK9.out
        have hlts := World.block_lt_of_cell? _ _ k8
        go_upto_region 11 with fail
        refine wp_region_M_ (G := fun a b => a = b) (S := fun W => W = wr.drew) ⟨fun _ => rfl, fun a b c h k => h.trans k, fun a b h k => k ▸ h, by kernel_rfl, fun _ _ d _ _ h => by cases d <;> exact h⟩ (by kernel_rfl) fun su => ?_
        have SU := Lib.hid su
        have HS : Hid (wr.drew = wr.drew) := Lib.hid rfl
        clear su
        refine M_move (i := 0) _ SU.out rfl rfl (by kernel_rfl) HS.out rfl ?_
        simp only [Act.put, Act.eval, PE]
        refine M_val (i := 1) (v := ?_) SU.out rfl (by kernel_rfl) HS.out rfl (fun W hS => ?_) ?_
        rotate_left
        · obtain rfl := hS
          go_simp
          first | done | rfl | omega | (exact IntWalk.i64_in _ (by omega)) | (simp; done) | (simp; omega)
        simp only [Act.put, PU]
        refine M_val (i := 2) (v := ?_) SU.out rfl (by kernel_rfl) HS.out rfl (fun W hS => ?_) ?_
        rotate_left
        · obtain rfl := hS
          go_simp
          first | done | rfl | omega | (exact IntWalk.i64_in _ (by omega)) | (simp; done) | (simp; omega)
        simp only [Act.put, PU]
        refine M_val (i := 3) (v := .int .i64 (q.1 : Int)) SU.out rfl (by kernel_rfl) HS.out rfl (fun W hS => ?_) ?_
        · obtain rfl := hS
          go_simp
          first | done | rfl | omega | (exact IntWalk.i64_in _ (by omega)) | (simp; done) | (simp; omega)
        simp only [Act.put, PU]
        refine M_move (i := 4) _ SU.out rfl rfl (by kernel_rfl) HS.out rfl ?_
        simp only [Act.put, Act.eval, PE]
        refine M_val (i := 5) (v := ?_) SU.out rfl (by kernel_rfl) HS.out rfl (fun W hS => ?_) ?_
        rotate_left
        · obtain rfl := hS
          go_simp
          first | done | rfl | omega | (exact IntWalk.i64_in _ (by omega)) | (simp; done) | (simp; omega)
        simp only [Act.put, PU]
        refine M_val (i := 6) (v := ?_) SU.out rfl (by kernel_rfl) HS.out rfl (fun W hS => ?_) ?_
        rotate_left
        · obtain rfl := hS
          go_simp
          first | done | rfl | omega | (exact IntWalk.i64_in _ (by omega)) | (simp; done) | (simp; omega)
        simp only [Act.put, PU]
        refine M_val (i := 7) (v := .int .i64 (q.2 : Int)) SU.out rfl (by kernel_rfl) HS.out rfl (fun W hS => ?_) ?_
        · obtain rfl := hS
          go_simp
          first | done | rfl | omega | (exact IntWalk.i64_in _ (by omega)) | (simp; done) | (simp; omega)
        simp only [Act.put, PU]
        refine M_val (i := 8) (v := ?_) SU.out rfl (by kernel_rfl) HS.out rfl (fun W hS => ?_) ?_
        rotate_left
        · obtain rfl := hS
          go_simp
          first | done | rfl | omega | (exact IntWalk.i64_in _ (by omega)) | (simp; done) | (simp; omega)
        simp only [Act.put, PU]
        refine M_val (i := 9) (v := ?_) SU.out rfl (by kernel_rfl) HS.out rfl (fun W hS => ?_) ?_
        rotate_left
        · obtain rfl := hS
          go_simp
          first | done | rfl | omega | (exact IntWalk.i64_in _ (by omega)) | (simp; done) | (simp; omega)
        simp only [Act.put, PU]
        refine M_val (i := 10) (v := ?_) SU.out rfl (by kernel_rfl) HS.out rfl (fun W hS => ?_) ?_
        rotate_left
        · obtain rfl := hS
          go_simp
          first | done | rfl | omega | (exact IntWalk.i64_in _ (by omega)) | (simp; done) | (simp; omega)
        simp only [Act.put, PU]
        refine wpAnyM_done (by kernel_rfl) (fun w' hG => ?_)
        obtain rfl := hG
        go_wp2_with fail
        go_ret3
        exact ⟨rfl, HF2.out.trans HFR.out.drew⟩
end Go.Proofs.Ytekfpipgcpkejaa
