/-
  The walk of LexQuotes. No conditions.
-/
import Derived.Test.YtgbiligcppphhaaLexTk
import Derived.Test.YtgbiligcppphhaaLexQ
namespace Go.Proofs.Ytgbiligcppphhaa
open Go.RowKit Go.ChangeShapes Go.WideShapes Go.ChangeAt Go.Deep
set_option linter.unusedVariables false
set_option linter.unusedSimpArgs false

theorem Own.new (w : World) (e : TypeId) (v : Value) : Own (w.alloc (.cells #[v] e)) e (.slice (some ⟨w.heap.size, 0, none⟩) 1 1) [v] :=
  ⟨_, 1, rfl, by simp, by decide, .inr ⟨w.heap.size, 0, #[v], rfl, Bk.new w e #[v], by simp, by simp⟩⟩
theorem four_new (w : World) (a b c d : Value) : At (w.alloc (.cells #[a, b, c, d] 5)) (some ⟨w.heap.size, 0, none⟩) [a, b, c, d] :=
  At.of_bk (n := 4) (Bk.new w _ _) (by simp)
theorem one_new (w : World) (a : Value) : At (w.alloc (.cells #[a] 5)) (some ⟨w.heap.size, 0, none⟩) [a] :=
  At.of_bk (n := 1) (Bk.new w _ _) (by simp)
theorem oct3_vals (x : UInt8) : byteVals (oct3 x) = [.int .u8 92, .int .u8 (48 + ((x.toNat / 64 : Nat) : Int)), .int .u8 (48 + ((x.toNat / 8 % 8 : Nat) : Int)), .int .u8 (48 + ((x.toNat % 8 : Nat) : Int))] := by
  have hx := x.toNat_lt
  have h2 := nat8 (n := 48 + x.toNat / 64) (by omega)
  have h3 := nat8 (n := 48 + x.toNat / 8 % 8) (by omega)
  have h4 := nat8 (n := 48 + x.toNat % 8) (by omega)
  have e (n : Nat) : ((48 + n : Nat) : Int) = 48 + (n : Int) := by omega
  unfold oct3 byteVals
  simp only [List.map_cons, List.map_nil, h2, h3, h4, e]
  rfl
theorem take_flat (b : List UInt8) (k : Nat) (hk : k < b.length) : (b.take (k + 1)).flatMap oct3 = (b.take k).flatMap oct3 ++ oct3 (b.getD k 0) := by
  rw [List.take_add_one, List.flatMap_append]
  congr 1
  rw [List.getD_eq_getElem?_getD, List.getElem?_eq_getElem hk]
  simp
set_option maxRecDepth 100000 in
set_option maxHeartbeats 40000000 in
theorem quotes_walk {w : World} {A : Option Addr} {c : Nat} {b : List UInt8} (h : Bytes w A b) (hc : b.length ≤ c) (hcm : c ≤ maxLen) :
    Calls Try.prog 5 #[.slice A b.length c] w fun e w' => e = .returned (.bool true) ∧ Below w.heap.size w w' := by
  unfold maxLen at hcm
  have HB := Lib.hid h; clear h
  obtain ⟨i0, hi0, hz0, hz1, hz2⟩ := u8parts
  go_enter Try.func5, Try.ntmps5
  go_wp2_with fail
  go_at_call 7
  refine (awake_any w).mono ?_
  rintro e w1 ⟨rfl, hf1⟩
  have HF1 := Lib.hid hf1; clear hf1
  by_cases h40 : 100 < b.length
  · go_wp2_with fail
    go_ret
    exact ⟨rfl, HF1.out.below_nil⟩
  go_wp2_with fail
  go_loopw [3, 4] (fun v3 v4 wr => ∃ k ln : Nat, ∃ X cx, v4 = .int .i64 (k : Int) ∧ ln = 4 * k + 1 ∧ v3 = .slice X ln cx ∧ k ≤ b.length ∧ Own wr 5 (.slice X ln cx) (byteVals (34 :: (b.take k).flatMap oct3)) ∧ (∀ q, (Value.slice X ln cx).ownBlock = some q → w1.heap.size ≤ q) ∧ Fr [] w1 wr) (fun _ v4 _ => b.length - (intOf v4).toNat)
  case atStart => exact ⟨0, 1, _, _, rfl, rfl, rfl, by omega, Own.new w1 _ _, by simp [Value.ownBlock], (Fr.refl [] w1).alloc _⟩
  case round =>
    obtain ⟨k, ln, X, cx, rfl, hln, rfl, hk, hown, hblk, hf⟩ := hrel
    have HLN : Hid ((byteVals (34 :: (b.take k).flatMap oct3)).length = ln) := Lib.hid (by rw [byteVals_length, List.length_cons, oct_len, List.length_take]; omega)
    have hbytes := HB.out.fr_nil (HF1.out.trans hf)
    by_cases hlt : k < b.length
    · obtain ⟨a, rfl, hba, e0⟩ := byte_at hbytes hlt
      obtain ⟨q, hq⟩ : ∃ q, q = (b.getD k 0).toNat := ⟨_, rfl⟩
      have hq8 : q < 256 := by rw [hq]; exact UInt8.toNat_lt _
      rw [← hq] at e0
      obtain ⟨x1, hx1⟩ : ∃ x, x = q / 64 := ⟨_, rfl⟩
      obtain ⟨x0, hx0⟩ : ∃ x, x = q / 8 := ⟨_, rfl⟩
      obtain ⟨x2, hx2⟩ : ∃ x, x = q / 8 % 8 := ⟨_, rfl⟩
      obtain ⟨x3, hx3⟩ : ∃ x, x = q % 8 := ⟨_, rfl⟩
      have HX : Hid ([.int .u8 92, .int .u8 (48 + (x1 : Int)), .int .u8 (48 + (x2 : Int)), .int .u8 (48 + (x3 : Int))] = byteVals (oct3 (b.getD k 0))) := Lib.hid (by rw [oct3_vals, hx1, hx2, hx3, hq])
      have HQ := Lib.hid hq
      clear hq hbytes
      have t1 : (q : Int).tdiv 64 = (x1 : Int) := by rw [Int.tdiv_eq_ediv_of_nonneg (by omega)]; omega
      have t0 : (q : Int).tdiv 8 = (x0 : Int) := by rw [Int.tdiv_eq_ediv_of_nonneg (by omega)]; omega
      have t2 : (x0 : Int).tmod 8 = (x2 : Int) := by rw [Int.tmod_eq_emod_of_nonneg (by omega)]; omega
      have t3 : (q : Int).tmod 8 = (x3 : Int) := by rw [Int.tmod_eq_emod_of_nonneg (by omega)]; omega
      have v1 : IntKind.u8.wrap (x1 : Int) = (x1 : Int) := by rw [IntKind.wrap_u8]; omega
      have v0 : IntKind.u8.wrap (x0 : Int) = (x0 : Int) := by rw [IntKind.wrap_u8]; omega
      have v2 : IntKind.u8.wrap (x2 : Int) = (x2 : Int) := by rw [IntKind.wrap_u8]; omega
      have v3 : IntKind.u8.wrap (x3 : Int) = (x3 : Int) := by rw [IntKind.wrap_u8]; omega
      have y1 : IntKind.u8.wrap (48 + (x1 : Int)) = 48 + (x1 : Int) := by rw [IntKind.wrap_u8]; omega
      have y2 : IntKind.u8.wrap (48 + (x2 : Int)) = 48 + (x2 : Int) := by rw [IntKind.wrap_u8]; omega
      have y3 : IntKind.u8.wrap (48 + (x3 : Int)) = 48 + (x3 : Int) := by rw [IntKind.wrap_u8]; omega
      clear hx1 hx0 hx2 hx3
      have E0 := Lib.hid e0; have OWN := Lib.hid hown; have HBLK := Lib.hid hblk; have HF := Lib.hid hf; have HBA := Lib.hid hba; have HLE := Lib.hid hln
      have hll : ln ≤ 500 := by omega
      have HAL : Hid (a.block < w1.heap.size) := Lib.hid (by
        rcases HB.out with h | ⟨a', ha', hb', -⟩
        · exfalso; have h1 := byteVals_length b; rw [h, List.length_nil] at h1; omega
        · injection ha' with ha'; subst ha'; exact Nat.lt_of_lt_of_le hb' HF1.out.size)
      clear e0 hown hblk hf hba hln
      go_wp2_with fail
      refine wp_region_M_ (G := fun a b => a = b) (S := fun W => W.cell? (a.add k) = some (.int .u8 (q : Int))) ⟨fun _ => rfl, fun a b c h k => h.trans k, fun a b h k => k ▸ h, by kernel_rfl, fun _ _ d _ _ h => by cases d <;> exact h⟩ (by kernel_rfl) fun su => ?_
      have SU := Lib.hid su
      have HS : Hid (wr.drew.cell? (a.add k) = some (.int .u8 (q : Int))) := Lib.hid E0.out
      clear su
      refine M_move (i := 0) _ SU.out rfl rfl (by kernel_rfl) HS.out rfl ?_
      simp only [Act.put, Act.eval, List.setIfInBounds_toArray, List.set_cons_zero, List.set_cons_succ, List.getElem?_toArray, List.getElem?_cons_zero, List.getElem?_cons_succ, Option.getD_some]
      refine M_move (i := 1) _ SU.out rfl rfl (by kernel_rfl) HS.out rfl ?_
      simp only [Act.put, Act.eval, List.setIfInBounds_toArray, List.set_cons_zero, List.set_cons_succ, List.getElem?_toArray, List.getElem?_cons_zero, List.getElem?_cons_succ, Option.getD_some]
      refine M_move (i := 2) _ SU.out rfl rfl (by kernel_rfl) HS.out rfl ?_
      simp only [Act.put, Act.eval, List.setIfInBounds_toArray, List.set_cons_zero, List.set_cons_succ, List.getElem?_toArray, List.getElem?_cons_zero, List.getElem?_cons_succ, Option.getD_some]
      refine M_val (i := 3) (v := ?_) SU.out rfl (by kernel_rfl) HS.out rfl (fun W hS => ?_) ?_
      rotate_left
      · obtain s0 := hS
        go_simp
        first | done | rfl | omega | (simp; done) | (simp; omega)
      simp only [Act.put, List.setIfInBounds_toArray, List.set_cons_zero, List.set_cons_succ]
      refine M_val (i := 4) (v := .int .u8 (q : Int)) SU.out rfl (by kernel_rfl) HS.out rfl (fun W hS => ?_) ?_
      · obtain s0 := hS
        go_simp
        first | done | rfl | omega | (simp; done) | (simp; omega)
      simp only [Act.put, List.setIfInBounds_toArray, List.set_cons_zero, List.set_cons_succ]
      refine M_val (i := 5) (v := .int .u8 (x1 : Int)) SU.out rfl (by kernel_rfl) HS.out rfl (fun W hS => ?_) ?_
      · obtain s0 := hS
        go_simp
        first | done | rfl | omega | (simp; done) | (simp; omega)
      simp only [Act.put, List.setIfInBounds_toArray, List.set_cons_zero, List.set_cons_succ]
      refine M_val (i := 6) (v := .int .u8 (48 + (x1 : Int))) SU.out rfl (by kernel_rfl) HS.out rfl (fun W hS => ?_) ?_
      · obtain s0 := hS
        go_simp
        first | done | rfl | omega | (simp; done) | (simp; omega)
      simp only [Act.put, List.setIfInBounds_toArray, List.set_cons_zero, List.set_cons_succ]
      refine M_move (i := 7) _ SU.out rfl rfl (by kernel_rfl) HS.out rfl ?_
      simp only [Act.put, Act.eval, List.setIfInBounds_toArray, List.set_cons_zero, List.set_cons_succ, List.getElem?_toArray, List.getElem?_cons_zero, List.getElem?_cons_succ, Option.getD_some]
      refine M_move (i := 8) _ SU.out rfl rfl (by kernel_rfl) HS.out rfl ?_
      simp only [Act.put, Act.eval, List.setIfInBounds_toArray, List.set_cons_zero, List.set_cons_succ, List.getElem?_toArray, List.getElem?_cons_zero, List.getElem?_cons_succ, Option.getD_some]
      refine M_val (i := 9) (v := ?_) SU.out rfl (by kernel_rfl) HS.out rfl (fun W hS => ?_) ?_
      rotate_left
      · obtain s0 := hS
        go_simp
        first | done | rfl | omega | (simp; done) | (simp; omega)
      simp only [Act.put, List.setIfInBounds_toArray, List.set_cons_zero, List.set_cons_succ]
      refine M_val (i := 10) (v := .int .u8 (q : Int)) SU.out rfl (by kernel_rfl) HS.out rfl (fun W hS => ?_) ?_
      · obtain s0 := hS
        go_simp
        first | done | rfl | omega | (simp; done) | (simp; omega)
      simp only [Act.put, List.setIfInBounds_toArray, List.set_cons_zero, List.set_cons_succ]
      refine M_val (i := 11) (v := .int .u8 (x0 : Int)) SU.out rfl (by kernel_rfl) HS.out rfl (fun W hS => ?_) ?_
      · obtain s0 := hS
        go_simp
        first | done | rfl | omega | (simp; done) | (simp; omega)
      simp only [Act.put, List.setIfInBounds_toArray, List.set_cons_zero, List.set_cons_succ]
      refine M_val (i := 12) (v := .int .u8 (x2 : Int)) SU.out rfl (by kernel_rfl) HS.out rfl (fun W hS => ?_) ?_
      · obtain s0 := hS
        go_simp
        first | done | rfl | omega | (simp; done) | (simp; omega)
      simp only [Act.put, List.setIfInBounds_toArray, List.set_cons_zero, List.set_cons_succ]
      refine M_val (i := 13) (v := .int .u8 (48 + (x2 : Int))) SU.out rfl (by kernel_rfl) HS.out rfl (fun W hS => ?_) ?_
      · obtain s0 := hS
        go_simp
        first | done | rfl | omega | (simp; done) | (simp; omega)
      simp only [Act.put, List.setIfInBounds_toArray, List.set_cons_zero, List.set_cons_succ]
      refine M_move (i := 14) _ SU.out rfl rfl (by kernel_rfl) HS.out rfl ?_
      simp only [Act.put, Act.eval, List.setIfInBounds_toArray, List.set_cons_zero, List.set_cons_succ, List.getElem?_toArray, List.getElem?_cons_zero, List.getElem?_cons_succ, Option.getD_some]
      refine M_move (i := 15) _ SU.out rfl rfl (by kernel_rfl) HS.out rfl ?_
      simp only [Act.put, Act.eval, List.setIfInBounds_toArray, List.set_cons_zero, List.set_cons_succ, List.getElem?_toArray, List.getElem?_cons_zero, List.getElem?_cons_succ, Option.getD_some]
      refine M_val (i := 16) (v := ?_) SU.out rfl (by kernel_rfl) HS.out rfl (fun W hS => ?_) ?_
      rotate_left
      · obtain s0 := hS
        go_simp
        first | done | rfl | omega | (simp; done) | (simp; omega)
      simp only [Act.put, List.setIfInBounds_toArray, List.set_cons_zero, List.set_cons_succ]
      refine M_val (i := 17) (v := .int .u8 (q : Int)) SU.out rfl (by kernel_rfl) HS.out rfl (fun W hS => ?_) ?_
      · obtain s0 := hS
        go_simp
        first | done | rfl | omega | (simp; done) | (simp; omega)
      simp only [Act.put, List.setIfInBounds_toArray, List.set_cons_zero, List.set_cons_succ]
      refine M_val (i := 18) (v := .int .u8 (x3 : Int)) SU.out rfl (by kernel_rfl) HS.out rfl (fun W hS => ?_) ?_
      · obtain s0 := hS
        go_simp
        first | done | rfl | omega | (simp; done) | (simp; omega)
      simp only [Act.put, List.setIfInBounds_toArray, List.set_cons_zero, List.set_cons_succ]
      refine M_val (i := 19) (v := .int .u8 (48 + (x3 : Int))) SU.out rfl (by kernel_rfl) HS.out rfl (fun W hS => ?_) ?_
      · obtain s0 := hS
        go_simp
        first | done | rfl | omega | (simp; done) | (simp; omega)
      simp only [Act.put, List.setIfInBounds_toArray, List.set_cons_zero, List.set_cons_succ]
      refine wpAnyM_all (rs := [20]) (by kernel_rfl) (by simp) (fun w' hG => ?_)
      obtain rfl := hG
      refine allM.head rfl rfl (fun K6 hK6 => ?_) allM.nil
      go_simp
      refine hK6.out _ _ (((Fr.refl [] wr.drew).alloc _).cell (p := a.add k) (by rw [blk_add]; exact HBA.out) (by simp) |>.trans E0.out) ?_
      clear hK6 K6
      refine wpAnyM_all (rs := [21]) (by kernel_rfl) (by simp) (fun w' hG => ?_)
      obtain rfl := hG
      refine allM.head rfl rfl (fun K7 hK7 => ?_) allM.nil
      refine wp_append_OwnS (.tmp 19) (.tmp 39) 22 rfl 5 i0 _ Try.underlying22 hi0 hz0 hz1 rfl (.slice X ln cx) (byteVals (34 :: (b.take k).flatMap oct3)) ln HLN.out (by first | rfl | (simp [Act.eval]; done)) (OWN.out.fr (((Fr.refl [] wr).drew).alloc (.cells #[.int .u8 92, .int .u8 (48 + (x1 : Int)), .int .u8 (48 + (x2 : Int)), .int .u8 (48 + (x3 : Int))] 5)) (by simp)) (some ⟨wr.drew.heap.size, 0, none⟩) 4 4 (by first | rfl | (simp [Act.eval]; done)) [.int .u8 92, .int .u8 (48 + (x1 : Int)), .int .u8 (48 + (x2 : Int)), .int .u8 (48 + (x3 : Int))] (four_new _ _ _ _ _) rfl (by simp [Value.oneCell']) (by unfold maxLen; omega) (by rw [hz2]; omega) ?_
      intro X' c' w4 hown hgr hloc
      have hfL : Fr (Value.slice X ln cx).ownBlock.toList wr.drew w4 := ((Fr.refl _ wr.drew).alloc _).grown hgr (fun g' e => .inl (by rw [e]; simp))
      have HS4 : Hid (w4.cell? (a.add k) = some (.int .u8 (q : Int))) := Lib.hid ((hfL.cell (p := a.add k) (by rw [blk_add]; exact HBA.out) (by rw [blk_add]; intro e; have h1 := HBLK.out _ (by simpa using e); have h2 := HAL.out; omega)).trans E0.out)
      clear hfL
      have HOWN4 := Lib.hid hown; have HGR := Lib.hid hgr; have HLOC := Lib.hid hloc
      refine hK7.out _ _ HS4.out ?_
      clear hK7 K7 hown hgr hloc
      simp only [Act.put, List.setIfInBounds_toArray, List.set_cons_zero, List.set_cons_succ]
      refine wpAnyM_all (rs := [22]) (by kernel_rfl) (by simp) (fun w' hG => ?_)
      obtain rfl := hG
      refine allM.head rfl rfl (fun K8 hK8 => ?_) allM.nil
      go_simp
      refine hK8.out _ _ HS4.out ?_
      clear hK8 K8
      refine wpAnyM_done (by kernel_rfl) (fun w' hG => ?_)
      obtain rfl := hG
      go_wp2_with fail
      go_roundw
      case rel =>
        refine ⟨k + 1, ln + 4, X', c', by go_num, by have := HLE.out; omega, rfl, by omega, ?_, ?_, ?_⟩
        · have h := HOWN4.out
          rw [HX.out, ← byteVals_append] at h
          rw [take_flat b k hlt, ← List.cons_append]
          exact h
        · intro g hg
          rcases HLOC.out with h | h
          · exact HBLK.out g (by rw [← h]; exact hg)
          · rw [hg] at h; injection h with h; rw [h]; have := HF.out.size; simp; omega
        · exact ((HF.out.drew).alloc _).grown HGR.out (fun g' e => .inr (HBLK.out g' e))
      case measure => simp [intOf]; omega
    · obtain rfl : k = b.length := by omega
      have htk : b.take b.length = b := List.take_length
      rw [htk] at hown HLN
      have OWN := Lib.hid hown; have HBLK := Lib.hid hblk; have HF := Lib.hid hf; have HBY := Lib.hid hbytes; have HLE := Lib.hid hln
      have hll : ln ≤ 500 := by omega
      clear hown hblk hf hln hbytes htk
      go_wp2_with (at_builtin; refine wpList_append_OwnS rfl (.tmp 42) (.tmp 43) 22 rfl 5 i0 _ Try.underlying22 hi0 hz0 hz1 rfl (.slice X ln cx) (byteVals (34 :: b.flatMap oct3)) ln HLN.out (by first | rfl | (simp [Act.eval]; done)) (OWN.out.fr ((Fr.refl [] wr).alloc (.cells #[.int .u8 34] 5)) (by simp)) (some ⟨wr.heap.size, 0, none⟩) 1 1 (by first | rfl | (simp [Act.eval]; done)) [.int .u8 34] (one_new _ _) rfl (by simp [Value.oneCell']) (by unfold maxLen; omega) (by rw [hz2]; omega) ?_; intro X' c' w4 hown hgr hloc; have HOWN := Lib.hid hown; have HGR := Lib.hid hgr; have HLOC := Lib.hid hloc; clear hown hgr hloc)
      go_at_call 8
      have hsrc : byteVals (34 :: b.flatMap oct3) ++ [.int .u8 34] = byteVals (34 :: (b.flatMap oct3 ++ [34])) := by rw [← List.cons_append, byteVals_append]; rfl
      have hf4 : Fr [] w1 w4 := (HF.out.alloc _).grown HGR.out (fun g' e => .inr (HBLK.out g' e))
      have hsl : (34 :: (b.flatMap oct3 ++ [34])).length = ln + 1 := by have := HLE.out; rw [List.length_cons, List.length_append, oct_len]; simp; omega
      have hown := HOWN.out
      rw [hsrc] at hown
      obtain ⟨A', cap', hv, hat, hcl, hcm', hA', -⟩ := hown.at_
      injection hv with e1 e2 e3
      subst e1 e3
      rw [byteVals_length, hsl] at hcl
      have hall := all_any (src := 34 :: (b.flatMap oct3 ++ [34])) hat (by rw [hsl]; exact hcl) hA'
      rw [hsl] at hall
      refine hall.mono ?_
      intro e w5 hp
      unfold AllPost at hp
      rw [quotes_all b (by omega)] at hp
      obtain ⟨L, rfl, ht, -, hf5⟩ := hp
      obtain ⟨g, cap, rfl, hcap, hcapm, hgl, hcell⟩ := ht.cells_ (by simp)
      obtain ⟨d0, d1, d2, -⟩ := hcell w5 (Fr.refl _ _) 0 _ rfl
      simp only [Nat.zero_mul, Nat.zero_add] at d0 d1 d2
      have hcap' : 2 ≤ cap := hcap
      have HF5 := Lib.hid (hf4.trans hf5)
      clear hcell hgl hcapm ht hf5 hall hat hown hsrc hcl hcm' hA' e2 hsl hcap
      have hby5 : Bytes w5 A b := HB.out.fr_nil (HF1.out.trans HF5.out)
      have HB5 := Lib.hid hby5; clear hby5 hf4
      have hlen2 : List.length [(⟨3, 0, b, 0⟩ : Tk), ⟨0, 4 * b.length + 2, [], 0⟩] = 2 := rfl
      rw [hlen2]
      clear hlen2
      go_wp2_with fail
      refine wp_region_M_ (G := fun a b => a = b) (S := fun W => W = w5.drew) ⟨fun _ => rfl, fun a b c h k => h.trans k, fun a b h k => k ▸ h, by kernel_rfl, fun _ _ d _ _ h => by cases d <;> exact h⟩ (by kernel_rfl) fun su => ?_
      have SU := Lib.hid su
      have HS : Hid (w5.drew = w5.drew) := Lib.hid rfl
      clear su
      refine M_move (i := 0) _ SU.out rfl rfl (by kernel_rfl) HS.out rfl ?_
      simp only [Act.put, Act.eval, List.setIfInBounds_toArray, List.set_cons_zero, List.set_cons_succ, List.getElem?_toArray, List.getElem?_cons_zero, List.getElem?_cons_succ, Option.getD_some]
      refine M_val (i := 1) (v := .bool true) SU.out rfl (by kernel_rfl) HS.out rfl (fun W hS => ?_) ?_
      · obtain rfl := hS
        go_simp
        first | done | rfl | omega | (simp; done) | (simp; omega)
      simp only [Act.put, List.setIfInBounds_toArray, List.set_cons_zero, List.set_cons_succ]
      refine M_move (i := 2) _ SU.out rfl rfl (by kernel_rfl) HS.out rfl ?_
      simp only [Act.put, Act.eval, List.setIfInBounds_toArray, List.set_cons_zero, List.set_cons_succ, List.getElem?_toArray, List.getElem?_cons_zero, List.getElem?_cons_succ, Option.getD_some]
      refine M_move (i := 3) _ SU.out rfl rfl (by kernel_rfl) HS.out rfl ?_
      simp only [Act.put, Act.eval, List.setIfInBounds_toArray, List.set_cons_zero, List.set_cons_succ, List.getElem?_toArray, List.getElem?_cons_zero, List.getElem?_cons_succ, Option.getD_some]
      refine M_val (i := 4) (v := ?_) SU.out rfl (by kernel_rfl) HS.out rfl (fun W hS => ?_) ?_
      rotate_left
      · obtain rfl := hS
        go_simp
        first | done | rfl | omega | (simp; done) | (simp; omega)
      simp only [Act.put, List.setIfInBounds_toArray, List.set_cons_zero, List.set_cons_succ]
      refine M_val (i := 5) (v := .bool true) SU.out rfl (by kernel_rfl) HS.out rfl (fun W hS => ?_) ?_
      · obtain rfl := hS
        go_simp
        first | done | rfl | omega | (simp; done) | (simp; omega)
      simp only [Act.put, List.setIfInBounds_toArray, List.set_cons_zero, List.set_cons_succ]
      refine M_val (i := 6) (v := .bool true) SU.out rfl (by kernel_rfl) HS.out rfl (fun W hS => ?_) ?_
      · obtain rfl := hS
        go_simp
        first | done | rfl | omega | (simp; done) | (simp; omega)
      simp only [Act.put, List.setIfInBounds_toArray, List.set_cons_zero, List.set_cons_succ]
      refine M_move (i := 7) _ SU.out rfl rfl (by kernel_rfl) HS.out rfl ?_
      simp only [Act.put, Act.eval, List.setIfInBounds_toArray, List.set_cons_zero, List.set_cons_succ, List.getElem?_toArray, List.getElem?_cons_zero, List.getElem?_cons_succ, Option.getD_some]
      refine M_move (i := 8) _ SU.out rfl rfl (by kernel_rfl) HS.out rfl ?_
      simp only [Act.put, Act.eval, List.setIfInBounds_toArray, List.set_cons_zero, List.set_cons_succ, List.getElem?_toArray, List.getElem?_cons_zero, List.getElem?_cons_succ, Option.getD_some]
      refine M_val (i := 9) (v := ?_) SU.out rfl (by kernel_rfl) HS.out rfl (fun W hS => ?_) ?_
      rotate_left
      · obtain rfl := hS
        go_simp
        first | done | rfl | omega | (simp; done) | (simp; omega)
      simp only [Act.put, List.setIfInBounds_toArray, List.set_cons_zero, List.set_cons_succ]
      refine M_val (i := 10) (v := ?_) SU.out rfl (by kernel_rfl) HS.out rfl (fun W hS => ?_) ?_
      rotate_left
      · obtain rfl := hS
        go_simp
        first | done | rfl | omega | (simp; done) | (simp; omega)
      simp only [Act.put, List.setIfInBounds_toArray, List.set_cons_zero, List.set_cons_succ]
      refine M_val (i := 11) (v := .int .i64 3) SU.out rfl (by kernel_rfl) HS.out rfl (fun W hS => ?_) ?_
      · obtain rfl := hS
        go_simp
        first | done | rfl | omega | (simp; done) | (simp; omega)
      simp only [Act.put, List.setIfInBounds_toArray, List.set_cons_zero, List.set_cons_succ]
      refine M_val (i := 12) (v := .bool true) SU.out rfl (by kernel_rfl) HS.out rfl (fun W hS => ?_) ?_
      · obtain rfl := hS
        go_simp
        first | done | rfl | omega | (simp; done) | (simp; omega)
      simp only [Act.put, List.setIfInBounds_toArray, List.set_cons_zero, List.set_cons_succ]
      refine M_val (i := 13) (v := .bool true) SU.out rfl (by kernel_rfl) HS.out rfl (fun W hS => ?_) ?_
      · obtain rfl := hS
        go_simp
        first | done | rfl | omega | (simp; done) | (simp; omega)
      simp only [Act.put, List.setIfInBounds_toArray, List.set_cons_zero, List.set_cons_succ]
      refine M_move (i := 14) _ SU.out rfl rfl (by kernel_rfl) HS.out rfl ?_
      simp only [Act.put, Act.eval, List.setIfInBounds_toArray, List.set_cons_zero, List.set_cons_succ, List.getElem?_toArray, List.getElem?_cons_zero, List.getElem?_cons_succ, Option.getD_some]
      refine M_move (i := 15) _ SU.out rfl rfl (by kernel_rfl) HS.out rfl ?_
      simp only [Act.put, Act.eval, List.setIfInBounds_toArray, List.set_cons_zero, List.set_cons_succ, List.getElem?_toArray, List.getElem?_cons_zero, List.getElem?_cons_succ, Option.getD_some]
      refine M_val (i := 16) (v := ?_) SU.out rfl (by kernel_rfl) HS.out rfl (fun W hS => ?_) ?_
      rotate_left
      · obtain rfl := hS
        go_simp
        first | done | rfl | omega | (simp; done) | (simp; omega)
      simp only [Act.put, List.setIfInBounds_toArray, List.set_cons_zero, List.set_cons_succ]
      refine M_val (i := 17) (v := ?_) SU.out rfl (by kernel_rfl) HS.out rfl (fun W hS => ?_) ?_
      rotate_left
      · obtain rfl := hS
        go_simp
        first | done | rfl | omega | (simp; done) | (simp; omega)
      simp only [Act.put, List.setIfInBounds_toArray, List.set_cons_zero, List.set_cons_succ]
      refine M_val (i := 18) (v := .string ⟨b.toArray⟩) SU.out rfl (by kernel_rfl) HS.out rfl (fun W hS => ?_) ?_
      · obtain rfl := hS
        go_simp
        first | done | rfl | omega | (simp; done) | (simp; omega)
      simp only [Act.put, List.setIfInBounds_toArray, List.set_cons_zero, List.set_cons_succ]
      refine M_move (i := 19) _ SU.out rfl rfl (by kernel_rfl) HS.out rfl ?_
      simp only [Act.put, Act.eval, List.setIfInBounds_toArray, List.set_cons_zero, List.set_cons_succ, List.getElem?_toArray, List.getElem?_cons_zero, List.getElem?_cons_succ, Option.getD_some]
      refine M_str2 (i := 20) 22 9 (.tmp 67) SU.out rfl rfl 5 Try.underlying22 Try.underlying5 Try.underlying9 A b b.length c (by first | rfl | (simp [Act.eval]; done)) (fun W hS => by obtain rfl := hS; exact HB5.out.drew) rfl (by kernel_rfl) HS.out rfl ?_
      simp only [Act.put, List.setIfInBounds_toArray, List.set_cons_zero, List.set_cons_succ]
      refine M_val (i := 21) (v := .bool true) SU.out rfl (by kernel_rfl) HS.out rfl (fun W hS => ?_) ?_
      · obtain rfl := hS
        go_simp
        first | done | rfl | omega | (simp; done) | (simp; omega)
      simp only [Act.put, List.setIfInBounds_toArray, List.set_cons_zero, List.set_cons_succ]
      refine M_val (i := 22) (v := .bool true) SU.out rfl (by kernel_rfl) HS.out rfl (fun W hS => ?_) ?_
      · obtain rfl := hS
        go_simp
        first | done | rfl | omega | (simp; done) | (simp; omega)
      simp only [Act.put, List.setIfInBounds_toArray, List.set_cons_zero, List.set_cons_succ]
      refine M_move (i := 23) _ SU.out rfl rfl (by kernel_rfl) HS.out rfl ?_
      simp only [Act.put, Act.eval, List.setIfInBounds_toArray, List.set_cons_zero, List.set_cons_succ, List.getElem?_toArray, List.getElem?_cons_zero, List.getElem?_cons_succ, Option.getD_some]
      refine M_move (i := 24) _ SU.out rfl rfl (by kernel_rfl) HS.out rfl ?_
      simp only [Act.put, Act.eval, List.setIfInBounds_toArray, List.set_cons_zero, List.set_cons_succ, List.getElem?_toArray, List.getElem?_cons_zero, List.getElem?_cons_succ, Option.getD_some]
      refine M_val (i := 25) (v := ?_) SU.out rfl (by kernel_rfl) HS.out rfl (fun W hS => ?_) ?_
      rotate_left
      · obtain rfl := hS
        go_simp
        first | done | rfl | omega | (simp; done) | (simp; omega)
      simp only [Act.put, List.setIfInBounds_toArray, List.set_cons_zero, List.set_cons_succ]
      refine M_val (i := 26) (v := ?_) SU.out rfl (by kernel_rfl) HS.out rfl (fun W hS => ?_) ?_
      rotate_left
      · obtain rfl := hS
        go_simp
        first | done | rfl | omega | (simp; done) | (simp; omega)
      simp only [Act.put, List.setIfInBounds_toArray, List.set_cons_zero, List.set_cons_succ]
      refine M_val (i := 27) (v := .int .i64 0) SU.out rfl (by kernel_rfl) HS.out rfl (fun W hS => ?_) ?_
      · obtain rfl := hS
        go_simp
        first | done | rfl | omega | (simp; done) | (simp; omega)
      simp only [Act.put, List.setIfInBounds_toArray, List.set_cons_zero, List.set_cons_succ]
      refine M_val (i := 28) (v := .bool true) SU.out rfl (by kernel_rfl) HS.out rfl (fun W hS => ?_) ?_
      · obtain rfl := hS
        go_simp
        first | done | rfl | omega | (simp; done) | (simp; omega)
      simp only [Act.put, List.setIfInBounds_toArray, List.set_cons_zero, List.set_cons_succ]
      refine M_val (i := 29) (v := .bool true) SU.out rfl (by kernel_rfl) HS.out rfl (fun W hS => ?_) ?_
      · obtain rfl := hS
        go_simp
        first | done | rfl | omega | (simp; done) | (simp; omega)
      simp only [Act.put, List.setIfInBounds_toArray, List.set_cons_zero, List.set_cons_succ]
      refine M_val (i := 30) (v := .bool true) SU.out rfl (by kernel_rfl) HS.out rfl (fun W hS => ?_) ?_
      · obtain rfl := hS
        go_simp
        first | done | rfl | omega | (simp; done) | (simp; omega)
      simp only [Act.put, List.setIfInBounds_toArray, List.set_cons_zero, List.set_cons_succ]
      refine wpAnyM_done (by kernel_rfl) (fun w' hG => ?_)
      obtain rfl := hG
      go_wp2_with fail
      go_ret
      exact ⟨rfl, ((HF1.out.trans HF5.out).drew).below_nil⟩
theorem lexQuotes_open {H : Type} {enc : TypeId × Value → H} (W : World) (base : Nat) (v0 : Value) (d0 : DataW H) (p0 : List MemPlace) (k0 : Value.okWide Try.prog W .any base 22 v0)
    (h0 : DataW.Trod enc Try.prog W 0 (fun _ => true) true 22 v0 d0 p0) :
    Calls Try.prog 5 #[v0] W fun e W' => e = .returned (.bool true) ∧ Below W.heap.size W W' := by
  obtain ⟨A1, c1, b1, rfl, g1, g2, g3, g4⟩ := arg_bytes k0 h0
  exact quotes_walk g4 g1 g2
end Go.Proofs.Ytgbiligcppphhaa
