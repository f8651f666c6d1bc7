/-
  EreTimes: the walk. Under what the listed variables hold.
-/
import Derived.Test.YtmecogilhoebgaaDoorErW
import Derived.Test.YtmecogilhoebgaaDoorErT
import Derived.Test.YtmecogilhoebgaaDoorCodeF
import Derived.Test.YtmecogilhoebgaaDoorAs
import Derived.Test.YtmecogilhoebgaaDoorRead
namespace Go.Proofs.YtmecogilhoebgaaDoor
open Go.RowKit
set_option linter.unusedVariables false
set_option linter.unusedSimpArgs false

theorem dig_vals (m : Nat) (hm : m < 1000) : byteVals (dig3 m) = [.int .u8 (48 + (m : Int) / 100), .int .u8 (48 + (m : Int) / 10 % 10), .int .u8 (48 + (m : Int) % 10)] := by
  have h1 := ofNat_toNat_ (x := 48 + m / 100) (by omega)
  have h2 := ofNat_toNat_ (x := 48 + m / 10 % 10) (by omega)
  have h3 := ofNat_toNat_ (x := 48 + m % 10) (by omega)
  unfold byteVals dig3
  simp only [List.map_cons, List.map_nil, h1, h2, h3]
  simp
theorem dig_at (w : World) (m : Nat) (hm : m < 1000) : Bytes (w.alloc (.cells #[.int .u8 (48 + (m : Int) / 100), .int .u8 (48 + (m : Int) / 10 % 10), .int .u8 (48 + (m : Int) % 10)] 5)) (some ⟨w.heap.size, 0, none⟩) (dig3 m) := by
  unfold Bytes
  rw [dig_vals m hm]
  exact At.of_bk (n := 3) (Bk.new w 5 _) (by simp)
set_option maxRecDepth 100000 in
set_option maxHeartbeats 4000000 in
theorem digits_any (m : Nat) (hm : m < 1000) (w : World) : Calls Tryd.prog 5 #[.int .i64 (m : Int)] w fun e w' => e = .returned (.string ⟨(dig3 m).toArray⟩) ∧ Fr [] w w' := by
  have h0 : 0 ≤ (m : Int) := by omega
  have h1 : (m : Int) < 1000 := by omega
  have HM := Lib.hid hm
  clear hm
  go_enter Tryd.func5, Tryd.ntmps5
  go_wp2_with (refine wpList_str rfl 35 9 (.tmp 16) rfl 5 Tryd.underlying35 Tryd.underlying5 Tryd.underlying9 (some ⟨w.heap.size, 0, none⟩) 3 3 (by first | rfl | (simp [Act.eval]; done)) (dig3 m) (dig_at w m HM.out) rfl ?_)
  go_ret
  exact ⟨rfl, (Fr.refl [] w).alloc _⟩
/-- The library's variable. -/
def ErrT (w : World) : Prop := w.cell? ⟨0, 0, none⟩ = some (.iface 66 (.agg #[.pointer (some ⟨2, 32, none⟩)]))
theorem ErrT.fr {w w' : World} (h : ErrT w) (hf : Fr [] w w') : ErrT w' := (hf.cell (World.block_lt_of_cell? w _ h) (by simp)).trans h
theorem as_fault {w : World} {v : Value} {p c : Int} {t : Nat} {old : Value} (h : FaultV w v p c) (hg : ErrT w) (ht : Bk w t 36 #[old]) :
    Calls Tryd.prog 8 #[v, .iface 39 (.pointer (some ⟨t, 0, none⟩))] w fun e w' => e = .returned (.bool true) ∧ ∃ g, Bk w' t 36 #[.pointer (some ⟨g, 0, none⟩)] ∧ Bk w' g 41 #[.int .i64 p, .iface 44 (.int .i64 c)] ∧ Fr [t] w w' := by
  obtain ⟨g, rfl, hb⟩ := h
  refine (as_hit ⟨g, 0, none⟩ ⟨t, 0, none⟩ old w hg (ht.cell_ rfl) (ht.frozen 0)).mono ?_
  rintro e w' ⟨rfl, rfl⟩
  have hne : g ≠ t := hb.ne_ ht (by decide)
  refine ⟨rfl, g, ?_, ?_, ?_⟩
  · exact ((((ht.alloc _).alloc _).alloc _).alloc _).put 0 _
  · exact ((((hb.alloc _).alloc _).alloc _).alloc _).far hne _
  · exact (((((Fr.refl [t] w).alloc _).alloc _).alloc _).alloc _).setCell (.inl (by simp)) _
set_option maxRecDepth 100000 in
set_option maxHeartbeats 8000000 in
theorem ereTimes_walk {w : World} (hg : GlobOk w) (ht : ErrT w) (a b : Nat) (o : Bool) (ha : a < 65536) (hb : b < 65536) : Calls Tryd.prog 3 #[.int .u16 (a : Int), .int .u16 (b : Int), .bool o] w fun e w' => e = .returned (.bool true) ∧ Fr [] w w' := by
  obtain ⟨m, hm⟩ : ∃ m, m = a % 1000 := ⟨_, rfl⟩
  obtain ⟨n, hn⟩ : ∃ n, n = b % 1000 := ⟨_, rfl⟩
  have hma : (a : Int) % 1000 = (m : Int) := by omega
  have hnb : (b : Int) % 1000 = (n : Int) := by omega
  have hm1 : m < 1000 := by omega
  have hn1 : n < 1000 := by omega
  have HG := Lib.hid hg; have HT := Lib.hid ht
  clear hg ht hm hn
  go_enter Tryd.func3, Tryd.ntmps3
  go_upto_region 4 with (go_at_call 4; refine (awake_any HG.out).mono ?_; rintro e w1 ⟨rfl, hf1⟩; have HF1 := Lib.hid hf1; clear hf1)
  rw [hma, hnb]
  clear hma hnb
  have hl1 : (dig3 m).length = 3 := rfl
  have hl2 : (dig3 n).length = 3 := rfl
  go_upto_region 5 with (go_at_call 5; refine (digits_any m hm1 _).mono ?_; rintro e w2 ⟨rfl, hf2⟩; have HF2 := Lib.hid (HF1.out.trans hf2); clear hf2)
  have hs1 : ((⟨#[120, 123]⟩ : ByteArray) ++ ⟨(dig3 m).toArray⟩ ++ ⟨#[44]⟩) = ⟨([120, 123] ++ dig3 m ++ [44]).toArray⟩ := by apply ByteArray.ext; simp
  rw [hs1]
  obtain ⟨L1, hL1⟩ : ∃ L1, L1 = [120, 123] ++ dig3 m ++ [44] := ⟨_, rfl⟩
  rw [← hL1]
  have hl3 : L1.length = 6 := by rw [hL1]; rfl
  have HL1 := Lib.hid hL1
  clear hs1 hL1
  cases o
  · go_upto_region 7 with (go_at_call 5; refine (digits_any n hn1 _).mono ?_; rintro e w3 ⟨rfl, hf3⟩; have HF3 := Lib.hid (HF2.out.trans hf3); clear hf3)
    have HS : Hid ((⟨(tb m (some n)).toArray⟩ : ByteArray) = ⟨L1.toArray⟩ ++ ⟨(dig3 n).toArray⟩ ++ ⟨#[125]⟩) := Lib.hid (by rw [HL1.out]; apply ByteArray.ext; simp [tb])
    have HSZ : Hid ((⟨(tb m (some n)).toArray⟩ : ByteArray).size ≤ maxLen) := Lib.hid (by rw [ba_size]; show 10 ≤ maxLen; unfold maxLen; omega)
    have HO : Hid (∀ k, some n = some k → k < 1000) := Lib.hid (by intro k hk; injection hk with hk; omega)
    by_cases h1 : 255 < m
    · have t1 : decide (255 < m) = true := by simpa using h1
      have HPP : Hid (parseS (tb m (some n)) = .error (1, 5)) := Lib.hid (by rw [times_parse m hm1 (some n) HO.out, if_pos (by unfold badS tbN; simp; omega)])
      go_upto_region 8 with (first
        | (refine wpList_bytes rfl 9 35 (.tmp 33) rfl 5 Tryd.underlying9 Tryd.underlying35 Tryd.underlying5 ⟨(tb m (some n)).toArray⟩ (by rw [HS.out]; first | rfl | (simp [Act.eval]; done)) HSZ.out ?_; intro A2 c2 w4 hat hge hle hA2 hfr; have HAT : Hid (Bytes w4 A2 (tb m (some n))) := Lib.hid (show At w4 A2 (byteVals _) from by simpa using hat); have HF4 := Lib.hid (HF3.out.trans hfr); have HA2 := Lib.hid hA2; have HGE := Lib.hid hge; have HLE := Lib.hid hle; clear hat hfr hA2 hge hle)
        | (go_at_call 6; refine (parse_at _ (ba_size _).symm _ HPP.out HAT.out HGE.out (by intro h; rw [HA2.out] at h; cases h) HLE.out (HG.out.fr HF4.out)).mono ?_; rintro e w5 ⟨v, rfl, hv, hf⟩; have HV := Lib.hid hv; have HF5 := Lib.hid (HF4.out.trans hf); clear hv hf; unfold zeroP))
      go_upto_region 10 with fail
      refine code_gen1 fun W hW => ?_
      have hfW : Fr [] w5 W := by rw [hW]; exact ((Fr.refl [] w5).alloc _).alloc _
      have hbt : Bk W (w5.heap.size + 1) 36 #[.pointer none] := by
        rw [hW]
        have := Bk.new (w5.alloc (.cells zeroP 30)) 36 #[.pointer none]
        simpa [zeroP] using this
      obtain ⟨tb0, htb⟩ : ∃ x, x = w5.heap.size + 1 := ⟨_, rfl⟩
      rw [← htb] at hbt ⊢
      have hge : w.heap.size ≤ tb0 := by have := HF5.out.size; omega
      have HVW := Lib.hid (HV.out.fr hfW); have HFW := Lib.hid (HF5.out.trans hfW); have HBT := Lib.hid hbt
      clear hW hfW hbt htb
      go_wp2_with fail
      go_at_call 7
      refine (code_fault HVW.out (by decide) (by decide)).mono ?_
      rintro e w6 ⟨rfl, rfl⟩
      go_wp2_with fail
      go_at_call 8
      refine (as_fault HVW.out (HT.out.fr HFW.out) HBT.out).mono ?_
      rintro e w7 ⟨rfl, g, h1, h2, h3⟩
      have d0 := h1.cell_ (i := 0) rfl
      have d1 := h2.cell_ (i := 0) rfl
      have hlt1 := h1.lt
      have hlt2 := h2.lt
      have HF7 : Hid (Fr [] w w7) := Lib.hid (HFW.out.trans' h3 (by simp; exact hge))
      clear h1 h2 h3
      go_wp2_with fail
      go_ret
      exact ⟨rfl, HF7.out⟩
    have t1 : decide (255 < m) = false := by simpa using h1
    by_cases h2 : 255 < n
    · have t2 : decide (255 < n) = true := by simpa using h2
      have HPP : Hid (parseS (tb m (some n)) = .error (1, 5)) := Lib.hid (by rw [times_parse m hm1 (some n) HO.out, if_pos (by unfold badS tbN; simp; omega)])
      go_upto_region 8 with (first
        | (refine wpList_bytes rfl 9 35 (.tmp 33) rfl 5 Tryd.underlying9 Tryd.underlying35 Tryd.underlying5 ⟨(tb m (some n)).toArray⟩ (by rw [HS.out]; first | rfl | (simp [Act.eval]; done)) HSZ.out ?_; intro A2 c2 w4 hat hge hle hA2 hfr; have HAT : Hid (Bytes w4 A2 (tb m (some n))) := Lib.hid (show At w4 A2 (byteVals _) from by simpa using hat); have HF4 := Lib.hid (HF3.out.trans hfr); have HA2 := Lib.hid hA2; have HGE := Lib.hid hge; have HLE := Lib.hid hle; clear hat hfr hA2 hge hle)
        | (go_at_call 6; refine (parse_at _ (ba_size _).symm _ HPP.out HAT.out HGE.out (by intro h; rw [HA2.out] at h; cases h) HLE.out (HG.out.fr HF4.out)).mono ?_; rintro e w5 ⟨v, rfl, hv, hf⟩; have HV := Lib.hid hv; have HF5 := Lib.hid (HF4.out.trans hf); clear hv hf; unfold zeroP))
      go_upto_region 10 with fail
      refine code_gen1 fun W hW => ?_
      have hfW : Fr [] w5 W := by rw [hW]; exact ((Fr.refl [] w5).alloc _).alloc _
      have hbt : Bk W (w5.heap.size + 1) 36 #[.pointer none] := by
        rw [hW]
        have := Bk.new (w5.alloc (.cells zeroP 30)) 36 #[.pointer none]
        simpa [zeroP] using this
      obtain ⟨tb0, htb⟩ : ∃ x, x = w5.heap.size + 1 := ⟨_, rfl⟩
      rw [← htb] at hbt ⊢
      have hge : w.heap.size ≤ tb0 := by have := HF5.out.size; omega
      have HVW := Lib.hid (HV.out.fr hfW); have HFW := Lib.hid (HF5.out.trans hfW); have HBT := Lib.hid hbt
      clear hW hfW hbt htb
      go_wp2_with fail
      go_at_call 7
      refine (code_fault HVW.out (by decide) (by decide)).mono ?_
      rintro e w6 ⟨rfl, rfl⟩
      go_wp2_with fail
      go_at_call 8
      refine (as_fault HVW.out (HT.out.fr HFW.out) HBT.out).mono ?_
      rintro e w7 ⟨rfl, g, h1, h2, h3⟩
      have d0 := h1.cell_ (i := 0) rfl
      have d1 := h2.cell_ (i := 0) rfl
      have hlt1 := h1.lt
      have hlt2 := h2.lt
      have HF7 : Hid (Fr [] w w7) := Lib.hid (HFW.out.trans' h3 (by simp; exact hge))
      clear h1 h2 h3
      go_wp2_with fail
      go_ret
      exact ⟨rfl, HF7.out⟩
    have t2 : decide (255 < n) = false := by simpa using h2
    by_cases h3 : n < m
    · have t3 : decide (n < m) = true := by simpa using h3
      have HPP : Hid (parseS (tb m (some n)) = .error (1, 5)) := Lib.hid (by rw [times_parse m hm1 (some n) HO.out, if_pos (by unfold badS tbN; simp; omega)])
      go_upto_region 8 with (first
        | (refine wpList_bytes rfl 9 35 (.tmp 33) rfl 5 Tryd.underlying9 Tryd.underlying35 Tryd.underlying5 ⟨(tb m (some n)).toArray⟩ (by rw [HS.out]; first | rfl | (simp [Act.eval]; done)) HSZ.out ?_; intro A2 c2 w4 hat hge hle hA2 hfr; have HAT : Hid (Bytes w4 A2 (tb m (some n))) := Lib.hid (show At w4 A2 (byteVals _) from by simpa using hat); have HF4 := Lib.hid (HF3.out.trans hfr); have HA2 := Lib.hid hA2; have HGE := Lib.hid hge; have HLE := Lib.hid hle; clear hat hfr hA2 hge hle)
        | (go_at_call 6; refine (parse_at _ (ba_size _).symm _ HPP.out HAT.out HGE.out (by intro h; rw [HA2.out] at h; cases h) HLE.out (HG.out.fr HF4.out)).mono ?_; rintro e w5 ⟨v, rfl, hv, hf⟩; have HV := Lib.hid hv; have HF5 := Lib.hid (HF4.out.trans hf); clear hv hf; unfold zeroP))
      go_upto_region 10 with fail
      refine code_gen1 fun W hW => ?_
      have hfW : Fr [] w5 W := by rw [hW]; exact ((Fr.refl [] w5).alloc _).alloc _
      have hbt : Bk W (w5.heap.size + 1) 36 #[.pointer none] := by
        rw [hW]
        have := Bk.new (w5.alloc (.cells zeroP 30)) 36 #[.pointer none]
        simpa [zeroP] using this
      obtain ⟨tb0, htb⟩ : ∃ x, x = w5.heap.size + 1 := ⟨_, rfl⟩
      rw [← htb] at hbt ⊢
      have hge : w.heap.size ≤ tb0 := by have := HF5.out.size; omega
      have HVW := Lib.hid (HV.out.fr hfW); have HFW := Lib.hid (HF5.out.trans hfW); have HBT := Lib.hid hbt
      clear hW hfW hbt htb
      go_wp2_with fail
      go_at_call 7
      refine (code_fault HVW.out (by decide) (by decide)).mono ?_
      rintro e w6 ⟨rfl, rfl⟩
      go_wp2_with fail
      go_at_call 8
      refine (as_fault HVW.out (HT.out.fr HFW.out) HBT.out).mono ?_
      rintro e w7 ⟨rfl, g, h1, h2, h3⟩
      have d0 := h1.cell_ (i := 0) rfl
      have d1 := h2.cell_ (i := 0) rfl
      have hlt1 := h1.lt
      have hlt2 := h2.lt
      have HF7 : Hid (Fr [] w w7) := Lib.hid (HFW.out.trans' h3 (by simp; exact hge))
      clear h1 h2 h3
      go_wp2_with fail
      go_ret
      exact ⟨rfl, HF7.out⟩
    have t3 : decide (n < m) = false := by simpa using h3
    have HPP : Hid (parseS (tb m (some n)) = .ok (tTimes m (tbN (some n)) (tSet (S4.range 120 120)))) := Lib.hid (by rw [times_parse m hm1 (some n) HO.out, if_neg (by unfold badS tbN; simp; omega)])
    go_upto_region 8 with (first
      | (refine wpList_bytes rfl 9 35 (.tmp 33) rfl 5 Tryd.underlying9 Tryd.underlying35 Tryd.underlying5 ⟨(tb m (some n)).toArray⟩ (by rw [HS.out]; first | rfl | (simp [Act.eval]; done)) HSZ.out ?_; intro A2 c2 w4 hat hge hle hA2 hfr; have HAT : Hid (Bytes w4 A2 (tb m (some n))) := Lib.hid (show At w4 A2 (byteVals _) from by simpa using hat); have HF4 := Lib.hid (HF3.out.trans hfr); have HA2 := Lib.hid hA2; have HGE := Lib.hid hge; have HLE := Lib.hid hle; clear hat hfr hA2 hge hle)
      | (go_at_call 6; refine (parse_at _ (ba_size _).symm _ HPP.out HAT.out HGE.out (by intro h; rw [HA2.out] at h; cases h) HLE.out (HG.out.fr HF4.out)).mono ?_; rintro e w5 ⟨p, rfl, hn, hf⟩; rw [hn.val]; have HF5 := Lib.hid (HF4.out.trans hf); clear hf hn; obtain ⟨pA, hpA⟩ : ∃ x, x = p.A := ⟨_, rfl⟩; rw [← hpA]; clear hpA; obtain ⟨pc, hpc⟩ : ∃ x, x = p.c := ⟨_, rfl⟩; rw [← hpc]; clear hpc; simp only [RT.k, RT.s, RT.mn, RT.mx, RT.l, S4.empty, tTimes, tbN, List.length_cons, List.length_nil, Nat.reduceAdd, Int.natCast_zero]))
    go_wp2_with fail
    go_ret
    exact ⟨rfl, HF5.out.alloc _⟩
  · have HSZ : Hid ((⟨(tb m none).toArray⟩ : ByteArray).size ≤ maxLen) := Lib.hid (by rw [ba_size]; show 7 ≤ maxLen; unfold maxLen; omega)
    have HO : Hid (∀ k, (none : Option Nat) = some k → k < 1000) := Lib.hid (by intro k hk; cases hk)
    have HS : Hid ((⟨(tb m none).toArray⟩ : ByteArray) = ⟨L1.toArray⟩ ++ ⟨#[125]⟩) := Lib.hid (by rw [HL1.out]; apply ByteArray.ext; simp [tb])
    by_cases h1 : 255 < m
    · have t1 : decide (255 < m) = true := by simpa using h1
      have HPP : Hid (parseS (tb m none) = .error (1, 5)) := Lib.hid (by rw [times_parse m hm1 none HO.out, if_pos (by unfold badS tbN; simp; omega)])
      go_upto_region 8 with (first
        | (refine wpList_bytes rfl 9 35 (.tmp 33) rfl 5 Tryd.underlying9 Tryd.underlying35 Tryd.underlying5 ⟨(tb m none).toArray⟩ (by rw [HS.out]; first | rfl | (simp [Act.eval]; done)) HSZ.out ?_; intro A2 c2 w4 hat hge hle hA2 hfr; have HAT : Hid (Bytes w4 A2 (tb m none)) := Lib.hid (show At w4 A2 (byteVals _) from by simpa using hat); have HF4 := Lib.hid (HF2.out.trans hfr); have HA2 := Lib.hid hA2; have HGE := Lib.hid hge; have HLE := Lib.hid hle; clear hat hfr hA2 hge hle)
        | (go_at_call 6; refine (parse_at _ (ba_size _).symm _ HPP.out HAT.out HGE.out (by intro h; rw [HA2.out] at h; cases h) HLE.out (HG.out.fr HF4.out)).mono ?_; rintro e w5 ⟨v, rfl, hv, hf⟩; have HV := Lib.hid hv; have HF5 := Lib.hid (HF4.out.trans hf); clear hv hf; unfold zeroP))
      go_upto_region 10 with fail
      refine code_gen1 fun W hW => ?_
      have hfW : Fr [] w5 W := by rw [hW]; exact ((Fr.refl [] w5).alloc _).alloc _
      have hbt : Bk W (w5.heap.size + 1) 36 #[.pointer none] := by
        rw [hW]
        have := Bk.new (w5.alloc (.cells zeroP 30)) 36 #[.pointer none]
        simpa [zeroP] using this
      obtain ⟨tb0, htb⟩ : ∃ x, x = w5.heap.size + 1 := ⟨_, rfl⟩
      rw [← htb] at hbt ⊢
      have hge : w.heap.size ≤ tb0 := by have := HF5.out.size; omega
      have HVW := Lib.hid (HV.out.fr hfW); have HFW := Lib.hid (HF5.out.trans hfW); have HBT := Lib.hid hbt
      clear hW hfW hbt htb
      go_wp2_with fail
      go_at_call 7
      refine (code_fault HVW.out (by decide) (by decide)).mono ?_
      rintro e w6 ⟨rfl, rfl⟩
      go_wp2_with fail
      go_at_call 8
      refine (as_fault HVW.out (HT.out.fr HFW.out) HBT.out).mono ?_
      rintro e w7 ⟨rfl, g, h1, h2, h3⟩
      have d0 := h1.cell_ (i := 0) rfl
      have d1 := h2.cell_ (i := 0) rfl
      have hlt1 := h1.lt
      have hlt2 := h2.lt
      have HF7 : Hid (Fr [] w w7) := Lib.hid (HFW.out.trans' h3 (by simp; exact hge))
      clear h1 h2 h3
      go_wp2_with fail
      go_ret
      exact ⟨rfl, HF7.out⟩
    have t1 : decide (255 < m) = false := by simpa using h1
    have HPP : Hid (parseS (tb m none) = .ok (tTimes m (tbN none) (tSet (S4.range 120 120)))) := Lib.hid (by rw [times_parse m hm1 none HO.out, if_neg (by unfold badS tbN; simp; omega)])
    go_upto_region 8 with (first
      | (refine wpList_bytes rfl 9 35 (.tmp 33) rfl 5 Tryd.underlying9 Tryd.underlying35 Tryd.underlying5 ⟨(tb m none).toArray⟩ (by rw [HS.out]; first | rfl | (simp [Act.eval]; done)) HSZ.out ?_; intro A2 c2 w4 hat hge hle hA2 hfr; have HAT : Hid (Bytes w4 A2 (tb m none)) := Lib.hid (show At w4 A2 (byteVals _) from by simpa using hat); have HF4 := Lib.hid (HF2.out.trans hfr); have HA2 := Lib.hid hA2; have HGE := Lib.hid hge; have HLE := Lib.hid hle; clear hat hfr hA2 hge hle)
      | (go_at_call 6; refine (parse_at _ (ba_size _).symm _ HPP.out HAT.out HGE.out (by intro h; rw [HA2.out] at h; cases h) HLE.out (HG.out.fr HF4.out)).mono ?_; rintro e w5 ⟨p, rfl, hn, hf⟩; rw [hn.val]; have HF5 := Lib.hid (HF4.out.trans hf); clear hf hn; obtain ⟨pA, hpA⟩ : ∃ x, x = p.A := ⟨_, rfl⟩; rw [← hpA]; clear hpA; obtain ⟨pc, hpc⟩ : ∃ x, x = p.c := ⟨_, rfl⟩; rw [← hpc]; clear hpc; simp only [RT.k, RT.s, RT.mn, RT.mx, RT.l, S4.empty, tTimes, tbN, List.length_cons, List.length_nil, Nat.reduceAdd, Int.natCast_zero]))
    go_wp2_with fail
    go_ret
    exact ⟨rfl, HF5.out.alloc _⟩
end Go.Proofs.YtmecogilhoebgaaDoor
