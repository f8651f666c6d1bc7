/-
  The walk of MatchTimes. No conditions.
-/
import Derived.Test.YtekfpipgcpkejaaMaW
import Derived.Test.YtekfpipgcpkejaaMtP
import Derived.Test.YtekfpipgcpkejaaRead
namespace Go.Proofs.Ytekfpipgcpkejaa
open Go.RowKit Go.ChangeShapes Go.WideShapes Go.ChangeAt
set_option linter.unusedVariables false
set_option linter.unusedSimpArgs false

def dig2 (n : Nat) : List UInt8 := [UInt8.ofNat (48 + n / 10), UInt8.ofNat (48 + n % 10)]
theorem ofNat_toNat8 {x : Nat} (h : x < 256) : (UInt8.ofNat x).toNat = x := by simp; omega
theorem dig2_vals (m : Nat) (hm : m < 60) : byteVals (dig2 m) = [.int .u8 (48 + (m : Int) / 10), .int .u8 (48 + (m : Int) % 10)] := by
  have h1 := ofNat_toNat8 (x := 48 + m / 10) (by omega)
  have h3 := ofNat_toNat8 (x := 48 + m % 10) (by omega)
  unfold byteVals dig2
  simp only [List.map_cons, List.map_nil, h1, h3]
  simp
theorem dig2_at (w : World) (m : Nat) (hm : m < 60) : Bytes (w.alloc (.cells #[.int .u8 (48 + (m : Int) / 10), .int .u8 (48 + (m : Int) % 10)] 5)) (some ⟨w.heap.size, 0, none⟩) (dig2 m) := by
  unfold Bytes
  rw [dig2_vals m hm]
  exact At.of_bk (n := 2) (Bk.new w 5 _) (by simp)
set_option maxRecDepth 100000 in
set_option maxHeartbeats 1000000 in
theorem two_any {w : World} {m : Nat} (hm : m < 60) : Calls Try.prog 23 #[.int .i64 (m : Int)] w fun e w' => e = .returned (.string ⟨(dig2 m).toArray⟩) ∧ Fr [] w w' := by
  have h0 : 0 ≤ (m : Int) := by omega
  have h1 : (m : Int) < 60 := by omega
  have HM := Lib.hid hm
  clear hm
  go_enter Try.func23, Try.ntmps23
  go_wp2_with (refine wpList_str rfl 22 9 (.tmp 11) rfl 5 Try.underlying22 Try.underlying5 Try.underlying9 (some ⟨w.heap.size, 0, none⟩) 2 2 (by first | rfl | (simp [Act.eval]; done)) (dig2 m) (dig2_at w m HM.out) rfl ?_)
  go_ret
  exact ⟨rfl, (Fr.refl [] w).alloc _⟩
def xs_ (size i : Nat) : List UInt8 := List.replicate i 120 ++ List.replicate (size - i) 0
theorem xs_len (size i : Nat) (h : i ≤ size) : (xs_ size i).length = size := by simp [xs_]; omega
theorem xs_set (size i : Nat) (h : i < size) : (xs_ size i).set i 120 = xs_ size (i + 1) := by
  unfold xs_
  rw [List.set_append_right _ _ (by simp)]
  have e : size - i = (size - (i + 1)) + 1 := by omega
  rw [e, List.length_replicate, Nat.sub_self, List.replicate_succ (n := size - (i + 1)), List.set_cons_zero, List.replicate_succ' (n := i)]
  simp
theorem mk_bytes (n : Nat) (hn : n ≤ 100000) (W : World) : (Instr.makeSlice 22 (.int .i64 (n : Int)) (.int .i64 (n : Int))).run Try.prog W = .ok (.slice (some ⟨W.heap.size, 0, none⟩) n n) (W.alloc (.cells (byteVals (xs_ n 0)).toArray 5)) := by
  obtain ⟨i, hi, hz, hs, hb⟩ : ∃ i, Try.prog.info? 5 = some i ∧ i.zero = some (.int .u8 0) ∧ i.size = 1 ∧ i.bytes = 1 := info_parts (by kernel_rfl)
  have h := run_make (P := Try.prog) (w := W) 22 5 i _ Try.underlying22 hi hz .i64 .i64 (n : Int) (n : Int) (by omega) (by omega) (by rw [hb]; omega) (by omega)
  rw [hs] at h
  have e1 : Int.toNat (n : Int) = n := by omega
  have e2 : madeCells (Value.int .u8 0).cells (n * 1) = (byteVals (xs_ n 0)).toArray := by
    have := toList_madeCells_one (.int .u8 0) n
    rw [Nat.mul_one]
    apply Array.ext'
    rw [show (Value.int .u8 0).cells = #[Value.int .u8 0] from rfl, this]
    simp [byteVals, xs_]
  rw [e1, e2] at h
  exact h
set_option maxRecDepth 100000 in
set_option maxHeartbeats 8000000 in
theorem matchTimes_walk {w : World} (hg : GlobOk w) (a b c : Nat) (ha : a < 256) (hb : b < 256) (hc : c < 256) : Calls Try.prog 8 #[.int .u8 (a : Int), .int .u8 (b : Int), .int .u8 (c : Int)] w fun e w' => e = .returned (.bool true) ∧ Fr [] w w' := by
  obtain ⟨m, hm⟩ : ∃ m, m = a % 60 := ⟨_, rfl⟩
  obtain ⟨k, hk⟩ : ∃ k, k = b % 60 := ⟨_, rfl⟩
  obtain ⟨z, hz⟩ : ∃ z, z = c % 61 := ⟨_, rfl⟩
  have hma : (a : Int) % 60 = (m : Int) := by omega
  have hkb : (b : Int) % 60 = (k : Int) := by omega
  have hzc : (c : Int) % 61 = (z : Int) := by omega
  have hm1 : m < 60 := by omega
  have hk1 : k < 60 := by omega
  have hz1 : z < 61 := by omega
  have HG := Lib.hid hg
  clear hg hm hk hz
  go_enter Try.func8, Try.ntmps8
  go_upto_region 4 with (go_at_call 12; refine (awake_any HG.out).mono ?_; rintro e w1 ⟨rfl, hf1⟩; have HF1 := Lib.hid hf1; clear hf1)
  rw [hma, hkb, hzc]
  clear hma hkb hzc
  rcases Nat.lt_or_ge k m with hkm | hkm
  · have hkmI : (k : Int) < (m : Int) := by omega
    go_wp2_with fail
    go_ret
    exact ⟨rfl, HF1.out⟩
  have hkmI : ¬ ((k : Int) < (m : Int)) := by omega
  have hl1 : (dig2 m).length = 2 := rfl
  have hl2 : (dig2 k).length = 2 := rfl
  have HS : Hid ((⟨(mtB m k).toArray⟩ : ByteArray) = ⟨#[120, 123]⟩ ++ ⟨(dig2 m).toArray⟩ ++ ⟨#[44]⟩ ++ ⟨(dig2 k).toArray⟩ ++ ⟨#[125]⟩) := Lib.hid (by apply ByteArray.ext; simp [mtB, dig2])
  have HSZ : Hid ((⟨(mtB m k).toArray⟩ : ByteArray).size ≤ maxLen) := Lib.hid (by rw [ba_size]; show 8 ≤ maxLen; unfold maxLen; omega)
  go_upto_region 9 with (first
    | (have HQ := HF2; go_at_call 23; refine (two_any hk1).mono ?_; rintro e w3 ⟨rfl, hf3⟩; have HF3 := Lib.hid (HF2.out.trans hf3); clear hf3 HQ)
    | (go_at_call 23; refine (two_any hm1).mono ?_; rintro e w2 ⟨rfl, hf2⟩; have HF2 := Lib.hid (HF1.out.trans hf2); clear hf2)
    | (refine wpList_bytes rfl 9 22 (.tmp 39) rfl 5 Try.underlying9 Try.underlying22 Try.underlying5 ⟨(mtB m k).toArray⟩ (by rw [HS.out]; first | rfl | (simp [Act.eval]; done)) HSZ.out ?_; intro A2 c2 w4 hat hge hle hA2 hfr; have HAT : Hid (Bytes w4 A2 (mtB m k)) := Lib.hid (show At w4 A2 (byteVals _) from by simpa using hat); have HF4 := Lib.hid (HF3.out.trans hfr); have HA2 := Lib.hid hA2; have HGE := Lib.hid hge; have HLE := Lib.hid hle; clear hat hfr hA2 hge hle)
    | (go_at_call 22; refine (new_at _ (ba_size _).symm _ (mtt_parse hm1 hk1 hkm) (mtt_size hk1 hkm) HAT.out (by rw [ba_size]; show 8 ≤ 150; omega) HGE.out (by intro h; rw [HA2.out] at h; cases h) HLE.out (HG.out.fr HF4.out)).mono ?_; rintro e w5 ⟨fb, rfl, hn, hf⟩; have HF5 := Lib.hid (HF4.out.trans hf); have HN5 := Lib.hid hn; clear hf hn))
  have hmk := mk_bytes z (by omega)
  obtain ⟨E, hE⟩ : ∃ E, E = (byteVals (xs_ z 0)).toArray := ⟨_, rfl⟩
  rw [← hE] at hmk
  have HE := Lib.hid hE; clear hE
  obtain ⟨bb, hbb⟩ : ∃ bb, bb = w5.heap.size := ⟨_, rfl⟩
  have hst : Bk (w5.alloc (.cells E 5)) bb 5 (byteVals (xs_ z 0)).toArray := by rw [hbb, ← HE.out]; exact Bk.new _ _ _
  have hst2 := HN5.out.fr ((Fr.refl [] w5).alloc (.cells E 5))
  have hst3 : Fr [] w (w5.alloc (.cells E 5)) := HF5.out.alloc _
  have hbw : w.heap.size ≤ bb := by rw [hbb]; exact HF5.out.size
  have hlo : w4.heap.size = w4.heap.size := rfl
  have HST := Lib.hid (And.intro hst (And.intro hst2 hst3))
  clear hst hst2 hst3 hlo
  go_wp2_with fail
  rw [← hbb]
  generalize w5.alloc (.cells E 5) = w6 at *
  clear hbb hmk
  go_loopw [13] (fun v13 wr => ∃ i : Nat, v13 = .int .i64 (i : Int) ∧ i ≤ z ∧ Bk wr bb 5 (byteVals (xs_ z i)).toArray ∧ FinderAt wr w4.heap.size fb (progT (mtT m k)) ∧ Fr [] w wr) (fun v13 _ => z + 1 - (intOf v13).toNat)
  case atStart => exact ⟨0, rfl, by omega, HST.out.1, HST.out.2.1, HST.out.2.2⟩
  case round =>
    obtain ⟨i, rfl, hi, hbk, hrc, hfr⟩ := hrel
    by_cases hlt : i < z
    · have f0 := hbk.frozen i
      have hcell := hbk.cell_ (i := i) (v := .int .u8 (((xs_ z i).getD i 0).toNat : Int)) (by have := xs_len z i hi; simp [byteVals, this, hlt])
      have hiI : (i : Int) < (z : Int) := by omega
      have HB := Lib.hid (And.intro hbk (And.intro hrc hfr))
      clear hbk hrc hfr
      go_wp2_with fail
      go_roundw
      case rel =>
        obtain ⟨q1, q2, q3⟩ := HB.out
        have hs : Fr [bb] wr (wr.setCell ⟨bb, i, none⟩ (.int .u8 120)) := (Fr.refl _ _).setCell (.inl (by simp)) _
        refine ⟨i + 1, by go_num, by omega, ?_, ?_, q3.trans' hs (fun b hb => .inr (by simp at hb; omega))⟩
        · have := q1.put i (.int .u8 120)
          have e : (byteVals (xs_ z (i + 1))).toArray = (byteVals (xs_ z i)).toArray.setIfInBounds i (.int .u8 120) := by
            rw [← xs_set z i hlt]; simp [byteVals, List.map_set]
          rw [e]; exact this
        · obtain ⟨pA, pc, p1, p2⟩ := q2
          exact ⟨pA, pc, p1.fr hs (by simp; intro e; subst e; exact p1.ne_ q1 (by decide) rfl), own_keep p2 (fun g cs hg => hg.far (p := ⟨bb, i, none⟩) (hg.ne_ q1 (by decide)) _)⟩
      case measure => first | (simp [intOf]; done) | (simp [intOf]; omega)
    · obtain rfl : i = z := by omega
      have hxs : xs_ i i = List.replicate i 120 := by simp [xs_]
      rw [hxs] at hbk
      obtain ⟨s, hs⟩ : ∃ s, s = List.replicate i (120 : UInt8) := ⟨_, rfl⟩
      have hsl : s.length = i := by rw [hs]; simp
      rw [← hs] at hbk
      have hff := mtt_find (z := i) hm1 hk1 hkm
      have htt := mtt_takes (z := i) hm1 hk1 hkm
      rw [← hs] at hff htt
      have hbl := hbk.lt
      have HBY : Hid (Bytes wr (some ⟨bb, 0, none⟩) s) := Lib.hid (At.of_bk (n := i) hbk (by rw [← hsl]; simp [← byteVals_length s]))
      have HFD := Lib.hid (fdl_of (mtt_parse hm1 hk1 hkm) (mtt_size hk1 hkm))
      have HRC := Lib.hid hrc; have HFR := Lib.hid hfr; have HSL := Lib.hid hsl
      have hfind := find_at (w := wr) i 0 hsl _ hff hrc HFD.out HBY.out (Nat.le_refl _) (by intro a ha; injection ha with ha; subst ha; exact hbl) (by omega) (by omega)
      rw [show ((0 : Nat) : Int) = 0 from rfl] at hfind
      have HFI := Lib.hid hfind; have HTT := Lib.hid htt
      clear hfind hff htt hbk hrc hfr hxs hs hsl
      by_cases hmz : m ≤ i
      · rw [if_pos hmz] at HFI
        have hmzI : (m : Int) ≤ (i : Int) := by omega
        by_cases hzk : i ≤ k
        · have hzkI : (i : Int) ≤ (k : Int) := by omega
          have hmin : min i k = i := by omega
          have hminI : min (i : Int) (k : Int) = (i : Int) := by omega
          have hmB : ((i : Int) == min (i : Int) (k : Int)) = true := by rw [hminI]; simp
          rw [hmin] at HFI
          have hTk : takesS (progT (mtT m k)) s = true := by rw [HTT.out]; simp [hmz, hzk]
          have HTK := Lib.hid hTk
          clear hTk hmin
          go_upto_region 15 with (go_at_call 14; refine HFI.out.mono ?_; rintro e w7 ⟨rfl, hf⟩; have HF7 := Lib.hid (HFR.out.trans hf); have HR7 := Lib.hid (HRC.out.fr hf); have HB7 : Hid (Bytes w7 (some ⟨bb, 0, none⟩) s) := Lib.hid (HBY.out.fr hf (by simp)); have hs7 := hf.size; clear hf; simp only [found3])
          have htk := takes_at (w := w7) i HSL.out _ HTK.out HR7.out HFD.out HB7.out (Nat.le_refl _) (by intro a ha; injection ha with ha; subst ha; show bb < w7.heap.size; omega) (by omega)
          have HTKK := Lib.hid htk
          clear htk
          go_wp2_with (first
            | fail
            | (go_at_call 16; refine HTKK.out.mono ?_; rintro e w8 ⟨rfl, hf⟩; have HF8 := Lib.hid (HF7.out.trans hf); clear hf))
          go_ret
          exact ⟨by first | rfl | (simp [hmB]; done) | (simp [hminI]; done), HF8.out⟩
        · have hzkI : ¬ ((i : Int) ≤ (k : Int)) := by omega
          have hmin : min i k = k := by omega
          have hminI : min (i : Int) (k : Int) = (k : Int) := by omega
          have hmB : ((k : Int) == min (i : Int) (k : Int)) = true := by rw [hminI]; simp
          rw [hmin] at HFI
          have hTk : takesS (progT (mtT m k)) s = false := by rw [HTT.out]; simp [hzk]
          have HTK := Lib.hid hTk
          clear hTk hmin
          go_upto_region 15 with (go_at_call 14; refine HFI.out.mono ?_; rintro e w7 ⟨rfl, hf⟩; have HF7 := Lib.hid (HFR.out.trans hf); have HR7 := Lib.hid (HRC.out.fr hf); have HB7 : Hid (Bytes w7 (some ⟨bb, 0, none⟩) s) := Lib.hid (HBY.out.fr hf (by simp)); have hs7 := hf.size; clear hf; simp only [found3])
          have htk := takes_at (w := w7) i HSL.out _ HTK.out HR7.out HFD.out HB7.out (Nat.le_refl _) (by intro a ha; injection ha with ha; subst ha; show bb < w7.heap.size; omega) (by omega)
          have HTKK := Lib.hid htk
          clear htk
          go_wp2_with (first
            | fail
            | (go_at_call 16; refine HTKK.out.mono ?_; rintro e w8 ⟨rfl, hf⟩; have HF8 := Lib.hid (HF7.out.trans hf); clear hf))
          go_ret
          exact ⟨by first | rfl | (simp [hmB]; done) | (simp [hminI]; done), HF8.out⟩
      · rw [if_neg hmz] at HFI
        have hmzI : ¬ ((m : Int) ≤ (i : Int)) := by omega
        have hTk : takesS (progT (mtT m k)) s = false := by rw [HTT.out]; simp [hmz]
        have HTK := Lib.hid hTk
        clear hTk
        go_upto_region 15 with (go_at_call 14; refine HFI.out.mono ?_; rintro e w7 ⟨rfl, hf⟩; have HF7 := Lib.hid (HFR.out.trans hf); have HR7 := Lib.hid (HRC.out.fr hf); have HB7 : Hid (Bytes w7 (some ⟨bb, 0, none⟩) s) := Lib.hid (HBY.out.fr hf (by simp)); have hs7 := hf.size; clear hf; simp only [found3])
        have htk := takes_at (w := w7) i HSL.out _ HTK.out HR7.out HFD.out HB7.out (Nat.le_refl _) (by intro a ha; injection ha with ha; subst ha; show bb < w7.heap.size; omega) (by omega)
        have HTKK := Lib.hid htk
        clear htk
        go_wp2_with (first
          | fail
          | (go_at_call 16; refine HTKK.out.mono ?_; rintro e w8 ⟨rfl, hf⟩; have HF8 := Lib.hid (HF7.out.trans hf); clear hf))
        go_ret
        exact ⟨rfl, HF8.out⟩
set_option maxRecDepth 100000 in
theorem u8_of_ (n : Int) (h : (Lit.int .u8 n).wf = true) : ∃ c : Nat, c < 256 ∧ n = (c : Int) := by
  have h2 : 0 ≤ n ∧ n ≤ 255 := by (simp [Lit.wf, IntKind.min, IntKind.max, IntKind.signed, IntKind.bits] at h; omega)
  exact ⟨n.toNat, by omega, by omega⟩
set_option maxRecDepth 100000 in
theorem matchTimes_open {H : Type} {enc : TypeId × Value → H} (W : World) (base : Nat) (v0 : Value) (d0 : DataW H) (p0 : List MemPlace) (v1 : Value) (d1 : DataW H) (p1 : List MemPlace) (v2 : Value) (d2 : DataW H) (p2 : List MemPlace)
    (k0 : Value.okWide Try.prog W .any base 5 v0) (k1 : Value.okWide Try.prog W .any base 5 v1) (k2 : Value.okWide Try.prog W .any base 5 v2)
    (h0 : DataW.Trod enc Try.prog W 0 (fun _ => true) true 5 v0 d0 p0) (h1 : DataW.Trod enc Try.prog W 0 (fun _ => true) true 5 v1 d1 p1) (h2 : DataW.Trod enc Try.prog W 0 (fun _ => true) true 5 v2 d2 p2) (hg : GlobOk W) :
    Calls Try.prog 8 #[v0, v1, v2] W fun e W' => e = .returned (.bool true) ∧ Below W.heap.size W W' := by
  obtain ⟨n0, rfl, hn0⟩ := arg_int Try.underlying5 k0 h0
  obtain ⟨n1, rfl, hn1⟩ := arg_int Try.underlying5 k1 h1
  obtain ⟨n2, rfl, hn2⟩ := arg_int Try.underlying5 k2 h2
  obtain ⟨c0, hc0, rfl⟩ := u8_of_ n0 hn0
  obtain ⟨c1, hc1, rfl⟩ := u8_of_ n1 hn1
  obtain ⟨c2, hc2, rfl⟩ := u8_of_ n2 hn2
  exact (matchTimes_walk hg c0 c1 c2 hc0 hc1 hc2).mono fun e W' ⟨h1, h2⟩ => ⟨h1, h2.below_nil⟩
end Go.Proofs.Ytekfpipgcpkejaa
