/-
  The reference of tokens: quoted. No conditions but sizes. (Printed by a program of the prover's.)
-/
import Derived.Test.YtjfgopihfgljmaaDoorLr3
namespace Go.Proofs.YtjfgopihfgljmaaDoor
open Go.RowKit
set_option linter.unusedVariables false
set_option linter.unusedSimpArgs false

/-- A function whose one result lies in a variable returns. -/
theorem ret_row_ {P : Program} {fn : Func} {p : Tmp} {T : TypeId} (h : fn.results = #[.cell p T]) {R : Ending → World → Prop} {a : Act} {w : World} (g : Nat) (C : List Value) (d : TypeDesc) (hp : a.tmps.getD p undef = .pointer (some ⟨g, 0, none⟩))
    {t : TypeId} (hb : Bk w g t C.toArray) (hu : P.underlying T = some d) (hd : d.isRow = true) (hi : (P.info? T).map (·.size) = some C.length) (hdf : a.defers = []) (hR : R (.returned (.agg C.toArray)) w) : bodyPost P fn R .ret a w :=
  bodyPost_ret (v := .agg C.toArray) (results_cell_row h _ _ g t C.toArray (0, 0) d hp hb hu (by cases d <;> simp_all [TypeDesc.isRow]) (by simpa using hi)) hdf hR
def textC : Option (List UInt8 × Nat) → List Value
  | none => [.string ⟨#[]⟩, .int .i64 0, .bool false]
  | some (o, p) => [.string ⟨o.toArray⟩, .int .i64 (p : Int), .bool true]
theorem text_size : (Tryd.prog.info? 64).map (·.size) = some 3 := by kernel_rfl
theorem drop_get {α : Type} {l : List α} {k : Nat} {x : α} (h : l[k]? = some x) : l.drop k = x :: l.drop (k + 1) := by
  obtain ⟨h1, h2⟩ := List.getElem?_eq_some_iff.1 h
  rw [List.drop_eq_getElem_cons h1, h2]
def signQ (str : Bool) : Nat := if str = true then 34 else 47
set_option maxRecDepth 100000 in
set_option maxHeartbeats 16000000 in
theorem rquoted_any (w : World) (s : List UInt8) (a : Nat) (str : Bool) (q : UInt8) (hq : s[a]? = some q) (hqv : q.toNat = signQ str) (hs : s.length ≤ 20000) :
    Calls Tryd.prog 19 #[.string ⟨s.toArray⟩, .int .i64 (a : Int), .bool str] w fun e w' => e = .returned (.agg (textC (quoR str (signQ str) [] (a + 1) (s.drop (a + 1)))).toArray) ∧ Fr [] w w' := by
  obtain ⟨TOT, hTOT⟩ : ∃ T, T = quoR str (signQ str) [] (a + 1) (s.drop (a + 1)) := ⟨_, rfl⟩
  rw [← hTOT]
  obtain ⟨S, hS⟩ : ∃ S, S = (⟨s.toArray⟩ : ByteArray) := ⟨_, rfl⟩
  obtain ⟨n, hn⟩ : ∃ n, n = s.length := ⟨_, rfl⟩
  have hs1 : S.size = n := by rw [hS, hn]; simp [ByteArray.size]
  obtain ⟨Q, hQ⟩ : ∃ Q, Q = signQ str := ⟨_, rfl⟩
  have ha : a < n := by rw [hn]; exact (List.getElem?_eq_some_iff.1 hq).1
  have hiq := str_ix (s := s) hq
  rw [← hS, hqv, ← hQ] at hiq
  rw [← hS]
  rw [← hn] at hs
  rw [← hQ] at hTOT
  have hQv : Q = 34 ∨ Q = 47 := by rw [hQ]; unfold signQ; split <;> simp
  have HS := Lib.hid hS; have HN := Lib.hid hn; have HTOT := Lib.hid hTOT; have HQ := Lib.hid hQ
  clear hS hn hTOT hq hqv hQ
  go_enter Tryd.func19, Tryd.ntmps19
  go_upto_region 1 with fail
  obtain ⟨g, hg⟩ : ∃ g, g = w.heap.size := ⟨_, rfl⟩
  obtain ⟨w1, hw1⟩ : ∃ w1, w1 = w.alloc (.cells #[.string ⟨#[]⟩, .int .i64 0, .bool false] 64) := ⟨_, rfl⟩
  have hb : Bk w1 g 64 #[.string ⟨#[]⟩, .int .i64 0, .bool false] := by rw [hw1, hg]; exact Bk.new w _ _
  have hf : Fr [] w w1 := by rw [hw1]; exact (Fr.refl [] w).alloc _
  rw [← hw1, ← hg]
  have HB := Lib.hid hb; have HF := Lib.hid hf; have HG := Lib.hid hg
  clear hw1 hb hf hg
  go_upto_region 4 with fail
  clear hiq
  go_loopw [8, 9, 10, 11, 12, 13] (fun v8 v9 v10 v11 v12 v13 wr => ∃ (i : Nat) (out : List UInt8), v9 = .int .i64 (i : Int) ∧ v8 = .string ⟨out.toArray⟩ ∧ i ≤ n ∧ out.length ≤ i ∧ quoR str Q out i (s.drop i) = TOT ∧ Fr [] w1 wr) (fun _ v9 _ _ _ _ _ => n + 1 - (intOf v9).toNat)
  case atStart => exact ⟨a + 1, [], by go_num, rfl, by omega, by simp, HTOT.out.symm, Fr.refl _ _⟩
  case round =>
    obtain ⟨i, out, rfl, rfl, hi, hol, heq, hfr⟩ := hrel
    obtain ⟨O, hO⟩ : ∃ O, O = (⟨out.toArray⟩ : ByteArray) := ⟨_, rfl⟩
    rw [← hO]
    have hos : O.size = out.length := by rw [hO]; simp [ByteArray.size]
    obtain ⟨ol, hol2⟩ : ∃ ol, ol = out.length := ⟨_, rfl⟩
    rw [← hol2] at hos hol
    have HO := Lib.hid hO; have HEQ := Lib.hid heq; have HFR := Lib.hid hfr; have HOL := Lib.hid hol2
    have HBR := Lib.hid (HB.out.fr hfr (by simp)); have HFW := Lib.hid (HF.out.trans hfr)
    clear hO heq hfr hol2
    rcases Nat.lt_or_ge i n with hin | hin
    · have hinI : (i : Int) < (n : Int) := by omega
      obtain ⟨c, hc⟩ : ∃ c, s[i]? = some c := ⟨_, List.getElem?_eq_getElem (by have := HN.out; omega)⟩
      have hix := str_ix (s := s) hc
      rw [← HS.out] at hix
      have hdr := drop_get hc
      obtain ⟨cn, hcn⟩ : ∃ cn : Nat, cn = c.toNat := ⟨_, rfl⟩
      have hcn1 : cn < 256 := by rw [hcn]; exact c.toNat_lt
      rw [← hcn] at hix
      have HE2 : Hid (quoR str Q out i (c :: s.drop (i + 1)) = TOT) := Lib.hid (by rw [← hdr]; exact HEQ.out)
      have HCN := Lib.hid hcn
      clear hdr hcn HEQ
      by_cases h10 : cn = 10
      · have g10a : ((cn : Int) == 10) = true := by first | (simp; done) | (simp; omega)
        have g10b : ((cn : Int) != 10) = false := by first | (simp; done) | (simp; omega)
        have HTN : Hid (TOT = none) := Lib.hid (by rw [← HE2.out]; exact quoR_nl (by rw [← HCN.out]; exact h10))
        clear hc h10
        have rlt := HBR.out.lt
        have rf0 := HBR.out.frozen 0; have rf1 := HBR.out.frozen 1; have rf2 := HBR.out.frozen 2
        have rc0 := HBR.out.cell_ (i := 0) rfl; have rc1 := HBR.out.cell_ (i := 1) rfl; have rc2 := HBR.out.cell_ (i := 2) rfl
        go_wp2_with fail
        have hbb : Bk (((wr.setCell ⟨g, 0, none⟩ (.string ⟨#[]⟩)).setCell ⟨g, 1, none⟩ (.int .i64 0)).setCell ⟨g, 2, none⟩ (.bool false)) g 64 (textC none).toArray := ((HBR.out.put 0 (.string ⟨#[]⟩)).put 1 (.int .i64 0)).put 2 (.bool false)
        refine ret_row_ (p := 6) (T := 64) rfl g (textC none) _ rfl hbb Tryd.underlying64 rfl text_size rfl ?_
        rw [HTN.out]
        exact ⟨rfl, ((HFW.out.setCell (.inr (Nat.le_of_eq HG.out.symm)) _).setCell (.inr (Nat.le_of_eq HG.out.symm)) _).setCell (.inr (Nat.le_of_eq HG.out.symm)) _⟩
      · have g10a : ((cn : Int) == 10) = false := by first | (simp; done) | (simp; omega)
        have g10b : ((cn : Int) != 10) = true := by first | (simp; done) | (simp; omega)
        by_cases hcq : cn = Q
        · have gqa : ((cn : Int) == (Q : Int)) = true := by first | (simp; done) | (simp; omega)
          have gqb : ((cn : Int) != (Q : Int)) = false := by first | (simp; done) | (simp; omega)
          have HTN : Hid (TOT = some (out, i + 1)) := Lib.hid (by rw [← HE2.out]; exact quoR_end (by rw [← HCN.out]; exact h10) (by rw [← HCN.out]; exact hcq))
          clear hc h10 hcq
          have rlt := HBR.out.lt
          have rf0 := HBR.out.frozen 0; have rf1 := HBR.out.frozen 1; have rf2 := HBR.out.frozen 2
          have rc0 := HBR.out.cell_ (i := 0) rfl; have rc1 := HBR.out.cell_ (i := 1) rfl; have rc2 := HBR.out.cell_ (i := 2) rfl
          go_wp2_with fail
          have hbb : Bk (((wr.setCell ⟨g, 0, none⟩ (.string O)).setCell ⟨g, 1, none⟩ (.int .i64 ((i : Int) + 1))).setCell ⟨g, 2, none⟩ (.bool true)) g 64 (textC (some (out, i + 1))).toArray := by
            have h := ((HBR.out.put 0 (.string O)).put 1 (.int .i64 ((i : Int) + 1))).put 2 (.bool true)
            have e : (textC (some (out, i + 1))).toArray = #[.string O, .int .i64 ((i : Int) + 1), .bool true] := by rw [HO.out]; simp [textC]
            rw [e]; exact h
          refine ret_row_ (p := 6) (T := 64) rfl g (textC (some (out, i + 1))) _ rfl hbb Tryd.underlying64 rfl text_size rfl ?_
          rw [HTN.out]
          exact ⟨rfl, ((HFW.out.setCell (.inr (Nat.le_of_eq HG.out.symm)) _).setCell (.inr (Nat.le_of_eq HG.out.symm)) _).setCell (.inr (Nat.le_of_eq HG.out.symm)) _⟩
        · have gqa : ((cn : Int) == (Q : Int)) = false := by first | (simp; done) | (simp; omega)
          have gqb : ((cn : Int) != (Q : Int)) = true := by first | (simp; done) | (simp; omega)
          by_cases h92 : cn = 92
          · have g92a : ((cn : Int) == 92) = true := by first | (simp; done) | (simp; omega)
            have g92b : ((cn : Int) != 92) = false := by first | (simp; done) | (simp; omega)
            rcases Nat.lt_or_ge (i + 1) n with hin2 | hin2
            · have hin2I : ¬ ((i : Int) + 1 ≥ (n : Int)) := by omega
              obtain ⟨d, hd⟩ : ∃ d, s[i + 1]? = some d := ⟨_, List.getElem?_eq_getElem (by have := HN.out; omega)⟩
              have hix2 := str_ix (s := s) hd
              rw [← HS.out] at hix2
              have hdr2 := drop_get hd
              obtain ⟨dn, hdn⟩ : ∃ dn : Nat, dn = d.toNat := ⟨_, rfl⟩
              have hdn1 : dn < 256 := by rw [hdn]; exact d.toNat_lt
              rw [← hdn] at hix2
              have hix2' : ∀ W, (Instr.index 9 (.string S) (.int .i64 ((i : Int) + 1))).run Tryd.prog W = .ok (.int .u8 (dn : Int)) W := fun W => by have h := hix2 W; simpa using h
              have HE3 : Hid (quoR str Q out i (c :: d :: s.drop (i + 2)) = TOT) := Lib.hid (by rw [← hdr2]; exact HE2.out)
              have HDN := Lib.hid hdn
              clear hdr2 hdn HE2 hix2
              by_cases hd10 : dn = 10
              · have d10a : ((dn : Int) == 10) = true := by first | (simp; done) | (simp; omega)
                have d10b : ((dn : Int) != 10) = false := by first | (simp; done) | (simp; omega)
                have HTN : Hid (TOT = none) := Lib.hid (by rw [← HE3.out]; exact quoR_cut (by omega) (by rw [← HCN.out]; exact h92) (.inr (by show d.toNat = 10; rw [← HDN.out]; exact hd10)))
                clear hc hd h10 hd10
                have rlt := HBR.out.lt
                have rf0 := HBR.out.frozen 0; have rf1 := HBR.out.frozen 1; have rf2 := HBR.out.frozen 2
                have rc0 := HBR.out.cell_ (i := 0) rfl; have rc1 := HBR.out.cell_ (i := 1) rfl; have rc2 := HBR.out.cell_ (i := 2) rfl
                go_wp2_with fail
                have hbb : Bk (((wr.setCell ⟨g, 0, none⟩ (.string ⟨#[]⟩)).setCell ⟨g, 1, none⟩ (.int .i64 0)).setCell ⟨g, 2, none⟩ (.bool false)) g 64 (textC none).toArray := ((HBR.out.put 0 (.string ⟨#[]⟩)).put 1 (.int .i64 0)).put 2 (.bool false)
                refine ret_row_ (p := 6) (T := 64) rfl g (textC none) _ rfl hbb Tryd.underlying64 rfl text_size rfl ?_
                rw [HTN.out]
                exact ⟨rfl, ((HFW.out.setCell (.inr (Nat.le_of_eq HG.out.symm)) _).setCell (.inr (Nat.le_of_eq HG.out.symm)) _).setCell (.inr (Nat.le_of_eq HG.out.symm)) _⟩
              · have d10a : ((dn : Int) == 10) = false := by first | (simp; done) | (simp; omega)
                have d10b : ((dn : Int) != 10) = true := by first | (simp; done) | (simp; omega)
                cases str with
                | false =>
                  have HQ47 : Hid (Q = 47) := Lib.hid HQ.out
                  have x1 := ext_one hd
                  have x2 : S.extract (i + 1) (i + 2) = ⟨[d].toArray⟩ := by rw [HS.out]; exact x1
                  have x0 : S.extract i (i + 1) = ⟨[c].toArray⟩ := by rw [HS.out]; exact ext_one hc
                  obtain ⟨X, hX⟩ : ∃ X, X = S.extract i (i + 1) := ⟨_, rfl⟩
                  obtain ⟨Y, hY⟩ : ∃ Y, Y = S.extract (i + 1) (i + 2) := ⟨_, rfl⟩
                  have hXs : X.size = 1 := by rw [hX, x0]; rfl
                  have hYs : Y.size = 1 := by rw [hY, x2]; rfl
                  by_cases hd47 : dn = Q
                  · have d47a : ((dn : Int) == (Q : Int)) = true := by first | (simp; done) | (simp; omega)
                    have d47b : ((dn : Int) != (Q : Int)) = false := by first | (simp; done) | (simp; omega)
                    have HRE : Hid (quoR false Q (out ++ [d]) (i + 2) (s.drop (i + 2)) = TOT) := Lib.hid (by have h := HE3.out; rw [HQ47.out] at h ⊢; rw [quoR_ere (by rw [← HCN.out]; exact h92) (by rw [← HDN.out]; exact hd10), if_pos (by rw [← HDN.out, hd47, HQ47.out])] at h; exact h)
                    have HCAT : Hid (O ++ Y = ⟨(out ++ [d]).toArray⟩) := Lib.hid (by rw [HO.out, hY, x2, ba_append])
                    have hno1 : ¬ 9223372036854775807 < O.size + Y.size := by omega
                    clear hc hd h10 hd10 hcq h92 hd47 x1 x2 x0 hX
                    rw [hY] at hYs hno1 HCAT
                    clear hY
                    go_wp2_with fail
                    go_roundw
                    case rel => exact ⟨i + 2, out ++ [d], by go_num, by rw [HCAT.out], by omega, by rw [List.length_append, ← HOL.out]; simp; omega, HRE.out, HFR.out⟩
                    case measure => first | (simp [intOf]; done) | (simp [intOf]; omega)
                  · have d47a : ((dn : Int) == (Q : Int)) = false := by first | (simp; done) | (simp; omega)
                    have d47b : ((dn : Int) != (Q : Int)) = true := by first | (simp; done) | (simp; omega)
                    have HRE : Hid (quoR false Q (out ++ [c] ++ [d]) (i + 2) (s.drop (i + 2)) = TOT) := Lib.hid (by have h := HE3.out; rw [HQ47.out] at h ⊢; rw [quoR_ere (by rw [← HCN.out]; exact h92) (by rw [← HDN.out]; exact hd10), if_neg (by rw [← HDN.out, ← HQ47.out]; exact hd47)] at h; rw [List.append_assoc]; exact h)
                    have HCAT : Hid (O ++ X ++ Y = ⟨(out ++ [c] ++ [d]).toArray⟩) := Lib.hid (by rw [HO.out, hX, x0, hY, x2, ba_append, ba_append])
                    have hOX : (O ++ X).size = ol + 1 := by rw [HO.out, hX, x0, ba_append, ba_size, HOL.out]; simp
                    have hno0 : ¬ 9223372036854775807 < O.size + X.size := by omega
                    have hno1 : ¬ 9223372036854775807 < (O ++ X).size + Y.size := by omega
                    clear hc hd h10 hd10 hcq h92 hd47 x1 x2 x0
                    rw [hY] at hYs hno1 HCAT
                    rw [hX] at hXs hno0 hno1 HCAT hOX
                    clear hY hX
                    go_wp2_with fail
                    go_roundw
                    case rel => exact ⟨i + 2, out ++ [c] ++ [d], by go_num, by rw [HCAT.out], by omega, by rw [List.length_append, List.length_append, ← HOL.out]; simp; omega, HRE.out, HFR.out⟩
                    case measure => first | (simp [intOf]; done) | (simp [intOf]; omega)
                | true =>
                  have HQ34 : Hid (Q = 34) := Lib.hid HQ.out
                  by_cases hoc : 48 ≤ dn ∧ dn ≤ 55
                  · have o1 : ¬ ((dn : Int) < 48) := by omega
                    have o2 : ¬ ((55 : Int) < (dn : Int)) := by omega
                    have HOM : Hid (octM d = true) := Lib.hid (by unfold octM; rw [← HDN.out]; simp; omega)
                    have hr : s.drop (i + 1) = d :: s.drop (i + 2) := drop_get hd
                    obtain ⟨K, V, hKV⟩ : ∃ K V, octsM (s.drop (i + 1)) = (K, V) := ⟨_, _, rfl⟩
                    have HRE : Hid (quoR true Q (out ++ [UInt8.ofNat (V % 256)]) (i + 1 + K) (s.drop (i + 1 + K)) = TOT) := Lib.hid (by
                      have h := HE3.out
                      rw [HQ34.out] at h ⊢
                      rw [quoR_oct (by rw [← HCN.out]; exact h92) HOM.out, ← hr, hKV, List.drop_drop] at h
                      exact h)
                    have HKV : Hid (octsF 3 0 0 (s.drop (i + 1)) = (K, V)) := Lib.hid hKV
                    clear hc hd h10 hd10 hcq h92 hr hKV hoc
                    go_upto_region 24 with fail
                    go_loopw [12, 13] (fun v12 v13 wq => ∃ (k v : Nat), v13 = .int .i64 (k : Int) ∧ v12 = .int .i64 (v : Int) ∧ k ≤ 3 ∧ i + 1 + k ≤ n ∧ ((k = 0 → v = 0) ∧ (k = 1 → v < 8) ∧ (k = 2 → v < 64) ∧ (k = 3 → v < 512)) ∧ octsF (3 - k) v k (s.drop (i + 1 + k)) = (K, V) ∧ wq = wr) (fun _ v13 _ => 4 - (intOf v13).toNat)
                    case atStart => exact ⟨0, 0, rfl, rfl, by omega, by omega, ⟨fun _ => rfl, fun h => by omega, fun h => by omega, fun h => by omega⟩, HKV.out, rfl⟩
                    case round =>
                      obtain ⟨k, v, rfl, rfl, hk3, hkn, hv, hoe, rfl⟩ := hrel
                      have hvb : v < 512 := by omega
                      by_cases hk : k < 3
                      · have hkI : (k : Int) < 3 := by omega
                        obtain ⟨b, hb⟩ : ∃ b, 3 - k = b + 1 := ⟨2 - k, by omega⟩
                        rw [hb] at hoe
                        rcases Nat.lt_or_ge (i + 1 + k) n with hn2 | hn2
                        · have hnI : (i : Int) + 1 + (k : Int) < (n : Int) := by omega
                          obtain ⟨f, hf⟩ : ∃ f, s[i + 1 + k]? = some f := ⟨_, List.getElem?_eq_getElem (by have := HN.out; omega)⟩
                          have hixf := str_ix (s := s) hf
                          rw [← HS.out] at hixf
                          rw [drop_get hf, octsF] at hoe
                          obtain ⟨fn, hfn⟩ : ∃ fn : Nat, fn = f.toNat := ⟨_, rfl⟩
                          have hfn1 : fn < 256 := by rw [hfn]; exact f.toNat_lt
                          rw [← hfn] at hixf
                          have hixf' : ∀ W, (Instr.index 9 (.string S) (.int .i64 ((i : Int) + 1 + (k : Int)))).run Tryd.prog W = .ok (.int .u8 (fn : Int)) W := fun W => by have h := hixf W; simpa using h
                          have hoF : octM f = (decide (48 ≤ fn) && decide (fn ≤ 55)) := by unfold octM; rw [hfn]
                          rw [hoF, ← hfn] at hoe
                          clear hixf hf hfn hoF
                          by_cases h48 : 48 ≤ fn
                          · have f48 : (48 : Int) ≤ (fn : Int) := by omega
                            by_cases h55 : fn ≤ 55
                            · have f55 : (fn : Int) ≤ 55 := by omega
                              rw [if_pos (by simp [h48, h55])] at hoe
                              have HOE := Lib.hid hoe
                              clear hoe
                              go_wp2_with fail
                              go_roundw
                              case rel =>
                                refine ⟨k + 1, v * 8 + (fn - 48), by go_num, by go_num, by omega, by omega, by omega, ?_, trivial⟩
                                have h := HOE.out
                                rw [show 3 - (k + 1) = b by omega, show i + 1 + (k + 1) = i + 1 + k + 1 by omega]; exact h
                              case measure => first | (simp [intOf]; done) | (simp [intOf]; omega)
                            · have f55 : ¬ ((fn : Int) ≤ 55) := by omega
                              rw [if_neg (by simp; omega)] at hoe
                              injection hoe with hK hV
                              subst hK hV
                              obtain ⟨ev, hev⟩ : ∃ ev, ev = UInt8.ofNat (v % 256) := ⟨_, rfl⟩
                              obtain ⟨en, hen⟩ : ∃ en : Nat, en = v % 256 := ⟨_, rfl⟩
                              have hen1 : en < 256 := by omega
                              have hevn : ev.toNat = en := by rw [hev, ← hen]; simp [Nat.mod_eq_of_lt hen1]
                              have henI : (v : Int) % 256 = (en : Int) := by rw [hen]; simp
                              have henT : (v : Int).tmod 256 = (en : Int) := by rw [Int.tmod_eq_emod_of_nonneg (by omega)]; exact henI
                              have HR2 : Hid (quoR true Q (out ++ [ev]) (i + 1 + k) (s.drop (i + 1 + k)) = TOT) := Lib.hid (by rw [hev]; exact HRE.out)
                              obtain ⟨E, hE⟩ : ∃ E, E = (⟨[ev].toArray⟩ : ByteArray) := ⟨_, rfl⟩
                              have hes : E.size = 1 := by rw [hE]; rfl
                              have HCAT : Hid (O ++ E = ⟨(out ++ [ev]).toArray⟩) := Lib.hid (by rw [HO.out, hE, ba_append])
                              have hnov : ¬ 9223372036854775807 < O.size + E.size := by omega
                              have HBY : Hid (∀ W : World, Bytes (W.alloc (.cells #[.int .u8 (en : Int)] 5)) (some ⟨W.heap.size, 0, none⟩) [ev]) := Lib.hid (fun W => by rw [← hevn]; exact bytes_new1 W [ev])
                              have HEE := Lib.hid hE
                              clear hev hen hevn hE
                              go_wp2_with (refine wpList_str rfl 22 9 (.tmp 149) rfl 5 Tryd.underlying22 Tryd.underlying5 Tryd.underlying9 (some ⟨wr.heap.size, 0, none⟩) 1 1 (by first | rfl | (simp [Act.eval]; done)) [ev] (HBY.out _) (by rfl) ?_)
                              go_roundw
                              case rel => exact ⟨i + 1 + k, out ++ [ev], by go_num, by rw [← HCAT.out, HEE.out], by omega, by rw [List.length_append, ← HOL.out]; simp; omega, HR2.out, HFR.out.alloc _⟩
                              case measure => first | (simp [intOf]; done) | (simp [intOf]; omega)
                          · have f48 : ¬ ((48 : Int) ≤ (fn : Int)) := by omega
                            rw [if_neg (by simp; omega)] at hoe
                            injection hoe with hK hV
                            subst hK hV
                            obtain ⟨ev, hev⟩ : ∃ ev, ev = UInt8.ofNat (v % 256) := ⟨_, rfl⟩
                            obtain ⟨en, hen⟩ : ∃ en : Nat, en = v % 256 := ⟨_, rfl⟩
                            have hen1 : en < 256 := by omega
                            have hevn : ev.toNat = en := by rw [hev, ← hen]; simp [Nat.mod_eq_of_lt hen1]
                            have henI : (v : Int) % 256 = (en : Int) := by rw [hen]; simp
                            have henT : (v : Int).tmod 256 = (en : Int) := by rw [Int.tmod_eq_emod_of_nonneg (by omega)]; exact henI
                            have HR2 : Hid (quoR true Q (out ++ [ev]) (i + 1 + k) (s.drop (i + 1 + k)) = TOT) := Lib.hid (by rw [hev]; exact HRE.out)
                            obtain ⟨E, hE⟩ : ∃ E, E = (⟨[ev].toArray⟩ : ByteArray) := ⟨_, rfl⟩
                            have hes : E.size = 1 := by rw [hE]; rfl
                            have HCAT : Hid (O ++ E = ⟨(out ++ [ev]).toArray⟩) := Lib.hid (by rw [HO.out, hE, ba_append])
                            have hnov : ¬ 9223372036854775807 < O.size + E.size := by omega
                            have HBY : Hid (∀ W : World, Bytes (W.alloc (.cells #[.int .u8 (en : Int)] 5)) (some ⟨W.heap.size, 0, none⟩) [ev]) := Lib.hid (fun W => by rw [← hevn]; exact bytes_new1 W [ev])
                            have HEE := Lib.hid hE
                            clear hev hen hevn hE
                            go_wp2_with (refine wpList_str rfl 22 9 (.tmp 149) rfl 5 Tryd.underlying22 Tryd.underlying5 Tryd.underlying9 (some ⟨wr.heap.size, 0, none⟩) 1 1 (by first | rfl | (simp [Act.eval]; done)) [ev] (HBY.out _) (by rfl) ?_)
                            go_roundw
                            case rel => exact ⟨i + 1 + k, out ++ [ev], by go_num, by rw [← HCAT.out, HEE.out], by omega, by rw [List.length_append, ← HOL.out]; simp; omega, HR2.out, HFR.out.alloc _⟩
                            case measure => first | (simp [intOf]; done) | (simp [intOf]; omega)
                        · have hnI : ¬ ((i : Int) + 1 + (k : Int) < (n : Int)) := by omega
                          rw [List.drop_of_length_le (by rw [← HN.out]; exact hn2), octsF] at hoe
                          injection hoe with hK hV
                          subst hK hV
                          obtain ⟨ev, hev⟩ : ∃ ev, ev = UInt8.ofNat (v % 256) := ⟨_, rfl⟩
                          obtain ⟨en, hen⟩ : ∃ en : Nat, en = v % 256 := ⟨_, rfl⟩
                          have hen1 : en < 256 := by omega
                          have hevn : ev.toNat = en := by rw [hev, ← hen]; simp [Nat.mod_eq_of_lt hen1]
                          have henI : (v : Int) % 256 = (en : Int) := by rw [hen]; simp
                          have henT : (v : Int).tmod 256 = (en : Int) := by rw [Int.tmod_eq_emod_of_nonneg (by omega)]; exact henI
                          have HR2 : Hid (quoR true Q (out ++ [ev]) (i + 1 + k) (s.drop (i + 1 + k)) = TOT) := Lib.hid (by rw [hev]; exact HRE.out)
                          obtain ⟨E, hE⟩ : ∃ E, E = (⟨[ev].toArray⟩ : ByteArray) := ⟨_, rfl⟩
                          have hes : E.size = 1 := by rw [hE]; rfl
                          have HCAT : Hid (O ++ E = ⟨(out ++ [ev]).toArray⟩) := Lib.hid (by rw [HO.out, hE, ba_append])
                          have hnov : ¬ 9223372036854775807 < O.size + E.size := by omega
                          have HBY : Hid (∀ W : World, Bytes (W.alloc (.cells #[.int .u8 (en : Int)] 5)) (some ⟨W.heap.size, 0, none⟩) [ev]) := Lib.hid (fun W => by rw [← hevn]; exact bytes_new1 W [ev])
                          have HEE := Lib.hid hE
                          clear hev hen hevn hE
                          go_wp2_with (refine wpList_str rfl 22 9 (.tmp 149) rfl 5 Tryd.underlying22 Tryd.underlying5 Tryd.underlying9 (some ⟨wr.heap.size, 0, none⟩) 1 1 (by first | rfl | (simp [Act.eval]; done)) [ev] (HBY.out _) (by rfl) ?_)
                          go_roundw
                          case rel => exact ⟨i + 1 + k, out ++ [ev], by go_num, by rw [← HCAT.out, HEE.out], by omega, by rw [List.length_append, ← HOL.out]; simp; omega, HR2.out, HFR.out.alloc _⟩
                          case measure => first | (simp [intOf]; done) | (simp [intOf]; omega)
                      · have hkI : ¬ ((k : Int) < 3) := by omega
                        have hb0 : 3 - k = 0 := by omega
                        have hz : ∀ l, octsF 0 v k l = (k, v) := fun l => by cases l <;> rfl
                        rw [hb0, hz] at hoe
                        clear hz
                        injection hoe with hK hV
                        subst hK hV
                        obtain ⟨ev, hev⟩ : ∃ ev, ev = UInt8.ofNat (v % 256) := ⟨_, rfl⟩
                        obtain ⟨en, hen⟩ : ∃ en : Nat, en = v % 256 := ⟨_, rfl⟩
                        have hen1 : en < 256 := by omega
                        have hevn : ev.toNat = en := by rw [hev, ← hen]; simp [Nat.mod_eq_of_lt hen1]
                        have henI : (v : Int) % 256 = (en : Int) := by rw [hen]; simp
                        have henT : (v : Int).tmod 256 = (en : Int) := by rw [Int.tmod_eq_emod_of_nonneg (by omega)]; exact henI
                        have HR2 : Hid (quoR true Q (out ++ [ev]) (i + 1 + k) (s.drop (i + 1 + k)) = TOT) := Lib.hid (by rw [hev]; exact HRE.out)
                        obtain ⟨E, hE⟩ : ∃ E, E = (⟨[ev].toArray⟩ : ByteArray) := ⟨_, rfl⟩
                        have hes : E.size = 1 := by rw [hE]; rfl
                        have HCAT : Hid (O ++ E = ⟨(out ++ [ev]).toArray⟩) := Lib.hid (by rw [HO.out, hE, ba_append])
                        have hnov : ¬ 9223372036854775807 < O.size + E.size := by omega
                        have HBY : Hid (∀ W : World, Bytes (W.alloc (.cells #[.int .u8 (en : Int)] 5)) (some ⟨W.heap.size, 0, none⟩) [ev]) := Lib.hid (fun W => by rw [← hevn]; exact bytes_new1 W [ev])
                        have HEE := Lib.hid hE
                        clear hev hen hevn hE
                        go_wp2_with (refine wpList_str rfl 22 9 (.tmp 149) rfl 5 Tryd.underlying22 Tryd.underlying5 Tryd.underlying9 (some ⟨wr.heap.size, 0, none⟩) 1 1 (by first | rfl | (simp [Act.eval]; done)) [ev] (HBY.out _) (by rfl) ?_)
                        go_roundw
                        case rel => exact ⟨i + 1 + k, out ++ [ev], by go_num, by rw [← HCAT.out, HEE.out], by omega, by rw [List.length_append, ← HOL.out]; simp; omega, HR2.out, HFR.out.alloc _⟩
                        case measure => first | (simp [intOf]; done) | (simp [intOf]; omega)
                  · have HOM : Hid (octM d = false) := Lib.hid (by unfold octM; rw [← HDN.out]; simp; omega)
                    obtain ⟨ev, hev⟩ : ∃ ev, ev = UInt8.ofNat (escM dn) := ⟨_, rfl⟩
                    obtain ⟨en, hen⟩ : ∃ en : Nat, en = escM dn := ⟨_, rfl⟩
                    have hen1 : en < 256 := by rw [hen]; unfold escM; (repeat' split) <;> omega
                    have hevn : ev.toNat = en := by rw [hev, ← hen]; simp [Nat.mod_eq_of_lt hen1]
                    have HES : Hid (∀ W : World, Calls Tryd.prog 39 #[.int .u8 (dn : Int)] W fun e w' => e = .returned (.int .u8 (en : Int)) ∧ W = w') := Lib.hid (fun W => by rw [hen]; exact resc_any dn hdn1 W)
                    have HRE : Hid (quoR true Q (out ++ [ev]) (i + 2) (s.drop (i + 2)) = TOT) := Lib.hid (by have h := HE3.out; rw [HQ34.out] at h ⊢; rw [quoR_esc (by rw [← HCN.out]; exact h92) (by rw [← HDN.out]; exact hd10) HOM.out, ← HDN.out, ← hev] at h; exact h)
                    obtain ⟨E, hE⟩ : ∃ E, E = (⟨[ev].toArray⟩ : ByteArray) := ⟨_, rfl⟩
                    have hes : E.size = 1 := by rw [hE]; rfl
                    have HCAT : Hid (O ++ E = ⟨(out ++ [ev]).toArray⟩) := Lib.hid (by rw [HO.out, hE, ba_append])
                    have hnov : ¬ 9223372036854775807 < O.size + E.size := by omega
                    have HBY : Hid (∀ W : World, Bytes (W.alloc (.cells #[.int .u8 (en : Int)] 5)) (some ⟨W.heap.size, 0, none⟩) [ev]) := Lib.hid (fun W => by rw [← hevn]; exact bytes_new1 W [ev])
                    have HEE := Lib.hid hE
                    have hoc2 : dn < 48 ∨ (48 ≤ dn ∧ 55 < dn) := by omega
                    clear hc hd h10 hd10 hcq h92 hev hen hevn hE hoc
                    rcases hoc2 with ho | ⟨ho1, ho2⟩
                    · have o1 : (dn : Int) < 48 := by omega
                      clear ho
                      obtain ⟨wq, hwq⟩ : ∃ wq, wq = wr := ⟨_, rfl⟩
                      rw [← hwq]
                      have HFQ : Hid (Fr [] w1 wq) := Lib.hid (by rw [hwq]; exact HFR.out)
                      clear hwq
                      go_wp2_with (first
                        | (go_at_call 39; refine (HES.out _).mono ?_; rintro e w3 ⟨rfl, rfl⟩)
                        | (refine wpList_str rfl 22 9 (.tmp 98) rfl 5 Tryd.underlying22 Tryd.underlying5 Tryd.underlying9 (some ⟨wq.heap.size, 0, none⟩) 1 1 (by first | rfl | (simp [Act.eval]; done)) [ev] (HBY.out _) (by rfl) ?_))
                      go_roundw
                      case rel => exact ⟨i + 2, out ++ [ev], by go_num, by rw [← HCAT.out, HEE.out], by omega, by rw [List.length_append, ← HOL.out]; simp; omega, HRE.out, HFQ.out.alloc _⟩
                      case measure => first | (simp [intOf]; done) | (simp [intOf]; omega)
                    · have o1 : ¬ ((dn : Int) < 48) := by omega
                      have o2 : (55 : Int) < (dn : Int) := by omega
                      clear ho1 ho2
                      obtain ⟨wq, hwq⟩ : ∃ wq, wq = wr := ⟨_, rfl⟩
                      rw [← hwq]
                      have HFQ : Hid (Fr [] w1 wq) := Lib.hid (by rw [hwq]; exact HFR.out)
                      clear hwq
                      go_wp2_with (first
                        | (go_at_call 39; refine (HES.out _).mono ?_; rintro e w3 ⟨rfl, rfl⟩)
                        | (refine wpList_str rfl 22 9 (.tmp 98) rfl 5 Tryd.underlying22 Tryd.underlying5 Tryd.underlying9 (some ⟨wq.heap.size, 0, none⟩) 1 1 (by first | rfl | (simp [Act.eval]; done)) [ev] (HBY.out _) (by rfl) ?_))
                      go_roundw
                      case rel => exact ⟨i + 2, out ++ [ev], by go_num, by rw [← HCAT.out, HEE.out], by omega, by rw [List.length_append, ← HOL.out]; simp; omega, HRE.out, HFQ.out.alloc _⟩
                      case measure => first | (simp [intOf]; done) | (simp [intOf]; omega)
            · have hin2I : (i : Int) + 1 ≥ (n : Int) := by omega
              have HTN : Hid (TOT = none) := Lib.hid (by rw [← HE2.out]; exact quoR_cut (by omega) (by rw [← HCN.out]; exact h92) (.inl (List.drop_of_length_le (by rw [← HN.out]; exact hin2))))
              clear hc h10
              have rlt := HBR.out.lt
              have rf0 := HBR.out.frozen 0; have rf1 := HBR.out.frozen 1; have rf2 := HBR.out.frozen 2
              have rc0 := HBR.out.cell_ (i := 0) rfl; have rc1 := HBR.out.cell_ (i := 1) rfl; have rc2 := HBR.out.cell_ (i := 2) rfl
              go_wp2_with fail
              have hbb : Bk (((wr.setCell ⟨g, 0, none⟩ (.string ⟨#[]⟩)).setCell ⟨g, 1, none⟩ (.int .i64 0)).setCell ⟨g, 2, none⟩ (.bool false)) g 64 (textC none).toArray := ((HBR.out.put 0 (.string ⟨#[]⟩)).put 1 (.int .i64 0)).put 2 (.bool false)
              refine ret_row_ (p := 6) (T := 64) rfl g (textC none) _ rfl hbb Tryd.underlying64 rfl text_size rfl ?_
              rw [HTN.out]
              exact ⟨rfl, ((HFW.out.setCell (.inr (Nat.le_of_eq HG.out.symm)) _).setCell (.inr (Nat.le_of_eq HG.out.symm)) _).setCell (.inr (Nat.le_of_eq HG.out.symm)) _⟩
          · have g92a : ((cn : Int) == 92) = false := by first | (simp; done) | (simp; omega)
            have g92b : ((cn : Int) != 92) = true := by first | (simp; done) | (simp; omega)
            have HRE : Hid (quoR str Q (out ++ [c]) (i + 1) (s.drop (i + 1)) = TOT) := Lib.hid (by have h := HE2.out; rw [quoR_plain (by rw [← HCN.out]; exact h10) (by rw [← HCN.out]; exact hcq) (by rw [← HCN.out]; exact h92)] at h; exact h)
            have x0 : S.extract i (i + 1) = ⟨[c].toArray⟩ := by rw [HS.out]; exact ext_one hc
            have hXs : (S.extract i (i + 1)).size = 1 := by rw [x0]; rfl
            have HCAT : Hid (O ++ S.extract i (i + 1) = ⟨(out ++ [c]).toArray⟩) := Lib.hid (by rw [HO.out, x0, ba_append])
            have hno1 : ¬ 9223372036854775807 < O.size + (S.extract i (i + 1)).size := by omega
            clear hc h10 hcq h92 x0
            go_wp2_with fail
            go_roundw
            case rel => exact ⟨i + 1, out ++ [c], by go_num, by rw [HCAT.out], by omega, by rw [List.length_append, ← HOL.out]; simp; omega, HRE.out, HFR.out⟩
            case measure => first | (simp [intOf]; done) | (simp [intOf]; omega)
    · have hinI : ¬ ((i : Int) < (n : Int)) := by omega
      have hdn : s.drop i = [] := List.drop_of_length_le (by rw [← HN.out]; exact hin)
      have HTN : Hid (TOT = none) := Lib.hid (by rw [← HEQ.out, hdn]; exact quoR_nil _ _ _ _)
      clear hdn
      have rlt := HBR.out.lt
      have rf0 := HBR.out.frozen 0; have rf1 := HBR.out.frozen 1; have rf2 := HBR.out.frozen 2
      have rc0 := HBR.out.cell_ (i := 0) rfl; have rc1 := HBR.out.cell_ (i := 1) rfl; have rc2 := HBR.out.cell_ (i := 2) rfl
      go_wp2_with fail
      have hbb : Bk (((wr.setCell ⟨g, 0, none⟩ (.string ⟨#[]⟩)).setCell ⟨g, 1, none⟩ (.int .i64 0)).setCell ⟨g, 2, none⟩ (.bool false)) g 64 (textC none).toArray := ((HBR.out.put 0 (.string ⟨#[]⟩)).put 1 (.int .i64 0)).put 2 (.bool false)
      refine ret_row_ (p := 6) (T := 64) rfl g (textC none) _ rfl hbb Tryd.underlying64 rfl text_size rfl ?_
      rw [HTN.out]
      exact ⟨rfl, ((HFW.out.setCell (.inr (Nat.le_of_eq HG.out.symm)) _).setCell (.inr (Nat.le_of_eq HG.out.symm)) _).setCell (.inr (Nat.le_of_eq HG.out.symm)) _⟩
end Go.Proofs.YtjfgopihfgljmaaDoor
