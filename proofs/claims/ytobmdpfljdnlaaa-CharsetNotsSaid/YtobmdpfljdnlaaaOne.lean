/-
  CharsetOne: the walk. No conditions.
-/
import Derived.Test.YtobmdpfljdnlaaaAwake
import Derived.Test.YtobmdpfljdnlaaaRead
import Derived.BigQuiet
import Derived.Deep.RegionHeld3
import Derived.Laws.StructEq
import Derived.Laws.Tables
import Derived.Laws.Cover2
namespace Go.Proofs.Ytobmdpfljdnlaaa
open Go.RowKit Go.ChangeShapes Go.WideShapes Go.ChangeAt Go.Deep
set_option linter.unusedVariables false
set_option linter.unusedSimpArgs false

theorem ref_esc_110 (w : World) : Calls Try.prog 12 #[.int .u8 110] w fun e w' => e = .returned (.int .u8 10) ∧ w = w' := by
  go_enter Try.func12, Try.ntmps12
  go_wp2_with fail
  go_ret
  exact ⟨rfl, rfl⟩
theorem ref_esc_116 (w : World) : Calls Try.prog 12 #[.int .u8 116] w fun e w' => e = .returned (.int .u8 9) ∧ w = w' := by
  go_enter Try.func12, Try.ntmps12
  go_wp2_with fail
  go_ret
  exact ⟨rfl, rfl⟩
theorem ref_esc_114 (w : World) : Calls Try.prog 12 #[.int .u8 114] w fun e w' => e = .returned (.int .u8 13) ∧ w = w' := by
  go_enter Try.func12, Try.ntmps12
  go_wp2_with fail
  go_ret
  exact ⟨rfl, rfl⟩
theorem ref_esc_102 (w : World) : Calls Try.prog 12 #[.int .u8 102] w fun e w' => e = .returned (.int .u8 12) ∧ w = w' := by
  go_enter Try.func12, Try.ntmps12
  go_wp2_with fail
  go_ret
  exact ⟨rfl, rfl⟩
theorem ref_esc_118 (w : World) : Calls Try.prog 12 #[.int .u8 118] w fun e w' => e = .returned (.int .u8 11) ∧ w = w' := by
  go_enter Try.func12, Try.ntmps12
  go_wp2_with fail
  go_ret
  exact ⟨rfl, rfl⟩
theorem ref_esc_97 (w : World) : Calls Try.prog 12 #[.int .u8 97] w fun e w' => e = .returned (.int .u8 7) ∧ w = w' := by
  go_enter Try.func12, Try.ntmps12
  go_wp2_with fail
  go_ret
  exact ⟨rfl, rfl⟩
theorem ref_esc_98 (w : World) : Calls Try.prog 12 #[.int .u8 98] w fun e w' => e = .returned (.int .u8 8) ∧ w = w' := by
  go_enter Try.func12, Try.ntmps12
  go_wp2_with fail
  go_ret
  exact ⟨rfl, rfl⟩
theorem ref_esc_any (c : Nat) (hc : c < 256) (w : World) : Calls Try.prog 12 #[.int .u8 (c : Int)] w fun e w' => e = .returned (.int .u8 (escN c : Int)) ∧ w = w' := by
  by_cases h110 : c = 110
  · subst h110; exact ref_esc_110 w
  by_cases h116 : c = 116
  · subst h116; exact ref_esc_116 w
  by_cases h114 : c = 114
  · subst h114; exact ref_esc_114 w
  by_cases h102 : c = 102
  · subst h102; exact ref_esc_102 w
  by_cases h118 : c = 118
  · subst h118; exact ref_esc_118 w
  by_cases h97 : c = 97
  · subst h97; exact ref_esc_97 w
  by_cases h98 : c = 98
  · subst h98; exact ref_esc_98 w
  have e110 : ((c : Int) == 110) = false := by simp; omega
  have e116 : ((c : Int) == 116) = false := by simp; omega
  have e114 : ((c : Int) == 114) = false := by simp; omega
  have e102 : ((c : Int) == 102) = false := by simp; omega
  have e118 : ((c : Int) == 118) = false := by simp; omega
  have e97 : ((c : Int) == 97) = false := by simp; omega
  have e98 : ((c : Int) == 98) = false := by simp; omega
  have he : escN c = c := by unfold escN; simp [h110, h116, h114, h102, h118, h97, h98]
  rw [he]
  clear he h110 h116 h114 h102 h118 h97 h98
  go_enter Try.func12, Try.ntmps12
  go_wp2_with fail
  go_ret
  exact ⟨rfl, rfl⟩

theorem u8_of (n : Int) (h : (Lit.int .u8 n).wf = true) : ∃ c : UInt8, n = (c.toNat : Int) := by
  have h2 : 0 ≤ n ∧ n ≤ 255 := by (simp [Lit.wf, IntKind.min, IntKind.max, IntKind.signed, IntKind.bits] at h; omega)
  exact ⟨UInt8.ofNat n.toNat, by simp; omega⟩
theorem S4.or_empty (s : S4) : S4.empty.or s = s := by unfold S4.or S4.empty; simp
theorem br_one (c : UInt8) : bracketS [91, 92, c, 93] 0 = .ok (S4.range (escN c.toNat) (escN c.toNat), 4) := by
  have o1 : opensS [91, 92, c, 93] 1 = false := by unfold opensS bn; simp
  have s1 : singleS [91, 92, c, 93] 1 = some (escN c.toNat, 3) := by unfold singleS bn; simp
  have m1 : memberS [91, 92, c, 93] 1 = .ok (S4.range (escN c.toNat) (escN c.toNat), 3) := by unfold memberS; rw [o1, s1]; simp
  unfold bracketS
  rw [if_neg (by unfold bn; simp)]
  have b1 : brkL [91, 92, c, 93] (0 + 1) ([91, 92, c, 93].length + 1) (0 + 1) S4.empty = .ok (S4.range (escN c.toNat) (escN c.toNat), 3) := by
    show brkL [91, 92, c, 93] 1 5 1 S4.empty = _
    unfold brkL
    rw [if_pos (.inl rfl), m1]
    show brkL [91, 92, c, 93] 1 4 3 _ = _
    unfold brkL
    rw [if_neg (by unfold bn; simp), S4.or_empty]
  rw [b1]
  rfl
/-- The set of one byte has one. -/
theorem one_count : ∀ d : Fin 256, (S4.range d.val d.val).count = 1 := by decide +kernel
theorem one_mem (d : Nat) (h : d < 256) : (S4.range d d).mem d = true := by rw [S4.mem_range d d d h h h]; simp
theorem sep_one (w : World) (c : UInt8) : At (w.alloc (.cells #[.int .u8 91, .int .u8 92, .int .u8 (c.toNat : Int), .int .u8 93] 5)) (some ⟨w.heap.size, 0, none⟩) (byteVals [91, 92, c, 93]) :=
  At.of_bk (n := 4) (Bk.new w 5 #[.int .u8 91, .int .u8 92, .int .u8 (c.toNat : Int), .int .u8 93]) (by simp [byteVals])

theorem eqSet (a b c d a' b' c' d' : Int) (w : World) : (Op.equalIn 10000 25 (.agg #[.int .u64 a, .int .u64 b, .int .u64 c, .int .u64 d]) (.agg #[.int .u64 a', .int .u64 b', .int .u64 c', .int .u64 d'])).run Try.prog w = .ok (a == a' && b == b' && c == c' && d == d') w := by
  have u3 := Try.underlying23
  have a3 := Try.isAgg23
  have z3 := Try.sizeOf23
  rw [show (10000 : Nat) = 9999 + 1 from rfl, Op.equalIn]
  simp only [Sem.run_bind, run_underlying Try.underlying25, Result.andThen_ok]
  simp only [Std.Legacy.Range.forIn_eq_forIn_range', Std.Legacy.Range.size, Nat.sub_zero, Nat.add_sub_cancel, Nat.div_one, List.range'_succ, List.range'_zero, List.forIn_cons, List.forIn_nil]
  go_simp
  by_cases h1 : a = a' <;> by_cases h2 : b = b' <;> by_cases h3 : c = c' <;> by_cases h4 : d = d' <;> simp [h1, h2, h3, h4]
theorem eqSelf (s : S4) (w : World) : (Op.equalIn 10000 25 (.agg #[.int .u64 (s.a : Int), .int .u64 (s.b : Int), .int .u64 (s.c : Int), .int .u64 (s.d : Int)]) (.agg #[.int .u64 (s.a : Int), .int .u64 (s.b : Int), .int .u64 (s.c : Int), .int .u64 (s.d : Int)])).run Try.prog w = .ok true w := by
  rw [eqSet]; simp
def Keep (w W : World) (g : Nat) (R : S4) : Prop := Bk W g 25 R.cells ∧ Fr [] w W
theorem Keep.fr {w W W' : World} {g : Nat} {R : S4} (hf : Fr [] W W') (h : Keep w W g R) : Keep w W' g R := ⟨h.1.fr hf (by simp), h.2.trans hf⟩
theorem Keep.drew {w W : World} {g : Nat} {R : S4} (h : Keep w W g R) : Keep w W.drew g R := h.fr (Fr.refl [] W).drew
theorem keepS {w W : World} {g : Nat} {R : S4} (h : Keep w W g R) : W.cell? ⟨g, 0, none⟩ = some (.int .u64 (R.a : Int)) ∧ W.cell? ⟨g, 1, none⟩ = some (.int .u64 (R.b : Int)) ∧ W.cell? ⟨g, 2, none⟩ = some (.int .u64 (R.c : Int)) ∧ W.cell? ⟨g, 3, none⟩ = some (.int .u64 (R.d : Int)) ∧ Keep w W g R := ⟨h.1.cell_ rfl, h.1.cell_ rfl, h.1.cell_ rfl, h.1.cell_ rfl, h⟩
set_option maxRecDepth 100000 in
set_option maxHeartbeats 4000000 in
theorem one_walk {w : World} (hg : GlobOk w) (c : UInt8) : Calls Try.prog 6 #[.int .u8 (c.toNat : Int)] w fun e w' => e = .returned (.bool true) ∧ Fr [] w w' := by
  have hc : c.toNat < 256 := c.toNat_lt
  go_enter Try.func6, Try.ntmps6
  go_wp2_with fail
  go_at_call 8
  refine (awake_any hg).mono ?_
  rintro e w1 ⟨rfl, hf1⟩
  have HF1 := Lib.hid hf1; clear hf1
  go_wp2_with fail
  go_at_call 18
  refine (bracket_any (bs := [91, 92, c, 93]) (sep_one w1 c) 0 (by simp) (by simp) (by simp) (by simp) (by simp [maxLen]) ((hg.fr HF1.out).fr ((Fr.refl [] w1).alloc _)) rfl).mono ?_
  rintro e w2 hp
  rw [br_one] at hp
  obtain ⟨rfl, hf2⟩ := hp
  have HF2 := Lib.hid ((HF1.out.alloc _).trans hf2)
  clear hf2
  rw [show ((4 : Nat) : Int) = 4 from rfl]
  generalize hd : escN c.toNat = d
  have hd2 : d < 256 := by rw [← hd]; exact escN_lt hc
  have HD := Lib.hid hd; clear hd
  have hok := S4.range_ok d d
  have hcnt := one_count ⟨d, hd2⟩
  have hmem := one_mem d hd2
  dsimp only at hcnt
  generalize hR : S4.range d d = R at *
  have HR := Lib.hid hR; have HO := Lib.hid hok; have HC := Lib.hid hcnt; have HM := Lib.hid hmem; clear hR hok hcnt hmem
  unfold S4.val
  go_wp2_with fail
  go_at_call 12
  refine (ref_esc_any c.toNat hc _).mono ?_
  rintro e w3 ⟨rfl, rfl⟩
  rw [HD.out]
  go_wp2_with fail
  refine code_gen fun W hW => ?_
  have hk : Bk W w2.heap.size 25 R.cells := by rw [hW]; exact Bk.new w2 _ _
  have hf : Fr [] w W := by rw [hW]; exact HF2.out.alloc _
  clear hW
  have hK : Keep w W w2.heap.size R := ⟨hk, hf⟩
  obtain ⟨k0, k1, k2, k3, _⟩ := keepS hK
  clear hk hf
  have qS : ∀ V, (Op.equalIn 10000 25 (.agg #[.int .u64 (R.a : Int), .int .u64 (R.b : Int), .int .u64 (R.c : Int), .int .u64 (R.d : Int)]) (.agg #[.int .u64 (R.a : Int), .int .u64 (R.b : Int), .int .u64 (R.c : Int), .int .u64 (R.d : Int)])).run Try.prog V = .ok true V := fun V => eqSelf R V
  go_region_held3 (fun W' => W'.cell? ⟨w2.heap.size, 0, none⟩ = some (.int .u64 (R.a : Int)) ∧ W'.cell? ⟨w2.heap.size, 1, none⟩ = some (.int .u64 (R.b : Int)) ∧ W'.cell? ⟨w2.heap.size, 2, none⟩ = some (.int .u64 (R.c : Int)) ∧ W'.cell? ⟨w2.heap.size, 3, none⟩ = some (.int .u64 (R.d : Int)) ∧ Keep w W' w2.heap.size R)
    (first | exact keepS (by assumption) | exact keepS (Keep.drew (by assumption)) | ((try go_split_ands); first | exact keepS (by assumption) | exact keepS (Keep.drew (by assumption))) | go_keep)
    (first
      | (go_at_call 14; refine (range_any d d _ hd2 hd2).mono ?_; rintro e w4 ⟨rfl, hf4⟩; rw [HR.out]; (try go_split_ands); have hK4 := Keep.fr hf4 (by first | assumption | exact Keep.drew (by assumption)); clear hf4; unfold S4.val)
      | (go_at_call 17; refine (count_any R _ HO.out).mono ?_; rintro e w5 ⟨rfl, hf5⟩; rw [HC.out, show ((1 : Nat) : Int) = 1 from rfl]; (try go_split_ands); have hK5 := Keep.fr hf5 (by first | assumption | exact Keep.drew (by assumption)); clear hf5)
      | (go_at_call 13; refine (has_any R d _ hd2 HO.out).mono ?_; rintro e w6 ⟨rfl, hf6⟩; rw [HM.out]; (try go_split_ands); have hK6 := Keep.fr hf6 (by first | assumption | exact Keep.drew (by assumption)); clear hf6))
  go_wp2_with fail
  go_ret
  exact ⟨rfl, hK6.2⟩

theorem charsetOne_open {H : Type} {enc : TypeId × Value → H} (W : World) (base : Nat) (v0 : Value) (d0 : DataW H) (p0 : List MemPlace) (k0 : Value.okWide Try.prog W .any base 5 v0) (h0 : DataW.Trod enc Try.prog W 0 (fun _ => true) true 5 v0 d0 p0) (hg : GlobOk W) :
    Calls Try.prog 6 #[v0] W fun e W' => e = .returned (.bool true) ∧ Below W.heap.size W W' := by
  obtain ⟨n, rfl, hn⟩ := arg_int Try.underlying5 k0 h0
  obtain ⟨c, rfl⟩ := u8_of n hn
  exact (one_walk hg c).mono fun e W' ⟨h1, h2⟩ => ⟨h1, h2.below_nil⟩
end Go.Proofs.Ytobmdpfljdnlaaa
