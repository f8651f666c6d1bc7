/-
 Gc8, GcA: several small texts in one. No conditions.
-/
import Derived.Test.YtfbmogccmlikaaaGreatDoorGc7
import Derived.Test.YtfbmogccmlikaaaGreatDoorHKd
import Derived.Test.YtfbmogccmlikaaaGreatDoorRead
import Derived.LaidHandle
namespace Go.Proofs.YtfbmogccmlikaaaGreatDoor.G
open Go.RowKit
set_option linter.unusedVariables false
set_option linter.unusedSimpArgs false
theorem SepV.ptr {w : World} {k c : Int} {f : Value} {s : Sep} (h : SepV w k c f s) : ∃ p, f = .pointer p := by
 cases s with
 | para => exact ⟨none, h.2⟩
 | one x => exact ⟨none, h.2.2⟩
 | expr L =>
  obtain ⟨-, lo, fb, h2, -⟩ := h
  exact ⟨_, h2⟩
def NewC (w : World) (k : Int) (r : Option Sep) (e : Ending) (w' : World) : Prop := Fr [] w w' ∧ match r with
 | none => ∃ t u, e = .returned (.tuple #[.pointer none, .iface t u])
 | some s => ∃ q x, e = .returned (.tuple #[.pointer (some ⟨q, 0, none⟩), .nilIface]) ∧ CuR w' q x (.slice none 0 0) ∧ x.room = k ∧ x.bs = [] ∧ x.en = false ∧ SepV w' x.k x.c x.f s ∧ s.ok ∧ w.heap.size ≤ q
set_option maxRecDepth 100000 in
set_option maxHeartbeats 4000000 in
theorem rnew_g {w : World} (rs : List UInt8) (hl : rs.length ≤ 12) (hg : GlobOk w) (ht : ErrT w) (k : Int) (hk : 1 ≤ k ∧ k ≤ 65536) : Calls Tryz.prog 24 #[.string ⟨rs.toArray⟩, .int .i64 k] w (NewC w k (readS rs)) := by
 obtain ⟨PP, hPP⟩ : ∃ PP, PP = NewC w k (readS rs) := ⟨_, rfl⟩
 rw [← hPP]
 have t0 : decide (k < 1) = false := decide_eq_false (by omega)
 have t1 : decide (65536 < k) = false := decide_eq_false (by omega)
 have HRD := Lib.hid (read_any rs hl hg ht)
 have HP := Lib.hid hPP
 clear hPP hg ht
 go_enter Tryz.func24, Tryz.ntmps24
 go_wp2_with fail
 go_at_call 31
 refine HRD.out.mono ?_
 rintro e w2 ⟨hf, hp⟩
 have HF := Lib.hid hf; clear hf HRD
 cases hr : readS rs with
 | none =>
  rw [hr] at hp
  obtain ⟨t, u, rfl⟩ := hp
  have HR := Lib.hid hr
  clear hr
  go_wp2_with fail
  rw [HP.out, HR.out]
  exact ⟨HF.out.alloc _, t, u, rfl⟩
 | some s =>
  rw [hr] at hp
  obtain ⟨kk, c, f, rfl, hv, hs⟩ := hp
  obtain ⟨p, rfl⟩ := hv.ptr
  have HR := Lib.hid hr; have HV := Lib.hid hv; have HS := Lib.hid hs
  clear hr hv hs
  go_wp2_with fail
  rw [HP.out, HR.out]
  have hfa : Fr [] w2 ((w2.alloc (.cells #[.int .i64 kk, .int .u8 c, .pointer p] 62)).alloc (.cells (cuCells ⟨kk, c, .pointer p, k, [], false⟩ (.slice none 0 0)) 72)) := ((Fr.refl _ _).alloc _).alloc _
  refine ⟨HF.out.trans hfa, _, ⟨kk, c, .pointer p, k, [], false⟩, rfl, ⟨by have := Bk.new (w2.alloc (.cells #[.int .i64 kk, .int .u8 c, .pointer p] 62)) 72 (cuCells ⟨kk, c, .pointer p, k, [], false⟩ (.slice none 0 0)); rw [World.size_alloc] at this; exact this, Own.nil_ _ _⟩, rfl, rfl, rfl, HV.out.fr_nil hfa, HS.out, ?_⟩
  have := HF.out.size
  simp; omega
def NewG (w : World) (k lo hi room idle : Int) (r : Option Sep) (e : Ending) (w' : World) : Prop := Fr [] w w' ∧ match r with
 | none => ∃ t u, e = .returned (.tuple #[.pointer none, .iface t u])
 | some s => ∃ g q r x, e = .returned (.tuple #[.pointer (some ⟨g, 0, none⟩), .nilIface]) ∧ GCv w' w.heap.size g q r (.slice none 0 0) x s lo hi room [] false 0 0 0 0 idle ∧ x.room = k ∧ x.bs = [] ∧ x.en = false ∧ s.ok
def goodC (k lo hi room idle : Int) : Prop := (1 ≤ k ∧ k ≤ 4096) ∧ 0 ≤ lo ∧ lo < hi ∧ hi ≤ room ∧ room ≤ 65536 ∧ 0 ≤ idle ∧ idle ≤ 1048576
theorem good_or (k lo hi room idle : Int) : goodC k lo hi room idle ∨ K.badC k lo hi room idle := by
 unfold goodC K.badC
 omega
set_option maxRecDepth 100000 in
set_option maxHeartbeats 4000000 in
theorem cnew_g {w : World} (rs : List UInt8) (hl : rs.length ≤ 12) (hg : GlobOk w) (ht : ErrT w) (k lo hi room idle : Int) (h : goodC k lo hi room idle) :
    Calls Tryz.prog 7 #[.string ⟨rs.toArray⟩, .agg #[.int .i64 k, .int .i64 lo, .int .i64 hi, .int .i64 room, .int .i64 idle], .int .i64 0] w (NewG w k lo hi room idle (readS rs)) := by
 obtain ⟨PP, hPP⟩ : ∃ PP, PP = NewG w k lo hi room idle (readS rs) := ⟨_, rfl⟩
 rw [← hPP]
 obtain ⟨hk, hlo, hhi, hroom, hroom2, hidle, hidle2⟩ := h
 have t0 : decide (k < 1) = false := decide_eq_false (by omega)
 have t1 : decide (4096 < k) = false := decide_eq_false (by omega)
 have t2 : decide (idle < 0) = false := decide_eq_false (by omega)
 have t3 : decide (1048576 < idle) = false := decide_eq_false (by omega)
 have HP := Lib.hid hPP
 have HRN : Hid (∀ W, Fr [] w W → Calls Tryz.prog 24 #[.string ⟨rs.toArray⟩, .int .i64 k] W (NewC W k (readS rs))) := Lib.hid (fun W hW => rnew_g rs hl (hg.fr hW) (ht.fr hW) k (by omega))
 have HQN : Hid (∀ V, Calls Tryz.prog 22 #[.int .i64 lo, .int .i64 hi, .int .i64 room] V fun e w' => e = .returned (.pointer (some ⟨V.heap.size, 0, none⟩)) ∧ w' = V.alloc (.cells (GQ.qCells lo hi room none 0 0 false 0 0) 70)) := Lib.hid (fun V => GQ.new_yes lo hi room V (by omega) (by omega) (by omega) (by omega))
 clear hPP hg ht hlo hhi hroom hroom2 hidle hidle2 hk
 go_enter Tryz.func7, Tryz.ntmps7
 go_wp2_with fail
 go_at_call 22
 refine calls_gen fun V hV => ?_
 have hbx : Bk V w.heap.size 23 #[.int .i64 k, .int .i64 lo, .int .i64 hi, .int .i64 room, .int .i64 idle] := by rw [hV]; exact Bk.new _ _ _
 have hfV : Fr [] w V := by rw [hV]; exact (Fr.refl _ _).alloc _
 clear hV
 refine (HQN.out V).mono ?_
 rintro e w2 ⟨rfl, hw2⟩
 have hq : Bk w2 V.heap.size 70 (GQ.qCells lo hi room none 0 0 false 0 0) := by rw [hw2]; exact Bk.new V _ _
 have hf2 : Fr [] V w2 := by rw [hw2]; exact (Fr.refl _ _).alloc _
 have hbx2 := hbx.fr hf2 (by simp)
 have d0 := hbx2.cell_ (i := 0) rfl
 have d4 := hbx2.cell_ (i := 4) rfl
 have HQ := Lib.hid hq; have HF2 := Lib.hid (hfV.trans hf2); have HBX := Lib.hid hbx2
 have HVS := Lib.hid hfV.size
 obtain ⟨q, hqe⟩ : ∃ q, V.heap.size = q := ⟨_, rfl⟩
 rw [hqe] at HQ HVS ⊢
 clear hw2 hq hf2 hbx hbx2 hfV hqe
 go_wp2_with fail
 go_at_call 23
 refine (K.inTime_ok (by omega) w2).mono ?_
 rintro e w3 ⟨rfl, rfl⟩
 go_wp2_with fail
 go_at_call 24
 refine (HRN.out w2 HF2.out).mono ?_
 rintro e w3 ⟨hf3, hp⟩
 cases hr : readS rs with
 | none =>
  rw [hr] at hp
  obtain ⟨t, u, rfl⟩ := hp
  have HR := Lib.hid hr; have HF3 := Lib.hid (HF2.out.trans hf3)
  clear hr hf3 d0 d4
  go_wp2_with fail
  rw [HP.out, HR.out]
  exact ⟨HF3.out, t, u, rfl⟩
 | some s =>
  rw [hr] at hp
  obtain ⟨r, x, rfl, hcu, hx1, hx2, hx3, hv, hs, hrq⟩ := hp
  have HR := Lib.hid hr; have HF3 := Lib.hid (HF2.out.trans hf3); have HQ3 := Lib.hid (HQ.out.fr hf3 (by simp)); have HRS := Lib.hid (Nat.le_trans HF2.out.size hrq)
  have HCU := Lib.hid hcu; have HX := Lib.hid (And.intro hx1 (And.intro hx2 (And.intro hx3 hs))); have HV := Lib.hid hv
  have d4' := (HBX.out.fr hf3 (by simp)).cell_ (i := 4) rfl
  clear hr hf3 hrq d0 d4 HQ HF2 HBX hcu hx1 hx2 hx3 hv hs
  go_wp2_with fail
  rw [HP.out, HR.out]
  have hfn : Fr [] w3 (w3.alloc (.cells (K.cnCells q r 0 0 idle) 57)) := (Fr.refl _ _).alloc _
  refine ⟨HF3.out.trans hfn, w3.heap.size, q, r, x, rfl, { cn := Bk.new w3 _ _, cu := ⟨HCU.out.1.fr hfn (by simp), Own.nil_ _ _ |> fun h => by rw [OwnB, HX.out.2.1]; exact h⟩, qe := ⟨none, 0, HQ3.out.fr hfn (by simp), .inl rfl, by simp, by simp, fun _ => rfl, by simp, by simp⟩, sp := HV.out.fr_nil hfn, bg := HF3.out.size, bq := HVS.out, br := HRS.out, bv := fun k hk => by simp [Value.ownBlock] at hk }, HX.out⟩
end Go.Proofs.YtfbmogccmlikaaaGreatDoor.G
namespace Go.Proofs.YtfbmogccmlikaaaGreatDoor.G
open Go.ChangeShapes Go.WideShapes Go.ChangeAt Go.RowKit Go.Deep
set_option linter.unusedVariables false
set_option linter.unusedSimpArgs false
set_option maxRecDepth 100000
theorem et_name : Tryz.prog.globalNamed "errors.errorType" = some 0 := by kernel_rfl
theorem rt_name : (Tryz.prog.cutTypes.find? (·.1 == "internal/reflectlite.rtype")).map (·.2) = some 89 := by kernel_rfl
theorem one_row : ((List.range (323 - 100)).filter fun t => Tryz.prog.rowNamed t [101, 114, 114, 111, 114]) = [29] := by kernel_rfl
theorem types_n : Tryz.prog.types.size = 323 - 100 := by kernel_rfl
theorem errT_of_laid {W : World} (h : laidMetH Tryz.prog Rows.connBoundsRow.laid W) : ErrT W := by
 have h' : laidMet Tryz.prog [] W ∧ handlesMet Tryz.prog Rows.connBoundsRow.laid W := h
 obtain ⟨name, u, ty, e1, e2, e3, e4, e5⟩ := h'.2 _ (List.mem_singleton.2 rfl)
 have en : name = [101, 114, 114, 111, 114] := (Option.some.inj e1).symm
 subst en
 obtain rfl := Option.some.inj (rt_name.symm.trans e2)
 have hm : ty ∈ (List.range (323 - 100)).filter fun t => Tryz.prog.rowNamed t [101, 114, 114, 111, 114] := List.mem_filter.2 ⟨List.mem_range.2 (by rw [← types_n]; exact e3), e4⟩
 rw [one_row] at hm
 obtain rfl := List.mem_singleton.1 hm
 have hh : typeHandle Tryz.prog 29 = .pointer (some ⟨2, 29, none⟩) := by kernel_rfl
 rw [hh] at e5
 unfold ErrT
 simpa using World.var?_cell et_name e5 0
theorem errT_of_laidR {W : World} (h : laidMetH Tryz.prog Rows.connRecordsRow.laid W) : ErrT W := by
 have h' : laidMet Tryz.prog [] W ∧ handlesMet Tryz.prog Rows.connRecordsRow.laid W := h
 obtain ⟨name, u, ty, e1, e2, e3, e4, e5⟩ := h'.2 _ (List.mem_singleton.2 rfl)
 have en : name = [101, 114, 114, 111, 114] := (Option.some.inj e1).symm
 subst en
 obtain rfl := Option.some.inj (rt_name.symm.trans e2)
 have hm : ty ∈ (List.range (323 - 100)).filter fun t => Tryz.prog.rowNamed t [101, 114, 114, 111, 114] := List.mem_filter.2 ⟨List.mem_range.2 (by rw [← types_n]; exact e3), e4⟩
 rw [one_row] at hm
 obtain rfl := List.mem_singleton.1 hm
 have hh : typeHandle Tryz.prog 29 = .pointer (some ⟨2, 29, none⟩) := by kernel_rfl
 rw [hh] at e5
 unfold ErrT
 simpa using World.var?_cell et_name e5 0
theorem cfg_cells : Tryz.prog.cellsOf 23 = 5 := by kernel_rfl
theorem arg_cfg {H : Type} {enc : TypeId × Value → H} {w : World} {base base' : Nat} {spare : Nat → Bool} {held : Bool} {r : Reach} {v : Value} {d : DataW H} {p : List MemPlace}
    (hv : Value.okWide Tryz.prog w r base' 23 v) (h : DataW.Trod enc Tryz.prog w base spare held 23 v d p) : ∃ k lo hi room idle : Int, v = .agg #[.int .i64 k, .int .i64 lo, .int .i64 hi, .int .i64 room, .int .i64 idle] := by
 unfold Value.okWide at hv
 rw [Tryz.underlying23] at hv
 obtain ⟨cs, rfl, hsz, -⟩ := hv
 obtain ⟨_, hf⟩ := (Rd.of_trod h).struct_ Tryz.underlying23
 rw [cfg_cells] at hsz
 obtain ⟨a, b, c, e, f, rfl⟩ : ∃ a b c e f, cs = #[a, b, c, e, f] := by
  match cs, hsz with
  | ⟨[a, b, c, e, f]⟩, _ => exact ⟨a, b, c, e, f, rfl⟩
 obtain ⟨n0, e0, w0⟩ := (hf 0 _ rfl).int_ Tryz.underlying3
 obtain ⟨n1, e1, w1⟩ := (hf 1 _ rfl).int_ Tryz.underlying3
 obtain ⟨n2, e2, w2⟩ := (hf 2 _ rfl).int_ Tryz.underlying3
 obtain ⟨n3, e3, w3⟩ := (hf 3 _ rfl).int_ Tryz.underlying3
 obtain ⟨n4, e4, w4⟩ := (hf 4 _ rfl).int_ Tryz.underlying3
 simp [K.int_cells, Value.cells] at e0 e1 e2 e3 e4
 subst e0 e1 e2 e3 e4
 exact ⟨n0, n1, n2, n3, n4, rfl⟩
set_option maxRecDepth 100000 in
theorem acts_openG {H : Type} {enc : TypeId × Value → H} {w : World} {base base' : Nat} {spare : Nat → Bool} {held : Bool} {r : Reach} {v : Value} {d : DataW H} {p : List MemPlace}
    (hv : Value.okWide Tryz.prog w r base' 24 v) (h : DataW.Trod enc Tryz.prog w base spare held 24 v d p) :
    ∃ (A : Option Addr) (n c : Nat) (KK M N : Nat → Int) (BA : Nat → Option Addr) (BC : Nat → Nat) (BB : Nat → List UInt8) (F : Nat → Bool), v = .slice A n c ∧ n ≤ maxLen ∧ K.ActS w A n KK M N BA BC BB F ∧ ∀ i, i < n → (BB i).length ≤ BC i ∧ (BA i = none → BC i = 0) := by
 obtain ⟨A, n, c, rfl, h1, h2, h3, hi⟩ := arg_slice Tryz.underlying24 (by rw [K.act_cells]; omega) hv h
 rw [K.act_cells] at hi
 have hx : ∀ i, i < n → ∃ x : (Int × Int × Int × Bool) × (Option Addr × Nat × List UInt8), ∃ b off, A = some ⟨b, off, none⟩ ∧ b < w.heap.size ∧ w.cell? ⟨b, off + i * 5, none⟩ = some (.int .i64 x.1.1) ∧ w.cell? ⟨b, off + i * 5 + 1, none⟩ = some (.int .i64 x.1.2.1) ∧ w.cell? ⟨b, off + i * 5 + 2, none⟩ = some (.int .i64 x.1.2.2.1) ∧
     w.cell? ⟨b, off + i * 5 + 3, none⟩ = some (.slice x.2.1 x.2.2.2.length x.2.2.1) ∧ w.cell? ⟨b, off + i * 5 + 4, none⟩ = some (.bool x.1.2.2.2) ∧ Bytes w x.2.1 x.2.2.2 ∧ x.2.2.2.length ≤ maxLen ∧ x.2.2.2.length ≤ x.2.2.1 ∧ (x.2.1 = none → x.2.2.1 = 0) := by
  intro i hil
  obtain ⟨b, off, es, hA, hb, hel, hcell, hrd⟩ := hi i hil
  obtain ⟨_, hf⟩ := hrd.struct_ Tryz.underlying36
  match es, hel with
  | [e0, e1, e2, e3, e4], _ =>
   obtain ⟨k, hk, wk⟩ := (hf 0 _ rfl).int_ Tryz.underlying3
   obtain ⟨j, hj, wj⟩ := (hf 1 _ rfl).int_ Tryz.underlying3
   obtain ⟨m, hm, wm⟩ := (hf 2 _ rfl).int_ Tryz.underlying3
   obtain ⟨BA, BC, bs, hbs, g1, g2, g3, g4⟩ := (hf 3 _ rfl).bytes_ Tryz.underlying34 Tryz.underlying5 K.u8_cells
   obtain ⟨f, hfb⟩ := (hf 4 _ rfl).bool_ Tryz.underlying4
   simp [K.int_cells, K.bytes_cells, K.bool_cells] at hk hj hm hbs hfb
   subst hk hj hm hbs hfb
   exact ⟨((k, j, m, f), (BA, BC, bs)), b, off, hA, hb, hcell 0 (by omega), hcell 1 (by omega), hcell 2 (by omega), hcell 3 (by omega), hcell 4 (by omega), g4, Nat.le_trans g1 g2, g1, g3⟩
 obtain ⟨f, hf⟩ := choose_lt (α := (Int × Int × Int × Bool) × (Option Addr × Nat × List UInt8)) hx
 refine ⟨A, n, c, fun i => (f i).1.1, fun i => (f i).1.2.1, fun i => (f i).1.2.2.1, fun i => (f i).2.1, fun i => (f i).2.2.1, fun i => (f i).2.2.2, fun i => (f i).1.2.2.2, rfl, Nat.le_trans h1 h2, fun i hi => ?_, fun i hi => ?_⟩
 ·obtain ⟨b, off, q1, q2, q3, q4, q5, q6, q7, q8, q9, -⟩ := hf i hi
  exact ⟨b, off, q1, q2, q3, q4, q5, q6, q7, q8, q9⟩
 ·obtain ⟨b, off, -, -, -, -, -, -, -, -, -, q⟩ := hf i hi
  exact q
theorem arg_strL {H : Type} {enc : TypeId × Value → H} {w : World} {base base' : Nat} {spare : Nat → Bool} {held : Bool} {r : Reach} {v : Value} {d : DataW H} {p : List MemPlace}
    (hv : Value.okWide Tryz.prog w r base' 9 v) (h : DataW.Trod enc Tryz.prog w base spare held 9 v d p) : ∃ s : List UInt8, v = .string ⟨s.toArray⟩ ∧ s.length ≤ maxLen := by
 obtain ⟨s, rfl, hs⟩ := arg_string Tryz.underlying9 hv h
 exact ⟨s.data.toList, by rw [← ba_of], by have := hs; rw [ba_of s, ba_size] at this; exact this⟩
end Go.Proofs.YtfbmogccmlikaaaGreatDoor.G
