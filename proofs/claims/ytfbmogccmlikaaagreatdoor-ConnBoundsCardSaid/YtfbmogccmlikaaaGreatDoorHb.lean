/-
 Gc2, Gc3: several small texts in one. No conditions.
-/
import Derived.Test.YtfbmogccmlikaaaGreatDoorHa
import Derived.Test.YtfbmogccmlikaaaGreatDoorGs
import Derived.Test.YtfbmogccmlikaaaGreatDoorOwn
import Derived.Test.YtfbmogccmlikaaaGreatDoorGl
import Derived.Deep.Cut
import Derived.Deep.CutBlock
namespace Go.Proofs.YtfbmogccmlikaaaGreatDoor.G
open Go.RowKit
set_option linter.unusedVariables false
set_option linter.unusedSimpArgs false
def SepV (w : World) (k c : Int) (f : Value) : Sep → Prop
 | .para => k = 1 ∧ f = .pointer none
 | .one x => k = 0 ∧ c = (x.toNat : Int) ∧ f = .pointer none
 | .expr L => k = 2 ∧ ∃ lo fb, f = .pointer (some ⟨fb, 0, none⟩) ∧ FinderAt w lo fb L ∧ L.length ≤ 5000
theorem tailG_eq (b : List UInt8) (n : Nat) (hn : b.length = n) (en : Bool) : tailG b en = if en = true ∧ 0 < n then some (0, n, n) else none := by
 unfold tailG
 have : b ≠ [] ↔ 0 < n := by rw [← hn, List.length_pos_iff]
 by_cases h : en = true ∧ b ≠ []
 ·rw [if_pos h, if_pos ⟨h.1, this.1 h.2⟩, hn]
 ·rw [if_neg h, if_neg (fun e => h ⟨e.1, this.2 e.2⟩)]
set_option maxRecDepth 100000 in
set_option maxHeartbeats 4000000 in
theorem first_gen {w : World} {g : Nat} {k c : Int} {f : Value} {s : Sep} (h0 : w.cell? ⟨g, 0, none⟩ = some (.int .i64 k)) (h1 : w.cell? ⟨g, 1, none⟩ = some (.int .u8 c)) (h2 : w.cell? ⟨g, 2, none⟩ = some f) (hv : SepV w k c f s) (hs : s.ok)
    {A : Option Addr} {bs : List UInt8} {n cp : Nat} (hn : bs.length = n) (hb : Bytes w A bs) (hA : A = none → cp = 0) (hc : n ≤ cp) (hlt : ∀ a, A = some a → a.block < w.heap.size) (hm : n ≤ 10000) (hg : GlobOk w) (en : Bool) :
    Calls Tryz.prog 32 #[.pointer (some ⟨g, 0, none⟩), .slice A n cp, .bool en] w (FstPost w (firstG s bs en)) := by
 obtain ⟨PP, hPP⟩ : ∃ PP, PP = FstPost w (firstG s bs en) := ⟨_, rfl⟩
 rw [← hPP]
 have HP := Lib.hid hPP; have HN := Lib.hid hn; have HB := Lib.hid hb; have HA := Lib.hid hA; have HL := Lib.hid hlt; have HG := Lib.hid hg; have HS := Lib.hid hs
 clear hPP hn hb hA hlt hg hs
 cases s with
 | para =>
  obtain ⟨rfl, rfl⟩ := hv
  have HX := Lib.hid (paragraph_any HN.out HB.out hc HA.out (by omega) HG.out en)
  clear h1 h2
  go_enter Tryz.func32, Tryz.ntmps32
  go_wp2_with fail
  go_at_call 48
  refine HX.out.mono ?_
  rintro e w2 ⟨rfl, hf⟩
  have HF := Lib.hid hf
  clear hf HX
  cases hr : firstG .para bs en with
  | none =>
   have HR := Lib.hid hr
   clear hr
   unfold ansG
   go_wp2_with fail
   (try simp only [Exit.inBlock, Exit.then])
   refine bodyPost_ret (K.results_tmp4 rfl _ _ _) rfl ?_
   rw [HP.out, HR.out]
   exact ⟨rfl, HF.out⟩
  | some q =>
   obtain ⟨q1, q2, q3⟩ := q
   have HR := Lib.hid hr
   clear hr
   unfold ansG
   go_wp2_with fail
   (try simp only [Exit.inBlock, Exit.then])
   refine bodyPost_ret (K.results_tmp4 rfl _ _ _) rfl ?_
   rw [HP.out, HR.out]
   exact ⟨rfl, HF.out⟩
 | one x =>
  obtain ⟨rfl, rfl, rfl⟩ := hv
  have HIX := Lib.hid (K.indexByte_any HN.out HB.out HA.out hc x)
  have HR : Hid (firstG (.one x) bs en = if x ∈ bs then some (0, (bs.takeWhile (· != x)).length, (bs.takeWhile (· != x)).length + 1) else if en = true ∧ 0 < n then some (0, n, n) else none) := Lib.hid (by rw [first_one, tailG_eq bs n HN.out])
  clear h2
  by_cases hx : x ∈ bs
  ·obtain ⟨a, b, hab, h2⟩ := K.cut1 x bs hx
   have hi : Lib.indexByte bs x = (a.length : Int) := by rw [hab]; exact K.indexByte_hit x a b h2
   have hR2 : firstG (.one x) bs en = some (0, a.length, a.length + 1) := by
    rw [HR.out, if_pos hx, hab, K.takeWhile_hit x a b h2]
   have hl : a.length < n := by rw [← HN.out, hab]; simp
   rw [hi] at HIX
   obtain ⟨m, hm'⟩ : ∃ m, m = a.length := ⟨_, rfl⟩
   rw [← hm'] at HIX hR2 hl
   have HR2 := Lib.hid hR2
   have t0 : (0 : Int) ≤ (m : Int) := by omega
   clear hab h2 hi hR2 hm' hx HR
   go_enter Tryz.func32, Tryz.ntmps32
   go_wp2_with fail
   go_at_call 49
   refine HIX.out.mono ?_
   rintro e w' ⟨rfl, rfl⟩
   go_wp2_with fail
   (try simp only [Exit.inBlock, Exit.then])
   refine bodyPost_ret (K.results_tmp4 rfl _ _ _) rfl ?_
   rw [HP.out, HR2.out]
   exact ⟨rfl, Fr.refl _ _⟩
  ·have hi : Lib.indexByte bs x = -1 := K.indexByte_miss x bs hx
   have HR2 : Hid (firstG (.one x) bs en = if en = true ∧ 0 < n then some (0, n, n) else none) := Lib.hid (by rw [HR.out, if_neg hx])
   rw [hi] at HIX
   clear hi hx HR
   cases en with
   | false =>
    have HR3 : Hid (firstG (.one x) bs false = none) := Lib.hid (by rw [HR2.out, if_neg (by simp)])
    clear HR2
    go_enter Tryz.func32, Tryz.ntmps32
    go_wp2_with fail
    go_at_call 49
    refine HIX.out.mono ?_
    rintro e w' ⟨rfl, rfl⟩
    go_wp2_with fail
    (try simp only [Exit.inBlock, Exit.then])
    refine bodyPost_ret (K.results_tmp4 rfl _ _ _) rfl ?_
    rw [HP.out, HR3.out]
    exact ⟨rfl, Fr.refl _ _⟩
   | true =>
    rcases Nat.eq_zero_or_pos n with hz | hz
    ·have HR3 : Hid (firstG (.one x) bs true = none) := Lib.hid (by rw [HR2.out, if_neg (by omega)])
     have t1 : ¬ ((0 : Int) < (n : Int)) := by omega
     have t2 : ¬ 0 < n := by omega
     have t3 : decide (0 < n) = false := decide_eq_false t2
     clear HR2 hz
     go_enter Tryz.func32, Tryz.ntmps32
     go_wp2_with fail
     go_at_call 49
     refine HIX.out.mono ?_
     rintro e w' ⟨rfl, rfl⟩
     go_wp2_with fail
     (try simp only [Exit.inBlock, Exit.then])
     refine bodyPost_ret (K.results_tmp4 rfl _ _ _) rfl ?_
     rw [HP.out, HR3.out]
     exact ⟨rfl, Fr.refl _ _⟩
    ·have HR3 : Hid (firstG (.one x) bs true = some (0, n, n)) := Lib.hid (by rw [HR2.out, if_pos ⟨rfl, hz⟩])
     have t1 : (0 : Int) < (n : Int) := by omega
     have t3 : decide (0 < n) = true := decide_eq_true hz
     clear HR2
     go_enter Tryz.func32, Tryz.ntmps32
     go_wp2_with fail
     go_at_call 49
     refine HIX.out.mono ?_
     rintro e w' ⟨rfl, rfl⟩
     go_wp2_with fail
     (try simp only [Exit.inBlock, Exit.then])
     refine bodyPost_ret (K.results_tmp4 rfl _ _ _) rfl ?_
     rw [HP.out, HR3.out]
     exact ⟨rfl, Fr.refl _ _⟩
 | expr L =>
  obtain ⟨rfl, lo, fb, rfl, hfa, hLl⟩ := hv
  obtain ⟨o1, o2, o3⟩ := HS.out
  have HFD := Lib.hid (Find_any (from_ := 0) hfa HB.out (by rw [HN.out]; exact hc) HL.out o2 hLl o1 (by rw [HN.out]; exact hm) (Nat.zero_le _))
  have HLK := Lib.hid (Look_any hfa HB.out (by rw [HN.out]; exact hc) HL.out o2 hLl o1 (by rw [HN.out]; exact hm))
  rw [HN.out] at HFD HLK
  rw [show ((0 : Nat) : Int) = 0 from rfl] at HFD
  have HR : Hid (firstG (.expr L) bs en = (match (if en = true then findS L bs 0 else lookS L bs) with
   | some q => some (0, q.1, q.2)
   | none => if en = true ∧ 0 < n then some (0, n, n) else none)) := Lib.hid (by rw [first_expr, tailG_eq bs n HN.out]; cases (if en = true then findS L bs 0 else lookS L bs) <;> rfl)
  clear h1 hfa hLl o1 o2 o3
  cases en with
  | false =>
   rw [if_neg (by simp)] at HR
   obtain ⟨q, hq⟩ : ∃ q, q = lookS L bs := ⟨_, rfl⟩
   rw [← hq] at HR HLK
   clear hq HFD
   cases q with
   | none =>
    have HR3 : Hid (firstG (.expr L) bs false = none) := Lib.hid (by rw [HR.out]; simp)
    clear HR
    go_enter Tryz.func32, Tryz.ntmps32
    go_wp2_with fail
    go_at_call 51
    refine HLK.out.mono ?_
    rintro e w' ⟨rfl, hf⟩
    have HF := Lib.hid hf
    clear hf HLK
    unfold found3
    go_wp2_with fail
    (try simp only [Exit.inBlock, Exit.then])
    refine bodyPost_ret (K.results_tmp4 rfl _ _ _) rfl ?_
    rw [HP.out, HR3.out]
    exact ⟨rfl, HF.out⟩
   | some q =>
    obtain ⟨q1, q2⟩ := q
    have HR3 : Hid (firstG (.expr L) bs false = some (0, q1, q2)) := Lib.hid HR.out
    clear HR
    go_enter Tryz.func32, Tryz.ntmps32
    go_wp2_with fail
    go_at_call 51
    refine HLK.out.mono ?_
    rintro e w' ⟨rfl, hf⟩
    have HF := Lib.hid hf
    clear hf HLK
    unfold found3
    go_wp2_with fail
    (try simp only [Exit.inBlock, Exit.then])
    refine bodyPost_ret (K.results_tmp4 rfl _ _ _) rfl ?_
    rw [HP.out, HR3.out]
    exact ⟨rfl, HF.out⟩
  | true =>
   rw [if_pos rfl] at HR
   obtain ⟨q, hq⟩ : ∃ q, q = findS L bs 0 := ⟨_, rfl⟩
   rw [← hq] at HR HFD
   clear hq HLK
   cases q with
   | none =>
    rcases Nat.eq_zero_or_pos n with hz | hz
    ·have HR3 : Hid (firstG (.expr L) bs true = none) := Lib.hid (by rw [HR.out]; simp; omega)
     have t1 : ¬ ((0 : Int) < (n : Int)) := by omega
     have t2 : ¬ 0 < n := by omega
     have t3 : decide (0 < n) = false := decide_eq_false t2
     clear HR hz
     go_enter Tryz.func32, Tryz.ntmps32
     go_wp2_with fail
     go_at_call 50
     refine HFD.out.mono ?_
     rintro e w' ⟨rfl, hf⟩
     have HF := Lib.hid hf
     clear hf HFD
     unfold found3
     go_wp2_with fail
     (try simp only [Exit.inBlock, Exit.then])
     refine bodyPost_ret (K.results_tmp4 rfl _ _ _) rfl ?_
     rw [HP.out, HR3.out]
     exact ⟨rfl, HF.out⟩
    ·have HR3 : Hid (firstG (.expr L) bs true = some (0, n, n)) := Lib.hid (by rw [HR.out]; simp; omega)
     have t1 : (0 : Int) < (n : Int) := by omega
     have t3 : decide (0 < n) = true := decide_eq_true hz
     clear HR
     go_enter Tryz.func32, Tryz.ntmps32
     go_wp2_with fail
     go_at_call 50
     refine HFD.out.mono ?_
     rintro e w' ⟨rfl, hf⟩
     have HF := Lib.hid hf
     clear hf HFD
     unfold found3
     go_wp2_with fail
     (try simp only [Exit.inBlock, Exit.then])
     refine bodyPost_ret (K.results_tmp4 rfl _ _ _) rfl ?_
     rw [HP.out, HR3.out]
     exact ⟨rfl, HF.out⟩
   | some q =>
    obtain ⟨q1, q2⟩ := q
    have HR3 : Hid (firstG (.expr L) bs true = some (0, q1, q2)) := Lib.hid HR.out
    clear HR
    go_enter Tryz.func32, Tryz.ntmps32
    go_wp2_with fail
    go_at_call 50
    refine HFD.out.mono ?_
    rintro e w' ⟨rfl, hf⟩
    have HF := Lib.hid hf
    clear hf HFD
    unfold found3
    go_wp2_with fail
    (try simp only [Exit.inBlock, Exit.then])
    refine bodyPost_ret (K.results_tmp4 rfl _ _ _) rfl ?_
    rw [HP.out, HR3.out]
    exact ⟨rfl, HF.out⟩
end Go.Proofs.YtfbmogccmlikaaaGreatDoor.G
namespace Go.Proofs.YtfbmogccmlikaaaGreatDoor.G
open Go.RowKit
set_option linter.unusedVariables false
set_option linter.unusedSimpArgs false
theorem calls_gen {P : Program} {f : FuncId} {args : Array Value} {R : Ending → World → Prop} {w : World} (h : ∀ W, W = w → Calls P f args W R) : Calls P f args w R := h w rfl
theorem code_gen {P : Program} {c : Code} {Q : Exit → Act → World → Prop} {a : Act} {w : World} (h : ∀ W, W = w → c.wp P Q a W) : c.wp P Q a w := h w rfl
def errV (c : Int) : Value := .iface 52 (.int .i64 c)
theorem Own.ne_bk {w : World} {e : TypeId} {v : Value} {xs : List Value} {g : Nat} {t : TypeId} {cs : Array Value} (h : Own w e v xs) (hb : Bk w g t cs) (hne : e ≠ t) : v.ownBlock ≠ some g := by
 obtain ⟨A, cap, rfl, -, -, ⟨rfl, -⟩ | ⟨g', off, cur, rfl, hg, -⟩⟩ := h
 ·simp [Value.ownBlock]
 ·intro hk
  simp [Value.ownBlock] at hk
  subst hk
  exact Bk.ne_ (g := g') (cs := cur) hg hb hne rfl
def OwnB (w : World) (v : Value) (bs : List UInt8) : Prop := Own w 5 v (byteVals bs)
theorem OwnB.val {w : World} {v : Value} {bs : List UInt8} (h : OwnB w v bs) : ∃ A cap, v = .slice A bs.length cap ∧ bs.length ≤ cap ∧ cap ≤ maxLen ∧ Bytes w A bs ∧ (A = none → cap = 0) := by
 obtain ⟨A, cap, rfl, h1, h2, h3, h4, -⟩ := Own.at_ h
 rw [byteVals_length] at h2
 exact ⟨A, cap, by rw [byteVals_length], h2, h3, h1, h4⟩
structure Cu where
 k : Int
 c : Int
 f : Value
 room : Int
 bs : List UInt8
 en : Bool
def cuCells (x : Cu) (v : Value) : Array Value := #[.int .i64 x.k, .int .u8 x.c, x.f, .int .i64 x.room, v, .bool x.en]
def CuR (w : World) (q : Nat) (x : Cu) (v : Value) : Prop := Bk w q 72 (cuCells x v) ∧ OwnB w v x.bs
def CuM (w : World) (q : Nat) (x : Cu) : Prop := ∃ v, CuR w q x v
theorem cu_cells {w : World} {q : Nat} {x : Cu} {v : Value} (h : Bk w q 72 (cuCells x v)) :
    w.cell? ⟨q, 0, none⟩ = some (.int .i64 x.k) ∧ w.cell? ⟨q, 1, none⟩ = some (.int .u8 x.c) ∧ w.cell? ⟨q, 2, none⟩ = some x.f ∧ w.cell? ⟨q, 3, none⟩ = some (.int .i64 x.room) ∧ w.cell? ⟨q, 4, none⟩ = some v ∧ w.cell? ⟨q, 5, none⟩ = some (.bool x.en) :=
 ⟨h.cell_ rfl, h.cell_ rfl, h.cell_ rfl, h.cell_ rfl, h.cell_ rfl, h.cell_ rfl⟩
theorem CuM.fr_nil {w w' : World} {q : Nat} {x : Cu} (h : CuM w q x) (hf : Fr [] w w') : CuM w' q x := by
 obtain ⟨v, h1, h2⟩ := h
 exact ⟨v, h1.fr hf (by simp), Own.fr h2 hf (by simp)⟩
theorem CuR.fr_put {w w' : World} {q : Nat} {x y : Cu} {v u : Value} (h : CuR w q x v) (hf : Fr [q] w w') (hb : Bk w' q 72 (cuCells y u)) (ho : OwnB w u y.bs) : CuR w' q y u :=
 ⟨hb, Own.fr ho hf (fun k hk => by have := Own.ne_bk ho h.1 (by decide); simp; rintro rfl; exact this hk)⟩
section
variable {P : Program} {Q : Exit → Act → World → Prop} {md : Region.Mode} {G : World → World → Prop} {S : World → Prop} {F : Nat → Bool} {l r : List Oper} {o : Oper} {i n : Nat} {listed : Array Bool} {a : Act} {w : World}
theorem F_cut (t : TypeId) (x oh : Operand) (su : Setup P l Q G S) (ho : l.drop i = o :: r) (hop : o.op = .slice t x none (some oh) none) (e : TypeId) (ti : TypeInfo) (ht : P.underlying t = some (.slice e)) (hi : P.info? e = some ti) (hs : ti.size = 1)
    (A : Option Addr) (len c h : Nat) (hxv : a.eval x = .slice A len c) (hh : a.eval oh = .int .i64 (h : Int)) (h1 : h ≤ len) (h2 : len ≤ c)
    (hB : ((Region.ready md l.toArray listed).contains i && Region.free md l.toArray listed i && waits md l.toArray F i) = true) (hS : S w) (hw : Region.wanted o (yielded l.toArray a.tmps) = true)
    (hr : wpAnyF P md l.toArray Q G S F n (listed.setIfInBounds i true) (a.put o.dst (.slice A h c)) w) : wpAnyF P md l.toArray Q G S F (n + 1) listed a w := by
 refine F_val su ho hB hS hw (fun w' _ => ?_) hr
 have hrun : (Instr.sliceAt t (a.eval x) none (some (a.eval oh)) none).run P w' = .ok (.slice A h c) w' := by
  rw [hxv, hh]
  have hb := run_bounds_ (P := P) len c none (some (.int .i64 (h : Int))) none 0 h c w' (.inl ⟨rfl, rfl⟩) (.inr rfl) (.inl ⟨rfl, rfl⟩) (Nat.zero_le _) (Nat.le_trans h1 h2) (Nat.le_refl _)
  have hA : A.map (·.add 0) = A := by cases A <;> simp [Addr.add]
  simp [Instr.sliceAt, Instr.slice, run_underlying ht, sizeOf, typeInfo, hi, hs, hb, hA]
 unfold execOp
 simp only [hop, Option.map_none, Option.map_some, hrun, Sem.run_bind, Result.andThen_ok, Sem.run_pure]
end
def CuTo (w : World) (q : Nat) (v : Value) (w' : World) (y : Cu) : Prop := ∃ v', CuR w' q y v' ∧ Fr (q :: v.ownBlock.toList) w w' ∧ ∀ k, v'.ownBlock = some k → v.ownBlock = some k ∨ w.heap.size ≤ k
def CuB (w : World) (B q : Nat) (x : Cu) : Prop := ∃ v, CuR w q x v ∧ B ≤ q ∧ ∀ k, v.ownBlock = some k → B ≤ k
theorem CuB.to {w w' : World} {B q : Nat} {y : Cu} {v : Value} (hq : B ≤ q) (hv : ∀ k, v.ownBlock = some k → B ≤ k) (hB : B ≤ w.heap.size) (h : CuTo w q v w' y) : CuB w' B q y ∧ Below B w w' := by
 obtain ⟨v', h1, h2, h3⟩ := h
 refine ⟨⟨v', h1, hq, fun k hk => (h3 k hk).elim (hv k) (fun h => by omega)⟩, h2.below_at hB (fun i hi => ?_)⟩
 rcases List.mem_cons.1 hi with rfl | hi
 ·exact hq
 ·exact hv i (by simpa using hi)
theorem CuB.fr_nil {w w' : World} {B q : Nat} {x : Cu} (h : CuB w B q x) (hf : Fr [] w w') : CuB w' B q x := by
 obtain ⟨v, h1, h2, h3⟩ := h
 exact ⟨v, ⟨h1.1.fr hf (by simp), Own.fr h1.2 hf (by simp)⟩, h2, h3⟩
theorem held_any {w : World} {q : Nat} {x : Cu} {v : Value} (h : CuR w q x v) : Calls Tryz.prog 38 #[.pointer (some ⟨q, 0, none⟩)] w fun e w' => e = .returned (.int .i64 x.bs.length) ∧ w = w' := by
 obtain ⟨A, cap, rfl, -⟩ := OwnB.val h.2
 obtain ⟨-, -, -, -, d4, -⟩ := cu_cells h.1
 clear h
 go_enter Tryz.func38, Tryz.ntmps38
 go_wp2_with fail
 go_ret
 exact ⟨rfl, rfl⟩
theorem ended_any {w : World} {q : Nat} {x : Cu} {v : Value} (h : CuR w q x v) : Calls Tryz.prog 33 #[.pointer (some ⟨q, 0, none⟩)] w fun e w' => e = .returned (.bool (x.en && x.bs.isEmpty)) ∧ w = w' := by
 obtain ⟨A, cap, rfl, -⟩ := OwnB.val h.2
 obtain ⟨-, -, -, -, d4, d5⟩ := cu_cells h.1
 clear h
 cases he : x.en with
 | false =>
  rw [he] at d5
  go_enter Tryz.func33, Tryz.ntmps33
  go_wp2_with fail
  go_ret
  exact ⟨rfl, rfl⟩
 | true =>
  rw [he] at d5
  by_cases hb : x.bs = []
  ·rw [hb] at d4 ⊢
   rw [List.length_nil] at d4
   go_enter Tryz.func33, Tryz.ntmps33
   go_wp2_with fail
   go_ret
   exact ⟨rfl, rfl⟩
  ·have hl : ((x.bs.length : Int) == 0) = false := beq_eq_false_iff_ne.2 (fun e => hb (List.eq_nil_of_length_eq_zero (by omega)))
   have hr : (true && x.bs.isEmpty) = false := by simp [hb]
   rw [hr]
   clear hb hr
   go_enter Tryz.func33, Tryz.ntmps33
   go_wp2_with fail
   go_ret
   exact ⟨rfl, rfl⟩
theorem end_any {w : World} {q : Nat} {x : Cu} {v : Value} (h : CuR w q x v) : Calls Tryz.prog 27 #[.pointer (some ⟨q, 0, none⟩)] w fun e w' => e = .returned (.tuple #[]) ∧ CuTo w q v w' { x with en := true } := by
 obtain ⟨-, -, -, -, -, d5⟩ := cu_cells h.1
 have f5 := h.1.frozen 5
 have H := Lib.hid h; clear h
 go_enter Tryz.func27, Tryz.ntmps27
 go_wp2_with fail
 go_end0
 have hf : Fr [q] w (w.setCell ⟨q, 5, none⟩ (.bool true)) := (Fr.refl _ _).setCell (.inl (by simp)) _
 exact ⟨rfl, v, H.out.fr_put (y := { x with en := true }) hf (H.out.1.put 5 _) H.out.2, hf.mono (fun i hi => .inl (by simp at hi; simp [hi])), fun k hk => .inl hk⟩
def freeM (x : Cu) : Int := if x.en = true then 0 else x.room - x.bs.length
set_option maxRecDepth 100000 in
theorem free_any {w : World} {q : Nat} {x : Cu} {v : Value} (h : CuR w q x v) (hr : 0 ≤ x.room ∧ x.room ≤ 65536) (hb : x.bs.length ≤ 65536) : Calls Tryz.prog 41 #[.pointer (some ⟨q, 0, none⟩)] w fun e w' => e = .returned (.int .i64 (freeM x)) ∧ Fr [] w w' := by
 obtain ⟨A, cap, rfl, -⟩ := OwnB.val h.2
 obtain ⟨-, -, -, d3, d4, d5⟩ := cu_cells h.1
 unfold freeM
 cases he : x.en with
 | true =>
  rw [he] at d5
  clear h
  go_enter Tryz.func41, Tryz.ntmps41
  go_wp2_with fail
  go_ret
  exact ⟨rfl, Fr.refl _ _⟩
 | false =>
  rw [he] at d5
  clear h
  have hw : IntKind.i64.wrap (x.room - (x.bs.length : Int)) = x.room - (x.bs.length : Int) := by rw [IntKind.wrap_i64]; omega
  go_enter Tryz.func41, Tryz.ntmps41
  go_upto_region 3 with fail
  have d3' : w.drew.cell? ⟨q, 3, none⟩ = some (.int .i64 x.room) := d3
  have d4' : w.drew.cell? ⟨q, 4, none⟩ = some (.slice A x.bs.length cap) := d4
  have HFD : Hid (Fr [] w w.drew) := Lib.hid (Fr.refl [] w).drew
  clear d3 d4 d5
  refine wp_region_M_ (G := fun a b => a = b) (S := fun W => W = w.drew) ⟨fun _ => rfl, fun a b c h k => h.trans k, fun a b h k => k ▸ h, by kernel_rfl, fun _ _ d _ _ h => by cases d <;> exact h⟩ (by kernel_rfl) fun su => ?_
  have SU := Lib.hid su
  have HS : Hid (w.drew = w.drew) := Lib.hid rfl
  clear su
  generalize w.drew = wd at *
  refine M_move (i := 0) _ SU.out rfl rfl (by kernel_rfl) HS.out rfl ?_
  simp only [Act.put, Act.eval, Array.getD_eq_getD_getElem?, List.setIfInBounds_toArray, List.set_cons_zero, List.set_cons_succ, List.getElem?_toArray, List.getElem?_cons_zero, List.getElem?_cons_succ, Option.getD_some]
  refine M_val (i := 1) (v := ?_) SU.out rfl (by kernel_rfl) HS.out rfl (fun W hS => ?_) ?_
  rotate_left
  ·obtain rfl := hS
   go_simp
   all_goals first | done | rfl | omega | (simp; done) | (simp; omega)
  simp only [Act.put, List.setIfInBounds_toArray, List.set_cons_zero, List.set_cons_succ]
  refine M_val (i := 2) (v := ?_) SU.out rfl (by kernel_rfl) HS.out rfl (fun W hS => ?_) ?_
  rotate_left
  ·obtain rfl := hS
   go_simp
   all_goals first | done | rfl | omega | (simp; done) | (simp; omega)
  simp only [Act.put, List.setIfInBounds_toArray, List.set_cons_zero, List.set_cons_succ]
  refine M_val (i := 3) (v := .int .i64 x.room) SU.out rfl (by kernel_rfl) HS.out rfl (fun W hS => ?_) ?_
  ·obtain rfl := hS
   go_simp
   all_goals first | done | rfl | omega | (simp; done) | (simp; omega)
  simp only [Act.put, List.setIfInBounds_toArray, List.set_cons_zero, List.set_cons_succ]
  refine M_move (i := 4) _ SU.out rfl rfl (by kernel_rfl) HS.out rfl ?_
  simp only [Act.put, Act.eval, Array.getD_eq_getD_getElem?, List.setIfInBounds_toArray, List.set_cons_zero, List.set_cons_succ, List.getElem?_toArray, List.getElem?_cons_zero, List.getElem?_cons_succ, Option.getD_some]
  refine M_val (i := 5) (v := ?_) SU.out rfl (by kernel_rfl) HS.out rfl (fun W hS => ?_) ?_
  rotate_left
  ·obtain rfl := hS
   go_simp
   all_goals first | done | rfl | omega | (simp; done) | (simp; omega)
  simp only [Act.put, List.setIfInBounds_toArray, List.set_cons_zero, List.set_cons_succ]
  refine M_val (i := 6) (v := ?_) SU.out rfl (by kernel_rfl) HS.out rfl (fun W hS => ?_) ?_
  rotate_left
  ·obtain rfl := hS
   go_simp
   all_goals first | done | rfl | omega | (simp; done) | (simp; omega)
  simp only [Act.put, List.setIfInBounds_toArray, List.set_cons_zero, List.set_cons_succ]
  refine M_val (i := 7) (v := .slice A x.bs.length cap) SU.out rfl (by kernel_rfl) HS.out rfl (fun W hS => ?_) ?_
  ·obtain rfl := hS
   go_simp
   all_goals first | done | rfl | omega | (simp; done) | (simp; omega)
  simp only [Act.put, List.setIfInBounds_toArray, List.set_cons_zero, List.set_cons_succ]
  refine M_val (i := 8) (v := ?_) SU.out rfl (by kernel_rfl) HS.out rfl (fun W hS => ?_) ?_
  rotate_left
  ·obtain rfl := hS
   go_simp
   all_goals first | done | rfl | omega | (simp; done) | (simp; omega)
  simp only [Act.put, List.setIfInBounds_toArray, List.set_cons_zero, List.set_cons_succ]
  refine M_val (i := 9) (v := .int .i64 (x.room - (x.bs.length : Int))) SU.out rfl (by kernel_rfl) HS.out rfl (fun W hS => ?_) ?_
  ·obtain rfl := hS
   go_simp
   all_goals first | done | rfl | omega | (simp; done) | (simp; omega)
  simp only [Act.put, List.setIfInBounds_toArray, List.set_cons_zero, List.set_cons_succ]
  refine M_val (i := 10) (v := ?_) SU.out rfl (by kernel_rfl) HS.out rfl (fun W hS => ?_) ?_
  rotate_left
  ·obtain rfl := hS
   go_simp
   all_goals first | done | rfl | omega | (simp; done) | (simp; omega)
  simp only [Act.put, List.setIfInBounds_toArray, List.set_cons_zero, List.set_cons_succ]
  refine wpAnyM_done (by kernel_rfl) (fun w' hG => ?_)
  obtain rfl := hG
  go_wp2_with fail
  go_ret
  exact ⟨rfl, HFD.out⟩
set_option maxRecDepth 100000 in
set_option maxHeartbeats 2000000 in
theorem cput_any {w : World} {q : Nat} {x : Cu} {v : Value} (h : CuR w q x v) (hr : 0 ≤ x.room ∧ x.room ≤ 65536) (hb : (x.bs.length : Int) ≤ x.room) {bA : Option Addr} {bs : List UInt8} {bn bc : Nat} (hn : bs.length = bn) (hby : Bytes w bA bs) (hbc : bn ≤ bc) (hbl : bn ≤ 100000000) (kk : Nat) (hkk : (kk : Int) = min (bn : Int) (freeM x)) :
    Calls Tryz.prog 25 #[.pointer (some ⟨q, 0, none⟩), .slice bA bn bc] w fun e w' => e = .returned (.int .i64 (kk : Int)) ∧ CuTo w q v w' { x with bs := x.bs ++ bs.take kk } := by
 obtain ⟨i0, hi0, hz0, hz1, hz2⟩ := u8parts
 obtain ⟨A, cap, rfl, -⟩ := OwnB.val h.2
 have HFREE := Lib.hid (fun w (h : CuR w q x (.slice A x.bs.length cap)) => free_any h hr (by omega))
 have hkb : kk ≤ bn := by omega
 have hxl : x.bs.length ≤ 65536 := by omega
 have H := Lib.hid h; have HBY := Lib.hid hby; have HKK := Lib.hid hkk
 clear h hby hkk hr hb
 go_enter Tryz.func25, Tryz.ntmps25
 go_wp2_with fail
 go_at_call 41
 refine (HFREE.out w H.out).mono ?_
 rintro e w2 ⟨rfl, hf2⟩
 have HF2 := Lib.hid hf2
 have hr2 : CuR w2.drew q x (.slice A x.bs.length cap) := ⟨(H.out.1.fr hf2 (by simp)).drew, Own.fr H.out.2 (hf2.drew) (by simp)⟩
 have hby2 : Bytes w2.drew bA bs := HBY.out.fr_nil hf2.drew
 have HR2 := Lib.hid hr2; have HBY2 := Lib.hid hby2
 clear hf2 hr2 hby2 HFREE
 go_upto_region 2 with (refine wpList_min rfl (.tmp 7) (.tmp 9) _ rfl .i64 _ _ _ (by rfl) (by rfl) HKK.out.symm ?_)
 have HFD : Hid (Fr [] w w2.drew) := Lib.hid HF2.out.drew
 clear HF2
 have c40 : w2.drew.cell? ⟨q, 4, none⟩ = some (.slice A x.bs.length cap) := HR2.out.1.cell_ (i := 4) rfl
 refine wp_region_F_ (G := fun a b => a = b) (F := fun i => i == 11) (S := fun W => W.cell? ⟨q, 4, none⟩ = some (.slice A x.bs.length cap)) ⟨fun _ => rfl, fun a b c h k => h.trans k, fun a b h k => k ▸ h, by kernel_rfl, fun _ _ d _ _ h => by cases d <;> exact h⟩ (by kernel_rfl) fun su => ?_
 have SU := Lib.hid su
 have HS : Hid (w2.drew.cell? ⟨q, 4, none⟩ = some (.slice A x.bs.length cap)) := Lib.hid c40
 clear su c40
 generalize w2.drew = wd at *
 have HWD := HR2
 refine F_move (i := 0) _ SU.out rfl rfl (by kernel_rfl) HS.out rfl ?_
 simp only [Act.put, Act.eval, Array.getD_eq_getD_getElem?, List.setIfInBounds_toArray, List.set_cons_zero, List.set_cons_succ, List.getElem?_toArray, List.getElem?_cons_zero, List.getElem?_cons_succ, Option.getD_some]
 refine F_move (i := 1) _ SU.out rfl rfl (by kernel_rfl) HS.out rfl ?_
 simp only [Act.put, Act.eval, Array.getD_eq_getD_getElem?, List.setIfInBounds_toArray, List.set_cons_zero, List.set_cons_succ, List.getElem?_toArray, List.getElem?_cons_zero, List.getElem?_cons_succ, Option.getD_some]
 refine F_val (i := 2) (v := ?_) SU.out rfl (by kernel_rfl) HS.out rfl (fun W hS => ?_) ?_
 rotate_left
 ·obtain s1 := hS
  go_simp
  all_goals first | done | rfl
 simp only [Act.put, List.setIfInBounds_toArray, List.set_cons_zero, List.set_cons_succ]
 refine F_val (i := 3) (v := ?_) SU.out rfl (by kernel_rfl) HS.out rfl (fun W hS => ?_) ?_
 rotate_left
 ·obtain s1 := hS
  go_simp
  all_goals first | done | rfl
 simp only [Act.put, List.setIfInBounds_toArray, List.set_cons_zero, List.set_cons_succ]
 refine F_val (i := 4) (v := .slice A x.bs.length cap) SU.out rfl (by kernel_rfl) HS.out rfl (fun W hS => ?_) ?_
 ·obtain s1 := hS
  go_simp
  all_goals first | done | rfl
 simp only [Act.put, List.setIfInBounds_toArray, List.set_cons_zero, List.set_cons_succ]
 refine F_move (i := 5) _ SU.out rfl rfl (by kernel_rfl) HS.out rfl ?_
 simp only [Act.put, Act.eval, Array.getD_eq_getD_getElem?, List.setIfInBounds_toArray, List.set_cons_zero, List.set_cons_succ, List.getElem?_toArray, List.getElem?_cons_zero, List.getElem?_cons_succ, Option.getD_some]
 refine F_move (i := 6) _ SU.out rfl rfl (by kernel_rfl) HS.out rfl ?_
 simp only [Act.put, Act.eval, Array.getD_eq_getD_getElem?, List.setIfInBounds_toArray, List.set_cons_zero, List.set_cons_succ, List.getElem?_toArray, List.getElem?_cons_zero, List.getElem?_cons_succ, Option.getD_some]
 refine F_cut (i := 7) 34 (.tmp 16) (.tmp 17) SU.out rfl rfl 5 i0 Tryz.underlying34 hi0 hz1 bA bn bc kk (by first | rfl | (simp [Act.eval]; done)) (by first | rfl | (simp [Act.eval]; done)) hkb hbc (by kernel_rfl) HS.out rfl ?_
 simp only [Act.put, List.setIfInBounds_toArray, List.set_cons_zero, List.set_cons_succ]
 refine wpAnyF_all (rs := [8]) (by kernel_rfl) (by simp) (fun w' hG => ?_)
 obtain rfl := hG
 refine allF.head rfl rfl (fun K7 hK7 => ?_) allF.nil
 have htk : (bs.take kk).length = kk := by simp; omega
 refine wp_append_OwnS (.tmp 15) (.tmp 18) 34 rfl 5 i0 _ Tryz.underlying34 hi0 hz0 hz1 rfl (.slice A x.bs.length cap) (byteVals x.bs) x.bs.length (byteVals_length _) (by first | rfl | (simp [Act.eval]; done)) HWD.out.2 bA kk bc (by first | rfl | (simp [Act.eval]; done)) (byteVals (bs.take kk)) (by have := At.take HBY2.out kk; simpa [byteVals, List.map_take] using this) (by rw [byteVals_length]; exact htk) (byteVals_one _) (by unfold maxLen; omega) (by rw [hz2]; omega) ?_
 intro A3 c3 w3 hown hgr hloc
 rw [← byteVals_append] at hown
 have hw3 := HWD.out.1.grown hgr (fun e => Own.ne_bk HWD.out.2 HWD.out.1 (by decide) e.symm)
 have c4 : w3.cell? ⟨q, 4, none⟩ = some (.slice A x.bs.length cap) := hw3.cell_ (i := 4) rfl
 have f4 := hw3.frozen 4
 refine hK7.out _ _ (.inr c4) ?_
 have HOWN := Lib.hid hown; have HGR := Lib.hid hgr; have HLOC := Lib.hid hloc; have HW3 := Lib.hid hw3
 clear hK7 K7 hw3 hown hgr hloc
 simp only [Act.put, List.setIfInBounds_toArray, List.set_cons_zero, List.set_cons_succ]
 refine wpAnyF_all (rs := [9]) (by kernel_rfl) (by simp) (fun w' hG => ?_)
 obtain rfl := hG
 refine allF.head rfl rfl (fun K9 hK9 => ?_) allF.nil
 go_simp
 refine hK9.out _ _ (.inr c4) ?_
 clear hK9 K9
 refine wpAnyF_all (rs := [10]) (by kernel_rfl) (by simp) (fun w' hG => ?_)
 obtain rfl := hG
 refine allF.head rfl rfl (fun Ka hKa => ?_) allF.nil
 go_simp
 refine hKa.out _ _ (.inr c4) ?_
 clear hKa Ka
 refine wpAnyF_all (rs := [11]) (by kernel_rfl) (by simp) (fun w' hG => ?_)
 obtain rfl := hG
 refine allF.head rfl rfl (fun Kb hKb => ?_) allF.nil
 go_simp
 refine hKb.out _ _ (.inl rfl) ?_
 clear hKb Kb
 refine wpAnyF_done (by kernel_rfl) (fun w' hG => ?_)
 obtain rfl := hG
 clear c4 f4
 go_wp2_with fail
 go_ret
 have hs : Fr [q] w3 (w3.setCell ⟨q, 4, none⟩ (.slice A3 (x.bs.length + kk) c3)) := (Fr.refl _ _).setCell (.inl (by simp)) _
 have ho3 : OwnB w3 (.slice A3 (x.bs.length + kk) c3) (x.bs ++ bs.take kk) := HOWN.out
 refine ⟨rfl, .slice A3 (x.bs.length + kk) c3, ⟨HW3.out.put 4 _, Own.fr ho3 hs (fun k hk => by have := Own.ne_bk ho3 HW3.out (by decide); simp; rintro rfl; exact this hk)⟩, ?_, ?_⟩
 ·exact (HFD.out.nil_.grown HGR.out (fun g hg => .inl (by simp [hg]))).trans' hs (fun i hi => .inl (by simp at hi; simp [hi]))
 ·intro k hk
  rcases HLOC.out with e | e
  ·exact .inl (by rw [← e]; exact hk)
  ·rw [hk] at e; injection e with e; have := HFD.out.size; exact .inr (by omega)
end Go.Proofs.YtfbmogccmlikaaaGreatDoor.G
