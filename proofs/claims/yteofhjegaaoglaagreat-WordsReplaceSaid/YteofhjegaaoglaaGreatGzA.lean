/-
 Wd1, Wd2, Wd4: several small texts in one. No conditions.
-/
import Derived.Test.YteofhjegaaoglaaGreatRows
import Derived.Test.YteofhjegaaoglaaGreatOwn
import Derived.LoopTactic
import Derived.Deep.Cut
import Derived.Test.YteofhjegaaoglaaGreatGe
import Derived.Lib.IndexMore
import Derived.Test.YteofhjegaaoglaaGreatLy6
import Derived.Lib.AppendStr
namespace Go.Proofs.YteofhjegaaoglaaGreat
open Go.RowKit
set_option linter.unusedVariables false
set_option linter.unusedSimpArgs false
def behM (n : Nat) (fr ct : Int) (all : Bool) : Int := if all = true then (n : Int) + 1 else min ((n : Int) + 1) (fr + ct)
def subM (s : List UInt8) (fr ct : Int) (all : Bool) : List UInt8 :=
 if all = false ∧ ct ≤ 0 ∨ behM s.length fr ct all ≤ max fr 1 then [] else (s.drop (max fr 1 - 1).toNat).take (behM s.length fr ct all - max fr 1).toNat
set_option maxRecDepth 100000 in
set_option maxHeartbeats 2000000 in
theorem substr_any (w : World) (s : List UInt8) (fr ct : Int) (hf : -9223372036854775808 ≤ fr ∧ fr ≤ 9223372036854775807) (hc : -9223372036854775808 ≤ ct ∧ ct ≤ 9223372036854775807) (hs : s.length ≤ 1000000) (all : Bool) :
    Calls Tryz.prog 11 #[.string ⟨s.toArray⟩, .int .i64 fr, .int .i64 ct, .bool all] w fun e w' => e = .returned (.string ⟨(subM s fr ct all).toArray⟩) ∧ w = w' := by
 obtain ⟨p, hp⟩ : ∃ p, max fr 1 = p := ⟨_, rfl⟩; have hp1 : 1 ≤ p ∧ p ≤ 9223372036854775807 := by omega
 have hpf : fr ≤ p := by omega
 have HP := zh hp; clear hp
 cases all with
 | true =>
  obtain ⟨bh, hbh⟩ : ∃ bh, (s.length : Int) + 1 = bh := ⟨_, rfl⟩; have HBH := zh (show behM s.length fr ct true = bh from hbh); go_enter Tryz.func11, Tryz.ntmps11
  go_upto_region 8 with (refine wpList_max rfl (.tmp 28) (.const (.int .i64 1)) _ rfl .i64 _ _ _ (by rfl) (by rfl) HP.out ?_)
  by_cases hx : bh ≤ p
  ·have t5 : decide (bh ≤ p) = true := decide_eq_true hx; have HR := zh (show subM s fr ct true = [] from by unfold subM; rw [HBH.out, HP.out, if_pos (.inr hx)]); clear hx; go_wp2_with fail
   go_ret
   exact ⟨by (rw [HR.out]; first | done | rfl), rfl⟩
  ·have t5 : decide (bh ≤ p) = false := decide_eq_false hx; have HR := zh (show subM s fr ct true = (s.drop (p - 1).toNat).take (bh - p).toNat from by unfold subM; rw [HBH.out, HP.out, if_neg (by rintro (h | h); cases h.1; exact hx h)]); obtain ⟨a, ha⟩ : ∃ a : Nat, p = (a : Int) + 1 := ⟨(p - 1).toNat, by omega⟩; obtain ⟨b, hb⟩ : ∃ b : Nat, bh = (b : Int) + 1 := ⟨(bh - 1).toNat, by omega⟩; have s1 : p - 1 = (a : Int) := by omega
   have s2 : bh - 1 = (b : Int) := by omega
   have hab : a ≤ b ∧ b ≤ s.length := by omega
   have HRR := zh (show subM s fr ct true = (s.drop a).take (b - a) from by rw [HR.out, show (p - 1).toNat = a by omega, show (bh - p).toNat = b - a by omega]); clear HR; go_wp2_with fail
   go_ret
   exact ⟨by (rw [HRR.out, ← ba_extract]; first | done | rfl), rfl⟩
 | false =>
  by_cases h0 : ct ≤ 0
  ·have t0 : decide (ct ≤ 0) = true := decide_eq_true h0; have HR := zh (show subM s fr ct false = [] from by unfold subM; rw [if_pos (.inl ⟨rfl, h0⟩)]); clear h0; go_enter Tryz.func11, Tryz.ntmps11
   go_wp2_with fail
   go_ret
   exact ⟨by (rw [HR.out]; first | done | rfl), rfl⟩
  have t0 : decide (ct ≤ 0) = false := decide_eq_false h0; obtain ⟨bh, hbh⟩ : ∃ bh, min ((s.length : Int) + 1) (fr + ct) = bh := ⟨_, rfl⟩; have HBH := zh (show behM s.length fr ct false = bh from hbh); have hbb : bh ≤ (s.length : Int) + 1 ∧ bh ≤ fr + ct := by omega
  by_cases h1 : fr ≤ 9223372036854775807 - ct
  ·have t1 : decide (fr ≤ 9223372036854775807 - ct) = true := decide_eq_true h1; have HMN := zh hbh; clear hbh; go_enter Tryz.func11, Tryz.ntmps11
   go_upto_region 8 with first | (refine wpList_min rfl (.tmp 23) (.tmp 26) _ rfl .i64 _ _ _ (by rfl) (by rfl) HMN.out ?_) | (refine wpList_max rfl (.tmp 28) (.const (.int .i64 1)) _ rfl .i64 _ _ _ (by rfl) (by rfl) HP.out ?_)
   by_cases hx : bh ≤ p
   ·have t5 : decide (bh ≤ p) = true := decide_eq_true hx; have HR := zh (show subM s fr ct false = [] from by unfold subM; rw [HBH.out, HP.out, if_pos (.inr hx)]); clear hx; go_wp2_with fail
    go_ret
    exact ⟨by (rw [HR.out]; first | done | rfl), rfl⟩
   ·have t5 : decide (bh ≤ p) = false := decide_eq_false hx; have HR := zh (show subM s fr ct false = (s.drop (p - 1).toNat).take (bh - p).toNat from by unfold subM; rw [HBH.out, HP.out, if_neg (by rintro (h | h); exact h0 h.2; exact hx h)]); obtain ⟨a, ha⟩ : ∃ a : Nat, p = (a : Int) + 1 := ⟨(p - 1).toNat, by omega⟩; obtain ⟨b, hb⟩ : ∃ b : Nat, bh = (b : Int) + 1 := ⟨(bh - 1).toNat, by omega⟩; have s1 : p - 1 = (a : Int) := by omega
    have s2 : bh - 1 = (b : Int) := by omega
    have hab : a ≤ b ∧ b ≤ s.length := by omega
    have HRR := zh (show subM s fr ct false = (s.drop a).take (b - a) from by rw [HR.out, show (p - 1).toNat = a by omega, show (bh - p).toNat = b - a by omega]); clear HR; go_wp2_with fail
    go_ret
    exact ⟨by (rw [HRR.out, ← ba_extract]; first | done | rfl), rfl⟩
  ·have t1 : decide (fr ≤ 9223372036854775807 - ct) = false := decide_eq_false h1; have hbe : (s.length : Int) + 1 = bh := by omega
   clear hbh; go_enter Tryz.func11, Tryz.ntmps11
   go_upto_region 8 with (refine wpList_max rfl (.tmp 28) (.const (.int .i64 1)) _ rfl .i64 _ _ _ (by rfl) (by rfl) HP.out ?_)
   by_cases hx : bh ≤ p
   ·have t5 : decide (bh ≤ p) = true := decide_eq_true hx; have HR := zh (show subM s fr ct false = [] from by unfold subM; rw [HBH.out, HP.out, if_pos (.inr hx)]); clear hx; go_wp2_with fail
    go_ret
    exact ⟨by (rw [HR.out]; first | done | rfl), rfl⟩
   ·have t5 : decide (bh ≤ p) = false := decide_eq_false hx; have HR := zh (show subM s fr ct false = (s.drop (p - 1).toNat).take (bh - p).toNat from by unfold subM; rw [HBH.out, HP.out, if_neg (by rintro (h | h); exact h0 h.2; exact hx h)]); obtain ⟨a, ha⟩ : ∃ a : Nat, p = (a : Int) + 1 := ⟨(p - 1).toNat, by omega⟩; obtain ⟨b, hb⟩ : ∃ b : Nat, bh = (b : Int) + 1 := ⟨(bh - 1).toNat, by omega⟩; have s1 : p - 1 = (a : Int) := by omega
    have s2 : bh - 1 = (b : Int) := by omega
    have hab : a ≤ b ∧ b ≤ s.length := by omega
    have HRR := zh (show subM s fr ct false = (s.drop a).take (b - a) from by rw [HR.out, show (p - 1).toNat = a by omega, show (bh - p).toNat = b - a by omega]); clear HR; go_wp2_with fail
    go_ret
    exact ⟨by (rw [HRR.out, ← ba_extract]; first | done | rfl), rfl⟩
end Go.Proofs.YteofhjegaaoglaaGreat
namespace Go.Proofs.YteofhjegaaoglaaGreat
open Go.RowKit
set_option linter.unusedVariables false
set_option linter.unusedSimpArgs false
theorem widx_any (w : World) (s t : List UInt8) (hs : s.length ≤ 1000000000) (hg : GlobOk w) :
    Calls Tryz.prog 12 #[.string ⟨s.toArray⟩, .string ⟨t.toArray⟩] w fun e w' => e = .returned (.int .i64 (Lib.index s t + 1)) ∧ w' = w := by
 obtain ⟨m, hm⟩ := hg; have HC := zh (Tryz.strings_Index ⟨s.toArray⟩ ⟨t.toArray⟩ m w (by simp [ByteArray.size]; omega) hm); obtain ⟨i, hi⟩ : ∃ i, Lib.index s t = i := ⟨_, rfl⟩
 have hb : -1 ≤ i ∧ i ≤ 1000000000 := by
  rcases Lib.index_spec s t with ⟨h1, -⟩ | ⟨k, h1, h2, -, -⟩ <;> omega
 have e0 : Lib.index (⟨s.toArray⟩ : ByteArray).data.toList (⟨t.toArray⟩ : ByteArray).data.toList = i := hi; rw [hi]; rw [e0] at HC; clear hi e0 hm; go_enter Tryz.func12, Tryz.ntmps12
 go_wp2_with (go_at_call 22; refine HC.out.mono ?_; rintro e w' ⟨rfl, rfl⟩)
 go_ret
 exact ⟨rfl, rfl⟩
def Bz (w : World) (g : Nat) (t : TypeId) (cs : Array Value) : Prop := ∃ r : Nat × Nat, w.heap[g]? = some (.cells cs t r) ∧ ∀ i, i < cs.size → ¬ (r.1 ≤ i ∧ i < r.2)
theorem Bz.lt {w : World} {g : Nat} {t : TypeId} {cs : Array Value} (h : Bz w g t cs) : g < w.heap.size := by
 obtain ⟨r, h, -⟩ := h; rcases Nat.lt_or_ge g w.heap.size with hlt | hge
 ·exact hlt
 ·rw [Array.getElem?_eq_none hge] at h; cases h
theorem Bz.cell {w : World} {g : Nat} {t : TypeId} {cs : Array Value} (h : Bz w g t cs) (i : Nat) : w.cell? ⟨g, i, none⟩ = cs[i]? := by
 obtain ⟨r, h, -⟩ := h; exact cell_of_row w g i cs t r h
theorem Bz.frozen {w : World} {g : Nat} {t : TypeId} {cs : Array Value} (h : Bz w g t cs) (i : Nat) (hi : i < cs.size) : w.frozen? ⟨g, i, none⟩ = false := by
 obtain ⟨r, h, hr⟩ := h; have := hr i hi; simp only [World.frozen?, h]; rw [← Bool.decide_and, decide_eq_false this]
theorem Bz.put {w : World} {g : Nat} {t : TypeId} {cs : Array Value} (h : Bz w g t cs) (i : Nat) (u : Value) : Bz (w.setCell ⟨g, i, none⟩ u) g t (cs.setIfInBounds i u) := by
 obtain ⟨r, h, hr⟩ := h; refine ⟨r, ?_, by simpa using hr⟩; unfold World.setCell; simp only [Array.getElem?_modify, if_pos, h, Option.map_some]; rfl
theorem Bz.at_ {w : World} {g : Nat} {t : TypeId} {cs : Array Value} (h : Bz w g t cs) {n : Nat} {xs : List Value} (hx : cs.toList.take n = xs) : At w (some ⟨g, 0, none⟩) xs := by
 refine .inr ⟨⟨g, 0, none⟩, rfl, h.lt, fun j u hu => ?_⟩; have e : (⟨g, 0, none⟩ : Addr).add j = ⟨g, j, none⟩ := by simp [Addr.add]; intro h; exact h.symm
 rw [e, h.cell, ← Array.getElem?_toList]; rw [← hx, List.getElem?_take] at hu; split at hu
 ·exact hu
 ·cases hu
section
variable {P : Program}
end
def turnB (f t : Nat) (b : Int) (c : UInt8) : UInt8 := if f ≤ c.toNat ∧ c.toNat ≤ t then UInt8.ofNat ((c.toNat : Int) + b).toNat else c
def upM (s : List UInt8) : List UInt8 := s.map (turnB 97 122 (-32))
def loM (s : List UInt8) : List UInt8 := s.map (turnB 65 90 32)
end Go.Proofs.YteofhjegaaoglaaGreat
namespace Go.Proofs.YteofhjegaaoglaaGreat
open Go.RowKit
set_option linter.unusedVariables false
set_option linter.unusedSimpArgs false
theorem byteParts : ∃ i, Tryz.prog.info? 5 = some i ∧ i.zero = some (.int .u8 0) ∧ i.size = 1 ∧ i.bytes = 1 := info_parts (by kernel_rfl)
theorem own_slice {w : World} {base n sz : Nat} {v : Value} {e : TypeId} {xs : List Value} (h : w.ownsRow base e sz v n xs) : ∃ A c, v = .slice A n c := by
 obtain ⟨h1, ⟨h2, h3⟩ | ⟨b', cap', cur, h2, -⟩⟩ := h
 ·exact ⟨none, 0, by rw [h2, h3]⟩
 ·exact ⟨_, _, h2⟩
section
variable {P : Program}
theorem append_str_own {w : World} (t u ty e : TypeId) (i : TypeInfo) (ht : P.underlying t = some (.slice e)) (hu : P.underlying u = some .string) (hi : P.info? e = some i) (hz : i.zero = some (.int .u8 0)) (hsize : i.size = 1) (hby : i.bytes = 1)
    (v : Value) (n : Nat) (xs : List Value) (hown : w.ownsRow 0 e 1 v n xs) (s : List UInt8) (hl : n + s.length ≤ 100000000) :
    ∃ v' w', (Builtin.append_ #[t, u] ty #[v, .string ⟨s.toArray⟩]).run P w = .ok v' w' ∧ w'.ownsRow 0 e 1 v' (n + s.length) (xs ++ byteVals s) ∧ w.grownBy w' v.ownBlock ∧ (∀ b, v'.ownBlock = some b → v.ownBlock = some b ∨ w.heap.size ≤ b) := by
 have hsz : (⟨s.toArray⟩ : ByteArray).size = s.length := by simp [ByteArray.size]
 have hcl : Lib.strCells ⟨s.toArray⟩ = byteVals s := by simp [Lib.strCells, byteVals]
 obtain ⟨v', w', hr, h2, h3, -⟩ := Lib.run_append_own_string (P := P) w 0 t u ty e i ht hu hi hz hsize hby v n xs hown ⟨s.toArray⟩ (by rw [hsz]; unfold maxLen; omega) (by rw [hsz]; omega) (Nat.zero_le _); rw [hsz, hcl] at h2; refine ⟨v', w', hr, h2, h3, ?_⟩; have hxl : xs.length = n := by simpa using hown.1
 rcases hown.2 with ⟨rfl, rfl⟩ | ⟨g, cap, cur, rfl, hbg, hg, hnc, hcm, hcs, htake⟩
 ·obtain ⟨v2, w2, hr2, k2, -, -⟩ := Lib.run_append_own_string (P := P) w w.heap.size t u ty e i ht hu hi hz hsize hby (.slice none 0 0) 0 xs ⟨hown.1, .inl ⟨rfl, rfl⟩⟩ ⟨s.toArray⟩ (by rw [hsz]; unfold maxLen; omega) (by rw [hsz]; omega) (Nat.le_refl _); rw [hr] at hr2
  injection hr2 with e1 e2
  subst e1 e2; exact fun b hb => .inr (own_base k2 b hb).1
 ·by_cases hroom : n + s.length ≤ cap
  ·have hcs' : cur.size = cap := by simpa using hcs
   have hr2 := Lib.run_append_room_string (P := P) w t u ty e i ht hu hi hsize g n cap cur hg ⟨s.toArray⟩ (by rw [hsz]; exact hroom) (by rw [hsz]; omega); rw [hr] at hr2
   injection hr2 with e1 e2
   subst e1; exact fun b hb => .inl hb
  ·have holds : ∀ j u, xs[j]? = some u → w.cell? ((⟨g, 0, none⟩ : Addr).add j) = some u := hown.cells (g := g) rfl; have hr2 := Lib.run_append_grow_string (P := P) w t u ty e i (.int .u8 0) ht hu hi hz ⟨g, 0, none⟩ n cap xs (by rw [hsize]; simpa using hxl) holds ⟨s.toArray⟩ (by rw [hsz]; omega) (by rw [hsz]; omega) (by rw [hsz, hby]; exact growslice_fits (by omega) (by omega)); rw [hr] at hr2
   injection hr2 with e1 e2
   subst e1; exact fun b hb => .inr (by simp [Value.ownBlock] at hb; omega)
theorem wpList_append_strZ {ops : Array Oper} {rest : List Oper} {o : Oper} {a : Act} {w : World} {Q : Exit → Act → World → Prop} (hgd : Region.wanted o (yielded ops a.tmps) = true) (sl x : Operand) (t u : TypeId)
    (ho : o.op = .call { callee := .builtin .append, args := #[sl, x], argTypes := #[t, u] })
    (e : TypeId) (i : TypeInfo) (ht : P.underlying t = some (.slice e)) (hu : P.underlying u = some .string) (hi : P.info? e = some i) (hz : i.zero = some (.int .u8 0)) (hsize : i.size = 1) (hby : i.bytes = 1)
    (v : Value) (n : Nat) (xs : List Value) (hs : a.eval sl = v) (hown : w.ownsRow 0 e 1 v n xs) (s : List UInt8) (hx : a.eval x = .string ⟨s.toArray⟩) (hl : n + s.length ≤ 100000000)
    (h : ∀ v' w', w'.ownsRow 0 e 1 v' (n + s.length) (xs ++ byteVals s) → w.grownBy w' v.ownBlock → (∀ b, v'.ownBlock = some b → v.ownBlock = some b ∨ w.heap.size ≤ b) → wpList P ops Q rest (a.put o.dst v') w') : wpList P ops Q (o :: rest) a w := by
 refine wpList_wanted hgd fun K hK => ?_; obtain ⟨v', w', hr, h2, h3, h4⟩ := append_str_own (P := P) (w := w) t u o.type e i ht hu hi hz hsize hby v n xs hown s hl; unfold Oper.wp execOp; simp only [ho, resolve, invoke, builtin, Sem.run_bind, Sem.run_pure, Result.andThen_ok, List.map_toArray, List.map_cons, List.map_nil, hs, hx, hr]; exact hK _ _ (h v' w' h2 h3 h4)
end
def BuM (w : World) (g : Nat) (v : Value) (tx : List UInt8) : Prop := Bk w g 51 #[v, .bool false] ∧ w.ownsRow 0 5 1 v tx.length (byteVals tx)
def AddP (w : World) (g : Nat) (v : Value) (w' : World) (v' : Value) : Prop := Fr (g :: v.ownBlock.toList) w w' ∧ (∀ b, v'.ownBlock = some b → v.ownBlock = some b ∨ w.heap.size ≤ b)
theorem AddP.refl (w : World) (g : Nat) (v : Value) : AddP w g v w v := ⟨Fr.refl _ _, fun _ h => .inl h⟩
theorem AddP.trans {w w1 w2 : World} {g : Nat} {v v1 v2 : Value} (h : AddP w g v w1 v1) (k : AddP w1 g v1 w2 v2) : AddP w g v w2 v2 := by
 refine ⟨h.1.trans' k.1 fun b hb => ?_, fun b hb => ?_⟩
 ·rcases List.mem_cons.1 hb with rfl | hb
  ·exact .inl (by simp)
  ·rcases h.2 b (by simpa using hb) with hb | hb
   ·exact .inl (by simp [hb])
   ·exact .inr hb
 ·rcases k.2 b hb with hb | hb
  ·exact h.2 b hb
  ·exact .inr (Nat.le_trans h.1.size hb)
theorem BuM.ne_ {w : World} {g : Nat} {v : Value} {tx : List UInt8} (h : BuM w g v tx) : v.ownBlock ≠ some g := by
 intro e; obtain ⟨-, cur, hc⟩ := own_base h.2 g e; exact h.1.ne_ hc (by decide) rfl
theorem BuM.add {w w4 : World} {g : Nat} {v v4 : Value} {tx s : List UInt8} (h : BuM w g v tx) (h2 : w4.ownsRow 0 5 1 v4 (tx.length + s.length) (byteVals tx ++ byteVals s)) (h3 : w.grownBy w4 v.ownBlock) (h4 : ∀ b, v4.ownBlock = some b → v.ownBlock = some b ∨ w.heap.size ≤ b) :
    BuM (w4.setCell ⟨g, 0, none⟩ v4) g v4 (tx ++ s) ∧ AddP w g v (w4.setCell ⟨g, 0, none⟩ v4) v4 ∧ w4.frozen? ⟨g, 0, none⟩ = false ∧ (∃ u, w4.cell? ⟨g, 0, none⟩ = some u) := by
 have hb4 : Bk w4 g 51 #[v, .bool false] := h.1.grown h3 (fun e => h.ne_ e.symm)
 have hne : v4.ownBlock ≠ some g := by
  intro e; obtain ⟨-, cur, hc⟩ := own_base h2 g e; exact hb4.ne_ hc (by decide) rfl
 refine ⟨⟨hb4.put 0 v4, ?_⟩, ⟨?_, h4⟩, hb4.frozen 0, ⟨v, hb4.cell_ (i := 0) rfl⟩⟩
 ·rw [List.length_append, byteVals_append]; exact own_keep h2 fun b cs hb => hb.far (p := ⟨g, 0, none⟩) (hb.ne_ hb4 (by decide)) v4
 ·refine Fr.setCell ?_ (.inl (by simp)) v4; exact (Fr.refl _ _).grown h3 fun b hb => .inl (by simp [hb])
def AddRel (w : World) (g : Nat) (v : Value) (tx s : List UInt8) (n : Nat) (v7 : Value) (wr : World) : Prop := ∃ (i : Nat) (v' : Value), v7 = .int .i64 (i : Int) ∧ i ≤ n ∧ BuM wr g v' (tx ++ (List.replicate i s).flatten) ∧ AddP w g v wr v'
def AddPost (w : World) (g : Nat) (v : Value) (tx : List UInt8) (e : Ending) (w' : World) : Prop := e = .returned (.tuple #[]) ∧ ∃ v', BuM w' g v' tx ∧ AddP w g v w' v'
set_option maxRecDepth 100000 in
set_option maxHeartbeats 4000000 in
theorem add_any {w : World} {g : Nat} {v : Value} {tx : List UInt8} (h : BuM w g v tx) (s : List UInt8) (n : Nat) (hl : tx.length + n * s.length ≤ 65536) :
    Calls Tryz.prog 15 #[.pointer (some ⟨g, 0, none⟩), .string ⟨s.toArray⟩, .int .i64 (n : Int)] w (AddPost w g v (tx ++ (List.replicate n s).flatten)) := by
 obtain ⟨bi, hbi, hz0, hz1, hz2⟩ := byteParts; have H := zh h; clear h; go_enter Tryz.func15, Tryz.ntmps15
 go_upto_region 1 with fail
 go_loopw [7] (fun v7 wr => AddRel w g v tx s n v7 wr) (fun v7 _ => n + 1 - (intOf v7).toNat)
 case atStart => exact ⟨0, v, rfl, Nat.zero_le _, by simpa using H.out, AddP.refl _ _ _⟩
 case round =>
  obtain ⟨i, v', rfl, hi, hb, ha⟩ := hrel; rcases Nat.lt_or_ge i n with hin | hin
  ·have hinI : (i : Int) < (n : Int) := by omega
   by_cases hs0 : s = []
   ·subst hs0; have e : ∀ k, (List.replicate k ([] : List UInt8)).flatten = [] := by simp
    rw [e, List.append_nil] at hb; have HB := zh hb; have HA := zh ha; have HE := zh e; clear hb ha e; go_wp2_with fail
    (try simp only [Exit.inBlock, Exit.then])
    refine bodyPost_ret (results_none rfl _ _ _) rfl ?_; exact ⟨rfl, v', by rw [HE.out, List.append_nil]; exact HB.out, HA.out⟩
   have hsl : 0 < s.length := List.length_pos_iff.2 hs0
   have hnn : n ≤ 65536 := by
    have := Nat.mul_le_mul_left n hsl; omega
   have hemp : s.isEmpty = false := by cases s with | nil => exact absurd rfl hs0 | cons _ _ => rfl
   obtain ⟨ty, hty⟩ : ∃ ty, ty = tx ++ (List.replicate i s).flatten := ⟨_, rfl⟩
   have htl : ty.length + s.length ≤ 65536 := by
    rw [hty, List.length_append, List.length_flatten, List.map_replicate, List.sum_replicate_nat]; have h1 : (i + 1) * s.length ≤ n * s.length := Nat.mul_le_mul_right _ (by omega); rw [Nat.succ_mul] at h1; omega
   rw [← hty] at hb; obtain ⟨A, c, rfl⟩ := own_slice hb.2; have c0 := hb.1.cell_ (i := 0) rfl; have c1 := hb.1.cell_ (i := 1) rfl; obtain ⟨m, hm⟩ : ∃ m, m = ty.length := ⟨_, rfl⟩; obtain ⟨k, hk⟩ : ∃ k, k = s.length := ⟨_, rfl⟩; rw [← hm] at c0 c1 htl hb ha; rw [← hk] at htl hsl; have HB := zh hb; have HA := zh ha; have HTY := zh hty; have HM := zh hm; have HK := zh hk; have hfit : ¬ ((65536 : Int) < (m : Int) + (k : Int)) := by omega
   have hle : (m : Int) + (k : Int) ≤ 65536 := by omega
   have hsz : (⟨s.toArray⟩ : ByteArray).size = k := by rw [hk]; simp [ByteArray.size]
   clear hb ha hty hm hk; go_upto_region 6 with (at_builtin; refine wpList_append_strZ rfl (.tmp 33) (.tmp 34) 22 9 rfl 5 bi Tryz.underlying22 Tryz.underlying9 hbi hz0 hz1 hz2 (.slice A m c) m (byteVals ty) (by first | rfl | (simp [Act.eval]; done)) (by have := HB.out.2; rw [← HM.out] at this; exact this) s (by first | rfl | (simp [Act.eval]; done)) (by have := HK.out; omega) ?_; intro v4 w4 h2 h3 h4; obtain ⟨A4, c4, rfl⟩ := own_slice h2; have HADD := zh (BuM.add (s := s) HB.out (by rw [← HM.out]; exact h2) h3 h4); obtain ⟨-, -, fz4, u4, cz4⟩ := HADD.out; clear h2 h3 h4)
   go_wp2_with fail
   go_roundw
   case rel => exact ⟨i + 1, _, by go_num, by omega, by have h := HADD.out.1; rw [HTY.out] at h; rw [List.replicate_succ', List.flatten_append]; simpa using h, HA.out.trans HADD.out.2.1⟩
   case measure => first | (simp [intOf]; done) | (simp [intOf]; omega)
  ·have hinI : ¬ ((i : Int) < (n : Int)) := by omega
   obtain rfl : i = n := by omega
   have HB := zh hb; have HA := zh ha; clear hb ha; go_wp2_with fail
   go_end0
   exact ⟨rfl, v', HB.out, HA.out⟩
end Go.Proofs.YteofhjegaaoglaaGreat
