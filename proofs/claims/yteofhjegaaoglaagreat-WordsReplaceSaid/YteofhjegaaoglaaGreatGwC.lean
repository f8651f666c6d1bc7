/-
 MaV, WdI, WdJ, RnM: several small texts in one. No conditions.
-/
import Derived.Test.YteofhjegaaoglaaGreatMa3
import Derived.Test.YteofhjegaaoglaaGreatGg
import Derived.Test.YteofhjegaaoglaaGreatFi2
import Derived.KernelRfl
import Derived.Deep.Cut
import Derived.Test.YteofhjegaaoglaaGreatGwB
import Derived.Test.YteofhjegaaoglaaGreatGl
namespace Go.Proofs.YteofhjegaaoglaaGreat
open Go.RowKit
set_option linter.unusedVariables false
set_option linter.unusedSimpArgs false
def FdL (L : List Sp) : Prop := ProgOk L ∧ 0 < L.length ∧ L.length ≤ 5000
theorem fdl_of {bs : List UInt8} {t : RT} (h : parseS bs = .ok t) (hs : sizP (toP t) < 4000) : FdL (progT t) := by
 obtain ⟨h1, h2, h3, -, -⟩ := parse_prog h; exact ⟨h1, h2, by omega⟩
theorem FinderAt.fr {w w' : World} {lo fb : Nat} {L : List Sp} (h : FinderAt w lo fb L) (hf : Fr [] w w') : FinderAt w' lo fb L := by
 obtain ⟨A, c, h1, h2⟩ := h; exact ⟨A, c, h1.fr hf (by simp), own_keep h2 (KeepB.of_nil hf)⟩
theorem new_at {w : World} {A : Option Addr} {bs : List UInt8} {c : Nat} (n : Nat) (hn : bs.length = n) (t : RT) (hp : parseS bs = .ok t) (hs : sizP (toP t) < 4000) (h : Bytes w A bs) (hl : n ≤ 150) (hc : n ≤ c) (hA : A = none → c = 0) (hcm : c ≤ maxLen) (hg : GlobOk w) :
    Calls Tryz.prog 9 #[.slice A n c] w fun e w' => ∃ fb, e = .returned (.tuple #[.pointer (some ⟨fb, 0, none⟩), .nilIface]) ∧ FinderAt w' w.heap.size fb (progT t) ∧ Fr [] w w' := by
 subst hn; refine (new_any h hl hc hA hcm hg).mono ?_; rintro e w' ⟨hf, hr⟩; rw [hp] at hr; dsimp only at hr; rw [if_neg (by omega)] at hr; obtain ⟨fb, h1, -, h3⟩ := hr; exact ⟨fb, h1, h3, hf⟩
theorem bytes_new (w : World) (bs : List UInt8) : Bytes (w.alloc (.cells (byteVals bs).toArray 5)) (some ⟨w.heap.size, 0, none⟩) bs :=
 At.of_bk (n := bs.length) (Bk.new w 5 (byteVals bs).toArray) (by rw [List.take_of_length_le (by simp [byteVals])])
def tOf (bs : List UInt8) : RT := match parseS bs with | .ok t => t | .error _ => tNone
theorem ex7_a : parseS [108, 43] = .ok (tOf [108, 43]) := by kernel_rfl
theorem ex7_as : sizP (toP (tOf [108, 43])) < 4000 := by
 have h : sizP (toP (tOf [108, 43])) = 4 := by kernel_rfl
 omega
theorem ex7_af : FdL (progT (tOf [108, 43])) := fdl_of ex7_a ex7_as
theorem ex7_find : findsS (progT (tOf [108, 43])) [104, 101, 108, 108, 111] = [(2, 4)] := by kernel_rfl
end Go.Proofs.YteofhjegaaoglaaGreat
namespace Go.Proofs.YteofhjegaaoglaaGreat
open Go.RowKit
set_option linter.unusedVariables false
set_option linter.unusedSimpArgs false
structure RpI (w0 : World) (g b9 b13 : Nat) (St : List Nat) (k bh : Nat) (v : Value) (tx : List UInt8) (W : World) : Prop where
 fr : Fr [g, b9, b13] w0 W
 st : ∀ b ∈ St, w0.heap.size ≤ b
 nb : Bk W b9 3 #[.int .i64 (k : Int)]
 bb : Bk W b13 3 #[.int .i64 (bh : Int)]
 bu : BuM W g v tx
 vb : ∀ b, v.ownBlock = some b → w0.heap.size + 2 ≤ b ∧ b ∉ St
theorem BuM.fr {w w' : World} {g : Nat} {v : Value} {tx : List UInt8} {l : List Nat} (h : BuM w g v tx) (hf : Fr l w w') (hg : g ∉ l) (hv : ∀ b, v.ownBlock = some b → b ∉ l) : BuM w' g v tx := by
 obtain ⟨h1, h2⟩ := h; obtain ⟨A, c, rfl⟩ := own_slice h2; exact ⟨h1.fr hf hg, own_fr h2 hf hv⟩
theorem RpI.far {w0 : World} {g b9 b13 : Nat} {St St' : List Nat} {k bh : Nat} {v : Value} {tx : List UInt8} {W W' : World} (h : RpI w0 g b9 b13 St k bh v tx W) (hg : g < w0.heap.size ∧ b9 < w0.heap.size ∧ b13 < w0.heap.size) (hf : Fr St W W') (hS : ∀ b ∈ St', b ∈ St ∨ W.heap.size ≤ b) : RpI w0 g b9 b13 St' k bh v tx W' := by
 have hsz := h.fr.size; refine ⟨h.fr.trans' hf (fun b hb => .inr (h.st b hb)), fun b hb => ?_, h.nb.fr hf (fun hm => by have := h.st _ hm; omega), h.bb.fr hf (fun hm => by have := h.st _ hm; omega), h.bu.fr hf (fun hm => by have := h.st _ hm; omega) (fun b hb => (h.vb b hb).2), fun b hb => ⟨(h.vb b hb).1, fun hm => ?_⟩⟩
 ·rcases hS b hb with e | e
  ·exact h.st b e
  ·omega
 ·rcases hS b hm with e | e
  ·exact (h.vb b hb).2 e
  ·obtain ⟨-, cur, hc⟩ := own_base h.bu.2 b hb; have := hc.lt; omega
theorem RpI.step {w0 : World} {g b9 b13 kbx : Nat} {St : List Nat} {k bh k' bh' : Nat} {v v' : Value} {tx tx' : List UInt8} {W2 W3 : World} (h : RpI w0 g b9 b13 St k bh v tx W2) (hg : g < w0.heap.size ∧ b9 < w0.heap.size ∧ b13 < w0.heap.size) (hk : kbx < w0.heap.size) (hk1 : kbx ≠ g ∧ kbx ≠ b9 ∧ kbx ≠ b13) (hW : w0.heap.size + 2 ≤ W2.heap.size) (hSt : ∀ b ∈ St, b < W2.heap.size)
    (hf : Fr (g :: b9 :: b13 :: v.ownBlock.toList) W2 W3) (h2 : Bk W3 b9 3 #[.int .i64 (k' : Int)]) (h3 : Bk W3 b13 3 #[.int .i64 (bh' : Int)]) (h4 : BuM W3 g v' tx') (h5 : ∀ b, v'.ownBlock = some b → v.ownBlock = some b ∨ W2.heap.size ≤ b) :
    (∀ b ∈ kbx :: St, W3.heap[b]? = W2.heap[b]?) ∧ KB (w0.heap.size + 2) W2 W3 ∧ RpI w0 g b9 b13 St k' bh' v' tx' W3 := by
 have hsz := h.fr.size; refine ⟨fun x hx => ?_, KB.of_fr hf (fun x hx => ?_), h.fr.trans' hf (fun b hb => ?_), h.st, h2, h3, h4, fun b hb => ?_⟩
 ·rcases List.mem_cons.1 hx with rfl | hx
  ·refine hf.block x (by omega) (fun hm => ?_); simp only [List.mem_cons, Option.mem_toList] at hm; rcases hm with e | e | e | e
   ·exact hk1.1 e
   ·exact hk1.2.1 e
   ·exact hk1.2.2 e
   ·have := (h.vb x e).1; omega
  ·have hs := h.st x hx; refine hf.block x (hSt x hx) (fun hm => ?_); simp only [List.mem_cons, Option.mem_toList] at hm; rcases hm with e | e | e | e
   ·omega
   ·omega
   ·omega
   ·exact (h.vb x e).2 hx
 ·simp only [List.mem_cons, Option.mem_toList] at hx; rcases hx with rfl | rfl | rfl | e
  ·obtain ⟨A, c, hv⟩ := own_slice h.bu.2; refine ⟨_, _, h.bu.1, by decide, .inr (fun i y => ?_)⟩; rw [hv]; rcases i with _ | _ | i <;> simp
  ·exact ⟨_, _, h.nb, by decide, .inr (fun i y => by rcases i with _ | i <;> simp)⟩
  ·exact ⟨_, _, h.bb, by decide, .inr (fun i y => by rcases i with _ | i <;> simp)⟩
  ·obtain ⟨-, cur, hc⟩ := own_base h.bu.2 x e; exact ⟨_, _, hc, by decide, .inl (h.vb x e).1⟩
 ·simp only [List.mem_cons, Option.mem_toList] at hb; rcases hb with rfl | rfl | rfl | e
  ·exact .inl (by simp)
  ·exact .inl (by simp)
  ·exact .inl (by simp)
  ·exact .inr (by have := (h.vb b e).1; omega)
 ·rcases h5 b hb with e | e
  ·exact h.vb b e
  ·exact ⟨by omega, fun hm => by have := hSt b hm; omega⟩
theorem repl_step {ps : List (List UInt8 × Nat)} {s OUT tx : List UInt8} {FLA : List (Nat × Nat)} {k bh : Nat} {q : Nat × Nat} (hq : FLA[k]? = some q) (h : tx ++ replF ps s (FLA.drop k) bh = OUT) :
    tx ++ (s.drop bh).take (q.1 - bh) ++ becomeM ps ((s.drop q.1).take (q.2 - q.1)) ++ replF ps s (FLA.drop (k + 1)) q.2 = OUT := by
 have hd : FLA.drop k = q :: FLA.drop (k + 1) := by
  obtain ⟨h1, h2⟩ := List.getElem?_eq_some_iff.1 hq; rw [List.drop_eq_getElem_cons h1, h2]
 rw [hd, replF] at h; rw [← h]; simp [List.append_assoc]
theorem become_step {ps : List (List UInt8 × Nat)} {fd tx R OUT : List UInt8} {j : Nat} {p : List UInt8 × Nat} (hp : ps[j]? = some p) (h : tx ++ becomeM (ps.drop j) fd ++ R = OUT) :
    tx ++ p.1 ++ (List.replicate p.2 fd).flatten ++ becomeM (ps.drop (j + 1)) fd ++ R = OUT := by
 have hd : ps.drop j = p :: ps.drop (j + 1) := by
  obtain ⟨h1, h2⟩ := List.getElem?_eq_some_iff.1 hp; rw [List.drop_eq_getElem_cons h1, h2]
 rw [hd] at h; rw [← h]; simp [becomeM, List.append_assoc]
theorem pcC_get {ps : List (List UInt8 × Nat)} {j : Nat} {p : List UInt8 × Nat} (hp : ps[j]? = some p) : (pcC ps)[j * 2]? = some (.string ⟨p.1.toArray⟩) ∧ (pcC ps)[j * 2 + 1]? = some (.int .i64 (p.2 : Int)) := by
 induction ps generalizing j with
 | nil => simp at hp
 | cons x r ih =>
  cases j with
  | zero => simp at hp; subst hp; simp [pcC]
  | succ j =>
   simp at hp; obtain ⟨h1, h2⟩ := ih hp; have e1 : (j + 1) * 2 = j * 2 + 2 := by omega
   have e2 : (j + 1) * 2 + 1 = j * 2 + 1 + 2 := by omega
   refine ⟨?_, ?_⟩
   ·rw [e1]; simpa [pcC] using h1
   ·rw [e2]; simpa [pcC] using h2
theorem pcC_len (ps : List (List UInt8 × Nat)) : (pcC ps).length = ps.length * 2 := by
 induction ps with
 | nil => rfl
 | cons x r ih => simp [pcC] at ih ⊢; omega
end Go.Proofs.YteofhjegaaoglaaGreat
namespace Go.Proofs.YteofhjegaaoglaaGreat
set_option linter.unusedVariables false
set_option linter.unusedSimpArgs false
theorem tokM_len : ∀ w : List UInt8, (tokM w).length ≤ w.length
 | [] => by simp [tokM]
 | [c] => by simp [tokM]
 | c :: d :: r => by
  rw [tokM]; split
  ·have := tokM_len (d :: r); simp at this ⊢; omega
  ·split
   ·have := tokM_len r; simp at this ⊢; omega
   ·have := tokM_len (d :: r); simp at this ⊢; omega
theorem pcT_len : ∀ (T : List (Option UInt8)) (tx : List UInt8) (n : Nat), (pcT T tx n).length ≤ T.length + 1
 | [], tx, n => by rw [pcT]; split <;> simp
 | none :: r, tx, n => by rw [pcT]; have := pcT_len r tx (n + 1); simp; omega
 | some c :: r, tx, n => by
  rw [pcT]; split
  ·have := pcT_len r [c] 0; simp; omega
  ·have := pcT_len r (tx ++ [c]) 0; simp; omega
theorem pieces_len (w : List UInt8) : (piecesM w).length ≤ w.length + 1 := Nat.le_trans (pcT_len _ _ _) (Nat.succ_le_succ (tokM_len w))
theorem fla_get {all : Bool} {FL FLA : List (Nat × Nat)} {k : Nat} {q : Nat × Nat} (h : FLA = if all then FL else FL.take 1) (hk0 : all = false → k = 0) (hq : FL[k]? = some q) : FLA[k]? = some q := by
 cases all with
 | true => rw [h]; exact hq
 | false =>
  obtain rfl := hk0 rfl; rw [h]; cases FL with
  | nil => simp at hq
  | cons x r => simpa using hq
theorem fla_get' {all : Bool} {FL FLA : List (Nat × Nat)} {k : Nat} {q : Nat × Nat} (h : FLA = if all then FL else FL.take 1) (hq : FLA[k]? = some q) : FL[k]? = some q := by
 cases all with
 | true => rw [h] at hq; exact hq
 | false =>
  rw [h] at hq; simp only [Bool.false_eq_true, if_false] at hq; rw [List.getElem?_take] at hq; split at hq
  ·exact hq
  ·cases hq
theorem fla_next {FL : List (Nat × Nat)} {k : Nat} {q r : Nat × Nat} (hp : FL.Pairwise (fun p q => p.2 ≤ q.1)) (hq : FL[k]? = some q) (hr : FL[k + 1]? = some r) : q.2 ≤ r.1 := by
 obtain ⟨h1, h2⟩ := List.getElem?_eq_some_iff.1 hq; obtain ⟨h3, h4⟩ := List.getElem?_eq_some_iff.1 hr; have := List.pairwise_iff_getElem.1 hp k (k + 1) h1 h3 (Nat.lt_succ_self k); rw [h2, h4] at this; exact this
theorem cat_len2 {tx A B R OUT : List UInt8} (h : tx ++ A ++ B ++ R = OUT) (hO : OUT.length ≤ 65536) : tx.length + A.length ≤ 65536 := by
 rw [← h] at hO; simp at hO; omega
theorem cat_len3 {tx A fd B R OUT : List UInt8} {n : Nat} (h : tx ++ A ++ (List.replicate n fd).flatten ++ B ++ R = OUT) (hO : OUT.length ≤ 65536) : (tx ++ A).length + n * fd.length ≤ 65536 ∧ tx.length + 1 * A.length ≤ 65536 := by
 rw [← h] at hO; simp only [List.length_append, List.length_flatten, List.map_replicate, List.sum_replicate_nat] at hO ⊢; omega
theorem fla_end {all : Bool} {FL FLA : List (Nat × Nat)} (h : FLA = if all then FL else FL.take 1) (hk0 : all = false → FL.length = 0) : FLA.drop FL.length = [] ∧ FLA.length = FL.length := by
 cases all with
 | true => rw [h]; exact ⟨List.drop_of_length_le (Nat.le_refl _), rfl⟩
 | false =>
  have h0 := List.eq_nil_of_length_eq_zero (hk0 rfl); rw [h, h0]; exact ⟨rfl, rfl⟩
theorem fla_stop {all : Bool} {FL FLA : List (Nat × Nat)} (h : FLA = if all then FL else FL.take 1) (ha : all = false) (h1 : 1 ≤ FLA.length) : FLA.drop 1 = [] ∧ FLA.length = 1 := by
 have h2 : FLA.length ≤ 1 := by rw [h, ha]; simp; omega
 exact ⟨List.drop_of_length_le h2, by omega⟩
theorem cat_end {tx A OUT : List UInt8} (h : tx ++ A = OUT) (hO : OUT.length ≤ 65536) : tx.length + 1 * A.length ≤ 65536 := by
 rw [← h] at hO; simp at hO; omega
end Go.Proofs.YteofhjegaaoglaaGreat
namespace Go.Proofs.YteofhjegaaoglaaGreat
open Go.RowKit Go.Shelf Go.ChangeShapes Go.WideShapes Go.Maps
set_option linter.unusedVariables false
set_option linter.unusedSimpArgs false
section
variable {P : Program}
theorem op_inRound {o : Oper} {a : Act} {w : World} {K : Act → World → Prop} {Q : Exit → Act → World → Prop} (l m : Nat) (hd : ∀ c, o.op ≠ .defer c) (h : o.wp P a w K Q) : o.wpIn (Fence.wide.inRound l) m P a w K Q := by
 unfold Oper.wp at h; refine ⟨fun _ _ => trivial, ?_⟩; rw [Oper.semAt_eq _ _ _ hd]
 generalize (execOp a.eval o).run P w = r at h ⊢
 cases r with
 | ok x w' =>
  cases x with
  | value v => exact h
  | skip => exact h
  | defer d => exact h
  | enter f args =>
   refine ⟨fun h => (by cases h), CallsIn.inRound l (callsIn_wide.2 (Calls.mono h fun e w'' he => ?_))⟩
   cases e <;> exact he
  | row row args =>
   refine ⟨fun h => (by cases h), fun c cs _ => ?_⟩; obtain ⟨v, w'', r, s⟩ := h c cs; exact ⟨v, w'', r, stepsIn_wide.2 s⟩
  | _ => exact h.elim
 | halt x w' => cases x <;> exact h
def noDefer (l : List Oper) : Bool := l.all fun o => match o.op with
 | .defer _ => false
 | _ => true
theorem noDefer_spec {l : List Oper} (h : noDefer l = true) {i : Nat} {o : Oper} (ho : l.toArray[i]? = some o) : ∀ c, o.op ≠ .defer c := by
 intro c hc; unfold noDefer at h; rw [List.all_eq_true] at h
 have hm : o ∈ l := by
  rw [List.getElem?_toArray] at ho; exact List.mem_of_getElem? ho
 have := h o hm; rw [hc] at this
 cases this
theorem wpAny_inRound {md : Region.Mode} {l : List Oper} {Q : Exit → Act → World → Prop} (rl m : Nat) (hd : noDefer l = true) (hq : ∀ a w, ¬ Q .outgrown a w) : ∀ (n : Nat) (listed : Array Bool) (a : Act) (w : World),
    wpAny P md l.toArray Q n listed a w → wpAnyIn (Fence.wide.inRound rl) m P md l.toArray Q n listed a w
 | 0, _, _, _, h => h
 | n + 1, listed, a, w, h => by
  refine ⟨h.1, fun i hi => ?_⟩; have h2 := h.2 i hi; unfold wpOp at h2; unfold wpOpIn
  cases ho : l.toArray[i]? with
  | none => rw [ho] at h2; exact wpAny_inRound rl m hd hq n _ a w h2
  | some o =>
   rw [ho] at h2; dsimp only at h2 ⊢; split at h2
   ·rename_i hw
    rw [if_pos hw]; rcases h2 with h2 | ⟨-, a', w', h2⟩
    ·exact Oper.wpIn_mono (fun a w h => wpAny_inRound rl m hd hq n _ a w h) (op_inRound rl m (noDefer_spec hd ho) h2)
    ·exact absurd h2 (hq a' w')
   ·rename_i hw
    rw [if_neg hw]; exact ⟨fun _ _ => trivial, wpAny_inRound rl m hd hq n _ _ w h2⟩
theorem wpIn_region_M_ {G : World → World → Prop} {S : World → Prop} {id rl m : Nat} {a : Act} {w : World} {Q : Exit → Act → World → Prop} {l : List Oper} (su : Setup P l Q G S) (hm : P.follows .mixedOrders = true) (hd : noDefer l = true) (hq : ∀ a w, ¬ Q .outgrown a w)
    (h : Setup P l Q G S → wpAnyM P .any l.toArray Q G S l.length (Array.replicate l.length false) a w.drew) : (Code.region id l.toArray true).wpIn (Fence.wide.inRound rl) m P Q a w := by
 refine wpIn_region_any hm (wpAny_inRound rl m hd hq _ _ _ _ (wpAnyM.any (G := G) (S := S) su.r _ _ _ _ ?_)); have e : l.toArray.size = l.length := by simp
 rw [e]; exact h su
end
end Go.Proofs.YteofhjegaaoglaaGreat
