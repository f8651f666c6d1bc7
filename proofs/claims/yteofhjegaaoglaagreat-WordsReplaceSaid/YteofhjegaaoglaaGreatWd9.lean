/-
 words.Replace: every expression, texts of at most 10000 bytes, an outcome of at most 65536.
-/
import Derived.Test.YteofhjegaaoglaaGreatGwC
namespace Go.Proofs.YteofhjegaaoglaaGreat
open Go.RowKit Go.Shelf
attribute [local go_sem] Oper.semAt_some
set_option linter.unusedVariables false
set_option linter.unusedSimpArgs false
section
variable {P : Program}
theorem wpc_ {o : Oper} {a : Act} {w : World} {K : Act → World → Prop} {Q : Exit → Act → World → Prop} {f : FuncId} {args : Array Value} {R : Value → World → Prop} (hr : (execOp a.eval o).run P w = .ok (.enter f args) w) (hc : Calls P f args w fun e w' => ∃ v, e = .returned v ∧ R v w') (hK : ∀ v w', R v w' → K (a.put o.dst v) w') : o.wp P a w K Q := by
 unfold Oper.wp; rw [hr, Oper.upon_enter]; exact hc.mono fun e w' ⟨v, he, h⟩ => by subst he; exact hK v w' h
variable {Q : Exit → Act → World → Prop} {md : Region.Mode} {G : World → World → Prop} {S : World → Prop} {l r : List Oper} {o : Oper} {i n : Nat} {listed : Array Bool} {a : Act} {w : World}
theorem M_strW (src dst : TypeId) (x : Operand) (su : Setup P l Q G S) (ho : l.drop i = o :: r) (hop : o.op = .convert src dst x) (e : TypeId) (hs : P.underlying src = some (.slice e)) (he : P.underlying e = some (.int .u8)) (hd : P.underlying dst = some .string)
    (A : Option Addr) (len c : Nat) (hxv : a.eval x = .slice A len c) (bs : List UInt8) (hx : ∀ W, S W → At W A (byteVals bs)) (hn : bs.length = len)
    (hB : ((Region.ready md l.toArray listed).contains i && Region.free md l.toArray listed i) = true) (hS : S w) (hw : Region.wanted o (yielded l.toArray a.tmps) = true)
    (hr : wpAnyM P md l.toArray Q G S n (listed.setIfInBounds i true) (a.put o.dst (.string ⟨bs.toArray⟩)) w) : wpAnyM P md l.toArray Q G S (n + 1) listed a w := by
 refine M_val su ho hB hS hw (fun w' hS' => ?_) hr; unfold execOp; simp only [hop, hxv, run_str_ (P := P) src dst e hs he hd A bs len c (hx w' hS') hn, Sem.run_bind, Result.andThen_ok, Sem.run_pure]
end
def ReI (w5 : World) (g b9 b13 : Nat) (ps : List (List UInt8 × Nat)) (s OUT : List UInt8) (FLA : List (Nat × Nat)) (all : Bool) (M : Nat) (St : List Nat) (k : Nat) (W : World) : Prop :=
 ∃ bh v tx, RpI w5 g b9 b13 St k bh v tx W ∧ bh ≤ M ∧ (all = false → k = 0) ∧ tx ++ replF ps s (FLA.drop k) bh = OUT ∧ ∀ q, FLA[k]? = some q → bh ≤ q.1
def ReX (w5 : World) (g b9 b13 : Nat) (ps : List (List UInt8 × Nat)) (s OUT : List UInt8) (FLA : List (Nat × Nat)) (all : Bool) (M : Nat) (St : List Nat) (W : World) : Prop :=
 all = false ∧ ∃ bh v tx, RpI w5 g b9 b13 St 1 bh v tx W ∧ bh ≤ M ∧ tx ++ replF ps s (FLA.drop 1) bh = OUT ∧ 1 ≤ FLA.length
def ReplPost (w : World) (out : List UInt8) (n : Nat) (e : Ending) (w' : World) : Prop := e = .returned (.tuple #[.string ⟨out.toArray⟩, .int .i64 (n : Int), .nilIface]) ∧ Fr [] w w'
set_option maxRecDepth 100000 in
set_option maxHeartbeats 16000000 in
theorem replace_any {w : World} {lo fb : Nat} {L : List Sp} (hF : FinderAt w lo fb L) (hd : FdL L) (wd s : List UInt8) (all : Bool) (hwl : wd.length ≤ 10000) (hsl : s.length ≤ 10000) (FLA : List (Nat × Nat)) (hFLA : FLA = if all then findsS L s else (findsS L s).take 1) (OUT : List UInt8) (hOUT : OUT = replF (piecesM wd) s FLA 0) (hout : OUT.length ≤ 65536) :
    Calls Tryz.prog 5 #[.pointer (some ⟨fb, 0, none⟩), .string ⟨wd.toArray⟩, .string ⟨s.toArray⟩, .bool all] w (ReplPost w OUT FLA.length) := by
 obtain ⟨S, hS⟩ : ∃ S, S = (⟨s.toArray⟩ : ByteArray) := ⟨_, rfl⟩; obtain ⟨WD, hWD⟩ : ∃ S, S = (⟨wd.toArray⟩ : ByteArray) := ⟨_, rfl⟩; obtain ⟨M, hM⟩ : ∃ M, M = s.length := ⟨_, rfl⟩; obtain ⟨ps, hps⟩ : ∃ ps, ps = piecesM wd := ⟨_, rfl⟩; obtain ⟨kp, hkp⟩ : ∃ kp, kp = ps.length := ⟨_, rfl⟩; obtain ⟨fn, hfn⟩ : ∃ fn, fn = FLA.length := ⟨_, rfl⟩; have hs1 : S.size = M := by rw [hS, hM]; simp [ByteArray.size]
 rw [← hS, ← hWD, ← hfn]; have hkb0 : kp ≤ 100000 := by rw [hkp, hps]; have := pieces_len wd; omega
 have HKB := zh hkb0; clear hkb0
 have HPI : Hid (∀ W, Calls Tryz.prog 13 #[.string WD] W fun e w' => ∃ A c, e = .returned (.slice A kp c) ∧ w'.ownsRow W.heap.size 57 2 (.slice A kp c) kp (pcC ps) ∧ Fr [] W w') := zh fun W => by
  rw [hWD, hkp, hps]; exact pieces_any W wd hwl
 have HS := zh hS; have HM := zh hM; have HPS := zh hps; have HKP := zh hkp; have HFN := zh hfn; have HFL := zh hFLA; have HO := zh hOUT; have HF := zh hF; have HD := zh hd; have HOL := zh hout; rw [hM.symm] at hsl; clear hS hWD hM hps hkp hfn hFLA hOUT hF hd hout hwl; refine calls_marks Tryz.func5 rfl ?_; simp only [Tryz.ntmps5, List.size_toArray, List.length_cons, List.length_nil, Nat.reduceAdd, Nat.reduceSub, Array.replicate_succ, Array.replicate_zero, List.push_toArray, List.append_toArray, List.nil_append, List.cons_append]; go_upto_region 3 with fail
 go_upto_region 4 with (go_at_call 13; refine (HPI.out _).mono ?_; rintro e w1 ⟨PA, pc, rfl, hpo, hf⟩; have HPO := zh hpo; have HF1 := zh hf; clear hpo hf)
 go_upto_region 6 with fail
 obtain ⟨b6, h6⟩ : ∃ x, x = w.heap.size := ⟨_, rfl⟩; obtain ⟨b7, h7⟩ : ∃ x, x = w.heap.size + 1 := ⟨_, rfl⟩; obtain ⟨b9, h9⟩ : ∃ x, x = w.heap.size + 1 + 1 := ⟨_, rfl⟩; obtain ⟨b11, h11⟩ : ∃ x, x = w1.heap.size := ⟨_, rfl⟩; obtain ⟨g, hg⟩ : ∃ x, x = w1.heap.size + 1 := ⟨_, rfl⟩; obtain ⟨b12, h12⟩ : ∃ x, x = w1.heap.size + 1 + 1 := ⟨_, rfl⟩; obtain ⟨b13, h13⟩ : ∃ x, x = w1.heap.size + 1 + 1 + 1 := ⟨_, rfl⟩; obtain ⟨w3, hw3⟩ : ∃ w3, w3 = (((w1.alloc (.cells #[.slice PA kp pc] 47)).alloc (.cells #[.slice none 0 0, .bool false] 51)).alloc (.cells #[.pointer (some ⟨w1.heap.size + 1, 0, none⟩)] 49)).alloc (.cells #[.int .i64 0] 3) := ⟨_, rfl⟩
 have k6 : Bk w3 b6 9 #[.string S] := by
  have h := (((Bk.new w 9 #[.string S]).alloc (.cells #[.bool all] 4)).alloc (.cells #[.int .i64 0] 3)).fr HF1.out (by simp); rw [hw3, h6]; exact (((h.alloc _).alloc _).alloc _).alloc _
 have k7 : Bk w3 b7 4 #[.bool all] := by
  have h := Bk.new (w.alloc (.cells #[.string S] 9)) 4 #[.bool all]; rw [World.size_alloc] at h; have h := (h.alloc (.cells #[.int .i64 0] 3)).fr HF1.out (by simp); rw [hw3, h7]; exact (((h.alloc _).alloc _).alloc _).alloc _
 have k9 : Bk w3 b9 3 #[.int .i64 0] := by
  have h := Bk.new ((w.alloc (.cells #[.string S] 9)).alloc (.cells #[.bool all] 4)) 3 #[.int .i64 0]; rw [World.size_alloc, World.size_alloc] at h; have h := h.fr HF1.out (by simp); rw [hw3, h9]; exact (((h.alloc _).alloc _).alloc _).alloc _
 have k11 : Bk w3 b11 47 #[.slice PA kp pc] := by
  rw [hw3, h11]; exact (((Bk.new w1 _ _).alloc _).alloc _).alloc _
 have kg : Bk w3 g 51 #[.slice none 0 0, .bool false] := by
  have h := Bk.new (w1.alloc (.cells #[.slice PA kp pc] 47)) 51 #[.slice none 0 0, .bool false]; rw [World.size_alloc] at h; rw [hw3, hg]; exact (h.alloc _).alloc _
 have k12 : Bk w3 b12 49 #[.pointer (some ⟨g, 0, none⟩)] := by
  have h := Bk.new ((w1.alloc (.cells #[.slice PA kp pc] 47)).alloc (.cells #[.slice none 0 0, .bool false] 51)) 49 #[.pointer (some ⟨w1.heap.size + 1, 0, none⟩)]; rw [World.size_alloc, World.size_alloc] at h; rw [hw3, h12, hg]; exact h.alloc _
 have k13 : Bk w3 b13 3 #[.int .i64 0] := by
  have h := Bk.new (((w1.alloc (.cells #[.slice PA kp pc] 47)).alloc (.cells #[.slice none 0 0, .bool false] 51)).alloc (.cells #[.pointer (some ⟨w1.heap.size + 1, 0, none⟩)] 49)) 3 #[.int .i64 0]; simp only [World.size_alloc] at h; rw [hw3, h13]; exact h
 have h13f : Fr [] w1 w3 := by rw [hw3]; exact ((((Fr.refl [] w1).alloc _).alloc _).alloc _).alloc _
 have hx3 : Fr [] w w3 := ((((Fr.refl [] w).alloc (.cells #[.string S] 9)).alloc (.cells #[.bool all] 4)).alloc (.cells #[.int .i64 0] 3)).trans (HF1.out.trans h13f); have hbu : BuM w3 g (.slice none 0 0) [] := ⟨kg, World.ownsRow_nil _ _ _ _⟩
 have hpo3 := own_rebase (base' := w.heap.size) (own_keep HPO.out (KeepB.of_nil h13f)) (fun x hx => by
  have h := (own_base HPO.out x hx).1; simp at h
  omega)
 rw [← hw3, ← h9, ← h7, ← h6, ← h13, ← h12, ← hg, ← h11]
 have hord : w.heap.size ≤ b6 ∧ b6 < b7 ∧ b7 < b9 ∧ b9 < b11 ∧ b11 < g ∧ g < b12 ∧ b12 < b13 := by
  have := HF1.out.size; simp at this; omega
 have d6 := k6.cell_ (i := 0) rfl; have HORD := zh hord; have K6 := zh k6; have K7 := zh k7; have K9 := zh k9; have K11 := zh k11; have K12 := zh k12; have K13 := zh k13; have HX3 := zh hx3; have HBU := zh hbu; have HPO3 := zh hpo3; have HFA := zh (fun (W : World) (A : Option Addr) (c : Nat) (hb : Bytes W A s) (hA : A = none → c = 0) (hc : s.length ≤ c) (hl : s.length ≤ 10000) => Finds_any (fb := fb) hb hA hc hl); have HFI3 := zh (HF.out.fr hx3); clear hw3 h6 h7 h9 h11 hg h12 h13 hord k6 k7 k9 k11 k12 k13 kg hx3 h13f hbu hpo3 HPI HPO HF1 HF
 go_upto_region 7 with (first
  | (refine wpList_bytes rfl 9 22 (.tmp 26) rfl 5 Tryz.underlying9 Tryz.underlying22 Tryz.underlying5 S (by first | rfl | (simp [Act.eval]; done)) (by unfold maxLen; omega) ?_; intro A4 c4 w4 hat4 hsz4 hcm4 hA4 hf4; rw [hs1] at hsz4 ⊢; have HAT4 := zh hat4; have HA4 := zh hA4; have HF4 := zh hf4; clear hat4 hA4 hf4)
  | (go_at_call 14; go_loud (refine (by have h := HFA.out _ A4 c4 (by have h := HAT4.out; rw [HS.out] at h; exact h) (by rw [HA4.out]; intro h; cases h) (by have := HM.out; omega) (by have := HM.out; omega); rw [← HM.out] at h; exact h : Calls _ _ _ w4 _).mono ?_; rintro e w5 ⟨fbx, kbx, A3, c3, rfl, hfbx, hkbx, hb3, hle3, hbd3, hf3, hkl⟩; have HFX := zh hfbx; have HKX := zh hkbx; have HB3 := zh hb3; have HLE3 := zh hle3; have HBD3 := zh hbd3; have HF5 := zh (HF4.out.trans hf3); have HKL := zh hkl; clear hfbx hkbx hb3 hle3 hbd3 hf3 hkl)))
 have h5 := HF5.out; have hkb5 := World.block_lt_of_cell? _ _ HKX.out; dsimp only at hkb5
 have hk5 : kbx ≠ g ∧ kbx ≠ b9 ∧ kbx ≠ b13 := by
  have h1 := HKL.out; have h2 := HF4.out.size; have h3 := K13.out.lt; have h4 := HORD.out; omega
 have hg5 : g < w5.heap.size ∧ b9 < w5.heap.size ∧ b13 < w5.heap.size := by
  have h2 := h5.size; have h3 := K13.out.lt; have h4 := HORD.out; omega
 have hi5 : RpI w5 g b9 b13 [] 0 0 (.slice none 0 0) [] w5 := ⟨Fr.refl _ _, by simp, K9.out.fr h5 (by simp), K13.out.fr h5 (by simp), HBU.out.fr h5 (by simp) (by simp), by simp [Value.ownBlock]⟩
 have hkeep : ∀ W, Fr [g, b9, b13] w5 W → Bk W b6 9 #[.string S] ∧ Bk W b7 4 #[.bool all] ∧ Bk W b11 47 #[.slice PA kp pc] ∧ Bk W b12 49 #[.pointer (some ⟨g, 0, none⟩)] ∧ W.ownsRow w.heap.size 57 2 (.slice PA kp pc) kp (pcC ps) ∧ Fr [] w W := by
  intro W hW; have ho := HORD.out; have hx := HX3.out.trans h5; refine ⟨(K6.out.fr h5 (by simp)).fr hW (by simp; omega), (K7.out.fr h5 (by simp)).fr hW (by simp; omega), (K11.out.fr h5 (by simp)).fr hW (by simp; omega), (K12.out.fr h5 (by simp)).fr hW (by simp; omega), ?_, hx.trans' hW (fun b hb => .inr (by simp at hb; omega))⟩; refine own_keep (own_keep HPO3.out (KeepB.of_nil h5)) (fun b cs hb => hb.fr hW (fun hm => ?_)); simp only [List.mem_cons, List.not_mem_nil, or_false] at hm; rcases hm with e | e | e
  ·exact hb.ne_ (HBU.out.fr h5 (by simp) (by simp [Value.ownBlock])).1 (by decide) e
  ·exact hb.ne_ (K9.out.fr h5 (by simp)) (by decide) e
  ·exact hb.ne_ (K13.out.fr h5 (by simp)) (by decide) e
 have HI5 := zh hi5; have HKEEP := zh hkeep; have HG5 := zh hg5; have HK5 := zh hk5; have HFI5 := zh (HFI3.out.fr h5); clear h5 hk5 hi5 hkeep hg5 HF4 HF5 HAT4 HA4 HFA; go_wp2_with fail
 refine wp_rangeFinds (fbx := fbx) (kbx := kbx) (fb := fb) (L := L) (A2 := A3) (tx := s) (c2 := c3) rfl rfl HFX.out HKX.out HFI5.out HB3.out HLE3.out HBD3.out HD.out.2.1 HD.out.2.2 HD.out.1 (by have := HM.out; omega)
  (fun St k W => ReI w5 g b9 b13 ps s OUT FLA all M St k W)
  (fun St c W => c = .exit 0 ∧ ReX w5 g b9 b13 ps s OUT FLA all M St W) ?hI0 ?hfr ?hfx ?round ?done ?stop
 case hI0 =>
  intro St W' hf hSt; have h := HI5.out.far HG5.out (hf.mono (by simp)) (St' := St) (fun b hb => .inr (hSt b hb).1); exact ⟨0, _, _, h, Nat.zero_le _, fun _ => rfl, by rw [HO.out, HPS.out]; rfl, fun _ _ => Nat.zero_le _⟩
 case hfr =>
  rintro St St' k W1 W2 ⟨bh, v, tx, h1, h2, h3, h4, h5⟩ hf hS; exact ⟨bh, v, tx, h1.far HG5.out hf hS, h2, h3, h4, h5⟩
 case hfx =>
  rintro St c W1 W2 ⟨hc, ha, bh, v, tx, h1, h2⟩ hf; exact ⟨hc, ha, bh, v, tx, h1.far HG5.out hf (fun b hb => .inl hb), h2⟩
 case round =>
  rintro St l k ⟨x1, x2⟩ W hl hSt hW2 hx ⟨bh, v, tx, h1, hbm, hk0, htx, hbq⟩; dsimp only; have H1 := zh h1; have HK0 := zh hk0; have HTX := zh htx; have HBQ := zh hbq; have HX := zh hx; have HL0 := zh hl; clear h1 hk0 htx hbq hx hl; gi_wp2; refine ⟨Fr.refl [] W, fun W2 hf2 => ?_⟩; have h2 := H1.out.far HG5.out (hf2.mono (by simp; exact .inl HL0.out)) (St' := St) (fun b hb => .inl hb); have hSt2 : ∀ b ∈ St, b < W2.heap.size := fun b hb => Nat.lt_of_lt_of_le (hSt b hb).2 hf2.size; have hW3 : w5.heap.size + 2 ≤ W2.heap.size := Nat.le_trans hW2 hf2.size; obtain ⟨y6, y7, y11, y12, yo, yf⟩ := HKEEP.out W2 h2.fr; have H2 := zh h2; have HST2 := zh hSt2; have HW3 := zh hW3; have Y6 := zh y6; have Y7 := zh y7; have Y11 := zh y11; have Y12 := zh y12; have YO := zh yo; clear h2 hSt2 hW3 hSt hW2 hf2 y6 y7 y11 y12 yo yf; gi_wp2; obtain ⟨Wd, hWd⟩ : ∃ Wd, Wd = W2.drew := ⟨_, rfl⟩; have hfd : Fr [] W2 Wd := by rw [hWd]; exact (Fr.refl [] W2).drew
  have hbuD : BuM Wd g v tx := H2.out.bu.fr hfd (by simp) (by simp)
  have hc9 : ∀ V, Fr (g :: v.ownBlock.toList) Wd V → V.cell? ⟨b12, 0, none⟩ = some (.pointer (some ⟨g, 0, none⟩)) ∧ V.cell? ⟨b6, 0, none⟩ = some (.string S) ∧ V.cell? ⟨b13, 0, none⟩ = some (.int .i64 (bh : Int)) := fun V hV => by
   have ho := HORD.out; have hgg := HG5.out; have hvb := H2.out.vb
   have nin : ∀ b, b ≠ g → b < w5.heap.size + 2 → b ∉ g :: v.ownBlock.toList := fun b h1 h2 hm => by
    simp only [List.mem_cons, Option.mem_toList] at hm; rcases hm with e | e
    ·exact h1 e
    ·have := (hvb b e).1; omega
   exact ⟨((Y12.out.fr hfd (by simp)).fr hV (nin _ (by omega) (by omega))).cell_ (i := 0) rfl, ((Y6.out.fr hfd (by simp)).fr hV (nin _ (by omega) (by omega))).cell_ (i := 0) rfl, ((H2.out.bb.fr hfd (by simp)).fr hV (nin _ (by omega) (by omega))).cell_ (i := 0) rfl⟩
  have HC9 := zh hc9; have HBD := zh hbuD; have HFD := zh hfd; have hfk : FLA[k]? = some (x1, x2) := fla_get HFL.out HK0.out HX.out; obtain ⟨ho1, ho2, -⟩ := findsS_ord (L := L) (tx := s) HD.out.1 HD.out.2.1; obtain ⟨ho3, ho4⟩ := ho1 (x1, x2) (List.mem_of_getElem? HX.out); have hq1 : bh ≤ x1 := HBQ.out _ hfk; have hq3 : x1 ≤ x2 := ho3; have hq4 : x2 ≤ M := by rw [HM.out]; exact ho4
  have hq2 : x1 ≤ M := Nat.le_trans hq3 hq4; have hst := repl_step hfk HTX.out; have HST := zh hst; have HFK := zh hfk; have HO2 := zh ho2; have HQ3 := zh hq3; have HQ4 := zh hq4; dsimp only at hst; have hln1 : tx.length + 1 * ((s.drop bh).take (x1 - bh)).length ≤ 65536 := by rw [Nat.one_mul]; exact cat_len2 hst HOL.out
  have HLN1 := zh hln1; clear hfk ho1 ho2 ho3 ho4 hst hln1 hq3 hq4; have hq1I : (bh : Int) ≤ (x1 : Int) := by omega
  have hq2I : (x1 : Int) ≤ (M : Int) := by omega
  obtain ⟨T1, hT1⟩ : ∃ T1, S.extract bh x1 = T1 := ⟨_, rfl⟩; have hT1b : T1 = ⟨((s.drop bh).take (x1 - bh)).toArray⟩ := by rw [← hT1, HS.out, ba_extract]
  have HT1 := zh hT1b; clear hc9 hbuD hfd hT1b; refine wpIn_region_M_ (G := fun a b => a = b) (S := fun V => Fr (g :: v.ownBlock.toList) Wd V) ⟨fun _ => rfl, fun a b c h k => h.trans k, fun a b h k => k ▸ h, by kernel_rfl, fun _ _ d _ _ h => by cases d <;> exact h⟩ (by kernel_rfl) (by kernel_rfl) (fun _ _ h => h) fun su => ?_
  have SU := zh su; rw [← hWd]; have HSS : Hid (Fr (g :: v.ownBlock.toList) Wd Wd) := zh (Fr.refl _ _); clear su hWd; refine M_val (i := 0) (v := .pointer (some ⟨g, 0, none⟩)) SU.out rfl (by kernel_rfl) HSS.out rfl (fun V hV => ?_) ?_
  ·obtain ⟨e1, e2, e3⟩ := HC9.out V hV; go_simp
  simp only [Act.put, PU]; refine M_val (i := 1) (v := .string S) SU.out rfl (by kernel_rfl) HSS.out rfl (fun V hV => ?_) ?_
  ·obtain ⟨e1, e2, e3⟩ := HC9.out V hV; go_simp
  simp only [Act.put, PU]; refine M_val (i := 2) (v := .int .i64 (bh : Int)) SU.out rfl (by kernel_rfl) HSS.out rfl (fun V hV => ?_) ?_
  ·obtain ⟨e1, e2, e3⟩ := HC9.out V hV; go_simp
  simp only [Act.put, PU]; refine M_move (i := 3) _ SU.out rfl rfl (by kernel_rfl) HSS.out rfl ?_; simp only [Act.put, Act.eval, PE]; refine M_val (i := 4) (v := .string T1) SU.out rfl (by kernel_rfl) HSS.out rfl (fun V hV => ?_) ?_
  ·go_simp
  simp only [Act.put, PU]; refine wpAnyM_all (rs := [5]) (by kernel_rfl) (by simp) (fun wx hG => ?_); subst hG; refine allM.head rfl rfl (fun K9 hK9 => ?_) allM.nil; refine wpc_ (f := 15) (args := #[.pointer (some ⟨g, 0, none⟩), .string T1, .int .i64 1]) (R := fun r V => r = .tuple #[] ∧ ∃ v', BuM V g v' (tx ++ (s.drop bh).take (x1 - bh)) ∧ AddP Wd g v V v') (by go_simp; first | done | rfl) ?_ ?_
  ·rw [HT1.out]; refine (add_any HBD.out ((s.drop bh).take (x1 - bh)) 1 HLN1.out).mono ?_; rintro e V ⟨rfl, v', h1, h2⟩; exact ⟨_, rfl, rfl, v', by simpa using h1, h2⟩
  rintro r W4 ⟨rfl, v4, hb4, ha4⟩; have HB4 := zh hb4; have HA4 := zh ha4; refine hK9.out _ _ ha4.1 ?_; clear hK9 K9 hb4 ha4; simp only [Act.put, PU]; refine wpAnyM_done (by kernel_rfl) (fun wz hG => ?_); subst hG
  have hk4 : ∀ V, Fr (g :: v.ownBlock.toList) Wd V → Bk V b11 47 #[.slice PA kp pc] ∧ V.ownsRow w.heap.size 57 2 (.slice PA kp pc) kp (pcC ps) ∧ V.cell? ⟨b12, 0, none⟩ = some (.pointer (some ⟨g, 0, none⟩)) ∧ V.cell? ⟨b6, 0, none⟩ = some (.string S) := fun V hV => by
   have ho := HORD.out; have hgg := HG5.out; have hvb := H2.out.vb
   have nin : ∀ b, b ≠ g → b < w5.heap.size + 2 → b ∉ g :: v.ownBlock.toList := fun b h1 h2 hm => by
    simp only [List.mem_cons, Option.mem_toList] at hm; rcases hm with e | e
    ·exact h1 e
    ·have := (hvb b e).1; omega
   obtain ⟨e1, e2, -⟩ := HC9.out V hV; refine ⟨(Y11.out.fr HFD.out (by simp)).fr hV (nin _ (by omega) (by omega)), own_keep (own_keep YO.out (KeepB.of_nil HFD.out)) (fun b cs hb => hb.fr hV (fun hm => ?_)), e1, e2⟩; simp only [List.mem_cons, Option.mem_toList] at hm; rcases hm with e | e
   ·subst e; exact hb.ne_ HBD.out.1 (by decide) rfl
   ·obtain ⟨-, cur, hc⟩ := own_base HBD.out.2 b e; exact hb.ne_ hc (by decide) rfl
  have HK4 := zh hk4
  have hk17 : ∀ V, Fr (g :: v.ownBlock.toList) Wd V → Bk V b13 3 #[.int .i64 (bh : Int)] ∧ Bk V b9 3 #[.int .i64 (k : Int)] ∧ Bk V b7 4 #[.bool all] ∧ Bk V b12 49 #[.pointer (some ⟨g, 0, none⟩)] := fun V hV => by
   have ho := HORD.out; have hgg := HG5.out; have hvb := H2.out.vb
   have nin : ∀ b, b ≠ g → b < w5.heap.size + 2 → b ∉ g :: v.ownBlock.toList := fun b h1 h2 hm => by
    simp only [List.mem_cons, Option.mem_toList] at hm; rcases hm with e | e
    ·exact h1 e
    ·have := (hvb b e).1; omega
   exact ⟨(H2.out.bb.fr HFD.out (by simp)).fr hV (nin _ (by omega) (by omega)), (H2.out.nb.fr HFD.out (by simp)).fr hV (nin _ (by omega) (by omega)), (Y7.out.fr HFD.out (by simp)).fr hV (nin _ (by omega) (by omega)), (Y12.out.fr HFD.out (by simp)).fr hV (nin _ (by omega) (by omega))⟩
  have HK17 := zh hk17; clear hk17; have d11 : W4.cell? ⟨b11, 0, none⟩ = some (.slice PA kp pc) := (hk4 W4 HA4.out.1).1.cell_ (i := 0) rfl; clear hk4; gi_wp2; obtain ⟨fd, hfd⟩ : ∃ fd, fd = (s.drop x1).take (x2 - x1) := ⟨_, rfl⟩; have HFDD := zh hfd; clear hfd
  gi_loopw [17, 39] (fun v17 v39 wr => ∃ (j : Nat) (vj : Value) (txj : List UInt8), v39 = .int .i64 (j : Int) ∧ j ≤ kp ∧ BuM wr g vj txj ∧ AddP Wd g v wr vj ∧ txj ++ becomeM (ps.drop j) fd ++ replF ps s (FLA.drop (k + 1)) x2 = OUT) (fun _ v39 _ => kp + 1 - (intOf v39).toNat)
  case atStart => exact ⟨0, v4, _, rfl, Nat.zero_le _, HB4.out, HA4.out, by have h := HST.out; rw [List.drop_zero, HFDD.out]; exact h⟩
  case round =>
   obtain ⟨j, vj, txj, rfl, hj, hbj, haj, hoj⟩ := hrel; have HBJ := zh hbj; have HAJ := zh haj; have HOJ := zh hoj; clear hbj haj hoj; rcases Nat.lt_or_ge j kp with hjk | hjk
   ·have hjI : (j : Int) < (kp : Int) := by omega
    obtain ⟨p, hp⟩ : ∃ p, ps[j]? = some p := ⟨_, List.getElem?_eq_getElem (by rw [← HKP.out]; exact hjk)⟩; obtain ⟨y11, yo, y12, y6⟩ := HK4.out wr HAJ.out.1
    obtain ⟨PB, rfl, -, -, hcl⟩ := own_cells yo (fun h0 => by
     have h1 := pcC_len ps; rw [h0] at h1
     have := HKP.out; simp at h1; omega)
    obtain ⟨g1, g2⟩ := pcC_get hp; obtain ⟨p1, p2⟩ := p; dsimp only at g1 g2; obtain ⟨P1, hP1⟩ : ∃ P1, P1 = (⟨p1.toArray⟩ : ByteArray) := ⟨_, rfl⟩; rw [← hP1] at g1; have e0 := hcl _ _ g1; have e1 := hcl _ _ g2; have hbst := become_step hp HOJ.out; dsimp only at hbst; have hln2 := cat_len3 hbst HOL.out; have HBST := zh hbst; have HLN2 := zh hln2; have HP := zh hp; have HP1 := zh hP1; clear hbst hln2; have l12 : b12 < wr.heap.size := World.block_lt_of_cell? _ _ y12; have l6 : b6 < wr.heap.size := World.block_lt_of_cell? _ _ y6; have hfa : Fr [] wr (wr.alloc (.cells #[.string P1, .int .i64 (p2 : Int)] 57)) := (Fr.refl [] wr).alloc _; have hbA := HBJ.out.fr hfa (by simp) (by simp); have hbx := Bk.new wr 57 #[.string P1, .int .i64 (p2 : Int)]; obtain ⟨wx2, hwx⟩ : ∃ x, x = wr.alloc (.cells #[.string P1, .int .i64 (p2 : Int)] 57) := ⟨_, rfl⟩; rw [← hwx] at hfa hbA hbx; have HFA2 := zh hfa; have HBA := zh hbA; have HBX := zh hbx; have HWX := zh hwx; clear hp hcl yo y11 g1 g2 hP1 hfa hbA hbx hwx; gi_wp2; refine ⟨trivial, ?_⟩; rw [← HWX.out, HP1.out]; refine (CallsIn.inRound l (callsIn_wide.2 (add_any HBA.out p1 1 HLN2.out.2))).mono ?_; rintro e W6 ⟨rfl, v6, hb6, ha6⟩; rw [List.replicate_one, List.flatten_cons, List.flatten_nil, List.append_nil] at hb6; have HB6 := zh hb6; have HA6 := zh ha6; clear hb6 ha6 y12 y6 e0 e1 l12 l6; gi_wp2; have hA7 : AddP Wd g v W6 v6 := (HAJ.out.trans ⟨HFA2.out.nil_, fun _ h => .inl h⟩).trans HA6.out
    have hbx6 : Bk W6 wr.heap.size 57 #[.string P1, .int .i64 (p2 : Int)] := HBX.out.fr HA6.out.1 (fun hm => by
     simp only [List.mem_cons, Option.mem_toList] at hm; rcases hm with e | e
     ·exact HBX.out.ne_ HBA.out.1 (by decide) e
     ·obtain ⟨-, cur, hc⟩ := own_base HBA.out.2 _ e
      exact HBX.out.ne_ hc (by decide) rfl)
    obtain ⟨We, hWe⟩ : ∃ We, We = W6.drew := ⟨_, rfl⟩; have hfe : Fr [] W6 We := by rw [hWe]; exact (Fr.refl [] W6).drew
    have hbuE : BuM We g v6 _ := HB6.out.fr hfe (by simp) (by simp)
    have hc14 : ∀ V, Fr (g :: v6.ownBlock.toList) We V → V.cell? ⟨b12, 0, none⟩ = some (.pointer (some ⟨g, 0, none⟩)) ∧ V.cell? ⟨b6, 0, none⟩ = some (.string S) ∧ V.cell? ⟨wr.heap.size, 1, none⟩ = some (.int .i64 (p2 : Int)) := fun V hV => by
     obtain ⟨-, -, e1, e2⟩ := HK4.out V ((hA7.trans ⟨hfe.nil_, fun _ h => .inl h⟩).trans (v2 := v6) ⟨hV, fun _ h => .inl h⟩).1; refine ⟨e1, e2, ((hbx6.fr hfe (by simp)).fr hV (fun hm => ?_)).cell_ (i := 1) rfl⟩; simp only [List.mem_cons, Option.mem_toList] at hm; rcases hm with e | e
     ·exact hbx6.ne_ HB6.out.1 (by decide) e
     ·obtain ⟨-, cur, hc⟩ := own_base HB6.out.2 _ e; exact hbx6.ne_ hc (by decide) rfl
    have hq3I : (x1 : Int) ≤ (x2 : Int) := by have := HQ3.out; omega
    have hq4I : (x2 : Int) ≤ (M : Int) := by have := HQ4.out; omega
    obtain ⟨T2, hT2⟩ : ∃ T2, S.extract x1 x2 = T2 := ⟨_, rfl⟩; have hT2b : T2 = ⟨fd.toArray⟩ := by rw [← hT2, HS.out, ba_extract, HFDD.out]
    have HT2 := zh hT2b; have HC14 := zh hc14; have HBE := zh hbuE; have HA7 := zh hA7; have HFE := zh hfe; clear hA7 hbx6 hfe hbuE hc14 hT2b; refine wpIn_region_M_ (G := fun a b => a = b) (S := fun V => Fr (g :: v6.ownBlock.toList) We V) ⟨fun _ => rfl, fun a b c h k => h.trans k, fun a b h k => k ▸ h, by kernel_rfl, fun _ _ d _ _ h => by cases d <;> exact h⟩ (by kernel_rfl) (by kernel_rfl) (fun _ _ h => h) fun su => ?_
    have SU2 := zh su; rw [← hWe]; have HSE : Hid (Fr (g :: v6.ownBlock.toList) We We) := zh (Fr.refl _ _); clear su hWe; refine M_val (i := 0) (v := .pointer (some ⟨g, 0, none⟩)) SU2.out rfl (by kernel_rfl) HSE.out rfl (fun V hV => ?_) ?_
    ·obtain ⟨e1, e2, e3⟩ := HC14.out V hV; go_simp
    simp only [Act.put, PU]; refine M_val (i := 1) (v := .string S) SU2.out rfl (by kernel_rfl) HSE.out rfl (fun V hV => ?_) ?_
    ·obtain ⟨e1, e2, e3⟩ := HC14.out V hV; go_simp
    simp only [Act.put, PU]; refine M_move (i := 2) _ SU2.out rfl rfl (by kernel_rfl) HSE.out rfl ?_; simp only [Act.put, Act.eval, PE]; refine M_move (i := 3) _ SU2.out rfl rfl (by kernel_rfl) HSE.out rfl ?_; simp only [Act.put, Act.eval, PE]; refine M_val (i := 4) (v := .string T2) SU2.out rfl (by kernel_rfl) HSE.out rfl (fun V hV => ?_) ?_
    ·go_simp
    simp only [Act.put, PU]; refine M_val (i := 5) (v := .pointer (some ⟨wr.heap.size, 1, none⟩)) SU2.out rfl (by kernel_rfl) HSE.out rfl (fun V hV => ?_) ?_
    ·go_simp
    simp only [Act.put, PU]; refine M_val (i := 6) (v := .int .i64 (p2 : Int)) SU2.out rfl (by kernel_rfl) HSE.out rfl (fun V hV => ?_) ?_
    ·obtain ⟨e1, e2, e3⟩ := HC14.out V hV; go_simp
    simp only [Act.put, PU]; refine wpAnyM_all (rs := [7]) (by kernel_rfl) (by simp) (fun wy hG => ?_); subst hG; refine allM.head rfl rfl (fun K9 hK9 => ?_) allM.nil; refine wpc_ (f := 15) (args := #[.pointer (some ⟨g, 0, none⟩), .string T2, .int .i64 (p2 : Int)]) (R := fun r V => r = .tuple #[] ∧ ∃ v', BuM V g v' (txj ++ p1 ++ (List.replicate p2 fd).flatten) ∧ AddP We g v6 V v') (by go_simp; first | done | rfl) ?_ ?_
    ·rw [HT2.out]; refine (add_any HBE.out fd p2 HLN2.out.1).mono ?_; rintro e V ⟨rfl, v', h1, h2⟩; exact ⟨_, rfl, rfl, v', by simpa using h1, h2⟩
    rintro r W8 ⟨rfl, v8, hb8, ha8⟩; have HB8 := zh hb8; have HA8 := zh ha8; refine hK9.out _ _ ha8.1 ?_; clear hK9 K9 hb8 ha8; simp only [Act.put, PU]; refine wpAnyM_done (by kernel_rfl) (fun wz hG => ?_); subst hG; gi_wp2; have hkb : kp ≤ 100000 := HKB.out; have hwr : wrap64 ((j : Int) + 1) = ((j + 1 : Nat) : Int) := by rw [IntWalk.wrap64_in _ (by omega)]; omega
    rw [hwr]; refine ⟨⟨j + 1, v8, _, rfl, hjk, HB8.out, (HA7.out.trans ⟨HFE.out.nil_, fun _ h => .inl h⟩).trans HA8.out, HBST.out⟩, ?_⟩; exact (Nat.sub_lt_sub_left (Nat.lt_succ_of_lt hjk) (Nat.lt_succ_self j) : kp + 1 - (j + 1) < kp + 1 - j)
   ·have hjI : ¬ ((j : Int) < (kp : Int)) := by omega
    obtain rfl : j = kp := by omega
    have hdr : ps.drop j = [] := List.drop_of_length_le (by rw [← HKP.out]; exact Nat.le_refl _)
    have hoj : txj ++ replF ps s (FLA.drop (k + 1)) x2 = OUT := by
     have h := HOJ.out; rw [hdr] at h
     simpa [becomeM] using h
    have HOJ2 := zh hoj; obtain ⟨z13, z9, z7, z12⟩ := HK17.out wr HAJ.out.1; have c13 : wr.cell? ⟨b13, 0, none⟩ = some (.int .i64 (bh : Int)) := z13.cell_ (i := 0) rfl; have c9 : wr.cell? ⟨b9, 0, none⟩ = some (.int .i64 (k : Int)) := z9.cell_ (i := 0) rfl; have c7 : wr.cell? ⟨b7, 0, none⟩ = some (.bool all) := z7.cell_ (i := 0) rfl; have c12 : wr.cell? ⟨b12, 0, none⟩ = some (.pointer (some ⟨g, 0, none⟩)) := z12.cell_ (i := 0) rfl; have cg : wr.cell? ⟨g, 1, none⟩ = some (.bool false) := HBJ.out.1.cell_ (i := 1) rfl; have y13 := z13.frozen 0; have y9 := z9.frozen 0; have hor := HORD.out; have n1 : b13 ≠ b9 := by omega
    have n2 : b13 ≠ b7 := by omega
    have n3 : b13 ≠ b12 := by omega
    have n4 : b13 ≠ g := by omega
    have n5 : b9 ≠ b7 := by omega
    have n6 : b9 ≠ b12 := by omega
    have n7 : b9 ≠ g := by omega
    have hkn : k ≤ 20000 := by
     have h1 := (List.getElem?_eq_some_iff.1 HX.out).1; have h2 := (findsS_ord (L := L) (tx := s) HD.out.1 HD.out.2.1).2.2; have h3 := HM.out; omega
    have hvj : ∀ b, vj.ownBlock = some b → v.ownBlock = some b ∨ W2.heap.size ≤ b := fun b hb => (HAJ.out.2 b hb).imp id (fun h => Nat.le_trans HFD.out.size h)
    have hvj2 : ∀ b, vj.ownBlock = some b → b13 < b ∧ b9 < b := fun b hb => by
     have h3 := HG5.out; have h4 := HW3.out; rcases hvj b hb with h | h
     ·have := (H2.out.vb b h).1; omega
     ·omega
    obtain ⟨W3, hW3⟩ : ∃ W3, W3 = (wr.setCell ⟨b13, 0, none⟩ (.int .i64 (x2 : Int))).setCell ⟨b9, 0, none⟩ (.int .i64 ((k : Int) + 1)) := ⟨_, rfl⟩
    have hs3 : Fr [b9, b13] wr W3 := by
     rw [hW3]; exact ((Fr.refl [b9, b13] wr).setCell (.inl (by simp)) _).setCell (.inl (by simp)) _
    have hfs : Fr (g :: b9 :: b13 :: v.ownBlock.toList) W2 W3 := by
     have h0 : Fr (g :: b9 :: b13 :: v.ownBlock.toList) W2 wr := (HFD.out.mono (by simp)).trans (HAJ.out.1.mono (fun b hb => by
      rcases List.mem_cons.1 hb with h | h
      ·exact .inl (by simp [h])
      ·exact .inl (by simp only [List.mem_cons]; exact .inr (.inr (.inr h)))))
     exact h0.trans (hs3.mono (fun b hb => by
      simp only [List.mem_cons, List.not_mem_nil, or_false] at hb ⊢; rcases hb with h | h
      ·exact .inl (.inr (.inl h))
      ·exact .inl (.inr (.inr (.inl h)))))
    have hb9 : Bk W3 b9 3 #[.int .i64 ((k + 1 : Nat) : Int)] := by
     rw [hW3, show ((k + 1 : Nat) : Int) = (k : Int) + 1 by omega]; exact (z9.far (p := ⟨b13, 0, none⟩) n1.symm _).put 0 _
    have hb13 : Bk W3 b13 3 #[.int .i64 (x2 : Int)] := by
     rw [hW3]; exact (z13.put 0 _).far (p := ⟨b9, 0, none⟩) n1 _
    have hbu3 : BuM W3 g vj txj := HBJ.out.fr hs3 (by simp; omega) (fun b hb => by have := hvj2 b hb; simp; omega); obtain ⟨q1, q2, q3⟩ := H2.out.step (kbx := kbx) HG5.out hkb5 HK5.out HW3.out HST2.out hfs hb9 hb13 hbu3 hvj; have Q1 := zh q1; have Q2 := zh q2; have Q3 := zh q3; have HWW := zh hW3; clear q1 q2 q3 hfs hb9 hb13 hbu3 hvj hvj2 hs3 hW3 z13 z9 z7 z12 hor hoj hdr; have hall : all = true ∨ all = false := by cases all <;> simp
    rcases hall with ha | ha
    ·rw [ha] at c7; have HAL := zh ha; clear ha; gi_wp2; rw [← HWW.out]; exact ⟨Q1.out, Q2.out, x2, vj, txj, Q3.out, HQ4.out, fun h => (by rw [HAL.out] at h; cases h), HOJ2.out, fun q hq => fla_next HO2.out HX.out (fla_get' HFL.out hq)⟩
    ·rw [ha] at c7; have HAL := zh ha; clear ha; gi_wp2; rw [← HWW.out]; have hk0 := HK0.out HAL.out; subst hk0; have hlf : 1 ≤ FLA.length := (List.getElem?_eq_some_iff.1 HFK.out).1; exact ⟨Q1.out, rfl, HAL.out, x2, vj, txj, Q3.out, HQ4.out, HOJ2.out, hlf⟩
 case' done =>
  rintro D2 St wq hD hSt ⟨bh, v, tx, e1, e2, e3, e4, e5⟩ hd hW3
  have hfin : ∃ K bh v tx, RpI w5 g b9 b13 St K bh v tx wq ∧ bh ≤ M ∧ tx ++ s.drop bh = OUT ∧ K = fn := by
   obtain ⟨f1, f2⟩ := fla_end HFL.out e3; rw [f1] at e4; exact ⟨_, bh, v, tx, e1, e2, e4, by rw [HFN.out, f2]⟩
  clear e1 e2 e3 e4 e5 hW3 bh v tx
 case' stop =>
  rintro D2 c St wq hD hSt ⟨rfl, ha, bh, v, tx, e1, e2, e3, e4⟩ hd
  have hfin : ∃ K bh v tx, RpI w5 g b9 b13 St K bh v tx wq ∧ bh ≤ M ∧ tx ++ s.drop bh = OUT ∧ K = fn := by
   obtain ⟨f1, f2⟩ := fla_stop HFL.out ha e4; rw [f1] at e3; exact ⟨_, bh, v, tx, e1, e2, e3, by rw [HFN.out, f2]⟩
  clear e1 e2 e3 e4 ha bh v tx
 all_goals
  obtain ⟨K, bh, v, tx, h1, hbm, hout, hK⟩ := hfin; have h2 := h1.far HG5.out (Fr.refl St wq) (St' := [D2]) (fun b hb => .inl (by simp at hb; rw [hb]; exact hD)); have hD5 := hSt D2 hD; have hDl := (Array.getElem?_eq_some_iff.1 hd).1; obtain ⟨y6, y7, y11, y12, yo, yf⟩ := HKEEP.out wq h2.fr; subst hK; have H2 := zh h2; have HDD := zh hd; have HBM := zh hbm; have HOUT := zh hout; have HD5 := zh hD5; have HDL := zh hDl; have Y6 := zh y6; have Y12 := zh y12; have YF := zh yf; clear h1 h2 hd hbm hout hD5 hDl y6 y7 y11 y12 yo yf hD hSt; go_upto_region 19 with fail
  obtain ⟨Wd, hWd⟩ : ∃ Wd, Wd = wq.drew := ⟨_, rfl⟩; have hfd : Fr [] wq Wd := by rw [hWd]; exact (Fr.refl [] wq).drew
  have hbuD : BuM Wd g v tx := H2.out.bu.fr hfd (by simp) (by simp)
  have hc9 : ∀ V, Fr (g :: v.ownBlock.toList) Wd V → V.cell? ⟨b12, 0, none⟩ = some (.pointer (some ⟨g, 0, none⟩)) ∧ V.cell? ⟨b6, 0, none⟩ = some (.string S) ∧ V.cell? ⟨b13, 0, none⟩ = some (.int .i64 (bh : Int)) ∧ Bk V b9 3 #[.int .i64 (K : Int)] ∧ Bk V b12 49 #[.pointer (some ⟨g, 0, none⟩)] := fun V hV => by
   have ho := HORD.out; have hgg := HG5.out; have hvb := H2.out.vb
   have nin : ∀ b, b ≠ g → b < w5.heap.size + 2 → b ∉ g :: v.ownBlock.toList := fun b h1 h2 hm => by
    simp only [List.mem_cons, Option.mem_toList] at hm; rcases hm with e | e
    ·exact h1 e
    ·have := (hvb b e).1; omega
   have k12 := (Y12.out.fr hfd (by simp)).fr hV (nin _ (by omega) (by omega)); exact ⟨k12.cell_ (i := 0) rfl, ((Y6.out.fr hfd (by simp)).fr hV (nin _ (by omega) (by omega))).cell_ (i := 0) rfl, ((H2.out.bb.fr hfd (by simp)).fr hV (nin _ (by omega) (by omega))).cell_ (i := 0) rfl, (H2.out.nb.fr hfd (by simp)).fr hV (nin _ (by omega) (by omega)), k12⟩
  have HC9 := zh hc9; have HBD := zh hbuD; have HFD := zh hfd; have hq1I : (bh : Int) ≤ (M : Int) := by have := HBM.out; omega
  obtain ⟨T1, hT1⟩ : ∃ T1, S.extract bh M = T1 := ⟨_, rfl⟩
  have hT1b : T1 = ⟨(s.drop bh).toArray⟩ := by
   rw [← hT1, HS.out, ba_extract, List.take_of_length_le (by rw [List.length_drop, ← HM.out]; exact Nat.le_refl _)]
  have HT1 := zh hT1b; clear hc9 hbuD hfd hT1b; refine wp_region_M_ (G := fun a b => a = b) (S := fun V => Fr (g :: v.ownBlock.toList) Wd V) ⟨fun _ => rfl, fun a b c h k => h.trans k, fun a b h k => k ▸ h, by kernel_rfl, fun _ _ d _ _ h => by cases d <;> exact h⟩ (by kernel_rfl) fun su => ?_
  have SU := zh su; rw [← hWd]; have HSS : Hid (Fr (g :: v.ownBlock.toList) Wd Wd) := zh (Fr.refl _ _); clear su hWd; refine M_val (i := 0) (v := .pointer (some ⟨g, 0, none⟩)) SU.out rfl (by kernel_rfl) HSS.out rfl (fun V hV => ?_) ?_
  ·obtain ⟨e1, e2, e3, -, -⟩ := HC9.out V hV; go_simp
  simp only [Act.put, PU]; refine M_val (i := 1) (v := .string S) SU.out rfl (by kernel_rfl) HSS.out rfl (fun V hV => ?_) ?_
  ·obtain ⟨e1, e2, e3, -, -⟩ := HC9.out V hV; go_simp
  simp only [Act.put, PU]; refine M_val (i := 2) (v := .int .i64 (bh : Int)) SU.out rfl (by kernel_rfl) HSS.out rfl (fun V hV => ?_) ?_
  ·obtain ⟨e1, e2, e3, -, -⟩ := HC9.out V hV; go_simp
  simp only [Act.put, PU]; refine M_val (i := 3) (v := .string T1) SU.out rfl (by kernel_rfl) HSS.out rfl (fun V hV => ?_) ?_
  ·go_simp
  simp only [Act.put, PU]; refine wpAnyM_all (rs := [4]) (by kernel_rfl) (by simp) (fun wx hG => ?_); subst hG; refine allM.head rfl rfl (fun K9 hK9 => ?_) allM.nil; refine wpc_ (f := 15) (args := #[.pointer (some ⟨g, 0, none⟩), .string T1, .int .i64 1]) (R := fun r V => r = .tuple #[] ∧ ∃ v', BuM V g v' OUT ∧ AddP Wd g v V v') (by go_simp; first | done | rfl) ?_ ?_
  ·rw [HT1.out]; refine (add_any HBD.out (s.drop bh) 1 (cat_end HOUT.out HOL.out)).mono ?_; rintro e V ⟨rfl, v', h1, h2⟩; refine ⟨_, rfl, rfl, v', ?_, h2⟩; rw [← HOUT.out]; simpa using h1
  rintro r W4 ⟨rfl, v4, hb4, ha4⟩; have HB4 := zh hb4; have HA4 := zh ha4; refine hK9.out _ _ ha4.1 ?_; clear hK9 K9 hb4 ha4; simp only [Act.put, PU]; refine wpAnyM_done (by kernel_rfl) (fun wz hG => ?_); subst hG; obtain ⟨c12, -, -, k9, k12⟩ := HC9.out W4 HA4.out.1; have cg : W4.cell? ⟨g, 1, none⟩ = some (.bool false) := HB4.out.1.cell_ (i := 1) rfl; have K9 := zh k9; have K12 := zh k12; clear k9 k12; go_upto_region 22 with fail
  clear c12 cg SU HSS; obtain ⟨We, hWe⟩ : ∃ We, We = W4.drew := ⟨_, rfl⟩; have hfe : Fr [] W4 We := by rw [hWe]; exact (Fr.refl [] W4).drew
  have hbE : BuM We g v4 OUT := HB4.out.fr hfe (by simp) (by simp); have k9e := K9.out.fr hfe (by simp); have k12e := K12.out.fr hfe (by simp); obtain ⟨A5, c5, rfl⟩ := own_slice hbE.2
  have hc22 : ∀ V, (Fr [b9] We V ∧ Bk V b9 3 #[.int .i64 (K : Int)]) → V.cell? ⟨b12, 0, none⟩ = some (.pointer (some ⟨g, 0, none⟩)) ∧ V.cell? ⟨g, 0, none⟩ = some (.slice A5 OUT.length c5) ∧ Bytes V A5 OUT ∧ V.cell? ⟨b9, 0, none⟩ = some (.int .i64 (K : Int)) := fun V hV => by
   obtain ⟨hV, hV9⟩ := hV; have ho := HORD.out; have hgg := HG5.out; have hvb := H2.out.vb
   have hb := hbE.fr hV (by simp; omega) (fun b hb => by
    have hs := HFD.out.size; have hs2 := H2.out.fr.size; simp only [List.mem_cons, List.not_mem_nil, or_false]; rcases HA4.out.2 b hb with h | h
    ·have := (hvb b h).1; omega
    ·omega)
   exact ⟨(k12e.fr hV (by simp; omega)).cell_ (i := 0) rfl, hb.1.cell_ (i := 0) rfl, At.of_own hb.2, hV9.cell_ (i := 0) rfl⟩
  have hf9 : Fr [b9] We (We.setCell ⟨b9, 0, none⟩ (.int .i64 (K : Int))) := (Fr.refl _ We).setCell (.inl (by simp)) _; have hk9 : Bk (We.setCell ⟨b9, 0, none⟩ (.int .i64 (K : Int))) b9 3 #[.int .i64 (K : Int)] := k9e.put 0 _; have z9 := k9e.frozen 0; have q9 : We.cell? ⟨b9, 0, none⟩ = some (.int .i64 (K : Int)) := k9e.cell_ (i := 0) rfl; obtain ⟨W9, hW9⟩ : ∃ W9, W9 = We.setCell ⟨b9, 0, none⟩ (.int .i64 (K : Int)) := ⟨_, rfl⟩
  have hend : W9.heap[D2]? = some (.deferred (some [])) ∧ (W9.putObj D2 (.deferred none)).cell? ⟨b9, 0, none⟩ = some (.int .i64 (K : Int)) ∧ Fr [] w (W9.putObj D2 (.deferred none)) := by
   rw [← hW9] at hf9 hk9; have ho := HORD.out; have hgg := HG5.out; have hvb := H2.out.vb; have hD5 := HD5.out; have hs := H2.out.fr.size
   have hdl : D2 ∉ g :: v.ownBlock.toList := fun hm => by
    simp only [List.mem_cons, Option.mem_toList] at hm; rcases hm with e | e
    ·omega
    ·exact (hvb D2 e).2 (by simp)
   have hsw := YF.out.size; have h1 : Fr (b9 :: g :: v.ownBlock.toList) wq W9 := (((HFD.out.mono (by simp)).trans (HA4.out.1.mono (fun b hb => .inl (List.mem_cons_of_mem _ hb)))).trans (hfe.mono (by simp))).trans (hf9.mono (by simp)); have hp : Fr [D2] W9 (W9.putObj D2 (.deferred none)) := fr_put _; refine ⟨(h1.block D2 HDL.out (fun hm => ?_)).trans HDD.out, (hk9.fr hp (by simp; omega)).cell_ (i := 0) rfl, (YF.out.trans' h1 (fun b hb => .inr ?_)).trans' hp (fun b hb => .inr (by simp at hb; omega))⟩
   ·rcases List.mem_cons.1 hm with e | e
    ·omega
    ·exact hdl e
   ·simp only [List.mem_cons, Option.mem_toList] at hb; have hs5 := HX3.out.size; rcases hb with e | e | e
    ·omega
    ·omega
    ·have := (hvb b e).1; omega
  have HC22 := zh hc22; have HF9 := zh hf9; have HK9 := zh hk9; have HEND := zh hend; have HW9 := zh hW9; clear hc22 hf9 hk9 hend hbE k12e hW9 hfe; have HK9E := zh k9e; clear k9e; refine wp_region_M_ (G := fun a b => a = b) (S := fun V => Fr [b9] We V ∧ Bk V b9 3 #[.int .i64 (K : Int)]) ⟨fun _ => rfl, fun a b c h k => h.trans k, fun a b h k => k ▸ h, by kernel_rfl, fun _ _ d _ _ h => by cases d <;> exact h⟩ (by kernel_rfl) fun su => ?_
  have SU := zh su; rw [← hWe]; have HSS : Hid (Fr [b9] We We ∧ Bk We b9 3 #[.int .i64 (K : Int)]) := zh ⟨Fr.refl _ _, HK9E.out⟩; clear su hWe; refine M_val (i := 0) (v := .pointer (some ⟨g, 0, none⟩)) SU.out rfl (by kernel_rfl) HSS.out rfl (fun V hV => ?_) ?_
  ·obtain ⟨e1, e2, -, e4⟩ := HC22.out V hV; go_simp
  simp only [Act.put, PU]; refine M_val (i := 1) (v := .pointer (some ⟨g, 0, none⟩)) SU.out rfl (by kernel_rfl) HSS.out rfl (fun V hV => ?_) ?_
  ·go_simp
  simp only [Act.put, PU]; refine M_val (i := 2) (v := .pointer (some ⟨g, 0, none⟩)) SU.out rfl (by kernel_rfl) HSS.out rfl (fun V hV => ?_) ?_
  ·go_simp
  simp only [Act.put, PU]; refine M_val (i := 3) (v := .slice A5 OUT.length c5) SU.out rfl (by kernel_rfl) HSS.out rfl (fun V hV => ?_) ?_
  ·obtain ⟨e1, e2, -, e4⟩ := HC22.out V hV; go_simp
  simp only [Act.put, PU]; refine M_strW (i := 4) 22 9 (.tmp 80) SU.out rfl rfl 5 Tryz.underlying22 Tryz.underlying5 Tryz.underlying9 A5 OUT.length c5 (by first | rfl | (simp [Act.eval]; done)) OUT (fun V hV => (HC22.out V hV).2.2.1) rfl (by kernel_rfl) HSS.out rfl ?_; simp only [Act.put, PU]; refine M_val (i := 5) (v := .int .i64 (K : Int)) SU.out rfl (by kernel_rfl) HSS.out rfl (fun V hV => ?_) ?_
  ·obtain ⟨e1, e2, -, e4⟩ := HC22.out V hV; go_simp
  simp only [Act.put, PU]; refine M_val (i := 6) (v := .string ⟨OUT.toArray⟩) SU.out rfl (by kernel_rfl) HSS.out rfl (fun V hV => ?_) ?_
  ·go_simp
  simp only [Act.put, PU]; refine wpAnyM_all (rs := [7]) (by kernel_rfl) (by simp) (fun wx hG => ?_); subst hG; refine allM.head rfl rfl (fun K9 hK9 => ?_) allM.nil; go_simp; refine hK9.out _ _ ⟨HF9.out, HK9.out⟩ ?_; clear hK9 K9; rw [← HW9.out]; have HSS2 : Hid (Fr [b9] We W9 ∧ Bk W9 b9 3 #[.int .i64 (K : Int)]) := zh (by rw [HW9.out]; exact ⟨HF9.out, HK9.out⟩); refine M_val (i := 8) (v := .nilIface) SU.out rfl (by kernel_rfl) HSS2.out rfl (fun V hV => ?_) ?_
  ·go_simp
  simp only [Act.put, PU]; refine wpAnyM_done (by kernel_rfl) (fun wz hG => ?_); subst hG; obtain ⟨y1, y2, y3⟩ := HEND.out; go_wp2_with fail
  refine ⟨by simp, .inl ⟨_, _, rfl, run_takeDeferred y1, ⟨.tuple #[.string ⟨OUT.toArray⟩, .int .i64 (K : Int), .nilIface], ?_, ?_⟩⟩⟩
  ·simp [results, Tryz.results5, go_sem, y2]
  ·unfold ReplPost; exact ⟨rfl, y3⟩
end Go.Proofs.YteofhjegaaoglaaGreat
