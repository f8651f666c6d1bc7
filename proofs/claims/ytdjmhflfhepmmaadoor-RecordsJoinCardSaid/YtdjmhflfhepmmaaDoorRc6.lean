/-
  The walk of records.Split at one byte. No conditions on the program.
-/
import Derived.Test.YtdjmhflfhepmmaaDoorRc5
namespace Go.Proofs.YtdjmhflfhepmmaaDoor
open Go.RowKit
set_option linter.unusedVariables false
set_option linter.unusedSimpArgs false

theorem cut_back {w W : World} {X B : Option Addr} {l m : List UInt8} (h : Bytes W X m) (hm : l = [] → m = []) (hf : Fr [] w W) (hb : Bytes w B l) (hx : ∀ b, X = some b → ∃ a', B = some a' ∧ b.block = a'.block) : Bytes w X m := by
  rcases h with h | ⟨a1, rfl, _, hcs⟩
  · exact .inl h
  · rcases hb with hb | ⟨a2, rfl, h2, _⟩
    · have hl : l = [] := by simpa [byteVals] using hb
      left
      rw [hm hl]; rfl
    · obtain ⟨a', e1, e2⟩ := hx a1 rfl
      injection e1 with e1
      subst e1
      have hlt : a1.block < w.heap.size := by rw [e2]; exact h2
      exact .inr ⟨a1, rfl, hlt, fun j u hu => (hf.cell (p := a1.add j) (by rw [blk_add]; exact hlt) (by simp)).symm.trans (hcs j u hu)⟩
set_option maxRecDepth 100000 in
set_option maxHeartbeats 2000000 in
theorem rsplit_any {w : World} {A : Option Addr} {n cp : Nat} {bs : List UInt8} (c : UInt8) (h2 : c ≠ 92) (hn : bs.length = n) (h : Bytes w A bs) (hA : A = none → cp = 0) (hc : n ≤ cp) (hm : n ≤ 100000) :
    Calls Tryd.prog 7 #[.string ⟨#[c]⟩, .slice A n cp] w fun e w' => ∃ v, e = .returned (.tuple #[v, .nilIface]) ∧ OwnL w' v (recM c bs) ∧ (∀ g, v.ownBlock = some g → w.heap.size ≤ g) ∧ Fr [] w w' := by
  obtain ⟨i0, hi0, hz0, hz1, hz2⟩ := u8parts
  obtain ⟨j0, hj0, hy0, hy1, hy2⟩ := strParts
  subst hn
  have HH := Lib.hid h
  clear h
  go_enter Tryd.func7, Tryd.ntmps7
  go_wp2_with fail
  go_at_call 16
  refine (read_one c h2).mono ?_
  rintro e w1 ⟨rfl, hf⟩
  have HF1 := Lib.hid hf
  have HH1 := Lib.hid (At.fr_nil HH.out hf)
  clear hf HH
  go_wp2_with fail
  go_loopw [1, 8] (SplR w1 c (recM c bs)) (fun v1 _ _ => match v1 with | .slice _ n _ => n | _ => 0)
  case atStart =>
    have hb := Bk.new w1 43 #[.int .i64 0, .int .u8 (c.toNat : Int), .pointer none]
    exact ⟨A, bs, cp, [], rfl, HH1.out, hA, hc, Own.nil_ _ _, by simp [Value.ownBlock], (Fr.refl _ _).alloc _, hb.cell_ (i := 0) rfl, hb.cell_ (i := 1) rfl, by simp, by simp; omega, by simp⟩
  case round =>
    obtain ⟨B, cs, cq, l, rfl, hb, hB, hcq, ho, hfr, hf, hs0, hs1, hq, hlen, hsz⟩ := hrel
    obtain ⟨L, lc, rfl, hl1, hl2, -, -⟩ := OwnL.val ho
    have HBW := Lib.hid (At.fr_nil hb hf)
    have HB := Lib.hid hb; have HFR := Lib.hid hfr; have HF := Lib.hid hf; have HQ := Lib.hid hq; have HO := Lib.hid ho; have HS := Lib.hid hsz
    have HS0 := Lib.hid hs0; have HS1 := Lib.hid hs1
    clear hb hfr hf hq ho hsz hs0 hs1
    obtain ⟨tb, nx, ok, he⟩ : ∃ tb nx ok, fstM c cs true = (tb, nx, ok) := ⟨_, _, _, rfl⟩
    have HE := Lib.hid he
    clear he
    unfold maxLen at hl2
    go_wp2_with fail
    go_at_call 17
    refine (first_any HS0.out HS1.out rfl HBW.out hB hcq (by omega) true tb nx ok HE.out).mono ?_
    rintro e w2 ⟨rfl, rfl⟩
    cases ok with
    | false =>
      obtain ⟨e1, rfl, rfl⟩ := fst_rec_no HE.out
      have hfin : OwnL wr (.slice L l.length lc) (recM c bs) := by rw [← HQ.out, e1, List.append_nil]; exact HO.out
      have HFIN := Lib.hid hfin; clear hfin e1
      go_wp2_with fail
      go_ret2
      exact ⟨_, rfl, HFIN.out, fun g hg => by have := HFR.out g hg; have := HF1.out.size; omega, HF1.out.trans HF.out⟩
    | true =>
      obtain ⟨e1, e2⟩ := fst_rec HE.out
      obtain ⟨b1, b2⟩ := fst_bounds HE.out
      have HE1 := Lib.hid e1
      clear e1
      have hlx := byteVals_length cs
      obtain ⟨a, ha⟩ : ∃ a : Value, a = .string ⟨(cs.take tb).toArray⟩ := ⟨_, rfl⟩
      go_wp2_with first
        | (refine wpList_cut rfl 24 (.tmp 32) (some (.tmp 33)) (some (.tmp 34)) none rfl 5 i0 Tryd.underlying24 hi0 hz1 B cs.length cq (by rfl) (byteVals cs) HBW.out hlx hcq hB 0 tb cq (.inr (by rfl)) (.inr (by rfl)) (.inl ⟨by rfl, rfl⟩) (by omega) (by omega) (Nat.le_refl _) (by omega) ?_; intro X1 hX1 hX1n hX1b; have HX1 : Hid (At wr X1 (byteVals (cs.take tb))) := Lib.hid (by have := hX1; simpa [byteVals, List.map_take] using this); clear hX1 hX1n hX1b)
        | (refine wpList_str rfl 24 9 (.tmp 35) rfl 5 Tryd.underlying24 Tryd.underlying5 Tryd.underlying9 X1 _ _ (by rfl) (cs.take tb) HX1.out (by rw [List.length_take]; omega) ?_)
        | (at_builtin; refine wpList_append_OwnS rfl (.tmp 31) (.tmp 37) 22 rfl 9 j0 _ Tryd.underlying22 hj0 hy0 hy1 rfl (.slice L l.length lc) (strVals l) l.length (strVals_length l) (by rfl) (Own.fr HO.out ((Fr.refl [] wr).alloc _) (by simp)) (some ⟨wr.heap.size, 0, none⟩) 1 1 (by rfl) [.string ⟨(cs.take tb).toArray⟩] (one_str wr _) rfl (by simp [Value.oneCell']) (by unfold maxLen; omega) (by rw [hy2]; omega) ?_; intro A5 c5 w5 ho5 hg5 hl5; have HO5 := Lib.hid ho5; have HG5 := Lib.hid hg5; have HL5 := Lib.hid hl5; clear ho5 hg5 hl5; have HB5 : Hid (Bytes w5 B cs) := Lib.hid (At.fr_nil HB.out ((HF.out.trans ((Fr.refl [] wr).alloc _)).grown HG5.out (fun g hg => .inr (Nat.le_of_lt (HFR.out g hg))))))
        | (refine wpList_cut rfl 24 (.tmp 39) (some (.tmp 40)) none none rfl 5 i0 Tryd.underlying24 hi0 hz1 B cs.length cq (by rfl) (byteVals cs) HB5.out hlx hcq hB nx cs.length cq (.inr (by rfl)) (.inl ⟨by rfl, rfl, rfl⟩) (.inl ⟨by rfl, rfl⟩) (by omega) hcq (Nat.le_refl _) (Nat.le_refl _) ?_; intro X2 hX2 hX2n hX2b; have HX2 := Lib.hid hX2; clear hX2)
      go_roundw
      case rel =>
        have hf5 : Fr [] w1 w5 := (HF.out.trans ((Fr.refl [] wr).alloc _)).grown HG5.out (fun g hg => .inr (Nat.le_of_lt (HFR.out g hg)))
        have hX2 : Bytes w5 X2 (cs.drop nx) := by
          have := HX2.out
          rw [List.take_of_length_le (by rw [List.length_drop, hlx]; exact Nat.le_refl _)] at this
          simpa [Bytes, byteVals, List.map_drop] using this
        have hlen2 : (cs.drop nx).length = cs.length - nx := List.length_drop
        have k0 : wr.heap.size ≤ w5.heap.size := by have := ((Fr.refl [] wr).alloc (Obj.cells #[Value.string ⟨(cs.take tb).toArray⟩] 9)).size; have := HG5.out.size; omega
        have kc : ∀ p : Addr, p.block = w1.heap.size → w5.cell? p = wr.cell? p := fun p hp => by
          have hl : p.block < wr.heap.size := by rw [hp]; exact HS.out
          refine (((Fr.refl _ wr).alloc _).grown (l := (Value.slice L l.length lc).ownBlock.toList) HG5.out (fun g hg => .inl (by simpa using hg))).cell hl ?_
          intro hm
          have := HFR.out p.block (by simpa using hm)
          omega
        refine ⟨X2, cs.drop nx, cq - nx, l ++ [cs.take tb], by rw [hlen2], cut_back hX2 (by rintro rfl; simp) hf5 HB.out hX2b, hX2n, by rw [hlen2]; omega, ?_, ?_, hf5, (kc _ rfl).trans HS0.out, (kc _ rfl).trans HS1.out, ?_, ?_, ?_⟩
        · have := HO5.out; unfold OwnL; rw [strVals_append]; exact this
        · intro g hg
          rcases HL5.out with e | e
          · exact HFR.out g (by rw [← e]; exact hg)
          · rw [hg] at e; injection e with e; have := HS.out; simp at e; omega
        · rw [List.append_assoc, List.singleton_append, ← HE1.out]; exact HQ.out
        · rw [hlen2]; simp; omega
        · have := HS.out; omega
      case measure => first | (simp; done) | (simp; omega)
end Go.Proofs.YtdjmhflfhepmmaaDoor
