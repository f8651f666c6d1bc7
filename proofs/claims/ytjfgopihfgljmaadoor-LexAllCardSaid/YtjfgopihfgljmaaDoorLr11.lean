/-
  The reference of tokens: All, of every source. No conditions but sizes.
-/
import Derived.Test.YtjfgopihfgljmaaDoorLr10
namespace Go.Proofs.YtjfgopihfgljmaaDoor
open Go.RowKit
set_option linter.unusedVariables false
set_option linter.unusedSimpArgs false

/-- A token as the reference keeps it: its number stands apart. -/
def tk0 (t : Tk) : List Value := Tk.cells ⟨t.k, t.p, t.s, 0⟩
theorem tk0_len (t : Tk) : (tk0 t).length = 6 := rfl
theorem tk0_one (t : Tk) : ∀ u ∈ tk0 t, u.oneCell' = true := by simp [tk0, Tk.cells, Value.oneCell']
theorem numParts : ∃ i, Tryd.prog.info? 47 = some i ∧ i.zero = some (.agg #[.bool false, .slice none 0 0]) ∧ i.size = 2 ∧ i.bytes = 32 := info_parts (by kernel_rfl)
theorem got12_size : (Tryd.prog.info? 31).map (·.size) = some 4 := by kernel_rfl
def gotL (L N : Value) (e p : Int) : List Value := [L, N, .int .i64 e, .int .i64 p]
/-- A number of the reference's, not below 0, its digits in a block of ints. -/
def NumW (w : World) (x : List Value) (l : List Nat) : Prop := ∃ A c, x = [.bool false, .slice A l.length c] ∧ l.length ≤ c ∧ At w A (ints l) ∧ ∀ a, A = some a → ∃ cs, Bk w a.block 3 cs
theorem NumW.v {w : World} {x : List Value} {l : List Nat} (h : NumW w x l) : NumV w x false l := by
  obtain ⟨A, c, h1, h2, h3, -⟩ := h; exact ⟨A, c, h1, h2, h3⟩
theorem NumW.keep {w w' : World} {x : List Value} {l : List Nat} (h : NumW w x l) (hs : w.heap.size ≤ w'.heap.size) (hk : KeepB 3 w w') : NumW w' x l := by
  obtain ⟨A, c, h1, h2, h3, h4⟩ := h
  refine ⟨A, c, h1, h2, h3.keep hs (fun a p ha hp => ?_), fun a ha => ?_⟩
  · obtain ⟨cs, hb⟩ := h4 a ha
    refine World.cell?_of_block ?_
    rw [hp]
    exact (hk _ _ hb : w'.heap[a.block]? = _).trans (hb : w.heap[a.block]? = _).symm
  · obtain ⟨cs, hb⟩ := h4 a ha
    exact ⟨cs, hk _ _ hb⟩
/-- Numbers beside tokens. -/
def NumRow (w : World) (ts : List Tk) (xs : List (List Value)) : Prop := xs.length = ts.length ∧ ∀ (k : Nat) (t : Tk) (x : List Value), ts[k]? = some t → xs[k]? = some x → NumW w x (digs t.v)
theorem NumRow.keep {w w' : World} {ts : List Tk} {xs : List (List Value)} (h : NumRow w ts xs) (hs : w.heap.size ≤ w'.heap.size) (hk : KeepB 3 w w') : NumRow w' ts xs := ⟨h.1, fun k t x h1 h2 => (h.2 k t x h1 h2).keep hs hk⟩
theorem NumRow.fr_nil {w w' : World} {ts : List Tk} {xs : List (List Value)} (h : NumRow w ts xs) (hf : Fr [] w w') : NumRow w' ts xs := h.keep hf.size (KeepB.of_nil hf)
theorem NumRow.snoc {w : World} {ts : List Tk} {xs : List (List Value)} {t : Tk} {x : List Value} (h : NumRow w ts xs) (hx : NumW w x (digs t.v)) : NumRow w (ts ++ [t]) (xs ++ [x]) := by
  refine ⟨by simp [h.1], fun k u y h1 h2 => ?_⟩
  rcases Nat.lt_or_ge k ts.length with hk | hk
  · rw [List.getElem?_append_left hk] at h1
    rw [List.getElem?_append_left (by rw [h.1]; exact hk)] at h2
    exact h.2 k u y h1 h2
  · have hl := h.1
    rw [List.getElem?_append_right hk] at h1
    rw [List.getElem?_append_right (by omega)] at h2
    have hk0 : k - ts.length = 0 := by
      have := (List.getElem?_eq_some_iff.1 h1).1
      simp at this; omega
    rw [hk0] at h1
    rw [hl, hk0] at h2
    injection h1 with h1; injection h2 with h2
    subst h1 h2; exact hx
theorem KeepB.trans {t : TypeId} {a b c : World} (h : KeepB t a b) (k : KeepB t b c) : KeepB t a c := fun g cs hb => k _ _ (h _ _ hb)
theorem keep_own {w w' : World} {base n sz c : Nat} {A : Option Addr} {e : TypeId} {xs : List Value} (h : w.ownsRow base e sz (.slice A n c) n xs) (hg : w.grownBy w' (Value.slice A n c).ownBlock) {t : TypeId} (ht : t ≠ e) : KeepB t w w' :=
  fun b cs hb => hb.grown hg (fun e' => RR.own_ne h hb ht e'.symm)
theorem keep_set {w : World} {g : Nat} {t' : TypeId} {cs' : Array Value} (hb : Bk w g t' cs') {t : TypeId} (ht : t ≠ t') (i : Nat) (u : Value) : KeepB t w (w.setCell ⟨g, i, none⟩ u) := fun _ _ h => h.far (h.ne_ hb ht) u
theorem news_at (w : World) (t : TypeId) (vs : List Value) : ∀ j u, vs[j]? = some u → (w.alloc (.cells vs.toArray t)).cell? ((⟨w.heap.size, 0, none⟩ : Addr).add j) = some u := by
  intro j u hu
  have hb := Bk.new w t vs.toArray
  have hadd : (⟨w.heap.size, 0, none⟩ : Addr).add j = ⟨w.heap.size, j, none⟩ := by unfold Addr.add; split <;> simp_all
  rw [hadd, hb.cell]
  simpa using hu
/-- What the reference has while it reads: its result, its list, the tokens and numbers. -/
structure GotM (w0 w : World) (R G : Nat) (ts : List Tk) (A : Option Addr) (c : Nat) (B : Option Addr) (d : Nat) (xs : List (List Value)) (k : Nat) : Prop where
  len : k = ts.length
  res : Bk w R 31 (gotL (.slice none 0 0) (.slice none 0 0) 0 0).toArray
  blk : Bk w G 31 (gotL (.slice A k c) (.slice B k d) 0 0).toArray
  rl : w.ownsRow w0.heap.size 43 6 (.slice A k c) k (ts.flatMap tk0)
  rn : w.ownsRow w0.heap.size 47 2 (.slice B k d) k xs.flatten
  num : NumRow w ts xs
theorem GotM.fr_nil {w0 w w' : World} {R G : Nat} {ts : List Tk} {A : Option Addr} {c : Nat} {B : Option Addr} {d : Nat} {xs : List (List Value)} {k : Nat} (h : GotM w0 w R G ts A c B d xs k) (hf : Fr [] w w') : GotM w0 w' R G ts A c B d xs k :=
  { len := h.len, res := h.res.fr hf (by simp), blk := h.blk.fr hf (by simp), rl := own_nil h.rl hf, rn := own_nil h.rn hf, num := h.num.fr_nil hf }
/-- What the reference answers. -/
def RAllPost (w : World) (s : List UInt8) (e : Ending) (w' : World) : Prop := Fr [] w w' ∧
  match lexAllM s with
  | .error (er, p) => e = .returned (.agg (gotL (.slice none 0 0) (.slice none 0 0) (er : Int) (p : Int)).toArray)
  | .ok ts => ∃ A c B d xs, e = .returned (.agg (gotL (.slice A ts.length c) (.slice B ts.length d) 0 0).toArray) ∧ w'.ownsRow w.heap.size 43 6 (.slice A ts.length c) ts.length (ts.flatMap tk0) ∧
      w'.ownsRow w.heap.size 47 2 (.slice B ts.length d) ts.length xs.flatten ∧ NumRow w' ts xs
theorem RAllPost.ok_ {w w1 w2 : World} {s : List UInt8} {ts : List Tk} {A B : Option Addr} {c d n : Nat} {xs : List (List Value)} (hf : Fr [] w w2) (hl : lexAllM s = .ok ts) (hn : ts.length = n)
    (h1 : w1.ownsRow w.heap.size 43 6 (.slice A n c) n (ts.flatMap tk0)) (h2 : w1.ownsRow w.heap.size 47 2 (.slice B n d) n xs.flatten) (h3 : NumRow w1 ts xs)
    (hs : w1.heap.size ≤ w2.heap.size) (k1 : KeepB 43 w1 w2) (k2 : KeepB 47 w1 w2) (k3 : KeepB 3 w1 w2) :
    RAllPost w s (.returned (.agg (gotL (.slice A n c) (.slice B n d) 0 0).toArray)) w2 := by
  subst hn
  unfold RAllPost
  rw [hl]
  exact ⟨hf, A, c, B, d, xs, rfl, own_keep h1 k1, own_keep h2 k2, h3.keep hs k3⟩
/-- Where the loop stands. -/
def RAllRel (w : World) (s : List UInt8) (R G : Nat) (v4 : Value) (wr : World) : Prop := ∃ (i k : Nat) (ts : List Tk) (A : Option Addr) (c : Nat) (B : Option Addr) (d : Nat) (xs : List (List Value)),
  v4 = .int .i64 (i : Int) ∧ i ≤ s.length ∧ k ≤ i ∧ GotM w wr R G ts A c B d xs k ∧ pre ts (lexA (opT ts) i (s.drop i)) = lexA true 0 s ∧ Fr [] w wr
theorem opT_zero (ts : List Tk) : opT (ts.map fun t => (⟨t.k, t.p, t.s, 0⟩ : Tk)) = opT ts := by
  unfold opT
  rw [List.getLast?_map]
  cases ts.getLast? <;> rfl
theorem opT_own {w : World} {base k c : Nat} {A : Option Addr} {ts : List Tk} (h : w.ownsRow base 43 6 (.slice A k c) k (ts.flatMap tk0)) (hk : k = ts.length) (hl : k ≤ 100000) :
    Calls Tryd.prog 18 #[.slice A k c] w fun e w' => e = .returned (.bool (opT ts)) ∧ Fr [] w w' := by
  have h0 := roperand_any (w := w) (A := A) (n := k) (c := c) (ts := ts.map fun t => (⟨t.k, t.p, t.s, 0⟩ : Tk)) (by simp [hk]) hl (fun hpos => by
    have hne : ts.flatMap tk0 ≠ [] := by
      intro e
      have := congrArg List.length e
      rw [RR.flat_len (f := tk0) (sz := 6) (fun _ => rfl)] at this
      simp at this; omega
    obtain ⟨b, h1, h2, -, h4⟩ := RR.own_cells h hne
    refine ⟨b, h1, h2, fun j t ht => ?_⟩
    rw [List.getElem?_map] at ht
    obtain ⟨u, hu, rfl⟩ := Option.map_eq_some_iff.1 ht
    have g : ∀ q v, q < 6 → (tk0 u)[q]? = some v → w.cell? ⟨b, j * 6 + q, none⟩ = some v := fun q v hq hv => h4 _ _ ((RR.flat_at (f := tk0) (sz := 6) (fun _ => rfl) u q hq ts j hu).trans hv)
    exact ⟨g 0 _ (by omega) rfl, g 1 _ (by omega) rfl, g 2 _ (by omega) rfl, g 3 _ (by omega) rfl, g 4 _ (by omega) rfl, g 5 _ (by omega) rfl⟩)
  rw [opT_zero] at h0
  exact h0
theorem text12_size : (Tryd.prog.info? 64).map (·.size) = some 3 := by kernel_rfl
/-- Where a token has been read. -/
def TokRel (wr : World) (op : Bool) (i : Nat) (ch : UInt8) (r : List UInt8) (gt gx : Nat) (v4 : Value) (wx : World) : Prop := ∃ (k m v : Nat) (t : List UInt8) (x : List Value), nextM op (ch :: r) = .ok (k, t, v, m) ∧ v4 = .int .i64 ((i + m : Nat) : Int) ∧ Fr [] wr wx ∧
  Bk wx gt 43 (tk0 ⟨k, i, t, v⟩).toArray ∧ Bk wx gx 47 x.toArray ∧ NumW wx x (digs v)
theorem tk0_arr (k i v : Nat) (t : List UInt8) : (tk0 ⟨k, i, t, v⟩).toArray = #[.int .i64 (k : Int), .int .i64 (i : Int), .string ⟨t.toArray⟩, .bool false, .int .u64 0, .int .u64 0] := by simp [tk0, Tk.cells]
theorem tk0_list (k i v : Nat) (t : List UInt8) : tk0 ⟨k, i, t, v⟩ = [.int .i64 (k : Int), .int .i64 (i : Int), .string ⟨t.toArray⟩, .bool false, .int .u64 0, .int .u64 0] := by simp [tk0, Tk.cells]
theorem numW_zero (w : World) : NumW w [.bool false, .slice none 0 0] (digs 0) := ⟨none, 0, rfl, Nat.le_refl _, .inl rfl, fun a ha => by cases ha⟩
set_option maxRecDepth 100000 in
set_option maxHeartbeats 16000000 in
theorem rall_any (w : World) (s : List UInt8) (hs : s.length ≤ 9223372036854775807) : Calls Tryd.prog 6 #[.string ⟨s.toArray⟩] w (RAllPost w s) := by
  obtain ⟨PP, hPP⟩ : ∃ PP, PP = RAllPost w s := ⟨_, rfl⟩
  rw [← hPP]
  have HPP := Lib.hid hPP
  obtain ⟨S, hS⟩ : ∃ S, S = (⟨s.toArray⟩ : ByteArray) := ⟨_, rfl⟩
  obtain ⟨n, hn⟩ : ∃ n, n = s.length := ⟨_, rfl⟩
  have hs1 : S.size = n := by rw [hS, hn]; simp [ByteArray.size]
  rw [← hS]
  rw [← hn] at hs
  have HS := Lib.hid hS; have HN := Lib.hid hn
  clear hS hn hPP
  go_enter Tryd.func6, Tryd.ntmps6
  go_upto_region 1 with fail
  obtain ⟨R, hR⟩ : ∃ R, R = w.heap.size := ⟨_, rfl⟩
  obtain ⟨w1, hw1⟩ : ∃ w1, w1 = w.alloc (.cells #[.slice none 0 0, .slice none 0 0, .int .i64 0, .int .i64 0] 31) := ⟨_, rfl⟩
  have hb1 : Bk w1 R 31 #[.slice none 0 0, .slice none 0 0, .int .i64 0, .int .i64 0] := by rw [hw1, hR]; exact Bk.new w _ _
  have hf1 : Fr [] w w1 := by rw [hw1]; exact (Fr.refl [] w).alloc _
  rw [← hw1, ← hR]
  have HB1 := Lib.hid hb1; have HF1 := Lib.hid hf1
  have HRL : Hid (w.heap.size ≤ R) := Lib.hid (Nat.le_of_eq hR.symm)
  have hsz : w1.heap.size = R + 1 := by rw [hw1, hR]; unfold World.alloc; simp only [Array.size_push]
  have HSZ := Lib.hid hsz
  clear hw1 hb1 hf1 hR hsz
  by_cases hbig : 16384 < n
  · have hbI : (16384 : Int) < (n : Int) := by omega
    have hb2 := HB1.out
    have rlt := hb2.lt
    have rf0 := hb2.frozen 0; have rf1 := hb2.frozen 1; have rf2 := hb2.frozen 2; have rf3 := hb2.frozen 3
    have rc0 := hb2.cell_ (i := 0) rfl; have rc1 := hb2.cell_ (i := 1) rfl; have rc2 := hb2.cell_ (i := 2) rfl; have rc3 := hb2.cell_ (i := 3) rfl
    have HLX : Hid (lexAllM s = .error (5, 0)) := Lib.hid (by unfold lexAllM; rw [if_pos (by rw [← HN.out]; exact hbig)])
    clear hbig
    go_wp2_with fail
    have hbb := (((hb2.put 0 (.slice none 0 0)).put 1 (.slice none 0 0)).put 2 (.int .i64 5)).put 3 (.int .i64 0)
    refine ret_row_ (p := 2) (T := 31) rfl R (gotL (.slice none 0 0) (.slice none 0 0) 5 0) _ rfl hbb Tryd.underlying31 rfl got12_size rfl ?_
    rw [HPP.out]
    refine ⟨(((HF1.out.setCell (.inr HRL.out) _).setCell (.inr HRL.out) _).setCell (.inr HRL.out) _).setCell (.inr HRL.out) _, ?_⟩
    rw [HLX.out]; rfl
  · have hbI : ¬ (16384 : Int) < (n : Int) := by omega
    obtain ⟨LX, hLX⟩ : ∃ LX, LX = lexA true 0 s := ⟨_, rfl⟩
    have HLX : Hid (lexAllM s = LX) := Lib.hid (by unfold lexAllM; rw [if_neg (by rw [← HN.out]; exact hbig), hLX]; rfl)
    have HLY := Lib.hid hLX
    clear hLX
    go_upto_region 4 with fail
    obtain ⟨G, hG⟩ : ∃ G, G = w1.heap.size := ⟨_, rfl⟩
    obtain ⟨w2, hw2⟩ : ∃ w2, w2 = w1.alloc (.cells #[.slice none 0 0, .slice none 0 0, .int .i64 0, .int .i64 0] 31) := ⟨_, rfl⟩
    have hb2 : Bk w2 G 31 #[.slice none 0 0, .slice none 0 0, .int .i64 0, .int .i64 0] := by rw [hw2, hG]; exact Bk.new w1 _ _
    have hf2 : Fr [] w w2 := by rw [hw2]; exact HF1.out.alloc _
    have hbr : Bk w2 R 31 #[.slice none 0 0, .slice none 0 0, .int .i64 0, .int .i64 0] := by rw [hw2]; exact HB1.out.alloc _
    have HGR : Hid (G = R + 1) := Lib.hid (hG.trans HSZ.out)
    rw [← hw2, ← hG]
    have HF2 := Lib.hid hf2
    have HG0 : Hid (GotM w w2 R G [] none 0 none 0 [] 0) := Lib.hid { len := rfl, res := hbr, blk := hb2, rl := own_new _, rn := own_new _, num := ⟨rfl, fun k t x h _ => by cases h⟩ }
    clear hw2 hb2 hf2 hG hbr HB1 HF1 HSZ
    have hsn : n ≤ 16384 := by omega
    go_upto_region 5 with fail
    clear hbI
    go_loopw [4, 5, 6, 7, 8, 9, 10, 11] (fun v4 _ _ _ _ _ _ _ wr => RAllRel w s R G v4 wr) (fun v4 _ _ _ _ _ _ _ _ => n + 1 - (intOf v4).toNat)
    case atStart => exact ⟨0, 0, [], none, 0, none, 0, [], rfl, Nat.zero_le _, Nat.le_refl _, HG0.out, by rw [List.drop_zero, opT_nil]; unfold pre; cases lexA true 0 s <;> rfl, HF2.out⟩
    case round =>
      clear HG0 HF2
      obtain ⟨i, k, ts, A, c, B, d, xs, rfl, hi, hki, hgm, heq, hfr⟩ := hrel
      rw [← HN.out] at hi
      have HGM := Lib.hid hgm; have HEQ := Lib.hid heq; have HFR := Lib.hid hfr
      clear hgm heq hfr
      rcases Nat.lt_or_ge i n with hin | hin
      · have hinI : (i : Int) < (n : Int) := by omega
        obtain ⟨ch, hch⟩ : ∃ c, s[i]? = some c := ⟨_, List.getElem?_eq_getElem (by have := HN.out; omega)⟩
        have hix := str_ix (s := s) hch
        rw [← HS.out] at hix
        obtain ⟨r, hr⟩ : ∃ r, r = s.drop (i + 1) := ⟨_, rfl⟩
        have hdr : s.drop i = ch :: r := by rw [hr]; exact drop_get hch
        have HE : Hid (pre ts (lexA (opT ts) i (ch :: r)) = lexA true 0 s) := Lib.hid (by rw [← hdr]; exact HEQ.out)
        obtain ⟨cn, hcn⟩ : ∃ cn : Nat, cn = ch.toNat := ⟨_, rfl⟩
        have hcn1 : cn < 256 := by rw [hcn]; exact ch.toNat_lt
        rw [← hcn] at hix
        have HCN := Lib.hid hcn; have HCH := Lib.hid hch; have HR := Lib.hid hr; have HDR := Lib.hid hdr
        clear hcn hch hr hdr HEQ
        go_upto_region 7 with fail
        clear hix
        by_cases hbl : cn = 32 ∨ cn = 9 ∨ cn = 13
        · have HE2 : Hid (pre ts (lexA (opT ts) (i + 1) (s.drop (i + 1))) = lexA true 0 s) := Lib.hid (by
            rw [← HR.out]
            rw [← lexA_blank (c := ch) (by rw [← HCN.out]; omega)]; exact HE.out)
          as_aux_lemma =>
            rcases hbl with rfl | rfl | rfl
            all_goals
              go_wp2_with fail
              go_roundw
              case rel => exact ⟨i + 1, k, ts, A, c, B, d, xs, by go_num, by rw [← HN.out]; omega, by omega, HGM.out, HE2.out, HFR.out⟩
              case measure => first | (simp [intOf]; done) | (simp [intOf]; omega)
        · have f32 : ((cn : Int) == 32) = false := by simp; omega
          have f9 : ((cn : Int) == 9) = false := by simp; omega
          have f13 : ((cn : Int) == 13) = false := by simp; omega
          have HB0 : Hid (¬ (cn = 32 ∨ cn = 9 ∨ cn = 13)) := Lib.hid hbl
          clear hbl
          go_upto_region 9 with fail
          obtain ⟨CT, hCT⟩ : ∃ CT : Bool, CT = decide (cn = 92 ∧ (r.headD 0).toNat = 10) := ⟨_, rfl⟩
          have HCT := Lib.hid hCT
          clear hCT
          go_cut [51] from 36 to 51 (fun v51 wx => v51 = .bool CT ∧ wx = wr)
          case first =>
            as_aux_lemma =>
              by_cases h92 : cn = 92
              · have f92 : ((cn : Int) == 92) = true := by simp; omega
                rcases Nat.lt_or_ge (i + 1) n with hi1 | hi1
                · have hi1I : (i : Int) + 1 < (n : Int) := by omega
                  obtain ⟨dh, hdh⟩ : ∃ c, s[i + 1]? = some c := ⟨_, List.getElem?_eq_getElem (by have := HN.out; omega)⟩
                  have hix2 := str_ix (s := s) hdh
                  rw [← HS.out] at hix2
                  have hrd : r.headD 0 = dh := by rw [HR.out, drop_get hdh]; rfl
                  obtain ⟨dn, hdn⟩ : ∃ dn : Nat, dn = dh.toNat := ⟨_, rfl⟩
                  rw [← hdn] at hix2
                  have hix2 : ∀ W, (Instr.index 9 (.string S) (.int .i64 ((i : Int) + 1))).run Tryd.prog W = .ok (.int .u8 (dn : Int)) W := fun W => by have h := hix2 W; simpa using h
                  have HC2 : Hid (CT = decide (dn = 10)) := Lib.hid (by rw [HCT.out, hrd, ← hdn, decide_eq_decide]; simp [h92])
                  clear hdh hrd hdn h92
                  by_cases h10 : dn = 10
                  · have f10 : ((dn : Int) == 10) = true := by simp; omega
                    have HC3 : Hid (CT = true) := Lib.hid (by rw [HC2.out]; simpa using h10)
                    clear h10
                    go_wp2_with fail
                    go_meet
                    case rel => exact ⟨by rw [HC3.out], rfl⟩
                  · have f10 : ((dn : Int) == 10) = false := by simp; omega
                    have HC3 : Hid (CT = false) := Lib.hid (by rw [HC2.out]; simpa using h10)
                    clear h10
                    go_wp2_with fail
                    go_meet
                    case rel => exact ⟨by rw [HC3.out], rfl⟩
                · have hi1I : ¬ (i : Int) + 1 < (n : Int) := by omega
                  have HC3 : Hid (CT = false) := Lib.hid (by
                    have hr0 : r = [] := by rw [HR.out]; exact List.drop_of_length_le (by rw [← HN.out]; exact hi1)
                    rw [HCT.out, hr0]; simp)
                  clear h92
                  go_wp2_with fail
                  go_meet
                  case rel => exact ⟨by rw [HC3.out], rfl⟩
              · have f92 : ((cn : Int) == 92) = false := by simp; omega
                have HC3 : Hid (CT = false) := Lib.hid (by rw [HCT.out]; simp [h92])
                clear h92
                go_wp2_with fail
                go_meet
                case rel => exact ⟨by rw [HC3.out], rfl⟩
          case rest =>
            obtain ⟨rfl, rfl⟩ := hcut
            cases CT with
            | true =>
              as_aux_lemma =>
                have hct := (decide_eq_true_iff.1 HCT.out.symm)
                obtain ⟨r2, dh, hr2⟩ : ∃ r2 dh, r = dh :: r2 := by
                  cases r with
                  | nil => have := hct.2; simp at this
                  | cons a b => exact ⟨b, a, rfl⟩
                have hd10 : dh.toNat = 10 := by have := hct.2; rw [hr2] at this; exact this
                have hr22 : s.drop (i + 2) = r2 := by rw [show i + 2 = (i + 1) + 1 by omega, ← List.drop_drop, ← HR.out, hr2]; rfl
                have hin2 : i + 2 ≤ n := by
                  have h := congrArg List.length (HR.out.symm.trans hr2)
                  rw [List.length_drop, ← HN.out] at h; simp at h; omega
                have HE2 : Hid (pre ts (lexA (opT ts) (i + 2) (s.drop (i + 2))) = lexA true 0 s) := Lib.hid (by
                  rw [hr22, ← lexA_cont (c := ch) (d := dh) (by rw [← HCN.out]; exact hct.1) hd10, ← hr2]; exact HE.out)
                clear hct hr2 hd10 hr22
                go_wp2_with fail
                go_roundw
                case rel => exact ⟨i + 2, k, ts, A, c, B, d, xs, by go_num, by rw [← HN.out]; omega, by omega, HGM.out, HE2.out, HFR.out⟩
                case measure => first | (simp [intOf]; done) | (simp [intOf]; omega)
            | false =>
              have HCF : Hid (¬ (cn = 92 ∧ (r.headD 0).toNat = 10)) := Lib.hid (by have := HCT.out; simpa using this)
              clear HCT
              go_upto_region 11 with fail
              by_cases h35 : cn = 35
              · have f35 : ((cn : Int) == 35) = true := by simp; omega
                as_aux_lemma =>
                  obtain ⟨h, hh⟩ : ∃ h, h = ((ch :: r).takeWhile cmtM).length := ⟨_, rfl⟩
                  have hHn : i + h ≤ n := by
                    have h1 := takeWhile_le cmtM (ch :: r)
                    rw [← HDR.out, List.length_drop, ← HN.out, HDR.out, ← hh] at h1; omega
                  have hh1 : 1 ≤ h := by
                    rw [hh, List.takeWhile_cons_of_pos (by unfold cmtM; rw [← HCN.out, h35]; decide)]; simp
                  have HE2 : Hid (pre ts (lexA (opT ts) (i + h) (s.drop (i + h))) = lexA true 0 s) := Lib.hid (by
                    have h2 := lexA_hash (op := opT ts) (p := i) (s := ch :: r) rfl (by rw [← HCN.out]; exact h35)
                    rw [← hh] at h2
                    rw [← List.drop_drop, HDR.out, ← h2]; exact HE.out)
                  have HH := Lib.hid hh
                  clear hh h35
                  go_upto_block 2 with fail
                  go_cut [4] from 56 to 67 (fun v4 wx => v4 = .int .i64 ((i + h : Nat) : Int) ∧ wx = wc)
                  case first =>
                    go_wp2_with fail
                    go_loopw [4] (fun v4 wz => ∃ j : Nat, v4 = .int .i64 ((i + j : Nat) : Int) ∧ j ≤ h ∧ wz = wc) (fun v4 _ => n + 1 - (intOf v4).toNat)
                    case atStart => exact ⟨0, by go_num, Nat.zero_le _, rfl⟩
                    case round =>
                      obtain ⟨j, rfl, hj, rfl⟩ := hrel
                      obtain ⟨m, hm⟩ : ∃ m, m = i + j := ⟨_, rfl⟩
                      rw [← hm]
                      have HM := Lib.hid hm
                      have hmn : m ≤ n := by omega
                      have hmj : j ≤ m := by omega
                      rcases Nat.lt_or_ge m n with hmn2 | hmn2
                      · have hmI : (m : Int) < (n : Int) := by omega
                        obtain ⟨x, hx⟩ : ∃ x, s[m]? = some x := ⟨_, List.getElem?_eq_getElem (by have := HN.out; omega)⟩
                        have hix3 := str_ix (s := s) hx
                        rw [← HS.out] at hix3
                        have hxj : (ch :: r)[j]? = some x := by rw [← HDR.out, List.getElem?_drop, ← hm]; exact hx
                        have hdg := tw_at cmtM (ch :: r) j x (by rw [← HH.out]; exact hj) hxj
                        rw [← HH.out] at hdg
                        obtain ⟨xn, hxn⟩ : ∃ xn : Nat, xn = x.toNat := ⟨_, rfl⟩
                        rw [← hxn] at hix3
                        unfold cmtM at hdg
                        rw [← hxn] at hdg
                        rcases Nat.lt_or_ge j h with hjh | hjh
                        · have hx10 : xn ≠ 10 := by rw [decide_eq_true hjh] at hdg; simpa using hdg
                          have f10 : ((xn : Int) != 10) = true := by simp; omega
                          clear hx hxj hdg hxn hx10 hm
                          go_wp2_with fail
                          go_roundw
                          case rel => exact ⟨j + 1, by have := HM.out; go_num, hjh, trivial⟩
                          case measure => first | (simp [intOf]; done) | (simp [intOf]; omega)
                        · have hx10 : xn = 10 := by rw [decide_eq_false (by omega)] at hdg; simpa using hdg
                          have f10 : ((xn : Int) != 10) = false := by simp; omega
                          have HMH : Hid (m = i + h) := Lib.hid (by omega)
                          clear hx hxj hdg hxn hx10 hm
                          go_wp2_with fail
                          go_meet
                          case rel => exact ⟨by rw [HMH.out], rfl⟩
                      · have hmI : ¬ (m : Int) < (n : Int) := by omega
                        have HMH : Hid (m = i + h) := Lib.hid (by omega)
                        clear hm
                        go_wp2_with fail
                        go_meet
                        case rel => exact ⟨by rw [HMH.out], rfl⟩
                  case rest =>
                    obtain ⟨rfl, rfl⟩ := hcut
                    obtain ⟨m, hm⟩ : ∃ m, m = i + h := ⟨_, rfl⟩
                    have HM := Lib.hid hm
                    rw [← hm] at HE2 hHn ⊢
                    have him : i < m := by omega
                    clear hm
                    go_wp2_with fail
                    go_roundw
                    case rel => exact ⟨m, k, ts, A, c, B, d, xs, rfl, by rw [← HN.out]; omega, by omega, HGM.out, HE2.out, HFR.out⟩
                    case measure => first | (simp [intOf]; done) | (simp [intOf]; omega)
              · have f35 : ((cn : Int) == 35) = false := by simp; omega
                have HTB : Hid (tokB ch r) := Lib.hid (by have h1 := HB0.out; have h2 := HCF.out; rw [HCN.out] at h1 h2 h35; exact ⟨by omega, h2, h35⟩)
                clear h35 HB0 HCF
                go_upto_region 14 with fail
                go_upto_region 16 with fail
                obtain ⟨gt, hgt⟩ : ∃ gt, gt = wc.heap.size := ⟨_, rfl⟩
                obtain ⟨w4, hw4⟩ : ∃ w4, w4 = wc.alloc (.cells #[.int .i64 0, .int .i64 (i : Int), .string ⟨#[]⟩, .bool false, .int .u64 0, .int .u64 0] 43) := ⟨_, rfl⟩
                have hw4s : w4.heap.size = gt + 1 := by rw [hw4, hgt]; unfold World.alloc; simp only [Array.size_push]
                have hb4 : Bk w4 gt 43 #[.int .i64 0, .int .i64 (i : Int), .string ⟨#[]⟩, .bool false, .int .u64 0, .int .u64 0] := by rw [hw4, hgt]; exact Bk.new wc _ _
                obtain ⟨w5, hw5⟩ : ∃ w5, w5 = w4.alloc (.cells #[.bool false, .slice none 0 0] 47) := ⟨_, rfl⟩
                have hbt : Bk w5 gt 43 #[.int .i64 0, .int .i64 (i : Int), .string ⟨#[]⟩, .bool false, .int .u64 0, .int .u64 0] := by rw [hw5]; exact hb4.alloc _
                have hbx : Bk w5 (gt + 1) 47 #[.bool false, .slice none 0 0] := by rw [hw5, ← hw4s]; exact Bk.new w4 _ _
                have hf5 : Fr [] wc w5 := by rw [hw5, hw4]; exact ((Fr.refl [] wc).alloc _).alloc _
                have hgl : wc.heap.size ≤ gt := Nat.le_of_eq hgt.symm
                rw [← hw4, ← hw5, ← hgt]
                have HBT := Lib.hid hbt; have HBX := Lib.hid hbx; have HF5 := Lib.hid hf5; have HGL := Lib.hid hgl
                clear hgt hw4 hw4s hb4 hw5 hbt hbx hf5 hgl
                obtain ⟨OP, hOP⟩ : ∃ OP, OP = opT ts := ⟨_, rfl⟩
                have HOP := Lib.hid hOP
                clear hOP
                go_upto_if 72 with fail
                go_cut [4] from 71 to 233 (fun v4 wx => TokRel wc OP i ch r gt (gt + 1) v4 wx)
                case first =>
                  have t0 := HBT.out.cell_ (i := 0) rfl; have u0 := HBT.out.frozen 0; have u2 := HBT.out.frozen 2; have rlt := HBT.out.lt
                  have t2 := HBT.out.cell_ (i := 2) rfl
                  by_cases h10 : cn = 10
                  · have f10 : ((cn : Int) == 10) = true := by simp; omega
                    have HNX : Hid (nextM OP (ch :: r) = .ok (1, [], 0, 1)) := Lib.hid (next_nl (by rw [← HCN.out]; exact h10))
                    clear h10
                    go_wp2_with fail
                    go_meet
                    case rel => exact ⟨1, 1, 0, [], [.bool false, .slice none 0 0], HNX.out, by go_num, HF5.out.setCell (.inr HGL.out) _, by rw [tk0_arr]; exact HBT.out.put 0 _, HBX.out.far (by simp) _, numW_zero _⟩
                  · have f10 : ((cn : Int) == 10) = false := by simp; omega
                    by_cases hlet : letM ch = true
                    · as_aux_lemma =>
                        have HLC : Hid (∀ W, Calls Tryd.prog 14 #[.int .u8 (cn : Int)] W fun e w' => e = .returned (.bool true) ∧ W = w') := Lib.hid (fun W => by have h := letter12 ch W; rw [hlet, ← HCN.out] at h; exact h)
                        obtain ⟨u, hu⟩ : ∃ u, u = (ch :: r).takeWhile wrdM := ⟨_, rfl⟩
                        obtain ⟨wl, hwl⟩ : ∃ wl, wl = u.length := ⟨_, rfl⟩
                        have hiw : i + wl ≤ n := by
                          have h1 := takeWhile_le wrdM (ch :: r)
                          rw [← HDR.out, List.length_drop, ← HN.out, HDR.out, ← hu, ← hwl] at h1; omega
                        have hune : u ≠ [] := by rw [hu, List.takeWhile_cons_of_pos (by unfold wrdM; rw [hlet]; rfl)]; simp
                        have hu32 : ∀ x ∈ u, x ≠ 32 := wrd_32 (by rw [hu]; exact tw_all5 wrdM _)
                        obtain ⟨e, he⟩ : ∃ e, e = i + wl := ⟨_, rfl⟩
                        have hen : e ≤ n := by omega
                        have hie : i ≤ e := by omega
                        obtain ⟨PB, hPB⟩ : ∃ PB : Bool, PB = decide (∃ x, s[e]? = some x ∧ x.toNat = 40) := ⟨_, rfl⟩
                        obtain ⟨KW, hKW⟩ : ∃ KW : Bool, KW = decide (u ∈ words) := ⟨_, rfl⟩
                        obtain ⟨KB, hKB⟩ : ∃ KB : Bool, KB = decide (u ∈ builts) := ⟨_, rfl⟩
                        have hul : u.length ≤ 100000 := by omega
                        have HIK : Hid (∀ W, Calls Tryd.prog 16 #[.string ⟨kwS.toArray⟩, .string ⟨u.toArray⟩] W fun e w' => e = .returned (.bool KW) ∧ W = w') := Lib.hid (fun W => by have h := in_any W kwS u (by decide) hul; rw [in_kw hune hu32, ← hKW] at h; exact h)
                        have HIB : Hid (∀ W, Calls Tryd.prog 16 #[.string ⟨bwS.toArray⟩, .string ⟨u.toArray⟩] W fun e w' => e = .returned (.bool KB) ∧ W = w') := Lib.hid (fun W => by have h := in_any W bwS u (by decide) hul; rw [in_bw hune hu32, ← hKB] at h; exact h)
                        have hnxt : PB = decide (((((ch :: r).drop u.length).headD 0)).toNat = 40) := by
                          rw [hPB, decide_eq_decide, ← hwl, ← HDR.out, List.drop_drop, ← he]
                          cases hq : s.drop e with
                          | nil =>
                            rw [List.drop_eq_nil_iff] at hq
                            constructor
                            · rintro ⟨x, h1, -⟩; rw [List.getElem?_eq_none hq] at h1; cases h1
                            · intro h; simp at h
                          | cons a b =>
                            have h1 : s[e]? = some a := by rw [← List.head?_drop, hq]; rfl
                            constructor
                            · rintro ⟨x, h2, h3⟩; rw [h1] at h2; injection h2 with h2; rw [h2]; exact h3
                            · intro h; exact ⟨a, h1, h⟩
                        have hnk : kindL u (((ch :: r).drop u.length).headD 0).toNat = if KB = true then 8 else if KW = true then 7 else if PB = true then 6 else 5 := by
                          unfold kindL
                          rw [hKW, hKB, hnxt]
                          by_cases h1 : u ∈ builts
                          · have h2 := bw_kw h1
                            simp [h1, h2]
                          · by_cases h2 : u ∈ words <;> simp [h1, h2]
                        obtain ⟨kd, hkd⟩ : ∃ kd, kd = if KB = true then 8 else if KW = true then 7 else if PB = true then 6 else 5 := ⟨_, rfl⟩
                        have HNX : Hid (nextM OP (ch :: r) = .ok (kd, u, 0, wl)) := Lib.hid (by
                          rw [next_let hlet, ← hu, hnk, ← hkd, hwl])
                        have hX : S.extract i e = ⟨u.toArray⟩ := by
                          rw [HS.out, ba_extract, HDR.out]
                          congr 2
                          have h1 := List.prefix_iff_eq_take.1 (List.takeWhile_prefix (l := ch :: r) wrdM)
                          rw [← hu] at h1
                          rw [he, Nat.add_sub_cancel_left, hwl]; exact h1.symm
                        have HU := Lib.hid hu; have HWL := Lib.hid hwl; have HE1 := Lib.hid he; have HPB := Lib.hid hPB; have HKD := Lib.hid hkd
                        clear hune hu32 hul hnxt hnk hlet h10 hPB hKW hKB hkd hX hu hwl he
                        go_upto_block 4 with (go_at_call 14; refine (HLC.out _).mono ?_; rintro e w7 ⟨rfl, rfl⟩)
                        clear HLC t0 t2 u0 u2
                        go_cut [8] from 79 to 96 (fun v8 wx => v8 = .int .i64 (e : Int) ∧ wx = w5)
                        case first =>
                          go_wp2_with fail
                          go_loopw [8] (fun v8 wz => ∃ j : Nat, v8 = .int .i64 ((i + j : Nat) : Int) ∧ j ≤ wl ∧ wz = w5) (fun v8 _ => n + 1 - (intOf v8).toNat)
                          case atStart => exact ⟨0, by go_num, Nat.zero_le _, rfl⟩
                          case round =>
                            obtain ⟨j, rfl, hj, rfl⟩ := hrel
                            obtain ⟨m, hm⟩ : ∃ m, m = i + j := ⟨_, rfl⟩
                            rw [← hm]
                            have HM := Lib.hid hm
                            have hmn : m ≤ n := by omega
                            have hmj : j ≤ m := by omega
                            rcases Nat.lt_or_ge m n with hmn2 | hmn2
                            · have hmI : (m : Int) < (n : Int) := by omega
                              obtain ⟨x, hx⟩ : ∃ x, s[m]? = some x := ⟨_, List.getElem?_eq_getElem (by have := HN.out; omega)⟩
                              have hix3 := str_ix (s := s) hx
                              rw [← HS.out] at hix3
                              have hxj : (ch :: r)[j]? = some x := by rw [← HDR.out, List.getElem?_drop, ← hm]; exact hx
                              have hdg := tw_at wrdM (ch :: r) j x (by rw [← HU.out, ← HWL.out]; exact hj) hxj
                              rw [← HU.out, ← HWL.out] at hdg
                              have HXL := Lib.hid (letter12 x); have HXD := Lib.hid (digit12 x)
                              obtain ⟨xn, hxn⟩ : ∃ xn : Nat, xn = x.toNat := ⟨_, rfl⟩
                              rw [← hxn] at hix3 HXL HXD
                              obtain ⟨b1, hb1⟩ : ∃ b1, b1 = letM x := ⟨_, rfl⟩
                              obtain ⟨b2, hb2⟩ : ∃ b2, b2 = digM x := ⟨_, rfl⟩
                              unfold wrdM at hdg
                              rw [← hb1] at HXL hdg; rw [← hb2] at HXD hdg
                              clear hx hxj hxn hm hb1 hb2
                              rcases Nat.lt_or_ge j wl with hjh | hjh
                              · rw [decide_eq_true hjh] at hdg
                                cases b1 with
                                | true =>
                                  clear hdg
                                  go_wp2_with (go_at_call 14; refine (HXL.out _).mono ?_; rintro e w7 ⟨rfl, rfl⟩)
                                  go_roundw
                                  case rel => exact ⟨j + 1, by have := HM.out; go_num, hjh, trivial⟩
                                  case measure => first | (simp [intOf]; done) | (simp [intOf]; omega)
                                | false =>
                                  obtain rfl : b2 = true := by simpa using hdg
                                  clear hdg
                                  go_wp2_with (first
                                    | (go_at_call 14; refine (HXL.out _).mono ?_; rintro e w7 ⟨rfl, rfl⟩)
                                    | (go_at_call 15; refine (HXD.out _).mono ?_; rintro e w7 ⟨rfl, rfl⟩))
                                  go_roundw
                                  case rel => exact ⟨j + 1, by have := HM.out; go_num, hjh, trivial⟩
                                  case measure => first | (simp [intOf]; done) | (simp [intOf]; omega)
                              · rw [decide_eq_false (by omega)] at hdg
                                obtain rfl : b1 = false := by (cases b1 with | false => rfl | true => simp at hdg)
                                obtain rfl : b2 = false := by simpa using hdg
                                have HMH : Hid (m = e) := Lib.hid (by have := HM.out; have := HE1.out; omega)
                                clear hdg
                                go_wp2_with (first
                                  | (go_at_call 14; refine (HXL.out _).mono ?_; rintro e w7 ⟨rfl, rfl⟩)
                                  | (go_at_call 15; refine (HXD.out _).mono ?_; rintro e w7 ⟨rfl, rfl⟩))
                                go_meet
                                case rel => exact ⟨by rw [HMH.out], rfl⟩
                            · have hmI : ¬ (m : Int) < (n : Int) := by omega
                              have HMH : Hid (m = e) := Lib.hid (by have := HM.out; have := HE1.out; omega)
                              clear hm
                              go_wp2_with fail
                              go_meet
                              case rel => exact ⟨by rw [HMH.out], rfl⟩
                        case rest =>
                          obtain ⟨rfl, rfl⟩ := hcut
                          have hX : S.extract i e = ⟨u.toArray⟩ := by
                            rw [HS.out, ba_extract, HDR.out]
                            congr 2
                            have h1 := List.prefix_iff_eq_take.1 (List.takeWhile_prefix (l := ch :: r) wrdM)
                            rw [← HU.out] at h1
                            rw [HE1.out, Nat.add_sub_cancel_left, HWL.out]; exact h1.symm
                          have t0 := HBT.out.cell_ (i := 0) rfl; have u0 := HBT.out.frozen 0; have u2 := HBT.out.frozen 2
                          have t2 := HBT.out.cell_ (i := 2) rfl
                          have hieI : (i : Int) ≤ (e : Int) := by omega
                          have henI : (e : Int) ≤ (n : Int) := by omega
                          go_upto_region 25 with fail
                          obtain ⟨w6, hw6⟩ : ∃ w6, w6 = (wc.setCell ⟨gt, 2, none⟩ (.string ⟨u.toArray⟩)).setCell ⟨gt, 0, none⟩ (.int .i64 5) := ⟨_, rfl⟩
                          rw [← hw6]
                          have hb6 : Bk w6 gt 43 #[.int .i64 5, .int .i64 (i : Int), .string ⟨u.toArray⟩, .bool false, .int .u64 0, .int .u64 0] := by rw [hw6]; exact (HBT.out.put 2 _).put 0 _
                          have HF6 := Lib.hid (show Fr [] _ w6 by rw [hw6]; exact (HF5.out.setCell (.inr HGL.out) _).setCell (.inr HGL.out) _)
                          have HX6 := Lib.hid (show Bk w6 (gt + 1) _ _ by rw [hw6]; exact (HBX.out.far (by simp) _).far (by simp) _)
                          have HB6 := Lib.hid hb6
                          clear hw6 t0 t2 u0 u2 hX
                          have r0 := hb6.cell_ (i := 0) rfl; have f0 := hb6.frozen 0; have rl6 := hb6.lt
                          have r2 : w6.cell? ⟨gt, 2, none⟩ = some (.string ⟨u.toArray⟩) := hb6.cell_ rfl
                          clear hb6
                          go_cut [112] from 103 to 112 (fun v112 wx => v112 = .bool PB ∧ wx = w6)
                          case first =>
                            rcases Nat.lt_or_ge e n with hen2 | hen2
                            · have henI2 : (e : Int) < (n : Int) := by omega
                              obtain ⟨x, hx⟩ : ∃ x, s[e]? = some x := ⟨_, List.getElem?_eq_getElem (by have := HN.out; omega)⟩
                              have hix3 := str_ix (s := s) hx
                              rw [← HS.out] at hix3
                              obtain ⟨xn, hxn⟩ : ∃ xn : Nat, xn = x.toNat := ⟨_, rfl⟩
                              rw [← hxn] at hix3
                              have HPX : Hid (PB = decide (xn = 40)) := Lib.hid (by
                                rw [HPB.out, hxn, decide_eq_decide]
                                exact ⟨fun ⟨y, h1, h2⟩ => by rw [hx] at h1; injection h1 with h1; rw [h1]; exact h2, fun h => ⟨x, hx, h⟩⟩)
                              clear hx hxn
                              by_cases h40 : xn = 40
                              · have f40 : ((xn : Int) == 40) = true := by simp; omega
                                have HPT : Hid (PB = true) := Lib.hid (by rw [HPX.out]; simpa using h40)
                                clear h40
                                go_wp2_with fail
                                go_meet
                                case rel => exact ⟨by rw [HPT.out], rfl⟩
                              · have f40 : ((xn : Int) == 40) = false := by simp; omega
                                have HPT : Hid (PB = false) := Lib.hid (by rw [HPX.out]; simpa using h40)
                                clear h40
                                go_wp2_with fail
                                go_meet
                                case rel => exact ⟨by rw [HPT.out], rfl⟩
                            · have henI2 : ¬ (e : Int) < (n : Int) := by omega
                              have HPT : Hid (PB = false) := Lib.hid (by
                                rw [HPB.out, decide_eq_false_iff_not]
                                rintro ⟨x, h1, -⟩; rw [List.getElem?_eq_none (by have := HN.out; omega)] at h1; cases h1)
                              go_wp2_with fail
                              go_meet
                              case rel => exact ⟨by rw [HPT.out], rfl⟩
                          case rest =>
                            obtain ⟨rfl, rfl⟩ := hcut
                            cases PB with
                            | false =>
                              cases KW with
                              | false =>
                                cases KB with
                                | false =>
                                  as_aux_lemma =>
                                    go_upto_region 29 with (go_at_call 16; refine (HIK.out _).mono ?_; rintro e w7 ⟨rfl, rfl⟩)
                                    go_upto_region 31 with (go_at_call 16; refine (HIB.out _).mono ?_; rintro e w7 ⟨rfl, rfl⟩)
                                    go_wp2_with fail
                                    go_meet
                                    case rel => exact ⟨kd, wl, 0, u, [.bool false, .slice none 0 0], HNX.out, by rw [← HE1.out], HF6.out, by rw [tk0_arr, HKD.out]; exact HB6.out, HX6.out, numW_zero _⟩
                                | true =>
                                  as_aux_lemma =>
                                    go_upto_region 29 with (go_at_call 16; refine (HIK.out _).mono ?_; rintro e w7 ⟨rfl, rfl⟩)
                                    go_upto_region 31 with (go_at_call 16; refine (HIB.out _).mono ?_; rintro e w7 ⟨rfl, rfl⟩)
                                    go_wp2_with fail
                                    go_meet
                                    case rel => exact ⟨kd, wl, 0, u, [.bool false, .slice none 0 0], HNX.out, by rw [← HE1.out], (HF6.out).setCell (.inr HGL.out) _, by rw [tk0_arr, HKD.out]; exact (HB6.out).put 0 _, (HX6.out).far (by simp) _, numW_zero _⟩
                              | true =>
                                cases KB with
                                | false =>
                                  as_aux_lemma =>
                                    go_upto_region 29 with (go_at_call 16; refine (HIK.out _).mono ?_; rintro e w7 ⟨rfl, rfl⟩)
                                    go_upto_region 31 with (go_at_call 16; refine (HIB.out _).mono ?_; rintro e w7 ⟨rfl, rfl⟩)
                                    go_wp2_with fail
                                    go_meet
                                    case rel => exact ⟨kd, wl, 0, u, [.bool false, .slice none 0 0], HNX.out, by rw [← HE1.out], (HF6.out).setCell (.inr HGL.out) _, by rw [tk0_arr, HKD.out]; exact (HB6.out).put 0 _, (HX6.out).far (by simp) _, numW_zero _⟩
                                | true =>
                                  as_aux_lemma =>
                                    go_upto_region 29 with (go_at_call 16; refine (HIK.out _).mono ?_; rintro e w7 ⟨rfl, rfl⟩)
                                    go_upto_region 31 with (go_at_call 16; refine (HIB.out _).mono ?_; rintro e w7 ⟨rfl, rfl⟩)
                                    go_wp2_with fail
                                    go_meet
                                    case rel => exact ⟨kd, wl, 0, u, [.bool false, .slice none 0 0], HNX.out, by rw [← HE1.out], ((HF6.out).setCell (.inr HGL.out) _).setCell (.inr HGL.out) _, by rw [tk0_arr, HKD.out]; exact ((HB6.out).put 0 _).put 0 _, ((HX6.out).far (by simp) _).far (by simp) _, numW_zero _⟩
                            | true =>
                              cases KW with
                              | false =>
                                cases KB with
                                | false =>
                                  as_aux_lemma =>
                                    go_upto_region 29 with (go_at_call 16; refine (HIK.out _).mono ?_; rintro e w7 ⟨rfl, rfl⟩)
                                    go_upto_region 31 with (go_at_call 16; refine (HIB.out _).mono ?_; rintro e w7 ⟨rfl, rfl⟩)
                                    go_wp2_with fail
                                    go_meet
                                    case rel => exact ⟨kd, wl, 0, u, [.bool false, .slice none 0 0], HNX.out, by rw [← HE1.out], (HF6.out).setCell (.inr HGL.out) _, by rw [tk0_arr, HKD.out]; exact (HB6.out).put 0 _, (HX6.out).far (by simp) _, numW_zero _⟩
                                | true =>
                                  as_aux_lemma =>
                                    go_upto_region 29 with (go_at_call 16; refine (HIK.out _).mono ?_; rintro e w7 ⟨rfl, rfl⟩)
                                    go_upto_region 31 with (go_at_call 16; refine (HIB.out _).mono ?_; rintro e w7 ⟨rfl, rfl⟩)
                                    go_wp2_with fail
                                    go_meet
                                    case rel => exact ⟨kd, wl, 0, u, [.bool false, .slice none 0 0], HNX.out, by rw [← HE1.out], ((HF6.out).setCell (.inr HGL.out) _).setCell (.inr HGL.out) _, by rw [tk0_arr, HKD.out]; exact ((HB6.out).put 0 _).put 0 _, ((HX6.out).far (by simp) _).far (by simp) _, numW_zero _⟩
                              | true =>
                                cases KB with
                                | false =>
                                  as_aux_lemma =>
                                    go_upto_region 29 with (go_at_call 16; refine (HIK.out _).mono ?_; rintro e w7 ⟨rfl, rfl⟩)
                                    go_upto_region 31 with (go_at_call 16; refine (HIB.out _).mono ?_; rintro e w7 ⟨rfl, rfl⟩)
                                    go_wp2_with fail
                                    go_meet
                                    case rel => exact ⟨kd, wl, 0, u, [.bool false, .slice none 0 0], HNX.out, by rw [← HE1.out], ((HF6.out).setCell (.inr HGL.out) _).setCell (.inr HGL.out) _, by rw [tk0_arr, HKD.out]; exact ((HB6.out).put 0 _).put 0 _, ((HX6.out).far (by simp) _).far (by simp) _, numW_zero _⟩
                                | true =>
                                  as_aux_lemma =>
                                    go_upto_region 29 with (go_at_call 16; refine (HIK.out _).mono ?_; rintro e w7 ⟨rfl, rfl⟩)
                                    go_upto_region 31 with (go_at_call 16; refine (HIB.out _).mono ?_; rintro e w7 ⟨rfl, rfl⟩)
                                    go_wp2_with fail
                                    go_meet
                                    case rel => exact ⟨kd, wl, 0, u, [.bool false, .slice none 0 0], HNX.out, by rw [← HE1.out], (((HF6.out).setCell (.inr HGL.out) _).setCell (.inr HGL.out) _).setCell (.inr HGL.out) _, by rw [tk0_arr, HKD.out]; exact (((HB6.out).put 0 _).put 0 _).put 0 _, (((HX6.out).far (by simp) _).far (by simp) _).far (by simp) _, numW_zero _⟩
                    · have HLC : Hid (∀ W, Calls Tryd.prog 14 #[.int .u8 (cn : Int)] W fun e w' => e = .returned (.bool false) ∧ W = w') := Lib.hid (fun W => by have h := letter12 ch W; rw [show letM ch = false by simpa using hlet, ← HCN.out] at h; exact h)
                      have HLF : Hid (letM ch = false) := Lib.hid (by simpa using hlet)
                      have HC10 : Hid (cn ≠ 10) := Lib.hid h10
                      clear hlet h10
                      go_upto_region 32 with (go_at_call 14; refine (HLC.out _).mono ?_; rintro e w7 ⟨rfl, rfl⟩)
                      clear HLC
                      obtain ⟨NB, hNB⟩ : ∃ NB : Bool, NB = (digM ch || (decide (cn = 46) && digM (r.headD 0))) := ⟨_, rfl⟩
                      have HNB := Lib.hid hNB
                      clear hNB
                      go_cut [142] from 123 to 142 (fun v142 wx => v142 = .bool NB ∧ wx = w5)
                      case first =>
                        as_aux_lemma =>
                          have HDC : Hid (∀ W, Calls Tryd.prog 15 #[.int .u8 (cn : Int)] W fun e w' => e = .returned (.bool (digM ch)) ∧ W = w') := Lib.hid (fun W => by have h := digit12 ch W; rw [← HCN.out] at h; exact h)
                          obtain ⟨b1, hb1⟩ : ∃ b1, b1 = digM ch := ⟨_, rfl⟩
                          rw [← hb1] at HDC HNB
                          cases b1 with
                          | true =>
                            have HNT : Hid (NB = true) := Lib.hid (by rw [HNB.out]; simp)
                            clear hb1
                            go_wp2_with (go_at_call 15; refine (HDC.out _).mono ?_; rintro e w7 ⟨rfl, rfl⟩)
                            go_meet
                            case rel => exact ⟨by rw [HNT.out], rfl⟩
                          | false =>
                            clear hb1
                            by_cases h46 : cn = 46
                            · have f46 : ((cn : Int) == 46) = true := by simp; omega
                              rcases Nat.lt_or_ge (i + 1) n with hi1 | hi1
                              · have hi1I : (i : Int) + 1 < (n : Int) := by omega
                                obtain ⟨dh, hdh⟩ : ∃ c, s[i + 1]? = some c := ⟨_, List.getElem?_eq_getElem (by have := HN.out; omega)⟩
                                have hix2 := str_ix (s := s) hdh
                                rw [← HS.out] at hix2
                                have hrd : r.headD 0 = dh := by rw [HR.out, drop_get hdh]; rfl
                                have HNT : Hid (NB = digM dh) := Lib.hid (by rw [HNB.out, hrd]; simp [h46])
                                have HDD := Lib.hid (digit12 dh)
                                obtain ⟨dn, hdn⟩ : ∃ dn : Nat, dn = dh.toNat := ⟨_, rfl⟩
                                rw [← hdn] at hix2 HDD
                                have hix2 : ∀ W, (Instr.index 9 (.string S) (.int .i64 ((i : Int) + 1))).run Tryd.prog W = .ok (.int .u8 (dn : Int)) W := fun W => by have h := hix2 W; simpa using h
                                obtain ⟨b2, hb2⟩ : ∃ b2, b2 = digM dh := ⟨_, rfl⟩
                                rw [← hb2] at HDD HNT
                                obtain ⟨V, hV⟩ : ∃ V : Int → Bool, V (cn : Int) = false ∧ V (dn : Int) = b2 ∧ ∀ x : Int, (x = (cn : Int) ∨ x = (dn : Int)) → ∀ W, Calls Tryd.prog 15 #[.int .u8 x] W fun e w' => e = .returned (.bool (V x)) ∧ W = w' := by
                                  by_cases hcd : (dn : Int) = (cn : Int)
                                  · have hbb : b2 = false := by
                                      have e1 : dh = ch := UInt8.toNat_inj.1 (by have := HCN.out; omega)
                                      have h1 := HDC.out w
                                      rw [hb2, e1]
                                      cases hq : digM ch with
                                      | false => rfl
                                      | true => have := digM_iff.1 hq; have := HCN.out; omega
                                    exact ⟨fun _ => false, rfl, hbb.symm, fun x hx W => by
                                      rcases hx with rfl | rfl
                                      · exact HDC.out W
                                      · rw [hcd]; exact HDC.out W⟩
                                  · have hne : ¬ (cn : Int) = (dn : Int) := fun h => hcd h.symm
                                    exact ⟨fun x => if x = (dn : Int) then b2 else false, by dsimp only; rw [if_neg hne], by dsimp only; rw [if_pos rfl], fun x hx W => by
                                      dsimp only
                                      rcases hx with rfl | rfl
                                      · rw [if_neg hne]; exact HDC.out W
                                      · rw [if_pos rfl]; exact HDD.out W⟩
                                have HV := Lib.hid hV.2.2
                                have hv1 := hV.1; have hv2 := hV.2.1
                                clear hdh hrd hdn h46 hb2 hV HDC HDD
                                go_wp2_with (go_at_call 15; refine (HV.out _ (by simp) _).mono ?_; rintro e w7 ⟨rfl, rfl⟩)
                                go_meet
                                case rel => exact ⟨by rw [HNT.out], rfl⟩
                              · have hi1I : ¬ (i : Int) + 1 < (n : Int) := by omega
                                have HNT : Hid (NB = false) := Lib.hid (by
                                  have hr0 : r = [] := by rw [HR.out]; exact List.drop_of_length_le (by rw [← HN.out]; exact hi1)
                                  rw [HNB.out, hr0]; simp [digM])
                                clear h46
                                go_wp2_with (go_at_call 15; refine (HDC.out _).mono ?_; rintro e w7 ⟨rfl, rfl⟩)
                                go_meet
                                case rel => exact ⟨by rw [HNT.out], rfl⟩
                            · have f46 : ((cn : Int) == 46) = false := by simp; omega
                              have HNT : Hid (NB = false) := Lib.hid (by rw [HNB.out]; simp [h46])
                              clear h46
                              go_wp2_with (go_at_call 15; refine (HDC.out _).mono ?_; rintro e w7 ⟨rfl, rfl⟩)
                              go_meet
                              case rel => exact ⟨by rw [HNT.out], rfl⟩
                      case rest =>
                        obtain ⟨rfl, rfl⟩ := hcut
                        cases NB with
                        | true =>
                          as_aux_lemma =>
                            have HNU : Hid (numB ch r) := Lib.hid (by
                              have h := HNB.out
                              unfold numB
                              rw [← HCN.out]
                              by_cases h1 : digM ch = true
                              · exact .inr h1
                              · rw [show digM ch = false by simpa using h1, Bool.false_or] at h
                                have h2 := Bool.and_eq_true_iff.1 h.symm
                                exact .inl ⟨decide_eq_true_iff.1 h2.1, h2.2⟩)
                            have HNXT : Hid (nextM OP (ch :: r) = if 36 < topD (digRow (ch :: r)) then .error 2 else .ok (2, [], valD (digRow (ch :: r)), numM (ch :: r))) := Lib.hid (next_num (by rw [← HCN.out]; exact HC10.out) HNU.out)
                            have hX : S.extract i n = ⟨(ch :: r).toArray⟩ := by
                              rw [HS.out, ba_extract, HDR.out, List.take_of_length_le]
                              rw [← HDR.out, List.length_drop, ← HN.out]; exact Nat.le_refl _
                            have hpl : (ch :: r).length ≤ 20000 := by rw [← HDR.out, List.length_drop, ← HN.out]; omega
                            have HPF := Lib.hid (rprefix_any (w := wc) (s := ch :: r) hpl (by
                              rcases HNU.out with ⟨h1, h2⟩ | h1
                              · exact .inr ⟨h1, by cases r with | nil => simp [digM] at h2 | cons a b => exact h2⟩
                              · exact .inl h1))
                            have hinI2 : (i : Int) ≤ (n : Int) := by omega
                            clear hpl
                            go_upto_region 34 with (go_at_call 17; refine HPF.out.mono ?_; rintro e w7 ⟨hf7, hpp⟩; have HF7 := Lib.hid hf7; rcases hpp with ⟨h36, rfl⟩ | ⟨h36, X2, c2, rfl, hle2, hat2, hbl2⟩)
                            · as_aux_lemma =>
                                have HNXE : Hid (nextM OP (ch :: r) = .error 2) := Lib.hid (by rw [HNXT.out, if_pos h36])
                                obtain ⟨w8, hw8⟩ : ∃ w8, w8 = w7.alloc (.cells #[.bool false, .slice none 0 0, .int .i64 (numM (ch :: r) : Int), .int .i64 2] 60) := ⟨_, rfl⟩
                                rw [← hw8]
                                have hb8 : Bk w8 w7.heap.size 60 #[.bool false, .slice none 0 0, .int .i64 (numM (ch :: r) : Int), .int .i64 2] := by rw [hw8]; exact Bk.new w7 _ _
                                have hf8 : Fr [] wc w8 := by rw [hw8]; exact HF7.out.alloc _
                                have hbR := (HGM.out.fr_nil (HF5.out.trans hf8)).res
                                have HFW := Lib.hid ((HFR.out.trans HF5.out).trans hf8)
                                have e2 : w8.cell? ⟨w7.heap.size, 2, none⟩ = some (.int .i64 (numM (ch :: r) : Int)) := hb8.cell_ rfl
                                have e3 : w8.cell? ⟨w7.heap.size, 3, none⟩ = some (.int .i64 2) := hb8.cell_ rfl
                                clear hw8 hb8 hf8 h36 t0 t2 u0 u2
                                have rlt2 := hbR.lt
                                have rf0 := hbR.frozen 0; have rf1 := hbR.frozen 1; have rf2 := hbR.frozen 2; have rf3 := hbR.frozen 3
                                have rc0 := hbR.cell_ (i := 0) rfl; have rc1 := hbR.cell_ (i := 1) rfl; have rc2 := hbR.cell_ (i := 2) rfl; have rc3 := hbR.cell_ (i := 3) rfl
                                have HRET : Hid (LX = .error (2, i)) := Lib.hid (by
                                  have h := HE.out
                                  rw [lexA_err (e := 2) HTB.out (by rw [← HOP.out]; exact HNXE.out)] at h
                                  rw [HLY.out, ← h]; rfl)
                                go_wp2_with fail
                                have hbb := (((hbR.put 0 (.slice none 0 0)).put 1 (.slice none 0 0)).put 2 (.int .i64 2)).put 3 (.int .i64 (i : Int))
                                refine ret_row_ (p := 2) (T := 31) rfl R (gotL (.slice none 0 0) (.slice none 0 0) 2 (i : Int)) _ rfl hbb Tryd.underlying31 rfl got12_size rfl ?_
                                rw [HPP.out]
                                refine ⟨(((HFW.out.setCell (.inr HRL.out) _).setCell (.inr HRL.out) _).setCell (.inr HRL.out) _).setCell (.inr HRL.out) _, ?_⟩
                                rw [HLX.out, HRET.out]; rfl
                            · as_aux_lemma =>
                                obtain ⟨v2, hv2⟩ : ∃ v2, v2 = valD (digRow (ch :: r)) := ⟨_, rfl⟩
                                obtain ⟨nm, hnm⟩ : ∃ nm, nm = numM (ch :: r) := ⟨_, rfl⟩
                                rw [← hnm, ← hv2]
                                rw [← hv2] at hle2 hat2
                                have HNXE : Hid (nextM OP (ch :: r) = .ok (2, [], v2, nm)) := Lib.hid (by rw [HNXT.out, if_neg (by omega), hnm, hv2])
                                obtain ⟨w8, hw8⟩ : ∃ w8, w8 = w7.alloc (.cells #[.bool false, .slice X2 (digs v2).length c2, .int .i64 (nm : Int), .int .i64 0] 60) := ⟨_, rfl⟩
                                rw [← hw8]
                                have hb8 : Bk w8 w7.heap.size 60 #[.bool false, .slice X2 (digs v2).length c2, .int .i64 (nm : Int), .int .i64 0] := by rw [hw8]; exact Bk.new w7 _ _
                                have hf8 : Fr [] wc w8 := by rw [hw8]; exact HF7.out.alloc _
                                have HNW : Hid (NumW w8 [.bool false, .slice X2 (digs v2).length c2] (digs v2)) := Lib.hid (by
                                  rw [hw8]
                                  exact ⟨X2, c2, rfl, hle2, hat2.alloc _, fun a ha => by obtain ⟨cs, hb⟩ := hbl2 a ha; exact ⟨cs, hb.alloc _⟩⟩)
                                have hnml : nm ≤ n := by
                                  have h := numM_le (ch :: r)
                                  rw [← hnm, ← HDR.out, List.length_drop, ← HN.out] at h; omega
                                obtain ⟨lx, hlx⟩ : ∃ lx, lx = (digs v2).length := ⟨_, rfl⟩
                                rw [← hlx] at hb8 HNW
                                obtain ⟨g9, hg9⟩ : ∃ g9, g9 = w7.heap.size := ⟨_, rfl⟩
                                rw [← hg9] at hb8 ⊢
                                have HT8 := Lib.hid (HBT.out.fr hf8 (by simp)); have HX8 := Lib.hid (HBX.out.fr hf8 (by simp))
                                have HF8 := Lib.hid (HF5.out.trans hf8)
                                have e0 : w8.cell? ⟨g9, 0, none⟩ = some (.bool false) := hb8.cell_ rfl
                                have e1 : w8.cell? ⟨g9, 1, none⟩ = some (.slice X2 lx c2) := hb8.cell_ rfl
                                have e2 : w8.cell? ⟨g9, 2, none⟩ = some (.int .i64 (nm : Int)) := hb8.cell_ rfl
                                have e3 : w8.cell? ⟨g9, 3, none⟩ = some (.int .i64 0) := hb8.cell_ rfl
                                have q0 := HT8.out.cell_ (i := 0) rfl; have qf := HT8.out.frozen 0; have ql := HT8.out.lt
                                have y0 := HX8.out.cell_ (i := 0) rfl; have y1 := HX8.out.cell_ (i := 1) rfl; have yf0 := HX8.out.frozen 0; have yf1 := HX8.out.frozen 1; have yl := HX8.out.lt
                                have hgne : gt ≠ g9 := HT8.out.ne_ hb8 (by decide)
                                have hgnx : gt + 1 ≠ g9 := HX8.out.ne_ hb8 (by decide)
                                clear hw8 hb8 hf8 h36 t0 t2 u0 u2 hlx hv2 hnm hle2 hat2 hbl2 hg9
                                go_wp2_with fail
                                go_meet
                                case rel =>
                                  have hs1 : ∀ (W : World) (p : Addr) (x : Value), W.heap.size ≤ (W.setCell p x).heap.size := fun W p x => ((Fr.refl [p.block] W).setCell (.inl (by simp)) x).size
                                  refine ⟨2, nm, v2, [], [.bool false, .slice X2 lx c2], HNXE.out, by go_num, ((HF8.out.setCell (.inr HGL.out) _).setCell (.inr (by have := HGL.out; simp; omega)) _).setCell (.inr (by have := HGL.out; simp; omega)) _, ?_, ?_, ?_⟩
                                  · rw [tk0_arr]; exact ((HT8.out.put 0 _).far (by simp) _).far (by simp) _
                                  · exact ((HX8.out.far (by simp) _).put 0 _).put 1 _
                                  · exact ((HNW.out.keep (hs1 _ _ _) (keep_set HT8.out (by decide) 0 _)).keep (hs1 _ _ _) (keep_set (HX8.out.far (by simp) _) (by decide) 0 _)).keep (hs1 _ _ _) (keep_set ((HX8.out.far (by simp) _).put 0 _) (by decide) 1 _)
                        | false =>
                          have HNF : Hid (¬ numB ch r) := Lib.hid (by
                            have h := HNB.out
                            rintro (⟨h1, h2⟩ | h1)
                            · rw [h2, decide_eq_true (by rw [HCN.out]; exact h1)] at h; simp at h
                            · rw [h1] at h; simp at h)
                          clear HNB
                          obtain ⟨QB, hQB⟩ : ∃ QB : Bool, QB = decide (cn = 34 ∨ (cn = 47 ∧ OP = true)) := ⟨_, rfl⟩
                          have HQB := Lib.hid hQB
                          clear hQB
                          go_upto_region 39 with fail
                          go_cut [169] from 159 to 169 (fun v169 wx => v169 = .bool QB ∧ Fr [] wc wx)
                          case first =>
                            as_aux_lemma =>
                              by_cases h34 : cn = 34
                              · have f34 : ((cn : Int) == 34) = true := by simp; omega
                                have HQT : Hid (QB = true) := Lib.hid (by rw [HQB.out]; simp [h34])
                                clear h34
                                go_wp2_with fail
                                go_meet
                                case rel => exact ⟨by rw [HQT.out], Fr.refl _ _⟩
                              · have f34 : ((cn : Int) == 34) = false := by simp; omega
                                by_cases h47 : cn = 47
                                · have f47 : ((cn : Int) == 47) = true := by simp; omega
                                  have HQT : Hid (QB = OP) := Lib.hid (by rw [HQB.out]; simp [h47])
                                  have hgw := HGM.out.fr_nil HF5.out
                                  have HOC := Lib.hid (opT_own hgw.rl hgw.len (by omega))
                                  rw [← HOP.out] at HOC
                                  have g0 : wc.cell? ⟨G, 0, none⟩ = some (.slice A k c) := hgw.blk.cell_ rfl
                                  clear h34 h47 hgw
                                  go_wp2_with (go_at_call 18; refine HOC.out.mono ?_; rintro e w7 ⟨rfl, hf7⟩; have HF7 := Lib.hid hf7; clear hf7)
                                  go_meet
                                  case rel => exact ⟨by rw [HQT.out], HF7.out⟩
                                · have f47 : ((cn : Int) == 47) = false := by simp; omega
                                  have HQT : Hid (QB = false) := Lib.hid (by rw [HQB.out]; simp [h34, h47])
                                  clear h34 h47
                                  go_wp2_with fail
                                  go_meet
                                  case rel => exact ⟨by rw [HQT.out], Fr.refl _ _⟩
                          case rest =>
                            obtain ⟨rfl, hfd⟩ := hcut
                            have HFD := Lib.hid hfd
                            have HTD := Lib.hid (HBT.out.fr hfd (by simp)); have HXD := Lib.hid (HBX.out.fr hfd (by simp))
                            clear hfd
                            cases QB with
                            | true =>
                              by_cases hq : cn = 34
                              · have f34 : ((cn : Int) == 34) = true := by simp; omega
                                have f47 : ((cn : Int) == 47) = false := by simp; omega
                                as_aux_lemma =>
                                  have HQC : Hid (Calls Tryd.prog 19 #[.string S, .int .i64 (i : Int), .bool true] wc fun e w' => e = .returned (.agg (textC (quoR true 34 [] (i + 1) r)).toArray) ∧ Fr [] wc w') := Lib.hid (by
                                    have h := rquoted_any wc s i true ch HCH.out (by rw [← HCN.out]; exact hq) (by rw [← HN.out]; omega)
                                    rw [← HS.out, ← HR.out] at h; exact h)
                                  rcases (next_str (op := OP) (r := r) i (by rw [← HCN.out]; exact hq)) with ⟨hqn, hne⟩ | ⟨tx, m, hqn, hne⟩
                                  · as_aux_lemma =>
                                      have HNXE := Lib.hid hne
                                      rw [hqn, show (textC none).toArray = #[.string ⟨#[]⟩, .int .i64 0, .bool false] from rfl] at HQC
                                      clear hqn hne hq
                                      go_upto_region 41 with (go_at_call 19; refine HQC.out.mono ?_; rintro e w7 ⟨rfl, hf7⟩; have HF7 := Lib.hid hf7; clear hf7)
                                      obtain ⟨w8, hw8⟩ : ∃ w8, w8 = w7.alloc (.cells #[.string ⟨#[]⟩, .int .i64 0, .bool false] 64) := ⟨_, rfl⟩
                                      have hb8 : Bk w8 w7.heap.size 64 #[.string ⟨#[]⟩, .int .i64 0, .bool false] := by rw [hw8]; exact Bk.new w7 _ _
                                      have hf8 : Fr [] wc w8 := by rw [hw8]; exact HF7.out.alloc _
                                      rw [← hw8]
                                      have hbR := (HGM.out.fr_nil ((HF5.out.trans HFD.out).trans hf8)).res
                                      have HFW := Lib.hid (((HFR.out.trans HF5.out).trans HFD.out).trans hf8)
                                      have e2 : w8.cell? ⟨w7.heap.size, 2, none⟩ = some (.bool false) := hb8.cell_ rfl
                                      clear hw8 hb8 hf8 t0 t2 u0 u2
                                      have rlt2 := hbR.lt
                                      have rf0 := hbR.frozen 0; have rf1 := hbR.frozen 1; have rf2 := hbR.frozen 2; have rf3 := hbR.frozen 3
                                      have rc0 := hbR.cell_ (i := 0) rfl; have rc1 := hbR.cell_ (i := 1) rfl; have rc2 := hbR.cell_ (i := 2) rfl; have rc3 := hbR.cell_ (i := 3) rfl
                                      have HRET : Hid (LX = .error (7, i)) := Lib.hid (by
                                        have h := HE.out
                                        rw [lexA_err (e := 7) HTB.out (by rw [← HOP.out]; exact HNXE.out)] at h
                                        rw [HLY.out, ← h]; rfl)
                                      go_wp2_with fail
                                      have hbb := (((hbR.put 0 (.slice none 0 0)).put 1 (.slice none 0 0)).put 2 (.int .i64 7)).put 3 (.int .i64 (i : Int))
                                      refine ret_row_ (p := 2) (T := 31) rfl R (gotL (.slice none 0 0) (.slice none 0 0) 7 (i : Int)) _ rfl hbb Tryd.underlying31 rfl got12_size rfl ?_
                                      rw [HPP.out]
                                      refine ⟨(((HFW.out.setCell (.inr HRL.out) _).setCell (.inr HRL.out) _).setCell (.inr HRL.out) _).setCell (.inr HRL.out) _, ?_⟩
                                      rw [HLX.out, HRET.out]; rfl
                                  · as_aux_lemma =>
                                      have HNXE := Lib.hid hne
                                      rw [hqn, show (textC (some (tx, i + m))).toArray = #[.string ⟨tx.toArray⟩, .int .i64 ((i : Int) + (m : Int)), .bool true] by simp [textC]] at HQC
                                      have hmn : m ≤ n := by
                                        have h := nextM_le hne
                                        rw [← HDR.out, List.length_drop, ← HN.out] at h; omega
                                      clear hqn hne hq
                                      go_upto_region 41 with (go_at_call 19; refine HQC.out.mono ?_; rintro e w7 ⟨rfl, hf7⟩; have HF7 := Lib.hid hf7; clear hf7)
                                      obtain ⟨w8, hw8⟩ : ∃ w8, w8 = w7.alloc (.cells #[.string ⟨tx.toArray⟩, .int .i64 ((i : Int) + (m : Int)), .bool true] 64) := ⟨_, rfl⟩
                                      have hb8 : Bk w8 w7.heap.size 64 #[.string ⟨tx.toArray⟩, .int .i64 ((i : Int) + (m : Int)), .bool true] := by rw [hw8]; exact Bk.new w7 _ _
                                      have hf8 : Fr [] wc w8 := by rw [hw8]; exact HF7.out.alloc _
                                      rw [← hw8]
                                      obtain ⟨g9, hg9⟩ : ∃ g9, g9 = w7.heap.size := ⟨_, rfl⟩
                                      rw [← hg9] at hb8 ⊢
                                      have HT8 := Lib.hid (HTD.out.fr hf8 (by simp)); have HX8 := Lib.hid (HXD.out.fr hf8 (by simp))
                                      have HF8 := Lib.hid ((HF5.out.trans HFD.out).trans hf8)
                                      have e0 : w8.cell? ⟨g9, 0, none⟩ = some (.string ⟨tx.toArray⟩) := hb8.cell_ rfl
                                      have e1 : w8.cell? ⟨g9, 1, none⟩ = some (.int .i64 ((i : Int) + (m : Int))) := hb8.cell_ rfl
                                      have e2 : w8.cell? ⟨g9, 2, none⟩ = some (.bool true) := hb8.cell_ rfl
                                      have q0 := HT8.out.cell_ (i := 0) rfl; have qf := HT8.out.frozen 0; have q2 := HT8.out.cell_ (i := 2) rfl; have qf2 := HT8.out.frozen 2; have ql := HT8.out.lt
                                      have hgne : gt ≠ g9 := HT8.out.ne_ hb8 (by decide)
                                      clear hw8 hb8 hf8 t0 t2 u0 u2 hg9
                                      go_wp2_with fail
                                      go_meet
                                      case rel => exact ⟨3, m, 0, tx, [.bool false, .slice none 0 0], HNXE.out, by go_num, ((HF8.out.setCell (.inr HGL.out) _).setCell (.inr HGL.out) _), by rw [tk0_arr]; exact ((HT8.out.put 0 _).put 2 _), ((HX8.out.far (by simp) _).far (by simp) _), numW_zero _⟩
                              · have HQ2 : Hid (cn = 47 ∧ OP = true) := Lib.hid (by have h := decide_eq_true_iff.1 HQB.out.symm; rcases h with h | h; exact absurd h hq; exact h)
                                have f34 : ((cn : Int) == 34) = false := by simp; omega
                                have hq : cn = 47 := HQ2.out.1
                                have f47 : ((cn : Int) == 47) = true := by simp; omega
                                as_aux_lemma =>
                                  have HQC : Hid (Calls Tryd.prog 19 #[.string S, .int .i64 (i : Int), .bool false] wc fun e w' => e = .returned (.agg (textC (quoR false 47 [] (i + 1) r)).toArray) ∧ Fr [] wc w') := Lib.hid (by
                                    have h := rquoted_any wc s i false ch HCH.out (by rw [← HCN.out]; exact hq) (by rw [← HN.out]; omega)
                                    rw [← HS.out, ← HR.out] at h; exact h)
                                  rcases (next_ere (op := OP) (r := r) i (by rw [← HCN.out]; exact hq) HQ2.out.2) with ⟨hqn, hne⟩ | ⟨tx, m, hqn, hne⟩
                                  · as_aux_lemma =>
                                      have HNXE := Lib.hid hne
                                      rw [hqn, show (textC none).toArray = #[.string ⟨#[]⟩, .int .i64 0, .bool false] from rfl] at HQC
                                      clear hqn hne hq
                                      go_upto_region 41 with (go_at_call 19; refine HQC.out.mono ?_; rintro e w7 ⟨rfl, hf7⟩; have HF7 := Lib.hid hf7; clear hf7)
                                      obtain ⟨w8, hw8⟩ : ∃ w8, w8 = w7.alloc (.cells #[.string ⟨#[]⟩, .int .i64 0, .bool false] 64) := ⟨_, rfl⟩
                                      have hb8 : Bk w8 w7.heap.size 64 #[.string ⟨#[]⟩, .int .i64 0, .bool false] := by rw [hw8]; exact Bk.new w7 _ _
                                      have hf8 : Fr [] wc w8 := by rw [hw8]; exact HF7.out.alloc _
                                      rw [← hw8]
                                      have hbR := (HGM.out.fr_nil ((HF5.out.trans HFD.out).trans hf8)).res
                                      have HFW := Lib.hid (((HFR.out.trans HF5.out).trans HFD.out).trans hf8)
                                      have e2 : w8.cell? ⟨w7.heap.size, 2, none⟩ = some (.bool false) := hb8.cell_ rfl
                                      clear hw8 hb8 hf8 t0 t2 u0 u2
                                      have rlt2 := hbR.lt
                                      have rf0 := hbR.frozen 0; have rf1 := hbR.frozen 1; have rf2 := hbR.frozen 2; have rf3 := hbR.frozen 3
                                      have rc0 := hbR.cell_ (i := 0) rfl; have rc1 := hbR.cell_ (i := 1) rfl; have rc2 := hbR.cell_ (i := 2) rfl; have rc3 := hbR.cell_ (i := 3) rfl
                                      have HRET : Hid (LX = .error (7, i)) := Lib.hid (by
                                        have h := HE.out
                                        rw [lexA_err (e := 7) HTB.out (by rw [← HOP.out]; exact HNXE.out)] at h
                                        rw [HLY.out, ← h]; rfl)
                                      go_wp2_with fail
                                      have hbb := (((hbR.put 0 (.slice none 0 0)).put 1 (.slice none 0 0)).put 2 (.int .i64 7)).put 3 (.int .i64 (i : Int))
                                      refine ret_row_ (p := 2) (T := 31) rfl R (gotL (.slice none 0 0) (.slice none 0 0) 7 (i : Int)) _ rfl hbb Tryd.underlying31 rfl got12_size rfl ?_
                                      rw [HPP.out]
                                      refine ⟨(((HFW.out.setCell (.inr HRL.out) _).setCell (.inr HRL.out) _).setCell (.inr HRL.out) _).setCell (.inr HRL.out) _, ?_⟩
                                      rw [HLX.out, HRET.out]; rfl
                                  · as_aux_lemma =>
                                      have HNXE := Lib.hid hne
                                      rw [hqn, show (textC (some (tx, i + m))).toArray = #[.string ⟨tx.toArray⟩, .int .i64 ((i : Int) + (m : Int)), .bool true] by simp [textC]] at HQC
                                      have hmn : m ≤ n := by
                                        have h := nextM_le hne
                                        rw [← HDR.out, List.length_drop, ← HN.out] at h; omega
                                      clear hqn hne hq
                                      go_upto_region 41 with (go_at_call 19; refine HQC.out.mono ?_; rintro e w7 ⟨rfl, hf7⟩; have HF7 := Lib.hid hf7; clear hf7)
                                      obtain ⟨w8, hw8⟩ : ∃ w8, w8 = w7.alloc (.cells #[.string ⟨tx.toArray⟩, .int .i64 ((i : Int) + (m : Int)), .bool true] 64) := ⟨_, rfl⟩
                                      have hb8 : Bk w8 w7.heap.size 64 #[.string ⟨tx.toArray⟩, .int .i64 ((i : Int) + (m : Int)), .bool true] := by rw [hw8]; exact Bk.new w7 _ _
                                      have hf8 : Fr [] wc w8 := by rw [hw8]; exact HF7.out.alloc _
                                      rw [← hw8]
                                      obtain ⟨g9, hg9⟩ : ∃ g9, g9 = w7.heap.size := ⟨_, rfl⟩
                                      rw [← hg9] at hb8 ⊢
                                      have HT8 := Lib.hid (HTD.out.fr hf8 (by simp)); have HX8 := Lib.hid (HXD.out.fr hf8 (by simp))
                                      have HF8 := Lib.hid ((HF5.out.trans HFD.out).trans hf8)
                                      have e0 : w8.cell? ⟨g9, 0, none⟩ = some (.string ⟨tx.toArray⟩) := hb8.cell_ rfl
                                      have e1 : w8.cell? ⟨g9, 1, none⟩ = some (.int .i64 ((i : Int) + (m : Int))) := hb8.cell_ rfl
                                      have e2 : w8.cell? ⟨g9, 2, none⟩ = some (.bool true) := hb8.cell_ rfl
                                      have q0 := HT8.out.cell_ (i := 0) rfl; have qf := HT8.out.frozen 0; have q2 := HT8.out.cell_ (i := 2) rfl; have qf2 := HT8.out.frozen 2; have ql := HT8.out.lt
                                      have hgne : gt ≠ g9 := HT8.out.ne_ hb8 (by decide)
                                      clear hw8 hb8 hf8 t0 t2 u0 u2 hg9
                                      go_wp2_with fail
                                      go_meet
                                      case rel => exact ⟨4, m, 0, tx, [.bool false, .slice none 0 0], HNXE.out, by go_num, (((HF8.out.setCell (.inr HGL.out) _).setCell (.inr HGL.out) _).setCell (.inr HGL.out) _), by rw [tk0_arr]; exact (((HT8.out.put 0 _).put 0 _).put 2 _), (((HX8.out.far (by simp) _).far (by simp) _).far (by simp) _), numW_zero _⟩
                            | false =>
                              have HQF : Hid (¬ (cn = 34 ∨ (cn = 47 ∧ OP = true))) := Lib.hid (decide_eq_false_iff_not.1 HQB.out.symm)
                              have HSG : Hid (nextM OP (ch :: r) = if (ch :: r).take 2 ∈ pairs then .ok (9, (ch :: r).take 2, 0, 2) else if ch ∈ singles then .ok (9, [ch], 0, 1) else .error 4) := Lib.hid (next_sign (by rw [← HCN.out]; exact HC10.out) HNF.out (by rw [← HCN.out]; exact fun h => HQF.out (.inl h)) (by rw [← HCN.out]; exact fun h => HQF.out (.inr h)) HLF.out)
                              have HC32 : Hid (ch ≠ 32) := Lib.hid (by rintro rfl; have h := HTB.out.1; exact h (.inr (.inr rfl)))
                              obtain ⟨PB, hPB⟩ : ∃ PB : Bool, PB = decide ((ch :: r).take 2 ∈ pairs) := ⟨_, rfl⟩
                              have HPB := Lib.hid hPB
                              clear hPB
                              have f32b : ((cn : Int) != 32) = true := by
                                have h := HC32.out
                                have h2 : cn ≠ 32 := fun e => h (UInt8.toNat_inj.1 (by rw [← HCN.out, e]; rfl))
                                simp; omega
                              go_upto_region 49 with fail
                              go_cut [212] from 189 to 212 (fun v212 wx => v212 = .bool PB ∧ wx = wc)
                              case first =>
                                as_aux_lemma =>
                                  rcases Nat.lt_or_ge (i + 1) n with hi1 | hi1
                                  · have hi1I : (i : Int) + 1 < (n : Int) := by omega
                                    obtain ⟨dh, hdh⟩ : ∃ c, s[i + 1]? = some c := ⟨_, List.getElem?_eq_getElem (by have := HN.out; omega)⟩
                                    have hix2 := str_ix (s := s) hdh
                                    rw [← HS.out] at hix2
                                    have hrd : (ch :: r).take 2 = [ch, dh] := by rw [HR.out, drop_get hdh]; rfl
                                    have HP2 : Hid (PB = decide ([ch, dh] ∈ pairs)) := Lib.hid (by rw [HPB.out, hrd])
                                    obtain ⟨dn, hdn⟩ : ∃ dn : Nat, dn = dh.toNat := ⟨_, rfl⟩
                                    rw [← hdn] at hix2
                                    have hix2 : ∀ W, (Instr.index 9 (.string S) (.int .i64 ((i : Int) + 1))).run Tryd.prog W = .ok (.int .u8 (dn : Int)) W := fun W => by have h := hix2 W; simpa using h
                                    by_cases h32 : dn = 32
                                    · have f32d : ((dn : Int) != 32) = false := by simp; omega
                                      have HPF : Hid (PB = false) := Lib.hid (by
                                        rw [HP2.out, decide_eq_false_iff_not]
                                        exact pa_32 (UInt8.toNat_inj.1 (by rw [← hdn, h32]; rfl)))
                                      clear hdh hrd hdn h32
                                      go_wp2_with fail
                                      go_meet
                                      case rel => exact ⟨by rw [HPF.out], rfl⟩
                                    · have f32d : ((dn : Int) != 32) = true := by simp; omega
                                      have hd32 : dh ≠ 32 := by rintro rfl; exact h32 (by rw [hdn]; rfl)
                                      have hX : S.extract i (i + 2) = ⟨[ch, dh].toArray⟩ := by
                                        rw [HS.out, ba_extract, HDR.out, Nat.add_sub_cancel_left, hrd]
                                      have HIP : Hid (∀ W, Calls Tryd.prog 16 #[.string ⟨paS.toArray⟩, .string ⟨[ch, dh].toArray⟩] W fun e w' => e = .returned (.bool PB) ∧ W = w') := Lib.hid (fun W => by have h := in_any W paS [ch, dh] (by decide) (by simp); rw [in_pa HC32.out hd32, ← HP2.out] at h; exact h)
                                      clear hdh hrd hdn h32 hd32
                                      go_wp2_with (go_at_call 16; refine (HIP.out _).mono ?_; rintro e w7 ⟨rfl, rfl⟩)
                                      go_meet
                                      case rel => exact ⟨rfl, rfl⟩
                                  · have hi1I : ¬ (i : Int) + 1 < (n : Int) := by omega
                                    have HPF : Hid (PB = false) := Lib.hid (by
                                      have hr0 : r = [] := by rw [HR.out]; exact List.drop_of_length_le (by rw [← HN.out]; exact hi1)
                                      rw [HPB.out, hr0, decide_eq_false_iff_not]
                                      simp [pairs])
                                    go_wp2_with fail
                                    go_meet
                                    case rel => exact ⟨by rw [HPF.out], rfl⟩
                              case rest =>
                                obtain ⟨rfl, rfl⟩ := hcut
                                have q0 := HTD.out.cell_ (i := 0) rfl; have qf := HTD.out.frozen 0; have q2 := HTD.out.cell_ (i := 2) rfl; have qf2 := HTD.out.frozen 2; have ql := HTD.out.lt
                                clear t0 t2 u0 u2
                                have HF8 := Lib.hid (HF5.out.trans HFD.out)
                                cases PB with
                                | true =>
                                  as_aux_lemma =>
                                    have hm2 : (ch :: r).take 2 ∈ pairs := decide_eq_true_iff.1 HPB.out.symm
                                    have hl2 : ∀ u ∈ pairs, u.length = 2 := by decide
                                    have h2n : i + 2 ≤ n := by
                                      have h := hl2 _ hm2
                                      rw [List.length_take, ← HDR.out, List.length_drop, ← HN.out] at h; omega
                                    obtain ⟨u, hu⟩ : ∃ u, u = (ch :: r).take 2 := ⟨_, rfl⟩
                                    have HNXE : Hid (nextM OP (ch :: r) = .ok (9, u, 0, 2)) := Lib.hid (by rw [HSG.out, if_pos hm2, hu])
                                    have hX : S.extract i (i + 2) = ⟨u.toArray⟩ := by rw [HS.out, ba_extract, HDR.out, Nat.add_sub_cancel_left, hu]
                                    clear hm2 hl2 hu
                                    go_wp2_with fail
                                    go_meet
                                    case rel => exact ⟨9, 2, 0, u, [.bool false, .slice none 0 0], HNXE.out, by go_num, (HF8.out.setCell (.inr HGL.out) _).setCell (.inr HGL.out) _, by rw [tk0_arr]; exact (HTD.out.put 0 _).put 2 _, (HXD.out.far (by simp) _).far (by simp) _, numW_zero _⟩
                                | false =>
                                  have HPN : Hid ((ch :: r).take 2 ∉ pairs) := Lib.hid (decide_eq_false_iff_not.1 HPB.out.symm)
                                  obtain ⟨SB, hSB⟩ : ∃ SB : Bool, SB = decide (ch ∈ singles) := ⟨_, rfl⟩
                                  have HIS : Hid (∀ W, Calls Tryd.prog 16 #[.string ⟨siS.toArray⟩, .string ⟨[ch].toArray⟩] W fun e w' => e = .returned (.bool SB) ∧ W = w') := Lib.hid (fun W => by have h := in_any W siS [ch] (by decide) (by simp); rw [in_si HC32.out, ← hSB] at h; exact h)
                                  have hX : S.extract i (i + 1) = ⟨[ch].toArray⟩ := by rw [HS.out]; exact ext_one HCH.out
                                  have hin1 : (i : Int) + 1 ≤ (n : Int) := by omega
                                  cases SB with
                                  | true =>
                                    as_aux_lemma =>
                                      have HNXE : Hid (nextM OP (ch :: r) = .ok (9, [ch], 0, 1)) := Lib.hid (by rw [HSG.out, if_neg HPN.out, if_pos (decide_eq_true_iff.1 hSB.symm)])
                                      clear hSB
                                      go_wp2_with (go_at_call 16; refine (HIS.out _).mono ?_; rintro e w7 ⟨rfl, rfl⟩)
                                      go_meet
                                      case rel => exact ⟨9, 1, 0, [ch], [.bool false, .slice none 0 0], HNXE.out, by go_num, (HF8.out.setCell (.inr HGL.out) _).setCell (.inr HGL.out) _, by rw [tk0_arr]; exact (HTD.out.put 0 _).put 2 _, (HXD.out.far (by simp) _).far (by simp) _, numW_zero _⟩
                                  | false =>
                                    as_aux_lemma =>
                                      have HNXE : Hid (nextM OP (ch :: r) = .error 4) := Lib.hid (by rw [HSG.out, if_neg HPN.out, if_neg (decide_eq_false_iff_not.1 hSB.symm)])
                                      have hbR := (HGM.out.fr_nil HF8.out).res
                                      have HFW := Lib.hid (HFR.out.trans HF8.out)
                                      clear hSB
                                      have rlt2 := hbR.lt
                                      have rf0 := hbR.frozen 0; have rf1 := hbR.frozen 1; have rf2 := hbR.frozen 2; have rf3 := hbR.frozen 3
                                      have rc0 := hbR.cell_ (i := 0) rfl; have rc1 := hbR.cell_ (i := 1) rfl; have rc2 := hbR.cell_ (i := 2) rfl; have rc3 := hbR.cell_ (i := 3) rfl
                                      have HRET : Hid (LX = .error (4, i)) := Lib.hid (by
                                        have h := HE.out
                                        rw [lexA_err (e := 4) HTB.out (by rw [← HOP.out]; exact HNXE.out)] at h
                                        rw [HLY.out, ← h]; rfl)
                                      go_wp2_with (go_at_call 16; refine (HIS.out _).mono ?_; rintro e w7 ⟨rfl, rfl⟩)
                                      have hbb := (((hbR.put 0 (.slice none 0 0)).put 1 (.slice none 0 0)).put 2 (.int .i64 4)).put 3 (.int .i64 (i : Int))
                                      refine ret_row_ (p := 2) (T := 31) rfl R (gotL (.slice none 0 0) (.slice none 0 0) 4 (i : Int)) _ rfl hbb Tryd.underlying31 rfl got12_size rfl ?_
                                      rw [HPP.out]
                                      refine ⟨(((HFW.out.setCell (.inr HRL.out) _).setCell (.inr HRL.out) _).setCell (.inr HRL.out) _).setCell (.inr HRL.out) _, ?_⟩
                                      rw [HLX.out, HRET.out]; rfl
                case rest =>
                  skip
                  obtain ⟨k1, m1, v1, t1, x1, hnx, rfl, hf6, hb6, hb7, X1, c1, rfl, hxl, hxa, hxt⟩ := hcut
                  obtain ⟨i0, hi0, hz0, hz1, hz2⟩ := tokParts
                  obtain ⟨j0, hj0, hy0, hy1, hy2⟩ := numParts
                  rw [tk0_arr] at hb6
                  have HXW : Hid (NumW wc [.bool false, .slice X1 (digs v1).length c1] (digs v1)) := Lib.hid ⟨X1, c1, rfl, hxl, hxa, hxt⟩
                  obtain ⟨lx, hlx⟩ : ∃ lx, lx = (digs v1).length := ⟨_, rfl⟩
                  rw [← hlx] at hb7 HXW
                  have hgm := HGM.out.fr_nil hf6
                  have HGM6 := Lib.hid hgm
                  have HFZ := Lib.hid (HFR.out.trans hf6)
                  have HLX1 := Lib.hid hlx
                  have HBX6 := Lib.hid hb7
                  have HGB := Lib.hid hgm.blk
                  obtain ⟨XT, hXT⟩ : ∃ XT, XT = ts.flatMap tk0 := ⟨_, rfl⟩
                  obtain ⟨XN, hXN⟩ : ∃ XN, XN = xs.flatten := ⟨_, rfl⟩
                  have HXT := Lib.hid hXT; have HXN := Lib.hid hXN
                  have hro : Hid (∀ o, (wc.alloc o).ownsRow w.heap.size 43 6 (.slice A k c) k XT) := Lib.hid (fun o => by rw [hXT]; exact own_nil hgm.rl ((Fr.refl [] wc).alloc o))
                  have HNX := Lib.hid hnx
                  have hm1 := (nextM_ok hnx).1
                  have HRO := hro
                  have HK1 : Hid (∀ o w7, (wc.alloc o).grownBy w7 (Value.slice A k c).ownBlock → (∀ t, t ≠ 43 → KeepB t wc w7) ∧ wc.heap.size ≤ w7.heap.size) := Lib.hid (fun o w7 hg => ⟨fun t ht => (KeepB.of_nil ((Fr.refl [] wc).alloc o)).trans (keep_own (own_nil hgm.rl ((Fr.refl [] wc).alloc o)) hg ht), Nat.le_trans ((Fr.refl [] wc).alloc o).size hg.size⟩)
                  have hb60 : wc.cell? ⟨gt, 0, none⟩ = some (.int .i64 (k1 : Int)) := hb6.cell_ rfl
                  have hb61 : wc.cell? ⟨gt, 1, none⟩ = some (.int .i64 (i : Int)) := hb6.cell_ rfl
                  have hb62 : wc.cell? ⟨gt, 2, none⟩ = some (.string ⟨t1.toArray⟩) := hb6.cell_ rfl
                  have hb63 : wc.cell? ⟨gt, 3, none⟩ = some (.bool false) := hb6.cell_ rfl
                  have hb64 : wc.cell? ⟨gt, 4, none⟩ = some (.int .u64 0) := hb6.cell_ rfl
                  have hb65 : wc.cell? ⟨gt, 5, none⟩ = some (.int .u64 0) := hb6.cell_ rfl
                  have hgb0 : wc.cell? ⟨G, 0, none⟩ = some (.slice A k c) := hgm.blk.cell_ rfl
                  have hkn : k ≤ 16384 := by omega
                  clear hgm hf6 hb6 hb7 hxl hxa hxt hlx hXT hXN hnx hro
                  go_upto_region 59 with (at_builtin; refine RR.wpList_append_R rfl (.tmp 235) (.tmp 237) 24 rfl w.heap.size 43 i0 _ 6 56 Tryd.underlying24 hi0 hz0 hz1 hz2 rfl (by omega) (.slice A k c) k XT (by first | rfl | (simp [Act.eval]; done)) (HRO.out _) ⟨wc.heap.size, 0, none⟩ 1 1 [.int .i64 (k1 : Int), .int .i64 (i : Int), .string ⟨t1.toArray⟩, .bool false, .int .u64 0, .int .u64 0] (by first | rfl | (simp [Act.eval]; done)) rfl (news_at wc _ _) (by simp [Value.oneCell']) (by unfold maxLen; omega) (by omega) (by have := HFZ.out.size; simp; omega) ?_; intro v' w7 hown4 hgr hat4; obtain ⟨A4, c4, rfl⟩ := own_any5 hown4; obtain ⟨hkp, hsz⟩ := HK1.out _ w7 hgr; have HKP := Lib.hid hkp; have HSZ := Lib.hid hsz; have hg7 := hkp 31 (by decide) _ _ HGB.out; have HG7 := Lib.hid hg7; have hx7 := hkp 47 (by decide) _ _ HBX6.out; have HX7 := Lib.hid hx7; have HGR1 := Lib.hid hgr; have HOWN4 := Lib.hid hown4; have g70 := hg7.cell_ (i := 0) rfl; have g71 : w7.cell? ⟨G, 1, none⟩ = some (.slice B k d) := hg7.cell_ rfl; have g7f := hg7.frozen 0; have g7f1 := hg7.frozen 1; have g7l := hg7.lt; have x70 : w7.cell? ⟨gt + 1, 0, none⟩ = some (.bool false) := hx7.cell_ rfl; have x71 : w7.cell? ⟨gt + 1, 1, none⟩ = some (.slice X1 lx c1) := hx7.cell_ rfl; clear hown4 hgr hat4 hkp hsz hg7 hx7)
                  clear hb60 hb61 hb62 hb63 hb64 hb65 hgb0 g70 g7f g7f1 g71 g7l x70 x71
                  obtain ⟨w8, hw8⟩ : ∃ w8, w8 = w7.setCell ⟨G, 0, none⟩ (.slice A4 (k + 1) c4) := ⟨_, rfl⟩
                  rw [← hw8]
                  have hk8 : ∀ t, t ≠ 31 → KeepB t w7 w8 := fun t ht => by rw [hw8]; exact keep_set HG7.out ht 0 _
                  have hg8 : Bk w8 G 31 #[.slice A4 (k + 1) c4, .slice B k d, .int .i64 0, .int .i64 0] := by rw [hw8]; exact HG7.out.put 0 _
                  have HG8 := Lib.hid hg8
                  have HGRW : Hid (w.heap.size ≤ G) := Lib.hid (by have := HRL.out; have := HGR.out; omega)
                  have HRN8 : Hid (w8.ownsRow w.heap.size 47 2 (.slice B k d) k XN) := Lib.hid (by rw [HXN.out]; exact own_keep (own_keep HGM6.out.rn (HKP.out _ (by decide))) (hk8 _ (by decide)))
                  have HRL8 : Hid (w8.ownsRow w.heap.size 43 6 (.slice A4 (k + 1) c4) (k + 1) (ts.flatMap tk0 ++ tk0 (⟨k1, i, t1, v1⟩ : Tk))) := Lib.hid (by have h := own_keep HOWN4.out (hk8 _ (by decide)); rw [HXT.out] at h; rw [tk0_list]; exact h)
                  have HF8 : Hid (Fr [] w w8) := Lib.hid (by
                    rw [hw8]
                    exact ((HFZ.out.alloc _).grown HGR1.out (fun g hg => .inr (own_base (HRO.out (.cells #[] 0)) g hg).1)).setCell (.inr HGRW.out) _)
                  have hx8 := hk8 47 (by decide) _ _ HX7.out
                  have HR8 : Hid (Bk w8 R 31 (gotL (.slice none 0 0) (.slice none 0 0) 0 0).toArray) := Lib.hid (by rw [hw8]; exact (HKP.out _ (by decide) _ _ HGM6.out.res).far (by have := HGR.out; simp; omega) _)
                  have HS8 : Hid (w7.heap.size ≤ w8.heap.size) := Lib.hid (by rw [hw8]; exact ((Fr.refl [G] w7).setCell (.inl (by simp)) _).size)
                  have HNR8 : Hid (NumRow w8 ts xs) := Lib.hid ((HGM6.out.num.keep HSZ.out (HKP.out _ (by decide))).keep HS8.out (hk8 _ (by decide)))
                  have HNW8 : Hid (NumW w8 [.bool false, .slice X1 lx c1] (digs v1)) := Lib.hid ((HXW.out.keep HSZ.out (HKP.out _ (by decide))).keep HS8.out (hk8 _ (by decide)))
                  have g80 : w8.cell? ⟨G, 1, none⟩ = some (.slice B k d) := hg8.cell_ rfl
                  have x80 : w8.cell? ⟨gt + 1, 0, none⟩ = some (.bool false) := hx8.cell_ rfl
                  have x81 : w8.cell? ⟨gt + 1, 1, none⟩ = some (.slice X1 lx c1) := hx8.cell_ rfl
                  clear hk8 hw8 hg8 hx8 HGM6 HKP HSZ
                  go_wp2_with (at_builtin; refine RR.wpList_append_R rfl (.tmp 241) (.tmp 243) 29 rfl w.heap.size 47 j0 _ 2 32 Tryd.underlying29 hj0 hy0 hy1 hy2 rfl (by omega) (.slice B k d) k XN (by first | rfl | (simp [Act.eval]; done)) (own_nil HRN8.out ((Fr.refl [] w8).alloc _)) ⟨w8.heap.size, 0, none⟩ 1 1 [.bool false, .slice X1 lx c1] (by first | rfl | (simp [Act.eval]; done)) rfl (news_at w8 _ _) (by simp [Value.oneCell']) (by unfold maxLen; omega) (by omega) (by have := HF8.out.size; simp; omega) ?_; intro v' w9 hown4 hgr hat4; obtain ⟨B4, d4, rfl⟩ := own_any5 hown4; have hg9 := (keep_own (own_nil HRN8.out ((Fr.refl [] w8).alloc _)) hgr (t := 31) (by decide)) _ _ (HG8.out.alloc _); have HG9 := Lib.hid hg9; have HGR2 := Lib.hid hgr; have HOWN9 := Lib.hid hown4; have g91 := hg9.cell_ (i := 1) rfl; have g9f1 := hg9.frozen 1; have g9l := hg9.lt; clear hown4 hgr hat4 hg9)
                  go_roundw
                  case rel =>
                    have hk9 : ∀ t, t ≠ 47 → KeepB t w8 w9 := fun t ht => (KeepB.of_nil ((Fr.refl [] w8).alloc _)).trans (keep_own (own_nil HRN8.out ((Fr.refl [] w8).alloc _)) HGR2.out ht)
                    have hs9 : w8.heap.size ≤ w9.heap.size := Nat.le_trans ((Fr.refl [] w8).alloc _).size HGR2.out.size
                    have hka : ∀ t, t ≠ 31 → KeepB t w9 (w9.setCell ⟨G, 1, none⟩ (.slice B4 (k + 1) d4)) := fun t ht => keep_set HG9.out ht 1 _
                    have hsa : w9.heap.size ≤ (w9.setCell ⟨G, 1, none⟩ (.slice B4 (k + 1) d4)).heap.size := ((Fr.refl [G] w9).setCell (.inl (by simp)) _).size
                    have hnew : ts.flatMap tk0 ++ tk0 (⟨k1, i, t1, v1⟩ : Tk) = (ts ++ [(⟨k1, i, t1, v1⟩ : Tk)]).flatMap tk0 := by simp
                    have hlen := nextM_le HNX.out
                    have hdl := congrArg List.length HDR.out
                    rw [List.length_drop, ← HN.out] at hdl
                    refine ⟨i + m1, k + 1, ts ++ [⟨k1, i, t1, v1⟩], A4, c4, B4, d4, xs ++ [[.bool false, .slice X1 lx c1]], by go_num, by rw [← HN.out]; omega, by omega, ?_, ?_, ?_⟩
                    · exact { len := by simp [HGM.out.len]
                              res := by have h := hk9 _ (by decide) _ _ HR8.out; exact h.far (by have := HGR.out; simp; omega) _
                              blk := by have h := HG9.out.put 1 (.slice B4 (k + 1) d4); exact h
                              rl := by rw [← hnew]; exact own_keep (own_keep HRL8.out (hk9 _ (by decide))) (hka _ (by decide))
                              rn := by have h := own_keep HOWN9.out (hka _ (by decide)); rw [HXN.out] at h; simpa using h
                              num := ((HNR8.out.snoc (t := ⟨k1, i, t1, v1⟩) HNW8.out).keep hs9 (hk9 _ (by decide))).keep hsa (hka _ (by decide)) }
                    · have h := lexA_ok (op := OP) (p := i) ts HTB.out HNX.out
                      rw [HOP.out, HE.out] at h
                      rw [← List.drop_drop, HDR.out, ← h]
                    · exact ((HF8.out.alloc _).grown HGR2.out (fun g hg => .inr (own_base HRN8.out g hg).1)).setCell (.inr HGRW.out) _
                  case measure => first | (simp [intOf]; done) | (simp [intOf]; omega)
      · skip
        have hinI : ¬ (i : Int) < (n : Int) := by omega
        have HIN : Hid (i = n) := Lib.hid (by omega)
        obtain ⟨i0, hi0, hz0, hz1, hz2⟩ := tokParts
        obtain ⟨j0, hj0, hy0, hy1, hy2⟩ := numParts
        have HRET : Hid (LX = .ok (ts ++ [⟨0, n, [], 0⟩])) := Lib.hid (by
          have h := HEQ.out
          rw [HIN.out, List.drop_of_length_le (Nat.le_of_eq HN.out.symm), lexA_nil] at h
          rw [HLY.out, ← h]; rfl)
        obtain ⟨XT, hXT⟩ : ∃ XT, XT = ts.flatMap tk0 := ⟨_, rfl⟩
        obtain ⟨XN, hXN⟩ : ∃ XN, XN = xs.flatten := ⟨_, rfl⟩
        have HXT := Lib.hid hXT; have HXN := Lib.hid hXN
        have HRO : Hid (∀ o, (wr.alloc o).ownsRow w.heap.size 43 6 (.slice A k c) k XT) := Lib.hid (fun o => by rw [hXT]; exact own_nil HGM.out.rl ((Fr.refl [] wr).alloc o))
        have HK1 : Hid (∀ o w7, (wr.alloc o).grownBy w7 (Value.slice A k c).ownBlock → (∀ t, t ≠ 43 → KeepB t wr w7) ∧ wr.heap.size ≤ w7.heap.size) := Lib.hid (fun o w7 hg => ⟨fun t ht => (KeepB.of_nil ((Fr.refl [] wr).alloc o)).trans (keep_own (own_nil HGM.out.rl ((Fr.refl [] wr).alloc o)) hg ht), Nat.le_trans ((Fr.refl [] wr).alloc o).size hg.size⟩)
        have hgb0 : wr.cell? ⟨G, 0, none⟩ = some (.slice A k c) := HGM.out.blk.cell_ rfl
        have hkn : k ≤ 16384 := by omega
        clear hXT hXN
        go_upto_region 61 with (at_builtin; refine RR.wpList_append_R rfl (.tmp 247) (.tmp 251) 24 rfl w.heap.size 43 i0 _ 6 56 Tryd.underlying24 hi0 hz0 hz1 hz2 rfl (by omega) (.slice A k c) k XT (by first | rfl | (simp [Act.eval]; done)) (HRO.out _) ⟨wr.heap.size, 0, none⟩ 1 1 [.int .i64 0, .int .i64 (n : Int), .string ⟨#[]⟩, .bool false, .int .u64 0, .int .u64 0] (by first | rfl | (simp [Act.eval]; done)) rfl (news_at wr _ _) (by simp [Value.oneCell']) (by unfold maxLen; omega) (by omega) (by have := HFR.out.size; simp; omega) ?_; intro v' w7 hown4 hgr hat4; obtain ⟨A4, c4, rfl⟩ := own_any5 hown4; obtain ⟨hkp, hsz⟩ := HK1.out _ w7 hgr; have HKP := Lib.hid hkp; have HSZ := Lib.hid hsz; have hg7 := hkp 31 (by decide) _ _ HGM.out.blk; have HG7 := Lib.hid hg7; have HGR1 := Lib.hid hgr; have HOWN4 := Lib.hid hown4; have g70 := hg7.cell_ (i := 0) rfl; have g71 : w7.cell? ⟨G, 1, none⟩ = some (.slice B k d) := hg7.cell_ rfl; have g7f := hg7.frozen 0; have g7f1 := hg7.frozen 1; have g7l := hg7.lt; clear hown4 hgr hat4 hkp hsz hg7)
        clear hgb0 g70 g7f g7f1 g71 g7l
        obtain ⟨w8, hw8⟩ : ∃ w8, w8 = w7.setCell ⟨G, 0, none⟩ (.slice A4 (k + 1) c4) := ⟨_, rfl⟩
        rw [← hw8]
        have hk8 : ∀ t, t ≠ 31 → KeepB t w7 w8 := fun t ht => by rw [hw8]; exact keep_set HG7.out ht 0 _
        have hg8 : Bk w8 G 31 #[.slice A4 (k + 1) c4, .slice B k d, .int .i64 0, .int .i64 0] := by rw [hw8]; exact HG7.out.put 0 _
        have HG8 := Lib.hid hg8
        have HGRW : Hid (w.heap.size ≤ G) := Lib.hid (by have := HRL.out; have := HGR.out; omega)
        have HRN8 : Hid (w8.ownsRow w.heap.size 47 2 (.slice B k d) k XN) := Lib.hid (by rw [HXN.out]; exact own_keep (own_keep HGM.out.rn (HKP.out _ (by decide))) (hk8 _ (by decide)))
        have HRL8 : Hid (w8.ownsRow w.heap.size 43 6 (.slice A4 (k + 1) c4) (k + 1) (ts.flatMap tk0 ++ tk0 (⟨0, n, [], 0⟩ : Tk))) := Lib.hid (by have h := own_keep HOWN4.out (hk8 _ (by decide)); rw [HXT.out] at h; rw [tk0_list]; exact h)
        have HF8 : Hid (Fr [] w w8) := Lib.hid (by
          rw [hw8]
          exact ((HFR.out.alloc _).grown HGR1.out (fun g hg => .inr (own_base (HRO.out (.cells #[] 0)) g hg).1)).setCell (.inr HGRW.out) _)
        have HR8 : Hid (Bk w8 R 31 (gotL (.slice none 0 0) (.slice none 0 0) 0 0).toArray) := Lib.hid (by rw [hw8]; exact (HKP.out _ (by decide) _ _ HGM.out.res).far (by have := HGR.out; simp; omega) _)
        have HS8 : Hid (w7.heap.size ≤ w8.heap.size) := Lib.hid (by rw [hw8]; exact ((Fr.refl [G] w7).setCell (.inl (by simp)) _).size)
        have HNR8 : Hid (NumRow w8 ts xs) := Lib.hid ((HGM.out.num.keep HSZ.out (HKP.out _ (by decide))).keep HS8.out (hk8 _ (by decide)))
        have g80 : w8.cell? ⟨G, 1, none⟩ = some (.slice B k d) := hg8.cell_ rfl
        clear hk8 hw8 hg8 HKP HSZ
        go_upto_region 62 with (at_builtin; refine RR.wpList_append_R rfl (.tmp 255) (.tmp 257) 29 rfl w.heap.size 47 j0 _ 2 32 Tryd.underlying29 hj0 hy0 hy1 hy2 rfl (by omega) (.slice B k d) k XN (by first | rfl | (simp [Act.eval]; done)) (own_nil HRN8.out ((Fr.refl [] w8).alloc _)) ⟨w8.heap.size, 0, none⟩ 1 1 [.bool false, .slice none 0 0] (by first | rfl | (simp [Act.eval]; done)) rfl (news_at w8 _ _) (by simp [Value.oneCell']) (by unfold maxLen; omega) (by omega) (by have := HF8.out.size; simp; omega) ?_; intro v' w9 hown4 hgr hat4; obtain ⟨B4, d4, rfl⟩ := own_any5 hown4; have hg9 := (keep_own (own_nil HRN8.out ((Fr.refl [] w8).alloc _)) hgr (t := 31) (by decide)) _ _ (HG8.out.alloc _); have HG9 := Lib.hid hg9; have HGR2 := Lib.hid hgr; have HOWN9 := Lib.hid hown4; have g91 := hg9.cell_ (i := 1) rfl; have g9f1 := hg9.frozen 1; have g9l := hg9.lt; clear hown4 hgr hat4 hg9)
        have hg10 := HG9.out.put 1 (.slice B4 (k + 1) d4)
        obtain ⟨w10, hw10⟩ : ∃ w10, w10 = w9.setCell ⟨G, 1, none⟩ (.slice B4 (k + 1) d4) := ⟨_, rfl⟩
        rw [← hw10] at hg10 ⊢
        have hk9 : ∀ t, t ≠ 47 → KeepB t w8 w9 := fun t ht => (KeepB.of_nil ((Fr.refl [] w8).alloc _)).trans (keep_own (own_nil HRN8.out ((Fr.refl [] w8).alloc _)) HGR2.out ht)
        have hs9 : w8.heap.size ≤ w9.heap.size := Nat.le_trans ((Fr.refl [] w8).alloc _).size HGR2.out.size
        have hka : ∀ t, t ≠ 31 → KeepB t w9 w10 := fun t ht => by rw [hw10]; exact keep_set HG9.out ht 1 _
        have hsa : w9.heap.size ≤ w10.heap.size := by rw [hw10]; exact ((Fr.refl [G] w9).setCell (.inl (by simp)) _).size
        have hnew : ts.flatMap tk0 ++ tk0 (⟨0, n, [], 0⟩ : Tk) = (ts ++ [(⟨0, n, [], 0⟩ : Tk)]).flatMap tk0 := by simp
        have HRL10 : Hid (w10.ownsRow w.heap.size 43 6 (.slice A4 (k + 1) c4) (k + 1) ((ts ++ [(⟨0, n, [], 0⟩ : Tk)]).flatMap tk0)) := Lib.hid (by rw [← hnew]; exact own_keep (own_keep HRL8.out (hk9 _ (by decide))) (hka _ (by decide)))
        have HRN10 : Hid (w10.ownsRow w.heap.size 47 2 (.slice B4 (k + 1) d4) (k + 1) (xs ++ ([[Value.bool false, Value.slice none 0 0]] : List (List Value))).flatten) := Lib.hid (by have h := own_keep HOWN9.out (hka _ (by decide)); rw [HXN.out] at h; simpa using h)
        have HNR10 : Hid (NumRow w10 (ts ++ [(⟨0, n, [], 0⟩ : Tk)]) (xs ++ ([[Value.bool false, Value.slice none 0 0]] : List (List Value)))) := Lib.hid (((HNR8.out.snoc (t := (⟨0, n, [], 0⟩ : Tk)) (numW_zero _)).keep hs9 (hk9 _ (by decide))).keep hsa (hka _ (by decide)))
        have HF10 : Hid (Fr [] w w10) := Lib.hid (by rw [hw10]; exact ((HF8.out.alloc _).grown HGR2.out (fun g hg => .inr (own_base HRN8.out g hg).1)).setCell (.inr HGRW.out) _)
        have hbR : Bk w10 R 31 (gotL (.slice none 0 0) (.slice none 0 0) 0 0).toArray := by rw [hw10]; have h := hk9 _ (by decide) _ _ HR8.out; exact h.far (by have := HGR.out; simp; omega) _
        have HLEN : Hid ((ts ++ [(⟨0, n, [], 0⟩ : Tk)]).length = k + 1) := Lib.hid (by simp [HGM.out.len])
        have z0 : w10.cell? ⟨G, 0, none⟩ = some (.slice A4 (k + 1) c4) := hg10.cell_ rfl
        have z1 : w10.cell? ⟨G, 1, none⟩ = some (.slice B4 (k + 1) d4) := hg10.cell_ rfl
        have z2 : w10.cell? ⟨G, 2, none⟩ = some (.int .i64 0) := hg10.cell_ rfl
        have z3 : w10.cell? ⟨G, 3, none⟩ = some (.int .i64 0) := hg10.cell_ rfl
        have rlt2 := hbR.lt
        have rf0 := hbR.frozen 0; have rf1 := hbR.frozen 1; have rf2 := hbR.frozen 2; have rf3 := hbR.frozen 3
        have rc0 := hbR.cell_ (i := 0) rfl; have rc1 := hbR.cell_ (i := 1) rfl; have rc2 := hbR.cell_ (i := 2) rfl; have rc3 := hbR.cell_ (i := 3) rfl
        clear hk9 hs9 hka hsa hnew hw10 hg10
        go_wp2_with fail
        obtain ⟨w11, hw11⟩ : ∃ w11, w11 = w10.setCell ⟨R, 0, none⟩ (.slice A4 (k + 1) c4) := ⟨_, rfl⟩
        rw [← hw11]
        have bw11 := hbR.put 0 (.slice A4 (k + 1) c4)
        have kw11 : ∀ t, t ≠ 31 → KeepB t w10 w11 := fun t ht => by rw [hw11]; exact keep_set hbR ht 0 _
        have sw11 : w10.heap.size ≤ w11.heap.size := by rw [hw11]; exact ((Fr.refl [R] w10).setCell (.inl (by simp)) _).size
        have fw11 : Fr [] w w11 := by rw [hw11]; exact HF10.out.setCell (.inr HRL.out) _
        rw [← hw11] at bw11
        clear hw11
        obtain ⟨w12, hw12⟩ : ∃ w12, w12 = w11.setCell ⟨R, 1, none⟩ (.slice B4 (k + 1) d4) := ⟨_, rfl⟩
        rw [← hw12]
        have bw12 := bw11.put 1 (.slice B4 (k + 1) d4)
        have kw12 : ∀ t, t ≠ 31 → KeepB t w11 w12 := fun t ht => by rw [hw12]; exact keep_set bw11 ht 1 _
        have sw12 : w11.heap.size ≤ w12.heap.size := by rw [hw12]; exact ((Fr.refl [R] w11).setCell (.inl (by simp)) _).size
        have fw12 : Fr [] w w12 := by rw [hw12]; exact fw11.setCell (.inr HRL.out) _
        rw [← hw12] at bw12
        clear hw12
        obtain ⟨w13, hw13⟩ : ∃ w13, w13 = w12.setCell ⟨R, 2, none⟩ (.int .i64 0) := ⟨_, rfl⟩
        rw [← hw13]
        have bw13 := bw12.put 2 (.int .i64 0)
        have kw13 : ∀ t, t ≠ 31 → KeepB t w12 w13 := fun t ht => by rw [hw13]; exact keep_set bw12 ht 2 _
        have sw13 : w12.heap.size ≤ w13.heap.size := by rw [hw13]; exact ((Fr.refl [R] w12).setCell (.inl (by simp)) _).size
        have fw13 : Fr [] w w13 := by rw [hw13]; exact fw12.setCell (.inr HRL.out) _
        rw [← hw13] at bw13
        clear hw13
        obtain ⟨w14, hw14⟩ : ∃ w14, w14 = w13.setCell ⟨R, 3, none⟩ (.int .i64 0) := ⟨_, rfl⟩
        rw [← hw14]
        have bw14 := bw13.put 3 (.int .i64 0)
        have kw14 : ∀ t, t ≠ 31 → KeepB t w13 w14 := fun t ht => by rw [hw14]; exact keep_set bw13 ht 3 _
        have sw14 : w13.heap.size ≤ w14.heap.size := by rw [hw14]; exact ((Fr.refl [R] w13).setCell (.inl (by simp)) _).size
        have fw14 : Fr [] w w14 := by rw [hw14]; exact fw13.setCell (.inr HRL.out) _
        rw [← hw14] at bw14
        clear hw14
        refine ret_row_ (p := 2) (T := 31) rfl R (gotL (.slice A4 (k + 1) c4) (.slice B4 (k + 1) d4) 0 0) _ rfl bw14 Tryd.underlying31 rfl got12_size rfl ?_
        rw [HPP.out]
        have hkf : ∀ t, t ≠ 31 → KeepB t w10 w14 := fun t ht => (((kw11 t ht).trans (kw12 t ht)).trans (kw13 t ht)).trans (kw14 t ht)
        have hsf : w10.heap.size ≤ w14.heap.size := Nat.le_trans (Nat.le_trans (Nat.le_trans sw11 sw12) sw13) sw14
        have hlx : lexAllM s = .ok (ts ++ [⟨0, n, [], 0⟩]) := HLX.out.trans HRET.out
        refine RAllPost.ok_ fw14 hlx HLEN.out HRL10.out HRN10.out HNR10.out hsf (hkf _ (by decide)) (hkf _ (by decide)) (hkf _ (by decide))
end Go.Proofs.YtjfgopihfgljmaaDoor
