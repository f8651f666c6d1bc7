/-
  NetOrder in plain Lean: what was sent, read, written, against the wires. No program; no conditions.
-/
import Derived.Test.YtedcheicnaphmaaNetG2
import Derived.Test.YtedcheicnaphmaaNetAw
namespace Go.Proofs.Ytedcheicnaphmaa
open Go.RowKit
set_option linter.unusedVariables false
set_option linter.unusedSimpArgs false

/-- One connection: the wire, what was sent, read, written. -/
structure OrdX (m : Nat) (x : Wr) (s r t : List UInt8) : Prop where
  st : x.st = 1 ∨ x.st = 2
  win : 0 ≤ x.win ∧ x.win ≤ 1048576
  got : x.got = t
  inn : x.rs = false → r ++ x.inn = s
  pre : r <+: s
  up : x.st = 1 → x.rs = false
  rin : x.rs = true → x.inn = []
  sl : s.length ≤ m
  tl : t.length ≤ m
/-- Where NetOrder stands behind i acts. -/
structure OrdI (i : Nat) (ws : List Wr) (S R T : List (List UInt8)) : Prop where
  ls : S.length = 100
  lr : R.length = 100
  lt : T.length = 100
  lw : ws.length ≤ 64
  one : ∀ j, j < ws.length → OrdX (100 * i) (ws.getD j default) (S.getD (j + 1) []) (R.getD (j + 1) []) (T.getD (j + 1) [])
  out : ∀ c, ws.length < c → c < 100 → S.getD c [] = [] ∧ R.getD c [] = [] ∧ T.getD c [] = []
theorem OrdX.more {m m' : Nat} {x : Wr} {s r t : List UInt8} (h : OrdX m x s r t) (hm : m ≤ m') : OrdX m' x s r t := { h with sl := Nat.le_trans h.sl hm, tl := Nat.le_trans h.tl hm }
theorem OrdI.next {i : Nat} {ws : List Wr} {S R T : List (List UInt8)} (h : OrdI i ws S R T) : OrdI (i + 1) ws S R T := { h with one := fun j hj => (h.one j hj).more (by omega) }
theorem rep_get (n c : Nat) : (List.replicate n ([] : List UInt8)).getD c [] = [] := by
  rw [List.getD_eq_getElem?_getD, List.getElem?_replicate]
  split <;> rfl
theorem OrdI.start : OrdI 0 [] (List.replicate 100 []) (List.replicate 100 []) (List.replicate 100 []) :=
  ⟨List.length_replicate, List.length_replicate, List.length_replicate, by simp, fun j hj => by simp at hj, fun c _ hc => ⟨rep_get _ _, rep_get _ _, rep_get _ _⟩⟩
theorem getD_setL (l : List (List UInt8)) (k j : Nat) (x : List UInt8) (hk : k < l.length) : (l.set k x).getD j [] = if j = k then x else l.getD j [] := by
  simp only [List.getD_eq_getElem?_getD, List.getElem?_set]
  by_cases e : k = j
  · subst e; simp [hk]
  · rw [if_neg e, if_neg (fun x => e x.symm)]
theorem OrdI.come {i : Nat} {ws : List Wr} {S R T : List (List UInt8)} (h : OrdI i ws S R T) (hl : ws.length < 64) (N : Int) (h0 : 0 ≤ N) (h1 : N ≤ 65536) : OrdI (i + 1) (ws ++ [cameW N]) S R T := by
  refine ⟨h.ls, h.lr, h.lt, by simp; omega, fun j hj => ?_, fun c hc hc' => h.out c (by simp at hc; omega) hc'⟩
  rw [List.length_append, List.length_singleton] at hj
  by_cases e : j < ws.length
  · have : (ws ++ [cameW N]).getD j default = ws.getD j default := by simp [List.getD_eq_getElem?_getD, List.getElem?_append_left e]
    rw [this]
    exact (h.one j e).more (by omega)
  · obtain rfl : j = ws.length := by omega
    have : (ws ++ [cameW N]).getD ws.length default = cameW N := by simp
    rw [this]
    obtain ⟨e1, e2, e3⟩ := h.out (ws.length + 1) (by omega) (by omega)
    rw [e1, e2, e3]
    exact ⟨.inl rfl, ⟨h0, by show N ≤ _; omega⟩, rfl, fun _ => rfl, List.prefix_refl _, fun _ => rfl, fun h => (by cases h), by simp, by simp⟩
theorem OrdI.put {i : Nat} {ws : List Wr} {S R T : List (List UInt8)} (h : OrdI i ws S R T) {j : Nat} (hj : j < ws.length) (y : Wr) (s r t : List UInt8) (hy : OrdX (100 * (i + 1)) y s r t) :
    OrdI (i + 1) (ws.set j y) (S.set (j + 1) s) (R.set (j + 1) r) (T.set (j + 1) t) := by
  have hl := h.lw
  refine ⟨by simp [h.ls], by simp [h.lr], by simp [h.lt], by simpa using hl, fun k hk => ?_, fun c hc hc' => ?_⟩
  · rw [List.length_set] at hk
    rw [getD_set ws y hj, getD_setL S _ _ _ (by rw [h.ls]; omega), getD_setL R _ _ _ (by rw [h.lr]; omega), getD_setL T _ _ _ (by rw [h.lt]; omega)]
    by_cases e : k = j
    · subst e; simp only [if_true]; exact hy
    · rw [if_neg e, if_neg (by omega), if_neg (by omega), if_neg (by omega)]
      exact (h.one k hk).more (by omega)
  · rw [List.length_set] at hc
    rw [getD_setL S _ _ _ (by rw [h.ls]; omega), getD_setL R _ _ _ (by rw [h.lr]; omega), getD_setL T _ _ _ (by rw [h.lt]; omega)]
    rw [if_neg (by omega), if_neg (by omega), if_neg (by omega)]
    exact h.out c hc hc'
theorem setL_self (l : List (List UInt8)) (k : Nat) : l.set k (l.getD k []) = l := by
  apply List.ext_getElem?
  intro i
  rw [List.getElem?_set]
  by_cases e : k = i
  · subst e
    rw [if_pos rfl]
    by_cases hk : k < l.length
    · simp [hk]
    · rw [if_neg hk, List.getElem?_eq_none (by omega)]
  · rw [if_neg e]
theorem OrdI.putS {i : Nat} {ws : List Wr} {S R T : List (List UInt8)} (h : OrdI i ws S R T) {j : Nat} (hj : j < ws.length) (y : Wr) (s : List UInt8) (hy : OrdX (100 * (i + 1)) y s (R.getD (j + 1) []) (T.getD (j + 1) [])) : OrdI (i + 1) (ws.set j y) (S.set (j + 1) s) R T := by
  have := h.put hj y s _ _ hy
  rwa [setL_self, setL_self] at this
theorem OrdI.putR {i : Nat} {ws : List Wr} {S R T : List (List UInt8)} (h : OrdI i ws S R T) {j : Nat} (hj : j < ws.length) (y : Wr) (r : List UInt8) (hy : OrdX (100 * (i + 1)) y (S.getD (j + 1) []) r (T.getD (j + 1) [])) : OrdI (i + 1) (ws.set j y) S (R.set (j + 1) r) T := by
  have := h.put hj y _ r _ hy
  rwa [setL_self, setL_self] at this
theorem OrdI.putT {i : Nat} {ws : List Wr} {S R T : List (List UInt8)} (h : OrdI i ws S R T) {j : Nat} (hj : j < ws.length) (y : Wr) (t : List UInt8) (hy : OrdX (100 * (i + 1)) y (S.getD (j + 1) []) (R.getD (j + 1) []) t) : OrdI (i + 1) (ws.set j y) S R (T.set (j + 1) t) := by
  have := h.put hj y _ _ t hy
  rwa [setL_self, setL_self] at this
theorem OrdI.put0 {i : Nat} {ws : List Wr} {S R T : List (List UInt8)} (h : OrdI i ws S R T) {j : Nat} (hj : j < ws.length) (y : Wr) (hy : OrdX (100 * (i + 1)) y (S.getD (j + 1) []) (R.getD (j + 1) []) (T.getD (j + 1) [])) : OrdI (i + 1) (ws.set j y) S R T := by
  have := h.put hj y _ _ _ hy
  rwa [setL_self, setL_self, setL_self] at this

theorem OrdX.inl {m : Nat} {x : Wr} {s r t : List UInt8} (h : OrdX m x s r t) : x.inn.length ≤ m := by
  cases e : x.rs with
  | true => rw [h.rin e]; simp
  | false => have := congrArg List.length (h.inn e); rw [List.length_append] at this; have := h.sl; omega
theorem OrdX.settle {m : Nat} {x : Wr} {s r t : List UInt8} (h : OrdX m x s r t) : OrdX m (settleW x) s r t := by
  unfold settleW
  split
  · rename_i hc
    exact { st := .inr rfl, win := h.win, got := h.got, inn := h.inn, pre := h.pre, up := fun e => (by cases e), rin := h.rin, sl := h.sl, tl := h.tl }
  · exact h
theorem OrdX.reset {m : Nat} {x : Wr} {s r t : List UInt8} (h : OrdX m x s r t) : OrdX m (resetW x) s r t :=
  { st := .inr rfl, win := h.win, got := h.got, inn := fun e => (by cases e), pre := h.pre, up := fun e => (by cases e), rin := fun _ => rfl, sl := h.sl, tl := h.tl }
theorem OrdX.data {m m' : Nat} {x : Wr} {s r t : List UInt8} (h : OrdX m x s r t) (hst : x.st = 1) (bs : List UInt8) (hm : m + bs.length ≤ m') : OrdX m' { x with inn := x.inn ++ bs } (s ++ bs) r t :=
  { st := h.st, win := h.win, got := h.got, inn := fun e => (by show r ++ (x.inn ++ bs) = s ++ bs; rw [← List.append_assoc, h.inn e]), pre := h.pre.trans (List.prefix_append _ _), up := h.up,
    rin := fun e => (by have := h.up hst; rw [show x.rs = true from e] at this; cases this), sl := (by have := h.sl; rw [List.length_append]; omega), tl := (by have := h.tl; omega) }
theorem OrdX.read {m m' : Nat} {x : Wr} {s r t : List UInt8} (h : OrdX m x s r t) (hst : x.st = 1) (k : Nat) (hm : m ≤ m') : OrdX m' { x with inn := x.inn.drop k } s (r ++ x.inn.take k) t := by
  have hr := h.up hst
  have hi := h.inn hr
  have e : (r ++ x.inn.take k) ++ x.inn.drop k = s := by rw [List.append_assoc, List.take_append_drop, hi]
  exact { st := h.st, win := h.win, got := h.got, inn := fun _ => e, pre := ⟨_, e⟩, up := h.up, rin := fun e => (by rw [show x.rs = true from e] at hr; cases hr), sl := (by have := h.sl; omega), tl := (by have := h.tl; omega) }
theorem OrdX.write {m m' : Nat} {x : Wr} {s r t : List UInt8} (h : OrdX m x s r t) (bs : List UInt8) (k : Nat) (hk : (k : Int) ≤ x.win) (hm : m + (bs.take k).length ≤ m') : OrdX m' { x with got := x.got ++ bs.take k, win := x.win - k } s r (t ++ bs.take k) :=
  { st := h.st, win := ⟨(by show 0 ≤ x.win - k; omega), (by show x.win - k ≤ _; have := h.win.2; omega)⟩, got := (by show x.got ++ _ = _; rw [h.got]), inn := h.inn, pre := h.pre, up := h.up, rin := h.rin, sl := (by have := h.sl; omega), tl := (by have := h.tl; rw [List.length_append]; omega) }
theorem OrdX.setEn {m : Nat} {x : Wr} {s r t : List UInt8} (h : OrdX m x s r t) : OrdX m { x with en := true } s r t := ⟨h.st, h.win, h.got, h.inn, h.pre, h.up, h.rin, h.sl, h.tl⟩
theorem OrdX.setSh {m : Nat} {x : Wr} {s r t : List UInt8} (h : OrdX m x s r t) : OrdX m { x with sh := true } s r t := ⟨h.st, h.win, h.got, h.inn, h.pre, h.up, h.rin, h.sl, h.tl⟩
theorem OrdX.setWin {m : Nat} {x : Wr} {s r t : List UInt8} (h : OrdX m x s r t) (M : Int) (h0 : 0 ≤ M) (h1 : M ≤ 1048576) : OrdX m { x with win := M } s r t := ⟨h.st, ⟨h0, h1⟩, h.got, h.inn, h.pre, h.up, h.rin, h.sl, h.tl⟩

/-- What 'Happen' leaves. -/
def HapOrd (w : World) (B n : Nat) (k c : Int) (bs : List UInt8) (i : Nat) (S R T : List (List UInt8)) (r : Value) (w' : World) : Prop :=
  ∃ ws' now', 0 ≤ now' ∧ now' ≤ 1099511627776 ∧ NetS w' B n now' ws' ∧ NFr B w w' ∧
    (((∃ d, r = errV d) ∧ OrdI (i + 1) ws' S R T) ∨ (r = .nilIface ∧ k ≠ 1 ∧ OrdI (i + 1) ws' S R T) ∨ (r = .nilIface ∧ k = 1 ∧ ∃ j : Nat, c = (j : Int) ∧ j < 100 ∧ (S.getD j [] ++ bs).length ≤ 100 * (i + 1) ∧ OrdI (i + 1) ws' (S.set j (S.getD j [] ++ bs)) R T))
theorem happen_ord {w : World} {B n : Nat} {now : Int} {ws : List Wr} (h : NetS w B n now ws) (hB : B ≤ w.heap.size) (n0 : 0 ≤ now) (n1 : now ≤ 1099511627776) {i : Nat} (hi : i < 80) {S R T : List (List UInt8)} (ho : OrdI i ws S R T) (k c N : Int) (bA : Option Addr) (bs : List UInt8) (bc : Nat) (hby : Bytes w bA bs) (hbl : bs.length ≤ 100 ∨ 4096 < bs.length) :
    Calls Try.prog 10 #[.pointer (some ⟨n, 0, none⟩), .agg (evC k c N (.slice bA bs.length bc))] w fun e w' => ∃ r, e = .returned r ∧ HapOrd w B n k c bs i S R T r w' := by
  have hl := ho.lw
  have bad : ∀ {e w'}, Refused w e w' → ∃ r, e = .returned r ∧ HapOrd w B n k c bs i S R T r w' := by
    rintro e w' ⟨d, rfl, hf⟩
    exact ⟨_, rfl, ws, now, n0, n1, h.fr_nil hf, NFr.of_fr hf, .inl ⟨⟨d, rfl⟩, ho.next⟩⟩
  by_cases hk : k < 0 ∨ 7 < k
  · exact (happen_kind n k c N bA bs.length bc hk w).mono fun e w' hr => bad hr
  by_cases hk0 : k = 0
  · subst hk0
    by_cases hno : rightB 0 N bs.length = false ∨ 64 ≤ ws.length
    · exact (arrive_no h hl c N bA bs.length bc hno).mono fun e w' hr => bad hr
    · have h1 : rightB 0 N bs.length = true := by cases hq : rightB 0 N bs.length with
        | true => rfl
        | false => exact absurd (.inl hq) hno
      have hN : 0 ≤ N ∧ N ≤ 65536 := by simpa [rightB] using h1
      have h64 : ws.length < 64 := by omega
      refine (arrive_yes h hB h64 c N (.slice bA bs.length bc) ⟨_, _, _, rfl⟩ hN.1 hN.2).mono ?_
      rintro e w' ⟨rfl, hs, hf⟩
      exact ⟨_, rfl, _, now, n0, n1, hs, hf, .inr (.inl ⟨rfl, by decide, ho.come h64 N hN.1 hN.2⟩)⟩
  by_cases hk7 : k = 7
  · subst hk7
    refine (tick_any h n0 n1 c N bA bs.length bc).mono ?_
    rintro e w' (⟨d, now', rfl, q0, q1, hs, hf⟩ | ⟨now', rfl, q0, q1, hs, hf⟩)
    · exact ⟨_, rfl, ws, now', q0, q1, hs, hf, .inl ⟨⟨d, rfl⟩, ho.next⟩⟩
    · exact ⟨_, rfl, ws, now', q0, q1, hs, hf, .inr (.inl ⟨rfl, by decide, ho.next⟩)⟩
  have hk6 : 1 ≤ k ∧ k ≤ 6 := by omega
  by_cases hc : c < 1 ∨ (ws.length : Int) < c
  · exact (happen_none h hl k c N bA bs.length bc hk6 hc).mono fun e w' hr => bad hr
  obtain ⟨j, rfl⟩ : ∃ j : Nat, c = (j : Int) + 1 := ⟨(c - 1).toNat, by omega⟩
  have hj : j < ws.length := by omega
  obtain ⟨x, hx⟩ : ∃ x, ws.getD j default = x := ⟨_, rfl⟩
  have hX := ho.one j hj
  rw [hx] at hX
  obtain ⟨v, G, IV, GV, hR⟩ := h
  refine event_gen k hk6 v G IV GV hR hB hl hj N bA bs.length bc (fun r w' => HapOrd w B n k ((j : Int) + 1) bs i S R T r w') ?_ ?_
  · intro w1 d _ hf
    exact ⟨ws, now, n0, n1, ⟨_, _, _, _, hR.fr_nil hf⟩, NFr.of_fr hf, .inl ⟨⟨d, rfl⟩, ho.next⟩⟩
  · intro hri w1 hf1 hR1 hB1
    have bad1 : ∀ {e w'}, Refused w1 e w' → ∃ r, e = .returned r ∧ HapOrd w B n k ((j : Int) + 1) bs i S R T r w' := by
      rintro e w' ⟨d, rfl, hf⟩
      exact ⟨_, rfl, ws, now, n0, n1, ⟨_, _, _, _, hR1.fr_nil hf⟩, (NFr.of_fr hf1).trans (NFr.of_fr hf), .inl ⟨⟨d, rfl⟩, ho.next⟩⟩
    have good : ∀ {y : Wr} {w'}, k ≠ 1 → NetS w' B n now (ws.set j y) → NFr B w1 w' → OrdX (100 * (i + 1)) y (S.getD (j + 1) []) (R.getD (j + 1) []) (T.getD (j + 1) []) → HapOrd w B n k ((j : Int) + 1) bs i S R T .nilIface w' := by
      intro y w' hk1 hs hf hy
      exact ⟨_, now, n0, n1, hs, (NFr.of_fr hf1).trans hf, .inr (.inl ⟨rfl, hk1, ho.put0 hj y hy⟩)⟩
    have hX' := hX.more (m' := 100 * (i + 1)) (by omega)
    by_cases hst : x.st = 2 ∨ x.st = 1 ∧ 5 ≤ k
    · exact (whap_state v G IV GV hR1 hj x hx k hk6 hst _ N bA bs.length bc).mono fun e w' hr => bad1 hr
    have hst1 : x.st = 1 := by rcases hX.st with h | h; exact h; exact absurd (.inl h) hst
    have hk4 : k ≤ 4 := by rcases Int.lt_or_le k 5 with h | h; omega; exact absurd (.inr ⟨hst1, h⟩) hst
    obtain rfl | rfl | rfl | rfl : k = 1 ∨ k = 2 ∨ k = 3 ∨ k = 4 := by omega
    · cases hen : x.en with
      | true => exact (whap_ended v G IV GV hR1 hj x hx 1 (.inl rfl) hst1 hen _ N bA bs.length bc).mono fun e w' hr => bad1 hr
      | false =>
        have hb4 : bs.length ≤ 4096 := by simpa [rightB] using hri
        have hb : bs.length ≤ 100 := by omega
        have hil := hX.inl
        refine (wdata_yes v G IV GV hR1 hB1 hj x hx hst1 hen _ N bA bs bc (hby.fr_nil hf1) (by omega)).mono ?_
        rintro e w' ⟨rfl, hs, hf⟩
        exact ⟨_, rfl, _, now, n0, n1, hs, (NFr.of_fr hf1).trans hf, .inr (.inr ⟨rfl, rfl, j + 1, by omega, by omega, (by have h3 := hX.sl; rw [List.length_append]; omega), ho.putS hj _ _ (hX.data hst1 bs (by omega))⟩)⟩
    · cases hen : x.en with
      | true => exact (whap_ended v G IV GV hR1 hj x hx 2 (.inr rfl) hst1 hen _ N bA bs.length bc).mono fun e w' hr => bad1 hr
      | false =>
        refine (wfin_yes v G IV GV hR1 hB1 hj x hx hst1 hen _ N bA bs.length bc).mono ?_
        rintro e w' ⟨rfl, hs, hf⟩
        exact ⟨_, rfl, good (by decide) hs hf hX'.setEn.settle⟩
    · refine (wreset_yes v G IV GV hR1 hB1 hj x hx hst1 _ N bA bs.length bc).mono ?_
      rintro e w' ⟨rfl, hs, hf⟩
      exact ⟨_, rfl, good (by decide) hs hf hX'.reset⟩
    · have hN : 0 ≤ N ∧ N ≤ 65536 := by simpa [rightB] using hri
      refine (wwindow_yes v G IV GV hR1 hB1 hj x hx hst1 hX.win.1 hX.win.2 _ N hN.1 hN.2 bA bs.length bc _ rfl).mono ?_
      rintro e w' ⟨rfl, hs, hf⟩
      have hw := hX.win
      exact ⟨_, rfl, good (by decide) hs hf (hX'.setWin _ (by split <;> omega) (by split <;> omega))⟩

/-- What 'Read' leaves. -/
def ReadOrd (w : World) (B n : Nat) (now c : Int) (i : Nat) (S R T : List (List UInt8)) (e : Ending) (w' : World) : Prop :=
  ∃ ws', NetS w' B n now ws' ∧ NFr B w w' ∧ ((∃ d, e = .returned (.tuple #[.slice none 0 0, .bool false, errV d]) ∧ OrdI (i + 1) ws' S R T) ∨
    ∃ (A : Option Addr) (bs : List UInt8) (cp : Nat) (be : Bool) (j : Nat), e = .returned (.tuple #[.slice A bs.length cp, .bool be, .nilIface]) ∧ Bytes w' A bs ∧ c = (j : Int) ∧ j < 100 ∧ (R.getD j [] ++ bs).length ≤ 100 * i ∧ OrdI (i + 1) ws' S (R.set j (R.getD j [] ++ bs)) T)
theorem read_ord {w : World} {B n : Nat} {now : Int} {ws : List Wr} (h : NetS w B n now ws) (hB : B ≤ w.heap.size) {i : Nat} (hi : i < 80) {S R T : List (List UInt8)} (ho : OrdI i ws S R T) (c most : Int) :
    Calls Try.prog 16 #[.pointer (some ⟨n, 0, none⟩), .int .i64 c, .int .i64 most] w (ReadOrd w B n now c i S R T) := by
  have hl := ho.lw
  by_cases hc : c < 1 ∨ (ws.length : Int) < c
  · refine (read_none h hl c hc most).mono ?_
    rintro e w' ⟨rfl, rfl⟩
    exact ⟨ws, h, NFr.refl _ _, .inl ⟨_, rfl, ho.next⟩⟩
  obtain ⟨j, rfl⟩ : ∃ j : Nat, c = (j : Int) + 1 := ⟨(c - 1).toNat, by omega⟩
  have hj : j < ws.length := by omega
  obtain ⟨x, hx⟩ : ∃ x, ws.getD j default = x := ⟨_, rfl⟩
  have hX := ho.one j hj
  rw [hx] at hX
  rcases hX.st with hst | hst
  · have hil := hX.inl
    refine (read_yes h hB hl hj x hx hst (by omega) most _ rfl).mono ?_
    rintro e w' ⟨A, cp, rfl, hb, ⟨v, G, IV, GV, hs, -⟩, hf⟩
    have hkl := clampN_le most x.inn.length
    have hlen : (x.inn.take (clampN most x.inn.length)).length = clampN most x.inn.length := by rw [List.length_take]; omega
    refine ⟨_, ⟨_, _, _, _, hs⟩, hf, .inr ⟨A, x.inn.take (clampN most x.inn.length), cp, _, j + 1, by rw [hlen], hb, by omega, by omega, ?_, ho.putR hj _ _ (hX.read hst _ (by omega)).settle⟩⟩
    have h1 := congrArg List.length (hX.inn (hX.up hst))
    have h2 := hX.sl
    rw [List.length_append] at h1 ⊢
    omega
  · refine (read_gone h hl hj (by rw [hx]; exact hst) most).mono ?_
    rintro e w' ⟨rfl, rfl⟩
    exact ⟨ws, h, NFr.refl _ _, .inl ⟨_, rfl, ho.next⟩⟩
/-- What 'Write' leaves. -/
def WriteOrd (w : World) (B n : Nat) (now c : Int) (bs : List UInt8) (i : Nat) (S R T : List (List UInt8)) (e : Ending) (w' : World) : Prop :=
  ∃ ws', NetS w' B n now ws' ∧ NFr B w w' ∧ ((∃ d, e = .returned (.tuple #[.int .i64 0, errV d]) ∧ OrdI (i + 1) ws' S R T) ∨
    ∃ (kk j : Nat), e = .returned (.tuple #[.int .i64 (kk : Int), .nilIface]) ∧ kk ≤ bs.length ∧ c = (j : Int) ∧ j < 100 ∧ (T.getD j [] ++ bs.take kk).length ≤ 100 * (i + 1) ∧ OrdI (i + 1) ws' S R (T.set j (T.getD j [] ++ bs.take kk)))
theorem write_ord {w : World} {B n : Nat} {now : Int} {ws : List Wr} (h : NetS w B n now ws) (hB : B ≤ w.heap.size) {i : Nat} (hi : i < 80) {S R T : List (List UInt8)} (ho : OrdI i ws S R T) (c : Int) (bA : Option Addr) (bs : List UInt8) (bc : Nat) (hby : Bytes w bA bs) (hbc : bs.length ≤ bc) (hbl : bs.length ≤ 100) :
    Calls Try.prog 13 #[.pointer (some ⟨n, 0, none⟩), .int .i64 c, .slice bA bs.length bc] w (WriteOrd w B n now c bs i S R T) := by
  have hl := ho.lw
  by_cases hc : c < 1 ∨ (ws.length : Int) < c
  · refine (write_none h hl c hc bA bs.length bc).mono ?_
    rintro e w' ⟨rfl, rfl⟩
    exact ⟨ws, h, NFr.refl _ _, .inl ⟨_, rfl, ho.next⟩⟩
  obtain ⟨j, rfl⟩ : ∃ j : Nat, c = (j : Int) + 1 := ⟨(c - 1).toNat, by omega⟩
  have hj : j < ws.length := by omega
  obtain ⟨x, hx⟩ : ∃ x, ws.getD j default = x := ⟨_, rfl⟩
  have hX := ho.one j hj
  rw [hx] at hX
  rcases hX.st with hst | hst
  · cases hsh : x.sh with
    | true =>
      refine (write_shut h hl hj x hx hst hsh bA bs.length bc).mono ?_
      rintro e w' ⟨rfl, rfl⟩
      exact ⟨ws, h, NFr.refl _ _, .inl ⟨_, rfl, ho.next⟩⟩
    | false =>
      have hw := hX.win
      have hg := hX.tl
      rw [← hX.got] at hg
      obtain ⟨kk, hkk⟩ : ∃ kk : Nat, (kk : Int) = min (bs.length : Int) x.win := ⟨(min (bs.length : Int) x.win).toNat, by omega⟩
      refine (write_yes h hB hl hj x hx hst hsh hw.1 hw.2 (by omega) bA bs bc hby hbc (by omega) kk hkk).mono ?_
      rintro e w' ⟨rfl, hs, hf⟩
      have ht : (bs.take kk).length ≤ 100 := by rw [List.length_take]; omega
      refine ⟨_, hs, hf, .inr ⟨kk, j + 1, rfl, by omega, by omega, by omega, ?_, ho.putT hj _ _ (hX.write bs kk (by omega) (by omega))⟩⟩
      have h3 := hX.tl
      rw [List.length_append]
      omega
  · refine (write_gone h hl hj (by rw [hx]; exact hst) bA bs.length bc).mono ?_
    rintro e w' ⟨rfl, rfl⟩
    exact ⟨ws, h, NFr.refl _ _, .inl ⟨_, rfl, ho.next⟩⟩
/-- What 'Shut' and 'Drop' leave. -/
def EndOrd (w : World) (B n : Nat) (now : Int) (i : Nat) (S R T : List (List UInt8)) (e : Ending) (w' : World) : Prop := ∃ ws' r, NetS w' B n now ws' ∧ NFr B w w' ∧ e = .returned r ∧ OrdI (i + 1) ws' S R T
theorem shut_ord {w : World} {B n : Nat} {now : Int} {ws : List Wr} (h : NetS w B n now ws) (hB : B ≤ w.heap.size) {i : Nat} {S R T : List (List UInt8)} (ho : OrdI i ws S R T) (c : Int) :
    Calls Try.prog 17 #[.pointer (some ⟨n, 0, none⟩), .int .i64 c] w (EndOrd w B n now i S R T) := by
  have hl := ho.lw
  by_cases hc : c < 1 ∨ (ws.length : Int) < c
  · refine (shut_none h hl c hc).mono ?_
    rintro e w' ⟨rfl, rfl⟩
    exact ⟨ws, _, h, NFr.refl _ _, rfl, ho.next⟩
  obtain ⟨j, rfl⟩ : ∃ j : Nat, c = (j : Int) + 1 := ⟨(c - 1).toNat, by omega⟩
  have hj : j < ws.length := by omega
  obtain ⟨x, hx⟩ : ∃ x, ws.getD j default = x := ⟨_, rfl⟩
  have hX := ho.one j hj
  rw [hx] at hX
  rcases hX.st with hst | hst
  · cases hsh : x.sh with
    | true =>
      refine (shut_shut h hl hj x hx hst hsh).mono ?_
      rintro e w' ⟨rfl, rfl⟩
      exact ⟨ws, _, h, NFr.refl _ _, rfl, ho.next⟩
    | false =>
      refine (shut_yes h hB hl hj x hx hst hsh).mono ?_
      rintro e w' ⟨rfl, hs, hf⟩
      exact ⟨_, _, hs, hf, rfl, ho.put0 hj _ ((hX.more (by omega)).setSh.settle)⟩
  · refine (shut_gone h hl hj (by rw [hx]; exact hst)).mono ?_
    rintro e w' ⟨rfl, rfl⟩
    exact ⟨ws, _, h, NFr.refl _ _, rfl, ho.next⟩
theorem drop_ord {w : World} {B n : Nat} {now : Int} {ws : List Wr} (h : NetS w B n now ws) (hB : B ≤ w.heap.size) {i : Nat} {S R T : List (List UInt8)} (ho : OrdI i ws S R T) (c : Int) :
    Calls Try.prog 18 #[.pointer (some ⟨n, 0, none⟩), .int .i64 c] w (EndOrd w B n now i S R T) := by
  have hl := ho.lw
  by_cases hc : c < 1 ∨ (ws.length : Int) < c
  · refine (drop_none h hl c hc).mono ?_
    rintro e w' ⟨rfl, rfl⟩
    exact ⟨ws, _, h, NFr.refl _ _, rfl, ho.next⟩
  obtain ⟨j, rfl⟩ : ∃ j : Nat, c = (j : Int) + 1 := ⟨(c - 1).toNat, by omega⟩
  have hj : j < ws.length := by omega
  obtain ⟨x, hx⟩ : ∃ x, ws.getD j default = x := ⟨_, rfl⟩
  have hX := ho.one j hj
  rw [hx] at hX
  rcases hX.st with hst | hst
  · refine (drop_yes h hB hl hj x hx hst).mono ?_
    rintro e w' ⟨rfl, hs, hf⟩
    exact ⟨_, _, hs, hf, rfl, ho.put0 hj _ ((hX.more (by omega)).reset)⟩
  · refine (drop_gone h hl hj (by rw [hx]; exact hst)).mono ?_
    rintro e w' ⟨rfl, rfl⟩
    exact ⟨ws, _, h, NFr.refl _ _, rfl, ho.next⟩
end Go.Proofs.Ytedcheicnaphmaa
