/-
  The document's list in memory: Find, Get, Weight. No conditions.
-/
import Derived.Test.YtfabmbemdaelcaaPr0
import Derived.Test.YtfabmbemdaelcaaRwP
import Derived.Laws.AppendOwnNone
namespace Go.Proofs.Ytfabmbemdaelcaa.C
open Go.RowKit Go.ChangeShapes Go.WideShapes Go.Maps
set_option linter.unusedVariables false
set_option linter.unusedSimpArgs false

def cellsP (p : List UInt8 × CV) : List Value := [.string ⟨p.1.toArray⟩, .int .i64 p.2.k, .string ⟨p.2.s.toArray⟩, .bool p.2.n, .int .u64 p.2.h, .int .u64 p.2.l]
theorem cellsP_len (p : List UInt8 × CV) : (cellsP p).length = 6 := rfl
/-- The list lies at v, in a block of its own. -/
def PR (w : World) (v : Value) (x : LP) : Prop := ∃ A c, v = .slice A x.length c ∧ (x = [] → A = none ∧ c = 0) ∧ w.ownsRow 0 63 6 v x.length (x.flatMap cellsP)
theorem PR.nil_ (w : World) : PR w (.slice none 0 0) [] := ⟨none, 0, rfl, fun _ => ⟨rfl, rfl⟩, World.ownsRow_nil _ _ _ _⟩
theorem PR.fr {w w' : World} {v : Value} {x : LP} {l : List Nat} (h : PR w v x) (hf : Fr l w w') (hn : ∀ b, v.ownBlock = some b → b ∉ l) : PR w' v x := by
  obtain ⟨A, c, rfl, h1, h2⟩ := h
  exact ⟨A, c, rfl, h1, RR.own_fr h2 hf hn⟩
theorem PR.fr_nil {w w' : World} {v : Value} {x : LP} (h : PR w v x) (hf : Fr [] w w') : PR w' v x := h.fr hf (by simp)
theorem PR.lt {w : World} {v : Value} {x : LP} (h : PR w v x) : ∀ b, v.ownBlock = some b → b < w.heap.size := by
  obtain ⟨A, c, rfl, h1, h2⟩ := h
  intro b hb
  obtain ⟨cur, hbk⟩ := RR.own_bk h2 b hb
  exact hbk.lt
theorem PR.at_ {w : World} {v : Value} {x : LP} (h : PR w v x) {i : Nat} {p : List UInt8 × CV} (hp : x[i]? = some p) :
    ∃ b c, v = .slice (some ⟨b, 0, none⟩) x.length c ∧ b < w.heap.size ∧ w.cell? ⟨b, i * 6, none⟩ = some (.string ⟨p.1.toArray⟩) ∧ w.cell? ⟨b, i * 6 + 1, none⟩ = some (.int .i64 p.2.k) ∧ w.cell? ⟨b, i * 6 + 2, none⟩ = some (.string ⟨p.2.s.toArray⟩) ∧
      w.cell? ⟨b, i * 6 + 3, none⟩ = some (.bool p.2.n) ∧ w.cell? ⟨b, i * 6 + 4, none⟩ = some (.int .u64 p.2.h) ∧ w.cell? ⟨b, i * 6 + 5, none⟩ = some (.int .u64 p.2.l) := by
  obtain ⟨A, c, rfl, h1, h2⟩ := h
  have hx : x.flatMap cellsP ≠ [] := by
    intro e
    have h3 := RR.flat_at cellsP_len p 0 (by omega) x i hp
    rw [e] at h3; cases h3
  obtain ⟨b, rfl, hbl, -, hc⟩ := RR.own_cells h2 hx
  have g : ∀ j u, j < 6 → (cellsP p)[j]? = some u → w.cell? ⟨b, i * 6 + j, none⟩ = some u := fun j u hj hu => hc _ _ ((RR.flat_at cellsP_len p j hj x i hp).trans hu)
  exact ⟨b, c, rfl, hbl, g 0 _ (by omega) rfl, g 1 _ (by omega) rfl, g 2 _ (by omega) rfl, g 3 _ (by omega) rfl, g 4 _ (by omega) rfl, g 5 _ (by omega) rfl⟩
theorem PR.form {w : World} {v : Value} {x : LP} (h : PR w v x) : ∃ A c, v = .slice A x.length c := by
  obtain ⟨A, c, rfl, -, -⟩ := h
  exact ⟨A, c, rfl⟩
def posP (x : LP) (k : List UInt8) : Int := match fndP x k with
  | some i => (i : Int)
  | none => -1
theorem fnd_miss {x : LP} {k : List UInt8} {i : Nat} {p : List UInt8 × CV} (h : fndP (x.take i) k = none) (hp : x[i]? = some p) (hne : ¬ p.1 = k) : fndP (x.take (i + 1)) k = none := by
  unfold fndP at h ⊢
  rw [List.take_add_one, hp, List.map_append, idxOf_append, h]
  have : keyIs k (some p : Ent CV) = false := by simp [keyIs, hne]
  simp [idxOf, this]
theorem fnd_hit {x : LP} {k : List UInt8} {i : Nat} {p : List UInt8 × CV} (h : fndP (x.take i) k = none) (hp : x[i]? = some p) (hne : p.1 = k) : fndP x k = some i := by
  have hi := (List.getElem?_eq_some_iff.1 hp).1
  unfold fndP at h ⊢
  have hs : x = x.take i ++ (p :: x.drop (i + 1)) := by
    conv => lhs; rw [← List.take_append_drop i x]
    rw [List.drop_eq_getElem_cons hi, (List.getElem?_eq_some_iff.1 hp).2]
  rw [hs, List.map_append, idxOf_append, h]
  have : keyIs k (some p : Ent CV) = true := by simp [keyIs, hne]
  simp [idxOf, this]
  omega
theorem fnd_at {x : LP} {k : List UInt8} {i : Nat} (h : fndP x k = some i) : ∃ u, x[i]? = some (k, u) := by
  obtain ⟨u, hu⟩ := idxOf_some h
  rw [List.getElem?_map, Option.map_eq_some_iff] at hu
  obtain ⟨p, h1, h2⟩ := hu
  injection h2 with h2
  exact ⟨u, by rw [h1, h2]⟩
theorem valP_some {x : LP} {k : List UInt8} {i : Nat} {u : CV} (h : fndP x k = some i) (hu : x[i]? = some (k, u)) : valP x k = u := by
  unfold valP valC
  unfold fndP at h
  rw [h]
  simp [hu]
theorem valP_none {x : LP} {k : List UInt8} (h : fndP x k = none) : valP x k = CV.zero := by
  unfold valP valC
  unfold fndP at h
  rw [h]
set_option maxRecDepth 100000 in
set_option maxHeartbeats 4000000 in
theorem find_any {w : World} {v : Value} {x : LP} (h : PR w v x) (k : List UInt8) (hx : x.length ≤ 1000) :
    Calls Try.prog 20 #[v, .string ⟨k.toArray⟩] w fun e w' => e = .returned (.int .i64 (posP x k)) ∧ w' = w := by
  obtain ⟨A, c, rfl⟩ := h.form
  obtain ⟨n, hn⟩ : ∃ n, n = x.length := ⟨_, rfl⟩
  have HP := Lib.hid h; have HN := Lib.hid hn
  rw [← hn] at hx ⊢
  clear h hn
  go_enter Try.func20, Try.ntmps20
  go_wp2_with fail
  go_loop [5] (fun v5 => ∃ i : Nat, v5 = .int .i64 (i : Int) ∧ i ≤ n ∧ fndP (x.take i) k = none) (fun v5 => n - (intOf v5).toNat)
  case atStart => exact ⟨0, rfl, by omega, by simp [fndP, idxOf]⟩
  case round =>
    obtain ⟨i, rfl, hi, hm⟩ := hrel
    have HM := Lib.hid hm; clear hm
    by_cases hlt : i < n
    · obtain ⟨p, hp⟩ : ∃ p, x[i]? = some p := ⟨_, List.getElem?_eq_getElem (by rw [← HN.out]; exact hlt)⟩
      obtain ⟨b, c', hs, hb, c0, -⟩ := HP.out.at_ hp
      injection hs with hs _ _; subst hs
      have HPP := Lib.hid hp; clear hp
      obtain ⟨q, hq⟩ : ∃ q, q = p.1 := ⟨_, rfl⟩
      rw [← hq] at c0
      have HQ := Lib.hid hq; clear hq
      by_cases he : q = k
      · subst he
        go_wp2_with fail
        go_ret
        refine ⟨?_, rfl⟩
        have h1 := fnd_hit HM.out HPP.out HQ.out.symm
        unfold posP
        rw [h1]
        rfl
      · have g1 : (q == k) = false := beq_eq_false_iff_ne.2 he
        go_wp2_with fail
        go_round
        case rel => exact ⟨i + 1, by go_num, by omega, fnd_miss HM.out HPP.out (by rw [← HQ.out]; exact he)⟩
        case measure => first | (simp [intOf]; done) | (simp [intOf]; omega)
    · obtain rfl : i = n := by omega
      go_wp2_with fail
      go_ret
      refine ⟨?_, rfl⟩
      have h1 := HM.out
      rw [HN.out, List.take_length] at h1
      unfold posP
      rw [h1]
      rfl
set_option maxRecDepth 100000 in
set_option maxHeartbeats 4000000 in
theorem getP_any {w : World} {v : Value} {x : LP} (h : PR w v x) (k : List UInt8) (hx : x.length ≤ 1000) :
    Calls Try.prog 23 #[v, .string ⟨k.toArray⟩] w fun e w' => e = .returned (.tuple #[(valP x k).val, .bool (fndP x k).isSome]) ∧ Fr [] w w' := by
  have HP := Lib.hid h
  clear h
  obtain ⟨f, hf⟩ : ∃ f, f = fndP x k := ⟨_, rfl⟩
  obtain ⟨y, hy⟩ : ∃ y, y = valP x k := ⟨_, rfl⟩
  rw [← hf, ← hy]
  have HFF := Lib.hid hf; have HY := Lib.hid hy; clear hf hy
  go_enter Try.func23, Try.ntmps23
  go_wp2_with fail
  go_at_call 20
  obtain ⟨wb, hwb⟩ : ∃ wb, wb = w.alloc (.cells #[.int .i64 0, .string ⟨#[]⟩, .bool false, .int .u64 0, .int .u64 0] 41) := ⟨_, rfl⟩
  have hbr : Bk wb w.heap.size 41 #[.int .i64 0, .string ⟨#[]⟩, .bool false, .int .u64 0, .int .u64 0] := by rw [hwb]; exact Bk.new w _ _
  have hfb : Fr [] w wb := by rw [hwb]; exact (Fr.refl [] w).alloc _
  rw [← hwb]
  obtain ⟨br, hbre⟩ : ∃ br, br = w.heap.size := ⟨_, rfl⟩
  rw [← hbre] at hbr ⊢
  have hbrw : w.heap.size ≤ br := by omega
  have hpb := HP.out.fr_nil hfb
  have HPB := Lib.hid hpb
  refine (find_any HPB.out k hx).mono ?_
  rintro e w1 ⟨rfl, rfl⟩
  have HB := Lib.hid hbr; have HF := Lib.hid hfb; have HBW := Lib.hid hbrw
  have r0 := hbr.cell_ (i := 0) rfl; have r1 := hbr.cell_ (i := 1) rfl; have r2 := hbr.cell_ (i := 2) rfl; have r3 := hbr.cell_ (i := 3) rfl; have r4 := hbr.cell_ (i := 4) rfl
  have z0 := hbr.frozen 0; have z1 := hbr.frozen 1; have z2 := hbr.frozen 2; have z3 := hbr.frozen 3; have z4 := hbr.frozen 4
  clear hwb hbr hfb hpb hbre
  have hfin : ∀ u : CV, Fr [] w (putC w1 br 0 u) ∧ Bk (putC w1 br 0 u) br 41 #[.int .i64 u.k, .string ⟨u.s.toArray⟩, .bool u.n, .int .u64 u.h, .int .u64 u.l] := fun u =>
    ⟨putC_fr HF.out (.inr HBW.out) 0 u, ((((HB.out.put 0 _).put 1 _).put 2 _).put 3 _).put 4 _⟩
  have HFIN := Lib.hid hfin
  clear hfin
  unfold posP
  rw [← HFF.out]
  cases f with
  | none =>
    obtain rfl : y = CV.zero := HY.out.trans (valP_none HFF.out.symm)
    show _
    try dsimp only
    go_wp2_with fail
    have h2 := HFIN.out CV.zero
    unfold putC at h2
    simp only [CV.zero, Nat.zero_add] at h2
    obtain ⟨h2, h3⟩ := h2
    have k0 := h3.cell_ (i := 0) rfl; have k1 := h3.cell_ (i := 1) rfl; have k2 := h3.cell_ (i := 2) rfl; have k3 := h3.cell_ (i := 3) rfl; have k4 := h3.cell_ (i := 4) rfl
    refine bodyPost_ret (v := .tuple #[CV.zero.val, .bool false]) ?_ rfl ?_
    · simp [results, Try.results23, go_sem, k0, k1, k2, k3, k4, CV.val, CV.zero]
    · exact ⟨rfl, h2⟩
  | some i =>
    obtain ⟨u, hu⟩ := fnd_at HFF.out.symm
    obtain rfl : y = u := HY.out.trans (valP_some HFF.out.symm hu)
    try dsimp only
    obtain ⟨b, c, rfl, hb, c0, c1, c2, c3, c4, c5⟩ := HPB.out.at_ hu
    have hil := (List.getElem?_eq_some_iff.1 hu).1
    obtain ⟨n, hn⟩ : ∃ n, n = x.length := ⟨_, rfl⟩
    rw [← hn] at hil hx ⊢
    have hilI : (i : Int) < (n : Int) := by omega
    clear hn hu c0
    dsimp only at c1 c2 c3 c4 c5
    go_wp2_with fail
    have h2 := HFIN.out y
    unfold putC at h2
    simp only [Nat.zero_add] at h2
    obtain ⟨h2, h3⟩ := h2
    have k0 := h3.cell_ (i := 0) rfl; have k1 := h3.cell_ (i := 1) rfl; have k2 := h3.cell_ (i := 2) rfl; have k3 := h3.cell_ (i := 3) rfl; have k4 := h3.cell_ (i := 4) rfl
    refine bodyPost_ret (v := .tuple #[y.val, .bool true]) ?_ rfl ?_
    · simp [results, Try.results23, go_sem, k0, k1, k2, k3, k4, CV.val]
    · exact ⟨rfl, h2⟩
set_option maxRecDepth 100000 in
set_option maxHeartbeats 4000000 in
theorem weightP_any {w : World} {v : Value} {x : LP} (h : PR w v x) (hx : x.length ≤ 1000) (hk : ∀ p ∈ x, p.1.length ≤ 1000) :
    Calls Try.prog 25 #[v] w fun e w' => e = .returned (.int .i64 (wtP x : Int)) ∧ w' = w := by
  obtain ⟨A, c, rfl⟩ := h.form
  obtain ⟨n, hn⟩ : ∃ n, n = x.length := ⟨_, rfl⟩
  have HP := Lib.hid h; have HN := Lib.hid hn; have HK := Lib.hid hk
  rw [← hn] at hx ⊢
  clear h hn hk
  go_enter Try.func25, Try.ntmps25
  go_wp2_with fail
  go_loop [3, 4] (fun v3 v4 => ∃ i s : Nat, v4 = .int .i64 (i : Int) ∧ v3 = .int .i64 (s : Int) ∧ i ≤ n ∧ s = wtP (x.take i)) (fun v3 v4 => n - (intOf v4).toNat)
  case atStart => exact ⟨0, 0, rfl, rfl, by omega, by simp [wtP]⟩
  case round =>
    obtain ⟨i, s, rfl, rfl, hi, hs⟩ := hrel
    by_cases hlt : i < n
    · obtain ⟨p, hp⟩ : ∃ p, x[i]? = some p := ⟨_, List.getElem?_eq_getElem (by rw [← HN.out]; exact hlt)⟩
      have h1 := wtP_take x i p hp
      have h2 : s ≤ 1032 * 1000 := by
        have h3 := wtP_le (x.take i) (n := 1000) (fun q hq => HK.out q (List.mem_of_mem_take hq))
        rw [← hs, List.length_take] at h3
        have h4 : min i x.length ≤ 1000 := by omega
        exact Nat.le_trans h3 (by rw [Nat.mul_comm]; exact Nat.mul_le_mul_left _ h4)
      have hpk := HK.out p (List.mem_of_getElem? hp)
      rw [← hs] at h1
      have HW := Lib.hid h1
      obtain ⟨b, c', hsl, hb, c0, -⟩ := HP.out.at_ hp
      injection hsl with hsl _ _; subst hsl
      obtain ⟨q, hq⟩ : ∃ q, q = p.1 := ⟨_, rfl⟩
      obtain ⟨m, hm⟩ : ∃ m, m = q.length := ⟨_, rfl⟩
      rw [← hq] at c0 hpk h1
      rw [← hm] at hpk
      have HQ := Lib.hid hq
      have HMM := Lib.hid hm
      clear hp hs h1 hq hm
      go_wp2_with fail
      go_round
      case rel => exact ⟨i + 1, s + (32 + m), by go_num, by refine congrArg _ ?_; (try simp only [← HMM.out]); rw [Go.IntWalk.wrap64_in _ ?_] <;> omega, by omega, by rw [HW.out, HMM.out, HQ.out]⟩
      case measure => first | (simp [intOf]; done) | (simp [intOf]; omega)
    · obtain rfl : i = n := by omega
      rw [HN.out, List.take_length] at hs
      have HS := Lib.hid hs; clear hs
      go_wp2_with fail
      go_ret
      exact ⟨by rw [HS.out]; rfl, rfl⟩
end Go.Proofs.Ytfabmbemdaelcaa.C
