/-
  WsM, WsP, Ws1, Ws2: several small texts in one. No conditions.
-/
import Derived.Test.YteofhjegaaoglaaDoorBase
import Derived.Lib.Join
import Derived.Lib.Split
import Derived.Test.YteofhjegaaoglaaDoorRows
import Derived.Test.YteofhjegaaoglaaDoorOwn
import Derived.Test.YteofhjegaaoglaaDoorShelf
import Derived.Test.YteofhjegaaoglaaDoorGe
import Derived.LoopTactic
import Derived.Test.YteofhjegaaoglaaDoorGl
namespace Go.Proofs.YteofhjegaaoglaaDoor
open Go.RowKit
set_option linter.unusedVariables false
set_option linter.unusedSimpArgs false

def isBl (c : UInt8) : Bool := c == 9 || c == 10 || c == 32
def splG : List UInt8 → List UInt8 → List (List UInt8)
  | [], cur => if cur = [] then [] else [cur]
  | c :: r, cur => if isBl c = true then (if cur = [] then [] else [cur]) ++ splG r [] else splG r (cur ++ [c])
def splM (s : List UInt8) : List (List UInt8) := splG s []
theorem one_len (cur : List UInt8) : (if cur = [] then [] else [cur]).length = if cur = [] then 0 else 1 := by split <;> rfl
theorem lens_nil : Lib.lens [] = 0 := rfl
theorem lens_cons (x : List UInt8) (r : List (List UInt8)) : Lib.lens (x :: r) = x.length + Lib.lens r := by simp [Lib.lens]
theorem lens_append (a b : List (List UInt8)) : Lib.lens (a ++ b) = Lib.lens a + Lib.lens b := by simp [Lib.lens]
theorem one_lens (cur : List UInt8) : Lib.lens (if cur = [] then [] else [cur]) = cur.length := by
  split
  · rename_i h; subst h; rfl
  · simp [Lib.lens]
theorem splG_len : ∀ (s cur : List UInt8), (splG s cur).length ≤ s.length + if cur = [] then 0 else 1
  | [], cur => by simp only [splG, one_len, List.length_nil]; omega
  | c :: r, cur => by
    unfold splG
    split
    · have h := splG_len r []
      simp only [if_true] at h
      rw [List.length_append, one_len, List.length_cons]
      omega
    · have h := splG_len r (cur ++ [c])
      rw [if_neg (by simp)] at h
      rw [List.length_cons]
      split <;> omega
theorem splM_len (s : List UInt8) : (splM s).length ≤ s.length := by have := splG_len s []; simpa [splM] using this
theorem splG_sum : ∀ (s cur : List UInt8), Lib.lens (splG s cur) ≤ s.length + cur.length
  | [], cur => by simp only [splG, one_lens, List.length_nil]; omega
  | c :: r, cur => by
    unfold splG
    split
    · have h := splG_sum r []
      rw [lens_append, one_lens, List.length_cons]
      simp only [List.length_nil] at h
      omega
    · have h := splG_sum r (cur ++ [c])
      rw [List.length_append] at h
      simp only [List.length_cons, List.length_nil] at h ⊢
      omega
theorem splM_sum (s : List UInt8) : Lib.lens (splM s) ≤ s.length := by have := splG_sum s []; simpa [splM] using this

def cutG (c : UInt8) : List UInt8 → List UInt8 → List (List UInt8)
  | [], cur => [cur]
  | x :: r, cur => if x = c then cur :: cutG c r [] else cutG c r (cur ++ [x])
theorem cutG_free (c : UInt8) : ∀ (a s cur : List UInt8), c ∉ a → cutG c (a ++ s) cur = cutG c s (cur ++ a)
  | [], s, cur, _ => by simp
  | x :: a, s, cur, h => by
    have h1 : x ≠ c := fun e => h (by simp [e])
    have h2 : c ∉ a := fun e => h (by simp [e])
    have := cutG_free c a s (cur ++ [x]) h2
    simp only [List.cons_append, cutG, if_neg h1, this, List.append_assoc, List.singleton_append]
    rfl
theorem cut_first (c : UInt8) : ∀ (s : List UInt8), c ∈ s → ∃ a b, s = a ++ c :: b ∧ c ∉ a
  | [], h => by simp at h
  | x :: r, h => by
    by_cases e : x = c
    · exact ⟨[], r, by simp [e], by simp⟩
    · obtain ⟨a, b, h1, h2⟩ := cut_first c r (by simpa [Ne.symm e] using h)
      exact ⟨x :: a, b, by simp [h1], by simp [h2, Ne.symm e]⟩
theorem index_hit1 (c : UInt8) : ∀ (a b : List UInt8), c ∉ a → Lib.index (a ++ c :: b) [c] = a.length
  | [], b, _ => by simp [Lib.index]
  | x :: a, b, h => by
    have h1 : ¬ c = x := fun e => h (by simp [e])
    have h2 : c ∉ a := fun e => h (by simp [e])
    have ih := index_hit1 c a b h2
    have h3 : ((a.length : Int) == -1) = false := by rw [beq_eq_false_iff_ne]; omega
    simp [Lib.index, h1, ih, h3]
theorem index_miss1 (c : UInt8) : ∀ (s : List UInt8), c ∉ s → Lib.index s [c] = -1
  | [], _ => by simp [Lib.index]
  | x :: a, h => by
    have h1 : ¬ c = x := fun e => h (by simp [e])
    have h2 : c ∉ a := fun e => h (by simp [e])
    simp [Lib.index, h1, index_miss1 c a h2]
theorem cutG_split (c : UInt8) : ∀ (n : Nat) (s : List UInt8), s.length ≤ n → Lib.splitK [c] 0 (Lib.count s [c]) s = cutG c s []
  | n, s, hn => by
    by_cases h : c ∈ s
    · obtain ⟨a, b, rfl, h2⟩ := cut_first c s h
      have hi := index_hit1 c a b h2
      have hd : (a ++ c :: b).drop (a.length + [c].length) = b := by
        rw [← List.drop_drop, List.drop_left]; rfl
      rw [Lib.count_hit (by simp) hi, hd, Nat.add_comm 1]
      have h3 : (Lib.index (a ++ c :: b) [c] == -1) = false := by rw [hi, beq_eq_false_iff_ne]; omega
      unfold Lib.splitK
      rw [h3, hi]
      have h4 : ((a.length : Int).toNat) = a.length := by omega
      rw [h4, hd, Nat.add_zero, List.take_left, cutG_free c a (c :: b) [] h2]
      cases n with
      | zero => simp at hn
      | succ n =>
        have ih := cutG_split c n b (by simp at hn; omega)
        rw [ih]
        simp [cutG]
    · rw [Lib.count_miss (index_miss1 c s h)]
      have := cutG_free c s [] [] h
      simp only [List.append_nil, List.nil_append] at this
      rw [this]
      rfl
theorem cutG_join_ (c : UInt8) : ∀ (r : List (List UInt8)) (x cur : List UInt8), c ∉ x → (∀ y ∈ r, c ∉ y) → cutG c (x ++ Lib.joinTail [c] r) cur = (cur ++ x) :: r
  | [], x, cur, hx, _ => by
    rw [cutG_free c x _ cur hx]
    simp [Lib.joinTail, cutG]
  | y :: r, x, cur, hx, hr => by
    rw [cutG_free c x _ cur hx]
    have e : Lib.joinTail [c] (y :: r) = c :: (y ++ Lib.joinTail [c] r) := by simp [Lib.joinTail]
    rw [e]
    unfold cutG
    rw [if_pos rfl, cutG_join_ c r y [] (hr y (by simp)) (fun z hz => hr z (by simp [hz]))]
    rfl
theorem cut_join (c : UInt8) (l : List (List UInt8)) (hne : l ≠ []) (h : ∀ y ∈ l, c ∉ y) : cutG c (Lib.join l [c]) [] = l := by
  cases l with
  | nil => exact absurd rfl hne
  | cons x r => rw [Lib.join_cons, cutG_join_ c r x [] (h x (by simp)) (fun y hy => h y (by simp [hy]))]; rfl
def cutM (s : List UInt8) (c : UInt8) : List (List UInt8) := if s = [] then [] else cutG c s []
theorem cutG_len (c : UInt8) : ∀ (s cur : List UInt8), (cutG c s cur).length ≤ s.length + 1
  | [], cur => by simp [cutG]
  | x :: r, cur => by
    unfold cutG
    split
    · have := cutG_len c r []; simp only [List.length_cons]; omega
    · have := cutG_len c r (cur ++ [x]); simp only [List.length_cons]; omega
theorem cutM_len (s : List UInt8) (c : UInt8) : (cutM s c).length ≤ s.length + 1 := by
  unfold cutM
  split
  · simp
  · exact cutG_len c s []
theorem cutM_none (s : List UInt8) (c : UInt8) (h : c ∉ s) (hs : s ≠ []) : cutM s c = [s] := by
  unfold cutM
  rw [if_neg hs]
  have := cutG_free c s [] [] h
  simpa [cutG] using this

end Go.Proofs.YteofhjegaaoglaaDoor
namespace Go.Proofs.YteofhjegaaoglaaDoor
set_option linter.unusedVariables false
set_option linter.unusedSimpArgs false

def jnF (c : UInt8) : List (List UInt8) → List UInt8
  | [] => []
  | x :: r => x ++ r.flatMap (fun y => c :: y)
theorem jnF_snoc (c : UInt8) (l : List (List UInt8)) (x : List UInt8) : jnF c (l ++ [x]) = if l = [] then x else jnF c l ++ [c] ++ x := by
  cases l with
  | nil => simp [jnF]
  | cons a r => simp [jnF]
theorem cutG_ne (c : UInt8) : ∀ (s cur : List UInt8), ∃ a r, cutG c s cur = a :: r
  | [], cur => ⟨cur, [], rfl⟩
  | x :: r, cur => by
    rw [cutG]
    split
    · exact ⟨_, _, rfl⟩
    · exact cutG_ne c r _
theorem jn_cutG (c : UInt8) : ∀ (s cur : List UInt8), jnF c (cutG c s cur) = cur ++ s
  | [], cur => by simp [cutG, jnF]
  | x :: r, cur => by
    rw [cutG]
    split
    · rename_i h
      subst h
      obtain ⟨a, l, hal⟩ := cutG_ne x r []
      have ih := jn_cutG x r []
      rw [hal] at ih ⊢
      simp [jnF] at ih ⊢
      exact ih
    · rw [jn_cutG c r _]; simp
theorem jn_cutM (c : UInt8) (s : List UInt8) : jnF c (cutM s c) = s := by
  unfold cutM
  split
  · rename_i h; subst h; rfl
  · rw [jn_cutG]; simp
theorem take_snoc7 {α : Type} {l : List α} {i : Nat} {x : α} (h : l[i]? = some x) : l.take (i + 1) = l.take i ++ [x] := by rw [List.take_add_one, h]; rfl
theorem jn_step (c : UInt8) {l : List (List UInt8)} {i : Nat} {x : List UInt8} (h : l[i]? = some x) : jnF c (l.take (i + 1)) = if i = 0 then x else jnF c (l.take i) ++ [c] ++ x := by
  rw [take_snoc7 h, jnF_snoc]
  have h1 : i < l.length := (List.getElem?_eq_some_iff.1 h).1
  by_cases h0 : i = 0
  · subst h0; simp
  · rw [if_neg h0, if_neg]
    intro he
    have h2 : (l.take i).length = 0 := by rw [he]; rfl
    rw [List.length_take] at h2
    omega
theorem jnF_len (c : UInt8) (s : List UInt8) (i : Nat) : (jnF c ((cutM s c).take i)).length ≤ s.length := by
  have h : ∀ (l : List (List UInt8)) (i : Nat), (jnF c (l.take i)).length ≤ (jnF c l).length := by
    intro l i
    cases l with
    | nil => simp [jnF]
    | cons a r =>
      cases i with
      | zero => simp [jnF]
      | succ i =>
        simp only [List.take_succ_cons, jnF, List.length_append]
        have : ∀ (r : List (List UInt8)) (i : Nat), ((r.take i).flatMap (fun y => c :: y)).length ≤ (r.flatMap (fun y => c :: y)).length := by
          intro r
          induction r with
          | nil => intro i; simp
          | cons y r ih =>
            intro i
            cases i with
            | zero => simp
            | succ i => simp only [List.take_succ_cons, List.flatMap_cons, List.length_append]; have := ih i; omega
        have := this r i
        omega
  have := h (cutM s c) i
  rw [jn_cutM] at this
  exact this
theorem splG_byte {s : List UInt8} {i : Nat} {x : UInt8} (h : s[i]? = some x) (cur : List UInt8) : splG (s.drop i) cur = if isBl x = true then (if cur = [] then [] else [cur]) ++ splG (s.drop (i + 1)) [] else splG (s.drop (i + 1)) (cur ++ [x]) := by
  obtain ⟨h1, h2⟩ := List.getElem?_eq_some_iff.1 h
  rw [List.drop_eq_getElem_cons h1, h2, splG]
theorem cutG_byte {s : List UInt8} {i : Nat} {x c : UInt8} (h : s[i]? = some x) (cur : List UInt8) : cutG c (s.drop i) cur = if x = c then cur :: cutG c (s.drop (i + 1)) [] else cutG c (s.drop (i + 1)) (cur ++ [x]) := by
  obtain ⟨h1, h2⟩ := List.getElem?_eq_some_iff.1 h
  rw [List.drop_eq_getElem_cons h1, h2, cutG]
end Go.Proofs.YteofhjegaaoglaaDoor
namespace Go.Proofs.YteofhjegaaoglaaDoor
open Go.RowKit
set_option linter.unusedVariables false
set_option linter.unusedSimpArgs false

def strVals (l : List (List UInt8)) : List Value := l.map fun b => .string ⟨b.toArray⟩
theorem strVals_length (l : List (List UInt8)) : (strVals l).length = l.length := by simp [strVals]
theorem strVals_append (a b : List (List UInt8)) : strVals (a ++ b) = strVals a ++ strVals b := by simp [strVals]
theorem strVals_get (l : List (List UInt8)) {j : Nat} (h : j < l.length) : (strVals l)[j]? = some (.string ⟨(l.getD j []).toArray⟩) := by simp [strVals, h]
theorem strVals_one (l : List (List UInt8)) : ∀ u ∈ strVals l, u.oneCell' = true := by
  intro u hu
  obtain ⟨b, _, rfl⟩ := List.mem_map.1 hu
  rfl
theorem Own.ne_bk {w : World} {e : TypeId} {v : Value} {xs : List Value} {g : Nat} {t : TypeId} {cs : Array Value} (h : Own w e v xs) (hb : Bk w g t cs) (hne : e ≠ t) : v.ownBlock ≠ some g := by
  obtain ⟨A, cap, rfl, -, -, ⟨rfl, -⟩ | ⟨g', off, cur, rfl, hg, -⟩⟩ := h
  · simp [Value.ownBlock]
  · intro hk
    simp [Value.ownBlock] at hk
    subst hk
    exact Bk.ne_ (g := g') (cs := cur) hg hb hne rfl
def OwnL (w : World) (v : Value) (l : List (List UInt8)) : Prop := Own w 9 v (strVals l)
theorem OwnL.val {w : World} {v : Value} {l : List (List UInt8)} (h : OwnL w v l) : ∃ A cap, v = .slice A l.length cap ∧ l.length ≤ cap ∧ cap ≤ maxLen ∧ At w A (strVals l) ∧ (A = none → cap = 0) := by
  obtain ⟨A, cap, rfl, h1, h2, h3, h4, -⟩ := Own.at_ h
  rw [strVals_length] at h2
  exact ⟨A, cap, by rw [strVals_length], h2, h3, h1, h4⟩
theorem OwnL.cell {w : World} {A : Option Addr} {n c : Nat} {l : List (List UInt8)} (h : OwnL w (.slice A n c) l) {j : Nat} (hj : j < l.length) : ∃ b off, A = some ⟨b, off, none⟩ ∧ w.cell? ⟨b, off + j, none⟩ = some (.string ⟨(l.getD j []).toArray⟩) := by
  obtain ⟨A', cap, hv, h1, h2, h3⟩ := h
  injection hv with e1 e2 e3
  subst e1
  rcases h3 with ⟨rfl, h3⟩ | ⟨g, off, cur, rfl, hg, h4, h5⟩
  · rw [strVals_length] at h1; omega
  · refine ⟨g, off, rfl, ?_⟩
    have hb : Bk w g 9 cur := hg
    rw [hb.cell]
    have := strVals_get l hj
    rw [← h5, strVals_length, List.getElem?_take, if_pos hj, List.getElem?_drop] at this
    simpa using this
theorem strParts : ∃ i, Tryd.prog.info? 9 = some i ∧ i.zero = some (.string ByteArray.empty) ∧ i.size = 1 ∧ i.bytes = 16 := info_parts (by kernel_rfl)
theorem one_str (w : World) (x : Value) : At (w.alloc (.cells #[x] 9)) (some ⟨w.heap.size, 0, none⟩) [x] :=
  At.of_bk (n := 1) (xs := [x]) (Bk.new w 9 #[x]) (by simp)
theorem splitB_list (s sep : List UInt8) (k : Nat) : ((Lib.splitB ⟨sep.toArray⟩ 0 k ⟨s.toArray⟩).map Value.string) = strVals (Lib.splitK sep 0 k s) := by
  have h := Lib.splitB_data ⟨sep.toArray⟩ 0 k ⟨s.toArray⟩
  simp only at h
  have e : ∀ l : List ByteArray, l.map Value.string = strVals (l.map (·.data.toList)) := by
    intro l
    induction l with
    | nil => rfl
    | cons a r ih =>
      simp only [List.map_cons, strVals] at ih ⊢
      rw [ih, ← ba_of]
  rw [e, h]
theorem countB_list (s sep : List UInt8) : Lib.countB ⟨s.toArray⟩ ⟨sep.toArray⟩ = Lib.count s sep := by
  unfold Lib.countB
  simp
theorem split_any {w : World} (hg : GlobOk w) (s : List UInt8) (c : UInt8) (hs : s.length < 4294967281) :
    Calls Tryd.prog 14 #[.string ⟨s.toArray⟩, .string ⟨#[c]⟩] w fun e w' => ∃ v, e = .returned v ∧ OwnL w' v (cutG c s []) ∧ Fr [] w w' := by
  obtain ⟨m, hm⟩ := hg
  have h := Tryd.strings_Split ⟨s.toArray⟩ ⟨[c].toArray⟩ m w (by rw [ba_size]; exact hs) hm (by rw [ba_size]; simp)
  rw [countB_list, splitB_list, cutG_split c s.length s (Nat.le_refl _)] at h
  refine h.mono fun e w' ⟨he, hw⟩ => ⟨_, he, ?_, by rw [hw]; exact (Fr.refl _ _).alloc _⟩
  have hlen : (cutG c s []).length = Lib.count s [c] + 1 := by
    have h1 := Lib.splitB_all ⟨[c].toArray⟩ (by rw [ba_size]; simp) 0 (Lib.count s [c]) ⟨s.toArray⟩ (by rw [countB_list])
    have h2 := congrArg List.length (splitB_list s [c] (Lib.count s [c]))
    rw [List.length_map, h1, strVals_length, cutG_split c s.length s (Nat.le_refl _)] at h2
    exact h2.symm
  have hle := cutG_len c s []
  rw [hw]
  unfold OwnL
  have hsz : (strVals (cutG c s [])).length = Lib.count s [c] + 1 := by rw [strVals_length, hlen]
  exact ⟨_, _, by rw [hsz], by rw [hsz]; exact Nat.le_refl _, by unfold maxLen; omega, .inr ⟨w.heap.size, 0, _, rfl, Bk.new w _ _, by simp [hsz], by simp⟩⟩
theorem cut_any {w : World} (hg : GlobOk w) (s : List UInt8) (c : UInt8) (hs : s.length < 4294967281) :
    Calls Tryd.prog 5 #[.string ⟨s.toArray⟩, .int .u8 (c.toNat : Int)] w fun e w' => ∃ v, e = .returned v ∧ OwnL w' v (cutM s c) ∧ Fr [] w w' := by
  unfold cutM
  by_cases h0 : s = []
  · subst h0
    rw [if_pos rfl]
    go_enter Tryd.func5, Tryd.ntmps5
    go_wp2_with fail
    go_ret
    exact ⟨_, rfl, Own.nil_ _ _, Fr.refl _ _⟩
  rw [if_neg h0]
  have t0 : (s == ([] : List UInt8)) = false := beq_eq_false_iff_ne.2 h0
  have HG := Lib.hid hg
  clear hg
  go_enter Tryd.func5, Tryd.ntmps5
  go_wp2_with (refine wpList_str rfl 27 9 (.tmp 9) rfl 5 Tryd.underlying27 Tryd.underlying5 Tryd.underlying9 (some ⟨w.heap.size, 0, none⟩) 1 1 (by rfl) [c] (At.of_bk (n := 1) (xs := byteVals [c]) (Bk.new w 5 #[.int .u8 (c.toNat : Int)]) (by simp [byteVals])) rfl ?_)
  go_at_call 14
  have hf0 : Fr [] w (w.alloc (.cells #[.int .u8 (c.toNat : Int)] 5)) := (Fr.refl _ _).alloc _
  refine (split_any (HG.out.fr hf0) s c hs).mono ?_
  rintro e w2 ⟨v, rfl, ho, hf⟩
  have HO := Lib.hid ho; have HF := Lib.hid (hf0.trans hf)
  clear ho hf hf0
  go_wp2_with fail
  go_ret
  exact ⟨v, rfl, HO.out, HF.out⟩

def SplRel (w0 : World) (s : List UInt8) (v3 v4 v5 : Value) (wr : World) : Prop :=
  ∃ (i b : Nat) (l : List (List UInt8)), v4 = .int .i64 (b : Int) ∧ v5 = .int .i64 (i : Int) ∧ OwnL wr v3 l ∧ (∀ g, v3.ownBlock = some g → w0.heap.size ≤ g) ∧ Fr [] w0 wr ∧ i ≤ s.length + 1 ∧ b ≤ i ∧ l.length ≤ i ∧
    (i ≤ s.length → l ++ splG (s.drop i) ((s.drop b).take (i - b)) = splM s) ∧ (i = s.length + 1 → l = splM s)
theorem splG_next (s : List UInt8) (i b : Nat) (hi : i < s.length) (hb : b ≤ i) (hc : isBl (s.getD i 0) = false) (l : List (List UInt8)) : l ++ splG (s.drop i) ((s.drop b).take (i - b)) = l ++ splG (s.drop (i + 1)) ((s.drop b).take (i + 1 - b)) := by
  have e : s.drop i = s.getD i 0 :: s.drop (i + 1) := by rw [List.getD_eq_getElem?_getD, List.getElem?_eq_getElem hi]; simp
  have e2 : (s.drop b).take (i + 1 - b) = (s.drop b).take (i - b) ++ [s.getD i 0] := by
    rw [show i + 1 - b = i - b + 1 by omega, List.take_add_one]
    congr 1
    rw [List.getElem?_drop, show b + (i - b) = i by omega, List.getElem?_eq_getElem hi, List.getD_eq_getElem?_getD, List.getElem?_eq_getElem hi]
    rfl
  rw [e2]
  conv => lhs; rw [e, splG, if_neg (by rw [hc]; simp)]
theorem splG_stop (s : List UInt8) (i b : Nat) (hi : i < s.length) (hc : isBl (s.getD i 0) = true) : splG (s.drop i) ((s.drop b).take (i - b)) = (if (s.drop b).take (i - b) = [] then [] else [(s.drop b).take (i - b)]) ++ splG (s.drop (i + 1)) [] := by
  have e : s.drop i = s.getD i 0 :: s.drop (i + 1) := by rw [List.getD_eq_getElem?_getD, List.getElem?_eq_getElem hi]; simp
  conv => lhs; rw [e]
  rw [splG, if_pos hc]
theorem idx_str (s : List UInt8) (i : Nat) (hi : i < s.length) : ∀ W, (Instr.index 9 (.string ⟨s.toArray⟩) (.int .i64 (i : Int))).run Tryd.prog W = .ok (.int .u8 (((s.getD i 0).toNat : Nat) : Int)) W := by
  intro W
  rw [run_index_string W 9 ⟨s.toArray⟩ .i64 (i : Int) Tryd.underlying9, dif_pos ⟨by omega, by rw [ba_size]; omega⟩]
  have e : ((⟨s.toArray⟩ : ByteArray)[(i : Int).toNat]'(by rw [ba_size]; omega)) = s.getD i 0 := by
    have e1 : (i : Int).toNat = i := by omega
    simp only [e1]
    rw [List.getD_eq_getElem?_getD, List.getElem?_eq_getElem hi]
    rfl
  rw [e]
set_option maxRecDepth 100000 in
set_option maxHeartbeats 2000000 in
theorem wsplit_any (w : World) (s : List UInt8) (hs : s.length ≤ 1000000000) : Calls Tryd.prog 7 #[.string ⟨s.toArray⟩] w fun e w' => ∃ v, e = .returned v ∧ OwnL w' v (splM s) ∧ Fr [] w w' := by
  obtain ⟨i0, hi0, hz0, hz1, hz2⟩ := strParts
  go_enter Tryd.func7, Tryd.ntmps7
  go_wp2_with fail
  go_loopw [3, 4, 5] (SplRel w s) (fun _ _ v5 _ => s.length + 1 - (intOf v5).toNat)
  case atStart => exact ⟨0, 0, [], rfl, rfl, Own.nil_ _ _, by simp [Value.ownBlock], Fr.refl _ _, by omega, by omega, by simp, fun _ => by simp [splM], fun h => by omega⟩
  case round =>
    obtain ⟨i, b, l, rfl, rfl, ho, hfr, hf, hi, hb, hll, hq1, hq2⟩ := hrel
    obtain ⟨A, cap, hv, hl1, hl2, -, -⟩ := OwnL.val ho
    subst hv
    have HFR := Lib.hid hfr; clear hfr
    have HO := Lib.hid ho; have HF := Lib.hid hf; have HQ1 := Lib.hid hq1; have HQ2 := Lib.hid hq2
    clear ho hf hq1 hq2
    unfold maxLen at hl2
    by_cases hlt : i < s.length
    · obtain ⟨m, hm⟩ : ∃ m, (s.getD i 0).toNat = m := ⟨_, rfl⟩
      have hidx := idx_str s i hlt
      rw [hm] at hidx
      by_cases hbl : isBl (s.getD i 0) = false
      · have hne : m ≠ 9 ∧ m ≠ 10 ∧ m ≠ 32 := by
          subst hm
          unfold isBl at hbl
          simp only [Bool.or_eq_false_iff, beq_eq_false_iff_ne] at hbl
          obtain ⟨⟨q1, q2⟩, q3⟩ := hbl
          exact ⟨fun e => q1 (UInt8.toNat_inj.1 e), fun e => q2 (UInt8.toNat_inj.1 e), fun e => q3 (UInt8.toNat_inj.1 e)⟩
        have t1 : ((m : Int) != 9) = true := by simp; omega
        have t2 : ((m : Int) != 10) = true := by simp; omega
        have t3 : ((m : Int) != 32) = true := by simp; omega
        have HBL := Lib.hid hbl; clear hbl hne hm
        go_wp2_with fail
        go_roundw
        case rel => exact ⟨i + 1, b, l, rfl, by go_num, HO.out, HFR.out, HF.out, by omega, by omega, by omega, fun _ => by rw [← splG_next s i b hlt hb HBL.out]; exact HQ1.out (by omega), fun h => by omega⟩
        case measure => first | (simp [intOf]; done) | (simp [intOf]; omega)
      · have hbl' : isBl (s.getD i 0) = true := by simpa using hbl
        have hne : m = 9 ∨ m = 10 ∨ m = 32 := by
          subst hm
          unfold isBl at hbl'
          simp only [Bool.or_eq_true, beq_iff_eq] at hbl'
          rcases hbl' with (q | q) | q <;> rw [q] <;> simp
        have HBL := Lib.hid hbl'; clear hbl hbl' hm
        by_cases hib : b < i
        · have hne2 : (s.drop b).take (i - b) ≠ [] := by intro e; have := congrArg List.length e; rw [List.length_take, List.length_drop] at this; simp at this; omega
          have HN2 := Lib.hid hne2; clear hne2
          rcases hne with rfl | rfl | rfl
          all_goals
            go_wp2_with (at_builtin; refine wpList_append_OwnS rfl (.tmp 37) (.tmp 42) 23 rfl 9 i0 _ Tryd.underlying23 hi0 hz0 hz1 rfl (.slice A l.length cap) (strVals l) l.length (strVals_length l) (by rfl) (Own.fr HO.out ((Fr.refl [] wr).alloc _) (by simp)) (some ⟨wr.heap.size, 0, none⟩) 1 1 (by rfl) [.string ((⟨s.toArray⟩ : ByteArray).extract b i)] (one_str wr _) rfl (by simp [Value.oneCell']) (by unfold maxLen; omega) (by rw [hz2]; omega) ?_; intro A5 c5 w5 ho5 hg5 hl5; have HO5 := Lib.hid ho5; have HG5 := Lib.hid hg5; have HL5 := Lib.hid hl5; clear ho5 hg5 hl5)
            have hoL : OwnL w5 (.slice A5 (l.length + 1) c5) (l ++ [(s.drop b).take (i - b)]) := by have := HO5.out; rw [ba_extract] at this; unfold OwnL; rw [strVals_append]; exact this
            have hfr5 : Fr [] w w5 := (HF.out.trans ((Fr.refl [] wr).alloc _)).grown HG5.out (fun g hg => .inr (HFR.out g hg))
            have hnew : ∀ g, (Value.slice A5 (l.length + 1) c5).ownBlock = some g → w.heap.size ≤ g := fun g hg => by
              rcases HL5.out with e | e
              · exact HFR.out g (by rw [← e]; exact hg)
              · rw [hg] at e; injection e with e; have := HF.out.size; simp at e; omega
            have HOL := Lib.hid hoL; have HFR5 := Lib.hid hfr5; have HNEW := Lib.hid hnew
            clear hoL hfr5 hnew
            go_wp2_with fail
            go_roundw
            case rel => exact ⟨i + 1, i + 1, _, by go_num, by go_num, HOL.out, HNEW.out, HFR5.out, by omega, by omega, by simp; omega, fun h => by
              have := HQ1.out (by omega)
              rw [splG_stop s i b hlt HBL.out, if_neg HN2.out, ← List.append_assoc] at this
              simpa using this, fun h => by omega⟩
            case measure => first | (simp [intOf]; done) | (simp [intOf]; omega)
        · obtain rfl : b = i := by omega
          rcases hne with rfl | rfl | rfl
          all_goals
            go_wp2_with fail
            go_roundw
            case rel => exact ⟨b + 1, b + 1, l, by go_num, by go_num, HO.out, HFR.out, HF.out, by omega, by omega, by omega, fun h => by
              have := HQ1.out (by omega)
              rw [splG_stop s b b hlt HBL.out] at this
              simpa using this, fun h => by omega⟩
            case measure => first | (simp [intOf]; done) | (simp [intOf]; omega)
    · by_cases hend : i = s.length
      · have hdr : s.drop i = [] := List.drop_eq_nil_of_le (by omega)
        have hq := HQ1.out (by omega)
        rw [hdr] at hq
        by_cases hib : b < i
        · have hne2 : (s.drop b).take (i - b) ≠ [] := by intro e; have := congrArg List.length e; rw [List.length_take, List.length_drop] at this; simp at this; omega
          rw [splG, if_neg hne2] at hq
          have HQ := Lib.hid hq; clear hq hne2 hdr
          subst hend
          go_wp2_with (at_builtin; refine wpList_append_OwnS rfl (.tmp 37) (.tmp 42) 23 rfl 9 i0 _ Tryd.underlying23 hi0 hz0 hz1 rfl (.slice A l.length cap) (strVals l) l.length (strVals_length l) (by rfl) (Own.fr HO.out ((Fr.refl [] wr).alloc _) (by simp)) (some ⟨wr.heap.size, 0, none⟩) 1 1 (by rfl) [.string ((⟨s.toArray⟩ : ByteArray).extract b s.length)] (one_str wr _) rfl (by simp [Value.oneCell']) (by unfold maxLen; omega) (by rw [hz2]; omega) ?_; intro A5 c5 w5 ho5 hg5 hl5; have HO5 := Lib.hid ho5; have HG5 := Lib.hid hg5; have HL5 := Lib.hid hl5; clear ho5 hg5 hl5)
          have hoL : OwnL w5 (.slice A5 (l.length + 1) c5) (l ++ [(s.drop b).take (s.length - b)]) := by have := HO5.out; rw [ba_extract] at this; unfold OwnL; rw [strVals_append]; exact this
          have hfr5 : Fr [] w w5 := (HF.out.trans ((Fr.refl [] wr).alloc _)).grown HG5.out (fun g hg => .inr (HFR.out g hg))
          have hnew : ∀ g, (Value.slice A5 (l.length + 1) c5).ownBlock = some g → w.heap.size ≤ g := fun g hg => by
            rcases HL5.out with e | e
            · exact HFR.out g (by rw [← e]; exact hg)
            · rw [hg] at e; injection e with e; have := HF.out.size; simp at e; omega
          have HOL := Lib.hid hoL; have HFR5 := Lib.hid hfr5; have HNEW := Lib.hid hnew
          clear hoL hfr5 hnew
          go_wp2_with fail
          go_roundw
          case rel => exact ⟨s.length + 1, s.length + 1, _, by go_num, by go_num, HOL.out, HNEW.out, HFR5.out, by omega, by omega, by simp; omega, fun h => by omega, fun _ => HQ.out⟩
          case measure => first | (simp [intOf]; done) | (simp [intOf]; omega)
        · obtain rfl : b = i := by omega
          have e0 : (s.drop b).take (b - b) = [] := by simp
          rw [e0, splG, if_pos rfl, List.append_nil] at hq
          have HQ := Lib.hid hq; clear hq hdr e0
          subst hend
          go_wp2_with fail
          go_roundw
          case rel => exact ⟨s.length + 1, s.length + 1, l, by go_num, by go_num, HO.out, HFR.out, HF.out, by omega, by omega, by omega, fun h => by omega, fun _ => HQ.out⟩
          case measure => first | (simp [intOf]; done) | (simp [intOf]; omega)
      · have hq := HQ2.out (by omega)
        have hfin : OwnL wr (.slice A l.length cap) (splM s) := by rw [← hq]; exact HO.out
        have HFIN := Lib.hid hfin; clear hq hfin
        go_wp2_with fail
        go_ret
        exact ⟨_, rfl, HFIN.out, HF.out⟩
end Go.Proofs.YteofhjegaaoglaaDoor
namespace Go.Proofs.YteofhjegaaoglaaDoor
open Go.RowKit
set_option linter.unusedVariables false
set_option linter.unusedSimpArgs false

theorem OwnL.fr_nil {w w' : World} {v : Value} {l : List (List UInt8)} (h : OwnL w v l) (hf : Fr [] w w') : OwnL w' v l := Own.fr h hf (by simp)
def RsRel (w : World) (s : List UInt8) (F : List UInt8 → List UInt8 → List (List UInt8)) (R : List (List UInt8)) (v3 v4 v5 : Value) (wr : World) : Prop := ∃ (i : Nat) (l : List (List UInt8)) (cur : List UInt8) (A : Option Addr) (cap : Nat),
  v5 = .int .i64 (i : Int) ∧ v4 = .string ⟨cur.toArray⟩ ∧ v3 = .slice A l.length cap ∧ OwnL wr (.slice A l.length cap) l ∧ (∀ g, (Value.slice A l.length cap).ownBlock = some g → w.heap.size ≤ g) ∧ Fr [] w wr ∧ i ≤ s.length ∧ l.length ≤ i ∧ cur.length ≤ i ∧ l ++ F (s.drop i) cur = R
theorem ext_one {s : List UInt8} {i : Nat} {x : UInt8} (h : s[i]? = some x) : (⟨s.toArray⟩ : ByteArray).extract i (i + 1) = ⟨[x].toArray⟩ := by
  obtain ⟨h1, h2⟩ := List.getElem?_eq_some_iff.1 h
  rw [ba_extract, List.drop_eq_getElem_cons h1, h2, Nat.add_sub_cancel_left]; rfl
theorem getD_of {s : List UInt8} {i : Nat} {x : UInt8} (h : s[i]? = some x) : s.getD i 0 = x := by rw [List.getD_eq_getElem?_getD, h]; rfl
set_option maxRecDepth 100000 in
set_option maxHeartbeats 4000000 in
theorem rsplit7_any (w : World) (s : List UInt8) (hs : s.length ≤ 1000) : Calls Tryd.prog 8 #[.string ⟨s.toArray⟩] w fun e w' => ∃ v, e = .returned v ∧ OwnL w' v (splM s) ∧ Fr [] w w' := by
  obtain ⟨i0, hi0, hz0, hz1, hz2⟩ := strParts
  obtain ⟨S, hS⟩ : ∃ S, S = (⟨s.toArray⟩ : ByteArray) := ⟨_, rfl⟩
  obtain ⟨n, hn⟩ : ∃ n, n = s.length := ⟨_, rfl⟩
  have hs1 : S.size = n := by rw [hS, hn]; simp [ByteArray.size]
  have hidx0 : ∀ (i : Nat) (x : UInt8), s[i]? = some x → ∀ W, (Instr.index 9 (.string S) (.int .i64 (i : Int))).run Tryd.prog W = .ok (.int .u8 ((x.toNat : Nat) : Int)) W := fun i x h W => by
    have h1 := idx_str s i (List.getElem?_eq_some_iff.1 h).1 W
    rw [getD_of h] at h1
    rw [hS]; exact h1
  have hext0 : ∀ (i : Nat) (x : UInt8), s[i]? = some x → S.extract i (i + 1) = ⟨[x].toArray⟩ := fun i x h => by rw [hS]; exact ext_one h
  rw [← hS]
  rw [← hn] at hs
  have HS := Lib.hid hS; have HN := Lib.hid hn; have HIX := Lib.hid hidx0; have HEX := Lib.hid hext0
  clear hS hn hidx0 hext0
  go_enter Tryd.func8, Tryd.ntmps8
  go_upto_region 4 with fail
  go_loopw [3, 4, 5] (fun v3 v4 v5 wr => RsRel w s splG (splM s) v3 v4 v5 wr) (fun _ _ v5 _ => n + 1 - (intOf v5).toNat)
  case atStart => exact ⟨0, [], [], none, 0, rfl, rfl, rfl, Own.nil_ _ _, by simp [Value.ownBlock], Fr.refl _ _, Nat.zero_le _, Nat.le_refl _, Nat.le_refl _, by simp [splM]⟩
  case round =>
    obtain ⟨i, l, cur, A, cap, rfl, rfl, rfl, ho, hfr, hf, hi, hll, hcl, hq⟩ := hrel
    have hin0 : i ≤ n := by rw [HN.out]; exact hi
    clear hi
    have HFR := Lib.hid hfr; have HO := Lib.hid ho; have HF := Lib.hid hf; have HQ := Lib.hid hq
    clear hfr ho hf hq
    obtain ⟨O, hO⟩ : ∃ O, O = (⟨cur.toArray⟩ : ByteArray) := ⟨_, rfl⟩
    obtain ⟨k, hk⟩ : ∃ k, k = l.length := ⟨_, rfl⟩
    have hos : O.size ≤ i := by rw [hO]; simpa [ByteArray.size] using hcl
    have HOS := Lib.hid hO; have HK := Lib.hid hk; have HCL := Lib.hid hcl
    rw [← hO, ← hk]
    rw [← hk] at HO HFR hll
    clear hO hk hcl
    have hne0 : cur ≠ [] → O.toList.isEmpty = false := fun h => by
      rw [HOS.out, ByteArray.toList_mk]; cases cur with
      | nil => exact absurd rfl h
      | cons x y => rfl
    have hemp : cur = [] → O = ⟨#[]⟩ := fun h => by rw [HOS.out, h]
    rcases Nat.lt_or_ge i n with hin | hin
    · have hinI : (i : Int) < (n : Int) := by omega
      obtain ⟨x, hx⟩ : ∃ x, s[i]? = some x := ⟨_, List.getElem?_eq_getElem (by have := HN.out; omega)⟩
      have hidx := HIX.out i x hx
      have hext := HEX.out i x hx
      have hq := HQ.out
      rw [splG_byte hx] at hq
      obtain ⟨m, hm⟩ : ∃ m, x.toNat = m := ⟨_, rfl⟩
      rw [hm] at hidx
      by_cases hbl : isBl x = true
      · rw [if_pos hbl] at hq
        have hne : m = 32 ∨ m = 9 ∨ m = 10 := by
          subst hm
          unfold isBl at hbl
          simp only [Bool.or_eq_true, beq_iff_eq] at hbl
          rcases hbl with (q | q) | q <;> rw [q] <;> simp
        by_cases hc0 : cur = []
        · rw [if_pos hc0, List.nil_append] at hq
          have hO0 := hemp hc0
          have HQ2 := Lib.hid hq
          clear hq hbl hm hext hx hemp hne0 HQ hc0
          subst hO0
          rcases hne with rfl | rfl | rfl
          all_goals
            go_wp2_with fail
            go_roundw
            case rel => exact ⟨i + 1, l, [], A, cap, by go_num, rfl, by rw [HK.out], by rw [← HK.out]; exact HO.out, by rw [← HK.out]; exact HFR.out, HF.out, by have := HN.out; omega, by have := HK.out; omega, by simp, HQ2.out⟩
            case measure => first | (simp [intOf]; done) | (simp [intOf]; omega)
        · rw [if_neg hc0] at hq
          have hO0 := hne0 hc0
          have HQ2 := Lib.hid hq
          clear hq hbl hm hext hx hemp hne0 HQ hc0
          rcases hne with rfl | rfl | rfl
          all_goals
            go_wp2_with (at_builtin; refine wpList_append_OwnS rfl (.tmp 30) (.tmp 32) 23 rfl 9 i0 _ Tryd.underlying23 hi0 hz0 hz1 rfl (.slice A k cap) (strVals l) k (by rw [strVals_length]; exact HK.out.symm) (by first | rfl | (simp [Act.eval]; done)) (Own.fr HO.out ((Fr.refl [] wr).alloc _) (by simp)) (some ⟨wr.heap.size, 0, none⟩) 1 1 (by first | rfl | (simp [Act.eval]; done)) [.string O] (one_str wr _) rfl (by simp [Value.oneCell']) (by unfold maxLen; omega) (by rw [hz2]; omega) ?_; intro A5 c5 w5 ho5 hg5 hl5; have HO5 := Lib.hid ho5; have HG5 := Lib.hid hg5; have HL5 := Lib.hid hl5; clear ho5 hg5 hl5)
            have hoL : OwnL w5 (.slice A5 (k + 1) c5) (l ++ [cur]) := by have := HO5.out; rw [HOS.out] at this; unfold OwnL; rw [strVals_append]; exact this
            have hfr5 : Fr [] w w5 := (HF.out.trans ((Fr.refl [] wr).alloc _)).grown HG5.out (fun g hg => .inr (HFR.out g hg))
            have hnew : ∀ g, (Value.slice A5 (k + 1) c5).ownBlock = some g → w.heap.size ≤ g := fun g hg => by
              rcases HL5.out with e | e
              · exact HFR.out g (by rw [← e]; exact hg)
              · rw [hg] at e; injection e with e; have := HF.out.size; simp at e; omega
            have HOL := Lib.hid hoL; have HFR5 := Lib.hid hfr5; have HNEW := Lib.hid hnew
            clear hoL hfr5 hnew
            go_wp2_with fail
            go_roundw
            case rel =>
              have el : (l ++ [cur]).length = k + 1 := by rw [List.length_append, ← HK.out]; rfl
              exact ⟨i + 1, l ++ [cur], [], A5, c5, by go_num, rfl, by rw [el], by rw [el]; exact HOL.out, by rw [el]; exact HNEW.out, HFR5.out, by have := HN.out; omega, by rw [el]; omega, by simp, by have h := HQ2.out; rw [← List.append_assoc] at h; exact h⟩
            case measure => first | (simp [intOf]; done) | (simp [intOf]; omega)
      · rw [if_neg hbl] at hq
        have hne : m ≠ 32 ∧ m ≠ 9 ∧ m ≠ 10 := by
          subst hm
          unfold isBl at hbl
          simp only [Bool.or_eq_true, beq_iff_eq, not_or] at hbl
          obtain ⟨⟨q1, q2⟩, q3⟩ := hbl
          exact ⟨fun e => q3 (UInt8.toNat_inj.1 e), fun e => q1 (UInt8.toNat_inj.1 e), fun e => q2 (UInt8.toNat_inj.1 e)⟩
        have t1 : ((m : Int) == 32) = false := beq_eq_false_iff_ne.2 (by omega)
        have t2 : ((m : Int) == 9) = false := beq_eq_false_iff_ne.2 (by omega)
        have t3 : ((m : Int) == 10) = false := beq_eq_false_iff_ne.2 (by omega)
        obtain ⟨E, hE⟩ : ∃ E, E = (⟨[x].toArray⟩ : ByteArray) := ⟨_, rfl⟩
        rw [← hE] at hext
        have hes : E.size = 1 := by rw [hE]; rfl
        have hnov : ¬ 9223372036854775807 < O.size + E.size := by omega
        have hcat : O ++ E = (⟨(cur ++ [x]).toArray⟩ : ByteArray) := by rw [HOS.out, hE, ba_append]
        have HQ2 := Lib.hid hq; have HCAT := Lib.hid hcat
        clear hq hbl hm hx hemp hne0 HQ hne hE hcat
        go_wp2_with fail
        go_roundw
        case rel => exact ⟨i + 1, l, cur ++ [x], A, cap, by go_num, by rw [HCAT.out], by rw [HK.out], by rw [← HK.out]; exact HO.out, by rw [← HK.out]; exact HFR.out, HF.out, by have := HN.out; omega, by have := HK.out; omega, by have := HCL.out; simp; omega, HQ2.out⟩
        case measure => first | (simp [intOf]; done) | (simp [intOf]; omega)
    · have hinI : ¬ ((i : Int) < (n : Int)) := by omega
      have hdr : s.drop i = [] := List.drop_of_length_le (by rw [← HN.out]; exact hin)
      have hq := HQ.out
      rw [hdr, splG] at hq
      by_cases hc0 : cur = []
      · rw [if_pos hc0, List.append_nil] at hq
        have hO0 := hemp hc0
        have HQ2 := Lib.hid hq
        clear hq hemp hne0 HQ hc0 hdr
        subst hO0
        go_wp2_with fail
        go_ret
        exact ⟨_, rfl, by rw [← HQ2.out]; exact HO.out, HF.out⟩
      · rw [if_neg hc0] at hq
        have hO0 := hne0 hc0
        have HQ2 := Lib.hid hq
        clear hq hemp hne0 HQ hc0 hdr
        go_wp2_with (at_builtin; refine wpList_append_OwnS rfl (.tmp 43) (.tmp 45) 23 rfl 9 i0 _ Tryd.underlying23 hi0 hz0 hz1 rfl (.slice A k cap) (strVals l) k (by rw [strVals_length]; exact HK.out.symm) (by first | rfl | (simp [Act.eval]; done)) (Own.fr HO.out ((Fr.refl [] wr).alloc _) (by simp)) (some ⟨wr.heap.size, 0, none⟩) 1 1 (by first | rfl | (simp [Act.eval]; done)) [.string O] (one_str wr _) rfl (by simp [Value.oneCell']) (by unfold maxLen; omega) (by rw [hz2]; omega) ?_; intro A5 c5 w5 ho5 hg5 hl5; have HO5 := Lib.hid ho5; have HG5 := Lib.hid hg5; have HL5 := Lib.hid hl5; clear ho5 hg5 hl5)
        have hoL : OwnL w5 (.slice A5 (k + 1) c5) (l ++ [cur]) := by have := HO5.out; rw [HOS.out] at this; unfold OwnL; rw [strVals_append]; exact this
        have hfr5 : Fr [] w w5 := (HF.out.trans ((Fr.refl [] wr).alloc _)).grown HG5.out (fun g hg => .inr (HFR.out g hg))
        have hnew : ∀ g, (Value.slice A5 (k + 1) c5).ownBlock = some g → w.heap.size ≤ g := fun g hg => by
          rcases HL5.out with e | e
          · exact HFR.out g (by rw [← e]; exact hg)
          · rw [hg] at e; injection e with e; have := HF.out.size; simp at e; omega
        have HOL := Lib.hid hoL; have HFR5 := Lib.hid hfr5; have HNEW := Lib.hid hnew
        clear hoL hfr5 hnew
        go_wp2_with fail
        go_ret
        exact ⟨_, rfl, by rw [← HQ2.out]; exact HOL.out, HFR5.out⟩
set_option maxRecDepth 100000 in
set_option maxHeartbeats 4000000 in
theorem rcut7_any (w : World) (s : List UInt8) (c : UInt8) (hs : s.length ≤ 1000) : Calls Tryd.prog 9 #[.string ⟨s.toArray⟩, .int .u8 (c.toNat : Int)] w fun e w' => ∃ v, e = .returned v ∧ OwnL w' v (cutM s c) ∧ Fr [] w w' := by
  obtain ⟨i0, hi0, hz0, hz1, hz2⟩ := strParts
  unfold cutM
  by_cases h0 : s = []
  · subst h0
    rw [if_pos rfl]
    go_enter Tryd.func9, Tryd.ntmps9
    go_wp2_with fail
    go_ret
    exact ⟨_, rfl, Own.nil_ _ _, Fr.refl _ _⟩
  rw [if_neg h0]
  obtain ⟨S, hS⟩ : ∃ S, S = (⟨s.toArray⟩ : ByteArray) := ⟨_, rfl⟩
  obtain ⟨n, hn⟩ : ∃ n, n = s.length := ⟨_, rfl⟩
  obtain ⟨cn, hcn⟩ : ∃ cn, c.toNat = cn := ⟨_, rfl⟩
  have hs1 : S.size = n := by rw [hS, hn]; simp [ByteArray.size]
  have hSne : S.toList.isEmpty = false := by
    rw [hS, ByteArray.toList_mk]; cases s with
    | nil => exact absurd rfl h0
    | cons x y => rfl
  have hidx0 : ∀ (i : Nat) (x : UInt8), s[i]? = some x → ∀ W, (Instr.index 9 (.string S) (.int .i64 (i : Int))).run Tryd.prog W = .ok (.int .u8 ((x.toNat : Nat) : Int)) W := fun i x h W => by
    have h1 := idx_str s i (List.getElem?_eq_some_iff.1 h).1 W
    rw [getD_of h] at h1
    rw [hS]; exact h1
  have hext0 : ∀ (i : Nat) (x : UInt8), s[i]? = some x → S.extract i (i + 1) = ⟨[x].toArray⟩ := fun i x h => by rw [hS]; exact ext_one h
  rw [← hS, hcn]
  rw [← hn] at hs
  have HS := Lib.hid hS; have HN := Lib.hid hn; have HIX := Lib.hid hidx0; have HEX := Lib.hid hext0; have HCN := Lib.hid hcn
  clear hS hn hidx0 hext0 h0 hcn
  go_enter Tryd.func9, Tryd.ntmps9
  go_upto_region 6 with fail
  clear hSne
  go_loopw [5, 6, 7] (fun v3 v4 v5 wr => RsRel w s (cutG c) (cutG c s []) v3 v4 v5 wr) (fun _ _ v5 _ => n + 1 - (intOf v5).toNat)
  case atStart => exact ⟨0, [], [], none, 0, rfl, rfl, rfl, Own.nil_ _ _, by simp [Value.ownBlock], Fr.refl _ _, Nat.zero_le _, Nat.le_refl _, Nat.le_refl _, by simp⟩
  case round =>
    obtain ⟨i, l, cur, A, cap, rfl, rfl, rfl, ho, hfr, hf, hi, hll, hcl, hq⟩ := hrel
    have hin0 : i ≤ n := by rw [HN.out]; exact hi
    clear hi
    have HFR := Lib.hid hfr; have HO := Lib.hid ho; have HF := Lib.hid hf; have HQ := Lib.hid hq
    clear hfr ho hf hq
    obtain ⟨O, hO⟩ : ∃ O, O = (⟨cur.toArray⟩ : ByteArray) := ⟨_, rfl⟩
    obtain ⟨k, hk⟩ : ∃ k, k = l.length := ⟨_, rfl⟩
    have hos : O.size ≤ i := by rw [hO]; simpa [ByteArray.size] using hcl
    have HOS := Lib.hid hO; have HK := Lib.hid hk; have HCL := Lib.hid hcl
    rw [← hO, ← hk]
    rw [← hk] at HO HFR hll
    clear hO hk hcl
    have hne0 : cur ≠ [] → O.toList.isEmpty = false := fun h => by
      rw [HOS.out, ByteArray.toList_mk]; cases cur with
      | nil => exact absurd rfl h
      | cons x y => rfl
    have hemp : cur = [] → O = ⟨#[]⟩ := fun h => by rw [HOS.out, h]
    rcases Nat.lt_or_ge i n with hin | hin
    · have hinI : (i : Int) < (n : Int) := by omega
      obtain ⟨x, hx⟩ : ∃ x, s[i]? = some x := ⟨_, List.getElem?_eq_getElem (by have := HN.out; omega)⟩
      have hidx := HIX.out i x hx
      have hext := HEX.out i x hx
      have hq := HQ.out
      rw [cutG_byte hx] at hq
      obtain ⟨m, hm⟩ : ∃ m, x.toNat = m := ⟨_, rfl⟩
      rw [hm] at hidx
      by_cases hbl : x = c
      · rw [if_pos hbl] at hq
        have hmc : m = cn := by rw [← hm, hbl, HCN.out]
        have t1 : ((m : Int) == (cn : Int)) = true := by rw [hmc]; simp
        have HQ2 := Lib.hid hq
        clear hq hbl hm hext hx hemp hne0 HQ
        subst hmc
        go_wp2_with (at_builtin; refine wpList_append_OwnS rfl (.tmp 21) (.tmp 23) 23 rfl 9 i0 _ Tryd.underlying23 hi0 hz0 hz1 rfl (.slice A k cap) (strVals l) k (by rw [strVals_length]; exact HK.out.symm) (by first | rfl | (simp [Act.eval]; done)) (Own.fr HO.out ((Fr.refl [] wr).alloc _) (by simp)) (some ⟨wr.heap.size, 0, none⟩) 1 1 (by first | rfl | (simp [Act.eval]; done)) [.string O] (one_str wr _) rfl (by simp [Value.oneCell']) (by unfold maxLen; omega) (by rw [hz2]; omega) ?_; intro A5 c5 w5 ho5 hg5 hl5; have HO5 := Lib.hid ho5; have HG5 := Lib.hid hg5; have HL5 := Lib.hid hl5; clear ho5 hg5 hl5)
        have hoL : OwnL w5 (.slice A5 (k + 1) c5) (l ++ [cur]) := by have := HO5.out; rw [HOS.out] at this; unfold OwnL; rw [strVals_append]; exact this
        have hfr5 : Fr [] w w5 := (HF.out.trans ((Fr.refl [] wr).alloc _)).grown HG5.out (fun g hg => .inr (HFR.out g hg))
        have hnew : ∀ g, (Value.slice A5 (k + 1) c5).ownBlock = some g → w.heap.size ≤ g := fun g hg => by
          rcases HL5.out with e | e
          · exact HFR.out g (by rw [← e]; exact hg)
          · rw [hg] at e; injection e with e; have := HF.out.size; simp at e; omega
        have HOL := Lib.hid hoL; have HFR5 := Lib.hid hfr5; have HNEW := Lib.hid hnew
        clear hoL hfr5 hnew
        go_wp2_with fail
        go_roundw
        case rel =>
          have el : (l ++ [cur]).length = k + 1 := by rw [List.length_append, ← HK.out]; rfl
          exact ⟨i + 1, l ++ [cur], [], A5, c5, by go_num, rfl, by rw [el], by rw [el]; exact HOL.out, by rw [el]; exact HNEW.out, HFR5.out, by have := HN.out; omega, by rw [el]; omega, by simp, by have h := HQ2.out; simpa using h⟩
        case measure => first | (simp [intOf]; done) | (simp [intOf]; omega)
      · rw [if_neg hbl] at hq
        have hmc : m ≠ cn := fun e => hbl (UInt8.toNat_inj.1 (by rw [hm, HCN.out, e]))
        have t1 : ((m : Int) == (cn : Int)) = false := beq_eq_false_iff_ne.2 (by omega)
        obtain ⟨E, hE⟩ : ∃ E, E = (⟨[x].toArray⟩ : ByteArray) := ⟨_, rfl⟩
        rw [← hE] at hext
        have hes : E.size = 1 := by rw [hE]; rfl
        have hnov : ¬ 9223372036854775807 < O.size + E.size := by omega
        have hcat : O ++ E = (⟨(cur ++ [x]).toArray⟩ : ByteArray) := by rw [HOS.out, hE, ba_append]
        have HQ2 := Lib.hid hq; have HCAT := Lib.hid hcat
        clear hq hbl hm hx hemp hne0 HQ hE hcat
        go_wp2_with fail
        go_roundw
        case rel => exact ⟨i + 1, l, cur ++ [x], A, cap, by go_num, by rw [HCAT.out], by rw [HK.out], by rw [← HK.out]; exact HO.out, by rw [← HK.out]; exact HFR.out, HF.out, by have := HN.out; omega, by have := HK.out; omega, by have := HCL.out; simp; omega, HQ2.out⟩
        case measure => first | (simp [intOf]; done) | (simp [intOf]; omega)
    · have hinI : ¬ ((i : Int) < (n : Int)) := by omega
      have hdr : s.drop i = [] := List.drop_of_length_le (by rw [← HN.out]; exact hin)
      have hq := HQ.out
      rw [hdr, cutG] at hq
      have HQ2 := Lib.hid hq
      clear hq hemp hne0 HQ hdr
      go_wp2_with (at_builtin; refine wpList_append_OwnS rfl (.tmp 32) (.tmp 34) 23 rfl 9 i0 _ Tryd.underlying23 hi0 hz0 hz1 rfl (.slice A k cap) (strVals l) k (by rw [strVals_length]; exact HK.out.symm) (by first | rfl | (simp [Act.eval]; done)) (Own.fr HO.out ((Fr.refl [] wr).alloc _) (by simp)) (some ⟨wr.heap.size, 0, none⟩) 1 1 (by first | rfl | (simp [Act.eval]; done)) [.string O] (one_str wr _) rfl (by simp [Value.oneCell']) (by unfold maxLen; omega) (by rw [hz2]; omega) ?_; intro A5 c5 w5 ho5 hg5 hl5; have HO5 := Lib.hid ho5; have HG5 := Lib.hid hg5; have HL5 := Lib.hid hl5; clear ho5 hg5 hl5)
      have hoL : OwnL w5 (.slice A5 (k + 1) c5) (l ++ [cur]) := by have := HO5.out; rw [HOS.out] at this; unfold OwnL; rw [strVals_append]; exact this
      have hfr5 : Fr [] w w5 := (HF.out.trans ((Fr.refl [] wr).alloc _)).grown HG5.out (fun g hg => .inr (HFR.out g hg))
      have hnew : ∀ g, (Value.slice A5 (k + 1) c5).ownBlock = some g → w.heap.size ≤ g := fun g hg => by
        rcases HL5.out with e | e
        · exact HFR.out g (by rw [← e]; exact hg)
        · rw [hg] at e; injection e with e; have := HF.out.size; simp at e; omega
      have HOL := Lib.hid hoL; have HFR5 := Lib.hid hfr5; have HNEW := Lib.hid hnew
      clear hoL hfr5 hnew
      go_wp2_with fail
      go_ret
      exact ⟨_, rfl, by rw [← HQ2.out]; exact HOL.out, HFR5.out⟩
set_option maxRecDepth 100000 in
set_option maxHeartbeats 4000000 in
theorem same7_any {w : World} {A B : Option Addr} {ca cb n : Nat} {l : List (List UInt8)} (hn : n = l.length) (hl : n ≤ 1000) (ha : OwnL w (.slice A n ca) l) (hb : OwnL w (.slice B n cb) l) :
    Calls Tryd.prog 6 #[.slice A n ca, .slice B n cb] w fun e w' => e = .returned (.bool true) ∧ Fr [] w w' := by
  have HA := Lib.hid ha; have HB := Lib.hid hb; have HN := Lib.hid hn
  clear ha hb hn
  go_enter Tryd.func6, Tryd.ntmps6
  go_upto_region 4 with fail
  go_loopw [5] (fun v5 wr => ∃ i : Nat, v5 = .int .i64 (i : Int) ∧ i ≤ n ∧ Fr [] w wr) (fun v5 _ => n + 1 - (intOf v5).toNat)
  case atStart => exact ⟨0, rfl, Nat.zero_le _, Fr.refl _ _⟩
  case round =>
    obtain ⟨i, rfl, hi, hfr⟩ := hrel
    have HFR := Lib.hid hfr
    clear hfr
    rcases Nat.lt_or_ge i n with hin | hin
    · have hinI : (i : Int) < (n : Int) := by omega
      obtain ⟨wd, hwd⟩ : ∃ wd, wd = wr.drew := ⟨_, rfl⟩
      have hfd : Fr [] w wd := by rw [hwd]; exact HFR.out.drew
      obtain ⟨AB, ao, rfl, e0⟩ := (OwnL.fr_nil HA.out hfd).cell (j := i) (by rw [← HN.out]; exact hin)
      obtain ⟨BB, bo, rfl, e1⟩ := (OwnL.fr_nil HB.out hfd).cell (j := i) (by rw [← HN.out]; exact hin)
      obtain ⟨S1, hS1⟩ : ∃ S, S = (⟨(l.getD i []).toArray⟩ : ByteArray) := ⟨_, rfl⟩
      rw [← hS1] at e0 e1
      have HFD := Lib.hid hfd
      clear hS1 hfd
      go_upto_region 6 with fail
      refine wp_region_M_ (G := fun a b => a = b) (S := fun W => W = wr.drew) ⟨fun _ => rfl, fun a b c h k => h.trans k, fun a b h k => k ▸ h, by kernel_rfl, fun _ _ d _ _ h => by cases d <;> exact h⟩ (by kernel_rfl) fun su => ?_
      have SU := Lib.hid su
      rw [← hwd]
      have HSz : Hid (wd = wd) := Lib.hid rfl
      rw [← hwd] at SU
      clear su hwd
      refine M_move (i := 0) _ SU.out rfl rfl (by kernel_rfl) HSz.out rfl ?_
      simp only [Act.put, Act.eval, PE]
      refine M_move (i := 1) _ SU.out rfl rfl (by kernel_rfl) HSz.out rfl ?_
      simp only [Act.put, Act.eval, PE]
      refine M_val (i := 2) (v := .pointer (some ⟨AB, ao + i, none⟩)) SU.out rfl (by kernel_rfl) HSz.out rfl (fun W hS => ?_) ?_
      · obtain rfl := hS
        go_simp
        try (first | done | rfl | omega | (exact IntWalk.i64_in _ (by omega)) | (simp; done) | (simp; omega))
      simp only [Act.put, PU]
      refine M_val (i := 3) (v := .string S1) SU.out rfl (by kernel_rfl) HSz.out rfl (fun W hS => ?_) ?_
      · obtain rfl := hS
        go_simp
        try (first | done | rfl | omega | (exact IntWalk.i64_in _ (by omega)) | (simp; done) | (simp; omega))
      simp only [Act.put, PU]
      refine M_move (i := 4) _ SU.out rfl rfl (by kernel_rfl) HSz.out rfl ?_
      simp only [Act.put, Act.eval, PE]
      refine M_move (i := 5) _ SU.out rfl rfl (by kernel_rfl) HSz.out rfl ?_
      simp only [Act.put, Act.eval, PE]
      refine M_val (i := 6) (v := .pointer (some ⟨BB, bo + i, none⟩)) SU.out rfl (by kernel_rfl) HSz.out rfl (fun W hS => ?_) ?_
      · obtain rfl := hS
        go_simp
        try (first | done | rfl | omega | (exact IntWalk.i64_in _ (by omega)) | (simp; done) | (simp; omega))
      simp only [Act.put, PU]
      refine M_val (i := 7) (v := .string S1) SU.out rfl (by kernel_rfl) HSz.out rfl (fun W hS => ?_) ?_
      · obtain rfl := hS
        go_simp
        try (first | done | rfl | omega | (exact IntWalk.i64_in _ (by omega)) | (simp; done) | (simp; omega))
      simp only [Act.put, PU]
      refine M_val (i := 8) (v := .bool false) SU.out rfl (by kernel_rfl) HSz.out rfl (fun W hS => ?_) ?_
      · obtain rfl := hS
        go_simp
        try (first | done | rfl | omega | (exact IntWalk.i64_in _ (by omega)) | (simp; done) | (simp; omega))
      simp only [Act.put, PU]
      refine wpAnyM_done (by kernel_rfl) (fun w' hG => ?_)
      obtain rfl := hG
      go_wp2_with fail
      go_roundw
      case rel => exact ⟨i + 1, by go_num, by omega, HFD.out⟩
      case measure => first | (simp [intOf]; done) | (simp [intOf]; omega)
    · have hinI : ¬ ((i : Int) < (n : Int)) := by omega
      go_wp2_with fail
      go_ret
      exact ⟨rfl, HFR.out⟩
end Go.Proofs.YteofhjegaaoglaaDoor
