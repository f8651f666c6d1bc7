/-
  lex.All. No conditions on the program.
-/
import Derived.Test.YtjfgopihfgljmaaDoorLex13
import Derived.Test.YtjfgopihfgljmaaDoorLexT
namespace Go.Proofs.YtjfgopihfgljmaaDoor
open Go.RowKit
set_option linter.unusedVariables false
set_option linter.unusedSimpArgs false

theorem tokParts : ∃ i, Tryd.prog.info? 43 = some i ∧ i.zero = some (.agg #[.int .i64 0, .int .i64 0, .string ⟨#[]⟩, .bool false, .int .u64 0, .int .u64 0]) ∧ i.size = 6 ∧ i.bytes = 56 := info_parts (by kernel_rfl)
theorem Toks.fr {l : List Nat} {w w' : World} {L : Value} {ts : List Tk} (h : Toks w L ts) (hf : Fr l w w') (hn : ∀ k, L.ownBlock = some k → k ∉ l) : Toks w' L ts := by
  obtain ⟨q1, q2 | ⟨gg, cap, cur, q3, q4, q5, q6⟩⟩ := h
  · exact ⟨q1, .inl q2⟩
  · exact ⟨q1, .inr ⟨gg, cap, cur, q3, q4, Bk.fr (g := gg) (t := 43) (cs := cur) q5 hf (hn gg (by rw [q3]; rfl)), q6⟩⟩
theorem Toks.lt {w : World} {L : Value} {ts : List Tk} (h : Toks w L ts) : ∀ k, L.ownBlock = some k → k < w.heap.size := by
  obtain ⟨q1, ⟨rfl, -⟩ | ⟨gg, cap, cur, rfl, q4, q5, q6⟩⟩ := h
  · intro k hk; simp [Value.ownBlock] at hk
  · intro k hk
    simp [Value.ownBlock] at hk
    subst hk
    exact Bk.lt (g := gg) (t := 43) (cs := cur) q5
theorem Toks.ne_ {w : World} {L : Value} {ts : List Tk} (h : Toks w L ts) {g : Nat} {t : TypeId} {cs : Array Value} (hb : Bk w g t cs) (ht : t ≠ 43) : L.ownBlock ≠ some g := by
  obtain ⟨q1, ⟨rfl, -⟩ | ⟨gg, cap, cur, rfl, q4, q5, q6⟩⟩ := h
  · simp [Value.ownBlock]
  · intro hk
    simp [Value.ownBlock] at hk
    subst hk
    exact hb.ne_ (g' := gg) (t' := 43) (cs' := cur) q5 ht rfl
section
variable {P : Program}
/-- 'append' of a row's items to a row of the call's own, at one operation, in a region that draws. -/
theorem wp_append_R {o : Oper} {a : Act} {w : World} {K : Act → World → Prop} {Q : Exit → Act → World → Prop} (s x : Operand) (t : TypeId)
    (ho : o.op = .call { callee := .builtin .append, args := #[s, x], argTypes := #[t, t] })
    (base : Nat) (e : TypeId) (i : TypeInfo) (z : Value) (size bytes : Nat) (ht : P.underlying t = some (.slice e)) (hi : P.info? e = some i) (hz : i.zero = some z)
    (hsize : i.size = size) (hby : i.bytes = bytes) (hzs : z.cells.size = size) (hsz : 0 < size)
    (v : Value) (n : Nat) (xs : List Value) (hs : a.eval s = v) (hown : w.ownsRow base e size v n xs)
    (ad : Addr) (m c : Nat) (news : List Value) (hx : a.eval x = .slice (some ad) m c) (hl : news.length = m * size) (hnews : ∀ j u, news[j]? = some u → w.cell? (ad.add j) = some u) (h1 : ∀ u ∈ news, u.oneCell' = true)
    (h63 : n + m ≤ maxLen) (hbytes : (n + m) * bytes ≤ 140737488355328) (hbase : base ≤ w.heap.size)
    (hK : ∀ v' w', w'.ownsRow base e size v' (n + m) (xs ++ news) → w.grownBy w' v.ownBlock → (v'.ownBlock = v.ownBlock ∨ v'.ownBlock = some w.heap.size) → K (a.put o.dst v') w') :
    o.wp P a w K Q := by
  obtain ⟨v', w', hr, h2, h3, -, h5⟩ := run_append_own_at (P := P) w base t o.type e i z size bytes ht hi hz hsize hby hzs hsz v n xs hown ad m c news hl hnews h1 h63 hbytes hbase
  unfold Oper.wp execOp
  simp only [ho, resolve, invoke, builtin, Sem.run_bind, Sem.run_pure, Result.andThen_ok, List.map_toArray, List.map_cons, List.map_nil, hs, hx, hr]
  exact hK _ _ h2 h3 h5
end
/-- The answer so far, put ahead of what is to come. -/
def joinT (ts : List Tk) (r : Except (Nat × Nat) (List Tk)) : Except (Nat × Nat) (List Tk) := match r with
  | .ok l => .ok (ts ++ l)
  | .error e => .error e
theorem joinT_nil (r : Except (Nat × Nat) (List Tk)) : joinT [] r = r := by cases r <;> rfl
theorem joinT_join (ts us : List Tk) (r : Except (Nat × Nat) (List Tk)) : joinT ts (joinT us r) = joinT (ts ++ us) r := by cases r <;> simp [joinT]
theorem round_M {n : Nat} {op : Bool} {p : Nat} {s : List UInt8} {k : Nat} {t : List UInt8} {v m : Nat} (h : nextM op s = .ok (k, t, v, m)) (hs : s ≠ []) :
    lexT (n + 1) op p s = joinT [⟨k, p, t, v⟩] (lexT n (operM k t) (p + m + skipM (s.drop m)) ((s.drop m).drop (skipM (s.drop m)))) := by
  rw [← lexM_succ]
  cases s with
  | nil => exact absurd rfl hs
  | cons c r =>
    unfold lexT
    simp only [h]
    cases lexM (n + 1) (operM k t) (p + m) (List.drop m (c :: r)) <;> rfl
theorem lastOp_snoc (ts : List Tk) (t : Tk) : lastOp (ts ++ [t]) = operM t.k t.s := by unfold lastOp; rw [List.getLast?_append]; rfl
/-- What 'All' answers. -/
def AllPost (w : World) (src : List UInt8) (e : Ending) (w' : World) : Prop :=
  match lexAllM src with
  | .ok ts => ∃ L, e = .returned (.tuple #[L, .nilIface]) ∧ Toks w' L ts ∧ (∀ k, L.ownBlock = some k → w.heap.size ≤ k) ∧ Fr [] w w'
  | .error (code, p) => ∃ b, e = .returned (.tuple #[.slice none 0 0, .iface 34 (.pointer (some ⟨b, 0, none⟩))]) ∧ fltV w' (.iface 34 (.pointer (some ⟨b, 0, none⟩))) p code ∧ Fr [] w w'
set_option maxRecDepth 100000 in
set_option maxHeartbeats 4000000 in
theorem all_any {w : World} {A : Option Addr} {c : Nat} {src : List UInt8} (h : Bytes w A src) (hc : src.length ≤ c) (hA : A = none → c = 0) :
    Calls Tryd.prog 5 #[.slice A src.length c] w (AllPost w src) := by
  by_cases hbig : 16384 < src.length
  · have hm : lexAllM src = .error (5, 0) := by unfold lexAllM; rw [if_pos hbig]
    have HM := Lib.hid hm
    clear h hm hA
    go_enter Tryd.func5, Tryd.ntmps5
    go_wp2_with fail
    go_at_call 11
    refine (fault_any 0 5 w).mono ?_
    rintro e w1 ⟨b, rfl, hfl, hf⟩
    have HFL := Lib.hid hfl; have HF := Lib.hid hf; clear hfl hf
    go_wp2_with fail
    go_ret2
    unfold AllPost
    rw [HM.out]
    exact ⟨b, rfl, HFL.out, HF.out⟩
  have hm : lexAllM src = lexT src.length true (0 + skipM src) (src.drop (skipM src)) := by unfold lexAllM; rw [if_neg hbig, lexM_succ]
  have HM := Lib.hid hm
  obtain ⟨g, hge⟩ : ∃ g, g = w.heap.size := ⟨_, rfl⟩
  have hR : Rdr (w.alloc (.cells #[.slice A src.length c, .int .i64 0, .slice none 0 0] 54)) g A c src 0 (.slice none 0 0) := by
    refine ⟨by rw [hge]; exact Bk.new w _ _, h.fr_nil ((Fr.refl [] w).alloc _), ?_, hc, hA, by omega, by omega⟩
    intro hne a ha
    rcases h with h | ⟨a', ha', hlt, -⟩
    · exact absurd (List.eq_nil_of_length_eq_zero (by rw [← byteVals_length, h]; rfl)) hne
    · rw [ha'] at ha; injection ha with ha; rw [← ha, hge]; exact hlt
  have HR := Lib.hid hR; have HGE := Lib.hid hge
  clear h hm hR hA hge
  go_enter Tryd.func5, Tryd.ntmps5
  go_wp2_with fail
  go_at_call 12
  rw [← HGE.out]
  refine (pass_any HR.out).mono ?_
  rintro e w1 ⟨rfl, hr1, hf1⟩
  rw [List.drop_zero] at hr1
  have hR1 : Rdr w1 g A c src (0 + skipM src) (.slice none 0 0) := hr1
  have hF1 : Fr [] w w1 := ((Fr.refl [] w).alloc _).trans' hf1 (by simp [HGE.out])
  have HR1 := Lib.hid hR1; have HF1 := Lib.hid hF1
  clear hr1 hR1 hf1 hF1 HR
  go_wp2_with fail
  go_loopw [6] (fun _ wr => ∃ j ts L n, Rdr wr g A c src j L ∧ Toks wr L ts ∧ (∀ k, L.ownBlock = some k → w.heap.size ≤ k) ∧ (∀ t ∈ ts, t.k ≤ 9) ∧ src.length ≤ n + j ∧ ts.length ≤ j ∧ lexAllM src = joinT ts (lexT n (lastOp ts) j (src.drop j)) ∧ Fr [] w wr) (fun _ wr => src.length - posOf wr g)
  case atStart => exact ⟨_, [], _, src.length, HR1.out, World.ownsRow_nil _ _ _ _, by simp [Value.ownBlock], by simp, by omega, by simp, by rw [HM.out, joinT_nil, Nat.zero_add]; rfl, HF1.out⟩
  case round =>
    obtain ⟨j, ts, L, n, hr, hts, hown, hk, hn, htl, hM, hf⟩ := hrel
    obtain ⟨LA, lc, rfl⟩ : ∃ LA lc, L = .slice LA ts.length lc := by
      obtain ⟨q1, ⟨q2, q3⟩ | ⟨gg, cap, cur, q3, -⟩⟩ := hts
      · exact ⟨none, 0, by rw [q2, q3]⟩
      · exact ⟨_, _, q3⟩
    have hji := hr.at_
    have hl := hr.len
    have hgl := hr.blk.lt
    by_cases hj : j < src.length
    · have hnx := next_any hr hj ts hts hk
      have hjI : (j : Int) < (src.length : Int) := by omega
      obtain ⟨c0, c1, c2, f1⟩ := hr.cells
      cases hnm : nextM (lastOp ts) (src.drop j) with
      | error code =>
        have hres : lexAllM src = .error (code, j) := by
          rw [hM]
          have e : src.drop j ≠ [] := by intro e; have := congrArg List.length e; simp at this; omega
          unfold lexT
          cases hd : src.drop j with
          | nil => exact absurd hd e
          | cons q r => rw [hd] at hnm; simp only [hnm]; rfl
        rw [hnm] at hnx
        have HNX := Lib.hid hnx; have HRES := Lib.hid hres; have HF := Lib.hid hf
        clear hnx hres hf hnm hM hk hts hown hr htl hn
        go_wp2_with fail
        go_at_call 13
        refine HNX.out.mono ?_
        rintro e w2 ⟨b, jj, rfl, hfl, hr2, hf2⟩
        have hf3 : Fr [] w w2 := HF.out.trans' hf2 (by simp [HGE.out])
        have hfl3 : ∀ o, fltV (w2.alloc o) (.iface 34 (.pointer (some ⟨b, 0, none⟩))) j code := by
          intro o
          obtain ⟨b2, hv, hbk⟩ := hfl
          exact ⟨b2, hv, hbk.alloc _⟩
        have HF3 := Lib.hid hf3; have HFL := Lib.hid hfl3
        clear hf2 hfl hfl3 hr2 hf3
        unfold tokZ
        go_wp2_with fail
        go_ret2
        unfold AllPost
        rw [HRES.out]
        exact ⟨b, rfl, HFL.out _, HF3.out.alloc _⟩
      | ok q =>
        obtain ⟨k, t, v, m⟩ := q
        obtain ⟨hm1, hk9, hk1⟩ := nextM_ok hnm
        rw [hnm] at hnx
        obtain ⟨n', hn'⟩ : ∃ n', n = n' + 1 := ⟨n - 1, by omega⟩
        have HNX := Lib.hid hnx; have HF := Lib.hid hf; have HM2 := Lib.hid hM; have HNM := Lib.hid hnm
        have HTS := Lib.hid hts; have HK := Lib.hid hk; have HOWN := Lib.hid hown
        obtain ⟨i0, hi0, hz0, hz1, hz2⟩ := tokParts
        have HI := Lib.hid hi0; have HZ := Lib.hid hz0; have HZ1 := Lib.hid hz1; have HZ2 := Lib.hid hz2
        have HPJ := Lib.hid hr.pos
        have hltL := Lib.hid (Toks.lt hts)
        have hngL := Lib.hid (Toks.ne_ hts hr.blk (by decide))
        clear hnx hf hnm hM hk hts hown hr hi0 hz0 hz1 hz2
        go_wp2_with fail
        go_at_call 13
        refine HNX.out.mono ?_
        rintro e w2 ⟨rfl, hr2, hf2⟩
        obtain ⟨hi_, hhi⟩ : ∃ x : Nat, x = v / 18446744073709551616 := ⟨_, rfl⟩
        obtain ⟨lo_, hlo⟩ : ∃ x : Nat, x = v % 18446744073709551616 := ⟨_, rfl⟩
        have HHI := Lib.hid hhi; have HLO := Lib.hid hlo
        unfold tokV
        rw [← hhi, ← hlo]
        have HR2 := Lib.hid hr2; have HF2 := Lib.hid hf2
        clear hr2 hf2 c0 c1 c2 f1 hhi hlo
        go_upto_region 10 with fail
        have hgl2 := HR2.out.blk.lt
        obtain ⟨b5, hb5⟩ : ∃ b5, b5 = w2.heap.size := ⟨_, rfl⟩
        rw [← hb5]
        obtain ⟨w3, hw3⟩ : ∃ w3, w3 = w2.alloc (.cells #[.int .i64 (k : Int), .int .i64 (j : Int), .string ⟨t.toArray⟩, .bool false, .int .u64 (hi_ : Int), .int .u64 (lo_ : Int)] 43) := ⟨_, rfl⟩
        rw [← hw3]
        have htk : Bk w3 b5 43 #[.int .i64 (k : Int), .int .i64 (j : Int), .string ⟨t.toArray⟩, .bool false, .int .u64 (hi_ : Int), .int .u64 (lo_ : Int)] := by rw [hw3, hb5]; exact Bk.new w2 _ _
        have hf3 : Fr [g] wr w3 := by rw [hw3]; exact HF2.out.alloc _
        have hr3 : Rdr w3 g A c src (j + m) (.slice LA ts.length lc) := by rw [hw3]; exact HR2.out.fr_nil ((Fr.refl [] w2).alloc _)
        have HTK := Lib.hid htk.drew; have HF3 := Lib.hid hf3.drew; have HR3 := Lib.hid (hr3.drewN 1); have HW3 := Lib.hid hw3; have HB5 := Lib.hid hb5
        clear hw3 hb5 htk hf3 hr3
        refine wp_region_F_ (G := fun a b => a = b) (F := fun i => i == 10) (S := fun W => W.cell? ⟨g, 2, none⟩ = some (.slice LA ts.length lc) ∧ Bk W b5 43 #[.int .i64 (k : Int), .int .i64 (j : Int), .string ⟨t.toArray⟩, .bool false, .int .u64 (hi_ : Int), .int .u64 (lo_ : Int)]) ⟨fun _ => rfl, fun a b c h k => h.trans k, fun a b h k => k ▸ h, by kernel_rfl, fun _ _ d _ _ h => by cases d <;> exact h⟩ (by kernel_rfl) fun su => ?_
        have SU := Lib.hid su
        obtain ⟨wd, hwd⟩ : ∃ wd, wd = w3.drew := ⟨_, rfl⟩
        rw [← hwd] at HTK HF3 ⊢
        have hr3 : Rdr wd g A c src (j + m) (.slice LA ts.length lc) := by rw [hwd]; exact HR3.out
        have HRD := Lib.hid hr3
        have hs : wd.cell? ⟨g, 2, none⟩ = some (.slice LA ts.length lc) ∧ Bk wd b5 43 #[.int .i64 (k : Int), .int .i64 (j : Int), .string ⟨t.toArray⟩, .bool false, .int .u64 (hi_ : Int), .int .u64 (lo_ : Int)] := ⟨hr3.blk.cell_ rfl, HTK.out⟩
        have HS := Lib.hid hs
        have HWD := Lib.hid hwd
        clear su hr3 hs hwd HR3
        refine F_move (i := 0) _ SU.out rfl rfl (by kernel_rfl) HS.out rfl ?_
        simp only [Act.put, Act.eval, List.setIfInBounds_toArray, List.set_cons_zero, List.set_cons_succ, List.getElem?_toArray, List.getElem?_cons_zero, List.getElem?_cons_succ, Option.getD_some]
        refine F_move (i := 1) _ SU.out rfl rfl (by kernel_rfl) HS.out rfl ?_
        simp only [Act.put, Act.eval, List.setIfInBounds_toArray, List.set_cons_zero, List.set_cons_succ, List.getElem?_toArray, List.getElem?_cons_zero, List.getElem?_cons_succ, Option.getD_some]
        refine F_val (i := 2) (v := ?_) SU.out rfl (by kernel_rfl) HS.out rfl (fun W hS => ?_) ?_
        rotate_left
        · go_simp
          first | done | rfl
        simp only [Act.put, List.setIfInBounds_toArray, List.set_cons_zero, List.set_cons_succ]
        refine F_val (i := 3) (v := ?_) SU.out rfl (by kernel_rfl) HS.out rfl (fun W hS => ?_) ?_
        rotate_left
        · go_simp
          first | done | rfl
        simp only [Act.put, List.setIfInBounds_toArray, List.set_cons_zero, List.set_cons_succ]
        refine F_val (i := 4) (v := .slice LA ts.length lc) SU.out rfl (by kernel_rfl) HS.out rfl (fun W hS => ?_) ?_
        · obtain ⟨s1, s2⟩ := hS
          go_simp
          first | done | rfl
        simp only [Act.put, List.setIfInBounds_toArray, List.set_cons_zero, List.set_cons_succ]
        refine F_val (i := 5) (v := .agg #[.int .i64 (k : Int), .int .i64 (j : Int), .string ⟨t.toArray⟩, .bool false, .int .u64 (hi_ : Int), .int .u64 (lo_ : Int)]) SU.out rfl (by kernel_rfl) HS.out rfl (fun W hS => ?_) ?_
        · obtain ⟨s1, s2⟩ := hS
          obtain ⟨q0, q1, q2, q3, q4, q5, -⟩ := s2.sixc
          go_simp
          first | done | rfl
        simp only [Act.put, List.setIfInBounds_toArray, List.set_cons_zero, List.set_cons_succ]
        have hkeep : ∀ (W : World) (o : Obj), (W.cell? ⟨g, 2, none⟩ = some (.slice LA ts.length lc) ∧ Bk W b5 43 #[.int .i64 (k : Int), .int .i64 (j : Int), .string ⟨t.toArray⟩, .bool false, .int .u64 (hi_ : Int), .int .u64 (lo_ : Int)]) → ((W.alloc o).cell? ⟨g, 2, none⟩ = some (.slice LA ts.length lc) ∧ Bk (W.alloc o) b5 43 #[.int .i64 (k : Int), .int .i64 (j : Int), .string ⟨t.toArray⟩, .bool false, .int .u64 (hi_ : Int), .int .u64 (lo_ : Int)]) := by
          intro W o ⟨s1, s2⟩
          exact ⟨by rw [World.cell?_alloc_some _ _ _ (by rw [s1]; rfl)]; exact s1, s2.alloc _⟩
        have HKEEP := Lib.hid hkeep; clear hkeep
        have htsd : Toks (wd.alloc (.cells #[.int .i64 (k : Int), .int .i64 (j : Int), .string ⟨t.toArray⟩, .bool false, .int .u64 (hi_ : Int), .int .u64 (lo_ : Int)] 43)) (.slice LA ts.length lc) ts := by
          have h1 : Toks wd (.slice LA ts.length lc) ts := HTS.out.fr HF3.out (by
            intro k hk; simp; rintro rfl; exact hngL.out hk)
          exact h1.fr ((Fr.refl [] wd).alloc _) (by simp)
        have HTSD := Lib.hid htsd; clear htsd
        refine wpAnyF_all (rs := [6]) (by kernel_rfl) (by simp) (fun w' hG => ?_)
        obtain rfl := hG
        refine allF.head rfl rfl (fun K6 hK6 => ?_) allF.nil
        go_simp
        refine hK6.out _ _ (.inr (HKEEP.out _ _ HS.out)) ?_
        clear hK6 K6
        refine wpAnyF_all (rs := [7]) (by kernel_rfl) (by simp) (fun w' hG => ?_)
        obtain rfl := hG
        refine allF.head rfl rfl (fun K7 hK7 => ?_) allF.nil
        refine wp_append_R (.tmp 37) (.tmp 39) 24 rfl 0 43 i0 _ 6 56 Tryd.underlying24 HI.out HZ.out HZ1.out HZ2.out rfl (by omega) (.slice LA ts.length lc) ts.length (ts.flatMap Tk.cells) (by first | rfl | (simp [Act.eval]; done)) HTSD.out ⟨wd.heap.size, 0, none⟩ 1 1 [.int .i64 (k : Int), .int .i64 (j : Int), .string ⟨t.toArray⟩, .bool false, .int .u64 (hi_ : Int), .int .u64 (lo_ : Int)] (by first | rfl | (simp [Act.eval]; done)) rfl (by
          intro i u hu
          have hb : Bk (wd.alloc (.cells #[.int .i64 (k : Int), .int .i64 (j : Int), .string ⟨t.toArray⟩, .bool false, .int .u64 (hi_ : Int), .int .u64 (lo_ : Int)] 43)) wd.heap.size 43 #[.int .i64 (k : Int), .int .i64 (j : Int), .string ⟨t.toArray⟩, .bool false, .int .u64 (hi_ : Int), .int .u64 (lo_ : Int)] := Bk.new wd _ _
          match i, hu with
          | 0, hu => injection hu with hu; subst hu; exact hb.cell_ (i := 0) rfl
          | 1, hu => injection hu with hu; subst hu; exact hb.cell_ (i := 1) rfl
          | 2, hu => injection hu with hu; subst hu; exact hb.cell_ (i := 2) rfl
          | 3, hu => injection hu with hu; subst hu; exact hb.cell_ (i := 3) rfl
          | 4, hu => injection hu with hu; subst hu; exact hb.cell_ (i := 4) rfl
          | 5, hu => injection hu with hu; subst hu; exact hb.cell_ (i := 5) rfl) (by simp [Value.oneCell']) (by unfold maxLen; omega) (by omega) (Nat.zero_le _) ?_
        intro v' w4 hown hgr hat
        obtain ⟨VA, vc, rfl⟩ : ∃ VA vc, v' = .slice VA (ts.length + 1) vc := by
          obtain ⟨q1, ⟨q2, q3⟩ | ⟨gg, cap, cur, q3, -⟩⟩ := hown
          · simp at q3
          · exact ⟨_, _, q3⟩
        have hrd4 : Bk w4 g 54 #[.slice A src.length c, .int .i64 ((j + m : Nat) : Int), .slice LA ts.length lc] := ((HRD.out.fr_nil ((Fr.refl [] wd).alloc _)).blk).grown hgr (fun e => HTSD.out.ne_ (HRD.out.fr_nil ((Fr.refl [] wd).alloc _)).blk (by decide) e.symm)
        have hltb : ∀ k, (Value.slice LA ts.length lc).ownBlock = some k → k < b5 := fun k hk => by have h1 := hltL.out k hk; have h2 := HF2.out.size; have h3 := HB5.out; omega
        have htk4 : Bk w4 b5 43 #[.int .i64 (k : Int), .int .i64 (j : Int), .string ⟨t.toArray⟩, .bool false, .int .u64 (hi_ : Int), .int .u64 (lo_ : Int)] := (HTK.out.alloc _).grown hgr (fun e => by have := hltb _ e.symm; omega)
        have hs4 : w4.cell? ⟨g, 2, none⟩ = some (.slice LA ts.length lc) ∧ Bk w4 b5 43 #[.int .i64 (k : Int), .int .i64 (j : Int), .string ⟨t.toArray⟩, .bool false, .int .u64 (hi_ : Int), .int .u64 (lo_ : Int)] := ⟨hrd4.cell_ rfl, htk4⟩
        have c2 := hs4.1
        have f2 := hrd4.frozen 2
        have HS4 := Lib.hid hs4; have HR4 := Lib.hid hrd4
        have HOWN4 := Lib.hid hown; have HGR := Lib.hid hgr; have HAT := Lib.hid hat
        refine hK7.out _ _ (.inr hs4) ?_
        clear hs4 hrd4 htk4 hown hgr hat hK7 K7
        simp only [Act.put, List.setIfInBounds_toArray, List.set_cons_zero, List.set_cons_succ]
        refine wpAnyF_all (rs := [8]) (by kernel_rfl) (by simp) (fun w' hG => ?_)
        obtain rfl := hG
        refine allF.head rfl rfl (fun K9 hK9 => ?_) allF.nil
        go_simp
        refine hK9.out _ _ (.inr HS4.out) ?_
        clear hK9 K9
        refine wpAnyF_all (rs := [9]) (by kernel_rfl) (by simp) (fun w' hG => ?_)
        obtain rfl := hG
        refine allF.head rfl rfl (fun Ka hKa => ?_) allF.nil
        go_simp
        refine hKa.out _ _ (.inr HS4.out) ?_
        clear hKa Ka
        refine wpAnyF_all (rs := [10]) (by kernel_rfl) (by simp) (fun w' hG => ?_)
        obtain rfl := hG
        refine allF.head rfl rfl (fun K8 hK8 => ?_) allF.nil
        go_simp
        refine hK8.out _ _ (.inl rfl) ?_
        clear hK8 K8 c2 f2
        refine wpAnyF_done (by kernel_rfl) (fun w' hG => ?_)
        obtain rfl := hG
        go_wp2_with fail
        go_at_call 12
        have hown0 : ∀ k, (Value.slice LA ts.length lc).ownBlock = some k → g ≤ k := by rw [HGE.out]; exact HOWN.out
        have hfL : Fr (g :: (Value.slice LA ts.length lc).ownBlock.toList) wd (w4.setCell ⟨g, 2, none⟩ (.slice VA (ts.length + 1) vc)) := (((Fr.refl _ wd).alloc _).grown HGR.out (fun g' e => .inl (by simp [e]))).setCell (.inl (by simp)) _
        have hr5 : Rdr (w4.setCell ⟨g, 2, none⟩ (.slice VA (ts.length + 1) vc)) g A c src (j + m) (.slice VA (ts.length + 1) vc) :=
          { HRD.out with blk := HR4.out.put 2 _, byt := HRD.out.byt_fr hfL (by
              intro b hb
              rcases List.mem_cons.1 hb with rfl | hb
              · exact Nat.le_refl _
              · exact hown0 b (by simpa using hb)) }
        have hng0 : (Value.slice VA (ts.length + 1) vc).ownBlock ≠ some g := by
          have hgw : g < wd.heap.size := HRD.out.blk.lt
          rcases HAT.out with h | h
          · rw [h]; exact HTSD.out.ne_ (HRD.out.fr_nil ((Fr.refl [] wd).alloc _)).blk (by decide)
          · rw [h]; intro e; injection e with e; simp at e; omega
        have hts5 : Toks (w4.setCell ⟨g, 2, none⟩ (.slice VA (ts.length + 1) vc)) (.slice VA (ts.length + 1) vc) (ts ++ [⟨k, j, t, v⟩]) := by
          refine Toks.fr (w := w4) (l := [g]) ?_ ((Fr.refl [g] w4).setCell (.inl (by simp)) _) ?_
          · have := HOWN4.out
            unfold Toks
            rw [List.flatMap_append, List.length_append]
            have e : List.flatMap Tk.cells [⟨k, j, t, v⟩] = [.int .i64 (k : Int), .int .i64 (j : Int), .string ⟨t.toArray⟩, .bool false, .int .u64 (hi_ : Int), .int .u64 (lo_ : Int)] := by
              rw [HHI.out, HLO.out]; rfl
            rw [e]
            exact this
          · intro k hk; simp; rintro rfl; exact hng0 hk
        have hgw : g < wd.heap.size := HRD.out.blk.lt
        have hown5 : ∀ k, (Value.slice VA (ts.length + 1) vc).ownBlock = some k → w.heap.size ≤ k := by
          intro k hk
          rcases HAT.out with h | h
          · exact HOWN.out k (by rw [← h]; exact hk)
          · rw [hk] at h; injection h with h; rw [h]; have := HGE.out; simp; omega
        have hng : (Value.slice VA (ts.length + 1) vc).ownBlock ≠ some g := by
          rcases HAT.out with h | h
          · rw [h]; exact HTSD.out.ne_ (HRD.out.fr_nil ((Fr.refl [] wd).alloc _)).blk (by decide)
          · rw [h]; intro e; injection e with e; simp at e; omega
        have hf5 : Fr [] w (w4.setCell ⟨g, 2, none⟩ (.slice VA (ts.length + 1) vc)) := (HF.out.trans' HF3.out (by simp [HGE.out])).trans' hfL (by
          intro b hb
          rcases List.mem_cons.1 hb with rfl | hb
          · rw [HGE.out]; exact .inr (Nat.le_refl _)
          · exact .inr (HOWN.out b (by simpa using hb)))
        refine (pass_any hr5).mono ?_
        rintro e w6 ⟨rfl, hr6, hf6⟩
        have hts6 := hts5.fr hf6 (by intro k hk; simp; rintro rfl; exact hng hk)
        have hf6' : Fr [] w w6 := hf5.trans' hf6 (by simp [HGE.out])
        have HR6 := Lib.hid hr6; have HTS6 := Lib.hid hts6; have HF6 := Lib.hid hf6'; have HOWN5 := Lib.hid hown5
        clear hr5 hts5 hng hf5 hf6 hf6' hts6 hr6 hfL hown0 hown5
        go_wp2_with fail
        refine ⟨⟨_, ts ++ [⟨k, j, t, v⟩], _, n', HR6.out, HTS6.out, HOWN5.out, ?_, by omega, by simp; omega, ?_, HF6.out⟩, ?_⟩
        · intro x hx
          rcases List.mem_append.1 hx with hx | hx
          · exact HK.out x hx
          · rw [List.mem_singleton.1 hx]; exact hk9
        · have e : src.drop j ≠ [] := by intro e; have := congrArg List.length e; simp at this; omega
          rw [HM2.out, hn', round_M HNM.out e, joinT_join, lastOp_snoc, List.drop_drop, List.drop_drop]
        · rw [HR6.out.pos, HPJ.out]; omega
    · have hje : j = src.length := by omega
      subst hje
      have hfin : lexAllM src = .ok (ts ++ [⟨0, src.length, [], 0⟩]) := by
        rw [hM, List.drop_length]; rfl
      obtain ⟨c0, c1, c2, f1⟩ := hr.cells
      have HF := Lib.hid hf; have HFIN := Lib.hid hfin
      have HTS := Lib.hid hts; have HOWN := Lib.hid hown; have HR := Lib.hid hr
      obtain ⟨i0, hi0, hz0, hz1, hz2⟩ := tokParts
      have HI := Lib.hid hi0; have HZ := Lib.hid hz0; have HZ1 := Lib.hid hz1; have HZ2 := Lib.hid hz2
      clear hf hfin hM hk hts hown hr hi0 hz0 hz1 hz2 hn
      have htsa : Toks (wr.alloc (.cells #[.int .i64 0, .int .i64 (src.length : Int), .string ⟨#[]⟩, .bool false, .int .u64 0, .int .u64 0] 43)) (.slice LA ts.length lc) ts := HTS.out.fr ((Fr.refl [] wr).alloc _) (by simp)
      have hnews : ∀ j u, ([.int .i64 0, .int .i64 (src.length : Int), .string ⟨#[]⟩, .bool false, .int .u64 0, .int .u64 0] : List Value)[j]? = some u → (wr.alloc (.cells #[.int .i64 0, .int .i64 (src.length : Int), .string ⟨#[]⟩, .bool false, .int .u64 0, .int .u64 0] 43)).cell? ((⟨wr.heap.size, 0, none⟩ : Addr).add j) = some u := by
        intro i u hu
        have hb : Bk (wr.alloc (.cells #[.int .i64 0, .int .i64 (src.length : Int), .string ⟨#[]⟩, .bool false, .int .u64 0, .int .u64 0] 43)) wr.heap.size 43 #[.int .i64 0, .int .i64 (src.length : Int), .string ⟨#[]⟩, .bool false, .int .u64 0, .int .u64 0] := Bk.new wr _ _
        match i, hu with
        | 0, hu => injection hu with hu; subst hu; exact hb.cell_ (i := 0) rfl
        | 1, hu => injection hu with hu; subst hu; exact hb.cell_ (i := 1) rfl
        | 2, hu => injection hu with hu; subst hu; exact hb.cell_ (i := 2) rfl
        | 3, hu => injection hu with hu; subst hu; exact hb.cell_ (i := 3) rfl
        | 4, hu => injection hu with hu; subst hu; exact hb.cell_ (i := 4) rfl
        | 5, hu => injection hu with hu; subst hu; exact hb.cell_ (i := 5) rfl
      have HTSA := Lib.hid htsa; have HNEWS := Lib.hid hnews
      have hltL := Lib.hid (Toks.lt HTS.out)
      clear htsa hnews
      go_wp2_with (at_builtin; refine wpList_append_own_at _ rfl (.tmp 46) (.tmp 50) 24 rfl 0 43 i0 _ 6 56 Tryd.underlying24 HI.out HZ.out HZ1.out HZ2.out rfl (by omega) (.slice LA ts.length lc) ts.length (ts.flatMap Tk.cells) (by first | rfl | (simp [Act.eval]; done)) HTSA.out ⟨wr.heap.size, 0, none⟩ 1 1 [.int .i64 0, .int .i64 (src.length : Int), .string ⟨#[]⟩, .bool false, .int .u64 0, .int .u64 0] (by first | rfl | (simp [Act.eval]; done)) rfl HNEWS.out (by simp [Value.oneCell']) (by unfold maxLen; omega) (by omega) (Nat.zero_le _) ?_; intro v' w4 hown hgr hnil hat; have HOWN4 := Lib.hid hown; have HGR := Lib.hid hgr; have HAT := Lib.hid hat; clear hown hgr hnil hat)
      go_ret2
      unfold AllPost
      rw [HFIN.out]
      refine ⟨v', rfl, ?_, ?_, (HF.out.alloc _).grown HGR.out (fun g' e => .inr (HOWN.out g' e))⟩
      · have := HOWN4.out
        unfold Toks
        rw [List.flatMap_append, List.length_append]
        have e : List.flatMap Tk.cells [⟨0, src.length, [], 0⟩] = [.int .i64 0, .int .i64 (src.length : Int), .string ⟨#[]⟩, .bool false, .int .u64 0, .int .u64 0] := by simp [Tk.cells]
        rw [e]
        exact this
      · intro k hk
        rcases HAT.out with h | h
        · exact HOWN.out k (by rw [← h]; exact hk)
        · rw [hk] at h; injection h with h; rw [h]; have := HGE.out; simp; omega
end Go.Proofs.YtjfgopihfgljmaaDoor
