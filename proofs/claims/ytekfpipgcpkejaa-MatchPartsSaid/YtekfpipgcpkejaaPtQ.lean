/-
  MatchParts: where its loop stands. No conditions.
-/
import Derived.Test.YtekfpipgcpkejaaPtP
import Derived.Test.YtekfpipgcpkejaaFi3
namespace Go.Proofs.Ytekfpipgcpkejaa
open Go.RowKit
set_option linter.unusedVariables false
set_option linter.unusedSimpArgs false

section
variable {P : Program} {Q : Exit → Act → World → Prop} {md : Region.Mode} {G : World → World → Prop} {S : World → Prop} {F : Nat → Bool} {l r : List Oper} {o : Oper} {i n : Nat} {listed : Array Bool} {a : Act} {w : World}
theorem F_str (src dst : TypeId) (x : Operand) (su : Setup P l Q G S) (ho : l.drop i = o :: r) (hop : o.op = .convert src dst x) (e : TypeId) (hs : P.underlying src = some (.slice e)) (he : P.underlying e = some (.int .u8)) (hd : P.underlying dst = some .string)
    (A : Option Addr) (len c : Nat) (hxv : a.eval x = .slice A len c) (bs : List UInt8) (hx : ∀ W, S W → At W A (byteVals bs)) (hn : bs.length = len)
    (hB : ((Region.ready md l.toArray listed).contains i && Region.free md l.toArray listed i && waits md l.toArray F i) = true) (hS : S w) (hw : Region.wanted o (yielded l.toArray a.tmps) = true)
    (hr : wpAnyF P md l.toArray Q G S F n (listed.setIfInBounds i true) (a.put o.dst (.string ⟨bs.toArray⟩)) w) : wpAnyF P md l.toArray Q G S F (n + 1) listed a w := by
  refine F_val su ho hB hS hw (fun w' hS' => ?_) hr
  unfold execOp
  simp only [hop, hxv, run_str_ (P := P) src dst e hs he hd A bs len c (hx w' hS') hn, Sem.run_bind, Result.andThen_ok, Sem.run_pure]
end
structure PtI (w0 : World) (abx nbx sbx : Nat) (tx : List UInt8) (FL : List (Nat × Nat)) (ps : List (List UInt8)) (St : List Nat) (k : Nat) (W : World) (n b la : Nat) : Prop where
  fr : Fr [abx, nbx, sbx] w0 W
  st : ∀ b ∈ St, w0.heap.size ≤ b
  ab : Bk W abx 9 #[.string ⟨(tx.take b).toArray⟩]
  nb : Bk W nbx 3 #[.int .i64 (n : Int)]
  sb : Bk W sbx 3 #[.int .i64 (la : Int)]
  spl : tx ≠ [] → ps.drop n = splitF tx (FL.drop k) b
  ord : ∀ q ∈ FL.drop k, b ≤ q.1 ∧ la ≤ q.1
  ble : b ≤ tx.length
  nk : n ≤ k
theorem PtI.far {w0 : World} {abx nbx sbx : Nat} {tx : List UInt8} {FL : List (Nat × Nat)} {ps : List (List UInt8)} {St St' : List Nat} {k : Nat} {W W' : World} {n b la : Nat} (h : PtI w0 abx nbx sbx tx FL ps St k W n b la)
    (ha : abx < w0.heap.size) (hn : nbx < w0.heap.size) (hs : sbx < w0.heap.size) (hf : Fr St W W') (hS : ∀ b ∈ St', b ∈ St ∨ W.heap.size ≤ b) : PtI w0 abx nbx sbx tx FL ps St' k W' n b la := by
  have hsz := h.fr.size
  have hno : ∀ x, x < w0.heap.size → x ∉ St := fun x hx hm => by have := h.st x hm; omega
  refine { h with fr := h.fr.trans' hf (fun b hb => .inr (h.st b hb)), st := fun b hb => ?_, ab := h.ab.fr hf (hno _ ha), nb := h.nb.fr hf (hno _ hn), sb := h.sb.fr hf (hno _ hs) }
  rcases hS b hb with e | e
  · exact h.st b e
  · omega
theorem PtI.step {w0 : World} {abx nbx sbx kbx : Nat} {tx : List UInt8} {FL : List (Nat × Nat)} {ps : List (List UInt8)} {St : List Nat} {k : Nat} {W2 W3 : World} {n b la n' b' la' : Nat} (h : PtI w0 abx nbx sbx tx FL ps St k W2 n b la)
    (ha : abx < w0.heap.size) (hn : nbx < w0.heap.size) (hs : sbx < w0.heap.size) (hk : kbx < w0.heap.size) (hk1 : kbx ≠ abx) (hk2 : kbx ≠ nbx) (hk3 : kbx ≠ sbx) (hSt : ∀ b ∈ St, b < W2.heap.size)
    (hf : Fr [abx, nbx, sbx] W2 W3) (h1 : Bk W3 abx 9 #[.string ⟨(tx.take b').toArray⟩]) (h2 : Bk W3 nbx 3 #[.int .i64 (n' : Int)]) (h3 : Bk W3 sbx 3 #[.int .i64 (la' : Int)])
    (hspl : tx ≠ [] → ps.drop n' = splitF tx (FL.drop (k + 1)) b') (hord : ∀ q ∈ FL.drop (k + 1), b' ≤ q.1 ∧ la' ≤ q.1) (hb : b' ≤ tx.length) (hnk : n' ≤ n + 1) (B : Nat) :
    (∀ b ∈ kbx :: St, W3.heap[b]? = W2.heap[b]?) ∧ KB B W2 W3 ∧ PtI w0 abx nbx sbx tx FL ps St (k + 1) W3 n' b' la' := by
  have hsz := h.fr.size
  refine ⟨fun x hx => ?_, KB.of_fr hf (fun x hx => ?_), { fr := h.fr.trans hf, st := h.st, ab := h1, nb := h2, sb := h3, spl := hspl, ord := hord, ble := hb, nk := by have := h.nk; omega }⟩
  · rcases List.mem_cons.1 hx with rfl | hx
    · exact hf.block x (by omega) (by simp; omega)
    · have := h.st x hx
      exact hf.block x (hSt x hx) (by simp; omega)
  · simp only [List.mem_cons, List.not_mem_nil, or_false] at hx
    rcases hx with rfl | rfl | rfl
    · exact ⟨_, _, h.ab, by decide, .inr (fun i y => by rcases i with _ | i <;> simp)⟩
    · exact ⟨_, _, h.nb, by decide, .inr (fun i y => by rcases i with _ | i <;> simp)⟩
    · exact ⟨_, _, h.sb, by decide, .inr (fun i y => by rcases i with _ | i <;> simp)⟩
end Go.Proofs.Ytekfpipgcpkejaa
