/- Reading a kind, in plain words. No program in sight. -/
import Derived.Test.YtdeeeipdgoafaaaRdW3
import Derived.Test.YtdeeeipdgoafaaaKindW4
namespace Go.Proofs.Ytdeeeipdgoafaaa
open Go.RowKit
set_option linter.unusedVariables false
def failE (b : Bool) (er : Nat) : Nat := if b = true then (if er = 0 then 4 else er) else er
/-- Where the words of pointers lie. -/
def rdWs (S : Int) : Nat → Int → List UInt8 → Nat → List Int → List Int × List UInt8 × Nat
  | 0, _, ys, er, acc => (acc, ys, er)
  | k + 1, next, ys, er, acc => rdWs S k (next + 8 * ((rdU ys er 512).1 : Int) + 8) (rdU ys er 512).2.1 (failE (decide (S - 8 < next + 8 * ((rdU ys er 512).1 : Int))) (rdU ys er 512).2.2) (acc ++ [next + 8 * ((rdU ys er 512).1 : Int)])
theorem rdWs_succ (S : Int) (k : Nat) (next : Int) (ys : List UInt8) (er : Nat) (acc : List Int) : rdWs S (k + 1) next ys er acc = rdWs S k (next + 8 * ((rdU ys er 512).1 : Int) + 8) (rdU ys er 512).2.1 (failE (decide (S - 8 < next + 8 * ((rdU ys er 512).1 : Int))) (rdU ys er 512).2.2) (acc ++ [next + 8 * ((rdU ys er 512).1 : Int)]) := rfl
theorem rdWs_zero (S : Int) (next : Int) (ys : List UInt8) (er : Nat) (acc : List Int) : rdWs S 0 next ys er acc = (acc, ys, er) := rfl
structure RdK where
  S : Int
  ps : List Int
  left : List UInt8
  er : Nat
def rdK1 (xs : List UInt8) (er : Nat) : Nat × List UInt8 × Nat := ((rdU xs er 4096).1, (rdU xs er 4096).2.1, failE (decide ((rdU xs er 4096).1 = 0)) (rdU xs er 4096).2.2)
def rdK2 (xs : List UInt8) (er : Nat) : Nat × List UInt8 × Nat := rdU (rdK1 xs er).2.1 (rdK1 xs er).2.2 16
def rdK3 (xs : List UInt8) (er : Nat) : List Int × List UInt8 × Nat := rdWs ((rdK1 xs er).1 : Int) (rdK2 xs er).1 0 (rdK2 xs er).2.1 (rdK2 xs er).2.2 []
def rdK (xs : List UInt8) (er : Nat) : RdK := if (rdK3 xs er).2.2 ≠ 0 then ⟨0, [], (rdK3 xs er).2.1, (rdK3 xs er).2.2⟩ else ⟨((rdK1 xs er).1 : Int), (rdK3 xs er).1, (rdK3 xs er).2.1, (rdK3 xs er).2.2⟩
theorem rdV_err (xs : List UInt8) (er : Nat) (h : er ≠ 0) : rdV xs er = (0, xs, er) := by unfold rdV; rw [if_pos h]
theorem rdU_err (xs : List UInt8) (er most : Nat) (h : er ≠ 0) : rdU xs er most = (0, xs, er) := by unfold rdU; rw [rdV_err xs er h, if_neg (Nat.not_lt_zero _)]
theorem rdU_facts (xs : List UInt8) (er most : Nat) (he : er ≤ 100) : (rdU xs er most).1 ≤ most ∧ (rdU xs er most).2.2 ≤ 100 ∧ (rdU xs er most).2.1.length ≤ xs.length := by
  obtain ⟨h1, h2, h3, h4⟩ := rdV_facts xs er he
  unfold rdU
  by_cases h : most < (rdV xs er).1
  · rw [if_pos h]; exact ⟨Nat.zero_le _, by show (4 : Nat) ≤ 100; omega, Nat.le_refl _⟩
  · rw [if_neg h]; exact ⟨by omega, h2, h3⟩
theorem failE_le (b : Bool) (er : Nat) (h : er ≤ 100) : failE b er ≤ 100 := by unfold failE; split <;> (try split) <;> omega
theorem failE_err (b : Bool) (er : Nat) (h : er ≠ 0) : failE b er = er := by unfold failE; cases b <;> simp [h]
/-- Behind a fault nothing is read. -/
theorem rdWs_err (S : Int) (k : Nat) : ∀ (next : Int) (ys : List UInt8) (er : Nat) (acc : List Int), er ≠ 0 → (rdWs S k next ys er acc).2 = (ys, er) := by
  induction k with
  | zero => intro next ys er acc h; rfl
  | succ k ih =>
    intro next ys er acc h
    rw [rdWs_succ, rdU_err ys er 512 h, failE_err _ _ h]
    exact ih _ _ _ _ h
theorem ownsRow_grown {w w' : World} {base : Nat} {e : TypeId} {size n : Nat} {v : Value} {xs : List Value} {r : Nat} (h : w.ownsRow base e size v n xs) (hg : w.grownBy w' (some r)) (hr : r < base) : w'.ownsRow base e size v n xs := by
  obtain ⟨h1, h2⟩ := h
  refine ⟨h1, ?_⟩
  rcases h2 with h | ⟨g, cap, cur, hv, hb, hgg, hn, hm, hs, ht⟩
  · exact .inl h
  · exact .inr ⟨g, cap, cur, hv, hb, (hg.block g (Array.getElem?_eq_some_iff.1 hgg).1 (fun e => by have := Option.some.inj e; omega)).trans hgg, hn, hm, hs, ht⟩
theorem grown_below {w w1 w2 : World} {r : Option Nat} {base : Nat} (h : w.grownBy w1 r) (hb : Below base w1 w2) (hB : w.heap.size ≤ base) : w.grownBy w2 r :=
  ⟨hb.os.trans h.os, hb.tape.trans h.tape, hb.output.trans h.output, Nat.le_trans h.size hb.size, fun i hi hn => (hb.block i (Nat.lt_of_lt_of_le hi hB)).trans (h.block i hi hn)⟩
theorem Rdr.keep {w w' : World} {T : TypeId} {g base hi : Nat} {xs : List UInt8} {er : Nat} (h : Rdr w T g hi xs er) (hk : ∀ k, k < base → w'.heap[k]? = w.heap[k]?) (hg : g < base) (hh : hi ≤ base) : Rdr w' T g hi xs er := by
  obtain ⟨A, c, h1, h2, h3, h4⟩ := h.row
  refine ⟨A, c, (hk g hg).trans h1, ⟨h2.1, fun hp => ?_⟩, h3, h4⟩
  obtain ⟨b, off, e, hc⟩ := h2.2 hp
  have hb : b < hi := (h4 _ e (by rwa [bv_length] at hp)).2
  exact ⟨b, off, e, fun j v hj => (World.cell?_of_block (w := w) (hk b (by omega))).trans (hc j v hj)⟩
end Go.Proofs.Ytdeeeipdgoafaaa
