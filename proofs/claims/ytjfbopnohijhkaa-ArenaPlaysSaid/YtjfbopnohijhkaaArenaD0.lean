/- Calls of an arena as plain data, and what they answer. -/
import Derived.Test.YtjfbopnohijhkaaArenaW5
import Derived.Test.YtjfbopnohijhkaaRefPG
namespace Go.Proofs.Ytjfbopnohijhkaa
open Go.RowKit
structure Cl where
  kind : Int
  at_ : Int
  to_ : Int
  n : Int
  W : Nat
  xs : List UInt8
  near : Bool
structure An where
  a0 : Int
  a1 : Int
  a2 : Int
  w : Nat
  out : List UInt8
  st : List UInt8
def nearA (base : Int) (near : Bool) (x : Int) : Int := match near with
  | true => base + x.tmod 2000
  | false => x
/-- What a call answers, and what the bytes are behind it. -/
def ans1 (base : Int) (bs : List UInt8) (a n : Int) : An := ⟨okN (inA base bs.length a n), 0, 0, 0, rdA base bs a n, bs⟩
def ans2 (base : Int) (bs : List UInt8) (a : Int) (xs : List UInt8) : An := ⟨okN (inA base bs.length a xs.length), 0, 0, 0, [], wrB base bs a xs⟩
def ans3 (base : Int) (bs : List UInt8) (a n : Int) : An := ⟨okN (inA base bs.length a n), 0, 0, 0, [], if inA base bs.length a n then splice bs (a - base).toNat (List.replicate n.toNat 0) else bs⟩
def ans4 (base : Int) (bs : List UInt8) (a t n : Int) : An := ⟨okN (inA base bs.length a n && inA base bs.length t n), 0, 0, 0, [], if inA base bs.length a n then wrB base bs t (rdA base bs a n) else bs⟩
def ans5 (base : Int) (bs : List UInt8) (a : Int) : An := ⟨okN (inA base bs.length a 8), 0, 0, getN (rdA base bs a 8), [], bs⟩
def ans6 (base : Int) (bs : List UInt8) (a : Int) (W : Nat) : An := ⟨okN (inA base bs.length a 8), 0, 0, 0, [], wrB base bs a (leB W 8)⟩
def ans7 (base : Int) (bs : List UInt8) (a : Int) : An := if inA base bs.length a 1 then ⟨1, (a - base) / 256, (a - base) % 256, 0, [], bs⟩ else ⟨0, 0, 0, 0, [], bs⟩
def ans8 (bs : List UInt8) (p o : Int) : An := if addrB bs p o then ⟨1, p * 256 + o, 0, 0, [], bs⟩ else ⟨0, 0, 0, 0, [], bs⟩
def ans (base : Int) (bs : List UInt8) (c : Cl) : An :=
  if c.kind = 1 then ans1 base bs (nearA base c.near c.at_) c.n
  else if c.kind = 2 then ans2 base bs (nearA base c.near c.at_) c.xs
  else if c.kind = 3 then ans3 base bs (nearA base c.near c.at_) c.n
  else if c.kind = 4 then ans4 base bs (nearA base c.near c.at_) (nearA base c.near c.to_) c.n
  else if c.kind = 5 then ans5 base bs (nearA base c.near c.at_)
  else if c.kind = 6 then ans6 base bs (nearA base c.near c.at_) c.W
  else if c.kind = 7 then ans7 base bs (nearA base c.near c.at_)
  else if c.kind = 8 then ans8 bs c.at_ c.n
  else ⟨0, 0, 0, 0, [], bs⟩
theorem tmod_bd (x : Int) : -2000 < x.tmod 2000 ∧ x.tmod 2000 < 2000 := by
  rcases Int.le_total 0 x with h | h
  · rw [Int.tmod_eq_emod_of_nonneg h]; omega
  · obtain ⟨y, rfl⟩ : ∃ y, x = -y := ⟨-x, by omega⟩
    rw [Int.neg_tmod, Int.tmod_eq_emod_of_nonneg (show 0 ≤ y by omega)]; omega
/-- What a call of the statement's own 'do' and 'want' leaves. -/
def DoPost (w : World) (T : TypeId) (g gb : Nat) (base : Int) (r : An) (e : Ending) (w' : World) : Prop :=
  ∃ A n c, e = .returned (.tuple #[.agg #[.int .i64 r.a0, .int .i64 r.a1, .int .i64 r.a2], .int .u64 (r.w : Int), .slice A n c]) ∧ n = r.out.length ∧ OwnB w' w.heap.size 5 (.slice A n c) r.out ∧ Arn w' T g gb base r.st ∧ w.grownBy w' (some gb)
def set3 (w : World) (r : Nat) (a b c : Value) : World := ((w.setCell ⟨r, 0, none⟩ a).setCell ⟨r, 1, none⟩ b).setCell ⟨r, 2, none⟩ c
theorem set3_heap {w : World} {r : Nat} {x y z a b c : Value} {t : TypeId} (h : w.heap[r]? = some (.cells #[x, y, z] t (0, 0))) : (set3 w r a b c).heap[r]? = some (.cells #[a, b, c] t (0, 0)) := by
  have h1 := heap_setCell_same w r 0 _ _ a h
  have h2 := heap_setCell_same _ r 1 _ _ b h1
  exact heap_setCell_same _ r 2 _ _ c h2
theorem cells3 {w : World} {g : Nat} {x y z : Value} {t : TypeId} (h : w.heap[g]? = some (.cells #[x, y, z] t (0, 0))) : w.cell? ⟨g, 0, none⟩ = some x ∧ w.cell? ⟨g, 1, none⟩ = some y ∧ w.cell? ⟨g, 2, none⟩ = some z :=
  ⟨by rw [cell_of_row _ _ _ _ _ _ h]; rfl, by rw [cell_of_row _ _ _ _ _ _ h]; rfl, by rw [cell_of_row _ _ _ _ _ _ h]; rfl⟩
theorem set3_other (w : World) (r k : Nat) (a b c : Value) (h : k ≠ r) : (set3 w r a b c).heap[k]? = w.heap[k]? := by
  unfold set3
  rw [heap_setCell_other _ _ _ _ h, heap_setCell_other _ _ _ _ h, heap_setCell_other _ _ _ _ h]
theorem set3_own {w : World} {base r : Nat} {e : TypeId} {v : Value} {bs : List UInt8} (h : OwnB w base e v bs) (hr : r < base) (a b c : Value) : OwnB (set3 w r a b c) base e v bs :=
  ownsRow_setCell_below (ownsRow_setCell_below (ownsRow_setCell_below h (a := ⟨r, 0, none⟩) hr a) (a := ⟨r, 1, none⟩) hr b) (a := ⟨r, 2, none⟩) hr c
theorem set3_arn {w : World} {T : TypeId} {g gb r : Nat} {base : Int} {bs : List UInt8} (h : Arn w T g gb base bs) (h1 : g ≠ r) (h2 : gb ≠ r) (a b c : Value) : Arn (set3 w r a b c) T g gb base bs :=
  h.keep (set3_other _ _ _ _ _ _ h1) (set3_other _ _ _ _ _ _ h2)
theorem set3_grown {w w' : World} {row : Option Nat} {r : Nat} (h : w.grownBy w' row) (hr : w.heap.size ≤ r) (a b c : Value) : w.grownBy (set3 w' r a b c) row :=
  ⟨h.os, h.tape, h.output, by unfold set3; simpa using h.size, fun k hk hne => (set3_other _ _ _ _ _ _ (by omega)).trans (h.block k hk hne)⟩
/-- The end of such a call: what its last stores leave. -/
theorem do_end {w w' : World} {T : TypeId} {g gb : Nat} {base : Int} {bs : List UInt8} {r : Nat} (hr : w.heap.size ≤ r) (hg : g < w.heap.size) (hgb : gb < w.heap.size) (a : An) (A : Option Addr) (n c : Nat) (hn : n = a.out.length) (hO : OwnB w' (r + 1) 5 (.slice A n c) a.out) (hA : Arn w' T g gb base bs) (hst : bs = a.st) (hgr : w.grownBy w' (some gb)) (x y z : Value) (e : Ending)
    (he : e = .returned (.tuple #[.agg #[.int .i64 a.a0, .int .i64 a.a1, .int .i64 a.a2], .int .u64 (a.w : Int), .slice A n c])) : DoPost w T g gb base a e (set3 w' r x y z) := by
  subst hst
  exact ⟨A, n, c, he, hn, own_le (set3_own hO (Nat.lt_succ_self r) x y z) (by omega), set3_arn hA (by omega) (by omega) x y z, set3_grown hgr hr x y z⟩
end Go.Proofs.Ytjfbopnohijhkaa
