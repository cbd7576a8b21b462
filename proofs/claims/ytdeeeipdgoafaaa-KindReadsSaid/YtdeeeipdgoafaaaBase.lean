/- Plain words for reading cells of memory: a list of values that stands at an address. No program in sight. -/
import Derived.WalkKit
import Derived.Below
import Derived.Laws.BitsAllLaws
import Derived.Lib.Hide
namespace Go.Proofs.Ytdeeeipdgoafaaa
open Go.RowKit

/-- From the address on these values stand in memory (no address is asked of none). -/
def RdL (w : World) (A : Option Addr) (vs : List Value) : Prop :=
  0 < vs.length → ∃ b off, A = some ⟨b, off, none⟩ ∧ ∀ j v, vs[j]? = some v → w.cell? ⟨b, off + j, none⟩ = some v

/-- Bytes as values. -/
def bv (bs : List UInt8) : List Value := bs.map fun c => .int .u8 (c.toNat : Int)
theorem bv_length (bs : List UInt8) : (bv bs).length = bs.length := by simp [bv]
theorem bv_append (a b : List UInt8) : bv (a ++ b) = bv a ++ bv b := by simp [bv]

/-- Bytes in memory. -/
def RdB (w : World) (A : Option Addr) (bs : List UInt8) : Prop := bs.length ≤ 9223372036854775807 ∧ RdL w A (bv bs)

theorem RdL.kept {w w' : World} {A : Option Addr} {vs : List Value} (h : RdL w A vs) (hk : ∀ b o v, w.cell? ⟨b, o, none⟩ = some v → w'.cell? ⟨b, o, none⟩ = some v) : RdL w' A vs := fun hp => by
  obtain ⟨b, off, e, hc⟩ := h hp
  exact ⟨b, off, e, fun j v hj => hk _ _ _ (hc j v hj)⟩
theorem cell_below {w w1 : World} (h : Below w.heap.size w w1) {b o : Nat} {v : Value} (hc : w.cell? ⟨b, o, none⟩ = some v) : w1.cell? ⟨b, o, none⟩ = some v := (h.cell (World.block_lt_of_cell? w _ hc)).trans hc
theorem RdL.below {w w1 : World} {A : Option Addr} {vs : List Value} (h : RdL w A vs) (hb : Below w.heap.size w w1) : RdL w1 A vs := h.kept fun _ _ _ hc => cell_below hb hc
theorem RdB.below {w w1 : World} {A : Option Addr} {bs : List UInt8} (h : RdB w A bs) (hb : Below w.heap.size w w1) : RdB w1 A bs := ⟨h.1, RdL.below h.2 hb⟩
theorem RdB.len {w : World} {A : Option Addr} {bs : List UInt8} (h : RdB w A bs) : bs.length ≤ 9223372036854775807 := h.1
theorem RdB.at {w : World} {A : Option Addr} {bs : List UInt8} (h : RdB w A bs) (hp : 0 < bs.length) :
    ∃ b off, A = some ⟨b, off, none⟩ ∧ ∀ j (hj : j < bs.length), w.cell? ⟨b, off + j, none⟩ = some (.int .u8 (bs[j].toNat : Int)) := by
  obtain ⟨b, off, e, hc⟩ := h.2 (by rwa [bv_length])
  exact ⟨b, off, e, fun j hj => hc j _ (by simp [bv, hj])⟩
theorem ret_int {k : IntKind} {a b : Int} (h : a = b) : Ending.returned (.int k a) = .returned (.int k b) := by rw [h]
theorem val_int {k : IntKind} {a b : Int} (h : a = b) : Value.int k a = .int k b := by rw [h]
end Go.Proofs.Ytdeeeipdgoafaaa
