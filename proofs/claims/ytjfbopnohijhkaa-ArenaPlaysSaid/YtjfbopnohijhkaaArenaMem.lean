/- An arena's bytes, laid anew: by copy, by clear, by a store. -/
import Derived.Test.YtjfbopnohijhkaaArenaW1
import Derived.Laws.CopyOwn
import Derived.Lib.SliceRun
namespace Go.Proofs.Ytjfbopnohijhkaa
open Go.RowKit
theorem bv_splice (bs xs : List UInt8) (i : Nat) : bv (splice bs i xs) = splice (bv bs) i (bv xs) := by
  simp [splice, bv, List.map_take, List.map_drop]
theorem grownBy_setRow {w : World} {g : Nat} {cs : Array Value} : w.grownBy (w.setRow g cs) (some g) :=
  ⟨rfl, rfl, rfl, by simp [World.setRow], fun k _ hne => setRow_other w g k cs (fun e => hne (by rw [e]))⟩
theorem grown_of_below {w w' : World} (h : Below w.heap.size w w') (r : Option Nat) : w.grownBy w' r := ⟨h.os, h.tape, h.output, h.size, fun i hi _ => h.block i hi⟩
theorem grown_drewN (w : World) (m : Nat) (r : Option Nat) : w.grownBy (w.drewN m) r := ⟨rfl, rfl, rfl, Nat.le_refl _, fun _ _ _ => rfl⟩
theorem OwnB.grown {w w' : World} {base : Nat} {e : TypeId} {v : Value} {bs : List UInt8} {r : Nat} (h : OwnB w base e v bs) (hg : w.grownBy w' (some r)) (hr : r < base) : OwnB w' base e v bs :=
  World.ownsRow.kept h hg (by
    cases hv : v.ownBlock with
    | none => exact .inl rfl
    | some k => exact .inr (fun e => by have := own_ge h k hv; have := Option.some.inj e; omega))
theorem OwnB.drewN {w : World} {base : Nat} {e : TypeId} {v : Value} {bs : List UInt8} (h : OwnB w base e v bs) (m : Nat) : OwnB (w.drewN m) base e v bs := h.below (below_drewN (Below.refl _ _) m)
section
variable {P : Program} {T : TypeId} {g gb : Nat} {base : Int} {bs : List UInt8} {w : World}
theorem Arn.ne (h : Arn w T g gb base bs) : g ≠ gb := by
  intro e
  subst e
  have h1 := h.obj.symm.trans h.mem
  simp only [Option.some.injEq, Obj.cells.injEq] at h1
  have h2 := congrArg Array.size h1.1
  have := h.bl
  simp [bv] at h2
  omega
theorem Arn.grown (h : Arn w T g gb base bs) {w' : World} {r : Nat} (hg : w.grownBy w' (some r)) (h1 : g ≠ r) (h2 : gb ≠ r) : Arn w' T g gb base bs :=
  h.keep (hg.block _ h.lt.1 (fun e => h1 (Option.some.inj e))) (hg.block _ h.lt.2 (fun e => h2 (Option.some.inj e)))
theorem Arn.relaid (h : Arn w T g gb base bs) {w' : World} {xs : List UInt8} (hg : w.grownBy w' (some gb)) (hl : xs.length = bs.length) (hm : w'.heap[gb]? = some (.cells (bv xs).toArray 5 (0, 0))) : Arn w' T g gb base xs :=
  ⟨by rw [hl]; exact (hg.block _ h.lt.1 (fun e => h.ne (Option.some.inj e))).trans h.obj, hm, h.b0, h.b1, by rw [hl]; exact h.len⟩
theorem Arn.drewN (h : Arn w T g gb base bs) (m : Nat) : Arn (w.drewN m) T g gb base bs := ⟨h.obj, h.mem, h.b0, h.b1, h.len⟩
theorem Arn.rd (h : Arn w T g gb base bs) (A : Option Addr) (i m : Nat) (hi : i + m ≤ bs.length) (hA : 0 < m → A = some ⟨gb, i, none⟩) : RdB w A ((bs.drop i).take m) := by
  have hl := h.bl
  refine ⟨by simp; omega, fun hp => ?_⟩
  have hm : 0 < m := by simp [bv] at hp; omega
  refine ⟨gb, i, hA hm, fun j v hj => ?_⟩
  rw [cell_of_row _ _ _ _ _ _ h.mem]
  simp only [bv, List.getElem?_map, List.getElem?_take, List.getElem?_drop] at hj
  split at hj
  · simpa [bv] using hj
  · simp at hj
theorem Arn.rdAll (h : Arn w T g gb base bs) : RdB w (some ⟨gb, 0, none⟩) bs := by simpa using h.rd (some ⟨gb, 0, none⟩) 0 bs.length (by omega) (fun _ => rfl)
variable {ops : Array Oper} {rest : List Oper} {o : Oper} {a : Act} {Q : Exit → Act → World → Prop}
/-- copy(arena's bytes, bytes). -/
theorem run_copyA (HA : Arn w T g gb base bs) (dT sT ty elem : TypeId) (hu : P.underlying dT = some (.slice elem)) (hsz : (P.info? elem).map (·.size) = some 1)
    (A1 A : Option Addr) (m c1 c : Nat) (i : Nat) (xs : List UInt8) (hm : m = xs.length) (hA1 : 0 < m → A1 = some ⟨gb, i, none⟩) (hr : RdB w A xs) (hi : i + xs.length ≤ bs.length) :
    ∃ w', (Builtin.copy_ #[dT, sT] ty #[.slice A1 m c1, .slice A m c]).run P w = .ok (goInt m) w' ∧ Arn w' T g gb base (splice bs i xs) ∧ w.grownBy w' (some gb) := by
  subst hm
  rcases Nat.eq_zero_or_pos xs.length with h0 | h0
  · have hx : xs = [] := List.eq_nil_of_length_eq_zero h0
    refine ⟨w, ?_, by subst hx; simpa [splice] using HA, World.grownBy.refl w _⟩
    rw [run_copy_none (P := P) w dT sT ty elem A1 A _ c1 _ c hu hsz (by simp [h0]), h0]
    rfl
  · obtain ⟨b, off, rfl, hc⟩ := hr.2 (by rwa [bv_length])
    obtain rfl := hA1 h0
    refine ⟨_, run_copy_row (P := P) w dT sT ty elem gb i xs.length c1 ⟨b, off, none⟩ xs.length c (bv bs).toArray 5 (bv xs) hu hsz HA.mem (by simp [bv]) ?_ (by simpa [bv] using hi) (bv_one _) |>.trans (by rw [bv_length]), HA.relaid grownBy_setRow ?_ ?_, grownBy_setRow⟩
    · intro j v hj
      have hadd : (⟨b, off, none⟩ : Addr).add j = ⟨b, off + j, none⟩ := by unfold Addr.add; split <;> simp_all
      rw [hadd]
      exact hc j v hj
    · simp [splice]; omega
    · rw [setRow_heap w gb (bv bs).toArray _ 5 (0, 0) HA.mem, bv_splice]
      simp [splice, bv_length]
theorem run_clear_none (w : World) (t ty e : TypeId) (ht : P.underlying t = some (.slice e)) (A : Option Addr) (c : Nat) : (Builtin.clear_ #[t] ty #[.slice A 0 c]).run P w = .ok (.tuple #[]) w := by
  cases A <;> simp [Builtin.clear_, run_underlying ht]
theorem run_clearA' (HA : Arn w T g gb base bs) (t ty e : TypeId) (z : Value) (ht : P.underlying t = some (.slice e)) (hv : ∀ w, (zeroValue e).run P w = .ok z w) (hz : z = .int .u8 0)
    (i m c : Nat) (h0 : 0 < m) (hi : i + m ≤ bs.length) :
    (Builtin.clear_ #[t] ty #[.slice (some ⟨gb, i, none⟩) m c]).run P w = .ok (.tuple #[]) (w.setRow gb ((bv bs).toArray.toList.take i ++ bv (List.replicate m 0) ++ (bv bs).toArray.toList.drop (i + m)).toArray) := by
  have hzc : (Builtin.zeroCells z.cells m).toList = bv (List.replicate m 0) := by
    subst hz
    rw [show (Value.int .u8 0).cells = #[.int .u8 0] from rfl]
    simp [Builtin.zeroCells, bv]
    apply List.ext_getElem
    · simp
    · intro i h1 h2
      simp [Nat.mod_one, Value.cells]
  have hst := run_storeCells_at P gb i 5 (bv (List.replicate m 0)) 0 (bv bs).toArray w HA.mem (by simpa [bv] using hi) (bv_one _)
  simp only [Nat.add_zero, bv_length, List.length_replicate] at hst
  obtain ⟨k, rfl⟩ : ∃ k, m = k + 1 := ⟨m - 1, by omega⟩
  simp [Builtin.clear_, run_underlying ht, hv, hzc, hst]
/-- clear(arena's bytes). -/
theorem run_clearA (HA : Arn w T g gb base bs) (dT ty elem : TypeId) (hu : P.underlying dT = some (.slice elem)) (hv : ∀ w, (zeroValue elem).run P w = .ok (.int .u8 0) w)
    (A1 : Option Addr) (m c1 : Nat) (i : Nat) (hA1 : 0 < m → A1 = some ⟨gb, i, none⟩) (hi : i + m ≤ bs.length) :
    ∃ w', (Builtin.clear_ #[dT] ty #[.slice A1 m c1]).run P w = .ok (.tuple #[]) w' ∧ Arn w' T g gb base (splice bs i (List.replicate m 0)) ∧ w.grownBy w' (some gb) := by
  rcases Nat.eq_zero_or_pos m with h0 | h0
  · subst h0
    exact ⟨w, run_clear_none (P := P) w dT ty elem hu A1 c1, by simpa [splice] using HA, World.grownBy.refl w _⟩
  · obtain rfl := hA1 h0
    refine ⟨_, run_clearA' (P := P) HA dT ty elem _ hu hv rfl i m c1 h0 hi, HA.relaid grownBy_setRow (by simp [splice]; omega) ?_, grownBy_setRow⟩
    rw [setRow_heap w gb (bv bs).toArray _ 5 (0, 0) HA.mem, bv_splice]
    simp [splice, bv_length]
/-- A byte is stored in an arena. -/
theorem Arn.set (HA : Arn w T g gb base bs) (j : Nat) (c : UInt8) : Arn (w.setCell ⟨gb, j, none⟩ (.int .u8 (c.toNat : Int))) T g gb base (bs.set j c) ∧ w.grownBy (w.setCell ⟨gb, j, none⟩ (.int .u8 (c.toNat : Int))) (some gb) := by
  have e := setCell_eq_setRow w gb j (bv bs).toArray 5 (0, 0) (.int .u8 (c.toNat : Int)) HA.mem
  rw [e]
  refine ⟨HA.relaid grownBy_setRow (by simp) ?_, grownBy_setRow⟩
  rw [setRow_heap w gb (bv bs).toArray _ 5 (0, 0) HA.mem]
  simp [bv, List.map_set]
end
end Go.Proofs.Ytjfbopnohijhkaa
