/- Bytes that may be overwritten; calls in memory. -/
import Derived.Test.YtjfbopnohijhkaaArenaE
import Derived.ChangeKeysEq
import Derived.Laws.StructEq
import Derived.KernelRfl
namespace Go.Proofs.Ytjfbopnohijhkaa
open Go.RowKit
set_option linter.unusedVariables false
/-- Bytes, whichever, in memory from a block's number on, that may be written. -/
def U8s (w : World) (A : Option Addr) (n lo hi : Nat) : Prop := 0 < n → ∃ g, A = some ⟨g, 0, none⟩ ∧ lo ≤ g ∧ g < hi ∧ ∀ j, j < n → (∃ c : UInt8, w.cell? ⟨g, j, none⟩ = some (.int .u8 (c.toNat : Int))) ∧ w.frozen? ⟨g, j, none⟩ = false
theorem OwnB.u8s {w : World} {base : Nat} {e : TypeId} {A : Option Addr} {n c : Nat} {bs : List UInt8} (h : OwnB w base e (.slice A n c) bs) (hn : n = bs.length) : U8s w A n base w.heap.size := fun hp => by
  subst hn
  obtain ⟨g, hA, hb, hg, hc, hf, _⟩ := h.blk hp
  exact ⟨g, hA, hb, hg, fun j hj => ⟨⟨_, hc j hj⟩, hf j⟩⟩
theorem U8s.below {w w' : World} {A : Option Addr} {n lo hi : Nat} (h : U8s w A n lo hi) (hb : Below w.heap.size w w') : U8s w' A n lo hi := fun hp => by
  obtain ⟨g, hA, h1, h2, h3⟩ := h hp
  refine ⟨g, hA, h1, h2, fun j hj => ?_⟩
  obtain ⟨⟨c, hc⟩, hf⟩ := h3 j hj
  have hlt : g < w.heap.size := World.block_lt_of_cell? w _ hc
  exact ⟨⟨c, cell_below hb hc⟩, (hb.frozen (p := ⟨g, j, none⟩) hlt).trans hf⟩
theorem U8s.grown {w w' : World} {A : Option Addr} {n lo hi gb : Nat} (h : U8s w A n lo hi) (hb : w.grownBy w' (some gb)) (hg : gb < lo) : U8s w' A n lo hi := fun hp => by
  obtain ⟨g, hA, h1, h2, h3⟩ := h hp
  refine ⟨g, hA, h1, h2, fun j hj => ?_⟩
  obtain ⟨⟨c, hc⟩, hf⟩ := h3 j hj
  have hlt : g < w.heap.size := World.block_lt_of_cell? w _ hc
  have hbl := hb.block g hlt (fun e => by have := Option.some.inj e; omega)
  refine ⟨⟨c, (World.cell?_of_block (w := w) hbl).trans hc⟩, ?_⟩
  obtain ⟨xs, t, fr, hrow⟩ : ∃ xs t fr, w.heap[g]? = some (.cells xs t fr) := by
    unfold World.cell? at hc
    cases hh : w.heap[g]? with
    | none => rw [hh] at hc; simp at hc
    | some o => cases o with
      | cells xs t fr => exact ⟨xs, t, fr, rfl⟩
      | _ => rw [hh] at hc; simp at hc
  unfold World.frozen? at hf ⊢
  rw [hbl]; exact hf
theorem U8s.set {w : World} {A : Option Addr} {n lo hi : Nat} (h : U8s w A n lo hi) (a : Addr) (z : Int) (x : UInt8) (hz : z = (x.toNat : Int)) : U8s (w.setCell a (.int .u8 z)) A n lo hi := fun hp => by
  subst hz
  obtain ⟨g, hA, h1, h2, h3⟩ := h hp
  refine ⟨g, hA, h1, h2, fun j hj => ?_⟩
  obtain ⟨⟨c, hc⟩, hf⟩ := h3 j hj
  refine ⟨?_, by rw [World.frozen?_setCell]; exact hf⟩
  by_cases he : a = ⟨g, j, none⟩
  · subst he
    exact ⟨x, World.cell?_setCell_same _ _ _ hc⟩
  · exact ⟨c, by rw [World.cell?_setCell_other _ _ _ _ he]; exact hc⟩
theorem belowT {w1 w w' : World} (h : Below w1.heap.size w1 w) (hb : Below w.heap.size w w') : Below w1.heap.size w1 w' := h.trans (hb.mono h.size)
theorem belowS {w W : World} (h : Below w.heap.size w W) (j : Nat) (v : Value) : Below w.heap.size w (W.setCell ⟨w.heap.size, j, none⟩ v) := h.setCell (Nat.le_refl _) v
theorem belowA {w1 w : World} (h : Below w1.heap.size w1 w) (o : Obj) : Below w1.heap.size w1 (w.alloc o) := h.alloc h.size o
theorem below_alloc (w : World) (o : Obj) : Below w.heap.size w (w.alloc o) := (Below.refl _ _).alloc (Nat.le_refl _) _
theorem beq_neq (x : Int) : (x != x) = false := by simp
/-- The cells of calls. -/
def ClE (w : World) (vs : List Value) (cs : List Cl) : Prop := vs.length = cs.length * 7 ∧ ∀ i (h : i < cs.length), ∃ A c, vs[i * 7]? = some (.int .i64 cs[i].kind) ∧ vs[i * 7 + 1]? = some (.int .i64 cs[i].at_) ∧ vs[i * 7 + 2]? = some (.int .i64 cs[i].to_) ∧ vs[i * 7 + 3]? = some (.int .i64 cs[i].n) ∧ vs[i * 7 + 4]? = some (.int .u64 (cs[i].W : Int)) ∧ vs[i * 7 + 5]? = some (.slice A cs[i].xs.length c) ∧ vs[i * 7 + 6]? = some (.bool cs[i].near) ∧ RdB w A cs[i].xs ∧ cs[i].xs.length ≤ 140737488351232 ∧ cs[i].W < 18446744073709551616
theorem calls_in {w : World} : ∀ es : List (List Value), (∀ e ∈ es, e.length = 7 ∧ rStruct [rInt .i64, rInt .i64, rInt .i64, rInt .i64, rInt .u64, rSlice 1 1 (rInt .u8), rBool] w e) → ∃ cs : List Cl, cs.length = es.length ∧ ClE w es.flatten cs
  | [], _ => ⟨[], rfl, rfl, fun i h => by simp at h⟩
  | e :: es, h => by
    obtain ⟨cs, h1, h2, h3⟩ := calls_in es (fun e he => h e (by simp [he]))
    obtain ⟨hl, hR⟩ := h e (by simp)
    match e, hl with
    | [x0, x1, x2, x3, x4, x5, x6], _ =>
      obtain ⟨k, q0, _⟩ := hR 0 _ x0 rfl rfl
      obtain ⟨a, q1, _⟩ := hR 1 _ x1 rfl rfl
      obtain ⟨t, q2, _⟩ := hR 2 _ x2 rfl rfl
      obtain ⟨n, q3, _⟩ := hR 3 _ x3 rfl rfl
      obtain ⟨W, q4, hw⟩ := hR 4 _ x4 rfl rfl
      obtain ⟨A, cap, bs, q5, _, _, hbl, hb⟩ := rSlice_bytes (hR 5 _ x5 rfl rfl)
      obtain ⟨nr, q6⟩ := hR 6 _ x6 rfl rfl
      simp only [List.cons.injEq, and_true] at q0 q1 q2 q3 q4 q6
      subst q0 q1 q2 q3 q4 q5 q6
      have hbd := bounds_u64 hw
      obtain ⟨W', rfl⟩ := Int.eq_ofNat_of_zero_le hbd.1
      refine ⟨⟨k, a, t, n, W', bs, nr⟩ :: cs, by simp [h1], by simp [h2]; omega, fun i hi => ?_⟩
      rcases i with _ | i
      · exact ⟨A, cap, rfl, rfl, rfl, rfl, rfl, rfl, rfl, hb, hbl, by show W' < _; omega⟩
      · obtain ⟨A', c', r0, r1, r2, r3, r4, r5, r6, r7⟩ := h3 i (by simpa using hi)
        rw [show (i + 1) * 7 = i * 7 + 1 + 1 + 1 + 1 + 1 + 1 + 1 by omega]
        exact ⟨A', c', by simpa using r0, by simpa using r1, by simpa using r2, by simpa using r3, by simpa using r4, by simpa using r5, by simpa using r6, by simpa using r7⟩
/-- A call's cells in memory. -/
theorem ClE.cells {w : World} {A : Option Addr} {vs : List Value} {cs : List Cl} (h : ClE w vs cs) (hr : RdL w A vs) (hp : 0 < cs.length) :
    ∃ b off, A = some ⟨b, off, none⟩ ∧ b < w.heap.size ∧ ∀ i (hi : i < cs.length), ∃ A c, w.cell? ⟨b, off + i * 7, none⟩ = some (.int .i64 cs[i].kind) ∧ w.cell? ⟨b, off + i * 7 + 1, none⟩ = some (.int .i64 cs[i].at_) ∧ w.cell? ⟨b, off + i * 7 + 2, none⟩ = some (.int .i64 cs[i].to_) ∧ w.cell? ⟨b, off + i * 7 + 3, none⟩ = some (.int .i64 cs[i].n) ∧ w.cell? ⟨b, off + i * 7 + 4, none⟩ = some (.int .u64 (cs[i].W : Int)) ∧ w.cell? ⟨b, off + i * 7 + 5, none⟩ = some (.slice A cs[i].xs.length c) ∧ w.cell? ⟨b, off + i * 7 + 6, none⟩ = some (.bool cs[i].near) ∧ RdB w A cs[i].xs ∧ cs[i].xs.length ≤ 140737488351232 ∧ cs[i].W < 18446744073709551616 := by
  obtain ⟨h1, h2⟩ := h
  obtain ⟨b, off, e, hc⟩ := hr (by omega)
  refine ⟨b, off, e, ?_, fun i hi => ?_⟩
  · obtain ⟨A', c', h3, _⟩ := h2 0 hp
    have := hc _ _ h3
    exact World.block_lt_of_cell? w _ this
  · obtain ⟨A', c', r0, r1, r2, r3, r4, r5, r6, r7⟩ := h2 i hi
    exact ⟨A', c', hc _ _ r0, by rw [Nat.add_assoc]; exact hc _ _ r1, by rw [Nat.add_assoc]; exact hc _ _ r2, by rw [Nat.add_assoc]; exact hc _ _ r3, by rw [Nat.add_assoc]; exact hc _ _ r4, by rw [Nat.add_assoc]; exact hc _ _ r5, by rw [Nat.add_assoc]; exact hc _ _ r6, r7⟩
/-- The bytes of a call that came in lie in no arena that was made since. -/
theorem rd_apart {w w0 : World} {A : Option Addr} {xs : List UInt8} {gb : Nat} (h : RdB w A xs) (hs : w.heap.size ≤ gb) : ∀ a, A = some a → 0 < xs.length → a.block ≠ gb := fun a ha hp => by
  obtain ⟨b, off, rfl, hc⟩ := h.at hp
  cases ha
  have : b < w.heap.size := World.block_lt_of_cell? w _ (hc 0 hp)
  show b ≠ gb
  omega
/-- A box of a call's cells. -/
theorem cells7 {w : World} {g : Nat} {x0 x1 x2 x3 x4 x5 x6 : Value} {t : TypeId} (h : w.heap[g]? = some (.cells #[x0, x1, x2, x3, x4, x5, x6] t (0, 0))) :
    w.cell? ⟨g, 0, none⟩ = some x0 ∧ w.cell? ⟨g, 1, none⟩ = some x1 ∧ w.cell? ⟨g, 2, none⟩ = some x2 ∧ w.cell? ⟨g, 3, none⟩ = some x3 ∧ w.cell? ⟨g, 4, none⟩ = some x4 ∧ w.cell? ⟨g, 5, none⟩ = some x5 ∧ w.cell? ⟨g, 6, none⟩ = some x6 :=
  ⟨by rw [cell_of_row _ _ _ _ _ _ h]; rfl, by rw [cell_of_row _ _ _ _ _ _ h]; rfl, by rw [cell_of_row _ _ _ _ _ _ h]; rfl, by rw [cell_of_row _ _ _ _ _ _ h]; rfl, by rw [cell_of_row _ _ _ _ _ _ h]; rfl, by rw [cell_of_row _ _ _ _ _ _ h]; rfl, by rw [cell_of_row _ _ _ _ _ _ h]; rfl⟩
section
variable {w w' w'' : World} {r : Option Nat}
theorem grown_refl (w : World) (r : Option Nat) : w.grownBy w r := ⟨rfl, rfl, rfl, Nat.le_refl _, fun _ _ _ => rfl⟩
theorem grown_drew (h : w.grownBy w' r) : w.grownBy w'.drew r := ⟨h.os, h.tape, h.output, h.size, h.block⟩
theorem grown_dN (h : w.grownBy w' r) (m : Nat) : w.grownBy (w'.drewN m) r := ⟨h.os, h.tape, h.output, h.size, h.block⟩
theorem grownA (h : w.grownBy w' r) (o : Obj) : w.grownBy (w'.alloc o) r := ⟨h.os, h.tape, h.output, by have := h.size; simp [go_sem]; omega, fun i hi hn => (Below.heap_alloc _ _ _ (Nat.lt_of_lt_of_le hi h.size)).trans (h.block i hi hn)⟩
theorem grownS (h : w.grownBy w' r) (a : Addr) (v : Value) (ha : w.heap.size ≤ a.block) : w.grownBy (w'.setCell a v) r :=
  ⟨h.os, h.tape, h.output, by simpa using h.size, fun i hi hn => (heap_setCell_other _ _ _ _ (by omega)).trans (h.block i hi hn)⟩
theorem grownT (h : w.grownBy w' r) (k : w'.grownBy w'' r) : w.grownBy w'' r := h.trans k
theorem grownB (h : w.grownBy w' r) (k : Below w'.heap.size w' w'') : w.grownBy w'' r := h.trans (grown_of_below k r)
end
theorem RdB.grownN {w w' : World} {A : Option Addr} {xs : List UInt8} {gb : Nat} (h : RdB w A xs) (hg : w.grownBy w' (some gb)) (hne : ∀ a, A = some a → 0 < xs.length → a.block ≠ gb) : RdB w' A xs := by
  refine ⟨h.1, fun hp => ?_⟩
  obtain ⟨b, off, e, hc⟩ := h.2 hp
  have hb := hne _ e (by rwa [bv_length] at hp)
  refine ⟨b, off, e, fun j v hj => ?_⟩
  have hcv := hc j v hj
  exact (World.cell?_of_block (w := w) (hg.block b (World.block_lt_of_cell? w _ hcv) (fun e => hb (Option.some.inj e)))).trans hcv
theorem Try.arr3' (d : Nat) (a b c : Int) (w : World) : (Op.equalIn (d + 1 + 1) 52 (.agg #[.int .i64 a, .int .i64 b, .int .i64 c]) (.agg #[.int .i64 a, .int .i64 b, .int .i64 c])).run Try.prog w = .ok true w := by
  have hu := Try.underlying52
  have hu' := Try.underlying3
  rw [run_equalIn_array w (d + 1) _ _ hu (by rfl)]
  have hc : Try.prog.cellsOf 3 = 1 := by kernel_rfl
  rw [hc, show List.range 3 = [0, 1, 2] from rfl]
  simp [Op.eqItems, go_sem]
theorem Try.arr3 (a b c : Int) (w : World) : (Op.equalIn 10000 52 (.agg #[.int .i64 a, .int .i64 b, .int .i64 c]) (.agg #[.int .i64 a, .int .i64 b, .int .i64 c])).run Try.prog w = .ok true w := Try.arr3' 9998 a b c w
/-- A box's cells, kept. -/
theorem keep7 {w w' : World} {g gb : Nat} {x0 x1 x2 x3 x4 x5 x6 : Value} {t : TypeId} (h : w.heap[g]? = some (.cells #[x0, x1, x2, x3, x4, x5, x6] t (0, 0))) (hne : g ≠ gb) (hg : w.grownBy w' (some gb)) :
    (w'.cell? ⟨g, 0, none⟩ = some x0 ∧ w'.cell? ⟨g, 1, none⟩ = some x1 ∧ w'.cell? ⟨g, 2, none⟩ = some x2 ∧ w'.cell? ⟨g, 3, none⟩ = some x3 ∧ w'.cell? ⟨g, 4, none⟩ = some x4 ∧ w'.cell? ⟨g, 5, none⟩ = some x5 ∧ w'.cell? ⟨g, 6, none⟩ = some x6) ∧ w.grownBy w' (some gb) :=
  ⟨cells7 ((hg.block g (Array.getElem?_eq_some_iff.1 h).1 (fun e => hne (Option.some.inj e))).trans h), hg⟩
end Go.Proofs.Ytjfbopnohijhkaa
