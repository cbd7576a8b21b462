/- A table of kinds that isn't there: the law KindNil. -/
import Derived.Test.YtdeeeipdgoafaaaKindL1
namespace Go.Proofs.Ytdeeeipdgoafaaa
open Go.RowKit
theorem two_cells' {w : World} {g : Nat} {x y u v : Value} {t : TypeId} (h : w.heap[g]? = some (.cells #[x, y] t (0, 0))) :
    ((w.setCell ⟨g, 0, none⟩ u).setCell ⟨g, 1, none⟩ v).heap[g]? = some (.cells #[u, v] t (0, 0)) := by
  have h1 := heap_setCell_same w g 0 _ _ u h
  exact heap_setCell_same _ g 1 _ _ v h1
theorem cells2 {w : World} {g : Nat} {x y : Value} {t : TypeId} (h : w.heap[g]? = some (.cells #[x, y] t (0, 0))) : w.cell? ⟨g, 0, none⟩ = some x ∧ w.cell? ⟨g, 1, none⟩ = some y :=
  ⟨by rw [cell_of_row _ _ _ _ _ _ h]; rfl, by rw [cell_of_row _ _ _ _ _ _ h]; rfl⟩
theorem below_alloc (w : World) (o : Obj) : Below w.heap.size w (w.alloc o) := (Below.refl _ _).alloc (Nat.le_refl _) _
theorem belowS {w W : World} (h : Below w.heap.size w W) (j : Nat) (v : Value) : Below w.heap.size w (W.setCell ⟨w.heap.size, j, none⟩ v) := h.setCell (Nat.le_refl _) v
theorem belowA {w1 w : World} (h : Below w1.heap.size w1 w) (o : Obj) : Below w1.heap.size w1 (w.alloc o) := h.alloc h.size o
theorem belowT {w1 w w' : World} (h : Below w1.heap.size w1 w) (hb : Below w.heap.size w w') : Below w1.heap.size w1 w' := h.trans (hb.mono h.size)
theorem RdI.nil (w : World) (A : Option Addr) : RdI w A [] := ⟨by simp, fun h => by simp [iv] at h, fun z h => by simp at h⟩
theorem tadd_nil (S : Int) (v : Value) (w : World) :
    Calls Try.prog 18 #[.pointer none, .agg #[.int .i64 S, v]] w fun e w' => e = .returned (.tuple #[.int .i64 0, .int .i64 1]) ∧ Below w.heap.size w w' := by
  go_enter Try.func18, Try.ntmps18
  go_wp2
  go_ret2
  exact ⟨rfl, below_alloc _ _⟩
theorem tget_nil (i : Int) (w : World) :
    Calls Try.prog 19 #[.pointer none, .int .i64 i] w fun e w' => e = .returned (.tuple #[.agg #[.int .i64 0, .slice none 0 0], .int .i64 1]) ∧ Below w.heap.size w w' := by
  have hg := heap_alloc_new w (.cells #[.int .i64 0, .slice none 0 0] 24 (0, 0))
  obtain ⟨hz0, hz1⟩ := cells2 hg
  have hzf := fun j => frozen_of_row _ w.heap.size j _ _ hg
  have HG := Lib.hid hg; clear hg
  go_enter Try.func19, Try.ntmps19
  go_wp2
  exact bodyPost_ret (v := .tuple #[.agg #[.int .i64 0, .slice none 0 0], .int .i64 1]) (by simp [results, Try.results19, go_sem]) rfl ⟨rfl, below_alloc _ _⟩
theorem tlen_nil (w : World) :
    Calls Try.prog 20 #[.pointer none] w fun e w' => e = .returned (.int .i64 0) ∧ w = w' := by
  go_enter Try.func20, Try.ntmps20
  go_wp2
  go_ret
  exact ⟨rfl, rfl⟩
theorem tall_nil (w : World) :
    Calls Try.prog 21 #[.pointer none] w fun e w' => e = .returned (.slice none 0 0) ∧ w = w' := by
  go_enter Try.func21, Try.ntmps21
  go_wp2_with fail
  refine (tlen_nil w).mono ?_
  rintro e w1 ⟨rfl, rfl⟩
  go_wp2_with fail
  go_loopw [3, 4, 7, 8, 9, 10, 11, 12, 13, 14, 15, 16, 17, 18, 19, 20, 21] (fun o _ i _ _ _ _ _ _ _ _ _ _ _ _ _ _ wr => i = .int .i64 0 ∧ o = .slice none 0 0 ∧ w = wr) (fun _ _ _ _ _ _ _ _ _ _ _ _ _ _ _ _ _ _ => 0)
  case atStart => exact ⟨rfl, rfl, rfl⟩
  case round =>
    obtain ⟨rfl, rfl, rfl⟩ := hrel
    go_wp2
    go_ret
    exact ⟨rfl, rfl⟩
set_option maxHeartbeats 2000000 in
set_option maxRecDepth 20000 in
theorem kindNil_walk (S : Int) (A : Option Addr) (cap : Nat) (ps : List Int) (id : Int) (w : World) :
    Calls Try.prog 5 #[.agg #[.int .i64 S, .slice A ps.length cap], .int .i64 id] w fun e w' => e = .returned (.bool true) ∧ Below w.heap.size w w' := by
  have hg := heap_alloc_new w (.cells #[.int .i64 S, .slice A ps.length cap] 24 (0, 0))
  obtain ⟨hz0, hz1⟩ := cells2 hg
  have hal := below_alloc w (.cells #[.int .i64 S, .slice A ps.length cap] 24 (0, 0))
  clear hg
  go_enter Try.func5, Try.ntmps5
  go_wp2_with fail
  generalize w.alloc (.cells #[.int .i64 S, .slice A ps.length cap] 24 (0, 0)) = w1 at *
  have HAL := Lib.hid hal; clear hal
  refine (tadd_nil S (.slice A ps.length cap) w1).mono ?_
  rintro e w2 ⟨rfl, hB2⟩
  have HB2 := Lib.hid (belowT HAL.out hB2); clear hB2 hz0 hz1
  go_wp2_with fail
  refine (tget_nil id w2).mono ?_
  rintro e w3 ⟨rfl, hB3⟩
  have HB3 := Lib.hid (belowT HB2.out hB3); clear hB3
  go_wp2_with fail
  refine (kalive_any _).mono ?_
  rintro e w4 ⟨rfl, hB4⟩
  have hg := heap_alloc_new w3 (.cells #[.int .i64 0, .slice none 0 0] 24 (0, 0))
  obtain ⟨hz0, hz1⟩ := cells2 hg
  have hd0 := (hB4.cell (p := ⟨w3.heap.size, 0, none⟩) (by simp [go_sem])).trans hz0
  have hd1 := (hB4.cell (p := ⟨w3.heap.size, 1, none⟩) (by simp [go_sem])).trans hz1
  have HB4 := Lib.hid (belowT HB3.out (belowT (below_alloc _ _) hB4))
  clear hg hz0 hz1 hB4
  go_wp2_with fail
  refine (ksame_any 0 0 none none 0 0 [] [] w4 (RdI.nil _ _) (RdI.nil _ _)).mono ?_
  rintro e w5 ⟨rfl, hB5⟩
  rw [decide_eq_true (show (0 : Int) = 0 ∧ ([] : List Int) = [] from ⟨rfl, rfl⟩)]
  have HB5 := Lib.hid (belowT HB4.out hB5)
  clear hB5
  go_wp2_with fail
  refine (tlen_nil w5).mono ?_
  rintro e w6 ⟨rfl, rfl⟩
  go_wp2_with fail
  refine (tall_nil w5).mono ?_
  rintro e w6 ⟨rfl, rfl⟩
  go_wp2
  go_ret
  exact ⟨rfl, HB5.out⟩
theorem kindNil_front (cs : Array Value) (id : Int) (W : World) (hz : cs.size = 2) (hR : rStruct [rInt .i64, rSlice 1 8 (rInt .i64)] W cs.toList) (_h1 : id ≤ 9223372036854775807) (_h0 : -9223372036854775808 ≤ id) :
    Calls Try.prog 5 #[.agg cs, .int .i64 id] W fun e w' => e = .returned (.bool true) ∧ Below W.heap.size W w' := by
  obtain ⟨x0, x1, rfl⟩ : ∃ x0 x1, cs = #[x0, x1] := by
    obtain ⟨l⟩ := cs
    match l, hz with
    | [x0, x1], _ => exact ⟨x0, x1, rfl⟩
  obtain ⟨a, h0, _⟩ := hR 0 _ x0 rfl rfl
  obtain ⟨A, cap, zs, h1, _⟩ := rSlice_ints (hR 1 _ x1 rfl rfl)
  simp at h0
  subst h0 h1
  exact kindNil_walk a A cap zs id W
end Go.Proofs.Ytdeeeipdgoafaaa
