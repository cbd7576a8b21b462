/- The walks of the reference's Copy and Same of kinds, of Field, of Plain (both). -/
import Derived.Test.YtdeeeipdgoafaaaKindW1
import Derived.Test.YtdeeeipdgoafaaaNumW2
import Derived.Deep.RegionHeldLaw
namespace Go.Proofs.Ytdeeeipdgoafaaa
open Go.RowKit

theorem Try.slI : SlT Try.prog 22 3 (.int .i64 0) 1 8 := ⟨Try.underlying22, by kernel_rfl, rfl, by decide⟩

set_option maxHeartbeats 1000000 in
theorem kcopy_any (S : Int) (A : Option Addr) (cap : Nat) (ps : List Int) (w : World) (hr : RdI w A ps) (hl : ps.length * 8 ≤ 140737488351232) :
    Calls Try.prog 11 #[.agg #[.int .i64 S, .slice A ps.length cap]] w fun e w' => ∃ A' c', e = .returned (.agg #[.int .i64 S, .slice A' ps.length c']) ∧ w'.ownsRow w.heap.size 3 1 (.slice A' ps.length c') ps.length (iv .i64 ps) ∧ RdI w' A' ps ∧ Below w.heap.size w w' := by
  go_enter Try.func11, Try.ntmps11
  go_wp2_with fail
  generalize hw2 : (w.alloc _).alloc _ = w2
  have hB0 : Below w.heap.size w w2 := by subst hw2; exact ((Below.refl _ _).alloc (Nat.le_refl _) _).alloc (by simp) _
  have hc0 : w2.cell? ⟨w.heap.size, 0, none⟩ = some (.int .i64 S) := by rw [← hw2]; simp [go_sem]
  have hc1 : w2.cell? ⟨w.heap.size, 1, none⟩ = some (.slice A ps.length cap) := by rw [← hw2]; simp [go_sem]
  have hd0 : w2.heap[w.heap.size + 1]? = some (.cells #[.int .i64 0, .slice none 0 0] 24 (0, 0)) := by rw [← hw2]; exact heap_alloc2_new _ _ _
  have HSZ : Hid (w2.heap.size = w.heap.size + 2) := by rw [← hw2]; show _ = _; simp
  clear hw2
  have hr2 := hr.below hB0
  have hzc : w2.cell? ⟨w.heap.size + 1, 0, none⟩ = some (.int .i64 0) := by rw [cell_of_row _ _ _ _ _ _ hd0]; rfl
  have hzc1 : w2.cell? ⟨w.heap.size + 1, 1, none⟩ = some (.slice none 0 0) := by rw [cell_of_row _ _ _ _ _ _ hd0]; rfl
  have hzf := fun j => frozen_of_row w2 (w.heap.size + 1) j _ _ hd0
  go_region_held_law (fun w' => w'.cell? ⟨w.heap.size, 0, none⟩ = some (.int .i64 S) ∧ w'.cell? ⟨w.heap.size, 1, none⟩ = some (.slice A ps.length cap)) (first | exact ⟨hc0, hc1⟩ | exact ⟨hk0, hk1⟩ | go_keep) ((refine step_appV w2 w2.heap.size Try.slI rfl (.tmp 5) (.tmp 7) rfl _ 0 [] rfl (own_empty w2 w2.heap.size _ _ (Nat.le_refl _)) A ps.length cap (iv .i64 ps) rfl (hr2.below ((Below.refl _ _).drew.alloc (Nat.le_refl _) _)).2.1 (by rw [iv_length, Nat.mul_one]) (iv_one _ _) ps.length (by omega) (iv .i64 ps) rfl (by omega) (by omega) ((Below.refl _ _).drew.alloc (Nat.le_refl _) _) (Nat.le_refl _) ?_; intro A3 c3 w3 hown3 hr3 hB3 hg3 hat3; clear hg3 hat3; have hk0 := cell_below hB3 hc0; have hk1 := cell_below hB3 hc1; have hz0 := cell_below hB3 hzc; have hz1 := cell_below hB3 hzc1; have hzg : w3.heap[w.heap.size + 1]? = some (.cells #[.int .i64 0, .slice none 0 0] 24 (0, 0)) := (hB3.block _ (by have := HSZ.out; omega)).trans hd0; have hzf3 := fun j => frozen_of_row w3 (w.heap.size + 1) j _ _ hzg))
  clear hc0 hc1 hk0 hk1 hzc hzc1 hz0 hz1 hzf
  have hB4 : Below w.heap.size w w3 := hB0.trans (hB3.mono hB0.size)
  have hB5 := (hB4.setCell (p := ⟨w.heap.size + 1, 0, none⟩) (by simp) (.int .i64 S)).setCell (p := ⟨w.heap.size + 1, 1, none⟩) (by simp) (.slice A3 ps.length c3)
  have hown5 : ((w3.setCell ⟨w.heap.size + 1, 0, none⟩ (.int .i64 S)).setCell ⟨w.heap.size + 1, 1, none⟩ (.slice A3 ps.length c3)).ownsRow w2.heap.size 3 1 (.slice A3 ps.length c3) ps.length (iv .i64 ps) :=
    ownsRow_setCell_below (ownsRow_setCell_below hown3 (by have := HSZ.out; simp; omega) _) (by have := HSZ.out; simp; omega) _
  have hg1 := heap_setCell_same w3 (w.heap.size + 1) 0 _ _ (.int .i64 S) hzg
  have hg2 := heap_setCell_same _ (w.heap.size + 1) 1 _ _ (.slice A3 ps.length c3) hg1
  generalize ((w3.setCell ⟨w.heap.size + 1, 0, none⟩ (.int .i64 S)).setCell ⟨w.heap.size + 1, 1, none⟩ (.slice A3 ps.length c3)) = w5 at *
  have hr5 : RdI w5 A3 ps := ⟨hr.1, own_rd hown5, hr.2.2⟩
  have hq0 : w5.cell? ⟨w.heap.size + 1, 0, none⟩ = some (.int .i64 S) := by rw [cell_of_row _ _ _ _ _ _ hg2]; rfl
  have hq1 : w5.cell? ⟨w.heap.size + 1, 1, none⟩ = some (.slice A3 ps.length c3) := by rw [cell_of_row _ _ _ _ _ _ hg2]; rfl
  go_wp2
  exact bodyPost_ret (v := .agg #[.int .i64 S, .slice A3 ps.length c3]) (by simp [results, Try.results11, go_sem, hq0, hq1]) rfl ⟨A3, c3, rfl, own_le hown5 (by have := HSZ.out; omega), hr5, hB5⟩

set_option maxHeartbeats 1000000 in
theorem ksame_any (S S' : Int) (A A' : Option Addr) (c c' : Nat) (ps ps' : List Int) (w : World) (hr : RdI w A ps) (hr' : RdI w A' ps') :
    Calls Try.prog 14 #[.agg #[.int .i64 S, .slice A ps.length c], .agg #[.int .i64 S', .slice A' ps'.length c']] w fun e w' => e = .returned (.bool (decide (S = S' ∧ ps = ps'))) ∧ Below w.heap.size w w' := by
  have hB : Below w.heap.size w ((w.alloc (.cells #[.int .i64 S, .slice A ps.length c] 24)).alloc (.cells #[.int .i64 S', .slice A' ps'.length c'] 24)) := ((Below.refl _ _).alloc (Nat.le_refl _) _).alloc (by simp) _
  by_cases hS : S = S'
  · subst hS
    have hd : (decide (S = S ∧ ps = ps')) = decide (ps = ps') := by simp
    have HD := Lib.hid hd; clear hd
    go_enter Try.func14, Try.ntmps14
    go_wp2_with fail
    refine (ints_any A A' c c' ps ps' _ (hr.below hB) (hr'.below hB)).mono ?_
    rintro e w1 ⟨rfl, n, rfl⟩
    go_wp2
    go_ret
    exact ⟨ret_bool HD.out.symm, below_drewN hB n⟩
  · have hb : (S == S') = false := beq_eq_false_iff_ne.2 hS
    have hd : (decide (S = S' ∧ ps = ps')) = false := by simp [hS]
    have HD := Lib.hid hd; clear hd
    have HS := Lib.hid hS; clear hS
    go_enter Try.func14, Try.ntmps14
    go_wp2
    go_ret
    exact ⟨ret_bool HD.out.symm, hB⟩
end Go.Proofs.Ytdeeeipdgoafaaa
