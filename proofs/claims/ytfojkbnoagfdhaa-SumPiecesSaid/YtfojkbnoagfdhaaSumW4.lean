/- The walk of the program's Shift and Join. -/
import Derived.Test.YtfojkbnoagfdhaaSumW3
import Derived.Deep.WholeRow
namespace Go.Proofs.Ytfojkbnoagfdhaa
open Go.RowKit

/-- A table of which the first k entries are new ones. -/
def tabP (g f : Nat → Nat) (k : Nat) : Array Value := tabV fun j => if j < k then g j else f j
theorem tabP_set (g f : Nat → Nat) (k : Nat) : (tabP g f k).setIfInBounds k (.int .u32 (g k : Nat)) = tabP g f (k + 1) := by
  apply Array.ext
  · simp [tabP, tabV]
  · intro i h1 h2
    have hi : i < 32 := by simpa [tabP, tabV] using h2
    rw [Array.getElem_setIfInBounds]
    · by_cases h : k = i
      · subst h; simp [tabP, tabV]
      · rw [if_neg h]
        simp only [tabP, tabV, List.getElem_toArray, List.getElem_map, List.getElem_range, show (i < k + 1) = (i < k) from by apply propext; omega]
    · simpa [tabP, tabV] using hi
theorem tabP_all (g f : Nat → Nat) : tabP g f 32 = tabV g := by
  unfold tabP tabV
  rw [List.map_congr_left (g := fun j => Value.int .u32 (g j : Nat)) (fun j hj => by simp at hj; simp only [if_pos hj])]
theorem tabP_none (g f : Nat → Nat) : tabP g f 0 = tabV f := by unfold tabP; simp
theorem tabP_size (g f : Nat → Nat) (k : Nat) : (tabP g f k).size = 32 := tabV_size _
theorem tabP_at (g f : Nat → Nat) (k j : Nat) (h : j < 32) : (tabP g f k)[j]? = some (.int .u32 ((if j < k then g j else f j : Nat) : Int)) := tabV_at _ j h

theorem i64_and1 (n : Nat) : bits .and .i64 (n : Int) 1 = ((n % 2 : Nat) : Int) := by
  have key : (BitVec.ofInt 64 (n : Int) &&& BitVec.ofInt 64 1).toNat = n % 2 := by
    have h1 : (BitVec.ofInt 64 1).toNat = 2 ^ 1 - 1 := by decide
    rw [BitVec.toNat_and, BitVec.toNat_ofInt, h1, Nat.and_two_pow_sub_one_eq_mod]
    omega
  show IntKind.i64.wrap ((BitVec.ofInt 64 (n : Int) &&& BitVec.ofInt 64 1).toNat : Nat) = _
  rw [key, IntKind.wrap_i64]
  omega
theorem tabV_one (f : Nat → Nat) : (tabV f).all (·.oneCell') = true := by
  rw [Array.all_eq_true_iff_forall_mem]
  intro v hv
  simp [tabV] at hv
  obtain ⟨j, _, rfl⟩ := hv
  rfl
theorem Try.tabInfo : (Try.prog.info? 42).map (·.size) = some 32 := by kernel_rfl
theorem Try.tabStore (f : Nat → Nat) (W : World) (c : Array Value) (hc : c.size = 32) : (storeCells ⟨W.heap.size, 0, none⟩ (tabV f).toList 0).run Try.prog (W.alloc (.cells c 42)) = .ok () (W.alloc (.cells (tabV f) 42)) :=
  run_storeCells_new W _ c (tabV f) (by rw [tabV_size]; exact Try.tabInfo) (by rw [tabV_size]; exact hc) (tabV_one f)

set_option maxHeartbeats 400000 in
theorem shift_any (s : Nat) (n : Int) (w : World) (h1 : s < 4294967296) (hn : n ≤ 9223372036854775807) (hn0 : -9223372036854775808 ≤ n) :
    Calls Try.prog 14 #[.int .u32 (s : Int), .int .i64 n] w fun e w' => e = .returned (.int .u32 (shift s n.toNat : Nat)) ∧ Below w.heap.size w w' := by
  go_enter Try.func14, Try.ntmps14
  go_wp2
  go_loopw [6, 9] (fun x i wr => ∃ k : Nat, k ≤ 32 ∧ i = .int .i64 k ∧ wr = w.alloc (.cells (tabP tab0 (fun _ => 0) k) 42)) (fun _ i _ => 32 - (intOf i).toNat)
  case atStart => exact ⟨0, by omega, rfl, by rw [tabP_none]; rfl⟩
  case round =>
    obtain ⟨k, hk, rfl, rfl⟩ := hrel
    by_cases hlt : k < 32
    · have hck := tabP_at tab0 (fun _ => 0) k k hlt
      go_wp2_with fail
      have hp : (2 : Nat) ^ k < 4294967296 := (Nat.pow_lt_pow_right (by decide) hlt : 2 ^ k < 2 ^ 32)
      rw [show ((2 : Int) ^ k % 4294967296) = ((2 ^ k : Nat) : Int) from by
        have e : ((2 : Int) ^ k) = ((2 ^ k : Nat) : Int) := by simp
        rw [e]; generalize 2 ^ k = q at hp ⊢; omega]
      refine (steps_any _ _ hp).mono ?_
      rintro e w' ⟨rfl, rfl⟩
      have HP := Lib.hid hp; clear hp
      go_wp2
      go_roundw
      case rel => exact ⟨k + 1, by omega, by go_num, by rw [← tabP_set]; rfl⟩
      case measure => simp [intOf]; omega
    · obtain rfl : k = 32 := by omega
      rw [tabP_all, show ((32 : Nat) : Int) = 32 from rfl]
      go_wp2
      go_loopw [0, 1, 7, 8, 24, 25, 26, 27, 28] (fun s' n' _ _ _ _ _ _ _ wr => ∃ (f : Nat → Nat) (y : Nat) (m : Int), s' = .int .u32 (y : Int) ∧ n' = .int .i64 m ∧ y < 4294967296 ∧ m ≤ 9223372036854775807 ∧ -9223372036854775808 ≤ m ∧ Hid (∀ j, j < 32 → f j < 4294967296) ∧ Hid (shiftF f y m.toNat = shift s n.toNat) ∧ Hid (wr.heap[w.heap.size]? = some (.cells (tabV f) 42 (0, 0))) ∧ Below w.heap.size w wr) (fun _ n' _ _ _ _ _ _ _ _ => (intOf n').toNat)
      case atStart => exact ⟨tab0, s, n, rfl, rfl, h1, hn, hn0, fun j hj => tab0_lt j hj, rfl, heap_alloc_new w _, (Below.refl _ _).alloc (Nat.le_refl _) _⟩
      case round =>
        obtain ⟨f, y, m, rfl, rfl, hy1, hm, hm0, hf, hS, hT, hB⟩ := hrel
        by_cases hpos : 0 < m
        · obtain ⟨p, rfl⟩ := Int.eq_ofNat_of_zero_le (show 0 ≤ m by omega)
          have hcell : ∀ j, j < 32 → wr.cell? ⟨w.heap.size, j, none⟩ = some (.int .u32 (f j : Nat)) := fun j hj => by
            rw [cell_of_row _ _ _ _ _ _ hT.out, tabV_at _ _ hj]
          have HC := Lib.hid hcell; clear hcell
          have hS2 := hS.out
          rw [Int.toNat_natCast] at hS2
          rw [shiftF, dif_neg (show ¬ p = 0 by omega)] at hS2
          have hsz := hB.size
          have hBlt : w.heap.size < wr.heap.size := (Array.getElem?_eq_some_iff.1 hT.out).1
          have hst := Try.tabStore f
          by_cases h : p % 2 = 1
          · rw [if_pos h] at hS2
            have hb : (bits .and .i64 (p : Int) 1 == 1) = true := by rw [i64_and1, h]; rfl
            go_wp2_with fail
            refine (of_any f y _ wr hy1 hf.out HC.out).mono ?_
            rintro e w' ⟨rfl, rfl⟩
            have hy2 := layT_lt f hf.out y
            have HS := Lib.hid hS2; clear hS2 hS hy1
            generalize layT f y = y2 at *
            go_wp2_with (with_reducible refine wpList_load_row rfl 42 _ rfl w.heap.size rfl 42 (tabV f) (0, 0) _ hT.out Try.underlying42 rfl (by rw [tabV_size]; exact Try.tabInfo) ?_)
            obtain ⟨wo, hwo⟩ : ∃ wo : World, wo = wr := ⟨_, rfl⟩
            subst hwo
            go_loopw [8, 28] (fun _ i wr => ∃ k : Nat, k ≤ 32 ∧ i = .int .i64 k ∧ Hid (wr.heap[w.heap.size]? = some (.cells (tabP (sq f) f k) 42 (0, 0))) ∧ Hid (wr.heap[wo.heap.size]? = some (.cells (tabV f) 42 (0, 0))) ∧ Below w.heap.size w wr) (fun _ i _ => 32 - (intOf i).toNat)
            case atStart => exact ⟨0, by omega, rfl, by rw [tabP_none, Below.heap_alloc _ _ _ hBlt]; exact hT, heap_alloc_new wo _, hB.alloc hsz _⟩
            case round =>
              obtain ⟨k, hk, rfl, hT', hO', hB'⟩ := hrel
              by_cases hlt : k < 32
              · have hck : ∀ j, j < 32 → wr.cell? ⟨wo.heap.size, j, none⟩ = some (.int .u32 (f j : Nat)) := fun j hj => by
                  rw [cell_of_row _ _ _ _ _ _ hO'.out, tabV_at _ _ hj]
                have hread := hck k hlt
                have HCK := Lib.hid hck; clear hck
                have hwr : wr.cell? ⟨w.heap.size, k, none⟩ = some (.int .u32 (f k : Nat)) := by
                  rw [cell_of_row _ _ _ _ _ _ hT'.out, tabP_at _ _ _ _ hlt, if_neg (by omega)]
                have hfr : wr.frozen? ⟨w.heap.size, k, none⟩ = false := frozen_of_row _ _ _ _ _ hT'.out
                go_wp2_with fail
                refine (of_any f (f k) _ wr (hf.out k hlt) hf.out HCK.out).mono ?_
                rintro e w' ⟨rfl, rfl⟩
                go_wp2
                go_roundw
                case rel => exact ⟨k + 1, by omega, by go_num, by rw [← tabP_set]; exact heap_setCell_same _ _ _ _ _ _ hT'.out, by have := heap_setCell_other wr ⟨w.heap.size, k, none⟩ wo.heap.size (.int .u32 (sq f k : Nat)) (by simp; omega); exact this.trans hO'.out, hB'.setCell (Nat.le_refl _) _⟩
                case measure => simp [intOf]; omega
              · obtain rfl : k = 32 := by omega
                rw [tabP_all] at hT'
                go_wp2
                go_roundw
                case rel => exact ⟨sq f, y2, (p / 2 : Nat), rfl, by go_num, hy2, by omega, by omega, fun j _ => sq_lt f hf.out j, HS.out, hT'.out, hB'⟩
                case measure => simp [intOf]; omega
          · rw [if_neg h] at hS2
            have HS := Lib.hid hS2; clear hS2 hS
            have hb : (bits .and .i64 (p : Int) 1 == 1) = false := by rw [i64_and1, show p % 2 = 0 by omega]; rfl
            go_wp2_with (with_reducible refine wpList_load_row rfl 42 _ rfl w.heap.size rfl 42 (tabV f) (0, 0) _ hT.out Try.underlying42 rfl (by rw [tabV_size]; exact Try.tabInfo) ?_)
            obtain ⟨wo, hwo⟩ : ∃ wo : World, wo = wr := ⟨_, rfl⟩
            subst hwo
            go_loopw [8, 28] (fun _ i wr => ∃ k : Nat, k ≤ 32 ∧ i = .int .i64 k ∧ Hid (wr.heap[w.heap.size]? = some (.cells (tabP (sq f) f k) 42 (0, 0))) ∧ Hid (wr.heap[wo.heap.size]? = some (.cells (tabV f) 42 (0, 0))) ∧ Below w.heap.size w wr) (fun _ i _ => 32 - (intOf i).toNat)
            case atStart => exact ⟨0, by omega, rfl, by rw [tabP_none, Below.heap_alloc _ _ _ hBlt]; exact hT, heap_alloc_new wo _, hB.alloc hsz _⟩
            case round =>
              obtain ⟨k, hk, rfl, hT', hO', hB'⟩ := hrel
              by_cases hlt : k < 32
              · have hck : ∀ j, j < 32 → wr.cell? ⟨wo.heap.size, j, none⟩ = some (.int .u32 (f j : Nat)) := fun j hj => by
                  rw [cell_of_row _ _ _ _ _ _ hO'.out, tabV_at _ _ hj]
                have hread := hck k hlt
                have HCK := Lib.hid hck; clear hck
                have hwr : wr.cell? ⟨w.heap.size, k, none⟩ = some (.int .u32 (f k : Nat)) := by
                  rw [cell_of_row _ _ _ _ _ _ hT'.out, tabP_at _ _ _ _ hlt, if_neg (by omega)]
                have hfr : wr.frozen? ⟨w.heap.size, k, none⟩ = false := frozen_of_row _ _ _ _ _ hT'.out
                go_wp2_with fail
                refine (of_any f (f k) _ wr (hf.out k hlt) hf.out HCK.out).mono ?_
                rintro e w' ⟨rfl, rfl⟩
                go_wp2
                go_roundw
                case rel => exact ⟨k + 1, by omega, by go_num, by rw [← tabP_set]; exact heap_setCell_same _ _ _ _ _ _ hT'.out, by have := heap_setCell_other wr ⟨w.heap.size, k, none⟩ wo.heap.size (.int .u32 (sq f k : Nat)) (by simp; omega); exact this.trans hO'.out, hB'.setCell (Nat.le_refl _) _⟩
                case measure => simp [intOf]; omega
              · obtain rfl : k = 32 := by omega
                rw [tabP_all] at hT'
                go_wp2
                go_roundw
                case rel => exact ⟨sq f, y, (p / 2 : Nat), rfl, by go_num, hy1, by omega, by omega, fun j _ => sq_lt f hf.out j, HS.out, hT'.out, hB'⟩
                case measure => simp [intOf]; omega
        · go_wp2
          go_ret
          refine ⟨ret_int ?_, hB⟩
          have := hS.out
          rw [show m.toNat = 0 from by omega] at this
          rw [← this]; unfold shiftF; simp
end Go.Proofs.Ytfojkbnoagfdhaa
