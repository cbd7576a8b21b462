/- The laws SumJoins, SumSteps as walks: they answer true. -/
import Derived.Test.YtfojkbnoagfdhaaSumL1
import Derived.Test.YtfojkbnoagfdhaaSumPlain
import Derived.Test.YtfojkbnoagfdhaaOpen
import Derived.Deep.QuietTactic
import Derived.BigQuiet
namespace Go.Proofs.Ytfojkbnoagfdhaa
open Go.RowKit

theorem shift_twice (s a b : Nat) (hs : s < 4294967296) : shift (shift s a) b = shift s (a + b) := by
  rw [shift_steps _ _ (shift_lt s a hs), shift_steps _ _ hs, shift_steps _ _ hs, ← stN_add, Nat.mul_add]
theorem shift_xor (s t a : Nat) (hs : s < 4294967296) (ht : t < 4294967296) : shift (s ^^^ t) a = shift s a ^^^ shift t a := by
  rw [shift_steps _ _ (xor_lt32 hs ht), shift_steps _ _ hs, shift_steps _ _ ht, stN_xor]
theorem shift_none (s : Nat) (hs : s < 4294967296) : shift s 0 = s := by
  rw [shift_steps _ _ hs]; rfl
theorem below_drewN {B : Nat} {w W : World} (h : Below B w W) (n : Nat) : Below B w (W.drewN n) := ⟨h.os, h.tape, h.output, h.size, h.block⟩
theorem below_then {B : Nat} {w w1 w2 : World} (h : Below B w w1) (hB : B ≤ w.heap.size) (k : Below w1.heap.size w1 w2) : Below B w w2 := h.trans (k.mono (Nat.le_trans hB h.size))

set_option maxHeartbeats 1000000 in
theorem sumJoins_walk (A : Option Addr) (cap : Nat) (xs : List UInt8) (A' : Option Addr) (cap' : Nat) (ys : List UInt8) (w : World) (hr : RdB w A xs) (_hl : xs.length ≤ 140737488351232) (hr' : RdB w A' ys) (_hl' : ys.length ≤ 140737488351232) :
    Calls Try.prog 6 #[.slice A xs.length cap, .slice A' ys.length cap'] w fun e w' => e = .returned (.bool true) ∧ Below w.heap.size w w' := by
  have hlx := hr.len
  have hly := hr'.len
  by_cases h1 : 5000 < xs.length
  · go_enter Try.func6, Try.ntmps6
    go_wp2_with fail
    refine (alive_any w).mono ?_
    rintro e w1 ⟨rfl, hb1⟩
    go_wp2
    go_ret
    exact ⟨rfl, hb1⟩
  by_cases h2 : 5000 < ys.length
  · go_enter Try.func6, Try.ntmps6
    go_wp2_with fail
    refine (alive_any w).mono ?_
    rintro e w1 ⟨rfl, hb1⟩
    go_wp2
    go_ret
    exact ⟨rfl, hb1⟩
  have HJ := Lib.hid (sum_join xs ys)
  go_enter Try.func6, Try.ntmps6
  go_wp2_with fail
  refine (alive_any w).mono ?_
  rintro e w1 ⟨rfl, hb1⟩
  have hr1 := hr.below hb1
  have hr1' := hr'.below hb1
  go_wp2_with fail
  refine (sum_any A cap xs w1 hr1).mono ?_
  rintro e w' ⟨rfl, rfl⟩
  go_wp2_with fail
  refine (sum_any A' cap' ys w1 hr1').mono ?_
  rintro e w' ⟨rfl, rfl⟩
  go_wp2_with fail
  refine (join_any _ _ (ys.length : Int) w1 (sum_lt xs) (sum_lt ys) (by omega) (by omega)).mono ?_
  rintro e w2 ⟨rfl, hb2⟩
  rw [Int.toNat_natCast, ← HJ.out]
  have hB2 := below_then hb1 (Nat.le_refl _) hb2
  clear hb2 hb1 hr1 hr1'
  have hr2 := hr.below (hB2.alloc hB2.size (.cells #[] 5))
  go_wp2_with (first | (at_builtin; refine wpList_appB w w.heap.size Try.slB rfl (.tmp 22) (.tmp 23) rfl _ [] rfl (own_empty w2 _ _ _ hB2.size) A xs.length cap xs rfl rfl hr2 xs rfl (by omega) (hB2.alloc hB2.size _) (Nat.le_refl _) ?_; intro A3 c3 w3 hown3 hr3 hB3 hg3 hat3; clear hg3 hat3 hr2 hr3; have hr3' := hr'.below hB3) | (at_builtin; refine wpList_appB w w.heap.size Try.slB rfl (.tmp 24) (.tmp 25) rfl _ xs rfl hown3 A' ys.length cap' ys rfl rfl hr3' (xs ++ ys) rfl (by simp; omega) hB3 (Nat.le_refl _) ?_; intro A4 c4 w4 hown4 hr4 hB4 hg4 hat4; clear hg4 hat4 hown3 hr3'))
  refine (sum_at A4 (xs.length + ys.length) c4 (xs ++ ys) w4 hr4 (by simp)).mono ?_
  rintro e w' ⟨rfl, rfl⟩
  go_wp2
  go_ret
  exact ⟨rfl, hB4⟩

set_option maxHeartbeats 1000000 in
theorem sumSteps_walk (s t a b : Nat) (w : World) (hs : s < 4294967296) (ht : t < 4294967296) (ha : a < 4294967296) (hb : b < 4294967296) :
    Calls Try.prog 7 #[.int .u32 (s : Int), .int .u32 (t : Int), .agg #[.int .u32 (a : Int), .int .u32 (b : Int)]] w fun e w' => e = .returned (.bool true) ∧ Below w.heap.size w w' := by
  go_enter Try.func7, Try.ntmps7
  go_wp2_with fail
  refine (alive_any _).mono ?_
  rintro e w1 ⟨rfl, hb1⟩
  have hc0 : w1.cell? ⟨w.heap.size, 0, none⟩ = some (.int .u32 (a : Int)) := cell_below hb1 (by rw [cell_of_row _ _ _ _ _ _ (heap_alloc_new w _)]; rfl)
  have hc1 : w1.cell? ⟨w.heap.size, 1, none⟩ = some (.int .u32 (b : Int)) := cell_below hb1 (by rw [cell_of_row _ _ _ _ _ _ (heap_alloc_new w _)]; rfl)
  have hB1 : Below w.heap.size w w1 := ((Below.refl _ _).alloc (Nat.le_refl _) _).trans (hb1.mono (by simp))
  clear hb1
  have HA := Lib.hid (shift_twice s a b hs)
  have HB := Lib.hid (shift_xor s t a hs ht)
  go_wp2_with fail
  go_quiet (fail)
  have hB2 : Below w.heap.size w (w1.drewN nq) := below_drewN hB1 nq
  clear hc0 hc1 hB1
  generalize w1.drewN nq = w2 at *
  have HX := Lib.hid (xor_32 s t hs ht)
  have HY := Lib.hid (xor_32 _ _ (shift_lt s a hs) (shift_lt t a ht))
  have HN := Lib.hid (shift_none s hs)
  go_wp2_with fail
  refine (shift_any s a w2 hs (by omega) (by omega)).mono ?_
  rintro e w3 ⟨rfl, hb3⟩
  rw [Int.toNat_natCast]
  have hB3 := below_then hB2 (Nat.le_refl _) hb3
  go_wp2_with fail
  refine (shift_any _ b w3 (shift_lt s a hs) (by omega) (by omega)).mono ?_
  rintro e w4 ⟨rfl, hb4⟩
  rw [Int.toNat_natCast, HA.out]
  have hB4 := below_then hB3 (Nat.le_refl _) hb4
  clear hb3 hb4 hB2 hB3
  go_wp2_with fail
  refine (shift_any s _ w4 hs (by omega) (by omega)).mono ?_
  rintro e w5 ⟨rfl, hb5⟩
  rw [show ((a : Int) + (b : Int)).toNat = a + b by omega]
  have hB5 := below_then hB4 (Nat.le_refl _) hb5
  go_wp2_with fail
  rw [HX.out]
  refine (shift_any _ a w5 (xor_lt32 hs ht) (by omega) (by omega)).mono ?_
  rintro e w6 ⟨rfl, hb6⟩
  rw [Int.toNat_natCast, HB.out]
  have hB6 := below_then hB5 (Nat.le_refl _) hb6
  clear hb5 hb6 hB4 hB5
  go_wp2_with fail
  refine (shift_any s a w6 hs (by omega) (by omega)).mono ?_
  rintro e w7 ⟨rfl, hb7⟩
  rw [Int.toNat_natCast]
  have hB7 := below_then hB6 (Nat.le_refl _) hb7
  go_wp2_with fail
  refine (shift_any t a w7 ht (by omega) (by omega)).mono ?_
  rintro e w8 ⟨rfl, hb8⟩
  rw [Int.toNat_natCast]
  have hB8 := below_then hB7 (Nat.le_refl _) hb8
  clear hb7 hb8 hB6 hB7
  have hy := HY.out
  go_wp2_with fail
  refine (shift_any s _ w8 hs (by omega) (by omega)).mono ?_
  rintro e w9 ⟨rfl, hb9⟩
  rw [show (-(b : Int)).toNat = 0 by omega, HN.out]
  have hB9 := below_then hB8 (Nat.le_refl _) hb9
  clear hb9 hB8
  go_wp2
  go_ret
  exact ⟨rfl, hB9⟩
theorem int_cell {w : World} {k : IntKind} {c : Value} (h : rInt k w [c]) : ∃ n, c = .int k n ∧ (Lit.int k n).wf = true := by
  obtain ⟨n, h1, h2⟩ := h
  simp at h1
  exact ⟨n, h1, h2⟩
theorem nat_u32 {n : Int} (h : (Lit.int .u32 n).wf = true) : ∃ m : Nat, n = m ∧ m < 4294967296 := by
  have hb := Go.bounds_u32 h
  exact ⟨n.toNat, by omega, by omega⟩
theorem sumSteps_front (s t : Nat) (cs : Array Value) (W : World) (hs : s < 4294967296) (ht : t < 4294967296) (hz : cs.size = 2) (hR : rStruct [rInt .u32, rInt .u32] W cs.toList) :
    Calls Try.prog 7 #[.int .u32 (s : Int), .int .u32 (t : Int), .agg cs] W fun e w' => e = .returned (.bool true) ∧ Below W.heap.size W w' := by
  obtain ⟨c0, c1, rfl⟩ : ∃ c0 c1, cs = #[c0, c1] := by
    obtain ⟨l⟩ := cs
    match l, hz with
    | [c0, c1], _ => exact ⟨c0, c1, rfl⟩
  obtain ⟨a, rfl, ha⟩ := int_cell (hR 0 _ c0 rfl rfl)
  obtain ⟨b, rfl, hb⟩ := int_cell (hR 1 _ c1 rfl rfl)
  obtain ⟨a', rfl, ha'⟩ := nat_u32 ha
  obtain ⟨b', rfl, hb'⟩ := nat_u32 hb
  exact sumSteps_walk s t a' b' W hs ht ha' hb'
end Go.Proofs.Ytfojkbnoagfdhaa
