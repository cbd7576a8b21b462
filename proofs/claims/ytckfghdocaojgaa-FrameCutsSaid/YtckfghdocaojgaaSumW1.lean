/- The walks of steps, step, More (both packages), Sum (both): what they answer in plain numbers. -/
import Derived.Test.YtckfghdocaojgaaProg
import Derived.LoopTactic
import Derived.Outline
import Derived.KernelRfl
import Derived.WalkLawsBesides
import Derived.Test.YtckfghdocaojgaaSumMath
namespace Go.Proofs.Ytckfghdocaojgaa
open Go.RowKit

theorem and1_32 (y : Nat) (h : y < 4294967296) : bits .and .u32 (y : Int) 1 = ((y % 2 : Nat) : Int) := by
  rw [show (1 : Int) = ((1 : Nat) : Int) from rfl, u32_and_nat y 1 h (by decide), nat_mask1]
theorem xor_32 (a b : Nat) (ha : a < 4294967296) (hb : b < 4294967296) : bits .xor .u32 (a : Int) (b : Int) = ((a ^^^ b : Nat) : Int) := u32_xor_nat a b ha hb

set_option maxHeartbeats 400000 in
theorem steps_any (x : Nat) (w : World) (h1 : x < 4294967296) :
    Calls Try.prog 33 #[.int .u32 (x : Int)] w fun e w' => e = .returned (.int .u32 (stN 8 x : Nat)) ∧ w = w' := by
  go_enter Try.func33, Try.ntmps33
  go_wp2
  go_loop [0, 3] (fun v i => ∃ (k y : Nat), k ≤ 8 ∧ i = .int .i64 k ∧ v = .int .u32 (y : Int) ∧ y < 4294967296 ∧ Hid (stN (8 - k) y = stN 8 x)) (fun _ i => 8 - (intOf i).toNat)
  case atStart => exact ⟨0, x, by omega, rfl, rfl, h1, rfl⟩
  case round =>
    obtain ⟨k, y, hk, rfl, rfl, hy1, hH⟩ := hrel
    have ha := and1_32 y hy1
    by_cases hlt : k < 8
    · rcases Nat.mod_two_eq_zero_or_one y with h | h
      · have hb : (bits .and .u32 (y : Int) 1 == 1) = false := by rw [ha, h]; rfl
        clear ha
        go_wp2
        go_round
        case rel =>
          refine ⟨k + 1, y / 2, by omega, by go_num, by go_num, by omega, ?_⟩
          have hH := hH.out
          rw [show 8 - k = (8 - (k + 1)) + 1 from by omega] at hH
          rw [← hH]
          show stN _ _ = stN _ (st y)
          unfold st; rw [if_neg (by omega)]
        case measure => simp [intOf]; omega
      · have hb : (bits .and .u32 (y : Int) 1 == 1) = true := by rw [ha, h]; rfl
        clear ha
        go_wp2
        go_round
        case rel =>
          refine ⟨k + 1, (y / 2) ^^^ 2197175160, by omega, by go_num, ?_, xor_lt32 (by omega) (by decide), ?_⟩
          · rw [← xor_32 _ _ (by omega) (by decide)]; rfl
          have hH := hH.out
          rw [show 8 - k = (8 - (k + 1)) + 1 from by omega] at hH
          rw [← hH]
          show stN _ _ = stN _ (st y)
          unfold st; rw [if_pos h]
        case measure => simp [intOf]; omega
    · obtain rfl : k = 8 := by omega
      clear ha
      go_wp2
      go_ret
      exact ⟨ret_int (by have := hH.out; simp [stN] at this ⊢; exact_mod_cast this), rfl⟩

set_option maxHeartbeats 400000 in
theorem step_any (x : Nat) (w : World) (h1 : x < 4294967296) :
    Calls Try.prog 34 #[.int .u32 (x : Int)] w fun e w' => e = .returned (.int .u32 (st x : Nat)) ∧ w = w' := by
  have hx := xor_32 (x / 2) 2197175160 (by omega) (by decide)
  rcases Nat.mod_two_eq_zero_or_one x with h | h
  · have hb : ((x : Int) % 2 == 1) = false := by rw [show (x : Int) % 2 = ((x % 2 : Nat) : Int) from rfl, h]; rfl
    clear hx
    go_enter Try.func34, Try.ntmps34
    go_wp2
    go_ret
    exact ⟨ret_int (by unfold st; rw [if_neg (by omega)]; omega), rfl⟩
  · have hb : ((x : Int) % 2 == 1) = true := by rw [show (x : Int) % 2 = ((x % 2 : Nat) : Int) from rfl, h]; rfl
    have HX := Lib.hid hx; clear hx
    go_enter Try.func34, Try.ntmps34
    go_wp2
    go_ret
    exact ⟨ret_int (by unfold st; rw [if_pos h]; exact HX.out), rfl⟩
end Go.Proofs.Ytckfghdocaojgaa
