/- An arena that is not there. -/
import Derived.Test.YtjfbopnohijhkaaArenaW3
namespace Go.Proofs.Ytjfbopnohijhkaa
open Go.RowKit
section
variable {w : World}
theorem base_nil : Calls Try.prog 18 #[.pointer none] w fun e w' => e = .returned (.int .i64 0) ∧ w = w' := by
  go_enter Try.func18, Try.ntmps18
  go_wp2
  go_ret
  exact ⟨rfl, rfl⟩
theorem pages_nil : Calls Try.prog 19 #[.pointer none] w fun e w' => e = .returned (.int .i64 0) ∧ w = w' := by
  go_enter Try.func19, Try.ntmps19
  go_wp2
  go_ret
  exact ⟨rfl, rfl⟩
theorem end_nil : Calls Try.prog 20 #[.pointer none] w fun e w' => e = .returned (.int .i64 0) ∧ w = w' := by
  go_enter Try.func20, Try.ntmps20
  go_wp2_with fail
  refine base_nil.mono ?_
  rintro e w1 ⟨rfl, rfl⟩
  go_wp2_with fail
  refine pages_nil.mono ?_
  rintro e w1 ⟨rfl, rfl⟩
  go_wp2
  go_ret
  exact ⟨rfl, rfl⟩
theorem in_nil (x n : Int) : Calls Try.prog 14 #[.pointer none, .int .i64 x, .int .i64 n] w fun e w' => e = .returned (.bool false) ∧ w = w' := by
  go_enter Try.func14, Try.ntmps14
  go_wp2
  go_ret
  exact ⟨rfl, rfl⟩
theorem at_nil (x n : Int) : Calls Try.prog 33 #[.pointer none, .int .i64 x, .int .i64 n] w fun e w' => e = .returned (.tuple #[.slice none 0 0, .int .i64 1]) ∧ w = w' := by
  go_enter Try.func33, Try.ntmps33
  go_wp2
  go_ret2
  exact ⟨rfl, rfl⟩
theorem read_nil (x n : Int) : Calls Try.prog 29 #[.pointer none, .int .i64 x, .int .i64 n] w fun e w' => (∃ A c, e = .returned (.tuple #[.slice A 0 c, .int .i64 1])) ∧ Below w.heap.size w w' := by
  go_enter Try.func29, Try.ntmps29
  go_wp2_with fail
  refine (at_nil x n).mono ?_
  rintro e w1 ⟨rfl, rfl⟩
  go_wp2
  go_ret2
  exact ⟨⟨_, _, rfl⟩, (Below.refl _ _).alloc (Nat.le_refl _) _⟩
theorem word_nil (x : Int) : Calls Try.prog 30 #[.pointer none, .int .i64 x] w fun e w' => e = .returned (.tuple #[.int .u64 0, .int .i64 1]) ∧ w = w' := by
  go_enter Try.func30, Try.ntmps30
  go_wp2_with fail
  refine (at_nil x 8).mono ?_
  rintro e w1 ⟨rfl, rfl⟩
  go_wp2_with fail
  refine (get_any none 0 [] w ⟨by simp, fun h => by simp [bv] at h⟩).mono ?_
  rintro e w1 ⟨rfl, rfl⟩
  go_wp2
  go_ret2
  exact ⟨rfl, rfl⟩
theorem write_nil (x : Int) (A : Option Addr) (c : Nat) (xs : List UInt8) : Calls Try.prog 21 #[.pointer none, .int .i64 x, .slice A xs.length c] w fun e w' => e = .returned (.int .i64 1) ∧ w = w' := by
  go_enter Try.func21, Try.ntmps21
  go_wp2_with fail
  refine (at_nil x _).mono ?_
  rintro e w1 ⟨rfl, rfl⟩
  have hcp := run_copy_none (P := Try.prog) w 33 33 3 5 none A 0 0 xs.length c Try.underlying33 rfl (by simp)
  go_wp2
  go_ret
  exact ⟨rfl, rfl⟩
theorem zero_nil (x n : Int) : Calls Try.prog 31 #[.pointer none, .int .i64 x, .int .i64 n] w fun e w' => e = .returned (.int .i64 1) ∧ w = w' := by
  go_enter Try.func31, Try.ntmps31
  go_wp2_with fail
  refine (at_nil x n).mono ?_
  rintro e w1 ⟨rfl, rfl⟩
  have hcp := run_clear_none (P := Try.prog) w 33 0 5 Try.underlying33 none 0
  go_wp2
  go_ret
  exact ⟨rfl, rfl⟩
theorem move_nil (x y n : Int) : Calls Try.prog 23 #[.pointer none, .int .i64 x, .int .i64 y, .int .i64 n] w fun e w' => e = .returned (.int .i64 1) ∧ w = w' := by
  go_enter Try.func23, Try.ntmps23
  go_wp2_with fail
  refine (at_nil x n).mono ?_
  rintro e w1 ⟨rfl, rfl⟩
  go_wp2
  go_ret
  exact ⟨rfl, rfl⟩
theorem put_nil (x : Int) (n : Nat) (hn : n < 18446744073709551616) : Calls Try.prog 32 #[.pointer none, .int .i64 x, .int .u64 (n : Int)] w fun e w' => e = .returned (.int .i64 1) ∧ Below w.heap.size w w' := by
  have HN := Lib.hid hn; clear hn
  go_enter Try.func32, Try.ntmps32
  go_wp2_with fail
  refine (put8_any n w HN.out).mono ?_
  rintro e w1 ⟨A1, c1, rfl, hr1, hB1⟩
  have HB := Lib.hid hB1; clear hB1 hr1
  go_wp2_with fail
  refine (write_nil x A1 c1 (leB n 8)).mono ?_
  rintro e w2 ⟨rfl, rfl⟩
  go_wp2
  go_ret
  exact ⟨rfl, HB.out⟩
theorem place_nil (x : Int) : Calls Try.prog 26 #[.pointer none, .int .i64 x] w fun e w' => e = .returned (.tuple #[.int .i64 0, .int .i64 0, .bool false]) ∧ w = w' := by
  go_enter Try.func26, Try.ntmps26
  go_wp2_with fail
  refine (in_nil x 1).mono ?_
  rintro e w1 ⟨rfl, rfl⟩
  go_wp2
  go_ret3
  exact ⟨rfl, rfl⟩
theorem bytes_nil : Calls Try.prog 22 #[.pointer none] w fun e w' => e = .returned (.slice none 0 0) ∧ w = w' := by
  go_enter Try.func22, Try.ntmps22
  go_wp2
  go_ret
  exact ⟨rfl, rfl⟩
theorem addr_nil (p o : Int) : Calls Try.prog 25 #[.pointer none, .int .i64 p, .int .i64 o] w fun e w' => e = .returned (.tuple #[.int .i64 0, .bool false]) ∧ w = w' := by
  by_cases h1 : p < 0
  · go_enter Try.func25, Try.ntmps25
    go_wp2
    go_ret2
    exact ⟨rfl, rfl⟩
  · have h2 : 0 ≤ p := by omega
    go_enter Try.func25, Try.ntmps25
    go_wp2_with fail
    refine pages_nil.mono ?_
    rintro e w1 ⟨rfl, rfl⟩
    go_wp2
    go_ret2
    exact ⟨rfl, rfl⟩
end
end Go.Proofs.Ytjfbopnohijhkaa
