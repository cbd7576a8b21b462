/- The law ArenaNil. -/
import Derived.Test.YtjfbopnohijhkaaArenaN
import Derived.Test.YtjfbopnohijhkaaArenaL1
namespace Go.Proofs.Ytjfbopnohijhkaa
open Go.RowKit
set_option linter.unusedVariables false
set_option maxHeartbeats 2000000 in
set_option maxRecDepth 20000 in
theorem arenaNil_walk (x n : Int) (v : Nat) (A : Option Addr) (cap : Nat) (xs : List UInt8) (W : World) (hv : v < 18446744073709551616) (hr : RdB W A xs) :
    Calls Try.prog 9 #[.agg #[.int .i64 x, .int .i64 n, .int .u64 (v : Int), .slice A xs.length cap]] W fun e w' => e = .returned (.bool true) ∧ Below W.heap.size W w' := by
  have hal : Below W.heap.size W (W.alloc (.cells #[.int .i64 x, .int .i64 n, .int .u64 (v : Int), .slice A xs.length cap] 62 (0, 0))) := (Below.refl _ _).alloc (Nat.le_refl _) _
  have hg := heap_alloc_new W (.cells #[.int .i64 x, .int .i64 n, .int .u64 (v : Int), .slice A xs.length cap] 62 (0, 0))
  have HV := Lib.hid hv; clear hv hr
  go_enter Try.func9, Try.ntmps9
  go_wp2_with fail
  generalize W.alloc (.cells #[.int .i64 x, .int .i64 n, .int .u64 (v : Int), .slice A xs.length cap] 62 (0, 0)) = w0 at hal hg
  have h0 : w0.cell? ⟨W.heap.size, 0, none⟩ = some (.int .i64 x) := by rw [cell_of_row _ _ _ _ _ _ hg]; rfl
  have h1 : w0.cell? ⟨W.heap.size, 1, none⟩ = some (.int .i64 n) := by rw [cell_of_row _ _ _ _ _ _ hg]; rfl
  have h2 : w0.cell? ⟨W.heap.size, 2, none⟩ = some (.int .u64 (v : Int)) := by rw [cell_of_row _ _ _ _ _ _ hg]; rfl
  have h3 : w0.cell? ⟨W.heap.size, 3, none⟩ = some (.slice A xs.length cap) := by rw [cell_of_row _ _ _ _ _ _ hg]; rfl
  have HAL := Lib.hid hal; clear hal hg
  go_quiet (fail)
  have HB0 := Lib.hid (below_drewN HAL.out nq)
  clear h0 h1 h2 h3 HAL
  generalize w0.drewN nq = w1 at HB0
  go_wp2_with fail
  refine (read_nil x n).mono ?_
  rintro e w2 ⟨⟨A2, c2, rfl⟩, hB2⟩
  have HB2 := Lib.hid (HB0.out.trans (hB2.mono HB0.out.size)); clear hB2 HB0
  go_wp2_with fail
  refine (word_nil x).mono ?_
  rintro e w3 ⟨rfl, rfl⟩
  go_wp2_with fail
  refine (place_nil x).mono ?_
  rintro e w3 ⟨rfl, rfl⟩
  go_wp2_with fail
  refine (addr_nil x n).mono ?_
  rintro e w3 ⟨rfl, rfl⟩
  go_wp2_with fail
  refine (alive_any w2).mono ?_
  rintro e w3 ⟨rfl, hB3⟩
  have HB3 := Lib.hid (HB2.out.trans (hB3.mono HB2.out.size)); clear hB3 HB2
  go_wp2_with fail
  refine (write_nil x A cap xs).mono ?_
  rintro e w4 ⟨rfl, rfl⟩
  go_wp2_with fail
  refine (zero_nil x n).mono ?_
  rintro e w4 ⟨rfl, rfl⟩
  go_wp2_with fail
  refine (move_nil x n x).mono ?_
  rintro e w4 ⟨rfl, rfl⟩
  go_wp2_with fail
  refine (put_nil x v HV.out).mono ?_
  rintro e w4 ⟨rfl, hB4⟩
  have HB4 := Lib.hid (HB3.out.trans (hB4.mono HB3.out.size)); clear hB4 HB3
  go_wp2_with fail
  refine (base_nil).mono ?_
  rintro e w5 ⟨rfl, rfl⟩
  go_wp2_with fail
  refine (pages_nil).mono ?_
  rintro e w5 ⟨rfl, rfl⟩
  go_wp2_with fail
  refine (end_nil).mono ?_
  rintro e w5 ⟨rfl, rfl⟩
  go_wp2_with fail
  refine (bytes_nil).mono ?_
  rintro e w5 ⟨rfl, rfl⟩
  go_wp2_with fail
  refine (in_nil x n).mono ?_
  rintro e w5 ⟨rfl, rfl⟩
  go_wp2
  go_ret
  exact ⟨rfl, HB4.out⟩
theorem arenaNil_front (cs : Array Value) (W : World) (hz : cs.size = 4) (hR : rStruct [rInt .i64, rInt .i64, rInt .u64, rSlice 1 1 (rInt .u8)] W cs.toList) :
    Calls Try.prog 9 #[.agg cs] W fun e w' => e = .returned (.bool true) ∧ Below W.heap.size W w' := by
  obtain ⟨x0, x1, x2, x3, rfl⟩ : ∃ x0 x1 x2 x3, cs = #[x0, x1, x2, x3] := by
    obtain ⟨l⟩ := cs
    match l, hz with
    | [x0, x1, x2, x3], _ => exact ⟨x0, x1, x2, x3, rfl⟩
  obtain ⟨a, h0, hw0⟩ := hR 0 _ x0 rfl rfl
  obtain ⟨b, h1, hw1⟩ := hR 1 _ x1 rfl rfl
  obtain ⟨c, h2, hw2⟩ := hR 2 _ x2 rfl rfl
  obtain ⟨A, cap, bs, h3, _, _, hl, hr⟩ := rSlice_bytes (hR 3 _ x3 rfl rfl)
  simp at h0 h1 h2
  subst h0 h1 h2
  first | subst h3 | (simp at h3; subst h3)
  have b2 := bounds_u64 hw2
  obtain ⟨c', rfl⟩ := Int.eq_ofNat_of_zero_le b2.1
  exact arenaNil_walk a b c' A cap bs W (by omega) hr
end Go.Proofs.Ytjfbopnohijhkaa
