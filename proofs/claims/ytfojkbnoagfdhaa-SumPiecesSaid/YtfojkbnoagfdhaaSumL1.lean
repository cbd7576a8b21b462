/- The laws SumIs, SumShifts as walks: they answer true. -/
import Derived.Test.YtfojkbnoagfdhaaSumW6
import Derived.Test.YtfojkbnoagfdhaaMem
namespace Go.Proofs.Ytfojkbnoagfdhaa
open Go.RowKit

theorem Try.slB : SlT Try.prog 23 5 (.int .u8 0) 1 1 := ⟨Try.underlying23, by kernel_rfl, rfl, by decide⟩

set_option maxHeartbeats 1000000 in
theorem sumIs_walk (s : Nat) (A : Option Addr) (cap : Nat) (bs : List UInt8) (w : World) (hs : s < 4294967296) (hr : RdB w A bs) (hlen : bs.length ≤ 140737488351232) :
    Calls Try.prog 3 #[.int .u32 (s : Int), .slice A bs.length cap] w fun e w' => e = .returned (.bool true) ∧ Below w.heap.size w w' := by
  have hst := fun (W : World) (A : Option Addr) (n c : Nat) (hn : n = bs.length) (h : RdB W A bs) => run_strB (P := Try.prog) W 23 5 9 Try.underlying23 Try.underlying5 Try.underlying9 A n c bs hn h
  have HST := Lib.hid hst; clear hst
  go_enter Try.func3, Try.ntmps3
  go_wp2_with fail
  refine (alive_any w).mono ?_
  rintro e w1 ⟨rfl, hb1⟩
  have hr1 := hr.below (hb1.alloc hb1.size (.cells #[] 5))
  go_wp2_with (at_builtin; refine wpList_appB w w.heap.size Try.slB rfl (.tmp 8) (.tmp 9) rfl _ [] rfl (own_empty w1 _ _ _ hb1.size) A bs.length cap bs rfl rfl hr1 bs rfl (by omega) (hb1.alloc hb1.size _) (Nat.le_refl _) ?_; intro A2 c2 w2 hown2 hr2 hb2 hg2 hat2; clear hg2 hat2 hown2 hr1)
  have hrb := (hr.below hb1)
  have hr3 := hr.below hb2
  have hc2 := HST.out w2 A2 _ c2 rfl hr2
  have hc3 := HST.out w2 A _ cap rfl hr3
  have HC2 := Lib.hid hc2; clear hc2
  have HC3 := Lib.hid hc3; clear hc3
  refine (sum_any A2 c2 bs w2 hr2).mono ?_
  rintro e w' ⟨rfl, rfl⟩
  go_wp2_with fail
  refine (refSum_any A cap bs w2 hr3).mono ?_
  rintro e w' ⟨rfl, rfl⟩
  go_wp2_with fail
  refine (more_any s A2 c2 bs w2 hs hr2).mono ?_
  rintro e w' ⟨rfl, rfl⟩
  go_wp2_with fail
  refine (refMore_any s A cap bs w2 hs hr3).mono ?_
  rintro e w' ⟨rfl, rfl⟩
  have hc2 := HC2.out
  have hc3 := HC3.out
  go_wp2
  go_ret
  exact ⟨rfl, hb2⟩

set_option maxHeartbeats 1000000 in
theorem sumShifts_walk (a b : Nat) (n : Int) (w : World) (ha : a < 4294967296) (hb : b < 4294967296) (hn : n ≤ 9223372036854775807) (hn0 : -9223372036854775808 ≤ n) :
    Calls Try.prog 4 #[.int .u32 (a : Int), .int .u32 (b : Int), .int .i64 n] w fun e w' => e = .returned (.bool true) ∧ Below w.heap.size w w' := by
  go_enter Try.func4, Try.ntmps4
  go_wp2_with fail
  refine (alive_any w).mono ?_
  rintro e w1 ⟨rfl, hb1⟩
  go_wp2_with fail
  refine (shift_any a n w1 ha hn hn0).mono ?_
  rintro e w2 ⟨rfl, hb2⟩
  go_wp2_with fail
  refine (refShift_any a n w2 ha hn hn0).mono ?_
  rintro e w3 ⟨rfl, hb3⟩
  go_wp2_with fail
  refine (join_any a b n w3 ha hb hn hn0).mono ?_
  rintro e w4 ⟨rfl, hb4⟩
  go_wp2_with fail
  refine (refJoin_any a b n w4 ha hb hn hn0).mono ?_
  rintro e w5 ⟨rfl, hb5⟩
  go_wp2
  go_ret
  exact ⟨rfl, hb1.trans ((hb2.mono hb1.size).trans ((hb3.mono (Nat.le_trans hb1.size hb2.size)).trans ((hb4.mono (by have := hb1.size; have := hb2.size; have := hb3.size; omega)).trans (hb5.mono (by have := hb1.size; have := hb2.size; have := hb3.size; have := hb4.size; omega)))))⟩
end Go.Proofs.Ytfojkbnoagfdhaa
