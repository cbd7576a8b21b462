/- The first example of the document, and what the laws begin with. -/
import Derived.Test.YtjfbopnohijhkaaArenaW2
namespace Go.Proofs.Ytjfbopnohijhkaa
open Go.RowKit
def z512 : List UInt8 := List.replicate 512 0
def al1 : List UInt8 := wrB 512 z512 512 [1, 2, 3]
def al2 : List UInt8 := wrB 512 al1 513 (rdA 512 al1 512 3)
theorem al1_len : al1.length = 512 := by kernel_rfl
theorem al2_rd : rdA 512 al2 512 4 = [1, 1, 2, 3] := by kernel_rfl
theorem al_in0 : inA 512 z512.length 512 ([1, 2, 3] : List UInt8).length = true := by kernel_rfl
theorem al_in1 : inA 512 al1.length 512 3 = true := by kernel_rfl
theorem al_in2 : inA 512 al1.length 513 3 = true := by kernel_rfl
theorem al_in3 : inA 512 al2.length 512 4 = true := by kernel_rfl
set_option maxHeartbeats 1000000 in
set_option maxRecDepth 20000 in
theorem alive_any (w : World) : Calls Try.prog 10 #[] w fun e w' => e = .returned (.bool true) ∧ Below w.heap.size w w' := by
  go_enter Try.func10, Try.ntmps10
  go_wp2_with fail
  refine (new_any 512 2 w (by omega) (by omega) (by omega) rfl).mono ?_
  rintro e w1 ⟨g, gb, rfl, hg, hgb, hA, hB⟩
  have HG := Lib.hid hg; clear hg
  have HGB := Lib.hid hgb; clear hgb
  have HA := Lib.hid (show Arn w1 71 g gb 512 z512 from hA); clear hA
  have HB := Lib.hid hB; clear hB
  go_wp2_with fail
  refine (end_any HA.out).mono ?_
  rintro e w2 ⟨rfl, rfl⟩
  rw [show (512 : Int) + (z512.length : Int) = 1024 from by rw [show z512.length = 512 from by kernel_rfl]; rfl]
  go_wp2_with fail
  have hal : Below w1.heap.size w1 (w1.alloc (.cells (bv [1, 2, 3]).toArray 5 (0, 0))) := (Below.refl _ _).alloc (Nat.le_refl _) _
  have hr0 : RdB (w1.alloc (.cells (bv [1, 2, 3]).toArray 5 (0, 0))) (some ⟨w1.heap.size, 0, none⟩) [1, 2, 3] := RdB.new w1 [1, 2, 3] _ _ _ rfl (by simp)
  refine (write_any (T := 71) (bs := z512) (HA.out.below hal) 512 [1, 2, 3] _ 3 hr0).mono ?_
  rintro e w2 ⟨rfl, hA2, hg2⟩
  rw [al_in0, show okN true = 0 from rfl]
  have HB2 := Lib.hid ((HB.out.trans (hal.mono HB.out.size)).grown hg2 (HB.out.trans (hal.mono HB.out.size)).size (fun k hk => by cases hk; exact HGB.out)); clear hg2 hal hr0
  have HA2 := Lib.hid (show Arn w2 71 g gb 512 al1 from hA2); clear hA2
  clear HB HA
  go_wp2_with fail
  refine (move_any HA2.out 512 513 3).mono ?_
  rintro e w3 ⟨rfl, hA3, hg3⟩
  rw [al_in1, al_in2, show okN (true && true) = 0 from rfl]
  rw [if_pos al_in1] at hA3
  have HB3 := Lib.hid (HB2.out.grown hg3 HB2.out.size (fun k hk => by cases hk; exact HGB.out)); clear hg3
  have HA3 := Lib.hid (show Arn w3 71 g gb 512 al2 from hA3); clear hA3
  clear HB2 HA2
  go_wp2_with fail
  refine (read_any HA3.out 512 4).mono ?_
  rintro e w4 ⟨v, rfl, hO4, hB4⟩
  rw [al_in3, show okN true = 0 from rfl]
  rw [al2_rd] at hO4
  have HB4 := Lib.hid (HB3.out.trans (hB4.mono HB3.out.size)); clear hB4 HB3
  obtain ⟨A4, c4, rfl, hr4⟩ := hO4.rd
  have hst := run_strB (P := Try.prog) w4 33 5 9 Try.underlying33 Try.underlying5 Try.underlying9 A4 4 c4 [1, 1, 2, 3] rfl hr4
  clear hO4 hr4
  go_wp2_with fail
  go_ret
  exact ⟨rfl, HB4.out⟩
theorem lbase_any (n : Nat) (hn : n ≤ 4294967295) (w : World) : Calls Try.prog 12 #[.int .u32 (n : Int)] w fun e w' => e = .returned (.int .i64 (256 + 256 * (n : Int))) ∧ w = w' := by
  go_enter Try.func12, Try.ntmps12
  go_wp2
  go_ret
  exact ⟨ret_int (by omega), rfl⟩
theorem good_lbase (n : Nat) (hn : n ≤ 4294967295) : goodB (256 + 256 * (n : Int)) = true := by
  unfold goodB
  rw [decide_eq_true_iff]
  omega
end Go.Proofs.Ytjfbopnohijhkaa
