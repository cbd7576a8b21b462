/- The walks of Var, of the program and of the reference. -/
import Derived.Test.YtdeeeipdgoafaaaProg
import Derived.LoopTactic
import Derived.Outline
import Derived.KernelRfl
import Derived.WalkLawsBesides
import Derived.Test.YtdeeeipdgoafaaaNumMath
import Derived.Test.YtdeeeipdgoafaaaSame
namespace Go.Proofs.Ytdeeeipdgoafaaa
open Go.RowKit

set_option maxHeartbeats 1000000 in
set_option maxRecDepth 20000 in
theorem var_any (n : Nat) (w : World) (hn : n < 18446744073709551616) :
    Calls Try.prog 36 #[.int .u64 (n : Int)] w fun e w' => ∃ A c, e = .returned (.slice A (varB n).length c) ∧ OwnB w' w.heap.size 5 (.slice A (varB n).length c) (varB n) ∧ Below w.heap.size w w' := by
  have hlen := varB_len10 n hn
  clear hn
  go_enter Try.func36, Try.ntmps36
  go_wp2
  go_loopw [0, 3] (fun v o wr => ∃ (m c : Nat) (A : Option Addr) (xs : List UInt8), v = .int .u64 (m : Int) ∧ o = .slice A xs.length c ∧ Hid (OwnB wr w.heap.size 5 (.slice A xs.length c) xs) ∧ Hid (xs ++ varB m = varB n) ∧ Below w.heap.size w wr) (fun v _ _ => (intOf v).toNat)
  case atStart => exact ⟨n, 0, none, [], rfl, rfl, own_nil _ _ _ _, rfl, Below.refl _ _⟩
  case round =>
    obtain ⟨m, c, A, xs, rfl, rfl, hO, hX, hB⟩ := hrel
    have hxl : xs.length ≤ 10 := by have h := congrArg List.length hX.out; rw [List.length_append] at h; omega
    by_cases hlt : 128 ≤ m
    · have HX2 := Lib.hid (show (xs ++ [UInt8.ofNat (m % 128 + 128)]) ++ varB (m / 128) = varB n by rw [← hX.out, varB_step m hlt]; simp)
      have HV := Lib.hid (or128 m)
      go_wp2_with (at_builtin; refine wpList_appB w w.heap.size Try.slB rfl (.tmp 8) (.tmp 12) rfl _ xs rfl (hO.out.alloc _) (some ⟨wr.heap.size, 0, none⟩) 1 1 [UInt8.ofNat (m % 128 + 128)] rfl rfl (RdB.one wr _ _ _ HV.out) (xs ++ [UInt8.ofNat (m % 128 + 128)]) rfl (by simp; omega) (hB.alloc hB.size _) (Nat.le_refl _) ?_; intro A3 c3 w3 hown3 hr3 hB3 hg3 hat3; clear hg3 hat3 hr3)
      go_roundw
      case rel => exact ⟨m / 128, c3, A3, _, by go_num, by simp, hown3, HX2.out, hB3⟩
      case measure => simp [intOf]; omega
    · have HX2 := Lib.hid (show xs ++ [UInt8.ofNat m] = varB n by rw [← hX.out, varB_small m (by omega)])
      have HV := Lib.hid (byteV m (by omega))
      go_wp2_with (at_builtin; refine wpList_appB w w.heap.size Try.slB rfl (.tmp 14) (.tmp 17) rfl _ xs rfl (hO.out.alloc _) (some ⟨wr.heap.size, 0, none⟩) 1 1 [UInt8.ofNat m] rfl rfl (RdB.one wr _ _ _ HV.out) (varB n) HX2.out.symm (by omega) (hB.alloc hB.size _) (Nat.le_refl _) ?_; intro A3 c3 w3 hown3 hr3 hB3 hg3 hat3; clear hg3 hat3 hr3)
      go_ret
      exact ⟨A3, c3, rfl, hown3, hB3⟩
end Go.Proofs.Ytdeeeipdgoafaaa
