/- The walks of the reference's Var, Same, Copy, Ints. -/
import Derived.Test.YtdeeeipdgoafaaaNumW1
import Derived.Deep.QuietTactic
import Derived.BigQuiet
namespace Go.Proofs.Ytdeeeipdgoafaaa
open Go.RowKit

set_option maxHeartbeats 1000000 in
set_option maxRecDepth 20000 in
theorem refVar_any (n : Nat) (w : World) (hn : n < 18446744073709551616) :
    Calls Try.prog 37 #[.int .u64 (n : Int)] w fun e w' => ∃ A c, e = .returned (.slice A (varB n).length c) ∧ OwnB w' w.heap.size 5 (.slice A (varB n).length c) (varB n) ∧ Below w.heap.size w w' := by
  have hlen := varB_len10 n hn
  have HN := Lib.hid hn
  clear hn
  go_enter Try.func37, Try.ntmps37
  go_wp2
  go_loopw [0, 3] (fun v o wr => ∃ (m c : Nat) (A : Option Addr) (xs : List UInt8), v = .int .u64 (m : Int) ∧ Hid (m < 18446744073709551616) ∧ o = .slice A xs.length c ∧ Hid (OwnB wr w.heap.size 5 (.slice A xs.length c) xs) ∧ Hid (xs ++ varB m = varB n) ∧ Below w.heap.size w wr) (fun v _ _ => (intOf v).toNat)
  case atStart => exact ⟨n, 0, none, [], rfl, HN, rfl, own_nil _ _ _ _, rfl, Below.refl _ _⟩
  case round =>
    obtain ⟨m, c, A, xs, rfl, hM, rfl, hO, hX, hB⟩ := hrel
    have hxl : xs.length ≤ 10 := by have h := congrArg List.length hX.out; rw [List.length_append] at h; omega
    by_cases hlt : 127 < m
    · have HX2 := Lib.hid (show (xs ++ [UInt8.ofNat (m % 128 + 128)]) ++ varB (m / 128) = varB n by rw [← hX.out, varB_step m (by omega)]; simp)
      have hb : ((m : Int) % 128 + 128) = ((UInt8.ofNat (m % 128 + 128)).toNat : Int) := by rw [← byteV _ (by omega)]; omega
      have HV := Lib.hid hb; clear hb
      have hw : IntKind.u64.wrap ((m : Int) / 128) = ((m / 128 : Nat) : Int) := wrap_u64_nat (m / 128) (by have := hM.out; omega)
      go_wp2_with (at_builtin; refine wpList_appB w w.heap.size Try.slB rfl (.tmp 6) (.tmp 11) rfl _ xs rfl (hO.out.alloc _) (some ⟨wr.heap.size, 0, none⟩) 1 1 [UInt8.ofNat (m % 128 + 128)] rfl rfl (RdB.one wr _ _ _ HV.out) (xs ++ [UInt8.ofNat (m % 128 + 128)]) rfl (by simp; omega) (hB.alloc hB.size _) (Nat.le_refl _) ?_; intro A3 c3 w3 hown3 hr3 hB3 hg3 hat3; clear hg3 hat3 hr3)
      go_roundw
      case rel => exact ⟨m / 128, c3, A3, _, rfl, by have := hM.out; show _ < _; omega, by simp, hown3, HX2.out, hB3⟩
      case measure => simp [intOf]; omega
    · have HX2 := Lib.hid (show xs ++ [UInt8.ofNat m] = varB n by rw [← hX.out, varB_small m (by omega)])
      have HV := Lib.hid (byteV m (by omega))
      go_wp2_with (at_builtin; refine wpList_appB w w.heap.size Try.slB rfl (.tmp 15) (.tmp 18) rfl _ xs rfl (hO.out.alloc _) (some ⟨wr.heap.size, 0, none⟩) 1 1 [UInt8.ofNat m] rfl rfl (RdB.one wr _ _ _ HV.out) (varB n) HX2.out.symm (by omega) (hB.alloc hB.size _) (Nat.le_refl _) ?_; intro A3 c3 w3 hown3 hr3 hB3 hg3 hat3; clear hg3 hat3 hr3)
      go_ret
      exact ⟨A3, c3, rfl, hown3, hB3⟩

set_option maxHeartbeats 1000000 in
theorem ints_any (A A' : Option Addr) (c c' : Nat) (xs ys : List Int) (w : World) (hr : RdI w A xs) (hr' : RdI w A' ys) :
    Calls Try.prog 34 #[.slice A xs.length c, .slice A' ys.length c'] w fun e w' => e = .returned (.bool (decide (xs = ys))) ∧ ∃ n, w' = w.drewN n := by
  have hlen := hr.1
  have hlen' := hr'.1
  by_cases hl : xs.length = ys.length
  · have hb : ((xs.length : Int) != (ys.length : Int)) = false := by rw [hl]; simp
    have HL := Lib.hid hl; clear hl
    go_enter Try.func34, Try.ntmps34
    go_wp2
    go_loopw [5, 13, 15, 16, 17, 18, 19, 20, 21, 22, 23, 24] (fun _ i _ _ _ _ _ _ _ _ _ _ wr => ∃ k m : Nat, k ≤ xs.length ∧ i = .int .i64 k ∧ wr = w.drewN m ∧ Hid (xs.take k = ys.take k)) (fun _ i _ _ _ _ _ _ _ _ _ _ _ => xs.length - (intOf i).toNat)
    case atStart => exact ⟨0, 0, by omega, rfl, rfl, rfl⟩
    case round =>
      obtain ⟨k, m, hk, rfl, rfl, hX⟩ := hrel
      by_cases hlt : k < xs.length
      · obtain ⟨b, off, rfl, _, hc⟩ := hr.at (by omega)
        obtain ⟨b', off', rfl, _, hc'⟩ := hr'.at (by have := HL.out; omega)
        have hlt' : k < ys.length := by have := HL.out; omega
        have hck : w.cell? ⟨b, off + k, none⟩ = some (.int .i64 xs[k]) := hc k hlt
        have hck' : w.cell? ⟨b', off' + k, none⟩ = some (.int .i64 ys[k]) := hc' k hlt'
        clear hc hc'
        have HN := Lib.hid (fun h : xs[k] = ys[k] => show xs.take (k + 1) = ys.take (k + 1) by rw [List.take_succ_eq_append_getElem hlt, List.take_succ_eq_append_getElem hlt', hX.out, h])
        have HD := Lib.hid (fun h : ¬ xs[k] = ys[k] => show decide (xs = ys) = false by simp; intro he; subst he; exact h rfl)
        generalize xs[k] = x at *
        generalize ys[k] = y at *
        by_cases hxy : x = y
        · subst hxy
          go_wp2_with fail
          go_quiet (fail)
          go_wp2
          go_roundw
          case rel => exact ⟨k + 1, _, by omega, by go_num, rfl, HN.out (by first | rfl | trivial)⟩
          case measure => simp [intOf]; omega
        · have hbxy : (x != y) = true := by rw [bne_iff_ne]; exact hxy
          have HXY := Lib.hid hxy; clear hxy
          go_wp2_with fail
          go_quiet (fail)
          go_wp2
          go_ret
          exact ⟨ret_bool (HD.out HXY.out).symm, _, World.drewN_drewN ..⟩
      · obtain rfl : k = xs.length := by omega
        have hd : decide (xs = ys) = true := by
          have h := hX.out
          rw [List.take_of_length_le (by omega), List.take_of_length_le (by have := HL.out; omega)] at h
          simp [h]
        have HD := Lib.hid hd; clear hd
        go_wp2
        go_ret
        exact ⟨ret_bool HD.out.symm, _, rfl⟩
  · have hd : decide (xs = ys) = false := by simp; intro h; exact hl (by rw [h])
    have hb : ((xs.length : Int) != (ys.length : Int)) = true := by rw [bne_iff_ne]; omega
    go_enter Try.func34, Try.ntmps34
    go_wp2
    go_ret
    exact ⟨ret_bool hd.symm, 0, rfl⟩
end Go.Proofs.Ytdeeeipdgoafaaa
