/- The walks of More and Sum, of the program and of the reference. -/
import Derived.Test.YtckfghdocaojgaaSumW1
namespace Go.Proofs.Ytckfghdocaojgaa
open Go.RowKit

set_option maxHeartbeats 400000 in
theorem more_any (s : Nat) (A : Option Addr) (cap : Nat) (bs : List UInt8) (w : World) (h1 : s < 4294967296) (hr : RdB w A bs) :
    Calls Try.prog 31 #[.int .u32 (s : Int), .slice A bs.length cap] w fun e w' => e = .returned (.int .u32 (more s bs : Nat)) ∧ w = w' := by
  have hlen := hr.len
  have hs0 := xor_32 4294967295 s (by decide) h1
  have HS0 := Lib.hid hs0; clear hs0
  go_enter Try.func31, Try.ntmps31
  go_wp2
  go_loop [5, 7, 12] (fun x c i => ∃ (k y : Nat), k ≤ bs.length ∧ i = .int .i64 k ∧ x = .int .u32 (y : Int) ∧ y < 4294967296 ∧ Hid (y = mr (s ^^^ 4294967295) (bs.take k))) (fun _ _ i => bs.length - (intOf i).toNat)
  case atStart => exact ⟨0, 4294967295 ^^^ s, by omega, rfl, val_int HS0.out, xor_lt32 (by decide) h1, by rw [Nat.xor_comm]; rfl⟩
  case round =>
    obtain ⟨k, y, hk, rfl, rfl, hy1, hH⟩ := hrel
    by_cases hlt : k < bs.length
    · obtain ⟨b, off, rfl, hc⟩ := hr.at (by omega)
      have hck := hc k hlt
      clear hc
      have hb : bs[k].toNat < 256 := bs[k].toNat_lt
      have hx := xor_32 y bs[k].toNat hy1 (by omega)
      have HX := Lib.hid hx; clear hx
      have HM := Lib.hid (mr_take (s ^^^ 4294967295) bs k hlt)
      generalize hcb : bs[k].toNat = cb at *
      have HCB := Lib.hid hcb; clear hcb
      go_wp2_with fail
      rw [HX.out]
      refine (steps_any _ _ (xor_lt32 hy1 (by omega))).mono ?_
      rintro e w' ⟨rfl, rfl⟩
      go_wp2
      go_round
      case rel =>
        refine ⟨k + 1, _, by omega, by go_num, rfl, stN_lt 8 (xor_lt32 hy1 (by omega)), ?_⟩
        rw [HM.out, ← hH.out]
        rfl
      case measure => simp [intOf]; omega
    · obtain rfl : bs.length = k := by omega
      go_wp2
      go_ret
      refine ⟨ret_int ?_, rfl⟩
      have h := xor_32 4294967295 y (by decide) hy1
      refine h.trans ?_
      rw [hH.out, List.take_of_length_le (by omega), Nat.xor_comm]
      rfl

set_option maxHeartbeats 400000 in
theorem refMore_any (s : Nat) (A : Option Addr) (cap : Nat) (bs : List UInt8) (w : World) (h1 : s < 4294967296) (hr : RdB w A bs) :
    Calls Try.prog 32 #[.int .u32 (s : Int), .slice A bs.length cap] w fun e w' => e = .returned (.int .u32 (more s bs : Nat)) ∧ w = w' := by
  have hlen := hr.len
  have hs0 := xor_32 s 4294967295 h1 (by decide)
  have HS0 := Lib.hid hs0; clear hs0
  go_enter Try.func32, Try.ntmps32
  go_wp2
  go_loop [5, 6, 7, 12] (fun x j l i => ∃ (k y : Nat), k ≤ bs.length ∧ i = .int .i64 k ∧ x = .int .u32 (y : Int) ∧ y < 4294967296 ∧ Hid (y = mr (s ^^^ 4294967295) (bs.take k))) (fun _ _ _ i => bs.length - (intOf i).toNat)
  case atStart => exact ⟨0, s ^^^ 4294967295, by omega, rfl, val_int HS0.out, xor_lt32 h1 (by decide), rfl⟩
  case round =>
    obtain ⟨k, y, hk, rfl, rfl, hy1, hH⟩ := hrel
    by_cases hlt : k < bs.length
    · obtain ⟨b, off, rfl, hc⟩ := hr.at (by omega)
      have hck := hc k hlt
      clear hc
      have hb : bs[k].toNat < 256 := bs[k].toNat_lt
      have hx := xor_32 y bs[k].toNat hy1 (by omega)
      have HX := Lib.hid hx; clear hx
      have HM := Lib.hid (mr_take (s ^^^ 4294967295) bs k hlt)
      generalize hcb : bs[k].toNat = cb at *
      have HCB := Lib.hid hcb; clear hcb
      go_wp2
      go_loop [5, 7] (fun x l => ∃ (m z : Nat), m ≤ 8 ∧ l = .int .i64 m ∧ x = .int .u32 (z : Int) ∧ z < 4294967296 ∧ Hid (stN (8 - m) z = stN 8 (y ^^^ cb))) (fun _ l => 8 - (intOf l).toNat)
      case atStart => exact ⟨0, y ^^^ cb, by omega, rfl, val_int HX.out, xor_lt32 hy1 (by omega), rfl⟩
      case round =>
        obtain ⟨m, z, hm, rfl, rfl, hz1, hZ⟩ := hrel
        by_cases hlt' : m < 8
        · go_wp2_with fail
          refine (step_any _ _ hz1).mono ?_
          rintro e w' ⟨rfl, rfl⟩
          go_wp2
          go_round
          case rel =>
            refine ⟨m + 1, _, by omega, by go_num, rfl, st_lt hz1, ?_⟩
            have := hZ.out
            rw [show 8 - m = (8 - (m + 1)) + 1 from by omega] at this
            exact this
          case measure => simp [intOf]; omega
        · obtain rfl : m = 8 := by omega
          go_wp2
          go_round
          case rel =>
            refine ⟨k + 1, z, by omega, by go_num, rfl, hz1, ?_⟩
            rw [HM.out, ← hH.out]
            exact hZ.out
          case measure => simp [intOf]; omega
    · obtain rfl : bs.length = k := by omega
      go_wp2
      go_ret
      refine ⟨ret_int ?_, rfl⟩
      have h := xor_32 y 4294967295 hy1 (by decide)
      refine h.trans ?_
      rw [hH.out, List.take_of_length_le (by omega)]
      rfl

set_option maxHeartbeats 400000 in
theorem sum_any (A : Option Addr) (cap : Nat) (bs : List UInt8) (w : World) (hr : RdB w A bs) :
    Calls Try.prog 23 #[.slice A bs.length cap] w fun e w' => e = .returned (.int .u32 (sum bs : Nat)) ∧ w = w' := by
  go_enter Try.func23, Try.ntmps23
  go_wp2_with fail
  refine (more_any 0 A cap bs w (by decide) hr).mono ?_
  rintro e w' ⟨rfl, rfl⟩
  go_wp2
  go_ret
  exact ⟨rfl, rfl⟩

set_option maxHeartbeats 400000 in
theorem refSum_any (A : Option Addr) (cap : Nat) (bs : List UInt8) (w : World) (hr : RdB w A bs) :
    Calls Try.prog 24 #[.slice A bs.length cap] w fun e w' => e = .returned (.int .u32 (sum bs : Nat)) ∧ w = w' := by
  go_enter Try.func24, Try.ntmps24
  go_wp2_with fail
  refine (refMore_any 0 A cap bs w (by decide) hr).mono ?_
  rintro e w' ⟨rfl, rfl⟩
  go_wp2
  go_ret
  exact ⟨rfl, rfl⟩
end Go.Proofs.Ytckfghdocaojgaa
