/- The law ArenaPlaces. -/
import Derived.Test.YtjfbopnohijhkaaArenaL2
namespace Go.Proofs.Ytjfbopnohijhkaa
open Go.RowKit
set_option linter.unusedVariables false
set_option maxHeartbeats 1000000 in
set_option maxRecDepth 20000 in
theorem arenaPlaces_front (n : Nat) (p o : Int) (W : World) (hn : n < 4294967296) (hp1 : p ≤ 9223372036854775807) (hp0 : -9223372036854775808 ≤ p) (ho1 : o ≤ 9223372036854775807) (ho0 : -9223372036854775808 ≤ o) :
    Calls Try.prog 6 #[.int .u32 (n : Int), .int .i64 p, .int .i64 o] W fun e w' => e = .returned (.bool true) ∧ Below W.heap.size W w' := by
  have HN := Lib.hid hn; clear hn
  have hb : ∃ b : Int, b = 256 + 256 * (n : Int) := ⟨_, rfl⟩
  obtain ⟨b, hb⟩ := hb
  have hbg : goodB b = true := by rw [hb]; exact good_lbase n (by have := HN.out; omega)
  have hbb : 256 ≤ b ∧ b ≤ 1099511627776 := by have := HN.out; omega
  have HBG := Lib.hid hbg; clear hbg
  have HB := Lib.hid hb; clear hb
  go_enter Try.func6, Try.ntmps6
  go_wp2_with fail
  refine (alive_any W).mono ?_
  rintro e w1 ⟨rfl, hB1⟩
  have HB1 := Lib.hid hB1; clear hB1
  go_wp2_with fail
  refine (lbase_any n (by have := HN.out; omega) w1).mono ?_
  rintro e w2 ⟨rfl, rfl⟩
  rw [← HB.out]
  go_wp2_with fail
  refine (new_any b 5 w1 (by omega) (by omega) (by omega) HBG.out).mono ?_
  rintro e w2 ⟨g, gb, rfl, hg, hgb, hA, hB2⟩
  obtain ⟨zs, hzs⟩ : ∃ zs : List UInt8, zs = List.replicate (256 * Int.toNat 5) 0 := ⟨_, rfl⟩
  rw [← hzs] at hA
  have HZ := Lib.hid (show zs.length = 1280 by rw [hzs, List.length_replicate]; rfl)
  clear hzs
  have HA := Lib.hid hA; clear hA
  have HB2 := Lib.hid (HB1.out.trans (hB2.mono HB1.out.size)); clear hB2
  clear hg hgb
  by_cases hok : 0 ≤ p ∧ p < 5 ∧ 0 ≤ o ∧ o < 256
  · obtain ⟨h1, h2, h3, h4⟩ := hok
    have HAD := Lib.hid (show addrA b zs p o = .tuple #[.int .i64 (b + p * 256 + o), .bool true] by
      unfold addrA addrB; rw [HZ.out, decide_eq_true (by omega), if_pos rfl])
    have HPL := Lib.hid (show placeA b zs (b + p * 256 + o) = .tuple #[.int .i64 p, .int .i64 o, .bool true] by
      unfold placeA inA; rw [HZ.out, decide_eq_true (by omega), if_pos rfl]
      rw [show (b + p * 256 + o - b) / 256 = p by omega, show (b + p * 256 + o - b) % 256 = o by omega])
    have HIN := Lib.hid (show inA b zs.length (b + p * 256 + o) 1 = true by unfold inA; rw [HZ.out, decide_eq_true_iff]; omega)
    go_wp2_with fail
    refine (addr_any HA.out p o).mono ?_
    rintro e w3 ⟨rfl, hB3⟩
    rw [HAD.out]
    have HA3 := Lib.hid (HA.out.below hB3)
    have HB3 := Lib.hid (HB2.out.trans (hB3.mono HB2.out.size)); clear hB3
    go_wp2_with fail
    refine (place_any HA3.out (b + p * 256 + o)).mono ?_
    rintro e w4 ⟨rfl, hB4⟩
    rw [HPL.out]
    have HA4 := Lib.hid (HA3.out.below hB4)
    have HB4 := Lib.hid (HB3.out.trans (hB4.mono HB3.out.size)); clear hB4
    go_wp2_with fail
    refine (in_any HA4.out _ 1).mono ?_
    rintro e w5 ⟨rfl, rfl⟩
    rw [HIN.out]
    go_wp2
    go_ret
    exact ⟨rfl, HB4.out⟩
  · have HAD := Lib.hid (show addrA b zs p o = .tuple #[.int .i64 0, .bool false] by
      unfold addrA addrB; rw [HZ.out, decide_eq_false (by omega), if_neg (by decide)])
    have hc : p < 0 ∨ (0 ≤ p ∧ 5 ≤ p) ∨ (0 ≤ p ∧ p < 5 ∧ o < 0) ∨ (0 ≤ p ∧ p < 5 ∧ 0 ≤ o ∧ 256 ≤ o) := by omega
    clear hok
    cases hin : inA b zs.length p 1
    · have HPL := Lib.hid (show placeA b zs p = .tuple #[.int .i64 0, .int .i64 0, .bool false] by unfold placeA; rw [hin]; rfl)
      have HAD2 := Lib.hid (show addrA b zs 0 0 = .tuple #[.int .i64 b, .bool true] by
        unfold addrA addrB; rw [HZ.out, decide_eq_true (by omega), if_pos rfl]; simp)
      have HIN := Lib.hid hin; clear hin
      rcases hc with h1 | ⟨h1, h2⟩ | ⟨h1, h2, h3⟩ | ⟨h1, h2, h3, h4⟩
      all_goals (
      go_wp2_with fail
      refine (addr_any HA.out p o).mono ?_
      rintro e w3 ⟨rfl, hB3⟩
      rw [HAD.out]
      have HA3 := Lib.hid (HA.out.below hB3)
      have HB3 := Lib.hid (HB2.out.trans (hB3.mono HB2.out.size)); clear hB3
      go_wp2_with fail
      refine (place_any HA3.out p).mono ?_
      rintro e w4 ⟨rfl, hB4⟩
      rw [HPL.out]
      have HA4 := Lib.hid (HA3.out.below hB4)
      have HB4 := Lib.hid (HB3.out.trans (hB4.mono HB3.out.size)); clear hB4
      go_wp2_with fail
      refine (addr_any HA4.out _ _).mono ?_
      rintro e w5 ⟨rfl, hB5⟩
      rw [HAD2.out]
      have HA5 := Lib.hid (HA4.out.below hB5)
      have HB5 := Lib.hid (HB4.out.trans (hB5.mono HB4.out.size)); clear hB5
      go_wp2_with fail
      refine (in_any HA5.out _ 1).mono ?_
      rintro e w6 ⟨rfl, rfl⟩
      rw [HIN.out]
      go_wp2
      go_ret
      exact ⟨rfl, HB5.out⟩)
    · have hin' := hin
      unfold inA at hin'
      rw [HZ.out] at hin'
      have hi := of_decide_eq_true hin'
      obtain ⟨q, hq⟩ : ∃ q, q = (p - b) / 256 := ⟨_, rfl⟩
      obtain ⟨r, hr⟩ : ∃ r, r = (p - b) % 256 := ⟨_, rfl⟩
      have HPL := Lib.hid (show placeA b zs p = .tuple #[.int .i64 q, .int .i64 r, .bool true] by unfold placeA; rw [hin, hq, hr]; rfl)
      have HAD2 := Lib.hid (show addrA b zs q r = .tuple #[.int .i64 p, .bool true] by
        unfold addrA addrB; rw [HZ.out, decide_eq_true (by omega), if_pos rfl, show b + q * 256 + r = p by omega])
      have HIN := Lib.hid hin; clear hin hin' hi hq hr
      rcases hc with h1 | ⟨h1, h2⟩ | ⟨h1, h2, h3⟩ | ⟨h1, h2, h3, h4⟩
      all_goals (
      go_wp2_with fail
      refine (addr_any HA.out p o).mono ?_
      rintro e w3 ⟨rfl, hB3⟩
      rw [HAD.out]
      have HA3 := Lib.hid (HA.out.below hB3)
      have HB3 := Lib.hid (HB2.out.trans (hB3.mono HB2.out.size)); clear hB3
      go_wp2_with fail
      refine (place_any HA3.out p).mono ?_
      rintro e w4 ⟨rfl, hB4⟩
      rw [HPL.out]
      have HA4 := Lib.hid (HA3.out.below hB4)
      have HB4 := Lib.hid (HB3.out.trans (hB4.mono HB3.out.size)); clear hB4
      go_wp2_with fail
      refine (addr_any HA4.out _ _).mono ?_
      rintro e w5 ⟨rfl, hB5⟩
      rw [HAD2.out]
      have HA5 := Lib.hid (HA4.out.below hB5)
      have HB5 := Lib.hid (HB4.out.trans (hB5.mono HB4.out.size)); clear hB5
      go_wp2_with fail
      refine (in_any HA5.out _ 1).mono ?_
      rintro e w6 ⟨rfl, rfl⟩
      rw [HIN.out]
      go_wp2
      go_ret
      exact ⟨rfl, HB5.out⟩)
end Go.Proofs.Ytjfbopnohijhkaa
