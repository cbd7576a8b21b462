/- The laws ArenaIn, ArenaMakes, ArenaPlaces. -/
import Derived.Test.YtjfbopnohijhkaaArenaL1
namespace Go.Proofs.Ytjfbopnohijhkaa
open Go.RowKit
set_option linter.unusedVariables false
theorem in_q {T : TypeId} {g gb : Nat} {base : Int} {bs : List UInt8} {w : World} (hA : Arn w T g gb base bs) (addr n : Int) (m : Nat) : Calls Try.prog 14 #[.pointer (some ⟨g, 0, none⟩), .int .i64 addr, .int .i64 n] (w.drewN m) fun e w' => e = .returned (.bool (inA base bs.length addr n)) ∧ ∃ k, w' = w.drewN k :=
  (in_any (hA.drewN m) addr n).mono fun _ _ ⟨h1, h2⟩ => ⟨h1, m, h2.symm⟩
theorem refIn_q {T : TypeId} {g gb : Nat} {base : Int} {bs : List UInt8} {w : World} (hA : Arn w T g gb base bs) (addr n : Int) (m : Nat) : Calls Try.prog 15 #[.pointer (some ⟨g, 0, none⟩), .int .i64 addr, .int .i64 n] (w.drewN m) fun e w' => e = .returned (.bool (inA base bs.length addr n)) ∧ ∃ k, w' = w.drewN k :=
  (refIn_any (hA.drewN m) addr n).mono fun _ _ ⟨h1, k, h2⟩ => ⟨h1, m + k, by rw [h2, World.drewN_drewN]⟩
set_option maxHeartbeats 1000000 in
set_option maxRecDepth 20000 in
theorem arenaIn_front (n : Nat) (addr k : Int) (W : World) (hn : n < 4294967296) (ha1 : addr ≤ 9223372036854775807) (ha0 : -9223372036854775808 ≤ addr) (hk1 : k ≤ 9223372036854775807) (hk0 : -9223372036854775808 ≤ k) :
    Calls Try.prog 3 #[.int .u32 (n : Int), .int .i64 addr, .int .i64 k] W fun e w' => e = .returned (.bool true) ∧ Below W.heap.size W w' := by
  have HN := Lib.hid hn; clear hn
  have hb : ∃ b : Int, b = 256 + 256 * (n : Int) := ⟨_, rfl⟩
  obtain ⟨b, hb⟩ := hb
  have hbg : goodB b = true := by rw [hb]; exact good_lbase n (by have := HN.out; omega)
  have hbb : 256 ≤ b ∧ b ≤ 1099511627776 := by have := HN.out; omega
  have HBG := Lib.hid hbg; clear hbg
  have HB := Lib.hid hb; clear hb
  go_enter Try.func3, Try.ntmps3
  go_wp2_with fail
  refine (alive_any W).mono ?_
  rintro e w1 ⟨rfl, hB1⟩
  have HB1 := Lib.hid hB1; clear hB1
  go_wp2_with fail
  refine (lbase_any n (by have := HN.out; omega) w1).mono ?_
  rintro e w2 ⟨rfl, rfl⟩
  rw [← HB.out]
  go_wp2_with fail
  refine (new_any b 3 w1 (by omega) (by omega) (by omega) HBG.out).mono ?_
  rintro e w2 ⟨g, gb, rfl, hg, hgb, hA, hB2⟩
  have HA := Lib.hid hA; clear hA
  have HB2 := Lib.hid (HB1.out.trans (hB2.mono HB1.out.size)); clear hB2
  clear hg hgb
  go_wp2_with fail
  refine (lbase_any n (by have := HN.out; omega) w2).mono ?_
  rintro e w3 ⟨rfl, rfl⟩
  rw [← HB.out]
  go_wp2_with fail
  refine (refNew_any b 3 w2 (by omega) (by omega) (by omega) HBG.out).mono ?_
  rintro e w3 ⟨g2, gb2, rfl, hg, hgb, hM, hB3⟩
  have HA3 := Lib.hid (HA.out.below hB3)
  have HM := Lib.hid hM; clear hM
  have HB3 := Lib.hid (HB2.out.trans (hB3.mono HB2.out.size)); clear hB3
  clear hg hgb
  have hm0 := HM.out.c0
  obtain ⟨zs, hzs⟩ : ∃ zs : List UInt8, zs = List.replicate (256 * Int.toNat 3) 0 := ⟨_, rfl⟩
  rw [← hzs] at HA3 HM
  clear hzs HA HB2
  go_wp2_with fail
  go_quiet (first | (go_at_call 14; exact in_q HA3.out _ _ _) | (go_at_call 15; exact refIn_q HM.out _ _ _))
  go_wp2
  go_ret
  exact ⟨rfl, below_drewN HB3.out _⟩
set_option maxHeartbeats 1000000 in
set_option maxRecDepth 20000 in
theorem arenaMakes_front (b p : Int) (W : World) (ha1 : b ≤ 9223372036854775807) (ha0 : -9223372036854775808 ≤ b) (hp1 : p ≤ 9223372036854775807) (hp0 : -9223372036854775808 ≤ p) :
    Calls Try.prog 4 #[.int .i64 b, .int .i64 p] W fun e w' => e = .returned (.bool true) ∧ Below W.heap.size W w' := by
  have hwb : -9223372036854775808 ≤ b ∧ b ≤ 9223372036854775807 := ⟨ha0, ha1⟩
  by_cases h1 : 1 ≤ p ∧ p ≤ 4096
  · by_cases hg : goodB b = true
    · have hbb : 256 ≤ b ∧ b ≤ 1099511627776 := by unfold goodB at hg; have := of_decide_eq_true hg; omega
      have HBG := Lib.hid hg; clear hg
      have HW := Lib.hid hwb; clear hwb ha0 ha1 hp1 hp0
      obtain ⟨h1, h2⟩ := h1
      go_enter Try.func4, Try.ntmps4
      go_wp2_with fail
      refine (alive_any W).mono ?_
      rintro e w1 ⟨rfl, hB1⟩
      have HB1 := Lib.hid hB1; clear hB1
      go_wp2_with fail
      refine (good_any b w1 HW.out).mono ?_
      rintro e w2 ⟨rfl, rfl⟩
      rw [HBG.out]
      go_wp2_with fail
      refine (refGood_any b w1 HW.out).mono ?_
      rintro e w2 ⟨rfl, rfl⟩
      rw [HBG.out]
      go_wp2_with fail
      refine (new_any b p w1 HW.out (by omega) (by omega) HBG.out).mono ?_
      rintro e w2 ⟨g, gb, rfl, hg, hgb, hA, hB2⟩
      have hzl : (List.replicate (256 * p.toNat) (0 : UInt8)).length = 256 * p.toNat := List.length_replicate
      generalize List.replicate (256 * p.toNat) (0 : UInt8) = zs at hA hzl
      have HA := Lib.hid hA; clear hA
      have HZ := Lib.hid hzl; clear hzl
      have HB2 := Lib.hid (HB1.out.trans (hB2.mono HB1.out.size)); clear hB2
      clear hg hgb HB1
      go_wp2_with fail
      refine (refGood_any b w2 HW.out).mono ?_
      rintro e w3 ⟨rfl, rfl⟩
      rw [HBG.out]
      go_wp2_with fail
      refine (base_any HA.out).mono ?_
      rintro e w3 ⟨rfl, rfl⟩
      go_wp2_with fail
      refine (pages_any HA.out).mono ?_
      rintro e w3 ⟨rfl, rfl⟩
      rw [show ((zs.length / 256 : Nat) : Int) = p by have := HZ.out; omega]
      go_wp2_with fail
      refine (end_any HA.out).mono ?_
      rintro e w3 ⟨rfl, rfl⟩
      rw [show b + (zs.length : Int) = b + p * 256 by have := HZ.out; omega]
      have hsub : (b + p * 256 - b == p * 256) = true := by rw [beq_iff_eq]; omega
      go_wp2
      go_ret
      exact ⟨rfl, HB2.out⟩
    · have hg : goodB b = false := by simpa using hg
      have HBG := Lib.hid hg; clear hg
      have HW := Lib.hid hwb; clear hwb ha0 ha1 hp1 hp0
      have HNE := Lib.hid (show (if 1 ≤ p ∧ p ≤ 4096 then (10 : Int) else 2) = 10 from if_pos h1)
      obtain ⟨h1, h2⟩ := h1
      go_enter Try.func4, Try.ntmps4
      go_wp2_with fail
      refine (alive_any W).mono ?_
      rintro e w1 ⟨rfl, hB1⟩
      have HB1 := Lib.hid hB1; clear hB1
      go_wp2_with fail
      refine (good_any b w1 HW.out).mono ?_
      rintro e w2 ⟨rfl, rfl⟩
      rw [HBG.out]
      go_wp2_with fail
      refine (refGood_any b w1 HW.out).mono ?_
      rintro e w2 ⟨rfl, rfl⟩
      rw [HBG.out]
      go_wp2_with fail
      refine (new_err b p w1 HW.out (.inr HBG.out)).mono ?_
      rintro e w2 ⟨rfl, rfl⟩
      rw [HNE.out]
      go_wp2_with fail
      refine (refGood_any b w1 HW.out).mono ?_
      rintro e w3 ⟨rfl, rfl⟩
      rw [HBG.out]
      go_wp2
      go_ret
      exact ⟨rfl, HB1.out⟩
  · have HW := Lib.hid hwb; clear hwb ha0 ha1 hp1 hp0
    have HNE := Lib.hid (show (if 1 ≤ p ∧ p ≤ 4096 then (10 : Int) else 2) = 2 from if_neg h1)
    have HH := Lib.hid h1
    by_cases h2 : p < 1
    · clear h1
      go_enter Try.func4, Try.ntmps4
      go_wp2_with fail
      refine (alive_any W).mono ?_
      rintro e w1 ⟨rfl, hB1⟩
      have HB1 := Lib.hid hB1; clear hB1
      go_wp2_with fail
      refine (good_any b w1 HW.out).mono ?_
      rintro e w2 ⟨rfl, rfl⟩
      go_wp2_with fail
      refine (refGood_any b w1 HW.out).mono ?_
      rintro e w2 ⟨rfl, rfl⟩
      go_wp2_with fail
      refine (new_err b p w1 HW.out (.inl HH.out)).mono ?_
      rintro e w2 ⟨rfl, rfl⟩
      rw [HNE.out]
      go_wp2
      go_ret
      exact ⟨rfl, HB1.out⟩
    · have h3 : 4096 < p := by omega
      clear h1
      go_enter Try.func4, Try.ntmps4
      go_wp2_with fail
      refine (alive_any W).mono ?_
      rintro e w1 ⟨rfl, hB1⟩
      have HB1 := Lib.hid hB1; clear hB1
      go_wp2_with fail
      refine (good_any b w1 HW.out).mono ?_
      rintro e w2 ⟨rfl, rfl⟩
      go_wp2_with fail
      refine (refGood_any b w1 HW.out).mono ?_
      rintro e w2 ⟨rfl, rfl⟩
      go_wp2_with fail
      refine (new_err b p w1 HW.out (.inl HH.out)).mono ?_
      rintro e w2 ⟨rfl, rfl⟩
      rw [HNE.out]
      go_wp2
      go_ret
      exact ⟨rfl, HB1.out⟩
end Go.Proofs.Ytjfbopnohijhkaa
