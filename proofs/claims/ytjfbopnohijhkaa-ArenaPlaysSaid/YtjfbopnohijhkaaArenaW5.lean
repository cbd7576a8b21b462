/- The reference's arena: Zero, Move, Place, Addr. -/
import Derived.Test.YtjfbopnohijhkaaArenaW4
namespace Go.Proofs.Ytjfbopnohijhkaa
open Go.RowKit
set_option linter.unusedVariables false
theorem OwnB.lt' {w : World} {base : Nat} {e : TypeId} {A : Option Addr} {n c : Nat} {bs : List UInt8} (h : OwnB w base e (.slice A n c) bs) (a : Addr) (ha : some a = A) : base ≤ a.block := own_ge h a.block (by rw [← ha]; rfl)
section
variable {T : TypeId} {g gb : Nat} {base : Int} {bs : List UInt8} {w : World}
theorem refZero_any (hA : Arn w T g gb base bs) (addr n : Int) :
    Calls Try.prog 37 #[.pointer (some ⟨g, 0, none⟩), .int .i64 addr, .int .i64 n] w fun e w' => e = .returned (.int .i64 (okN (inA base bs.length addr n))) ∧ Arn w' T g gb base (if inA base bs.length addr n then splice bs (addr - base).toNat (List.replicate n.toNat 0) else bs) ∧ w.grownBy w' (some gb) := by
  cases hin : inA base bs.length addr n
  · have HI := Lib.hid hin; clear hin
    have HA := Lib.hid hA; clear hA
    go_enter Try.func37, Try.ntmps37
    go_wp2_with fail
    refine (refIn_any HA.out addr n).mono ?_
    rintro e w1 ⟨rfl, k, rfl⟩
    rw [HI.out]
    go_wp2
    go_ret
    exact ⟨rfl, by simpa using HA.out.drewN k, grown_drewN _ _ _⟩
  · have hin0 := Lib.hid hin
    obtain ⟨i, m, rfl, rfl, h3⟩ := inA_at hin
    clear hin
    have hbl := hA.bl
    have hmk := Try.mkB m (by omega)
    obtain ⟨zs, hzs⟩ : ∃ zs : List UInt8, zs = List.replicate m 0 := ⟨_, rfl⟩
    rw [← hzs] at hmk
    have HZ := Lib.hid hzs
    have HZL := Lib.hid (show m = zs.length by rw [hzs, List.length_replicate]); clear hzs
    have HA := Lib.hid hA; clear hA
    have hzb : zs.length ≤ 1048576 := by have := HZL.out; omega
    have HZB := Lib.hid hzb; clear hzb
    clear h3
    go_enter Try.func37, Try.ntmps37
    go_wp2_with fail
    refine (refIn_any HA.out _ _).mono ?_
    rintro e w1 ⟨rfl, k, rfl⟩
    rw [hin0.out]
    go_wp2_with fail
    have hal : Below (w.drewN k).heap.size (w.drewN k) ((w.drewN k).alloc (.cells (bv zs).toArray 5 (0, 0))) := (Below.refl _ _).alloc (Nat.le_refl _) _
    have hw := refWrite_any ((HA.out.drewN k).below hal) (base + i) zs (some ⟨(w.drewN k).heap.size, 0, none⟩) m (RdB.new (w.drewN k) zs _ _ _ rfl (by have := HZB.out; omega)) (fun a ha _ => by cases ha; have := HA.out.lt.2; show (w.drewN k).heap.size ≠ gb; simp [go_sem]; omega)
    rw [← HZL.out] at hw
    refine hw.mono ?_
    rintro e w2 ⟨rfl, hA2, hg2⟩
    have HG2 := Lib.hid ((grown_drewN w k (some gb)).trans ((grown_of_below hal (some gb)).trans hg2)); clear hg2
    have HA2 := Lib.hid hA2; clear hA2
    go_wp2
    go_ret
    refine ⟨ret_int (by rw [hin0.out]), ?_, HG2.out⟩
    have := HA2.out
    unfold wrB at this
    rw [← HZL.out, hin0.out, HZ.out] at this
    simpa using this
theorem refPlace_any (hA : Arn w T g gb base bs) (addr : Int) :
    Calls Try.prog 41 #[.pointer (some ⟨g, 0, none⟩), .int .i64 addr] w fun e w' => e = .returned (placeA base bs addr) ∧ Below w.heap.size w w' := by
  have h0 := hA.c0
  have hl := hA.bl
  have hb0 := hA.b0
  have hb1 := hA.b1
  unfold placeA
  cases hin : inA base bs.length addr 1
  · have HI := Lib.hid hin; clear hin
    have HA := Lib.hid hA; clear hA
    go_enter Try.func41, Try.ntmps41
    go_wp2_with fail
    refine (refIn_any HA.out addr 1).mono ?_
    rintro e w1 ⟨rfl, k, rfl⟩
    rw [HI.out]
    go_wp2
    go_ret3
    exact ⟨rfl, below_drewN (Below.refl _ _) _⟩
  · obtain ⟨i, m, rfl, h2, h3⟩ := inA_at hin
    obtain rfl : m = 1 := by omega
    clear h2
    have hw1 : IntKind.i64.wrap (base + (i : Int) - base) = i := by rw [wrap_i64_in (by omega) (by omega)]; omega
    have HE := Lib.hid (show base + (i : Int) - base = i by omega)
    have HI := Lib.hid hin; clear hin
    have HA := Lib.hid hA; clear hA
    go_enter Try.func41, Try.ntmps41
    go_wp2_with fail
    refine (refIn_any HA.out _ 1).mono ?_
    rintro e w1 ⟨rfl, k, rfl⟩
    rw [HI.out]
    go_wp2
    go_quiet (fail)
    go_wp2
    go_ret3
    rw [HE.out]
    exact ⟨rfl, below_drewN (Below.refl _ _) _⟩
set_option maxHeartbeats 1000000 in
theorem refAddr_any (hA : Arn w T g gb base bs) (p o : Int) :
    Calls Try.prog 42 #[.pointer (some ⟨g, 0, none⟩), .int .i64 p, .int .i64 o] w fun e w' => e = .returned (addrA base bs p o) ∧ Below w.heap.size w w' := by
  have h0 := hA.c0
  have h1' := hA.c1
  have hl := hA.bl
  have hb0 := hA.b0
  have hb1 := hA.b1
  obtain ⟨L, hL⟩ : ∃ L : Nat, L = bs.length := ⟨_, rfl⟩
  obtain ⟨q, hq⟩ : ∃ q : Nat, q = L / 256 := ⟨_, rfl⟩
  have HB := Lib.hid (show addrB bs p o = decide (0 ≤ p ∧ p < (q : Int) ∧ 0 ≤ o ∧ o < 256) by unfold addrB; rw [hq, hL])
  rw [← hL] at h1' hl
  have hq1 : 1 ≤ q ∧ q ≤ 4096 := by omega
  have hqL : (L : Int) / 256 = (q : Int) := by omega
  have hwq : IntKind.i64.wrap (q : Int) = q := wrap_i64_in (by omega) (by omega)
  clear hL hA
  unfold addrA
  rw [HB.out]
  have hc : (0 ≤ p ∧ p < (q : Int) ∧ 0 ≤ o ∧ o < 256) ∨ p < 0 ∨ (0 ≤ p ∧ (q : Int) ≤ p) ∨ (0 ≤ p ∧ p < q ∧ o < 0) ∨ (0 ≤ p ∧ p < q ∧ 0 ≤ o ∧ 255 < o) := by omega
  have HQ := Lib.hid hq; clear hq
  rcases hc with ⟨k1, k2, k3, k4⟩ | k1 | ⟨k1, k2⟩ | ⟨k1, k2, k3⟩ | ⟨k1, k2, k3, k4⟩
  · rw [decide_eq_true (by omega)]
    have hd1 : decide (p < 0) = false := decide_eq_false (by omega)
    have hd2 : decide ((q : Int) ≤ p) = false := decide_eq_false (by omega)
    have hd3 : decide (o < 0) = false := decide_eq_false (by omega)
    have hd4 : decide (255 < o) = false := decide_eq_false (by omega)
    have hw1 : IntKind.i64.wrap (256 * p) = 256 * p := wrap_i64_in (by omega) (by omega)
    have hw2 : IntKind.i64.wrap (base + 256 * p) = base + 256 * p := wrap_i64_in (by omega) (by omega)
    have hw3 : IntKind.i64.wrap (base + 256 * p + o) = base + 256 * p + o := wrap_i64_in (by omega) (by omega)
    have HE := Lib.hid (show base + 256 * p + o = base + p * 256 + o by omega)
    go_enter Try.func42, Try.ntmps42
    go_wp2
    go_ret2
    rw [← HE.out]
    exact ⟨rfl, Below.refl _ _⟩
  · rw [decide_eq_false (by omega)]
    have hd1 : decide (p < 0) = true := decide_eq_true (by omega)
    go_enter Try.func42, Try.ntmps42
    go_wp2
    go_ret2
    exact ⟨rfl, Below.refl _ _⟩
  · rw [decide_eq_false (by omega)]
    have hd1 : decide (p < 0) = false := decide_eq_false (by omega)
    have hd2 : decide ((q : Int) ≤ p) = true := decide_eq_true (by omega)
    go_enter Try.func42, Try.ntmps42
    go_wp2
    go_ret2
    exact ⟨rfl, Below.refl _ _⟩
  · rw [decide_eq_false (by omega)]
    have hd1 : decide (p < 0) = false := decide_eq_false (by omega)
    have hd2 : decide ((q : Int) ≤ p) = false := decide_eq_false (by omega)
    have hd3 : decide (o < 0) = true := decide_eq_true (by omega)
    go_enter Try.func42, Try.ntmps42
    go_wp2
    go_ret2
    exact ⟨rfl, Below.refl _ _⟩
  · rw [decide_eq_false (by omega)]
    have hd1 : decide (p < 0) = false := decide_eq_false (by omega)
    have hd2 : decide ((q : Int) ≤ p) = false := decide_eq_false (by omega)
    have hd3 : decide (o < 0) = false := decide_eq_false (by omega)
    have hd4 : decide (255 < o) = true := decide_eq_true (by omega)
    go_enter Try.func42, Try.ntmps42
    go_wp2
    go_ret2
    exact ⟨rfl, Below.refl _ _⟩
set_option maxHeartbeats 1000000 in
theorem refMove_any (hA : Arn w T g gb base bs) (x y n : Int) :
    Calls Try.prog 38 #[.pointer (some ⟨g, 0, none⟩), .int .i64 x, .int .i64 y, .int .i64 n] w fun e w' => e = .returned (.int .i64 (okN (inA base bs.length x n && inA base bs.length y n))) ∧ Arn w' T g gb base (if inA base bs.length x n then wrB base bs y (rdA base bs x n) else bs) ∧ w.grownBy w' (some gb) := by
  have HA := Lib.hid hA; clear hA
  cases hin : inA base bs.length x n
  · have HI := Lib.hid hin; clear hin
    go_enter Try.func38, Try.ntmps38
    go_wp2_with fail
    refine (refRead_any HA.out x n).mono ?_
    rintro e w1 ⟨v, rfl, hO, hB⟩
    rw [HI.out, show okN false = 10 from rfl]
    have HB := Lib.hid hB; clear hB hO
    go_wp2
    go_ret
    exact ⟨rfl, by simpa using HA.out.below HB.out, grown_of_below HB.out _⟩
  · have HI := Lib.hid hin; clear hin
    obtain ⟨ys, hys⟩ : ∃ ys, ys = rdA base bs x n := ⟨_, rfl⟩
    have hyl : (ys.length : Int) = n := by
      rw [hys]
      unfold rdA
      rw [if_pos HI.out]
      obtain ⟨i, m, rfl, rfl, h3⟩ := inA_at HI.out
      rw [show (base + (i : Int) - base).toNat = i by omega, Int.toNat_natCast]
      simp
      omega
    rw [← hys]
    have HY := Lib.hid hys; clear hys
    have HYL := Lib.hid hyl; clear hyl
    cases hin2 : inA base bs.length y n
    · have HI2 := Lib.hid hin2; clear hin2
      have HW := Lib.hid (show wrB base bs y ys = bs by unfold wrB; rw [HYL.out, HI2.out]; rfl)
      go_enter Try.func38, Try.ntmps38
      go_wp2_with fail
      refine (refRead_any HA.out x n).mono ?_
      rintro e w1 ⟨v, rfl, hO, hB⟩
      rw [HI.out, show okN true = 0 from rfl]
      have HB := Lib.hid hB; clear hB hO
      go_wp2_with fail
      refine (refIn_any (HA.out.below HB.out) y n).mono ?_
      rintro e w2 ⟨rfl, k, rfl⟩
      rw [HI2.out]
      go_wp2
      go_ret
      exact ⟨rfl, by rw [HW.out]; simpa using (HA.out.below HB.out).drewN k, (grown_of_below HB.out _).trans (grown_drewN _ _ _)⟩
    · have HI2 := Lib.hid hin2; clear hin2
      go_enter Try.func38, Try.ntmps38
      go_wp2_with fail
      refine (refRead_any HA.out x n).mono ?_
      rintro e w1 ⟨v, rfl, hO, hB⟩
      rw [HI.out, show okN true = 0 from rfl]
      rw [← HY.out] at hO
      obtain ⟨A1, c1, rfl, hr1⟩ := hO.rd
      have HNE := Lib.hid (show ∀ a, A1 = some a → a.block ≠ gb from fun a ha => by
        have := hO.lt' a ha.symm; have := HA.out.lt.2; omega)
      have HR := Lib.hid hr1
      have HB := Lib.hid hB; clear hB hO hr1
      go_wp2_with fail
      refine (refIn_any (HA.out.below HB.out) y n).mono ?_
      rintro e w2 ⟨rfl, k, rfl⟩
      rw [HI2.out]
      go_wp2_with fail
      refine (refWrite_any ((HA.out.below HB.out).drewN k) y ys A1 c1 (HR.out.below (below_drewN (Below.refl _ _) k)) (fun a ha _ => HNE.out a ha)).mono ?_
      rintro e w3 ⟨rfl, hA3, hg3⟩
      rw [HYL.out, HI2.out]
      have HA3 := Lib.hid hA3; clear hA3
      have HG3 := Lib.hid (((grown_of_below HB.out (some gb)).trans (grown_drewN _ k _)).trans hg3); clear hg3
      go_wp2
      go_ret
      exact ⟨rfl, by simpa using HA3.out, HG3.out⟩
end
end Go.Proofs.Ytjfbopnohijhkaa
