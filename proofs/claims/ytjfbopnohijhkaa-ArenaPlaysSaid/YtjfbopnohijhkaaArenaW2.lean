/- The program's arena, its bytes read, written, moved. -/
import Derived.Test.YtjfbopnohijhkaaArenaMem
import Derived.Test.YtjfbopnohijhkaaSame
namespace Go.Proofs.Ytjfbopnohijhkaa
open Go.RowKit
theorem Try.zb : ∀ w, (zeroValue 5).run Try.prog w = .ok (.int .u8 0) w := fun w => by simp [go_sem]
section
variable {T : TypeId} {g gb : Nat} {base : Int} {bs : List UInt8} {w : World}
/-- What a write makes of the bytes, and what it answers. -/
def wrB (base : Int) (bs : List UInt8) (addr : Int) (xs : List UInt8) : List UInt8 := if inA base bs.length addr xs.length then splice bs (addr - base).toNat xs else bs
def okN (b : Bool) : Int := if b then 0 else 10
theorem write_any (hA : Arn w T g gb base bs) (addr : Int) (xs : List UInt8) (A : Option Addr) (c : Nat) (hr : RdB w A xs) :
    Calls Try.prog 21 #[.pointer (some ⟨g, 0, none⟩), .int .i64 addr, .slice A xs.length c] w fun e w' => e = .returned (.int .i64 (okN (inA base bs.length addr xs.length))) ∧ Arn w' T g gb base (wrB base bs addr xs) ∧ w.grownBy w' (some gb) := by
  unfold wrB okN
  cases hin : inA base bs.length addr xs.length
  · have HI := Lib.hid hin; clear hin
    have HA := Lib.hid hA; clear hA
    go_enter Try.func21, Try.ntmps21
    go_wp2_with fail
    refine (at_err HA.out addr xs.length HI.out).mono ?_
    rintro e w1 ⟨rfl, rfl⟩
    have hcp := run_copy_none (P := Try.prog) w 33 33 3 5 none A 0 0 xs.length c Try.underlying33 rfl (by simp)
    go_wp2
    go_ret
    exact ⟨rfl, by simpa using HA.out, World.grownBy.refl _ _⟩
  · obtain ⟨i, m, rfl, h2, h3⟩ := inA_at hin
    obtain rfl : m = xs.length := by omega
    clear h2 hin
    have HE := Lib.hid (show (base + (i : Int) - base).toNat = i by omega)
    have HI := Lib.hid h3; clear h3
    have HA := Lib.hid hA; clear hA
    have HR := Lib.hid hr; clear hr
    go_enter Try.func21, Try.ntmps21
    go_wp2_with fail
    refine (at_any HA.out i xs.length HI.out _ rfl).mono ?_
    rintro e w1 ⟨⟨A1, c1, rfl, hA1⟩, m, rfl⟩
    have HA1 := Lib.hid hA1; clear hA1
    obtain ⟨w2, hcp, hA2, hg2⟩ := run_copyA (P := Try.prog) (HA.out.drewN m) 33 33 3 5 Try.underlying33 rfl A1 A _ c1 c i xs rfl HA1.out HR.out HI.out
    have HA2 := Lib.hid hA2; clear hA2
    have HG2 := Lib.hid hg2; clear hg2
    go_wp2
    go_ret
    exact ⟨rfl, by simpa [HE.out] using HA2.out, (grown_drewN w m _).trans HG2.out⟩
theorem zero_any (hA : Arn w T g gb base bs) (addr n : Int) :
    Calls Try.prog 31 #[.pointer (some ⟨g, 0, none⟩), .int .i64 addr, .int .i64 n] w fun e w' => e = .returned (.int .i64 (okN (inA base bs.length addr n))) ∧ Arn w' T g gb base (if inA base bs.length addr n then splice bs (addr - base).toNat (List.replicate n.toNat 0) else bs) ∧ w.grownBy w' (some gb) := by
  unfold okN
  cases hin : inA base bs.length addr n
  · have HI := Lib.hid hin; clear hin
    have HA := Lib.hid hA; clear hA
    go_enter Try.func31, Try.ntmps31
    go_wp2_with fail
    refine (at_err HA.out addr n HI.out).mono ?_
    rintro e w1 ⟨rfl, rfl⟩
    have hcp := run_clear_none (P := Try.prog) w 33 0 5 Try.underlying33 none 0
    go_wp2
    go_ret
    exact ⟨rfl, by simpa using HA.out, World.grownBy.refl _ _⟩
  · obtain ⟨i, m, rfl, rfl, h3⟩ := inA_at hin
    clear hin
    have HE := Lib.hid (show (base + (i : Int) - base).toNat = i by omega)
    have HI := Lib.hid h3; clear h3
    have HA := Lib.hid hA; clear hA
    go_enter Try.func31, Try.ntmps31
    go_wp2_with fail
    refine (at_any HA.out i m HI.out _ rfl).mono ?_
    rintro e w1 ⟨⟨A1, c1, rfl, hA1⟩, k, rfl⟩
    have HA1 := Lib.hid hA1; clear hA1
    obtain ⟨w2, hcp, hA2, hg2⟩ := run_clearA (P := Try.prog) (HA.out.drewN k) 33 0 5 Try.underlying33 Try.zb A1 m c1 i HA1.out HI.out
    have HA2 := Lib.hid hA2; clear hA2
    have HG2 := Lib.hid hg2; clear hg2
    go_wp2
    go_ret
    exact ⟨rfl, by simpa [HE.out] using HA2.out, (grown_drewN w k _).trans HG2.out⟩
/-- What is read. -/
def rdA (base : Int) (bs : List UInt8) (addr n : Int) : List UInt8 := if inA base bs.length addr n then (bs.drop (addr - base).toNat).take n.toNat else []
theorem read_any (hA : Arn w T g gb base bs) (addr n : Int) :
    Calls Try.prog 29 #[.pointer (some ⟨g, 0, none⟩), .int .i64 addr, .int .i64 n] w fun e w' => ∃ v, e = .returned (.tuple #[v, .int .i64 (okN (inA base bs.length addr n))]) ∧ OwnB w' w.heap.size 5 v (rdA base bs addr n) ∧ Below w.heap.size w w' := by
  unfold okN rdA
  cases hin : inA base bs.length addr n
  · have HI := Lib.hid hin; clear hin
    have HA := Lib.hid hA; clear hA
    go_enter Try.func29, Try.ntmps29
    go_wp2_with fail
    refine (at_err HA.out addr n HI.out).mono ?_
    rintro e w1 ⟨rfl, rfl⟩
    go_wp2
    go_ret2
    exact ⟨_, rfl, own_empty _ _ _ _ (Nat.le_refl _), (Below.refl _ _).alloc (Nat.le_refl _) _⟩
  · obtain ⟨i, m, rfl, rfl, h3⟩ := inA_at hin
    clear hin
    have HE := Lib.hid (show (base + (i : Int) - base).toNat = i by omega)
    have HI := Lib.hid h3; clear h3
    have HA := Lib.hid hA; clear hA
    go_enter Try.func29, Try.ntmps29
    go_wp2_with fail
    refine (at_any HA.out i m HI.out _ rfl).mono ?_
    rintro e w1 ⟨⟨A1, c1, rfl, hA1⟩, k, rfl⟩
    have HA1 := Lib.hid hA1; clear hA1
    obtain ⟨ys, hys⟩ : ∃ ys, ys = (bs.drop i).take m := ⟨_, rfl⟩
    have hyl : m = ys.length := by rw [hys]; have := HI.out; simp; omega
    obtain ⟨mm, hmm⟩ : ∃ mm : Nat, mm = m := ⟨_, rfl⟩
    have hyb : ys.length ≤ 1048576 := by have := HA.out.bl; have := HI.out; omega
    have hr1 : RdB (w.drewN k) A1 ys := by rw [hys]; exact (HA.out.drewN k).rd A1 i m HI.out HA1.out
    have HR := Lib.hid (hr1.below ((Below.refl _ _).alloc (Nat.le_refl _) (.cells #[] 5))); clear hr1
    have HY := Lib.hid hys; clear hys
    go_wp2_with (at_builtin; go_loud (refine wpList_appB w w.heap.size Try.slB rfl (.tmp 17) (.tmp 18) rfl _ [] rfl (own_empty (w.drewN k) _ _ _ (Nat.le_refl _)) A1 _ c1 ys rfl rfl HR.out ys rfl (by omega) ((below_drewN (Below.refl _ _) k).alloc (Nat.le_refl _) _) (Nat.le_refl _) ?_); intro A3 c3 w3 hown3 hr3 hB3 hg3 hat3; clear hg3 hat3 hr3)
    go_ret2
    refine ⟨_, rfl, ?_, hB3⟩
    have hyt : List.take ys.length (List.drop (base + (i : Int) - base).toNat bs) = ys := by rw [HE.out, ← hyl]; exact HY.out.symm
    rw [hyt]
    exact hown3
theorem bytes_any (hA : Arn w T g gb base bs) :
    Calls Try.prog 22 #[.pointer (some ⟨g, 0, none⟩)] w fun e w' => ∃ A c, e = .returned (.slice A bs.length c) ∧ OwnB w' w.heap.size 5 (.slice A bs.length c) bs ∧ Below w.heap.size w w' := by
  have h0 := hA.c1
  have hl := hA.bl
  have hal : Below w.heap.size w (w.alloc (.cells #[] 5)) := (Below.refl _ _).alloc (Nat.le_refl _) _
  have h1 := cell_below hal h0
  have HR := Lib.hid (hA.rdAll.below hal)
  have HB := Lib.hid hal; clear hal
  clear hA
  go_enter Try.func22, Try.ntmps22
  go_wp2_with (at_builtin; go_loud (refine wpList_appB w w.heap.size Try.slB rfl (.tmp 5) (.tmp 9) rfl _ [] rfl (own_empty w _ _ _ (Nat.le_refl _)) (some ⟨gb, 0, none⟩) _ bs.length bs rfl rfl HR.out bs rfl (by omega) HB.out (Nat.le_refl _) ?_); intro A3 c3 w3 hown3 hr3 hB3 hg3 hat3; clear hg3 hat3 hr3)
  go_ret
  exact ⟨_, _, rfl, hown3, hB3⟩
theorem move_any (hA : Arn w T g gb base bs) (x y n : Int) :
    Calls Try.prog 23 #[.pointer (some ⟨g, 0, none⟩), .int .i64 x, .int .i64 y, .int .i64 n] w fun e w' => e = .returned (.int .i64 (okN (inA base bs.length x n && inA base bs.length y n))) ∧ Arn w' T g gb base (if inA base bs.length x n then wrB base bs y (rdA base bs x n) else bs) ∧ w.grownBy w' (some gb) := by
  unfold okN
  cases hin : inA base bs.length x n
  · have HI := Lib.hid hin; clear hin
    have HA := Lib.hid hA; clear hA
    go_enter Try.func23, Try.ntmps23
    go_wp2_with fail
    refine (at_err HA.out x n HI.out).mono ?_
    rintro e w1 ⟨rfl, rfl⟩
    go_wp2
    go_ret
    exact ⟨rfl, by simpa using HA.out, World.grownBy.refl _ _⟩
  · have hrd : rdA base bs x n = (bs.drop (x - base).toNat).take n.toNat := by unfold rdA; rw [if_pos hin]
    obtain ⟨i, m, rfl, rfl, h3⟩ := inA_at hin
    clear hin
    have hE : (base + (i : Int) - base).toNat = i := by omega
    rw [hE, Int.toNat_natCast] at hrd
    have hrl : (rdA base bs (base + i) m).length = m := by rw [hrd]; simp; omega
    generalize rdA base bs (base + i) m = ys at hrd hrl
    have HI := Lib.hid h3; clear h3
    have HA := Lib.hid hA; clear hA
    have HY := Lib.hid hrd; clear hrd
    have HYL := Lib.hid hrl; clear hrl
    unfold wrB
    rw [HYL.out]
    cases hin : inA base bs.length y m
    · have HI2 := Lib.hid hin; clear hin
      go_enter Try.func23, Try.ntmps23
      go_wp2_with fail
      refine (at_any HA.out i m HI.out _ rfl).mono ?_
      rintro e w1 ⟨⟨A1, c1, rfl, hA1⟩, k, rfl⟩
      go_wp2_with fail
      refine (at_err (HA.out.drewN k) y m HI2.out).mono ?_
      rintro e w1 ⟨rfl, rfl⟩
      have hcp := run_copy_none (P := Try.prog) (w.drewN k) 33 33 3 5 none A1 0 0 m c1 Try.underlying33 rfl (by simp)
      go_wp2
      go_ret
      exact ⟨rfl, by simpa using HA.out.drewN k, grown_drewN _ _ _⟩
    · obtain ⟨j, m', rfl, hmm, h3⟩ := inA_at hin
      obtain rfl : m = m' := by omega
      clear hin hmm
      have HE := Lib.hid (show (base + (j : Int) - base).toNat = j by omega)
      have HI2 := Lib.hid h3; clear h3
      go_enter Try.func23, Try.ntmps23
      go_wp2_with fail
      refine (at_any HA.out i m HI.out _ rfl).mono ?_
      rintro e w1 ⟨⟨A1, c1, rfl, hA1⟩, k, rfl⟩
      have HA1 := Lib.hid hA1; clear hA1
      go_wp2_with fail
      refine (at_any (HA.out.drewN k) j m HI2.out _ rfl).mono ?_
      rintro e w1 ⟨⟨A2, c2, rfl, hA2⟩, k2, rfl⟩
      have HA2 := Lib.hid hA2; clear hA2
      obtain ⟨w2, hcp, hA2, hg2⟩ := run_copyA (P := Try.prog) (HA.out.drewN (k + k2)) 33 33 3 5 Try.underlying33 rfl A2 A1 m c2 c1 j ys HYL.out.symm HA2.out (by rw [HY.out]; exact (HA.out.drewN (k + k2)).rd A1 i m HI.out HA1.out) (by have := HYL.out; have := HI2.out; omega)
      have HA3 := Lib.hid hA2; clear hA2
      have HG2 := Lib.hid hg2; clear hg2
      go_wp2
      go_ret
      exact ⟨rfl, by simpa [HE.out] using HA3.out, (grown_drewN w (k + k2) _).trans HG2.out⟩
/-- The place of an address. -/
def placeA (base : Int) (bs : List UInt8) (addr : Int) : Value := if inA base bs.length addr 1 then .tuple #[.int .i64 ((addr - base) / 256), .int .i64 ((addr - base) % 256), .bool true] else .tuple #[.int .i64 0, .int .i64 0, .bool false]
def addrB (bs : List UInt8) (p o : Int) : Bool := decide (0 ≤ p ∧ p < ((bs.length / 256 : Nat) : Int) ∧ 0 ≤ o ∧ o < 256)
def addrA (base : Int) (bs : List UInt8) (p o : Int) : Value := if addrB bs p o then .tuple #[.int .i64 (base + p * 256 + o), .bool true] else .tuple #[.int .i64 0, .bool false]
theorem place_any (hA : Arn w T g gb base bs) (addr : Int) :
    Calls Try.prog 26 #[.pointer (some ⟨g, 0, none⟩), .int .i64 addr] w fun e w' => e = .returned (placeA base bs addr) ∧ Below w.heap.size w w' := by
  have h0 := hA.c0
  have hl := hA.bl
  have hb0 := hA.b0
  have hb1 := hA.b1
  unfold placeA
  cases hin : inA base bs.length addr 1
  · have HI := Lib.hid hin; clear hin
    have HA := Lib.hid hA; clear hA
    go_enter Try.func26, Try.ntmps26
    go_wp2_with fail
    refine (in_any HA.out addr 1).mono ?_
    rintro e w1 ⟨rfl, rfl⟩
    rw [HI.out]
    go_wp2
    go_ret3
    exact ⟨rfl, Below.refl _ _⟩
  · obtain ⟨i, m, rfl, h2, h3⟩ := inA_at hin
    obtain rfl : m = 1 := by omega
    clear h2
    have hw1 : IntKind.i64.wrap (base + (i : Int) - base) = i := by rw [wrap_i64_in (by omega) (by omega)]; omega
    have HE := Lib.hid (show base + (i : Int) - base = i by omega)
    have HI := Lib.hid hin; clear hin
    have HA := Lib.hid hA; clear hA
    go_enter Try.func26, Try.ntmps26
    go_wp2_with fail
    refine (in_any HA.out _ 1).mono ?_
    rintro e w1 ⟨rfl, rfl⟩
    rw [HI.out]
    go_wp2
    go_quiet (fail)
    go_wp2
    go_ret3
    rw [HE.out]
    exact ⟨rfl, below_drewN (Below.refl _ _) _⟩
theorem addr_any (hA : Arn w T g gb base bs) (p o : Int) :
    Calls Try.prog 25 #[.pointer (some ⟨g, 0, none⟩), .int .i64 p, .int .i64 o] w fun e w' => e = .returned (addrA base bs p o) ∧ Below w.heap.size w w' := by
  have h0 := hA.c0
  have hl := hA.bl
  have hb0 := hA.b0
  have hb1 := hA.b1
  obtain ⟨q, hq⟩ : ∃ q : Nat, q = bs.length / 256 := ⟨_, rfl⟩
  have HB := Lib.hid (show addrB bs p o = decide (0 ≤ p ∧ p < (q : Int) ∧ 0 ≤ o ∧ o < 256) by unfold addrB; rw [hq])
  have hq1 : 1 ≤ q ∧ q ≤ 4096 := by omega
  have HQ := Lib.hid hq; clear hq
  have HA := Lib.hid hA; clear hA
  unfold addrA
  rw [HB.out]
  by_cases h1 : p < 0
  · rw [decide_eq_false (by omega)]
    go_enter Try.func25, Try.ntmps25
    go_wp2
    go_ret2
    exact ⟨rfl, Below.refl _ _⟩
  · by_cases h2 : p < q
    · by_cases h3 : 0 ≤ o ∧ o < 256
      · rw [decide_eq_true (by omega)]
        obtain ⟨h4, h5⟩ := h3
        go_enter Try.func25, Try.ntmps25
        go_wp2_with fail
        refine (pages_any HA.out).mono ?_
        rintro e w1 ⟨rfl, rfl⟩
        rw [← HQ.out]
        go_wp2
        go_ret2
        exact ⟨rfl, Below.refl _ _⟩
      · rw [decide_eq_false (by omega)]
        go_enter Try.func25, Try.ntmps25
        go_wp2_with fail
        refine (pages_any HA.out).mono ?_
        rintro e w1 ⟨rfl, rfl⟩
        rw [← HQ.out]
        by_cases h4 : o < 0
        · go_wp2
          go_ret2
          exact ⟨rfl, Below.refl _ _⟩
        · have h5 : 256 ≤ o := by omega
          go_wp2
          go_ret2
          exact ⟨rfl, Below.refl _ _⟩
    · rw [decide_eq_false (by omega)]
      go_enter Try.func25, Try.ntmps25
      go_wp2_with fail
      refine (pages_any HA.out).mono ?_
      rintro e w1 ⟨rfl, rfl⟩
      rw [← HQ.out]
      go_wp2
      go_ret2
      exact ⟨rfl, Below.refl _ _⟩
end
end Go.Proofs.Ytjfbopnohijhkaa
