/- Word and Put of the program's arena; the reference's arena: Read, Write, Zero, Move, Place, Addr. -/
import Derived.Test.YtjfbopnohijhkaaArenaW2
import Derived.Test.YtjfbopnohijhkaaNumPG
namespace Go.Proofs.Ytjfbopnohijhkaa
open Go.RowKit
set_option linter.unusedVariables false
section
variable {T : TypeId} {g gb : Nat} {base : Int} {bs : List UInt8} {w : World}
theorem word_any (hA : Arn w T g gb base bs) (addr : Int) :
    Calls Try.prog 30 #[.pointer (some ⟨g, 0, none⟩), .int .i64 addr] w fun e w' => e = .returned (.tuple #[.int .u64 (getN (rdA base bs addr 8) : Nat), .int .i64 (okN (inA base bs.length addr 8))]) ∧ Below w.heap.size w w' := by
  unfold okN rdA
  cases hin : inA base bs.length addr 8
  · have HI := Lib.hid hin; clear hin
    have HA := Lib.hid hA; clear hA
    go_enter Try.func30, Try.ntmps30
    go_wp2_with fail
    refine (at_err HA.out addr 8 HI.out).mono ?_
    rintro e w1 ⟨rfl, rfl⟩
    go_wp2_with fail
    refine (get_any none 0 [] w ⟨by simp, fun h => by simp [bv] at h⟩).mono ?_
    rintro e w1 ⟨rfl, rfl⟩
    go_wp2
    go_ret2
    exact ⟨by first | rfl | simp, Below.refl _ _⟩
  · obtain ⟨i, m, rfl, h2, h3⟩ := inA_at hin
    obtain rfl : m = 8 := by omega
    clear hin h2
    have HE := Lib.hid (show (base + (i : Int) - base).toNat = i by omega)
    obtain ⟨q, hq⟩ : ∃ q : List UInt8, q = (bs.drop i).take 8 := ⟨_, rfl⟩
    have HQ := Lib.hid hq
    have HQL := Lib.hid (show 8 = q.length by rw [hq]; simp; omega)
    clear hq
    have HI := Lib.hid h3; clear h3
    have HA := Lib.hid hA; clear hA
    go_enter Try.func30, Try.ntmps30
    go_wp2_with fail
    refine (at_any HA.out i 8 HI.out _ rfl).mono ?_
    rintro e w1 ⟨⟨A1, c1, rfl, hA1⟩, k, rfl⟩
    have HA1 := Lib.hid hA1; clear hA1
    go_wp2_with fail
    refine (get_n' A1 c1 8 q (w.drewN k) (by rw [HQ.out]; exact (HA.out.drewN k).rd A1 i 8 HI.out HA1.out) HQL.out).mono ?_
    rintro e w1 ⟨rfl, rfl⟩
    go_wp2
    go_ret2
    have hyt : List.take 8 (List.drop (base + (i : Int) - base).toNat bs) = q := by rw [HE.out]; exact HQ.out.symm
    exact ⟨by first | rfl | (rw [hyt]; rfl), below_drewN (Below.refl _ _) _⟩
theorem aput_any (hA : Arn w T g gb base bs) (addr : Int) (n : Nat) (hn : n < 18446744073709551616) :
    Calls Try.prog 32 #[.pointer (some ⟨g, 0, none⟩), .int .i64 addr, .int .u64 (n : Int)] w fun e w' => e = .returned (.int .i64 (okN (inA base bs.length addr 8))) ∧ Arn w' T g gb base (wrB base bs addr (leB n 8)) ∧ w.grownBy w' (some gb) := by
  have HN := Lib.hid hn; clear hn
  have HA := Lib.hid hA; clear hA
  go_enter Try.func32, Try.ntmps32
  go_wp2_with fail
  refine (put8_any n w HN.out).mono ?_
  rintro e w1 ⟨A1, c1, rfl, hr1, hB1⟩
  have HA1 := Lib.hid (HA.out.below hB1)
  have HG := Lib.hid (grown_of_below hB1 (some gb))
  have HR := Lib.hid hr1
  clear hr1 hB1
  go_wp2_with fail
  refine (write_any HA1.out addr (leB n 8) A1 c1 HR.out).mono ?_
  rintro e w2 ⟨rfl, hA2, hg2⟩
  rw [show ((leB n 8).length : Int) = 8 by rw [leB_length]; rfl]
  have HA2 := Lib.hid hA2; clear hA2
  have HG2 := Lib.hid hg2; clear hg2
  go_wp2
  go_ret
  exact ⟨rfl, HA2.out, HG.out.trans HG2.out⟩
set_option maxHeartbeats 400000 in
set_option maxRecDepth 20000 in
theorem refRead_any (hA : Arn w T g gb base bs) (addr n : Int) :
    Calls Try.prog 35 #[.pointer (some ⟨g, 0, none⟩), .int .i64 addr, .int .i64 n] w fun e w' => ∃ v, e = .returned (.tuple #[v, .int .i64 (okN (inA base bs.length addr n))]) ∧ OwnB w' w.heap.size 5 v (rdA base bs addr n) ∧ Below w.heap.size w w' := by
  unfold okN rdA
  cases hin : inA base bs.length addr n
  · have HI := Lib.hid hin; clear hin
    have HA := Lib.hid hA; clear hA
    go_enter Try.func35, Try.ntmps35
    go_wp2_with fail
    refine (refIn_any HA.out addr n).mono ?_
    rintro e w1 ⟨rfl, k, rfl⟩
    rw [HI.out]
    go_wp2
    go_ret2
    exact ⟨_, rfl, own_nil _ _ _ _, below_drewN (Below.refl _ _) _⟩
  · have hin0 := Lib.hid hin
    obtain ⟨i, m, rfl, rfl, h3⟩ := inA_at hin
    clear hin
    have hb0 := hA.b0
    have hb1 := hA.b1
    have hbl := hA.bl
    have hw1 : IntKind.i64.wrap (base + (i : Int) - base) = i := by rw [wrap_i64_in (by omega) (by omega)]; omega
    have hw2 : IntKind.i64.wrap ((i : Int) + (m : Int)) = ((i + m : Nat) : Int) := by rw [wrap_i64_in (by omega) (by omega)]; omega
    have HE := Lib.hid (show (base + (i : Int) - base).toNat = i by omega)
    obtain ⟨L, hL⟩ : ∃ L : Nat, L = bs.length := ⟨_, rfl⟩
    have h0 := hA.c0
    have h1 := hA.c1
    rw [← hL] at h1 h3 hbl
    have HL := Lib.hid hL; clear hL
    have HI := Lib.hid h3
    have HA := Lib.hid hA; clear hA
    go_enter Try.func35, Try.ntmps35
    go_wp2_with fail
    refine (refIn_any HA.out _ _).mono ?_
    rintro e w1 ⟨rfl, k, rfl⟩
    rw [hin0.out]
    obtain ⟨q, hq⟩ : ∃ q : List UInt8, q = (bs.drop i).take m := ⟨_, rfl⟩
    have HQL := Lib.hid (show m = q.length by rw [hq]; have := HL.out; simp; omega)
    have HQB := Lib.hid (show q.length ≤ 140737488355328 by have := HQL.out; omega)
    have hqr : (L = i ∧ RdB w (some ⟨gb, 0, none⟩) q) ∨ (¬ L = i ∧ RdB w (some ⟨gb, i, none⟩) q) := by
      by_cases h : L = i
      · exact .inl ⟨h, by rw [hq]; exact HA.out.rd _ i m (by rw [← HL.out]; exact HI.out) (fun h0 => by omega)⟩
      · exact .inr ⟨h, by rw [hq]; exact HA.out.rd _ i m (by rw [← HL.out]; exact HI.out) (fun _ => rfl)⟩
    have HQ := Lib.hid hq; clear hq
    have hlt : g < w.heap.size := HA.out.lt.1
    have HD0 := Lib.hid h0
    have HD1 := Lib.hid h1
    have hb8 : Below w.heap.size w (w.drewN k) := below_drewN (Below.refl _ _) k
    have HB8 := Lib.hid hb8; clear hb8
    rcases hqr with ⟨hiL, hr1⟩ | ⟨hiL, hr1⟩
    all_goals (
      have HR := Lib.hid (hr1.below (below_drewN (Below.refl _ _) (k + 1))); clear hr1
      go_wp2_with fail
      go_region_held (fun w' => w'.cell? ⟨g, 0, none⟩ = some (.int .i64 base) ∧ w'.cell? ⟨g, 1, none⟩ = some (.slice (some ⟨gb, 0, none⟩) L L)) (first | exact ⟨HD0.out, HD1.out⟩ | exact ⟨(hb9.cell (p := ⟨g, 0, none⟩) hlt).trans HD0.out, (hb9.cell (p := ⟨g, 1, none⟩) hlt).trans HD1.out⟩) ((go_at_call 34; go_loud (refine (copy_any _ _ _ q _ HR.out (by first | exact HQL.out | (have := HQL.out; omega)) HQB.out).mono ?_; rintro e w3 ⟨A3, c3, rfl, hown3, hb9⟩)))
      go_wp2
      go_ret2
      have hyt : List.take m (List.drop (base + (i : Int) - base).toNat bs) = q := by rw [HE.out]; exact HQ.out.symm
      rw [hyt]
      exact ⟨_, rfl, hown3, Below.trans (below_drewN (Below.refl _ _) (k + 1)) hb9⟩)
end
end Go.Proofs.Ytjfbopnohijhkaa
