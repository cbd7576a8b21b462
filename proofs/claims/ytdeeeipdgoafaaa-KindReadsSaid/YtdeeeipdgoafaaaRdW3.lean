/- Readers: Upto, Fail, Err, Left, Open; the reference's. -/
import Derived.Test.YtdeeeipdgoafaaaRdW2
namespace Go.Proofs.Ytdeeeipdgoafaaa
open Go.RowKit
set_option linter.unusedVariables false
section
variable {T : TypeId} {g hi : Nat} {xs : List UInt8} {er : Nat} {w : World}
/-- A number at most so much. -/
def rdU (xs : List UInt8) (er most : Nat) : Nat × List UInt8 × Nat := if most < (rdV xs er).1 then (0, xs, 4) else rdV xs er
theorem rdV_facts (xs : List UInt8) (er : Nat) (he : er ≤ 100) : (rdV xs er).1 < 18446744073709551616 ∧ (rdV xs er).2.2 ≤ 100 ∧ (rdV xs er).2.1.length ≤ xs.length ∧ (0 < (rdV xs er).1 → (rdV xs er).2.2 = 0) := by
  obtain ⟨h1, h2, h3, h4⟩ := vr_lt xs 0 0 (by omega) (by decide)
  unfold rdV
  by_cases h : er ≠ 0
  · rw [if_pos h]; exact ⟨by show (0 : Nat) < 18446744073709551616; decide, he, Nat.le_refl _, fun h => absurd h (Nat.lt_irrefl 0)⟩
  · rw [if_neg h]
    by_cases h0 : (vr 0 0 xs).2.2 = 0
    · rw [if_pos h0]; exact ⟨h1, by simp, by simp, fun _ => rfl⟩
    · rw [if_neg h0]; exact ⟨by show (0 : Nat) < 18446744073709551616; decide, by show (vr 0 0 xs).2.2 ≤ 100; omega, Nat.le_refl _, fun h => absurd h (Nat.lt_irrefl 0)⟩
theorem Rdr.c (h : Rdr w T g hi xs er) : ∃ A c, w.cell? ⟨g, 0, none⟩ = some (.slice A xs.length c) ∧ w.cell? ⟨g, 1, none⟩ = some (.int .i64 (er : Int)) ∧ (∀ j, w.frozen? ⟨g, j, none⟩ = false) ∧ RdB w A xs ∧ xs.length ≤ c ∧ (∀ a, A = some a → 0 < xs.length → a.block ≠ g ∧ a.block < hi) := by
  obtain ⟨A, c, h1, h2, h3, h4⟩ := h.row
  obtain ⟨hy0, hy1⟩ := cells2 h1
  exact ⟨A, c, hy0, hy1, fun j => frozen_of_row _ _ j _ _ h1, h2, h3, h4⟩
theorem grownN {w w' : World} {A : Option Addr} {xs : List UInt8} {gb : Nat} (h : RdB w A xs) (hg : w.grownBy w' (some gb)) (hne : ∀ a, A = some a → 0 < xs.length → a.block ≠ gb) : RdB w' A xs := by
  refine ⟨h.1, fun hp => ?_⟩
  obtain ⟨b, off, e, hc⟩ := h.2 hp
  have hb := hne _ e (by rwa [bv_length] at hp)
  refine ⟨b, off, e, fun j v hj => ?_⟩
  have hcv := hc j v hj
  exact (World.cell?_of_block (w := w) (hg.block b (World.block_lt_of_cell? w _ hcv) (fun e => hb (Option.some.inj e)))).trans hcv
set_option maxHeartbeats 1000000 in
theorem rupto_any (hr : Rdr w T g hi xs er) (he : er ≤ 100) (hl : xs.length ≤ 140737488355328) (most : Nat) (hm : most < 18446744073709551616) :
    Calls Try.prog 38 #[.pointer (some ⟨g, 0, none⟩), .int .u64 (most : Int)] w fun e w' => e = .returned (.int .u64 ((rdU xs er most).1 : Int)) ∧ Rdr w' T g hi (rdU xs er most).2.1 (rdU xs er most).2.2 ∧ w.grownBy w' (some g) := by
  obtain ⟨A, c, hy0, hy1, hyf, hA, hc, hne⟩ := hr.c
  have HV := Lib.hid (rvar_any hr he hl)
  have HA := Lib.hid hA
  have HNE := Lib.hid hne
  have HF := Lib.hid (rdV_facts xs er he)
  clear hr hA hne
  go_enter Try.func38, Try.ntmps38
  go_wp2_with fail
  refine HV.out.mono ?_
  rintro e w1 ⟨rfl, hR1, hg1⟩
  have HR1 := Lib.hid hR1
  have HG1 := Lib.hid hg1
  have HA1 := Lib.hid (grownN HA.out hg1 (fun a ha hp => (HNE.out a ha hp).1))
  obtain ⟨A1, c1, hz0, hz1, hzf, _, _, _⟩ := hR1.c
  clear hR1 hg1 hy0 hy1 hyf
  by_cases hlt : most < (rdV xs er).1
  · have HD := Lib.hid (show rdU xs er most = (0, xs, 4) by unfold rdU; rw [if_pos hlt])
    have he0 : (rdV xs er).2.2 = 0 := HF.out.2.2.2 (by omega)
    obtain ⟨hT1, hT2⟩ := HR1.out.take HA1.out rfl hc HNE.out
    obtain ⟨hT3, hT4⟩ := hT1.fault 4
    have HT := Lib.hid hT3
    have HG := Lib.hid ((HG1.out.trans hT2).trans hT4)
    clear hT1 hT2 hT3 hT4
    generalize (rdV xs er).1 = v at *
    go_wp2
    go_ret
    rw [HD.out]
    exact ⟨rfl, HT.out, HG.out⟩
  · have HD := Lib.hid (show rdU xs er most = rdV xs er by unfold rdU; rw [if_neg hlt])
    obtain ⟨v, hv⟩ : ∃ v, v = (rdV xs er).1 := ⟨_, rfl⟩
    rw [← hv] at hlt ⊢
    have HVV := Lib.hid hv
    clear hv
    go_wp2
    go_ret
    rw [HD.out]
    exact ⟨ret_int (by rw [HVV.out]), HR1.out, HG1.out⟩
theorem rfail_any (hr : Rdr w T g hi xs er) (e0 : Nat) :
    Calls Try.prog 39 #[.pointer (some ⟨g, 0, none⟩), .int .i64 (e0 : Int)] w fun e w' => e = .returned (.tuple #[]) ∧ Rdr w' T g hi xs (if er = 0 then e0 else er) ∧ w.grownBy w' (some g) := by
  obtain ⟨A, c, hy0, hy1, hyf, _, _, _⟩ := hr.c
  have HR := Lib.hid hr
  have HF := Lib.hid (hr.fault e0)
  clear hr
  by_cases h0 : er = 0
  · subst h0
    rw [if_pos rfl]
    go_enter Try.func39, Try.ntmps39
    go_wp2
    first | (refine bodyPost_ret (results_none rfl _ _ _) rfl ?_) | (refine bodyPost_end (results_none rfl _ _ _) rfl ?_)
    exact ⟨rfl, HF.out⟩
  · rw [if_neg h0]
    have hz : ((er : Int) == 0) = false := by simp; omega
    go_enter Try.func39, Try.ntmps39
    go_wp2
    first | (refine bodyPost_ret (results_none rfl _ _ _) rfl ?_) | (refine bodyPost_end (results_none rfl _ _ _) rfl ?_)
    exact ⟨rfl, HR.out, ⟨rfl, rfl, rfl, Nat.le_refl _, fun _ _ _ => rfl⟩⟩
theorem rerr_any (hr : Rdr w T g hi xs er) :
    Calls Try.prog 30 #[.pointer (some ⟨g, 0, none⟩)] w fun e w' => e = .returned (.int .i64 (er : Int)) ∧ w = w' := by
  obtain ⟨A, c, hy0, hy1, hyf, _, _, _⟩ := hr.c
  go_enter Try.func30, Try.ntmps30
  go_wp2
  go_ret
  exact ⟨rfl, rfl⟩
def leftN (xs : List UInt8) (er : Nat) : Nat := if er = 0 then xs.length else 0
theorem rleft_any (hr : Rdr w T g hi xs er) :
    Calls Try.prog 31 #[.pointer (some ⟨g, 0, none⟩)] w fun e w' => e = .returned (.int .i64 (leftN xs er : Int)) ∧ w = w' := by
  obtain ⟨A, c, hy0, hy1, hyf, _, _, _⟩ := hr.c
  unfold leftN
  by_cases h0 : er = 0
  · subst h0
    rw [if_pos rfl]
    go_enter Try.func31, Try.ntmps31
    go_wp2
    go_ret
    exact ⟨rfl, rfl⟩
  · rw [if_neg h0]
    have hz : ((er : Int) != 0) = true := by simp; omega
    go_enter Try.func31, Try.ntmps31
    go_wp2
    go_ret
    exact ⟨rfl, rfl⟩
set_option maxHeartbeats 1000000 in
theorem refUpto_any (hr : Rdr w T g hi xs er) (he : er ≤ 100) (hl : xs.length ≤ 140737488355328) (most : Nat) (hm : most < 18446744073709551616) :
    Calls Try.prog 40 #[.pointer (some ⟨g, 0, none⟩), .int .u64 (most : Int)] w fun e w' => e = .returned (.int .u64 ((rdU xs er most).1 : Int)) ∧ Rdr w' T g hi (rdU xs er most).2.1 (rdU xs er most).2.2 ∧ w.grownBy w' (some g) := by
  obtain ⟨A, c, hy0, hy1, hyf, hA, hc, hne⟩ := hr.c
  have HV := Lib.hid (refRvar_any hr he hl)
  have HA := Lib.hid hA
  have HNE := Lib.hid hne
  have HF := Lib.hid (rdV_facts xs er he)
  clear hr hA hne
  go_enter Try.func40, Try.ntmps40
  go_wp2_with fail
  refine HV.out.mono ?_
  rintro e w1 ⟨rfl, hR1, hg1⟩
  have HR1 := Lib.hid hR1
  have HG1 := Lib.hid hg1
  have HA1 := Lib.hid (grownN HA.out hg1 (fun a ha hp => (HNE.out a ha hp).1))
  obtain ⟨A1, c1, hz0, hz1, hzf, _, _, _⟩ := hR1.c
  clear hR1 hg1 hy0 hy1 hyf
  by_cases hlt : most < (rdV xs er).1
  · have HD := Lib.hid (show rdU xs er most = (0, xs, 4) by unfold rdU; rw [if_pos hlt])
    have he0 : (rdV xs er).2.2 = 0 := HF.out.2.2.2 (by omega)
    obtain ⟨hT3, hT4⟩ := HR1.out.fault 4
    obtain ⟨A2, c2, hu0, hu1, huf, _, _, _⟩ := hT3.c
    obtain ⟨hT1, hT2⟩ := hT3.take (grownN HA1.out hT4 (fun a ha hp => (HNE.out a ha hp).1)) rfl hc HNE.out
    have HT := Lib.hid hT1
    have HG := Lib.hid ((HG1.out.trans hT4).trans hT2)
    clear hT1 hT2 hT3 hT4
    rw [he0] at hz1
    generalize (rdV xs er).1 = v at *
    go_wp2
    go_ret
    rw [HD.out]
    exact ⟨rfl, HT.out, HG.out⟩
  · have HD := Lib.hid (show rdU xs er most = rdV xs er by unfold rdU; rw [if_neg hlt])
    obtain ⟨v, hv⟩ : ∃ v, v = (rdV xs er).1 := ⟨_, rfl⟩
    obtain ⟨z, hz⟩ : ∃ z, z = (rdV xs er).2.2 := ⟨_, rfl⟩
    rw [← hz] at hz1
    rw [← hv] at hlt ⊢
    have HVV := Lib.hid (And.intro hv hz)
    clear hv hz
    by_cases hz0' : z = 0
    · subst hz0'
      go_wp2
      go_ret
      rw [HD.out]
      exact ⟨ret_int (by rw [HVV.out.1]), HR1.out, HG1.out⟩
    · have hzz : ((z : Int) == 0) = false := by simp; omega
      go_wp2
      go_ret
      rw [HD.out]
      exact ⟨ret_int (by rw [HVV.out.1]), HR1.out, HG1.out⟩
theorem refFail_any (hr : Rdr w T g hi xs er) (e0 : Nat) :
    Calls Try.prog 41 #[.pointer (some ⟨g, 0, none⟩), .int .i64 (e0 : Int)] w fun e w' => e = .returned (.tuple #[]) ∧ Rdr w' T g hi xs (if er = 0 then e0 else er) ∧ w.grownBy w' (some g) := by
  obtain ⟨A, c, hy0, hy1, hyf, _, _, _⟩ := hr.c
  have HR := Lib.hid hr
  have HF := Lib.hid (hr.fault e0)
  clear hr
  by_cases h0 : er = 0
  · subst h0
    rw [if_pos rfl]
    go_enter Try.func41, Try.ntmps41
    go_wp2
    first | (refine bodyPost_ret (results_none rfl _ _ _) rfl ?_) | (refine bodyPost_end (results_none rfl _ _ _) rfl ?_)
    exact ⟨rfl, HF.out⟩
  · rw [if_neg h0]
    have hz : ((er : Int) == 0) = false := by simp; omega
    go_enter Try.func41, Try.ntmps41
    go_wp2
    first | (refine bodyPost_ret (results_none rfl _ _ _) rfl ?_) | (refine bodyPost_end (results_none rfl _ _ _) rfl ?_)
    exact ⟨rfl, HR.out, ⟨rfl, rfl, rfl, Nat.le_refl _, fun _ _ _ => rfl⟩⟩
theorem refRest_any (hr : Rdr w T g hi xs er) :
    Calls Try.prog 33 #[.pointer (some ⟨g, 0, none⟩)] w fun e w' => e = .returned (.int .i64 (leftN xs er : Int)) ∧ w = w' := by
  obtain ⟨A, c, hy0, hy1, hyf, _, _, _⟩ := hr.c
  unfold leftN
  by_cases h0 : er = 0
  · subst h0
    rw [if_pos rfl]
    go_enter Try.func33, Try.ntmps33
    go_wp2
    go_ret
    exact ⟨rfl, rfl⟩
  · rw [if_neg h0]
    have hz : ((er : Int) != 0) = true := by simp; omega
    go_enter Try.func33, Try.ntmps33
    go_wp2
    go_ret
    exact ⟨rfl, rfl⟩
end
end Go.Proofs.Ytdeeeipdgoafaaa
