/- The reference's Reader: the walk of Var. -/
import Derived.Test.YtdeeeipdgoafaaaRdW1
namespace Go.Proofs.Ytdeeeipdgoafaaa
open Go.RowKit
set_option linter.unusedVariables false
set_option maxHeartbeats 4000000 in
set_option maxRecDepth 20000 in
theorem refRvar_any {T : TypeId} {g hi : Nat} {xs : List UInt8} {er : Nat} {w : World} (hr : Rdr w T g hi xs er) (he : er ≤ 100) (hl : xs.length ≤ 140737488355328) :
    Calls Try.prog 43 #[.pointer (some ⟨g, 0, none⟩)] w fun e w' => e = .returned (.int .u64 ((rdV xs er).1 : Int)) ∧ Rdr w' T g hi (rdV xs er).2.1 (rdV xs er).2.2 ∧ w.grownBy w' (some g) := by
  by_cases h0 : er = 0
  · subst h0
    obtain ⟨A, c, hg, hA, hc, hne⟩ := hr.row
    obtain ⟨hy0, hy1⟩ := cells2 hg
    have hyf := fun j => frozen_of_row _ _ j _ _ hg
    have HR := Lib.hid hr
    have HG := Lib.hid hg
    have HA := Lib.hid hA
    have HNE := Lib.hid hne
    clear hr hg hA hne
    go_enter Try.func43, Try.ntmps43
    go_wp2_with fail
    go_loopw [3, 4, 5, 6, 12, 13, 14, 15, 16, 17, 18, 19, 20, 21, 22, 23, 24, 25, 26, 27, 28, 29, 30, 31, 32, 33, 34, 35, 36, 37, 38, 39, 40, 41, 42, 43, 44, 45, 46, 47, 48, 49, 50, 51, 52, 53, 54, 55, 56, 57, 58, 59, 60, 61, 62, 63, 64, 65, 66, 67, 68, 69] (fun a o i _ _ _ _ _ _ _ _ _ _ _ _ _ _ _ _ _ _ _ _ _ _ _ _ _ _ _ _ _ _ _ _ _ _ _ _ _ _ _ _ _ _ _ _ _ _ _ _ _ _ _ _ _ _ _ _ _ _ _ wr => ∃ k m q : Nat, k ≤ 9 ∧ k ≤ xs.length ∧ a = .int .u64 (m : Int) ∧ o = .int .u64 (q : Int) ∧ i = .int .i64 (k : Int) ∧ Hid (q = 128 ^ k) ∧ Hid (m < 128 ^ k) ∧ Hid (vr k m (xs.drop k) = vr 0 0 xs) ∧ w = wr) (fun a o i _ _ _ _ _ _ _ _ _ _ _ _ _ _ _ _ _ _ _ _ _ _ _ _ _ _ _ _ _ _ _ _ _ _ _ _ _ _ _ _ _ _ _ _ _ _ _ _ _ _ _ _ _ _ _ _ _ _ _ _ => xs.length - (intOf i).toNat)
    case atStart => exact ⟨0, 0, 1, by omega, by omega, rfl, rfl, rfl, Lib.hid (by decide), Lib.hid (by decide), Lib.hid rfl, rfl⟩
    case round =>
      obtain ⟨k, m, q, hk9, hkl, rfl, rfl, rfl, HQ, HM, HV, rfl⟩ := hrel
      by_cases hlt : k < xs.length
      · obtain ⟨b, off, rfl, hcs⟩ := HA.out.at (by omega)
        have hck := hcs k hlt
        have hdr := List.drop_eq_getElem_cons hlt
        have hv := HV.out
        rw [hdr, vr_cons] at hv
        have hcl := xs[k].toNat_lt
        have hbg := HNE.out _ rfl (by omega)
        generalize xs[k] = d at *
        have hi0 : (0 : Int) ≤ (k : Int) := by omega
        have hs1 := IntKind.wrap_i64
        clear hs1 hdr hcs
        by_cases hbad : (k = 9 ∧ 1 < d.toNat) ∨ (0 < k ∧ d.toNat = 0)
        · rw [if_pos hbad] at hv
          have HD := Lib.hid (show rdV xs 0 = (0, xs, 4) by unfold rdV; rw [← hv]; simp)
          have HF := Lib.hid (HR.out.fault 4)
          clear hv
          by_cases h9 : k = 9 ∧ 1 < d.toNat
          · obtain ⟨rfl, h1⟩ := h9
            go_wp2
            go_ret
            rw [HD.out]
            exact ⟨rfl, HF.out⟩
          · obtain ⟨hk0, hd0⟩ : 0 < k ∧ d.toNat = 0 := by omega
            by_cases hk : k = 9
            · subst hk
              go_wp2
              go_ret
              rw [HD.out]
              exact ⟨rfl, HF.out⟩
            · go_wp2
              go_ret
              rw [HD.out]
              exact ⟨rfl, HF.out⟩
        · rw [if_neg hbad] at hv
          have HBAD := Lib.hid hbad; clear hbad
          have hql : q ≤ 9223372036854775808 := by
            have hpl : 128 ^ k ≤ 128 ^ 9 := Nat.pow_le_pow_right (by decide) hk9
            have hq9 : (128 : Nat) ^ 9 = 9223372036854775808 := by decide
            have := HQ.out; omega
          obtain ⟨P, hP⟩ : ∃ P : Nat, P = d.toNat % 128 * q := ⟨_, rfl⟩
          have hmP : m + P < 18446744073709551616 := by
            by_cases h9 : k = 9
            · have hd1 : d.toNat ≤ 1 := by have := HBAD.out; omega
              have h1 : P ≤ 1 * q := by rw [hP]; exact Nat.mul_le_mul_right _ (by omega)
              have h2 := HM.out
              have h3 := HQ.out
              omega
            · have h1 := acc_lt k m (d.toNat % 128) HM.out (Nat.mod_lt _ (by decide))
              rw [← HQ.out, ← hP] at h1
              have h2 := pow128 k (by omega)
              omega
          have hPi : (d.toNat : Int) % 128 * (q : Int) = (P : Int) := by rw [hP]; push_cast; rfl
          have hw2 : IntKind.u64.wrap (P : Int) = (P : Int) := wrap_u64_nat _ (by omega)
          have hw3 : IntKind.u64.wrap ((m : Int) + (P : Int)) = (m : Int) + (P : Int) := by
            have h := wrap_u64_nat (m + P) hmP
            rwa [show ((m + P : Nat) : Int) = (m : Int) + (P : Int) by omega] at h
          by_cases h128 : d.toNat < 128
          · rw [if_pos h128] at hv
            have hm0 : d.toNat % 128 = d.toNat := Nat.mod_eq_of_lt h128
            have hPj : (d.toNat : Int) * (q : Int) = (P : Int) := by rw [← hPi]; congr 1; omega
            have HD := Lib.hid (show rdV xs 0 = (m + P, xs.drop (k + 1), 0) by unfold rdV; rw [← hv, hP, hm0, HQ.out]; simp)
            clear hv hP hm0
            have hcase : (k = 9 ∧ d.toNat = 1) ∨ k < 1 ∨ (0 < k ∧ k < 9 ∧ 0 < d.toNat) := by have := HBAD.out; omega
            have hsum : (m : Int) + (P : Int) = ((m + P : Nat) : Int) := by omega
            have HSM := Lib.hid hsum
            clear hsum
            rcases hcase with ⟨rfl, hd1⟩ | hk | ⟨hk, hk2, hd0⟩
            · have hd2 : 0 < d.toNat := by omega
              have hd3 : decide ((1 : Int) < (d.toNat : Int)) = false := decide_eq_false (by omega)
              clear hd1
              by_cases hce : c = 9 + 1
              · subst hce
                have HF := Lib.hid (HR.out.take (A' := some ⟨b, off, none⟩) (n' := 0) (c' := 0) (ys := []) (RdB.nilA w _) rfl (Nat.le_refl _) (fun _ _ h => absurd h (by simp)))
                have HDN := Lib.hid (show xs.drop (9 + 1) = [] from List.drop_of_length_le (by omega))
                go_wp2
                go_ret
                rw [HD.out, HDN.out]
                exact ⟨ret_int HSM.out, HF.out⟩
              · have hlc : 9 + 1 < c := by omega
                have HF := Lib.hid (HR.out.take (n' := xs.length - (9 + 1)) (c' := c - (9 + 1)) (HA.out.dropA (9 + 1)) (by simp) (by simp; omega) (fun a ha _ => by cases ha; exact hbg))
                go_wp2
                go_ret
                rw [HD.out]
                exact ⟨ret_int HSM.out, HF.out⟩
            all_goals (
              by_cases hce : c = k + 1
              · subst hce
                have HF := Lib.hid (HR.out.take (A' := some ⟨b, off, none⟩) (n' := 0) (c' := 0) (ys := []) (RdB.nilA w _) rfl (Nat.le_refl _) (fun _ _ h => absurd h (by simp)))
                have HDN := Lib.hid (show xs.drop (k + 1) = [] from List.drop_of_length_le (by omega))
                go_wp2
                go_ret
                rw [HD.out, HDN.out]
                exact ⟨ret_int HSM.out, HF.out⟩
              · have hlc : k + 1 < c := by omega
                have HF := Lib.hid (HR.out.take (n' := xs.length - (k + 1)) (c' := c - (k + 1)) (HA.out.dropA (k + 1)) (by simp) (by simp; omega) (fun a ha _ => by cases ha; exact hbg))
                go_wp2
                go_ret
                rw [HD.out]
                exact ⟨ret_int HSM.out, HF.out⟩)
          · rw [if_neg h128] at hv
            have hk8 : k ≤ 8 := by have := HBAD.out; omega
            have HV2 := Lib.hid hv
            have HM2 := Lib.hid (acc_lt k m (d.toNat % 128) HM.out (Nat.mod_lt _ (by decide)))
            rw [← HQ.out, ← hP] at HV2 HM2
            have hq8 : q ≤ 72057594037927936 := by
              have hpl : 128 ^ k ≤ 128 ^ 8 := Nat.pow_le_pow_right (by decide) hk8
              have hq9 : (128 : Nat) ^ 8 = 72057594037927936 := by decide
              have := HQ.out; omega
            have hw4 : IntKind.u64.wrap ((q : Int) * 128) = (q : Int) * 128 := by
              have h := wrap_u64_nat (q * 128) (by omega)
              rwa [show ((q * 128 : Nat) : Int) = (q : Int) * 128 by omega] at h
            have HQ2 := Lib.hid (show q * 128 = 128 ^ (k + 1) by rw [HQ.out, Nat.pow_succ])
            have hdz : ¬ d.toNat = 0 := by omega
            clear hv hP
            have hcase : k < 1 ∨ 0 < k := by omega
            rcases hcase with hk0 | hk0
            all_goals (
            go_wp2
            go_roundw
            case rel => exact ⟨k + 1, m + P, q * 128, by omega, by omega, by go_num, by go_num, by go_num, HQ2.out, HM2.out, HV2.out, trivial⟩
            case measure => simp [intOf]; omega)
      · have hkx : k = xs.length := by omega
        have HD := Lib.hid (show rdV xs 0 = (0, xs, 3) by
          have hv := HV.out
          rw [List.drop_of_length_le (by omega), vr_nil] at hv
          unfold rdV; rw [← hv]; simp)
        have HF := Lib.hid (HR.out.fault 3)
        go_wp2
        go_ret
        rw [HD.out]
        exact ⟨rfl, HF.out⟩
  · obtain ⟨A, c, hg, hA, hc, hne⟩ := hr.row
    obtain ⟨hy0, hy1⟩ := cells2 hg
    have HR := Lib.hid hr
    have HD := Lib.hid (show rdV xs er = (0, xs, er) by unfold rdV; rw [if_pos h0])
    have hz : ((er : Int) != 0) = true := by simp; omega
    clear hr hg hA hne
    go_enter Try.func43, Try.ntmps43
    go_wp2
    go_ret
    rw [HD.out]
    exact ⟨rfl, HR.out, ⟨rfl, rfl, rfl, Nat.le_refl _, fun _ _ _ => rfl⟩⟩
end Go.Proofs.Ytdeeeipdgoafaaa
