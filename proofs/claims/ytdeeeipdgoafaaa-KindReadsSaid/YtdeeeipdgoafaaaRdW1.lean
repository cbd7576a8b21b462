/- num.Reader in memory; the walk of Var. -/
import Derived.Test.YtdeeeipdgoafaaaRdMath
import Derived.Test.YtdeeeipdgoafaaaSame
import Derived.Test.YtdeeeipdgoafaaaKept
import Derived.Test.YtdeeeipdgoafaaaKindT1
namespace Go.Proofs.Ytdeeeipdgoafaaa
open Go.RowKit
set_option linter.unusedVariables false
/-- A reader: its struct of the type T stands in the block g. -/
structure Rdr (w : World) (T : TypeId) (g hi : Nat) (xs : List UInt8) (er : Nat) : Prop where
  row : ∃ A c, w.heap[g]? = some (.cells #[.slice A xs.length c, .int .i64 (er : Int)] T (0, 0)) ∧ RdB w A xs ∧ xs.length ≤ c ∧ (∀ a, A = some a → 0 < xs.length → a.block ≠ g ∧ a.block < hi)
theorem and127 (c : UInt8) : Go.bits .and .u8 (c.toNat : Int) 127 = ((c.toNat % 128 : Nat) : Int) := by
  have h := c.toNat_lt
  rw [show (127 : Int) = ((127 : Nat) : Int) from rfl, u8_and_nat c.toNat 127 (by omega) (by decide)]
  rw [show (127 : Nat) = 2 ^ 7 - 1 from rfl, Nat.and_two_pow_sub_one_eq_mod]
theorem varStep (a i m : Nat) (ha : a < 128 ^ i) (hi : i ≤ 9) (hm : m < 128) (h9 : i = 9 → m ≤ 1) :
    Go.bits .or .u64 (a : Int) (IntKind.u64.wrap ((m : Int) * 2 ^ (7 * i))) = ((a + m * 128 ^ i : Nat) : Int) := by
  have hp : (128 : Nat) ^ i = 2 ^ (7 * i) := by rw [Nat.pow_mul]
  have hpl : 128 ^ i ≤ 128 ^ 9 := Nat.pow_le_pow_right (by decide) hi
  have hq : (128 : Nat) ^ 9 = 9223372036854775808 := by decide
  have e2 : (2 : Int) ^ (7 * i) = ((128 ^ i : Nat) : Int) := by rw [hp]; norm_cast
  have hmm : m * 128 ^ i < 18446744073709551616 := by
    by_cases h : i = 9
    · have hc := h9 h
      have : m * 128 ^ i ≤ 1 * 128 ^ i := Nat.mul_le_mul_right _ hc
      omega
    · have h1 : m * 128 ^ i ≤ 127 * 128 ^ i := Nat.mul_le_mul_right _ (by omega)
      have h2 : 128 ^ i ≤ 128 ^ 8 := Nat.pow_le_pow_right (by decide) (by omega)
      have h3 : (128 : Nat) ^ 8 = 72057594037927936 := by decide
      omega
  rw [e2, ← Int.natCast_mul, wrap_u64_nat _ hmm, u64_or_nat _ _ (by omega) hmm]
  congr 1
  rw [Nat.or_comm, Nat.mul_comm m, hp, ← Nat.two_pow_add_eq_or_of_lt (by rw [← hp]; exact ha)]
  omega
theorem Rdr.fault {w : World} {T : TypeId} {g hi : Nat} {xs : List UInt8} {er : Nat} (h : Rdr w T g hi xs er) (e : Nat) : Rdr (w.setCell ⟨g, 1, none⟩ (.int .i64 (e : Int))) T g hi xs e ∧ w.grownBy (w.setCell ⟨g, 1, none⟩ (.int .i64 (e : Int))) (some g) := by
  obtain ⟨A, c, h1, h2, h3, h4⟩ := h.row
  have hg : w.grownBy (w.setCell ⟨g, 1, none⟩ (.int .i64 (e : Int))) (some g) := ⟨rfl, rfl, rfl, by simp, fun i _ hi => heap_setCell_other _ _ _ _ (fun h => hi (by rw [h]))⟩
  refine ⟨⟨A, c, heap_setCell_same _ _ _ _ _ _ h1, ?_, h3, h4⟩, hg⟩
  refine ⟨h2.1, fun hp => ?_⟩
  obtain ⟨b, off, e1, hc⟩ := h2.2 hp
  have hb := (h4 _ e1 (by rwa [bv_length] at hp)).1
  exact ⟨b, off, e1, fun j v hj => (World.cell?_setCell_other _ _ _ _ (by intro h; apply hb; injection h with h; exact h.symm)).trans (hc j v hj)⟩
theorem Rdr.take {w : World} {T : TypeId} {g hi : Nat} {xs ys : List UInt8} {er : Nat} {A' : Option Addr} {n' c' : Nat} (h : Rdr w T g hi xs er) (hr : RdB w A' ys) (hn : n' = ys.length) (hc : ys.length ≤ c') (hne : ∀ a, A' = some a → 0 < ys.length → a.block ≠ g ∧ a.block < hi) : Rdr (w.setCell ⟨g, 0, none⟩ (.slice A' n' c')) T g hi ys er ∧ w.grownBy (w.setCell ⟨g, 0, none⟩ (.slice A' n' c')) (some g) := by
  subst hn
  obtain ⟨A, c, h1, h2, h3, h4⟩ := h.row
  have hg : w.grownBy (w.setCell ⟨g, 0, none⟩ (.slice A' ys.length c')) (some g) := ⟨rfl, rfl, rfl, by simp, fun i _ hi => heap_setCell_other _ _ _ _ (fun h => hi (by rw [h]))⟩
  refine ⟨⟨A', c', heap_setCell_same _ _ _ _ _ _ h1, ?_, hc, hne⟩, hg⟩
  refine ⟨hr.1, fun hp => ?_⟩
  obtain ⟨b, off, e1, hc⟩ := hr.2 hp
  have hb := (hne _ e1 (by rwa [bv_length] at hp)).1
  exact ⟨b, off, e1, fun j v hj => (World.cell?_setCell_other _ _ _ _ (by intro h; apply hb; injection h with h; exact h.symm)).trans (hc j v hj)⟩
theorem RdB.nilA (w : World) (A : Option Addr) : RdB w A [] := ⟨by simp, fun h => by simp [bv] at h⟩
theorem RdB.dropA {w : World} {b off : Nat} {xs : List UInt8} (h : RdB w (some ⟨b, off, none⟩) xs) (k : Nat) : RdB w (some ⟨b, off + k, none⟩) (xs.drop k) := by
  have hl := h.1
  refine ⟨by simp; omega, fun hp => ⟨b, off + k, rfl, fun j v hj => ?_⟩⟩
  rw [bv_length, List.length_drop] at hp
  obtain ⟨b', o', e, hc⟩ := h.at (by omega)
  cases e
  simp only [bv, List.getElem?_map, List.getElem?_drop, Option.map_eq_some_iff] at hj
  obtain ⟨x, hx, rfl⟩ := hj
  obtain ⟨hlt, rfl⟩ := List.getElem?_eq_some_iff.1 hx
  rw [Nat.add_assoc]
  exact hc (k + j) hlt
/-- What Var answers, what it leaves, the fault. -/
def rdV (xs : List UInt8) (er : Nat) : Nat × List UInt8 × Nat := if er ≠ 0 then (0, xs, er) else if (vr 0 0 xs).2.2 = 0 then ((vr 0 0 xs).1, xs.drop (vr 0 0 xs).2.1, 0) else (0, xs, (vr 0 0 xs).2.2)
set_option maxHeartbeats 4000000 in
set_option maxRecDepth 20000 in
theorem rvar_any {T : TypeId} {g hi : Nat} {xs : List UInt8} {er : Nat} {w : World} (hr : Rdr w T g hi xs er) (he : er ≤ 100) (hl : xs.length ≤ 140737488355328) :
    Calls Try.prog 42 #[.pointer (some ⟨g, 0, none⟩)] w fun e w' => e = .returned (.int .u64 ((rdV xs er).1 : Int)) ∧ Rdr w' T g hi (rdV xs er).2.1 (rdV xs er).2.2 ∧ w.grownBy w' (some g) := by
  by_cases h0 : er = 0
  · subst h0
    obtain ⟨A, c, hg, hA, hc, hne⟩ := hr.row
    obtain ⟨hy0, hy1⟩ := cells2 hg
    have hyf := fun j => frozen_of_row _ _ j _ _ hg
    have HR := Lib.hid hr
    have HG := Lib.hid hg
    have HA := Lib.hid hA
    have HNE := Lib.hid hne
    clear hr hg hA hne
    go_enter Try.func42, Try.ntmps42
    go_wp2_with fail
    go_loopw [3, 4, 5, 20, 21, 22, 23, 24, 25, 26, 27, 28, 29, 30, 31, 32, 33, 34, 35, 36, 37, 38, 39, 40, 41, 42, 43, 44, 45, 46, 47, 48, 49, 50, 51, 52, 53, 54, 55, 56, 57, 58, 59, 60, 61, 62, 63] (fun a _ _ i _ _ _ _ _ _ _ _ _ _ _ _ _ _ _ _ _ _ _ _ _ _ _ _ _ _ _ _ _ _ _ _ _ _ _ _ _ _ _ _ _ _ _ wr => ∃ k m : Nat, k ≤ 9 ∧ k ≤ xs.length ∧ a = .int .u64 (m : Int) ∧ i = .int .i64 (k : Int) ∧ Hid (m < 128 ^ k) ∧ Hid (vr k m (xs.drop k) = vr 0 0 xs) ∧ w = wr) (fun _ _ _ i _ _ _ _ _ _ _ _ _ _ _ _ _ _ _ _ _ _ _ _ _ _ _ _ _ _ _ _ _ _ _ _ _ _ _ _ _ _ _ _ _ _ _ _ => xs.length - (intOf i).toNat)
    case atStart => exact ⟨0, 0, by omega, by omega, rfl, rfl, Lib.hid (by decide), Lib.hid rfl, rfl⟩
    case round =>
      obtain ⟨k, m, hk9, hkl, rfl, rfl, HM, HV, rfl⟩ := hrel
      by_cases hlt : k < xs.length
      · obtain ⟨b, off, rfl, hcs⟩ := HA.out.at (by omega)
        have hck := hcs k hlt
        have hdr := List.drop_eq_getElem_cons hlt
        have hv := HV.out
        rw [hdr, vr_cons] at hv
        have hcl := xs[k].toNat_lt
        have hbg := HNE.out _ rfl (by omega)
        generalize xs[k] = d at *
        have hi0 : (0 : Int) ≤ (k : Int) := by omega
        have hs1 := IntKind.wrap_i64
        clear hs1 hdr hcs
        by_cases hbad : (k = 9 ∧ 1 < d.toNat) ∨ (0 < k ∧ d.toNat = 0)
        · rw [if_pos hbad] at hv
          have HD := Lib.hid (show rdV xs 0 = (0, xs, 4) by unfold rdV; rw [← hv]; simp)
          have HF := Lib.hid (HR.out.fault 4)
          clear hv
          by_cases h9 : k = 9 ∧ 1 < d.toNat
          · obtain ⟨rfl, h1⟩ := h9
            go_wp2
            go_ret
            rw [HD.out]
            exact ⟨rfl, HF.out⟩
          · obtain ⟨hk0, hd0⟩ : 0 < k ∧ d.toNat = 0 := by omega
            by_cases hk : k = 9
            · subst hk
              go_wp2
              go_ret
              rw [HD.out]
              exact ⟨rfl, HF.out⟩
            · go_wp2
              go_ret
              rw [HD.out]
              exact ⟨rfl, HF.out⟩
        · rw [if_neg hbad] at hv
          have HBAD := Lib.hid hbad; clear hbad
          have ha := and127 d
          by_cases h128 : d.toNat < 128
          · rw [if_pos h128] at hv
            have hst := varStep m k (d.toNat % 128) HM.out hk9 (Nat.mod_lt _ (by decide)) (fun h => by have := HBAD.out; omega)
            have hm0 : d.toNat % 128 = d.toNat := Nat.mod_eq_of_lt h128
            rw [hm0] at hst
            have HST := Lib.hid hst; clear hst
            have HD := Lib.hid (show rdV xs 0 = (m + d.toNat * 128 ^ k, xs.drop (k + 1), 0) by unfold rdV; rw [← hv]; simp)
            clear hv
            have hcase : (k = 9 ∧ d.toNat = 1) ∨ k < 1 ∨ (0 < k ∧ k < 9 ∧ 0 < d.toNat) := by have := HBAD.out; omega
            rcases hcase with ⟨rfl, hd1⟩ | hk | ⟨hk, hk2, hd0⟩
            · have hs := HST.out
              rw [hd1] at hs
              rw [show IntKind.u64.wrap (((1 : Nat) : Int) * 2 ^ (7 * 9)) = 9223372036854775808 by decide] at hs
              have HS := Lib.hid hs
              clear hs
              have hd2 : (d.toNat : Int) = 1 := by omega
              by_cases hce : c = 9 + 1
              · subst hce
                have HF := Lib.hid (HR.out.take (A' := some ⟨b, off, none⟩) (n' := 0) (c' := 0) (ys := []) (RdB.nilA w _) rfl (Nat.le_refl _) (fun _ _ h => absurd h (by simp)))
                have HDN := Lib.hid (show xs.drop (9 + 1) = [] from List.drop_of_length_le (by omega))
                go_wp2
                go_ret
                rw [HD.out, hd1, HDN.out]
                exact ⟨ret_int HS.out, HF.out⟩
              · have hlc : 9 + 1 < c := by omega
                have HF := Lib.hid (HR.out.take (n' := xs.length - (9 + 1)) (c' := c - (9 + 1)) (HA.out.dropA (9 + 1)) (by simp) (by simp; omega) (fun a ha _ => by cases ha; exact hbg))
                go_wp2
                go_ret
                rw [HD.out, hd1]
                exact ⟨ret_int HS.out, HF.out⟩
            all_goals (
              by_cases hce : c = k + 1
              · subst hce
                have HF := Lib.hid (HR.out.take (A' := some ⟨b, off, none⟩) (n' := 0) (c' := 0) (ys := []) (RdB.nilA w _) rfl (Nat.le_refl _) (fun _ _ h => absurd h (by simp)))
                have HDN := Lib.hid (show xs.drop (k + 1) = [] from List.drop_of_length_le (by omega))
                go_wp2
                go_ret
                rw [HD.out, HDN.out]
                exact ⟨ret_int HST.out, HF.out⟩
              · have hlc : k + 1 < c := by omega
                have HF := Lib.hid (HR.out.take (n' := xs.length - (k + 1)) (c' := c - (k + 1)) (HA.out.dropA (k + 1)) (by simp) (by simp; omega) (fun a ha _ => by cases ha; exact hbg))
                go_wp2
                go_ret
                rw [HD.out]
                exact ⟨ret_int HST.out, HF.out⟩)
          · rw [if_neg h128] at hv
            have hst := varStep m k (d.toNat % 128) HM.out hk9 (Nat.mod_lt _ (by decide)) (fun h => by have := HBAD.out; omega)
            rw [show ((d.toNat % 128 : Nat) : Int) = (d.toNat : Int) % 128 by omega] at hst
            have HST := Lib.hid hst; clear hst
            have hk8 : k ≤ 8 := by have := HBAD.out; omega
            have HV2 := Lib.hid hv
            have HM2 := Lib.hid (acc_lt k m (d.toNat % 128) HM.out (Nat.mod_lt _ (by decide)))
            have hdz : ¬ d.toNat = 0 := by omega
            clear hv
            have hcase : k < 1 ∨ 0 < k := by omega
            rcases hcase with hk0 | hk0
            all_goals (
            go_wp2
            go_roundw
            case rel => exact ⟨k + 1, m + d.toNat % 128 * 128 ^ k, by omega, by omega, val_int HST.out, by go_num, HM2.out, HV2.out, trivial⟩
            case measure => simp [intOf]; omega)
      · have hkx : k = xs.length := by omega
        have HD := Lib.hid (show rdV xs 0 = (0, xs, 3) by
          have hv := HV.out
          rw [List.drop_of_length_le (by omega), vr_nil] at hv
          unfold rdV; rw [← hv]; simp)
        have HF := Lib.hid (HR.out.fault 3)
        go_wp2
        go_ret
        rw [HD.out]
        exact ⟨rfl, HF.out⟩
  · obtain ⟨A, c, hg, hA, hc, hne⟩ := hr.row
    obtain ⟨hy0, hy1⟩ := cells2 hg
    have HR := Lib.hid hr
    have HD := Lib.hid (show rdV xs er = (0, xs, er) by unfold rdV; rw [if_pos h0])
    have hz : ((er : Int) != 0) = true := by simp; omega
    clear hr hg hA hne
    go_enter Try.func42, Try.ntmps42
    go_wp2
    go_ret
    rw [HD.out]
    exact ⟨rfl, HR.out, ⟨rfl, rfl, rfl, Nat.le_refl _, fun _ _ _ => rfl⟩⟩
end Go.Proofs.Ytdeeeipdgoafaaa
