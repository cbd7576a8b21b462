/- The walks of Field and Plain (both). -/
import Derived.Test.YtdeeeipdgoafaaaKindW2
namespace Go.Proofs.Ytdeeeipdgoafaaa
open Go.RowKit

/-- What Field answers. -/
def fieldV (S : Int) (ps : List Int) (i : Int) : Int × Bool := if 0 ≤ i ∧ i < ps.length ∧ chk S ps = 0 then (ps.getD i.toNat 0, true) else (0, false)

set_option maxHeartbeats 1000000 in
theorem field_any (S : Int) (A : Option Addr) (cap : Nat) (ps : List Int) (i : Int) (w : World) (hS : -9223372036854775808 ≤ S ∧ S ≤ 9223372036854775807) (hr : RdI w A ps) :
    Calls Try.prog 15 #[.agg #[.int .i64 S, .slice A ps.length cap], .int .i64 i] w fun e w' => e = .returned (.tuple #[.int .i64 (fieldV S ps i).1, .bool (fieldV S ps i).2]) ∧ Below w.heap.size w w' := by
  have hlen := hr.1
  have hB : Below w.heap.size w (w.alloc (.cells #[.int .i64 S, .slice A ps.length cap] 24)) := (Below.refl _ _).alloc (Nat.le_refl _) _
  by_cases h1 : i < 0
  · have hf : fieldV S ps i = (0, false) := by unfold fieldV; rw [if_neg (by omega)]
    have HF := Lib.hid hf; clear hf
    go_enter Try.func15, Try.ntmps15
    go_wp2
    go_ret2
    exact ⟨by rw [HF.out]; rfl, hB⟩
  by_cases h2 : (ps.length : Int) ≤ i
  · have hf : fieldV S ps i = (0, false) := by unfold fieldV; rw [if_neg (by omega)]
    have HF := Lib.hid hf; clear hf
    go_enter Try.func15, Try.ntmps15
    go_wp2
    go_ret2
    exact ⟨by rw [HF.out]; rfl, hB⟩
  by_cases h3 : chk S ps = 0
  · have hf : fieldV S ps i = (ps.getD i.toNat 0, true) := by unfold fieldV; rw [if_pos ⟨by omega, by omega, h3⟩]
    have HF := Lib.hid hf; clear hf
    have H3 := Lib.hid h3; clear h3
    obtain ⟨k, rfl⟩ := Int.eq_ofNat_of_zero_le (show 0 ≤ i by omega)
    obtain ⟨b, off, rfl, hblt, hc⟩ := hr.at (by omega)
    have hkl : k < ps.length := by omega
    have hck := hc k hkl
    have HV := Lib.hid (show ps.getD ((k : Int)).toNat 0 = ps[k] by rw [Int.toNat_natCast, List.getD_eq_getElem?_getD, List.getElem?_eq_getElem hkl]; rfl)
    clear hc
    generalize ps[k] = p at *
    go_enter Try.func15, Try.ntmps15
    go_wp2_with fail
    refine (check_any S _ cap ps _ hS (hr.below hB)).mono ?_
    rintro e w1 ⟨rfl, hb1⟩
    rw [H3.out]
    have hc1 : w1.cell? ⟨w.heap.size, 1, none⟩ = some (.slice (some ⟨b, off, none⟩) ps.length cap) := cell_below hb1 (by simp [go_sem])
    have hck1 : w1.cell? ⟨b, off + k, none⟩ = some (.int .i64 p) := cell_below hb1 (cell_below hB hck)
    have hB1 := hB.trans (hb1.mono (by simp))
    clear hb1
    go_wp2
    go_ret2
    exact ⟨by rw [HF.out, HV.out]; rfl, hB1⟩
  · have hf : fieldV S ps i = (0, false) := by unfold fieldV; rw [if_neg (fun h => h3 h.2.2)]
    have HF := Lib.hid hf; clear hf
    have h4 : (chk S ps != 0) = true := by rw [bne_iff_ne]; exact h3
    have H3 := Lib.hid h3; clear h3
    go_enter Try.func15, Try.ntmps15
    go_wp2_with fail
    refine (check_any S _ cap ps _ hS (hr.below hB)).mono ?_
    rintro e w1 ⟨rfl, hb1⟩
    have hB1 := hB.trans (hb1.mono (by simp))
    clear hb1
    go_wp2
    go_ret2
    exact ⟨by rw [HF.out]; rfl, hB1⟩

set_option maxHeartbeats 1000000 in
theorem plain_any (S : Int) (A : Option Addr) (cap : Nat) (ps : List Int) (at_ n : Int) (w : World) (hS : -9223372036854775808 ≤ S ∧ S ≤ 9223372036854775807) (hr : RdI w A ps)
    (ha : -9223372036854775808 ≤ at_ ∧ at_ ≤ 9223372036854775807) (hn : -9223372036854775808 ≤ n ∧ n ≤ 9223372036854775807) :
    Calls Try.prog 16 #[.agg #[.int .i64 S, .slice A ps.length cap], .int .i64 at_, .int .i64 n] w fun e w' => e = .returned (.bool (plain S ps at_ n)) ∧ Below w.heap.size w w' := by
  have hlen := hr.1
  have hB : Below w.heap.size w (w.alloc (.cells #[.int .i64 S, .slice A ps.length cap] 24)) := (Below.refl _ _).alloc (Nat.le_refl _) _
  by_cases h3 : chk S ps = 0
  · obtain ⟨hs1, hs2, hpl, hpm⟩ := chk_zero h3
    have H3 := Lib.hid h3; clear h3
    have HPM := Lib.hid hpm; clear hpm
    by_cases hok : 0 ≤ at_ ∧ at_ ≤ S ∧ 0 ≤ n ∧ n ≤ S - at_
    · obtain ⟨ha0, ha1, hn0, hn1⟩ := hok
      have hf : plain S ps at_ n = !overlaps at_ n ps := by unfold plain; rw [if_pos ⟨H3.out, ha0, ha1, hn0, hn1⟩]
      have HF := Lib.hid hf; clear hf
      go_enter Try.func16, Try.ntmps16
      go_wp2_with fail
      refine (check_any S _ cap ps _ hS (hr.below hB)).mono ?_
      rintro e w1 ⟨rfl, hb1⟩
      rw [H3.out]
      have hc0 : w1.cell? ⟨w.heap.size, 0, none⟩ = some (.int .i64 S) := cell_below hb1 (by simp [go_sem])
      have hc1 : w1.cell? ⟨w.heap.size, 1, none⟩ = some (.slice A ps.length cap) := cell_below hb1 (by simp [go_sem])
      have hB1 := hB.trans (hb1.mono (by simp))
      have hr1 := hr.below hB1
      clear hb1
      go_wp2
      go_loop [8, 37] (fun _ i => ∃ k : Nat, k ≤ ps.length ∧ i = .int .i64 k ∧ Hid (overlaps at_ n (ps.drop k) = overlaps at_ n ps)) (fun _ i => ps.length - (intOf i).toNat)
      case atStart => exact ⟨0, by omega, rfl, rfl⟩
      case round =>
        obtain ⟨k, hk, rfl, hO⟩ := hrel
        by_cases hlt : k < ps.length
        · obtain ⟨b, off, rfl, hblt, hc⟩ := hr1.at (by omega)
          have hck := hc k hlt
          have hbd := HPM.out ps[k] (List.getElem_mem hlt)
          have hO2 := hO.out
          rw [drop_cons ps k hlt, overlaps_cons] at hO2
          clear hc
          generalize ps[k] = p at *
          have HO2 := Lib.hid hO2; clear hO2
          by_cases hov : 0 < n ∧ p < at_ + n ∧ at_ < p + 8
          · have hfin : plain S ps at_ n = false := by have h := HO2.out; rw [if_pos hov] at h; rw [HF.out, ← h]; rfl
            have HFIN := Lib.hid hfin; clear hfin
            obtain ⟨o1, o2, o3⟩ := hov
            go_wp2
            go_ret
            exact ⟨ret_bool HFIN.out.symm, hB1⟩
          · have HOV := Lib.hid hov; clear hov
            go_wp2
            all_goals first
              | (exfalso; exact HOV.out ⟨by omega, by omega, by omega⟩)
              | (go_round
                 case rel => exact ⟨k + 1, by omega, by go_num, by have h := HO2.out; rw [if_neg HOV.out] at h; exact h⟩
                 case measure => simp [intOf]; omega)
        · have hfin : plain S ps at_ n = true := by have h := hO.out; rw [List.drop_of_length_le (by omega)] at h; rw [HF.out, ← h]; rfl
          have HFIN := Lib.hid hfin; clear hfin
          go_wp2
          go_ret
          exact ⟨ret_bool HFIN.out.symm, hB1⟩
    · have hf : plain S ps at_ n = false := by unfold plain; rw [if_neg (fun h => hok h.2)]
      have HF := Lib.hid hf; clear hf
      have HOK := Lib.hid hok; clear hok
      go_enter Try.func16, Try.ntmps16
      go_wp2_with fail
      refine (check_any S _ cap ps _ hS (hr.below hB)).mono ?_
      rintro e w1 ⟨rfl, hb1⟩
      rw [H3.out]
      have hc0 : w1.cell? ⟨w.heap.size, 0, none⟩ = some (.int .i64 S) := cell_below hb1 (by simp [go_sem])
      have hB1 := hB.trans (hb1.mono (by simp))
      clear hb1
      by_cases h1 : at_ < 0
      · go_wp2
        go_ret
        exact ⟨ret_bool HF.out.symm, hB1⟩
      by_cases h2 : S < at_
      · go_wp2
        go_ret
        exact ⟨ret_bool HF.out.symm, hB1⟩
      by_cases h4 : n < 0
      · go_wp2
        go_ret
        exact ⟨ret_bool HF.out.symm, hB1⟩
      have h5 : S - at_ < n := by
        by_cases h : S - at_ < n
        · exact h
        · exact absurd ⟨by omega, by omega, by omega, by omega⟩ HOK.out
      go_wp2
      go_ret
      exact ⟨ret_bool HF.out.symm, hB1⟩
  · have hf : plain S ps at_ n = false := by unfold plain; rw [if_neg (fun h => h3 h.1)]
    have HF := Lib.hid hf; clear hf
    have h4 : (chk S ps != 0) = true := by rw [bne_iff_ne]; exact h3
    have H3 := Lib.hid h3; clear h3
    go_enter Try.func16, Try.ntmps16
    go_wp2_with fail
    refine (check_any S _ cap ps _ hS (hr.below hB)).mono ?_
    rintro e w1 ⟨rfl, hb1⟩
    have hB1 := hB.trans (hb1.mono (by simp))
    clear hb1
    go_wp2
    go_ret
    exact ⟨ret_bool HF.out.symm, hB1⟩
set_option maxHeartbeats 1000000 in
theorem refPlain_any (S : Int) (A : Option Addr) (cap : Nat) (ps : List Int) (at_ n : Int) (w : World) (hS : -9223372036854775808 ≤ S ∧ S ≤ 9223372036854775807) (hr : RdI w A ps)
    (ha : -9223372036854775808 ≤ at_ ∧ at_ ≤ 9223372036854775807) (hn : -9223372036854775808 ≤ n ∧ n ≤ 9223372036854775807) :
    Calls Try.prog 17 #[.agg #[.int .i64 S, .slice A ps.length cap], .int .i64 at_, .int .i64 n] w fun e w' => e = .returned (.bool (plain S ps at_ n)) ∧ Below w.heap.size w w' := by
  have hlen := hr.1
  have hB : Below w.heap.size w (w.alloc (.cells #[.int .i64 S, .slice A ps.length cap] 24)) := (Below.refl _ _).alloc (Nat.le_refl _) _
  by_cases h3 : chk S ps = 0
  · obtain ⟨hs1, hs2, hpl, hpm⟩ := chk_zero h3
    have H3 := Lib.hid h3; clear h3
    have HPM := Lib.hid hpm; clear hpm
    by_cases hok : 0 ≤ at_ ∧ at_ ≤ S ∧ 0 ≤ n ∧ n ≤ S - at_
    · obtain ⟨ha0, ha1, hn0, hn1⟩ := hok
      have hf : plain S ps at_ n = !overlaps at_ n ps := by unfold plain; rw [if_pos ⟨H3.out, ha0, ha1, hn0, hn1⟩]
      have HF := Lib.hid hf; clear hf
      go_enter Try.func17, Try.ntmps17
      go_wp2_with fail
      refine (refCheck_any S _ cap ps _ hS (hr.below hB)).mono ?_
      rintro e w1 ⟨rfl, hb1⟩
      rw [H3.out]
      have hc0 : w1.cell? ⟨w.heap.size, 0, none⟩ = some (.int .i64 S) := cell_below hb1 (by simp [go_sem])
      have hc1 : w1.cell? ⟨w.heap.size, 1, none⟩ = some (.slice A ps.length cap) := cell_below hb1 (by simp [go_sem])
      have hB1 := hB.trans (hb1.mono (by simp))
      have hr1 := hr.below hB1
      clear hb1
      have hd9 : ((0 : Int) != 0) = false := rfl
      have HFT := Lib.hid (show (∀ j : Int, at_ ≤ j → j < at_ + n → ∀ p ∈ ps, ¬ (p ≤ j ∧ j < p + 8)) → plain S ps at_ n = true by
        intro h
        rw [HF.out]
        cases ho : overlaps at_ n ps
        · rfl
        · obtain ⟨p, hp, h1, h2, h3⟩ := (overlaps_mem at_ n ps).1 ho
          by_cases hpa : at_ ≤ p
          · exact absurd ⟨by omega, by omega⟩ (h p hpa h2 p hp)
          · exact absurd ⟨by omega, by omega⟩ (h at_ (by omega) (by omega) p hp))
      have HFF := Lib.hid (show ∀ j p : Int, at_ ≤ j → j < at_ + n → p ∈ ps → p ≤ j → j < p + 8 → plain S ps at_ n = false by
        intro j p h1 h2 hp h3 h4
        rw [HF.out, (overlaps_mem at_ n ps).2 ⟨p, hp, by omega, by omega, by omega⟩]; rfl)
      go_wp2
      go_loop [7, 9, 43, 44, 45, 46, 47, 48, 49, 50, 51, 52, 53, 54, 55, 56, 57, 58, 59] (fun i _ _ _ _ _ _ _ _ _ _ _ _ _ _ _ _ _ _ => ∃ v : Int, at_ ≤ v ∧ v ≤ at_ + n ∧ i = .int .i64 v ∧ Hid (∀ j : Int, at_ ≤ j → j < v → ∀ p ∈ ps, ¬ (p ≤ j ∧ j < p + 8))) (fun i _ _ _ _ _ _ _ _ _ _ _ _ _ _ _ _ _ _ => (at_ + n - intOf i).toNat)
      case atStart => exact ⟨at_, by omega, by omega, rfl, fun j h1 h2 => by omega⟩
      case round =>
        obtain ⟨v, hv0, hv1, rfl, hV⟩ := hrel
        by_cases hlt : v < at_ + n
        · have hdv : decide (v < at_ + n) = true := by simpa using hlt
          go_wp2
          go_loop [9, 46] (fun _ i => ∃ k : Nat, k ≤ ps.length ∧ i = .int .i64 k ∧ Hid (∀ j (hj : j < ps.length), j < k → ¬ (ps[j] ≤ v ∧ v < ps[j] + 8))) (fun _ i => ps.length - (intOf i).toNat)
          case atStart => exact ⟨0, by omega, rfl, fun j _ h => by omega⟩
          case round =>
            obtain ⟨k, hk, rfl, hK⟩ := hrel
            by_cases hlk : k < ps.length
            · obtain ⟨b, off, rfl, hblt, hc⟩ := hr1.at (by omega)
              have hck := hc k hlk
              have hbd := HPM.out ps[k] (List.getElem_mem hlk)
              have HFK := Lib.hid (show ps[k] ≤ v → v < ps[k] + 8 → plain S ps at_ n = false from fun h3 h4 => HFF.out v ps[k] hv0 hlt (List.getElem_mem hlk) h3 h4)
              have HNX := Lib.hid (show ¬ (ps[k] ≤ v ∧ v < ps[k] + 8) → ∀ j (hj : j < ps.length), j < k + 1 → ¬ (ps[j] ≤ v ∧ v < ps[j] + 8) by
                intro h j hj hjk
                rcases Nat.lt_or_ge j k with h1 | h1
                · exact hK.out j hj h1
                · obtain rfl : j = k := by omega
                  exact h)
              clear hc
              generalize ps[k] = p at *
              by_cases hov : p ≤ v ∧ v < p + 8
              · have HFIN := Lib.hid (HFK.out hov.1 hov.2)
                obtain ⟨o1, o2⟩ := hov
                go_wp2
                go_ret
                exact ⟨ret_bool HFIN.out.symm, hB1⟩
              · have HN2 := Lib.hid (HNX.out hov)
                have HOV := Lib.hid hov; clear hov
                go_wp2
                all_goals first
                  | (exfalso; exact HOV.out ⟨by omega, by omega⟩)
                  | (go_round
                     case rel => exact ⟨k + 1, by omega, by go_num, HN2.out⟩
                     case measure => simp [intOf]; omega)
            · go_wp2
              go_round
              case rel =>
                refine ⟨v + 1, by omega, by omega, rfl, fun j h1 h2 p hp => ?_⟩
                rcases Int.lt_or_le j v with h3 | h3
                · exact hV.out j h1 h3 p hp
                · obtain rfl : j = v := by omega
                  obtain ⟨q, hq, rfl⟩ := List.mem_iff_getElem.1 hp
                  exact hK.out q hq (by omega)
              case measure => simp [intOf]; omega
        · have HFIN := Lib.hid (HFT.out (fun j h1 h2 => hV.out j h1 (by omega)))
          go_wp2
          go_ret
          exact ⟨ret_bool HFIN.out.symm, hB1⟩
    · have hf : plain S ps at_ n = false := by unfold plain; rw [if_neg (fun h => hok h.2)]
      have HF := Lib.hid hf; clear hf
      have HOK := Lib.hid hok; clear hok
      go_enter Try.func17, Try.ntmps17
      go_wp2_with fail
      refine (refCheck_any S _ cap ps _ hS (hr.below hB)).mono ?_
      rintro e w1 ⟨rfl, hb1⟩
      rw [H3.out]
      have hc0 : w1.cell? ⟨w.heap.size, 0, none⟩ = some (.int .i64 S) := cell_below hb1 (by simp [go_sem])
      have hB1 := hB.trans (hb1.mono (by simp))
      clear hb1
      by_cases h1 : at_ < 0
      · go_wp2
        go_ret
        exact ⟨ret_bool HF.out.symm, hB1⟩
      by_cases h2 : S < at_
      · go_wp2
        go_ret
        exact ⟨ret_bool HF.out.symm, hB1⟩
      by_cases h4 : n < 0
      · go_wp2
        go_ret
        exact ⟨ret_bool HF.out.symm, hB1⟩
      have h5 : S - at_ < n := by
        by_cases h : S - at_ < n
        · exact h
        · exact absurd ⟨by omega, by omega, by omega, by omega⟩ HOK.out
      go_wp2
      go_ret
      exact ⟨ret_bool HF.out.symm, hB1⟩
  · have hf : plain S ps at_ n = false := by unfold plain; rw [if_neg (fun h => h3 h.1)]
    have HF := Lib.hid hf; clear hf
    have h4 : (chk S ps != 0) = true := by rw [bne_iff_ne]; exact h3
    have H3 := Lib.hid h3; clear h3
    go_enter Try.func17, Try.ntmps17
    go_wp2_with fail
    refine (refCheck_any S _ cap ps _ hS (hr.below hB)).mono ?_
    rintro e w1 ⟨rfl, hb1⟩
    have hB1 := hB.trans (hb1.mono (by simp))
    clear hb1
    go_wp2
    go_ret
    exact ⟨ret_bool HF.out.symm, hB1⟩
end Go.Proofs.Ytdeeeipdgoafaaa
