/- The walks of a kind's Bytes, of the program and of the reference. -/
import Derived.Test.YtdeeeipdgoafaaaKindW3
namespace Go.Proofs.Ytdeeeipdgoafaaa
open Go.RowKit

theorem u64_of_nat (n : Nat) (h : n < 18446744073709551616) : IntKind.u64.wrap ((n : Nat) : Int) = (n : Int) := wrap_u64_nat n h

set_option maxHeartbeats 2000000 in
set_option maxRecDepth 20000 in
theorem kbytes_any (S : Int) (A : Option Addr) (cap : Nat) (ps : List Int) (w : World) (hS : -9223372036854775808 ≤ S ∧ S ≤ 9223372036854775807) (hr : RdI w A ps) :
    Calls Try.prog 24 #[.agg #[.int .i64 S, .slice A ps.length cap]] w fun e w' => ∃ A' c', e = .returned (.slice A' (kindB S ps).length c') ∧ OwnB w' w.heap.size 5 (.slice A' (kindB S ps).length c') (kindB S ps) ∧ Below w.heap.size w w' := by
  have hB : Below w.heap.size w (w.alloc (.cells #[.int .i64 S, .slice A ps.length cap] 24)) := (Below.refl _ _).alloc (Nat.le_refl _) _
  by_cases h3 : chk S ps = 0
  · obtain ⟨hs1, hs2, hpl, hpm⟩ := chk_zero h3
    have HF := Lib.hid (show kindB S ps = varB S.toNat ++ varB ps.length ++ wordsB 0 ps by unfold kindB; rw [if_pos h3])
    have HOK := Lib.hid (chk_ok h3)
    have H3 := Lib.hid h3; clear h3
    have HPM := Lib.hid hpm; clear hpm
    go_enter Try.func24, Try.ntmps24
    go_wp2_with fail
    refine (check_any S _ cap ps _ hS (hr.below hB)).mono ?_
    rintro e w1 ⟨rfl, hb1⟩
    rw [H3.out]
    have hc0 : w1.cell? ⟨w.heap.size, 0, none⟩ = some (.int .i64 S) := cell_below hb1 (by simp [go_sem])
    have hc1 : w1.cell? ⟨w.heap.size, 1, none⟩ = some (.slice A ps.length cap) := cell_below hb1 (by simp [go_sem])
    have hB1 := hB.trans (hb1.mono (by simp))
    have hlt1 : w.heap.size < w1.heap.size := by have := hb1.size; simp at this; omega
    clear hb1
    obtain ⟨s, rfl⟩ := Int.eq_ofNat_of_zero_le (show 0 ≤ S by omega)
    rw [Int.toNat_natCast] at HF
    go_wp2_with fail
    refine (var_any s w1 (by omega)).mono ?_
    rintro e w2 ⟨A2, c2, rfl, hO2, hb2⟩
    have hd0 := cell_below hb2 hc0
    have hd1 := cell_below hb2 hc1
    have hB2 := below_then hB1 (Nat.le_refl _) hb2
    have hlt2 : w.heap.size < w2.heap.size := by have := hb2.size; omega
    have hO2' : OwnB w2 (w.heap.size + 1) 5 (.slice A2 (varB s).length c2) (varB s) := own_le hO2 (by omega)
    clear hc0 hc1 hb2 hO2
    go_wp2_with fail
    refine (var_any ps.length w2 (by omega)).mono ?_
    rintro e w3 ⟨A3, c3, rfl, hO3, hb3⟩
    have hc0 := cell_below hb3 hd0
    have hc1 := cell_below hb3 hd1
    have hB3 := below_then hB2 (Nat.le_refl _) hb3
    have hO23 := hO2'.below hb3
    have hr3 := hO3.rdA
    have hls := varB_len10 s (by omega)
    have hlp := varB_len10 ps.length (by omega)
    have hlt3 : w.heap.size < w3.heap.size := by have := hb3.size; omega
    clear hd0 hd1 hb3 hO2' hO3
    obtain ⟨hd, hhd⟩ : ∃ hd, hd = varB s ++ varB ps.length := ⟨_, rfl⟩
    have hl4 : hd.length ≤ 20 := by rw [hhd, List.length_append]; omega
    have HF' := Lib.hid (show kindB s ps = hd ++ wordsB 0 ps by rw [hhd]; exact HF.out)
    have HHD := Lib.hid hhd; clear hhd
    go_wp2_with (at_builtin; refine wpList_appB w3 (w.heap.size + 1) Try.slB rfl (.tmp 14) (.tmp 19) rfl _ (varB s) rfl hO23 A3 _ c3 (varB ps.length) rfl rfl hr3 hd HHD.out (by omega) (Below.refl _ _) (by omega) ?_; intro A4 c4 w4 hown4 hr4 hB4 hg4 hat4; clear hg4 hat4 hr4; have hd1 : w4.cell? ⟨w.heap.size, 1, none⟩ = some (.slice A ps.length cap) := (hB4.cell (p := ⟨w.heap.size, 1, none⟩) (by simp)).trans hc1; clear hc0 hc1 hO23 hr3)
    have hB4' : Below w.heap.size w w4 := hB3.trans (hB4.mono (by omega))
    have hown4' : OwnB w4 w.heap.size 5 (.slice A4 hd.length c4) hd := own_le hown4 (by omega)
    clear hB4 hown4 hB3 hB1 hB2 hd1
    go_loopw [3, 4, 6, 24] (fun o nx _ i wr => ∃ (k c : Nat) (A' : Option Addr) (next : Int) (xs : List UInt8), k ≤ ps.length ∧ i = .int .i64 k ∧ nx = .int .i64 next ∧ 0 ≤ next ∧ next ≤ 4096 ∧ o = .slice A' xs.length c ∧ xs.length ≤ 20 + 10 * k ∧ Hid (OwnB wr w.heap.size 5 (.slice A' xs.length c) xs) ∧ Hid (xs ++ wordsB next (ps.drop k) = kindB s ps) ∧ Hid (okFrom s next (ps.drop k) = true) ∧ Below w.heap.size w wr) (fun _ _ _ i _ => ps.length - (intOf i).toNat)
    case atStart => exact ⟨0, c4, A4, 0, hd, by omega, rfl, rfl, by omega, by omega, by simp, by omega, hown4', HF'.out.symm, HOK.out, hB4'⟩
    case round =>
      obtain ⟨k, c, A', next, xs, hk, rfl, rfl, hn0, hn1, rfl, hxl, hO, hX, hV, hBr⟩ := hrel
      by_cases hlt : k < ps.length
      · obtain ⟨b, off, rfl, hblt, hc⟩ := hr.at (by omega)
        have hck := cell_below (hBr) (hc k hlt)
        have hX2 := hX.out
        have hV2 := hV.out
        rw [drop_cons ps k hlt] at hX2 hV2
        rw [wordsB_cons] at hX2
        obtain ⟨hm, hp0, hp1, hV3⟩ := okFrom_next hV2
        clear hc hV2
        generalize ps[k] = p at *
        have HM := Lib.hid hm; clear hm
        have HX2 := Lib.hid hX2; clear hX2
        have HV3 := Lib.hid hV3; clear hV3
        obtain ⟨q, hq⟩ : ∃ q : Nat, (p - next) / 8 = (q : Int) := ⟨((p - next) / 8).toNat, by omega⟩
        have HQ := Lib.hid (show q = ((p - next) / 8).toNat ∧ q ≤ 4096 by omega)
        go_wp2_with fail
        refine (var_any q wr (by have := HQ.out.2; omega)).mono ?_
        rintro e w5 ⟨A5, c5, rfl, hO5, hb5⟩
        have hO' := hO.out.below hb5
        have hr5 := hO5.rdA
        have hlq := varB_len10 q (by have := HQ.out.2; omega)
        have hB5 := below_then hBr (Nat.le_refl _) hb5
        clear hb5 hO5 hck
        obtain ⟨ys, hys⟩ : ∃ ys, ys = xs ++ varB q := ⟨_, rfl⟩
        have hyl : ys.length ≤ 20 + 10 * (k + 1) := by rw [hys, List.length_append]; omega
        have HYS := Lib.hid hys; clear hys
        go_wp2_with (at_builtin; refine wpList_appB w w.heap.size Try.slB rfl (.tmp 28) (.tmp 34) rfl _ xs rfl hO' A5 _ c5 (varB q) rfl rfl hr5 ys HYS.out (by omega) hB5 (Nat.le_refl _) ?_; intro A6 c6 w6 hown6 hr6 hB6 hg6 hat6; clear hg6 hat6 hr6 hO' hr5 hB5)
        go_roundw
        case rel => exact ⟨k + 1, c6, A6, p + 8, ys, by omega, by go_num, rfl, by omega, by omega, rfl, hyl, hown6, by have h := HX2.out; rw [← HQ.out.1, ← List.append_assoc, ← HYS.out] at h; exact h, HV3.out, hB6⟩
        case measure => simp [intOf]; omega
      · have hX2 := hX.out
        rw [List.drop_of_length_le (by omega), wordsB, List.append_nil] at hX2
        subst hX2
        go_wp2
        go_ret
        exact ⟨A', c, rfl, hO.out, hBr⟩
  · have hk : kindB S ps = [] := by unfold kindB; rw [if_neg h3]
    have HK := Lib.hid hk; clear hk
    have h4 : (chk S ps != 0) = true := by rw [bne_iff_ne]; exact h3
    have H3 := Lib.hid h3; clear h3
    go_enter Try.func24, Try.ntmps24
    go_wp2_with fail
    refine (check_any S _ cap ps _ hS (hr.below hB)).mono ?_
    rintro e w1 ⟨rfl, hb1⟩
    have hB1 := hB.trans (hb1.mono (by simp))
    clear hb1
    go_wp2
    go_ret
    exact ⟨none, 0, by rw [HK.out]; rfl, by rw [HK.out]; exact own_nil _ _ _ _, hB1⟩

set_option maxHeartbeats 2000000 in
set_option maxRecDepth 20000 in
theorem refKbytes_any (S : Int) (A : Option Addr) (cap : Nat) (ps : List Int) (w : World) (hS : -9223372036854775808 ≤ S ∧ S ≤ 9223372036854775807) (hr : RdI w A ps) :
    Calls Try.prog 26 #[.agg #[.int .i64 S, .slice A ps.length cap]] w fun e w' => ∃ A' c', e = .returned (.slice A' (kindB S ps).length c') ∧ OwnB w' w.heap.size 5 (.slice A' (kindB S ps).length c') (kindB S ps) ∧ Below w.heap.size w w' := by
  have hB : Below w.heap.size w (w.alloc (.cells #[.int .i64 S, .slice A ps.length cap] 24)) := (Below.refl _ _).alloc (Nat.le_refl _) _
  by_cases h3 : chk S ps = 0
  · obtain ⟨hs1, hs2, hpl, hpm⟩ := chk_zero h3
    have HF := Lib.hid (show kindB S ps = varB S.toNat ++ varB ps.length ++ wordsB 0 ps by unfold kindB; rw [if_pos h3])
    have HOK := Lib.hid (chk_ok h3)
    have H3 := Lib.hid h3; clear h3
    have HPM := Lib.hid hpm; clear hpm
    go_enter Try.func26, Try.ntmps26
    go_wp2_with fail
    refine (refCheck_any S _ cap ps _ hS (hr.below hB)).mono ?_
    rintro e w1 ⟨rfl, hb1⟩
    rw [H3.out]
    have hc0 : w1.cell? ⟨w.heap.size, 0, none⟩ = some (.int .i64 S) := cell_below hb1 (by simp [go_sem])
    have hc1 : w1.cell? ⟨w.heap.size, 1, none⟩ = some (.slice A ps.length cap) := cell_below hb1 (by simp [go_sem])
    have hB1 := hB.trans (hb1.mono (by simp))
    have hlt1 : w.heap.size < w1.heap.size := by have := hb1.size; simp at this; omega
    clear hb1
    obtain ⟨s, rfl⟩ := Int.eq_ofNat_of_zero_le (show 0 ≤ S by omega)
    rw [Int.toNat_natCast] at HF
    have hls := varB_len10 s (by omega)
    have hlp := varB_len10 ps.length (by omega)
    obtain ⟨hd, hhd⟩ : ∃ hd, hd = varB s ++ varB ps.length := ⟨_, rfl⟩
    have hl4 : hd.length ≤ 20 := by rw [hhd, List.length_append]; omega
    have HF' := Lib.hid (show kindB s ps = hd ++ wordsB 0 ps by rw [hhd]; exact HF.out)
    have HHD := Lib.hid hhd; clear hhd
    go_wp2_with fail
    have hws := wrap_u64_nat s (by omega)
    have hwp := wrap_u64_nat ps.length (by omega)
    go_region_held_law (fun w' => w'.cell? ⟨w.heap.size, 0, none⟩ = some (.int .i64 (s : Int)) ∧ w'.cell? ⟨w.heap.size, 1, none⟩ = some (.slice A ps.length cap)) (first | exact ⟨hc0, hc1⟩ | exact ⟨ha0, ha1⟩ | exact ⟨hb0, hb1⟩ | exact ⟨hd0, hd1⟩) ((first
      | (go_at_call_of 37 (Value.int .u64 (s : Int)); refine (refVar_any s _ (by omega)).mono ?_; rintro e w2 ⟨A2, c2, rfl, hO2, hb2⟩; have ha0 := cell_below hb2 hc0; have ha1 := cell_below hb2 hc1; have hB2 := below_then hB1.drew (Nat.le_refl _) hb2; have hsz2 : w1.heap.size ≤ w2.heap.size := hb2.size)
      | (go_at_call_of 37 (Value.int .u64 (ps.length : Int)); refine (refVar_any ps.length _ (by omega)).mono ?_; rintro e w3 ⟨A3, c3, rfl, hO3, hb3⟩; have hb0 := cell_below hb3 ha0; have hb1 := cell_below hb3 ha1; have hB3 := below_then hB2 (Nat.le_refl _) hb3)
      | (refine step_appB w3 (w.heap.size + 1) Try.slB rfl (.tmp 13) (.tmp 18) rfl _ (varB s) rfl (own_le (hO2.below hb3) (show w.heap.size + 1 ≤ w1.heap.size by omega)) A3 _ c3 (varB ps.length) rfl rfl hO3.rdA hd HHD.out (by omega) (Below.refl _ _) (by have := hb3.size; omega) ?_; intro A4 c4 w4 hown4 hr4 hB4 hg4 hat4; clear hg4 hat4 hr4; have hd0 : w4.cell? ⟨w.heap.size, 0, none⟩ = some (.int .i64 (s : Int)) := (hB4.cell (p := ⟨w.heap.size, 0, none⟩) (by simp)).trans hb0; have hd1 : w4.cell? ⟨w.heap.size, 1, none⟩ = some (.slice A ps.length cap) := (hB4.cell (p := ⟨w.heap.size, 1, none⟩) (by simp)).trans hb1)))
    have hB4' : Below w.heap.size w w4 := hB3.trans (hB4.mono (by omega))
    have hown4' : OwnB w4 w.heap.size 5 (.slice A4 hd.length c4) hd := own_le hown4 (by omega)
    clear hB4 hown4 hB3 hB1 hB2 hws hwp hc0 hc1 ha0 ha1 hb0 hb1 hd0 hO2 hO3 hb2 hb3 hls hlp
    go_wp2
    go_loopw [3, 4, 6, 23] (fun o nx _ i wr => ∃ (k c : Nat) (A' : Option Addr) (nx' : Int) (xs : List UInt8), k ≤ ps.length ∧ i = .int .i64 k ∧ nx = .int .i64 nx' ∧ 0 ≤ nx' ∧ nx' ≤ 512 ∧ o = .slice A' xs.length c ∧ xs.length ≤ 20 + 10 * k ∧ Hid (OwnB wr w.heap.size 5 (.slice A' xs.length c) xs) ∧ Hid (xs ++ wordsB (8 * nx') (ps.drop k) = kindB s ps) ∧ Hid (okFrom s (8 * nx') (ps.drop k) = true) ∧ Below w.heap.size w wr) (fun _ _ _ i _ => ps.length - (intOf i).toNat)
    case atStart => exact ⟨0, c4, A4, 0, hd, by omega, rfl, rfl, by omega, by omega, rfl, by omega, hown4', HF'.out.symm, HOK.out, hB4'⟩
    case round =>
      obtain ⟨k, c, A', nx, xs, hk, rfl, rfl, hn0, hn1, rfl, hxl, hO, hX, hV, hBr⟩ := hrel
      by_cases hlt : k < ps.length
      · obtain ⟨b, off, rfl, hblt, hc⟩ := hr.at (by omega)
        have hck := cell_below (hBr) (hc k hlt)
        have hX2 := hX.out
        have hV2 := hV.out
        rw [drop_cons ps k hlt] at hX2 hV2
        rw [wordsB_cons] at hX2
        obtain ⟨hm, hp0, hp1, hV3⟩ := okFrom_next hV2
        clear hc hV2
        generalize ps[k] = p at *
        have HM := Lib.hid hm; clear hm
        have HX2 := Lib.hid hX2; clear hX2
        have HV3 := Lib.hid hV3; clear hV3
        obtain ⟨q, hq⟩ : ∃ q : Nat, p / 8 - nx = (q : Int) := ⟨(p / 8 - nx).toNat, by omega⟩
        have HQ := Lib.hid (show q = ((p - 8 * nx) / 8).toNat ∧ q ≤ 4096 by omega)
        go_wp2_with fail
        refine (refVar_any q wr (by have := HQ.out.2; omega)).mono ?_
        rintro e w5 ⟨A5, c5, rfl, hO5, hb5⟩
        have hO' := hO.out.below hb5
        have hr5 := hO5.rdA
        have hlq := varB_len10 q (by have := HQ.out.2; omega)
        have hB5 := below_then hBr (Nat.le_refl _) hb5
        clear hb5 hO5 hck
        obtain ⟨ys, hys⟩ : ∃ ys, ys = xs ++ varB q := ⟨_, rfl⟩
        have hyl : ys.length ≤ 20 + 10 * (k + 1) := by rw [hys, List.length_append]; omega
        have HYS := Lib.hid hys; clear hys
        go_wp2_with (at_builtin; refine wpList_appB w w.heap.size Try.slB rfl (.tmp 27) (.tmp 33) rfl _ xs rfl hO' A5 _ c5 (varB q) rfl rfl hr5 ys HYS.out (by omega) hB5 (Nat.le_refl _) ?_; intro A6 c6 w6 hown6 hr6 hB6 hg6 hat6; clear hg6 hat6 hr6 hO' hr5 hB5)
        go_roundw
        case rel =>
          refine ⟨k + 1, c6, A6, p / 8 + 1, ys, by omega, by go_num, rfl, by omega, by omega, rfl, hyl, hown6, ?_, ?_, hB6⟩
          · have h := HX2.out
            rw [← HQ.out.1, ← List.append_assoc, ← HYS.out] at h
            show _ = _
            rw [show 8 * (p / 8 + 1) = p + 8 by have := HM.out; omega]
            exact h
          · show _ = _
            rw [show 8 * (p / 8 + 1) = p + 8 by have := HM.out; omega]
            exact HV3.out
        case measure => simp [intOf]; omega
      · have hX2 := hX.out
        rw [List.drop_of_length_le (by omega), wordsB, List.append_nil] at hX2
        subst hX2
        go_wp2
        go_ret
        exact ⟨A', c, rfl, hO.out, hBr⟩
  · have hk : kindB S ps = [] := by unfold kindB; rw [if_neg h3]
    have HK := Lib.hid hk; clear hk
    have h4 : (chk S ps != 0) = true := by rw [bne_iff_ne]; exact h3
    have H3 := Lib.hid h3; clear h3
    go_enter Try.func26, Try.ntmps26
    go_wp2_with fail
    refine (refCheck_any S _ cap ps _ hS (hr.below hB)).mono ?_
    rintro e w1 ⟨rfl, hb1⟩
    have hB1 := hB.trans (hb1.mono (by simp))
    clear hb1
    go_wp2
    go_ret
    exact ⟨none, 0, by rw [HK.out]; rfl, by rw [HK.out]; exact own_nil _ _ _ _, hB1⟩
end Go.Proofs.Ytdeeeipdgoafaaa
