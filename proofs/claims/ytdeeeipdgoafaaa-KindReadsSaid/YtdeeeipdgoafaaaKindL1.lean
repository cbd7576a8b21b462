/- The walks of alive, KindChecks, KindPlain: they answer true. -/
import Derived.Test.YtdeeeipdgoafaaaKindW4
import Derived.Deep.RegionHeld
namespace Go.Proofs.Ytdeeeipdgoafaaa
open Go.RowKit

theorem RdI.new (w : World) (zs : List Int) (cs : Array Value) (t : TypeId) (fr : Nat × Nat) (h : cs = (iv .i64 zs).toArray) (hl : zs.length ≤ 9223372036854775807) (hw : ∀ z ∈ zs, -9223372036854775808 ≤ z ∧ z ≤ 9223372036854775807) :
    RdI (w.alloc (.cells cs t fr)) (some ⟨w.heap.size, 0, none⟩) zs := by
  refine ⟨hl, fun _ => ⟨_, _, rfl, fun j v hj => ?_⟩, hw⟩
  rw [cell_of_row _ _ _ _ _ _ (heap_alloc_new w _), h, Nat.zero_add]
  simpa using hj
theorem kind_load {w : World} {g : Nat} {a b : Value} (h0 : w.cell? ⟨g, 0, none⟩ = some a) (h1 : w.cell? ⟨g, 1, none⟩ = some b) : w.rangeAt g 0 [a, b] := fun j v hv => by
  match j, hv with
  | 0, hv => simp at hv; subst hv; simpa using h0
  | 1, hv => simp at hv; subst hv; simpa using h1

set_option maxHeartbeats 1000000 in
theorem kalive_any (w : World) : Calls Try.prog 10 #[] w fun e w' => e = .returned (.bool true) ∧ Below w.heap.size w w' := by
  go_enter Try.func10, Try.ntmps10
  go_wp2_with fail
  generalize hw2 : (w.alloc _).alloc _ = w2
  have hB2 : Below w.heap.size w w2 := by subst hw2; exact ((Below.refl _ _).alloc (Nat.le_refl _) _).alloc (by simp) _
  have hc0 : w2.cell? ⟨w.heap.size + 1, 0, none⟩ = some (.int .i64 24) := by rw [← hw2]; simp [go_sem]
  have hc1 : w2.cell? ⟨w.heap.size + 1, 1, none⟩ = some (.slice (some ⟨w.heap.size, 0, none⟩) 2 2) := by rw [← hw2]; simp [go_sem]
  have hr2 : RdI w2 (some ⟨w.heap.size, 0, none⟩) [0, 16] := by
    subst hw2
    exact (RdI.new w [0, 16] _ 3 (0, 0) rfl (by simp) (by simp)).below ((Below.refl _ _).alloc (Nat.le_refl _) _)
  clear hw2
  refine (check_any 24 _ 2 [0, 16] w2 (by omega) hr2).mono ?_
  rintro e w3 ⟨rfl, hb3⟩
  rw [show chk 24 [0, 16] = 0 by decide]
  have hd0 := cell_below hb3 hc0
  have hd1 := cell_below hb3 hc1
  have hr3 := hr2.below hb3
  have hB3 := below_then hB2 (Nat.le_refl _) hb3
  clear hc0 hc1 hr2 hb3 hB2
  go_wp2_with fail
  generalize hw4 : w3.alloc _ = w4
  have hB4 : Below w.heap.size w w4 := by subst hw4; exact hB3.alloc hB3.size _
  have hb4 : Below w3.heap.size w3 w4 := by subst hw4; exact (Below.refl _ _).alloc (Nat.le_refl _) _
  have hc0 := cell_below hb4 hd0
  have hc1 := cell_below hb4 hd1
  have hr4 := hr3.below hb4
  have hr4' : RdI w4 (some ⟨w3.heap.size, 0, none⟩) [16] := by
    subst hw4
    exact RdI.new w3 [16] _ 3 (0, 0) rfl (by simp) (by simp)
  clear hw4 hb4 hd0 hd1 hr3 hB3
  refine (check_any 20 _ 1 [16] w4 (by omega) hr4').mono ?_
  rintro e w5 ⟨rfl, hb5⟩
  rw [show chk 20 [16] = 11 by decide]
  have hd0 := cell_below hb5 hc0
  have hd1 := cell_below hb5 hc1
  have hr5 := hr4.below hb5
  have hB5 := below_then hB4 (Nat.le_refl _) hb5
  clear hc0 hc1 hr4 hr4' hb5 hB4
  go_wp2_with fail
  refine (plain_any 24 _ 2 [0, 16] 8 8 w5 (by omega) hr5 (by omega) (by omega)).mono ?_
  rintro e w6 ⟨rfl, hb6⟩
  rw [show plain 24 [0, 16] 8 8 = true by decide]
  have hc0 := cell_below hb6 hd0
  have hc1 := cell_below hb6 hd1
  have hr6 := hr5.below hb6
  have hB6 := below_then hB5 (Nat.le_refl _) hb6
  clear hd0 hd1 hr5 hb6 hB5
  go_wp2_with fail
  refine (plain_any 24 _ 2 [0, 16] 8 9 w6 (by omega) hr6 (by omega) (by omega)).mono ?_
  rintro e w7 ⟨rfl, hb7⟩
  rw [show plain 24 [0, 16] 8 9 = false by decide]
  have hd0 := cell_below hb7 hc0
  have hd1 := cell_below hb7 hc1
  have hr7 := hr6.below hb7
  have hB7 := below_then hB6 (Nat.le_refl _) hb7
  clear hc0 hc1 hr6 hb7 hB6
  go_wp2_with fail
  refine (kbytes_any 24 _ 2 [0, 16] w7 (by omega) hr7).mono ?_
  rintro e w8 ⟨A8, c8, rfl, hO8, hb8⟩
  have hB8 := below_then hB7 (Nat.le_refl _) hb8
  have hk : kindB 24 [0, 16] = [24, 2, 0, 1] := by
    unfold kindB
    rw [if_pos (by decide)]
    simp [wordsB, varB_small]
  rw [hk] at hO8 ⊢
  have hcv := run_strB (P := Try.prog) w8 47 5 9 Try.underlying47 Try.underlying5 Try.underlying9 A8 4 c8 [24, 2, 0, 1] rfl hO8.rdA
  clear hd0 hd1 hr7 hb8 hB7 hk hO8
  go_wp2
  go_ret
  exact ⟨rfl, hB8⟩

set_option maxHeartbeats 1000000 in
theorem kindChecks_walk (S : Int) (A : Option Addr) (cap : Nat) (ps : List Int) (w : World) (hS : -9223372036854775808 ≤ S ∧ S ≤ 9223372036854775807) (hr : RdI w A ps) (hl : ps.length * 8 ≤ 140737488351232) :
    Calls Try.prog 3 #[.agg #[.int .i64 S, .slice A ps.length cap]] w fun e w' => e = .returned (.bool true) ∧ Below w.heap.size w w' := by
  have hB : Below w.heap.size w (w.alloc (.cells #[.int .i64 S, .slice A ps.length cap] 24)) := (Below.refl _ _).alloc (Nat.le_refl _) _
  go_enter Try.func3, Try.ntmps3
  go_wp2_with fail
  refine (kalive_any _).mono ?_
  rintro e w1 ⟨rfl, hb1⟩
  have hc0 : w1.cell? ⟨w.heap.size, 0, none⟩ = some (.int .i64 S) := cell_below hb1 (by simp [go_sem])
  have hc1 : w1.cell? ⟨w.heap.size, 1, none⟩ = some (.slice A ps.length cap) := cell_below hb1 (by simp [go_sem])
  have hB1 := hB.trans (hb1.mono (by simp))
  have hlt1 : w.heap.size < w1.heap.size := by have := hb1.size; simp at this; omega
  clear hb1
  go_wp2_with fail
  refine (kcopy_any S A cap ps w1 (hr.below hB1) hl).mono ?_
  rintro e w2 ⟨A2, c2, rfl, hO2, hr2, hb2⟩
  have hd0 := cell_below hb2 hc0
  have hd1 := cell_below hb2 hc1
  have hB2 := below_then hB1 (Nat.le_refl _) hb2
  have hlt2 : w.heap.size < w2.heap.size := by have := hb2.size; omega
  have hrr := hr.below hB2
  clear hc0 hc1 hb2 hB1 hO2
  go_wp2_with fail
  generalize hw3 : w2.alloc _ = w3
  have hb3 : Below w2.heap.size w2 w3 := by subst hw3; exact (Below.refl _ _).alloc (Nat.le_refl _) _
  have he0 : w3.cell? ⟨w2.heap.size, 0, none⟩ = some (.int .i64 S) := by rw [← hw3]; simp [go_sem]
  have he1 : w3.cell? ⟨w2.heap.size, 1, none⟩ = some (.slice A2 ps.length c2) := by rw [← hw3]; simp [go_sem]
  clear hw3
  have hc0 := cell_below hb3 hd0
  have hc1 := cell_below hb3 hd1
  have hB3 := below_then hB2 (Nat.le_refl _) hb3
  have hra := hrr.below hb3
  have hrb := hr2.below hb3
  clear hd0 hd1 hb3 hB2 hrr hr2
  go_region_held (fun w' => (w'.cell? ⟨w.heap.size, 0, none⟩ = some (.int .i64 S) ∧ w'.cell? ⟨w.heap.size, 1, none⟩ = some (.slice A ps.length cap)) ∧ (w'.cell? ⟨w2.heap.size, 0, none⟩ = some (.int .i64 S) ∧ w'.cell? ⟨w2.heap.size, 1, none⟩ = some (.slice A2 ps.length c2))) (first | exact ⟨⟨hc0, hc1⟩, he0, he1⟩ | exact ⟨⟨cell_below hb4 hc0, cell_below hb4 hc1⟩, cell_below hb4 he0, cell_below hb4 he1⟩ | exact ⟨⟨cell_below hb5 (cell_below hb4 hc0), cell_below hb5 (cell_below hb4 hc1)⟩, cell_below hb5 (cell_below hb4 he0), cell_below hb5 (cell_below hb4 he1)⟩ | exact ⟨⟨cell_below hb6 (cell_below hb5 (cell_below hb4 hc0)), cell_below hb6 (cell_below hb5 (cell_below hb4 hc1))⟩, cell_below hb6 (cell_below hb5 (cell_below hb4 he0)), cell_below hb6 (cell_below hb5 (cell_below hb4 he1))⟩) ((first
      | (go_at_call 12; refine (check_any S A2 c2 ps _ hS (hrb.below (Below.refl _ _).drew)).mono ?_; rintro e w4 ⟨rfl, hb4⟩)
      | (go_at_call 13; refine (refCheck_any S A cap ps _ hS ((hra.below (Below.refl _ _).drew).below hb4)).mono ?_; rintro e w5 ⟨rfl, hb5⟩)
      | (go_at_call 14; refine (ksame_any S S A2 A c2 cap ps ps _ (((hrb.below (Below.refl _ _).drew).below hb4).below hb5) (((hra.below (Below.refl _ _).drew).below hb4).below hb5)).mono ?_; rintro e w6 ⟨rfl, hb6⟩)))
  go_wp2
  go_ret
  exact ⟨rfl, below_then (below_then (below_then hB3.drew (Nat.le_refl _) hb4) (Nat.le_refl _) hb5) (Nat.le_refl _) hb6⟩

set_option maxHeartbeats 2000000 in
theorem kindPlain_walk (S : Int) (A : Option Addr) (cap : Nat) (ps : List Int) (at_ n : Int) (w : World) (hS : -9223372036854775808 ≤ S ∧ S ≤ 9223372036854775807) (hr : RdI w A ps)
    (ha : -9223372036854775808 ≤ at_ ∧ at_ ≤ 9223372036854775807) (hn : -9223372036854775808 ≤ n ∧ n ≤ 9223372036854775807) :
    Calls Try.prog 4 #[.agg #[.int .i64 S, .slice A ps.length cap], .int .i64 at_, .int .i64 n] w fun e w' => e = .returned (.bool true) ∧ Below w.heap.size w w' := by
  have hlen := hr.1
  have hB : Below w.heap.size w (w.alloc (.cells #[.int .i64 S, .slice A ps.length cap] 24)) := (Below.refl _ _).alloc (Nat.le_refl _) _
  go_enter Try.func4, Try.ntmps4
  go_wp2_with fail
  refine (kalive_any _).mono ?_
  rintro e w1 ⟨rfl, hb1⟩
  have hd0 : w1.cell? ⟨w.heap.size, 0, none⟩ = some (.int .i64 S) := cell_below hb1 (by simp [go_sem])
  have hd1 : w1.cell? ⟨w.heap.size, 1, none⟩ = some (.slice A ps.length cap) := cell_below hb1 (by simp [go_sem])
  have hB1 := hB.trans (hb1.mono (by simp))
  clear hb1
  go_wp2_with fail
  refine (field_any S A cap ps n w1 hS (hr.below hB1)).mono ?_
  rintro e w2 ⟨rfl, hb2⟩
  have hc0 := cell_below hb2 hd0
  have hc1 := cell_below hb2 hd1
  have hB2 := below_then hB1 (Nat.le_refl _) hb2
  clear hd0 hd1 hb2 hB1
  by_cases hok : 0 ≤ n ∧ n < ps.length ∧ chk S ps = 0
  · obtain ⟨k, rfl⟩ := Int.eq_ofNat_of_zero_le hok.1
    have hkl : k < ps.length := by omega
    have HF := Lib.hid (show fieldV S ps k = (ps[k], true) by unfold fieldV; rw [if_pos hok, Int.toNat_natCast, List.getD_eq_getElem?_getD, List.getElem?_eq_getElem hkl]; rfl)
    rw [HF.out]
    have H3 := Lib.hid hok.2.2; clear hok
    obtain ⟨b, off, rfl, hblt, hc⟩ := hr.at (by omega)
    have hck := hc k hkl
    clear hc
    generalize ps[k] = p at *
    go_wp2_with fail
    refine (refCheck_any S _ cap ps w2 hS (hr.below hB2)).mono ?_
    rintro e w3 ⟨rfl, hb3⟩
    rw [H3.out]
    have hd0 := cell_below hb3 hc0
    have hd1 := cell_below hb3 hc1
    have hB3 := below_then hB2 (Nat.le_refl _) hb3
    have hck3 := cell_below hB3 hck
    have hrr := hr.below hB3
    clear hc0 hc1 hb3 hB2 hck
    go_wp2_with fail
    go_region_held (fun w' => w'.cell? ⟨w.heap.size, 0, none⟩ = some (.int .i64 S) ∧ w'.cell? ⟨w.heap.size, 1, none⟩ = some (.slice (some ⟨b, off, none⟩) ps.length cap)) (first | exact ⟨hd0, hd1⟩ | exact ⟨cell_below hb4 hd0, cell_below hb4 hd1⟩ | exact ⟨cell_below hb5 (cell_below hb4 hd0), cell_below hb5 (cell_below hb4 hd1)⟩) ((first
      | (go_at_call 16; refine (plain_any S _ cap ps at_ k _ hS (hrr.below (Below.refl _ _).drew) ha hn).mono ?_; rintro e w4 ⟨rfl, hb4⟩)
      | (go_at_call 17; refine (refPlain_any S _ cap ps at_ k _ hS ((hrr.below (Below.refl _ _).drew).below hb4) ha hn).mono ?_; rintro e w5 ⟨rfl, hb5⟩)))
    go_wp2
    go_ret
    exact ⟨rfl, below_then (below_then hB3.drew (Nat.le_refl _) hb4) (Nat.le_refl _) hb5⟩
  · have HF := Lib.hid (show fieldV S ps n = (0, false) by unfold fieldV; rw [if_neg hok])
    rw [HF.out]
    by_cases h3 : chk S ps = 0
    · have H3 := Lib.hid h3; clear h3
      have hno : n < 0 ∨ (ps.length : Int) ≤ n := by
        by_cases h1 : n < 0
        · exact .inl h1
        · by_cases h2 : (ps.length : Int) ≤ n
          · exact .inr h2
          · exact absurd ⟨by omega, by omega, H3.out⟩ hok
      clear hok
      rcases hno with hno | hno
      all_goals
        go_wp2_with fail
        refine (refCheck_any S _ cap ps w2 hS (hr.below hB2)).mono ?_
        rintro e w3 ⟨rfl, hb3⟩
        rw [H3.out]
        have hd0 := cell_below hb3 hc0
        have hd1 := cell_below hb3 hc1
        have hB3 := below_then hB2 (Nat.le_refl _) hb3
        have hrr := hr.below hB3
        clear hc0 hc1 hb3 hB2
        go_wp2_with fail
        go_region_held (fun w' => w'.cell? ⟨w.heap.size, 0, none⟩ = some (.int .i64 S) ∧ w'.cell? ⟨w.heap.size, 1, none⟩ = some (.slice A ps.length cap)) (first | exact ⟨hd0, hd1⟩ | exact ⟨cell_below hb4 hd0, cell_below hb4 hd1⟩ | exact ⟨cell_below hb5 (cell_below hb4 hd0), cell_below hb5 (cell_below hb4 hd1)⟩) ((first
          | (go_at_call 16; refine (plain_any S _ cap ps at_ n _ hS (hrr.below (Below.refl _ _).drew) ha hn).mono ?_; rintro e w4 ⟨rfl, hb4⟩)
          | (go_at_call 17; refine (refPlain_any S _ cap ps at_ n _ hS ((hrr.below (Below.refl _ _).drew).below hb4) ha hn).mono ?_; rintro e w5 ⟨rfl, hb5⟩)))
        go_wp2
        go_ret
        exact ⟨rfl, below_then (below_then hB3.drew (Nat.le_refl _) hb4) (Nat.le_refl _) hb5⟩
    · have h4 : (chk S ps == 0) = false := by rw [beq_eq_false_iff_ne]; exact h3
      have H3 := Lib.hid h3; clear h3 hok
      go_wp2_with fail
      refine (refCheck_any S _ cap ps w2 hS (hr.below hB2)).mono ?_
      rintro e w3 ⟨rfl, hb3⟩
      have hd0 := cell_below hb3 hc0
      have hd1 := cell_below hb3 hc1
      have hB3 := below_then hB2 (Nat.le_refl _) hb3
      have hrr := hr.below hB3
      clear hc0 hc1 hb3 hB2
      go_wp2_with fail
      go_region_held (fun w' => w'.cell? ⟨w.heap.size, 0, none⟩ = some (.int .i64 S) ∧ w'.cell? ⟨w.heap.size, 1, none⟩ = some (.slice A ps.length cap)) (first | exact ⟨hd0, hd1⟩ | exact ⟨cell_below hb4 hd0, cell_below hb4 hd1⟩ | exact ⟨cell_below hb5 (cell_below hb4 hd0), cell_below hb5 (cell_below hb4 hd1)⟩) ((first
        | (go_at_call 16; refine (plain_any S _ cap ps at_ n _ hS (hrr.below (Below.refl _ _).drew) ha hn).mono ?_; rintro e w4 ⟨rfl, hb4⟩)
        | (go_at_call 17; refine (refPlain_any S _ cap ps at_ n _ hS ((hrr.below (Below.refl _ _).drew).below hb4) ha hn).mono ?_; rintro e w5 ⟨rfl, hb5⟩)))
      go_wp2
      go_ret
      exact ⟨rfl, below_then (below_then hB3.drew (Nat.le_refl _) hb4) (Nat.le_refl _) hb5⟩

/-- A kind that came in. -/
theorem kind_in {w : World} {cs : Array Value} (hz : cs.size = 2) (hR : rStruct [rInt .i64, rSlice 1 8 (rInt .i64)] w cs.toList) :
    ∃ (S : Int) (A : Option Addr) (cap : Nat) (ps : List Int), cs = #[.int .i64 S, .slice A ps.length cap] ∧ (-9223372036854775808 ≤ S ∧ S ≤ 9223372036854775807) ∧ RdI w A ps ∧ ps.length * 8 ≤ 140737488351232 := by
  obtain ⟨c0, c1, rfl⟩ : ∃ c0 c1, cs = #[c0, c1] := by
    obtain ⟨l⟩ := cs
    match l, hz with
    | [c0, c1], _ => exact ⟨c0, c1, rfl⟩
  obtain ⟨S, h0, hw⟩ := hR 0 _ c0 rfl rfl
  simp at h0
  subst h0
  obtain ⟨A, cap, ps, rfl, _, _, hl, hwf, hrd⟩ := rSlice_ints (hR 1 _ c1 rfl rfl)
  have hb := Go.bounds_i64 hw
  exact ⟨S, A, cap, ps, rfl, by omega, ⟨by omega, hrd, fun z hz => by have := Go.bounds_i64 (hwf z hz); omega⟩, hl⟩
theorem kindChecks_front (cs : Array Value) (W : World) (hz : cs.size = 2) (hR : rStruct [rInt .i64, rSlice 1 8 (rInt .i64)] W cs.toList) :
    Calls Try.prog 3 #[.agg cs] W fun e w' => e = .returned (.bool true) ∧ Below W.heap.size W w' := by
  obtain ⟨S, A, cap, ps, rfl, hS, hr, hl⟩ := kind_in hz hR
  exact kindChecks_walk S A cap ps W hS hr hl
theorem kindPlain_front (cs : Array Value) (at_ n : Int) (W : World) (hz : cs.size = 2) (hR : rStruct [rInt .i64, rSlice 1 8 (rInt .i64)] W cs.toList) (ha1 : at_ ≤ 9223372036854775807) (ha0 : -9223372036854775808 ≤ at_) (hn1 : n ≤ 9223372036854775807) (hn0 : -9223372036854775808 ≤ n) :
    Calls Try.prog 4 #[.agg cs, .int .i64 at_, .int .i64 n] W fun e w' => e = .returned (.bool true) ∧ Below W.heap.size W w' := by
  obtain ⟨S, A, cap, ps, rfl, hS, hr, _⟩ := kind_in hz hR
  exact kindPlain_walk S A cap ps at_ n W hS hr ⟨ha0, ha1⟩ ⟨hn0, hn1⟩
end Go.Proofs.Ytdeeeipdgoafaaa
