/- The law SumPieces as a walk: it answers true. -/
import Derived.Test.YtfojkbnoagfdhaaSumL2
namespace Go.Proofs.Ytfojkbnoagfdhaa
open Go.RowKit

/-- Pieces of bytes, one behind the other, as cells. -/
theorem pieces {w : World} (es : List (List Value)) (h : ∀ e ∈ es, e.length = 1 ∧ rSlice 1 1 (rInt .u8) w e) :
    es.flatten.length = es.length ∧ ∀ i, i < es.length → ∃ (A : Option Addr) (cap : Nat) (bs : List UInt8), es.flatten[i]? = some (.slice A bs.length cap) ∧ RdB w A bs := by
  induction es with
  | nil => exact ⟨rfl, fun i hi => by simp at hi⟩
  | cons e es ih =>
    obtain ⟨h1, h2⟩ := ih (fun e he => h e (by simp [he]))
    obtain ⟨hl, hr⟩ := h e (by simp)
    obtain ⟨c, rfl⟩ := List.length_eq_one_iff.1 hl
    refine ⟨by simp [h1], fun i hi => ?_⟩
    rcases i with _ | i
    · obtain ⟨A, cap, bs, rfl, _, _, _, hb⟩ := rSlice_bytes hr
      exact ⟨A, cap, bs, by simp, hb⟩
    · obtain ⟨A, cap, bs, h3, h4⟩ := h2 i (by simpa using hi)
      exact ⟨A, cap, bs, by simpa using h3, h4⟩

set_option maxHeartbeats 2000000 in
theorem sumPieces_walk (A : Option Addr) (n cap : Nat) (w : World) (hn : n ≤ 9223372036854775807)
    (hc : 0 < n → ∃ b off, A = some ⟨b, off, none⟩ ∧ ∀ i, i < n → ∃ (A : Option Addr) (cap : Nat) (bs : List UInt8), w.cell? ⟨b, off + i, none⟩ = some (.slice A bs.length cap) ∧ RdB w A bs) :
    Calls Try.prog 5 #[.slice A n cap] w fun e w' => e = .returned (.bool true) ∧ Below w.heap.size w w' := by
  have HC := Lib.hid hc; clear hc
  go_enter Try.func5, Try.ntmps5
  go_wp2_with fail
  refine (alive_any w).mono ?_
  rintro e w1 ⟨rfl, hb1⟩
  go_wp2_with fail
  go_loopw [3, 4, 5, 13, 14, 15] (fun v s i _ _ _ wr => ∃ (k y c : Nat) (A' : Option Addr) (xs : List UInt8), k ≤ n ∧ k ≤ 50 ∧ i = .int .i64 k ∧ s = .int .u32 (y : Int) ∧ y < 4294967296 ∧ v = .slice A' xs.length c ∧ xs.length ≤ 2000 * k ∧ Hid (y = sum xs) ∧ Hid (OwnB wr w.heap.size 5 (.slice A' xs.length c) xs) ∧ Below w.heap.size w wr) (fun _ _ i _ _ _ _ => n - (intOf i).toNat)
  case atStart => exact ⟨0, 0, 0, none, [], by omega, by omega, rfl, rfl, by omega, rfl, by simp, by rw [sum_nil]; rfl, own_nil _ _ _ _, hb1⟩
  case round =>
    obtain ⟨k, y, c, A', xs, hk, hk50, rfl, rfl, hy, rfl, hxl, hY, hO, hB⟩ := hrel
    by_cases hlt : k < n
    · by_cases h50 : k < 50
      · obtain ⟨b, off, rfl, hcell⟩ := HC.out (by omega)
        obtain ⟨A2, cap2, bs, hck, hrb⟩ := hcell k hlt
        have hck' : wr.cell? ⟨b, off + k, none⟩ = some (.slice A2 bs.length cap2) := (hB.cell (World.block_lt_of_cell? w _ hck)).trans hck
        have hrb' := hrb.below hB
        have hbl := hrb.len
        have HM := Lib.hid (show more (sum xs) bs = sum (xs ++ bs) by unfold sum; rw [more_append])
        have HCK := Lib.hid hck
        have HRB := Lib.hid hrb
        clear hcell hck hrb
        by_cases hlong : 2000 < bs.length
        · go_wp2
          go_ret
          exact ⟨rfl, hB⟩
        · go_wp2_with (at_builtin; refine wpList_appB w w.heap.size Try.slB rfl (.tmp 24) (.tmp 28) rfl _ xs rfl hO.out A2 bs.length cap2 bs rfl rfl hrb' (xs ++ bs) rfl (by simp; omega) hB (Nat.le_refl _) ?_; intro A3 c3 w3 hown3 hr3 hB3 hg3 hat3; have hck3 : w3.cell? ⟨b, off + k, none⟩ = some (.slice A2 bs.length cap2) := (hB3.cell (World.block_lt_of_cell? w _ HCK.out)).trans HCK.out; clear hg3 hat3 hr3 hck' hrb')
          refine (more_any y A2 cap2 bs w3 hy (HRB.out.below hB3)).mono ?_
          rintro e w' ⟨rfl, rfl⟩
          go_wp2
          go_roundw
          case rel =>
            refine ⟨k + 1, more y bs, c3, A3, xs ++ bs, by omega, by omega, by go_num, rfl, more_lt y bs hy, by simp, by simp; omega, ?_, hown3, hB3⟩
            rw [hY.out]; exact HM.out
          case measure => simp [intOf]; omega
      · obtain rfl : k = 50 := by omega
        have hr := hO.out.rdA
        go_wp2_with fail
        refine (sum_any A' c xs wr hr).mono ?_
        rintro e w' ⟨rfl, rfl⟩
        rw [← hY.out]
        go_wp2_with fail
        refine (sum_at none 0 0 [] wr (RdB.none wr) rfl).mono ?_
        rintro e w' ⟨rfl, rfl⟩
        rw [sum_nil]
        go_wp2
        go_ret
        exact ⟨rfl, hB⟩
    · obtain rfl : k = n := by omega
      have hr := hO.out.rdA
      go_wp2_with fail
      refine (sum_any A' c xs wr hr).mono ?_
      rintro e w' ⟨rfl, rfl⟩
      rw [← hY.out]
      go_wp2_with fail
      refine (sum_at none 0 0 [] wr (RdB.none wr) rfl).mono ?_
      rintro e w' ⟨rfl, rfl⟩
      rw [sum_nil]
      go_wp2
      go_ret
      exact ⟨rfl, hB⟩

theorem sumPieces_front (A : Option Addr) (n cap : Nat) (W : World) (hR : rSlice 1 24 (rSlice 1 1 (rInt .u8)) W [.slice A n cap]) :
    Calls Try.prog 5 #[.slice A n cap] W fun e w' => e = .returned (.bool true) ∧ Below W.heap.size W w' := by
  obtain ⟨A', len, cap', es, hv, hl, h1, h2, _, he, hrd⟩ := hR
  simp only [List.cons.injEq, Value.slice.injEq, and_true] at hv
  obtain ⟨rfl, rfl, rfl⟩ := hv
  obtain ⟨hfl, hp⟩ := pieces es he
  refine sumPieces_walk A n cap W (by omega) (fun hpos => ?_)
  obtain ⟨b, off, e, hc⟩ := hrd (by omega)
  refine ⟨b, off, e, fun i hi => ?_⟩
  obtain ⟨A2, c2, bs, h3, h4⟩ := hp i (by omega)
  exact ⟨A2, c2, bs, hc i _ h3, h4⟩
end Go.Proofs.Ytfojkbnoagfdhaa
