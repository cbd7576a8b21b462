/- The walk of the reference's Shift. -/
import Derived.Test.YtfojkbnoagfdhaaSumW4
import Derived.Deep.RegionWith
import Derived.Deep.RegionHeld
namespace Go.Proofs.Ytfojkbnoagfdhaa
open Go.RowKit

theorem Try.tabInfoR : (Try.prog.info? 41).map (·.size) = some 32 := by kernel_rfl
theorem Try.tabStoreR (f : Nat → Nat) (W : World) (c : Array Value) (hc : c.size = 32) : (storeCells ⟨W.heap.size, 0, none⟩ (tabV f).toList 0).run Try.prog (W.alloc (.cells c 41)) = .ok () (W.alloc (.cells (tabV f) 41)) :=
  run_storeCells_new W _ c (tabV f) (by rw [tabV_size]; exact Try.tabInfoR) (by rw [tabV_size]; exact hc) (tabV_one f)

theorem tabV_ones (f : Nat → Nat) : ∀ v ∈ (tabV f).toList, v.oneCell' = true := by
  intro v hv
  simp [tabV] at hv
  obtain ⟨j, _, rfl⟩ := hv
  rfl
theorem rangeAt_tab (f : Nat → Nat) (g : Nat) (t : TypeId) (W : World) (hg : W.heap[g]? = some (.cells (tabV f) t (0, 0))) : W.rangeAt g 0 (tabV f).toList := fun j v hv => by
  rw [Nat.zero_add, cell_of_row W g j (tabV f) _ (0, 0) hg]
  simpa using hv
theorem Try.tabStoreRow (f g : Nat → Nat) (b : Nat) (W : World) (hg : W.heap[b]? = some (.cells (tabV g) 41 (0, 0))) : (storeCells ⟨b, 0, none⟩ (tabV f).toList 0).run Try.prog W = .ok () (W.setRow b (tabV f)) := by
  have := run_storeCells_from (P := Try.prog) b 41 (tabV f).toList 0 (tabV g) W hg (by simp [tabV_size]) (tabV_ones f)
  simpa using this
theorem below_setRow {B b : Nat} {w w' : World} (h : Below B w w') (cs : Array Value) (hb : B ≤ b) : Below B w (w'.setRow b cs) :=
  h.trans ⟨rfl, rfl, rfl, by simp, fun k hk => setRow_other w' b k cs (by omega)⟩
theorem rangeAt_below {w w1 : World} (h : Below w.heap.size w w1) {g : Nat} {vs : List Value} (hr : w.rangeAt g 0 vs) : w1.rangeAt g 0 vs := fun j v hv => cell_below h (hr j v hv)
theorem tabStill {w : World} {g u k : Nat} {vs : List Value} {x : Value} (hr : w.rangeAt g 0 vs) (hx : w.cell? ⟨g, k, none⟩ = some x) (hne : g ≠ u) (i : Nat) (v : Value) :
    (w.setCell ⟨u, i, none⟩ v).rangeAt g 0 vs ∧ (w.setCell ⟨u, i, none⟩ v).cell? ⟨g, k, none⟩ = some x := by
  have hc : ∀ o y, w.cell? ⟨g, o, none⟩ = some y → (w.setCell ⟨u, i, none⟩ v).cell? ⟨g, o, none⟩ = some y := fun o y hy => by
    rw [World.cell?_setCell_other _ _ _ _ (by simp)]; exact hy
  exact ⟨fun j y hy => hc _ _ (hr j y hy), hc _ _ hx⟩

set_option maxHeartbeats 1000000 in
theorem refShift_any (s : Nat) (n : Int) (w : World) (h1 : s < 4294967296) (hn : n ≤ 9223372036854775807) (hn0 : -9223372036854775808 ≤ n) :
    Calls Try.prog 15 #[.int .u32 (s : Int), .int .i64 n] w fun e w' => e = .returned (.int .u32 (shift s n.toNat : Nat)) ∧ Below w.heap.size w w' := by
  go_enter Try.func15, Try.ntmps15
  go_wp2
  go_loopw [6, 7, 8, 9] (fun one i _ _ wr => ∃ (k q : Nat), k ≤ 32 ∧ i = .int .i64 k ∧ one = .int .u32 (q : Int) ∧ q < 4294967296 ∧ Hid (k < 32 → q = 2 ^ k) ∧ wr = w.alloc (.cells (tabP tab0 (fun _ => 0) k) 41)) (fun _ i _ _ _ => 32 - (intOf i).toNat)
  case atStart => exact ⟨0, 1, by omega, rfl, rfl, by omega, fun _ => rfl, by rw [tabP_none]; rfl⟩
  case round =>
    obtain ⟨k, q, hk, rfl, rfl, hq1, hQ, rfl⟩ := hrel
    by_cases hlt : k < 32
    · have hck := tabP_at tab0 (fun _ => 0) k k hlt
      have HT : Hid (tab0 k = stN 8 q) := by show stN 8 (2 ^ k) = _; rw [hQ.out hlt]
      have HQ : Hid (k + 1 < 32 → (q * 2 : Nat) < 4294967296 ∧ q * 2 = 2 ^ (k + 1)) := fun h => by
        rw [hQ.out hlt, ← Nat.pow_succ]
        exact ⟨(Nat.pow_lt_pow_right (by decide) h : 2 ^ (k + 1) < 2 ^ 32), rfl⟩
      clear hQ
      have hd : decide ((k : Int) < 32) = true := by simp; omega
      go_wp2
      go_loop [8, 9] (fun x l => ∃ (m z : Nat), m ≤ 8 ∧ l = .int .i64 m ∧ x = .int .u32 (z : Int) ∧ z < 4294967296 ∧ Hid (stN (8 - m) z = stN 8 q)) (fun _ l => 8 - (intOf l).toNat)
      case atStart => exact ⟨0, q, by omega, rfl, rfl, hq1, rfl⟩
      case round =>
        obtain ⟨m, z, hm, rfl, rfl, hz1, hZ⟩ := hrel
        by_cases hlt' : m < 8
        · go_wp2_with fail
          refine (step_any _ _ hz1).mono ?_
          rintro e w' ⟨rfl, rfl⟩
          go_wp2
          go_round
          case rel =>
            refine ⟨m + 1, _, by omega, by go_num, rfl, st_lt hz1, ?_⟩
            have := hZ.out
            rw [show 8 - m = (8 - (m + 1)) + 1 from by omega] at this
            exact this
          case measure => simp [intOf]; omega
        · obtain rfl : m = 8 := by omega
          go_wp2
          go_roundw
          case rel =>
            refine ⟨k + 1, q * 2 % 4294967296, by omega, by go_num, by go_num, by omega, fun h => ?_, ?_⟩
            · have := HQ.out h; omega
            · have e := hZ.out
              rw [← HT.out] at e
              simp only [Nat.sub_self, stN] at e
              rw [e, tabP_set]
          case measure => simp [intOf]; omega
    · obtain rfl : k = 32 := by omega
      rw [tabP_all, show ((32 : Nat) : Int) = 32 from rfl]
      go_wp2
      go_loopw [0, 1, 10, 11, 30, 31, 32, 33, 34, 35, 36, 37, 38] (fun s' n' _ _ _ _ _ _ _ _ _ _ _ wr => ∃ (f : Nat → Nat) (y : Nat) (m : Int), s' = .int .u32 (y : Int) ∧ n' = .int .i64 m ∧ y < 4294967296 ∧ m ≤ 9223372036854775807 ∧ -9223372036854775808 ≤ m ∧ Hid (∀ j, j < 32 → f j < 4294967296) ∧ Hid (shiftF f y m.toNat = shift s n.toNat) ∧ Hid (wr.heap[w.heap.size]? = some (.cells (tabV f) 41 (0, 0))) ∧ Below w.heap.size w wr) (fun _ n' _ _ _ _ _ _ _ _ _ _ _ _ => (intOf n').toNat)
      case atStart => exact ⟨tab0, s, n, rfl, rfl, h1, hn, hn0, fun j hj => tab0_lt j hj, rfl, heap_alloc_new w _, (Below.refl _ _).alloc (Nat.le_refl _) _⟩
      case round =>
        obtain ⟨f, y, m, rfl, rfl, hy1, hm, hm0, hf, hS, hT, hB⟩ := hrel
        by_cases hpos : 0 < m
        · obtain ⟨p, rfl⟩ := Int.eq_ofNat_of_zero_le (show 0 ≤ m by omega)
          have hS2 := hS.out
          rw [Int.toNat_natCast] at hS2
          rw [shiftF, dif_neg (show ¬ p = 0 by omega)] at hS2
          have hsz := hB.size
          have hBlt : w.heap.size < wr.heap.size := (Array.getElem?_eq_some_iff.1 hT.out).1
          have hst := Try.tabStoreR f
          obtain ⟨wo, hwo⟩ : ∃ wo : World, wo = wr := ⟨_, rfl⟩
          subst hwo
          by_cases h : p % 2 = 1
          · rw [if_pos h] at hS2
            have hb : ((p : Int) % 2 == 1) = true := by rw [show (p : Int) % 2 = ((p % 2 : Nat) : Int) from rfl, h]; rfl
            go_wp2_with (with_reducible refine wpList_load_row rfl 41 _ rfl w.heap.size rfl 41 (tabV f) (0, 0) _ hT.out Try.underlying41 rfl (by rw [tabV_size]; exact Try.tabInfoR) ?_)
            refine (lay_any f y wo hy1 hf.out).mono ?_
            rintro e w1 ⟨rfl, hb1⟩
            have hT1 : Hid (w1.heap[w.heap.size]? = some (.cells (tabV f) 41 (0, 0))) := (hb1.block _ hBlt).trans hT.out
            have hB1 : Below w.heap.size w w1 := hB.trans (hb1.mono hsz)
            have hsz1 := hB1.size
            have hBlt1 : w.heap.size < w1.heap.size := (Array.getElem?_eq_some_iff.1 hT1.out).1
            have hy2 := layT_lt f hf.out y
            have HS := Lib.hid hS2; clear hS2 hS hy1 hb1 hB hT
            generalize layT f y = y2 at *
            go_wp2
            go_loopw [11, 42, 43, 44, 45, 46, 47, 48] (fun i _ _ _ _ _ _ _ wr => ∃ k : Nat, k ≤ 32 ∧ i = .int .i64 k ∧ Hid (wr.heap[w1.heap.size]? = some (.cells (tabP (sq f) (fun _ => 0) k) 41 (0, 0))) ∧ Hid (wr.heap[w.heap.size]? = some (.cells (tabV f) 41 (0, 0))) ∧ Below w.heap.size w wr) (fun i _ _ _ _ _ _ _ _ => 32 - (intOf i).toNat)
            case atStart => exact ⟨0, by omega, rfl, by rw [tabP_none]; exact heap_alloc_new w1 _, by rw [Below.heap_alloc _ _ _ hBlt1]; exact hT1, hB1.alloc hsz1 _⟩
            case round =>
              obtain ⟨k, hk, rfl, hU', hT', hB'⟩ := hrel
              by_cases hlt : k < 32
              · have hread : wr.cell? ⟨w.heap.size, k, none⟩ = some (.int .u32 (f k : Nat)) := by
                  rw [cell_of_row _ _ _ _ _ _ hT'.out, tabV_at _ _ hlt]
                go_wp2_with fail
                have hu41 := Try.underlying41
                have hi41 : (Try.prog.info? 41).map (·.size) = some (tabV f).toList.length := by rw [Array.length_toList, tabV_size]; exact Try.tabInfoR
                have hn41 : (tabV f).toList.length = 32 := by rw [Array.length_toList, tabV_size]
                have ho41 := tabV_ones f
                have hR : wr.rangeAt w.heap.size 0 (tabV f).toList := rangeAt_tab f _ _ _ hT'.out
                have hwr : wr.cell? ⟨w1.heap.size, k, none⟩ = some (.int .u32 ((0 : Nat) : Int)) := by
                  rw [cell_of_row _ _ _ _ _ _ hU'.out, tabP_at _ _ _ _ hlt, if_neg (by omega)]
                have hfr : wr.frozen? ⟨w1.heap.size, k, none⟩ = false := frozen_of_row _ _ _ _ _ hU'.out
                have hUlt : w1.heap.size < wr.heap.size := (Array.getElem?_eq_some_iff.1 hU'.out).1
                have hne : w.heap.size ≠ w1.heap.size := by omega
                clear HS hm hm0 hq1 hQ hb hst
                go_region_held (fun w' => w'.rangeAt w.heap.size 0 (tabV f).toList ∧ w'.cell? ⟨w.heap.size, k, none⟩ = some (.int .u32 (f k : Nat))) ((first | exact ⟨hR, hread⟩ | exact ⟨hR2, hread2⟩ | exact tabStill hR2 hread2 hne _ _)) ((go_at_call 21; go_loud (refine (lay_any f (f k) _ (hf.out k hlt) hf.out).mono ?_; rintro e w2 ⟨rfl, hb2⟩; have hR2 : w2.rangeAt w.heap.size 0 (tabV f).toList := rangeAt_below hb2 hR; have hread2 := cell_below (w := wr.drew) hb2 hread; have hwr2 := cell_below (w := wr.drew) hb2 hwr; have hfr2 : w2.frozen? ⟨w1.heap.size, k, none⟩ = false := (hb2.frozen (p := ⟨w1.heap.size, k, none⟩) hUlt).trans hfr)))
                clear hu41 hi41 hn41 ho41 hR hR2 hread2 hread hwr hfr hwr2 hfr2
                have hsz2 : w.heap.size ≤ wr.heap.size := by omega
                have hU2 : Hid (w2.heap[w1.heap.size]? = some (.cells (tabP (sq f) (fun _ => 0) k) 41 (0, 0))) := (hb2.block _ hUlt).trans hU'.out
                have hT2 : Hid (w2.heap[w.heap.size]? = some (.cells (tabV f) 41 (0, 0))) := (hb2.block w.heap.size (show w.heap.size < wr.heap.size by omega)).trans hT'.out
                have hB2 : Below w.heap.size w w2 := hB'.drew.trans (hb2.mono hsz2)
                go_wp2
                go_roundw
                case rel => exact ⟨k + 1, by omega, by go_num, by rw [← tabP_set]; exact heap_setCell_same _ _ _ _ _ _ hU2.out, (heap_setCell_other w2 ⟨w1.heap.size, k, none⟩ w.heap.size _ hne).trans hT2.out, hB2.setCell hsz1 _⟩
                case measure => simp [intOf]; omega
              · obtain rfl : k = 32 := by omega
                rw [tabP_all] at hU'
                have hst2 : (storeCells ⟨w.heap.size, 0, none⟩ (tabV (sq f)).toList 0).run Try.prog wr = .ok () (wr.setRow w.heap.size (tabV (sq f))) := Try.tabStoreRow _ _ _ _ hT'.out
                have HW : Hid ((wr.setRow w.heap.size (tabV (sq f))).heap[w.heap.size]? = some (.cells (tabV (sq f)) 41 (0, 0))) := setRow_heap wr w.heap.size _ _ _ _ hT'.out
                have HB : Below w.heap.size w (wr.setRow w.heap.size (tabV (sq f))) := below_setRow hB' _ (Nat.le_refl _)
                generalize wr.setRow w.heap.size (tabV (sq f)) = w3 at *
                go_wp2_with (with_reducible refine wpList_load_row rfl 41 _ rfl w1.heap.size rfl 41 (tabV (sq f)) (0, 0) _ hU'.out Try.underlying41 rfl (by rw [tabV_size]; exact Try.tabInfoR) ?_)
                go_roundw
                case rel => exact ⟨sq f, y2, (p / 2 : Nat), rfl, by go_num, hy2, by omega, by omega, fun j _ => sq_lt f hf.out j, HS.out, HW.out, HB⟩
                case measure => simp [intOf]; omega
          · rw [if_neg h] at hS2
            have hpd : decide (0 < p) = true := by simp; omega
            have hb : ((p : Int) % 2 == 1) = false := by rw [show (p : Int) % 2 = ((p % 2 : Nat) : Int) from rfl, show p % 2 = 0 by omega]; rfl
            obtain ⟨w1, hw1⟩ : ∃ w1 : World, w1 = wo := ⟨_, rfl⟩
            subst hw1
            have hT1 := hT
            have hB1 := hB
            have hsz1 := hsz
            have hBlt1 := hBlt
            obtain ⟨y2, hy2e⟩ : ∃ y2 : Nat, y2 = y := ⟨_, rfl⟩
            subst hy2e
            have hy2 := hy1
            have HS := Lib.hid hS2; clear hS2 hS hB hT
            go_wp2
            go_loopw [11, 42, 43, 44, 45, 46, 47, 48] (fun i _ _ _ _ _ _ _ wr => ∃ k : Nat, k ≤ 32 ∧ i = .int .i64 k ∧ Hid (wr.heap[w1.heap.size]? = some (.cells (tabP (sq f) (fun _ => 0) k) 41 (0, 0))) ∧ Hid (wr.heap[w.heap.size]? = some (.cells (tabV f) 41 (0, 0))) ∧ Below w.heap.size w wr) (fun i _ _ _ _ _ _ _ _ => 32 - (intOf i).toNat)
            case atStart => exact ⟨0, by omega, rfl, by rw [tabP_none]; exact heap_alloc_new w1 _, by rw [Below.heap_alloc _ _ _ hBlt1]; exact hT1, hB1.alloc hsz1 _⟩
            case round =>
              obtain ⟨k, hk, rfl, hU', hT', hB'⟩ := hrel
              by_cases hlt : k < 32
              · have hread : wr.cell? ⟨w.heap.size, k, none⟩ = some (.int .u32 (f k : Nat)) := by
                  rw [cell_of_row _ _ _ _ _ _ hT'.out, tabV_at _ _ hlt]
                go_wp2_with fail
                have hu41 := Try.underlying41
                have hi41 : (Try.prog.info? 41).map (·.size) = some (tabV f).toList.length := by rw [Array.length_toList, tabV_size]; exact Try.tabInfoR
                have hn41 : (tabV f).toList.length = 32 := by rw [Array.length_toList, tabV_size]
                have ho41 := tabV_ones f
                have hR : wr.rangeAt w.heap.size 0 (tabV f).toList := rangeAt_tab f _ _ _ hT'.out
                have hwr : wr.cell? ⟨w1.heap.size, k, none⟩ = some (.int .u32 ((0 : Nat) : Int)) := by
                  rw [cell_of_row _ _ _ _ _ _ hU'.out, tabP_at _ _ _ _ hlt, if_neg (by omega)]
                have hfr : wr.frozen? ⟨w1.heap.size, k, none⟩ = false := frozen_of_row _ _ _ _ _ hU'.out
                have hUlt : w1.heap.size < wr.heap.size := (Array.getElem?_eq_some_iff.1 hU'.out).1
                have hne : w.heap.size ≠ w1.heap.size := by omega
                clear HS hm hm0 hq1 hQ hb hst
                go_region_held (fun w' => w'.rangeAt w.heap.size 0 (tabV f).toList ∧ w'.cell? ⟨w.heap.size, k, none⟩ = some (.int .u32 (f k : Nat))) ((first | exact ⟨hR, hread⟩ | exact ⟨hR2, hread2⟩ | exact tabStill hR2 hread2 hne _ _)) ((go_at_call 21; go_loud (refine (lay_any f (f k) _ (hf.out k hlt) hf.out).mono ?_; rintro e w2 ⟨rfl, hb2⟩; have hR2 : w2.rangeAt w.heap.size 0 (tabV f).toList := rangeAt_below hb2 hR; have hread2 := cell_below (w := wr.drew) hb2 hread; have hwr2 := cell_below (w := wr.drew) hb2 hwr; have hfr2 : w2.frozen? ⟨w1.heap.size, k, none⟩ = false := (hb2.frozen (p := ⟨w1.heap.size, k, none⟩) hUlt).trans hfr)))
                clear hu41 hi41 hn41 ho41 hR hR2 hread2 hread hwr hfr hwr2 hfr2
                have hsz2 : w.heap.size ≤ wr.heap.size := by omega
                have hU2 : Hid (w2.heap[w1.heap.size]? = some (.cells (tabP (sq f) (fun _ => 0) k) 41 (0, 0))) := (hb2.block _ hUlt).trans hU'.out
                have hT2 : Hid (w2.heap[w.heap.size]? = some (.cells (tabV f) 41 (0, 0))) := (hb2.block w.heap.size (show w.heap.size < wr.heap.size by omega)).trans hT'.out
                have hB2 : Below w.heap.size w w2 := hB'.drew.trans (hb2.mono hsz2)
                go_wp2
                go_roundw
                case rel => exact ⟨k + 1, by omega, by go_num, by rw [← tabP_set]; exact heap_setCell_same _ _ _ _ _ _ hU2.out, (heap_setCell_other w2 ⟨w1.heap.size, k, none⟩ w.heap.size _ hne).trans hT2.out, hB2.setCell hsz1 _⟩
                case measure => simp [intOf]; omega
              · obtain rfl : k = 32 := by omega
                rw [tabP_all] at hU'
                have hst2 : (storeCells ⟨w.heap.size, 0, none⟩ (tabV (sq f)).toList 0).run Try.prog wr = .ok () (wr.setRow w.heap.size (tabV (sq f))) := Try.tabStoreRow _ _ _ _ hT'.out
                have HW : Hid ((wr.setRow w.heap.size (tabV (sq f))).heap[w.heap.size]? = some (.cells (tabV (sq f)) 41 (0, 0))) := setRow_heap wr w.heap.size _ _ _ _ hT'.out
                have HB : Below w.heap.size w (wr.setRow w.heap.size (tabV (sq f))) := below_setRow hB' _ (Nat.le_refl _)
                generalize wr.setRow w.heap.size (tabV (sq f)) = w3 at *
                go_wp2_with (with_reducible refine wpList_load_row rfl 41 _ rfl w1.heap.size rfl 41 (tabV (sq f)) (0, 0) _ hU'.out Try.underlying41 rfl (by rw [tabV_size]; exact Try.tabInfoR) ?_)
                go_roundw
                case rel => exact ⟨sq f, y2, (p / 2 : Nat), rfl, by go_num, hy2, by omega, by omega, fun j _ => sq_lt f hf.out j, HS.out, HW.out, HB⟩
                case measure => simp [intOf]; omega
        · go_wp2
          go_ret
          refine ⟨ret_int ?_, hB⟩
          have := hS.out
          rw [show m.toNat = 0 from by omega] at this
          rw [← this]; unfold shiftF; simp
end Go.Proofs.Ytfojkbnoagfdhaa
