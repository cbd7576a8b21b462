/- The law FrameReads. -/
import Derived.Test.YtckfghdocaojgaaFrameL1
namespace Go.Proofs.Ytckfghdocaojgaa
open Go.RowKit
attribute [local go_sem ↓] Go.wp_at_zero Go.wp_at_succ
/-- Bytes, whichever, in memory between two blocks' numbers, that may be written. -/
def U8s (w : World) (A : Option Addr) (n lo hi : Nat) : Prop := 0 < n → ∃ g, A = some ⟨g, 0, none⟩ ∧ lo ≤ g ∧ g < hi ∧ ∀ j, j < n → (∃ c : UInt8, w.cell? ⟨g, j, none⟩ = some (.int .u8 (c.toNat : Int))) ∧ w.frozen? ⟨g, j, none⟩ = false
theorem NewB.u8s {w : World} {base : Nat} {e : TypeId} {A : Option Addr} {n c : Nat} {bs : List UInt8} (h : NewB w base e A n c bs) : U8s w A n base w.heap.size := fun hp => by
  obtain ⟨h1, h2, h3⟩ := h
  subst h1
  obtain ⟨g, hA, hb, hg, hc, hf, _⟩ := (h3 hp).blk hp
  exact ⟨g, hA, hb, hg, fun j hj => ⟨⟨_, hc j hj⟩, hf j⟩⟩
theorem U8s.below {w w' : World} {A : Option Addr} {n lo hi : Nat} (h : U8s w A n lo hi) (hb : Below w.heap.size w w') : U8s w' A n lo hi := fun hp => by
  obtain ⟨g, hA, h1, h2, h3⟩ := h hp
  refine ⟨g, hA, h1, h2, fun j hj => ?_⟩
  obtain ⟨⟨c, hc⟩, hf⟩ := h3 j hj
  have hlt : g < w.heap.size := World.block_lt_of_cell? w _ hc
  exact ⟨⟨c, cell_below hb hc⟩, (hb.frozen (p := ⟨g, j, none⟩) hlt).trans hf⟩
theorem U8s.set {w : World} {A : Option Addr} {n lo hi : Nat} (h : U8s w A n lo hi) (a : Addr) (z : Int) (x : UInt8) (hz : z = (x.toNat : Int)) : U8s (w.setCell a (.int .u8 z)) A n lo hi := fun hp => by
  subst hz
  obtain ⟨g, hA, h1, h2, h3⟩ := h hp
  refine ⟨g, hA, h1, h2, fun j hj => ?_⟩
  obtain ⟨⟨c, hc⟩, hf⟩ := h3 j hj
  refine ⟨?_, by rw [World.frozen?_setCell]; exact hf⟩
  by_cases he : a = ⟨g, j, none⟩
  · subst he
    exact ⟨x, World.cell?_setCell_same _ _ _ hc⟩
  · exact ⟨c, by rw [World.cell?_setCell_other _ _ _ _ he]; exact hc⟩
theorem beq_neq (x : Int) : (x != x) = false := by simp
set_option maxHeartbeats 4000000 in
set_option maxRecDepth 20000 in
theorem frameReads_walk (A : Option Addr) (cap : Nat) (bs : List UInt8) (w : World) (hr : RdB w A bs) (hl : bs.length ≤ 140737488351232) (hcap : bs.length ≤ cap) :
    Calls Try.prog 4 #[.slice A bs.length cap] w fun e w' => e = .returned (.bool true) ∧ Below w.heap.size w w' := by
  have HR := Lib.hid hr; clear hr
  have HBIG := Lib.hid (show bs.length ≤ 140737488355328 by omega)
  have HCP := Lib.hid hcap
  go_enter Try.func4, Try.ntmps4
  go_wp2_with fail
  refine (alive_any w).mono ?_
  rintro e w1 ⟨rfl, hB1⟩
  have HB1 := Lib.hid hB1
  go_wp2_with fail
  refine (copy_any A _ cap bs w1 (HR.out.below hB1) rfl HBIG.out).mono ?_
  rintro e w2 ⟨A2, c2, rfl, hO2, hB2⟩
  have HC2 := Lib.hid hO2.cap
  have HO2 := Lib.hid hO2.rdA; clear hO2
  have HB2 := Lib.hid (belowT HB1.out hB2); clear hB1 hB2 HB1
  go_wp2_with fail
  refine (decode_any A2 c2 bs w2 HO2.out HC2.out HBIG.out).mono ?_
  rintro e w3 ⟨⟨A3, n3, c3, rfl, hn3⟩, hB3⟩
  have HB3 := Lib.hid (belowT HB2.out hB3)
  have HO3 := Lib.hid (HO2.out.below hB3)
  obtain ⟨rfl, hr3, _⟩ := hn3
  have HN3 := Lib.hid hr3
  clear hB3 hr3 HB2 HO2
  go_wp2_with fail
  have hg3 := heap_alloc_new w3 (.cells #[.int .i64 ((decF bs).k : Int), .slice A3 (decF bs).body.length c3] 29 (0, 0))
  have ha3 := below_alloc w3 (.cells #[.int .i64 ((decF bs).k : Int), .slice A3 (decF bs).body.length c3] 29 (0, 0))
  generalize w3.alloc (.cells #[.int .i64 ((decF bs).k : Int), .slice A3 (decF bs).body.length c3] 29 (0, 0)) = x3 at *
  have HX3 := Lib.hid (belowT HB3.out ha3)
  have HN3 := Lib.hid (HN3.out.below ha3)
  have HO3 := Lib.hid (HO3.out.below ha3)
  have HF0 := Lib.hid (show x3.cell? ⟨w3.heap.size, 0, none⟩ = some (.int .i64 ((decF bs).k : Int)) by rw [cell_of_row _ _ _ _ _ _ hg3]; rfl)
  have HF1 := Lib.hid (show x3.cell? ⟨w3.heap.size, 1, none⟩ = some (.slice A3 (decF bs).body.length c3) by rw [cell_of_row _ _ _ _ _ _ hg3]; rfl)
  clear hg3 ha3 HB3
  refine (refDecode_any A cap bs x3 (HR.out.below HX3.out) HCP.out HBIG.out).mono ?_
  rintro e w4 ⟨⟨A4, n4, c4, rfl, hn4⟩, hB4⟩
  obtain ⟨rfl, hr4, _⟩ := hn4
  have HB4 := Lib.hid (belowT HX3.out hB4)
  have HN3 := Lib.hid (HN3.out.below hB4)
  have HO3 := Lib.hid (HO3.out.below hB4)
  have hf0 := cell_below hB4 HF0.out
  have HF1 := Lib.hid (cell_below hB4 HF1.out)
  have hf1 := HF1.out
  have HN4 := Lib.hid hr4
  clear hB4 hr4 HX3 HF0
  go_wp2_with fail
  refine (same_any A3 A4 _ _ c3 c4 _ _ w4 HN3.out HN4.out rfl rfl).mono ?_
  rintro e w5 ⟨rfl, rfl⟩
  rw [decide_eq_true rfl]
  clear hf0 hf1
  go_wp2_with fail
  refine (split_any A2 c2 bs w4 HO3.out HC2.out HBIG.out).mono ?_
  rintro e w5 ⟨⟨A5, n5, c5, A6, n6, c6, rfl, hn5, hn6⟩, hB5⟩
  have HU5 := Lib.hid hn5.u8s
  have HU6 := Lib.hid hn6.u8s
  obtain ⟨rfl, hr5, _⟩ := hn5
  obtain ⟨rfl, hr6, _⟩ := hn6
  have HN5 := Lib.hid hr5
  have HN6 := Lib.hid hr6
  have HB5 := Lib.hid hB5
  clear hr5 hr6 hB5
  go_wp2_with fail
  have hg5 := heap_alloc_new w5 (.cells #[.int .i64 ((splitF bs).k : Int), .slice A5 (splitF bs).body.length c5] 29 (0, 0))
  have ha5 := below_alloc w5 (.cells #[.int .i64 ((splitF bs).k : Int), .slice A5 (splitF bs).body.length c5] 29 (0, 0))
  generalize w5.alloc (.cells #[.int .i64 ((splitF bs).k : Int), .slice A5 (splitF bs).body.length c5] 29 (0, 0)) = x5 at *
  have HX5 := Lib.hid (belowT HB5.out ha5)
  have HN5 := Lib.hid (HN5.out.below ha5)
  have HN6 := Lib.hid (HN6.out.below ha5)
  have HU5 := Lib.hid (HU5.out.below ha5)
  have HU6 := Lib.hid (HU6.out.below ha5)
  have HG0 := Lib.hid (show x5.cell? ⟨w5.heap.size, 0, none⟩ = some (.int .i64 ((splitF bs).k : Int)) by rw [cell_of_row _ _ _ _ _ _ hg5]; rfl)
  have HG1 := Lib.hid (show x5.cell? ⟨w5.heap.size, 1, none⟩ = some (.slice A5 (splitF bs).body.length c5) by rw [cell_of_row _ _ _ _ _ _ hg5]; rfl)
  clear hg5 ha5 HB5
  refine (refSplit_any A cap bs x5 (HR.out.below (belowT HB4.out HX5.out)) HCP.out HBIG.out).mono ?_
  rintro e w6 ⟨⟨A7, n7, c7, A8, n8, c8, rfl, hn7, hn8⟩, hB6⟩
  obtain ⟨rfl, hr7, _⟩ := hn7
  obtain ⟨rfl, hr8, _⟩ := hn8
  have HB6 := Lib.hid (belowT HX5.out hB6)
  have HN5 := Lib.hid (HN5.out.below hB6)
  have HN6 := Lib.hid (HN6.out.below hB6)
  have HU5 := Lib.hid (HU5.out.below hB6)
  have HU6 := Lib.hid (HU6.out.below hB6)
  have hf0 := cell_below hB6 HG0.out
  have HG1 := Lib.hid (cell_below hB6 HG1.out)
  have hf1 := HG1.out
  clear HG0 HX5 hB6
  go_wp2_with fail
  refine (same_any A5 A7 _ _ c5 c7 _ _ w6 HN5.out hr7 rfl rfl).mono ?_
  rintro e w7 ⟨rfl, rfl⟩
  rw [decide_eq_true rfl]
  go_wp2_with fail
  refine (same_any A6 A8 _ _ c6 c8 _ _ w6 HN6.out hr8 rfl rfl).mono ?_
  rintro e w7 ⟨rfl, rfl⟩
  rw [decide_eq_true rfl]
  have hl5 := HN5.out.1
  have hl6 := HN6.out.1
  clear hr7 hr8 HN5 HN6 hf0
  go_wp2_with fail
  obtain ⟨L5, hL5⟩ : ∃ L5, L5 = (splitF bs).body.length := ⟨_, rfl⟩
  obtain ⟨L6, hL6⟩ : ∃ L6, L6 = (splitF bs).rest.length := ⟨_, rfl⟩
  rw [← hL5] at HU5 HG1 hl5 ⊢
  rw [← hL6] at HU6 hl6 ⊢
  clear hL5 hL6 hf1
  go_loopw [15, 86, 87, 88, 89, 90, 91, 92, 93, 94, 95, 96, 97, 98, 99] (fun _ i _ _ _ _ _ _ _ _ _ _ _ _ _ wr => ∃ k : Nat, k ≤ L5 ∧ i = .int .i64 k ∧ Hid (U8s wr A5 L5 w4.heap.size w5.heap.size) ∧ Hid (U8s wr A6 L6 w4.heap.size w5.heap.size) ∧ Hid (Below w4.heap.size w4 wr) ∧ Hid (wr.cell? ⟨w5.heap.size, 1, none⟩ = some (.slice A5 L5 c5))) (fun _ i _ _ _ _ _ _ _ _ _ _ _ _ _ _ => L5 - (intOf i).toNat)
  case atStart => exact ⟨0, by omega, rfl, HU5.out, HU6.out, HB6.out, HG1.out⟩
  case round =>
    obtain ⟨k, hk, rfl, HV5, HV6, HB, HG⟩ := hrel
    by_cases hlt : k < L5
    · obtain ⟨g, rfl, hlo, hhi, hcs⟩ := HV5.out (by omega)
      obtain ⟨⟨c, hc⟩, hf⟩ := hcs k hlt
      have hg := HG.out
      have hi1 : (0 : Int) ≤ (k : Int) := by omega
      clear hcs
      go_wp2
      go_region
      go_wp2
      go_roundw
      case rel =>
        have hz : ((c.toNat : Int) + 1) % 256 = ((UInt8.ofNat (c.toNat + 1)).toNat : Int) := by rw [u8lit]; push_cast; rfl
        exact ⟨k + 1, by omega, by go_num, HV5.out.set ⟨g, k, none⟩ _ _ hz, HV6.out.set ⟨g, k, none⟩ _ _ hz, (HB.out.setCell hlo _).drew, (World.cell?_setCell_other _ _ _ _ (by simp)).trans HG.out⟩
      case measure => simp [intOf]; omega
    · obtain rfl : k = L5 := by omega
      go_wp2_with fail
      go_loopw [16, 102, 103, 104, 105, 106, 107, 108, 109, 110, 111, 112, 113] (fun _ i _ _ _ _ _ _ _ _ _ _ _ wq => ∃ k : Nat, k ≤ L6 ∧ i = .int .i64 k ∧ Hid (U8s wq A6 L6 w4.heap.size w5.heap.size) ∧ Hid (Below w4.heap.size w4 wq)) (fun _ i _ _ _ _ _ _ _ _ _ _ _ _ => L6 - (intOf i).toNat)
      case atStart => exact ⟨0, by omega, rfl, HV6.out, HB.out⟩
      case round =>
        obtain ⟨j, hj, rfl, HV6, HB⟩ := hrel
        by_cases hlt : j < L6
        · obtain ⟨g, rfl, hlo, hhi, hcs⟩ := HV6.out (by omega)
          obtain ⟨⟨c, hc⟩, hf⟩ := hcs j hlt
          have hi1 : (0 : Int) ≤ (j : Int) := by omega
          clear hcs
          go_wp2
          go_roundw
          case rel =>
            have hz : ((c.toNat : Int) + 1) % 256 = ((UInt8.ofNat (c.toNat + 1)).toNat : Int) := by rw [u8lit]; push_cast; rfl
            exact ⟨j + 1, by omega, by go_num, HV6.out.set ⟨g, j, none⟩ _ _ hz, HB.out.setCell hlo _⟩
          case measure => simp [intOf]; omega
        · obtain rfl : j = L6 := by omega
          have HBT := Lib.hid (belowT HB4.out HB.out)
          have hf1 := cell_below HB.out HF1.out
          have hq2 := HO3.out.below HB.out
          have hq3 := HN3.out.below HB.out
          have hq4 := HN4.out.below HB.out
          have HQ3 := Lib.hid hq3
          have HQ4 := Lib.hid hq4
          have HQ2 := Lib.hid hq2
          clear hq2 hq3 hq4
          go_wp2_with fail
          refine (same_any A2 A _ _ c2 cap _ _ wr HQ2.out (HR.out.below HBT.out) rfl rfl).mono ?_
          rintro e w7 ⟨rfl, rfl⟩
          rw [decide_eq_true rfl]
          go_wp2_with fail
          refine (same_any A3 A4 _ _ c3 c4 _ _ wr HQ3.out HQ4.out rfl rfl).mono ?_
          rintro e w7 ⟨rfl, rfl⟩
          rw [decide_eq_true rfl]
          go_wp2
          go_ret
          exact ⟨rfl, HBT.out⟩
theorem frameReads_front (x : Option Addr) (n cap : Nat) (W : World) (hR : rSlice 1 1 (rInt .u8) W [.slice x n cap]) :
    Calls Try.prog 4 #[.slice x n cap] W fun e w' => e = .returned (.bool true) ∧ Below W.heap.size W w' := by
  obtain ⟨A, c, bs, e, h1, _, h2, h3⟩ := rSlice_bytes hR
  simp only [Value.slice.injEq] at e
  obtain ⟨rfl, rfl, rfl⟩ := e
  exact frameReads_walk x cap bs W h3 h2 h1
end Go.Proofs.Ytckfghdocaojgaa
