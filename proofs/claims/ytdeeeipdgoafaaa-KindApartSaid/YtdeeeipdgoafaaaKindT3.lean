/- The walk of a table's Add. -/
import Derived.Test.YtdeeeipdgoafaaaKindT2
import Derived.Deep.RegionLaw
namespace Go.Proofs.Ytdeeeipdgoafaaa
open Go.RowKit
attribute [local go_sem ↓] Go.wp_at_zero Go.wp_at_succ
theorem Try.slK : SlT Try.prog 41 24 (.agg #[.int .i64 0, .slice none 0 0]) 2 32 := ⟨Try.underlying41, by kernel_rfl, rfl, by decide⟩
/-- What a table answers to a kind that may not be put into it. -/
def addErr (ks : List Kd) (S : Int) (ps : List Int) : Int := if chk S ps ≠ 0 then chk S ps else if 64 ≤ ks.length then 7 else 0
set_option maxHeartbeats 4000000 in
set_option maxRecDepth 20000 in
theorem tadd_bad {w : World} {g lo : Nat} {A : Option Addr} {c : Nat} {ks : List Kd} {vs : List Value} (h : Tab w g lo A c ks vs) (S : Int) (A' : Option Addr) (cap : Nat) (ps : List Int) (hS : -9223372036854775808 ≤ S ∧ S ≤ 9223372036854775807) (hr : RdI w A' ps) (hb : addErr ks S ps ≠ 0) :
    Calls Try.prog 18 #[.pointer (some ⟨g, 0, none⟩), .agg #[.int .i64 S, .slice A' ps.length cap]] w fun e w' => e = .returned (.tuple #[.int .i64 0, .int .i64 (addErr ks S ps)]) ∧ Below w.heap.size w w' := by
  have hal := below_alloc w (.cells #[.int .i64 S, .slice A' ps.length cap] 24 (0, 0))
  have hg0 := heap_alloc_new w (.cells #[.int .i64 S, .slice A' ps.length cap] 24 (0, 0))
  have HR := Lib.hid (hr.below hal); clear hr
  have HT := Lib.hid (h.below hal); clear h
  have HS := Lib.hid hS; clear hS
  by_cases h1 : chk S ps = 0
  · have h64 : 64 ≤ ks.length := by
      unfold addErr at hb
      rw [if_neg (by omega)] at hb
      by_cases h : 64 ≤ ks.length
      · exact h
      · rw [if_neg h] at hb; exact absurd rfl hb
    have HE := Lib.hid (show addErr ks S ps = 7 by unfold addErr; rw [if_neg (by omega), if_pos h64])
    have H1 := Lib.hid h1
    have hlk : ks.length ≤ 9223372036854775807 := by
      rcases HT.out.own.2 with ⟨_, h0⟩ | ⟨_, _, _, _, _, _, h3, h4, _⟩
      · omega
      · simp only [maxLen] at h4; omega
    rw [HE.out]
    clear h1 hb
    go_enter Try.func18, Try.ntmps18
    obtain ⟨hz0, hz1⟩ := cells2 hg0
    go_wp2_with fail
    generalize w.alloc (.cells #[.int .i64 S, .slice A' ps.length cap] 24 (0, 0)) = w1 at *
    have HAL := Lib.hid hal; clear hal hg0 hz0 hz1
    refine (check_any S A' cap ps w1 HS.out HR.out).mono ?_
    rintro e w2 ⟨rfl, hB2⟩
    rw [H1.out]
    have hc := cell_below hB2 HT.out.cell
    have HB2 := Lib.hid (belowT HAL.out hB2); clear hB2
    go_wp2
    go_ret2
    exact ⟨rfl, HB2.out⟩
  · have HE := Lib.hid (show addErr ks S ps = chk S ps by unfold addErr; rw [if_pos h1])
    rw [HE.out]
    have hne : (chk S ps != 0) = true := by simpa using h1
    clear h1 hb HE
    generalize hck : chk S ps = ck at *
    have HCK := Lib.hid hck; clear hck
    go_enter Try.func18, Try.ntmps18
    obtain ⟨hz0, hz1⟩ := cells2 hg0
    go_wp2_with fail
    generalize w.alloc (.cells #[.int .i64 S, .slice A' ps.length cap] 24 (0, 0)) = w1 at *
    have HAL := Lib.hid hal; clear hal hg0 hz0 hz1
    refine (check_any S A' cap ps w1 HS.out HR.out).mono ?_
    rintro e w2 ⟨rfl, hB2⟩
    rw [HCK.out]
    have HB2 := Lib.hid (belowT HAL.out hB2); clear hB2
    go_wp2
    go_ret2
    exact ⟨rfl, HB2.out⟩
theorem tabF_int {w : World} {g lo : Nat} {A : Option Addr} {c : Nat} {ks : List Kd} {vs : List Value} (h : Tab w g lo A c ks vs) {b : Nat} {cs : Array Value} {fr : Nat × Nat} (hb : w.heap[b]? = some (.cells cs 3 fr)) : ¬ TabF g A b := by
  rintro (rfl | h2)
  · have := h.obj
    rw [hb] at this
    simp at this
  · rw [← ownBlock_slice A ks.length c] at h2
    obtain ⟨cur, h3⟩ := own_block h.own h2
    rw [hb] at h3
    simp at h3
theorem tab_added {w2 x w5 : World} {g lo : Nat} {A : Option Addr} {c : Nat} {ks : List Kd} {vs : List Value} (hT : Tab w2 g lo A c ks vs) (hb : Below w2.heap.size w2 x) (S : Int) (A3 : Option Addr) (c3 : Nat) (ps : List Int) (hS : -9223372036854775808 ≤ S ∧ S ≤ 9223372036854775807) (hr3 : RdI x A3 ps) (ht3 : 0 < ps.length → TypB x lo 3 A3) (A5 : Option Addr) (c5 : Nat)
    (hown5 : w5.ownsRow (g + 1) 24 2 (.slice A5 (ks.length + 1) c5) (ks.length + 1) (vs ++ [.int .i64 S, .slice A3 ps.length c3])) (hg5 : x.grownBy w5 (Value.slice A ks.length c).ownBlock) :
    Tab (w5.setCell ⟨g, 0, none⟩ (.slice A5 (ks.length + 1) c5)) g lo A5 c5 (ks ++ [(S, ps)]) (vs ++ [.int .i64 S, .slice A3 ps.length c3]) ∧ KeptBut (TabF g A) w2 (w5.setCell ⟨g, 0, none⟩ (.slice A5 (ks.length + 1) c5)) := by
  have hX := hT.below hb
  have k1 : KeptBut (TabF g A) w2 x := kept_of_below hb
  have k2 : KeptBut (TabF g A) x w5 := (kept_of_grown hg5).mono (fun k _ h => .inr (by rw [← ownBlock_slice A ks.length c]; exact h.symm))
  have k3 : KeptBut (TabF g A) w5 (w5.setCell ⟨g, 0, none⟩ (.slice A5 (ks.length + 1) c5)) := (kept_setCell w5 ⟨g, 0, none⟩ _).mono (fun k _ h => .inl h)
  have k23 : KeptBut (TabF g A) x (w5.setCell ⟨g, 0, none⟩ (.slice A5 (ks.length + 1) c5)) := k2.trans k3 (fun _ _ h => h)
  have kk : KeptBut (TabF g A) w2 (w5.setCell ⟨g, 0, none⟩ (.slice A5 (ks.length + 1) c5)) := k1.trans k23 (fun _ _ h => h)
  obtain ⟨e1, e2⟩ := hT.els.kept hT.apt kk (fun b cs fr _ h => tabF_int hT h)
  have hng : (some g : Option Nat) ≠ (Value.slice A ks.length c).ownBlock := fun h => by
    have := hX.own.lt g h.symm; omega
  have hgo : w5.heap[g]? = some (.cells #[.slice A ks.length c] 63 (0, 0)) := (hg5.block g hX.lt hng).trans hX.obj
  have hA3 : 0 < ps.length → ∀ b off sp, A3 = some ⟨b, off, sp⟩ → ¬ TabF g A b := fun hp b off sp hA => by
    obtain ⟨_, cs, fr, h, _⟩ := ht3 hp b off sp hA
    exact tabF_int hX h
  have hr5 := k23.rdI hr3 (fun b off sp hA hp => hA3 hp b off sp hA)
  refine ⟨⟨?_, ?_, e1.snoc S A3 c3 ps hr5 hS, ?_, hT.lo_⟩, kk⟩
  · have := heap_setCell_same w5 g 0 _ _ (.slice A5 (ks.length + 1) c5) hgo
    rw [List.length_append]
    exact this
  · rw [List.length_append]
    exact ownsRow_setCell_below hown5 (Nat.lt_succ_self g) _
  · intro i A' n' c' hi hn
    rcases Nat.lt_or_ge i vs.length with hl | hl
    · rw [List.getElem?_append_left hl] at hi
      exact e2 i A' n' c' hi hn
    · rw [List.getElem?_append_right hl] at hi
      rcases hj : i - vs.length with _ | _ | j
      · rw [hj] at hi; simp at hi
      · rw [hj] at hi
        simp only [Nat.zero_add, List.getElem?_cons_succ, List.getElem?_cons_zero, Option.some.injEq, Value.slice.injEq] at hi
        obtain ⟨rfl, rfl, _⟩ := hi
        exact (ht3 hn).kept k23 (hA3 hn)
      · rw [hj] at hi; simp at hi
set_option maxHeartbeats 8000000 in
set_option maxRecDepth 20000 in
theorem tadd_ok {w : World} {g lo : Nat} {A : Option Addr} {c : Nat} {ks : List Kd} {vs : List Value} (h : Tab w g lo A c ks vs) (S : Int) (A' : Option Addr) (cap : Nat) (ps : List Int) (hS : -9223372036854775808 ≤ S ∧ S ≤ 9223372036854775807) (hr : RdI w A' ps) (hb : addErr ks S ps = 0) (hlo : lo ≤ w.heap.size) :
    Calls Try.prog 18 #[.pointer (some ⟨g, 0, none⟩), .agg #[.int .i64 S, .slice A' ps.length cap]] w fun e w' => ∃ A2 c2 vs2, e = .returned (.tuple #[.int .i64 (ks.length : Int), .int .i64 0]) ∧ Tab w' g lo A2 c2 (ks ++ [(S, ps)]) vs2 ∧ KeptBut (TabF g A) w w' ∧ (∀ b, A2.map (·.block) = some b → A.map (·.block) = some b ∨ w.heap.size ≤ b) := by
  have hck : chk S ps = 0 := by
    unfold addErr at hb
    by_cases h1 : chk S ps = 0
    · exact h1
    · rw [if_pos h1] at hb; exact absurd hb h1
  have h64 : ¬ 64 ≤ ks.length := by
    intro h2
    unfold addErr at hb
    rw [if_neg (by omega), if_pos h2] at hb
    exact absurd hb (by decide)
  have hpl : ps.length ≤ 16 := (chk_zero hck).2.2.1
  have hal := below_alloc w (.cells #[.int .i64 S, .slice A' ps.length cap] 24 (0, 0))
  have hg0 := heap_alloc_new w (.cells #[.int .i64 S, .slice A' ps.length cap] 24 (0, 0))
  have HR := Lib.hid (hr.below hal); clear hr
  have HT := Lib.hid (h.below hal)
  have HTW := Lib.hid h; clear h
  have HS := Lib.hid hS; clear hS
  have HLO := Lib.hid hlo; clear hlo
  have HCK := Lib.hid hck; clear hck hb
  go_enter Try.func18, Try.ntmps18
  obtain ⟨hz0, hz1⟩ := cells2 hg0
  go_wp2_with fail
  have hsz : (w.alloc (.cells #[.int .i64 S, .slice A' ps.length cap] 24 (0, 0))).heap.size = w.heap.size + 1 := by simp [go_sem]
  generalize w.alloc (.cells #[.int .i64 S, .slice A' ps.length cap] 24 (0, 0)) = w1 at *
  have HAL := Lib.hid hal; clear hal hg0
  refine (check_any S A' cap ps w1 HS.out HR.out).mono ?_
  rintro e w2 ⟨rfl, hB2⟩
  rw [HCK.out]
  have HT2 := Lib.hid (HT.out.below hB2)
  have HR2 := Lib.hid (HR.out.below hB2)
  have hc := HT2.out.cell
  have hk0 := cell_below hB2 hz0
  have hk1 := cell_below hB2 hz1
  have hs2 : w.heap.size + 1 ≤ w2.heap.size := by have := hB2.size; omega
  have HB2 := Lib.hid (belowT HAL.out hB2); clear hB2 hz0 hz1 hsz
  have hgl := HT2.out.lt
  have hzf := fun j => frozen_of_row w2 g j _ _ HT2.out.obj
  have HGL := Lib.hid hgl
  have hlk := h64
  have HC := Lib.hid hc
  have HK0 := Lib.hid hk0
  have HK1 := Lib.hid hk1
  have HS2 := Lib.hid hs2; clear hs2
  go_wp2_with fail
  go_region_law (first
    | (go_simp; go_at_call 35; refine (twin_any S A' cap ps _ (by exact HR2.out) (by omega)).mono ?_; rintro e w3 ⟨A3, c3, rfl, hown3, hr3, hb3⟩; have hb3 : Below w2.heap.size w2 w3 := belowT (Below.drew (Below.refl _ _)) hb3; have hc3 : w3.cell? ⟨g, 0, none⟩ = some (.slice A ks.length c) := cell_below hb3 HC.out; have hg3 : g < w3.heap.size := World.block_lt_of_cell? w3 _ hc3; have hk03 := cell_below hb3 HK0.out; have hk13 := cell_below hb3 HK1.out; obtain ⟨row, hrow⟩ : ∃ row : List Value, row = [.int .i64 S, .slice A3 ps.length c3] := ⟨_, rfl⟩; have hbx := belowT hb3 (below_alloc w3 (.cells #[.int .i64 S, .slice A3 ps.length c3] 24 (0, 0))); have HOW := Lib.hid (own_below HT2.out.own hbx); have HNR := Lib.hid (show RdL (w3.alloc (.cells #[.int .i64 S, .slice A3 ps.length c3] 24 (0, 0))) (some ⟨w3.heap.size, 0, none⟩) row by (rw [hrow]; exact RdL.newC w3 [.int .i64 S, .slice A3 ps.length c3] _ _)); have HRL1 := Lib.hid (show row.length = 1 * 2 by (rw [hrow]; rfl)); have HR1 := Lib.hid (show ∀ u ∈ row, u.oneCell' = true by (rw [hrow]; intro u hu; simp at hu; rcases hu with rfl | rfl <;> rfl)); have HBX := Lib.hid (show Below (g + 1) w2 _ from hbx.mono HGL.out); have HBA := Lib.hid hbx; have HSX := Lib.hid hbx.size; have HOB := Lib.hid ((hbx.block g HGL.out).trans HT2.out.obj); have HNG := Lib.hid (show some g ≠ (Value.slice A ks.length c).ownBlock from fun h => by (have := HT2.out.own.lt g h.symm; omega)); have HROW := Lib.hid hrow; have HO3 := Lib.hid hown3; have HR3 := Lib.hid hr3; have HB3 := Lib.hid hb3; clear hrow hown3 hr3 hb3 hbx)
    | (go_loud (refine step_appV w2 (g + 1) Try.slK (by rfl) (.tmp 24) (.tmp 27) (by rfl) _ ks.length vs (by rfl) HOW.out (some ⟨w3.heap.size, 0, none⟩) 1 1 row (by rfl) HNR.out HRL1.out HR1.out (ks.length + 1) rfl (vs ++ row) rfl (by omega) (by omega) HBX.out HGL.out ?_); intro A5 c5 w5 hown5 hr5 hB5 hg5 hat5; have HO5 := Lib.hid hown5; have HB5 := Lib.hid hB5; have HG5 := Lib.hid (show World.grownBy _ w5 (Value.slice A ks.length c).ownBlock from hg5); have HA5 := Lib.hid (show (Value.slice A5 (ks.length + 1) c5).ownBlock = (Value.slice A ks.length c).ownBlock ∨ (Value.slice A5 (ks.length + 1) c5).ownBlock = some (w3.heap.size + 1) by simpa [go_sem] using hat5); have hgo5 := (HG5.out.block g (Nat.lt_of_lt_of_le HGL.out HSX.out) HNG.out).trans HOB.out; have hy0 : w5.cell? ⟨g, 0, none⟩ = some (.slice A ks.length c) := (cell_of_row _ _ _ _ _ _ hgo5).trans rfl; have hyf := fun j => frozen_of_row w5 g j _ _ hgo5; have HGO5 := Lib.hid hgo5; clear hown5 hr5 hB5 hg5 hat5 hgo5))
  all_goals (
    obtain ⟨hct, hkt⟩ := tab_added HT2.out HBA.out S A3 c3 ps HS.out (HR3.out.below (below_alloc _ _)) (fun _ => ((own_typ HO3.out).kept (F := fun _ => False) (kept_of_below (below_alloc _ _)) (fun _ _ _ _ h => h)).le (by have := HLO.out; have := HB2.out.size; simp [go_sem]; omega)) A5 c5 (by have := HO5.out; rwa [HROW.out] at this) HG5.out
    have HCT := Lib.hid hct
    have HKT := Lib.hid hkt
    have hc9 := hct.cell
    rw [List.length_append] at hc9
    clear hct hkt
    go_wp2
    go_ret2
    have hown : ∀ b, A5.map (·.block) = some b → A.map (·.block) = some b ∨ w.heap.size ≤ b := fun b hb => by
      rw [← ownBlock_slice A5 (ks.length + 1) c5] at hb
      rw [← ownBlock_slice A ks.length c]
      rcases HA5.out with h | h
      · exact .inl (h ▸ hb)
      · refine .inr ?_
        rw [h] at hb
        have h1 := HB2.out.size
        have h2 := HB3.out.size
        simp at hb
        omega
    exact ⟨A5, c5, _, by first | rfl | simp, HCT.out, (kept_of_below HB2.out).trans HKT.out (fun _ _ h => h), hown⟩)
end Go.Proofs.Ytdeeeipdgoafaaa
