/- The law KindApart. -/
import Derived.Test.YtdeeeipdgoafaaaKindT5
namespace Go.Proofs.Ytdeeeipdgoafaaa
open Go.RowKit
attribute [local go_sem ↓] Go.wp_at_zero Go.wp_at_succ
/-- Ints, whichever, between two blocks' numbers, that may be written. -/
def I64s (w : World) (A : Option Addr) (n lo hi : Nat) : Prop := 0 < n → ∃ g off, A = some ⟨g, off, none⟩ ∧ lo ≤ g ∧ g < hi ∧ ∀ j, j < n → (∃ z : Int, w.cell? ⟨g, off + j, none⟩ = some (.int .i64 z)) ∧ w.frozen? ⟨g, off + j, none⟩ = false
theorem rdI_i64s {w : World} {A : Option Addr} {zs : List Int} {lo hi : Nat} (h : RdI w A zs) (ht : 0 < zs.length → TypB w lo 3 A) (hi_ : w.heap.size ≤ hi) : I64s w A zs.length lo hi := fun hp => by
  obtain ⟨b, off, rfl, hb, hc⟩ := h.at hp
  obtain ⟨h1, cs, fr, h2, rfl⟩ := ht hp b off none rfl
  exact ⟨b, off, rfl, h1, by omega, fun j hj => ⟨⟨_, hc j hj⟩, frozen_of_row _ _ _ _ _ h2⟩⟩
theorem I64s.below {w w' : World} {A : Option Addr} {n lo hi : Nat} (h : I64s w A n lo hi) (hb : Below w.heap.size w w') : I64s w' A n lo hi := fun hp => by
  obtain ⟨g, off, hA, h1, h2, h3⟩ := h hp
  refine ⟨g, off, hA, h1, h2, fun j hj => ?_⟩
  obtain ⟨⟨z, hz⟩, hf⟩ := h3 j hj
  have hlt : g < w.heap.size := World.block_lt_of_cell? w _ hz
  exact ⟨⟨z, cell_below hb hz⟩, (hb.frozen (p := ⟨g, off + j, none⟩) hlt).trans hf⟩
theorem I64s.set {w : World} {A : Option Addr} {n lo hi : Nat} (h : I64s w A n lo hi) (a : Addr) (z : Int) : I64s (w.setCell a (.int .i64 z)) A n lo hi := fun hp => by
  obtain ⟨g, off, hA, h1, h2, h3⟩ := h hp
  refine ⟨g, off, hA, h1, h2, fun j hj => ?_⟩
  obtain ⟨⟨c, hc⟩, hf⟩ := h3 j hj
  refine ⟨?_, by rw [World.frozen?_setCell]; exact hf⟩
  by_cases he : a = ⟨g, off + j, none⟩
  · subst he
    exact ⟨z, World.cell?_setCell_same _ _ _ hc⟩
  · exact ⟨c, by rw [World.cell?_setCell_other _ _ _ _ he]; exact hc⟩
theorem own_blk0 {w : World} {base n size c : Nat} {e : TypeId} {A : Option Addr} {xs : List Value} (h : w.ownsRow base e size (.slice A n c) n xs) {b : Nat} (hb : A.map (·.block) = some b) : base ≤ b ∧ b < w.heap.size := h.lt b (by rw [ownBlock_slice]; exact hb)
theorem own_row {w : World} {base n size c b off : Nat} {e : TypeId} {sp} {xs : List Value} (h : w.ownsRow base e size (.slice (some ⟨b, off, sp⟩) n c) n xs) : ∃ cap cur, off = 0 ∧ base ≤ b ∧ w.heap[b]? = some (.cells cur e (0, 0)) ∧ n ≤ cap := by
  rcases h.2 with ⟨hv, _⟩ | ⟨g, cap, cur, hv, hb, hh, hn, _⟩
  · cases hv
  · simp only [Value.slice.injEq, Option.some.injEq, Addr.mk.injEq] at hv
    obtain ⟨⟨rfl, rfl, _⟩, _, rfl⟩ := hv
    exact ⟨_, cur, rfl, hb, hh, hn⟩
theorem own_blk' {w : World} {base n size c b off : Nat} {e : TypeId} {sp} {xs : List Value} (h : w.ownsRow base e size (.slice (some ⟨b, off, sp⟩) n c) n xs) : base ≤ b ∧ b < w.heap.size := by
  obtain ⟨_, cur, _, h1, h2, _⟩ := own_row h
  exact ⟨h1, (Array.getElem?_eq_some_iff.1 h2).1⟩
set_option maxHeartbeats 8000000 in
set_option maxRecDepth 20000 in
theorem kindApart_walk (S : Int) (A : Option Addr) (cap : Nat) (ps : List Int) (w : World) (hS : -9223372036854775808 ≤ S ∧ S ≤ 9223372036854775807) (hr : RdI w A ps) (hl : ps.length * 8 ≤ 140737488351232) :
    Calls Try.prog 7 #[.agg #[.int .i64 S, .slice A ps.length cap]] w fun e w' => e = .returned (.bool true) ∧ Below w.heap.size w w' := by
  have hg := heap_alloc_new w (.cells #[.int .i64 S, .slice A ps.length cap] 24 (0, 0))
  obtain ⟨hz0, hz1⟩ := cells2 hg
  have hal := below_alloc w (.cells #[.int .i64 S, .slice A ps.length cap] 24 (0, 0))
  have hlen := hr.1
  have HR := Lib.hid hr; clear hr
  have HS := Lib.hid hS; clear hS
  have HL := Lib.hid hl; clear hl
  clear hg
  go_enter Try.func7, Try.ntmps7
  go_wp2_with fail
  generalize w.alloc (.cells #[.int .i64 S, .slice A ps.length cap] 24 (0, 0)) = w0 at *
  have HAL := Lib.hid hal
  refine (kalive_any w0).mono ?_
  rintro e w1 ⟨rfl, hB1⟩
  have hd0 := cell_below hB1 hz0
  have hd1 := cell_below hB1 hz1
  have HB1 := Lib.hid (belowT HAL.out hB1); clear hB1 hz0 hz1 hal
  go_wp2_with fail
  refine (check_any S A cap ps w1 HS.out (HR.out.below HB1.out)).mono ?_
  rintro e w2 ⟨rfl, hB2⟩
  have he0 := cell_below hB2 hd0
  have he1 := cell_below hB2 hd1
  have HB2 := Lib.hid (belowT HB1.out hB2); clear hB2 hd0 hd1
  have hwlt2 : w.heap.size < w2.heap.size := World.block_lt_of_cell? w2 _ he0
  by_cases hck : chk S ps = 0
  · have HCK := Lib.hid hck
    rw [hck]
    have hpl := (chk_zero hck).2.2.1
    have HAE := Lib.hid (show addErr [] S ps = 0 by unfold addErr; rw [if_neg (by omega), if_neg (by simp)])
    clear hck
    go_wp2_with fail
    refine (tnew_any w2).mono ?_
    rintro e w3 ⟨rfl, hT3, hs3, hB3⟩
    have hf0 := cell_below hB3 he0
    have hf1 := cell_below hB3 he1
    have HT3 := Lib.hid hT3
    have HB3 := Lib.hid (belowT HB2.out hB3); clear hB3 hT3 he0 he1
    go_wp2_with fail
    refine (kcopy_any S A cap ps w3 (HR.out.below HB3.out) HL.out).mono ?_
    rintro e w4 ⟨A4, c4, rfl, hown4, hr4, hB4⟩
    have ht4 := own_typ hown4
    have HI4 := Lib.hid (rdI_i64s hr4 (fun _ => ht4) (Nat.le_refl w4.heap.size))
    have ha4 := below_alloc w4 (.cells #[.int .i64 S, .slice A4 ps.length c4] 24 (0, 0))
    have hg4 := heap_alloc_new w4 (.cells #[.int .i64 S, .slice A4 ps.length c4] 24 (0, 0))
    obtain ⟨hi0, hi1⟩ := cells2 hg4
    have hs4 : w4.heap.size < (w4.alloc (.cells #[.int .i64 S, .slice A4 ps.length c4] 24 (0, 0))).heap.size := by simp [go_sem]
    have HS34 := Lib.hid hB4.size
    have HB5 := Lib.hid (belowT hB4 ha4)
    have HR5 := Lib.hid (hr4.below ha4)
    have hg0 := cell_below (belowT hB4 ha4) hf0
    have hg1 := cell_below (belowT hB4 ha4) hf1
    go_wp2_with fail
    generalize w4.alloc (.cells #[.int .i64 S, .slice A4 ps.length c4] 24 (0, 0)) = w5 at *
    have HI5 := Lib.hid (HI4.out.below ha4)
    have hT5 := HT3.out.below HB5.out
    have HT5 := Lib.hid (show Tab w5 w2.heap.size w5.heap.size none 0 [] [] from ⟨hT5.obj, hT5.own, hT5.els, fun i A n c h => by simp at h, hT5.lt⟩)
    have HG5 := Lib.hid (And.intro hg0 hg1)
    have HI0 := Lib.hid (And.intro hi0 hi1)
    clear ht4 ha4 hg4 hown4 hr4 hB4 hf0 hf1 hT5 hi0 hi1 hg0 hg1
    refine (tadd_ok HT5.out S A4 c4 ps HS.out HR5.out HAE.out (Nat.le_refl _)).mono ?_
    rintro e w6 ⟨A6, c6, vs6, rfl, hT6, hK6, hN6⟩
    have hF5 : ∀ b, TabF w2.heap.size none b → b = w2.heap.size := fun b hb => by
      rcases hb with h | h
      · exact h
      · simp at h
    have HT6 := Lib.hid (show Tab w6 w2.heap.size w5.heap.size A6 c6 [(S, ps)] vs6 from hT6)
    have HN6 := Lib.hid (show ∀ b, A6.map (·.block) = some b → w5.heap.size ≤ b from fun b hb => by
      rcases hN6 b hb with h | h
      · simp at h
      · exact h)
    have hs34 := HS34.out
    have hwlt : w.heap.size < w3.heap.size := by have := World.block_lt_of_cell? w5 _ HG5.out.1; have := HB3.out.size; have := HB2.out.size; omega
    have HK0 := Lib.hid (And.intro (hK6.cell HG5.out.1 (fun h => by have := hF5 _ h; omega)) (hK6.cell HG5.out.2 (fun h => by have := hF5 _ h; omega)))
    have HI6 := Lib.hid (And.intro (hK6.cell HI0.out.1 (fun h => by have := hF5 _ h; omega)) (hK6.cell HI0.out.2 (fun h => by have := hF5 _ h; omega)))
    have HI66 := Lib.hid (show I64s w6 A4 ps.length w3.heap.size w4.heap.size from fun hp => by
      obtain ⟨g, off, h1, h2, h3, h4⟩ := HI5.out hp
      refine ⟨g, off, h1, h2, h3, fun q hq => ?_⟩
      obtain ⟨⟨z, hz⟩, hf⟩ := h4 q hq
      have hnf : ¬ TabF w2.heap.size none g := fun h => by have := hF5 _ h; omega
      have hlt := World.block_lt_of_cell? w5 _ hz
      exact ⟨⟨z, hK6.cell hz hnf⟩, (World.frozen?_of_block (a := ⟨g, off + q, none⟩) (hK6.block g hlt hnf)).trans hf⟩)
    have HB6 := Lib.hid (show Below w.heap.size w w6 from (HB3.out.trans (HB5.out.mono HB3.out.size)).trans (hK6.below (fun b hb => by have := hF5 b hb; omega) (by omega)))
    have HS56 := Lib.hid hK6.size
    clear hT6 hK6 hN6 hF5
    go_wp2_with fail
    have hp0 : ps.length * 8 ≤ 140737488351232 := HL.out
    refine (tget_ok HT6.out 0 (by simp) hp0).mono ?_
    rintro e w7 ⟨A7, c7, rfl, hown7, hr7, hB7⟩
    simp only [List.getElem_cons_zero] at hown7 hr7 ⊢
    have ht7 := own_typ hown7
    have HI7 := Lib.hid (rdI_i64s hr7 (fun _ => ht7) (Nat.le_refl w7.heap.size))
    have ha7 := below_alloc w7 (.cells #[.int .i64 S, .slice A7 ps.length c7] 24 (0, 0))
    have hg7 := heap_alloc_new w7 (.cells #[.int .i64 S, .slice A7 ps.length c7] 24 (0, 0))
    obtain ⟨hj0, hj1⟩ := cells2 hg7
    have hs7 : w7.heap.size < (w7.alloc (.cells #[.int .i64 S, .slice A7 ps.length c7] 24 (0, 0))).heap.size := by simp [go_sem]
    have HS67 := Lib.hid hB7.size
    have HB8 := Lib.hid (belowT hB7 ha7)
    have HI8 := Lib.hid (HI7.out.below ha7)
    clear ht7 hg7 hown7 hr7 hB7 ha7
    go_wp2_with fail
    generalize w7.alloc (.cells #[.int .i64 S, .slice A7 ps.length c7] 24 (0, 0)) = w8 at *
    have HJ := Lib.hid (And.intro hj0 hj1)
    clear hj0 hj1
    have HT8 := Lib.hid (HT6.out.below HB8.out)
    refine (tall_any HT8.out (by simp) (fun p hp => by simp at hp; subst hp; exact HL.out)).mono ?_
    rintro e w9 ⟨A9, c9, vs9, rfl, hown9, hkd9, hap9, hB9⟩
    simp only [List.length_cons, List.length_nil, Nat.zero_add] at hown9 ⊢
    obtain ⟨b9, off9, rfl, hbl9, hcs9⟩ := hkd9.cells (own_rd hown9) (by simp)
    obtain ⟨A10, c10, hk0, hk1, hr10, _⟩ := hcs9 0 (by simp)
    simp only [List.getElem_cons_zero, Nat.zero_mul, Nat.add_zero] at hk0 hk1 hr10
    have hb9 : w8.heap.size ≤ b9 := (own_blk' hown9).1
    have ht10 : 0 < ps.length → TypB w9 w8.heap.size 3 A10 := fun hp => by
      obtain ⟨A', c', h1, h2, _⟩ := hkd9.2 0 (by simp)
      have h3 := own_rd hown9 (by rw [hkd9.1]; simp)
      obtain ⟨b', o', h4, h5⟩ := h3
      simp only [Option.some.injEq, Addr.mk.injEq] at h4
      obtain ⟨rfl, rfl, _⟩ := h4
      have h6 := h5 _ _ h2
      simp only [Nat.zero_mul, Nat.zero_add] at h6
      rw [hk1] at h6
      simp only [Option.some.injEq, Value.slice.injEq] at h6
      obtain ⟨rfl, _, _⟩ := h6
      exact hap9 _ _ _ _ h2 hp
    have HI9 := Lib.hid (rdI_i64s hr10 ht10 (Nat.le_refl w9.heap.size))
    have HNE := Lib.hid (show ∀ g off, A10 = some ⟨g, off, none⟩ → 0 < ps.length → g ≠ b9 from fun g off hA hp => by
      subst hA
      obtain ⟨_, _, hv, _, hh, _⟩ := own_row hown9
      exact (ht10 hp).ne hh (by decide))
    have HK9 := Lib.hid (show KeptBut (fun b => (w3.heap.size ≤ b ∧ b < w4.heap.size) ∨ w6.heap.size ≤ b) w6 w9 from kept_of_below (belowT HB8.out hB9))
    have HI46 := Lib.hid ((HI66.out.below HB8.out).below hB9)
    have HI78 := Lib.hid (HI8.out.below hB9)
    have HJ9 := Lib.hid (And.intro (cell_below hB9 HJ.out.1) (cell_below hB9 HJ.out.2))
    have hin := cell_below hB9 (cell_below HB8.out HI6.out.2)
    have HS89 := Lib.hid hB9.size
    clear hown9 hkd9 hap9 hcs9 hr10 ht10 hB9 hk0
    have hs56 := HS56.out
    have hs67 := HS67.out
    have hs89 := HS89.out
    have HK1 := Lib.hid (show w9.cell? ⟨b9, off9 + 1, none⟩ = some (.slice A10 ps.length c10) from hk1)
    clear hk1
    go_wp2_with fail
    go_loopw [10, 44, 45, 46, 47, 48, 49, 50, 51] (fun _ i _ _ _ _ _ _ _ wr => ∃ k : Nat, k ≤ ps.length ∧ i = .int .i64 k ∧ Hid (I64s wr A4 ps.length w3.heap.size w4.heap.size) ∧ Hid (I64s wr A7 ps.length w6.heap.size w7.heap.size) ∧ Hid (I64s wr A10 ps.length w8.heap.size w9.heap.size) ∧ Hid (KeptBut (fun b => (w3.heap.size ≤ b ∧ b < w4.heap.size) ∨ w6.heap.size ≤ b) w6 wr) ∧ Hid (wr.cell? ⟨w4.heap.size, 1, none⟩ = some (.slice A4 ps.length c4)) ∧ Hid (wr.cell? ⟨w7.heap.size, 1, none⟩ = some (.slice A7 ps.length c7)) ∧ Hid (wr.cell? ⟨b9, off9 + 1, none⟩ = some (.slice A10 ps.length c10))) (fun _ i _ _ _ _ _ _ _ _ => ps.length - (intOf i).toNat)
    case atStart => exact ⟨0, by omega, rfl, HI46.out, HI78.out, HI9.out, HK9.out, hin, HJ9.out.2, HK1.out⟩
    case round =>
      obtain ⟨k, hk, rfl, HP4, HP7, HP10, HKB, HC4, HC7, HC10⟩ := hrel
      by_cases hlt : k < ps.length
      · obtain ⟨g, off, hA, h1, h2, hcs⟩ := HP4.out (by omega)
        obtain ⟨⟨z, hz⟩, hf⟩ := hcs k hlt
        have hc4 := HC4.out
        subst hA
        have hi0 : (0 : Int) ≤ (k : Int) := by omega
        clear hcs
        go_wp2
        go_roundw
        case rel => exact ⟨k + 1, by omega, by go_num, HP4.out.set ⟨g, off + k, none⟩ (-1), HP7.out.set ⟨g, off + k, none⟩ (-1), HP10.out.set ⟨g, off + k, none⟩ (-1), HKB.out.trans ((kept_setCell _ ⟨g, off + k, none⟩ _).mono (fun b _ hb => .inl (by subst hb; exact ⟨h1, h2⟩))) (fun _ _ h => h), (World.cell?_setCell_other _ _ _ _ (by first | (simp; done) | (simp; omega))).trans HC4.out, (World.cell?_setCell_other _ _ _ _ (by first | (simp; done) | (simp; omega))).trans HC7.out, (World.cell?_setCell_other _ _ _ _ (by first | (simp; done) | (simp; omega))).trans HC10.out⟩
        case measure => simp [intOf]; omega
      · obtain ⟨n, hn⟩ : ∃ n, n = ps.length := ⟨_, rfl⟩
        have hkn : k = ps.length := by omega
        subst hkn
        have hc7 := HC7.out
        go_wp2_with fail
        go_loopw [11, 55, 56, 57, 58, 59, 60, 61, 62] (fun _ i _ _ _ _ _ _ _ wr => ∃ k : Nat, k ≤ ps.length ∧ i = .int .i64 k ∧ Hid (I64s wr A4 ps.length w3.heap.size w4.heap.size) ∧ Hid (I64s wr A7 ps.length w6.heap.size w7.heap.size) ∧ Hid (I64s wr A10 ps.length w8.heap.size w9.heap.size) ∧ Hid (KeptBut (fun b => (w3.heap.size ≤ b ∧ b < w4.heap.size) ∨ w6.heap.size ≤ b) w6 wr) ∧ Hid (wr.cell? ⟨w4.heap.size, 1, none⟩ = some (.slice A4 ps.length c4)) ∧ Hid (wr.cell? ⟨w7.heap.size, 1, none⟩ = some (.slice A7 ps.length c7)) ∧ Hid (wr.cell? ⟨b9, off9 + 1, none⟩ = some (.slice A10 ps.length c10))) (fun _ i _ _ _ _ _ _ _ _ => ps.length - (intOf i).toNat)
        case atStart => exact ⟨0, by omega, rfl, HP4.out, HP7.out, HP10.out, HKB.out, HC4.out, HC7.out, HC10.out⟩
        case round =>
          obtain ⟨k, hk, rfl, HP4, HP7, HP10, HKB, HC4, HC7, HC10⟩ := hrel
          by_cases hlt : k < ps.length
          · obtain ⟨g, off, hA, h1, h2, hcs⟩ := HP7.out (by omega)
            obtain ⟨⟨z, hz⟩, hf⟩ := hcs k hlt
            have hc7 := HC7.out
            subst hA
            have hi0 : (0 : Int) ≤ (k : Int) := by omega
            clear hcs
            go_wp2
            go_roundw
            case rel => exact ⟨k + 1, by omega, by go_num, HP4.out.set ⟨g, off + k, none⟩ (-2), HP7.out.set ⟨g, off + k, none⟩ (-2), HP10.out.set ⟨g, off + k, none⟩ (-2), HKB.out.trans ((kept_setCell _ ⟨g, off + k, none⟩ _).mono (fun b _ hb => .inr (by subst hb; exact h1))) (fun _ _ h => h), (World.cell?_setCell_other _ _ _ _ (by first | (simp; done) | (simp; omega))).trans HC4.out, (World.cell?_setCell_other _ _ _ _ (by first | (simp; done) | (simp; omega))).trans HC7.out, (World.cell?_setCell_other _ _ _ _ (by first | (simp; done) | (simp; omega))).trans HC10.out⟩
            case measure => simp [intOf]; omega
          · have hkn : k = ps.length := by omega
            subst hkn
            have hc10 := HC10.out
            go_wp2_with fail
            go_loopw [12, 68, 69, 70, 71, 72, 73, 74, 75, 76, 77] (fun _ i _ _ _ _ _ _ _ _ _ wr => ∃ k : Nat, k ≤ ps.length ∧ i = .int .i64 k ∧ Hid (I64s wr A4 ps.length w3.heap.size w4.heap.size) ∧ Hid (I64s wr A7 ps.length w6.heap.size w7.heap.size) ∧ Hid (I64s wr A10 ps.length w8.heap.size w9.heap.size) ∧ Hid (KeptBut (fun b => (w3.heap.size ≤ b ∧ b < w4.heap.size) ∨ w6.heap.size ≤ b) w6 wr) ∧ Hid (wr.cell? ⟨w4.heap.size, 1, none⟩ = some (.slice A4 ps.length c4)) ∧ Hid (wr.cell? ⟨w7.heap.size, 1, none⟩ = some (.slice A7 ps.length c7)) ∧ Hid (wr.cell? ⟨b9, off9 + 1, none⟩ = some (.slice A10 ps.length c10))) (fun _ i _ _ _ _ _ _ _ _ _ _ => ps.length - (intOf i).toNat)
            case atStart => exact ⟨0, by omega, rfl, HP4.out, HP7.out, HP10.out, HKB.out, HC4.out, HC7.out, HC10.out⟩
            case round =>
              obtain ⟨k, hk, rfl, HP4, HP7, HP10, HKB, HC4, HC7, HC10⟩ := hrel
              by_cases hlt : k < ps.length
              · obtain ⟨g, off, hA, h1, h2, hcs⟩ := HP10.out (by omega)
                obtain ⟨⟨z, hz⟩, hf⟩ := hcs k hlt
                have hng := HNE.out g off hA (by omega)
                have hc10 := HC10.out
                subst hA
                have hi0 : (0 : Int) ≤ (k : Int) := by omega
                clear hcs
                go_wp2
                go_roundw
                case rel => exact ⟨k + 1, by omega, by go_num, HP4.out.set ⟨g, off + k, none⟩ (-3), HP7.out.set ⟨g, off + k, none⟩ (-3), HP10.out.set ⟨g, off + k, none⟩ (-3), HKB.out.trans ((kept_setCell _ ⟨g, off + k, none⟩ _).mono (fun b _ hb => .inr (by subst hb; have h9 := h1; have h8 := hs67; have h7 := hs7; omega))) (fun _ _ h => h), (World.cell?_setCell_other _ _ _ _ (by first | (simp; done) | (simp; omega))).trans HC4.out, (World.cell?_setCell_other _ _ _ _ (by first | (simp; done) | (simp; omega))).trans HC7.out, (World.cell?_setCell_other _ _ _ _ (fun h => hng (by simp only [Addr.mk.injEq] at h; exact h.1))).trans HC10.out⟩
                case measure => simp [intOf]; omega
              · have hkn : k = ps.length := by omega
                subst hkn
                have hkb := HKB.out
                have hTz := HT6.out.kept hkb (fun h => by rcases h with h | h <;> omega) (fun b hb h => by
                  have := HN6.out b hb
                  have := own_blk0 HT6.out.own hb
                  rcases h with h | h <;> omega) (fun b cs fr hb hh h => by
                  have := (Array.getElem?_eq_some_iff.1 hh).1
                  rcases h with h | h <;> omega)
                have HTZ := Lib.hid hTz
                have hy0 := hkb.cell HK0.out.1 (fun h => by rcases h with h | h <;> omega)
                have hy1 := hkb.cell HK0.out.2 (fun h => by rcases h with h | h <;> omega)
                have HBZ := Lib.hid (show Below w.heap.size w wr from HB6.out.trans (hkb.below (fun b hb => by rcases hb with h | h <;> omega) (by omega)))
                clear hTz hkb
                have HY := Lib.hid (And.intro hy0 hy1)
                clear hy0 hy1 hin hc10
                go_wp2_with fail
                refine (tget_ok HTZ.out 0 (by simp) hp0).mono ?_
                rintro e wA ⟨A12, c12, rfl, hown12, hr12, hB12⟩
                simp only [List.getElem_cons_zero] at hown12 hr12 ⊢
                have haA := below_alloc wA (.cells #[.int .i64 S, .slice A12 ps.length c12] 24 (0, 0))
                have hgA := heap_alloc_new wA (.cells #[.int .i64 S, .slice A12 ps.length c12] 24 (0, 0))
                obtain ⟨hm0, hm1⟩ := cells2 hgA
                have hx0 := cell_below (belowT hB12 haA) HY.out.1
                have hx1 := cell_below (belowT hB12 haA) HY.out.2
                have HR12 := Lib.hid (hr12.below haA)
                have HBA := Lib.hid (belowT HBZ.out (belowT hB12 haA))
                clear hgA haA hown12 hr12 hB12
                go_wp2_with fail
                generalize wA.alloc (.cells #[.int .i64 S, .slice A12 ps.length c12] 24 (0, 0)) = wB at *
                refine (ksame_any S S A12 A c12 cap ps ps wB HR12.out (HR.out.below HBA.out)).mono ?_
                rintro e wC ⟨rfl, hB13⟩
                rw [decide_eq_true (show S = S ∧ ps = ps from ⟨rfl, rfl⟩)]
                go_wp2
                go_ret
                exact ⟨rfl, belowT HBA.out hB13⟩
  · have hne : (chk S ps != 0) = true := by simpa using hck
    clear hck
    go_wp2
    go_ret
    exact ⟨rfl, HB2.out⟩
theorem kindApart_front (cs : Array Value) (W : World) (hz : cs.size = 2) (hR : rStruct [rInt .i64, rSlice 1 8 (rInt .i64)] W cs.toList) :
    Calls Try.prog 7 #[.agg cs] W fun e w' => e = .returned (.bool true) ∧ Below W.heap.size W w' := by
  obtain ⟨S, A, cap, ps, rfl, hS, hr, hl⟩ := kind_in hz hR
  exact kindApart_walk S A cap ps W hS hr hl
end Go.Proofs.Ytdeeeipdgoafaaa
