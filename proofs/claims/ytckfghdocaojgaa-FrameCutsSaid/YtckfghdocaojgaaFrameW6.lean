/- The walks of Decode, of the program and of the reference. -/
import Derived.Test.YtckfghdocaojgaaFrameW5
namespace Go.Proofs.Ytckfghdocaojgaa
open Go.RowKit
def decF (b : List UInt8) : SpF := if sizeF b ≠ 0 ∧ sizeF b < b.length then ⟨0, [], [], 6⟩ else splitF b
/-- What Decode answers. -/
def DecA (base : Nat) (s : SpF) (e : Ending) (w' : World) : Prop := ∃ A1 n1 c1, e = .returned (.tuple #[.agg #[.int .i64 (s.k : Int), .slice A1 n1 c1], .int .i64 (s.err : Int)]) ∧ NewB w' base 5 A1 n1 c1 s.body
set_option maxHeartbeats 2000000 in
set_option maxRecDepth 20000 in
theorem refDecode_any (A : Option Addr) (cap : Nat) (bs : List UInt8) (w : World) (hr : RdB w A bs) (hcap : bs.length ≤ cap) (hbig : bs.length ≤ 140737488355328) :
    Calls Try.prog 15 #[.slice A bs.length cap] w fun e w' => WholeA w.heap.size (decF bs) e w' ∧ Below w.heap.size w w' := by
  have hlen := hr.1
  have HR := Lib.hid hr
  by_cases h0 : sizeF bs = 0
  · have HS := Lib.hid (show decF bs = ⟨0, [], [], 3⟩ by unfold decF; rw [if_neg (by omega)]; unfold splitF; rw [if_pos h0])
    rw [HS.out]
    have hsz := Lib.hid h0
    clear h0 hr
    go_enter Try.func15, Try.ntmps15
    go_wp2_with fail
    refine (refSize_any A cap bs _ HR.out).mono ?_
    rintro e w1 ⟨rfl, k, rfl⟩
    rw [hsz.out]
    go_wp2
    go_ret3
    exact ⟨⟨none, 0, 0, rfl, NewB.nil _ _ _ _ _⟩, below_drewN (Below.refl _ _) _⟩
  · obtain ⟨n, hn⟩ : ∃ n, n = sizeF bs := ⟨_, rfl⟩
    obtain ⟨h7, hle, _⟩ := sizeF_bd bs h0
    rw [← hn] at h7 hle h0
    have hn0 : ((n : Int) == 0) = false := by simp; omega
    by_cases hlt : n < bs.length
    · have HS := Lib.hid (show decF bs = ⟨0, [], [], 6⟩ by unfold decF; rw [← hn, if_pos ⟨h0, hlt⟩])
      rw [HS.out]
      have HSZ := Lib.hid hn
      clear hn hr
      go_enter Try.func15, Try.ntmps15
      go_wp2_with fail
      refine (refSize_any A cap bs _ HR.out).mono ?_
      rintro e w1 ⟨rfl, k, rfl⟩
      rw [← HSZ.out]
      go_wp2
      go_ret3
      exact ⟨⟨none, 0, 0, rfl, NewB.nil _ _ _ _ _⟩, below_drewN (Below.refl _ _) _⟩
    · have hnl : n = bs.length := by omega
      have HS := Lib.hid (show decF bs = wholeF bs bs.length by unfold decF splitF; rw [← hn, if_neg (fun h => hlt h.2), if_neg h0, hnl])
      rw [HS.out]
      have HSZ := Lib.hid (show sizeF bs = bs.length by rw [← hn]; exact hnl)
      have hn0 : ((bs.length : Int) == 0) = false := by rw [← hnl]; exact hn0
      have h7' : 7 ≤ bs.length := by omega
      clear hn hr hnl hlt hle h7 h0
      go_enter Try.func15, Try.ntmps15
      go_wp2_with fail
      refine (refSize_any A cap bs _ HR.out).mono ?_
      rintro e w1 ⟨rfl, k, rfl⟩
      rw [HSZ.out]
      go_wp2_with fail
      refine (refWhole_any A cap bs (w.drewN k) HR.out hcap hbig h7').mono ?_
      rintro e w1 ⟨⟨A1, n1, c1, rfl, hn1⟩, hB1⟩
      go_wp2
      go_ret3
      exact ⟨⟨A1, n1, c1, rfl, hn1⟩, belowT (below_drewN (Below.refl _ _) _) hB1⟩
set_option maxHeartbeats 2000000 in
set_option maxRecDepth 20000 in
theorem decode_any (A : Option Addr) (cap : Nat) (bs : List UInt8) (w : World) (hr : RdB w A bs) (hcap : bs.length ≤ cap) (hbig : bs.length ≤ 140737488355328) :
    Calls Try.prog 14 #[.slice A bs.length cap] w fun e w' => DecA w.heap.size (decF bs) e w' ∧ Below w.heap.size w w' := by
  have hlen := hr.1
  have hal : Below w.heap.size w (w.alloc (.cells #[.int .i64 0, .slice none 0 0] 29 (0, 0))) := (Below.refl _ _).alloc (Nat.le_refl _) _
  have HAL := Lib.hid hal
  have HR1 := Lib.hid (hr.below hal)
  obtain ⟨n, hn⟩ : ∃ n, n = sizeF bs := ⟨_, rfl⟩
  by_cases hlt : n ≠ 0 ∧ n < bs.length
  · have HS := Lib.hid (show decF bs = ⟨0, [], [], 6⟩ by unfold decF; rw [← hn, if_pos hlt])
    rw [HS.out]
    have hn0 : ((n : Int) != 0) = true := by simp; omega
    obtain ⟨_, hlt⟩ := hlt
    have HSZ := Lib.hid hn
    clear hn hr hal
    go_enter Try.func14, Try.ntmps14
    go_wp2_with fail
    refine (size_any A cap bs _ HR1.out hcap).mono ?_
    rintro e w1 ⟨rfl, rfl⟩
    rw [← HSZ.out]
    go_wp2
    exact bodyPost_ret (v := .tuple #[.agg #[.int .i64 0, .slice none 0 0], .int .i64 6]) (by simp [results, Try.results14, go_sem]) rfl ⟨⟨none, 0, 0, rfl, NewB.nil _ _ _ _ _⟩, HAL.out⟩
  · have HS := Lib.hid (show decF bs = splitF bs by unfold decF; rw [← hn, if_neg hlt])
    rw [HS.out]
    have HSZ := Lib.hid hn
    have HSP := fun (W : World) (h : RdB W A bs) => split_any A cap bs W h hcap hbig
    obtain ⟨r, hrr⟩ : ∃ r, r = splitF bs := ⟨_, rfl⟩
    rw [← hrr] at HSP
    rw [← hrr]
    clear hrr HS
    have HSPH := Lib.hid HSP; clear HSP
    have hd : (n = 0) ∨ (n ≠ 0 ∧ ¬ n < bs.length) := by omega
    clear hn hr hal hlt
    rcases hd with hz | ⟨hz, hlt⟩
    · have hn0 : ((n : Int) != 0) = false := by simp; omega
      clear hz
      go_enter Try.func14, Try.ntmps14
      go_wp2_with fail
      refine (size_any A cap bs _ HR1.out hcap).mono ?_
      rintro e w1 ⟨rfl, rfl⟩
      rw [← HSZ.out]
      go_wp2_with fail
      refine (HSPH.out _ HR1.out).mono ?_
      rintro e w1 ⟨⟨A1, n1, c1, A2, n2, c2, rfl, hn1, hn2⟩, hB1⟩
      have hgw := (hB1.block w.heap.size (by simp [go_sem])).trans (heap_alloc_new w (.cells #[.int .i64 0, .slice none 0 0] 29 (0, 0)))
      have hy0 : w1.cell? ⟨w.heap.size, 0, none⟩ = some (.int .i64 0) := (cell_of_row _ _ _ _ _ _ hgw).trans rfl
      have hy1 : w1.cell? ⟨w.heap.size, 1, none⟩ = some (.slice none 0 0) := (cell_of_row _ _ _ _ _ _ hgw).trans rfl
      have hyf := fun j => frozen_of_row w1 w.heap.size j _ _ hgw
      have HGW := Lib.hid hgw
      have HB1 := Lib.hid (HAL.out.trans (hB1.mono HAL.out.size))
      have hs1 : w.heap.size < w1.heap.size := by have := hB1.size; simp [go_sem] at this; omega
      have HN1 := Lib.hid (hn1.le (show w.heap.size + 1 ≤ _ by simp [go_sem]))
      clear hgw hB1 hn2 hn1
      go_wp2
      obtain ⟨hr0, hr1⟩ := two_cells (u := .int .i64 (r.k : Int)) (v := .slice A1 n1 c1) HGW.out
      have hsz : (((w1.setCell ⟨w.heap.size, 0, none⟩ (.int .i64 (r.k : Int))).setCell ⟨w.heap.size, 1, none⟩ (.slice A1 n1 c1))).heap.size = w1.heap.size := by simp
      have hn2 := (HN1.out.setCell (a := ⟨w.heap.size, 0, none⟩) (Nat.lt_succ_self _) (.int .i64 (r.k : Int))).setCell (a := ⟨w.heap.size, 1, none⟩) (Nat.lt_succ_self _) (.slice A1 n1 c1)
      exact bodyPost_ret (v := .tuple #[.agg #[.int .i64 (r.k : Int), .slice A1 n1 c1], .int .i64 (r.err : Int)]) (by simp [results, Try.results14, go_sem, World.cell?_alloc_past, hsz, hs1, hr0, hr1]) rfl ⟨⟨A1, n1, c1, rfl, (hn2.below ((Below.refl _ _).alloc (Nat.le_refl _) _)).le (Nat.le_succ _)⟩, (belowS (belowS HB1.out _ _) _ _).alloc (by rw [hsz]; exact Nat.le_of_lt hs1) _⟩
    · have hn0 : ((n : Int) != 0) = true := by simp; omega
      clear hz
      go_enter Try.func14, Try.ntmps14
      go_wp2_with fail
      refine (size_any A cap bs _ HR1.out hcap).mono ?_
      rintro e w1 ⟨rfl, rfl⟩
      rw [← HSZ.out]
      go_wp2_with fail
      refine (HSPH.out _ HR1.out).mono ?_
      rintro e w1 ⟨⟨A1, n1, c1, A2, n2, c2, rfl, hn1, hn2⟩, hB1⟩
      have hgw := (hB1.block w.heap.size (by simp [go_sem])).trans (heap_alloc_new w (.cells #[.int .i64 0, .slice none 0 0] 29 (0, 0)))
      have hy0 : w1.cell? ⟨w.heap.size, 0, none⟩ = some (.int .i64 0) := (cell_of_row _ _ _ _ _ _ hgw).trans rfl
      have hy1 : w1.cell? ⟨w.heap.size, 1, none⟩ = some (.slice none 0 0) := (cell_of_row _ _ _ _ _ _ hgw).trans rfl
      have hyf := fun j => frozen_of_row w1 w.heap.size j _ _ hgw
      have HGW := Lib.hid hgw
      have HB1 := Lib.hid (HAL.out.trans (hB1.mono HAL.out.size))
      have hs1 : w.heap.size < w1.heap.size := by have := hB1.size; simp [go_sem] at this; omega
      have HN1 := Lib.hid (hn1.le (show w.heap.size + 1 ≤ _ by simp [go_sem]))
      clear hgw hB1 hn2 hn1
      go_wp2
      obtain ⟨hr0, hr1⟩ := two_cells (u := .int .i64 (r.k : Int)) (v := .slice A1 n1 c1) HGW.out
      have hsz : (((w1.setCell ⟨w.heap.size, 0, none⟩ (.int .i64 (r.k : Int))).setCell ⟨w.heap.size, 1, none⟩ (.slice A1 n1 c1))).heap.size = w1.heap.size := by simp
      have hn2 := (HN1.out.setCell (a := ⟨w.heap.size, 0, none⟩) (Nat.lt_succ_self _) (.int .i64 (r.k : Int))).setCell (a := ⟨w.heap.size, 1, none⟩) (Nat.lt_succ_self _) (.slice A1 n1 c1)
      exact bodyPost_ret (v := .tuple #[.agg #[.int .i64 (r.k : Int), .slice A1 n1 c1], .int .i64 (r.err : Int)]) (by simp [results, Try.results14, go_sem, World.cell?_alloc_past, hsz, hs1, hr0, hr1]) rfl ⟨⟨A1, n1, c1, rfl, (hn2.below ((Below.refl _ _).alloc (Nat.le_refl _) _)).le (Nat.le_succ _)⟩, (belowS (belowS HB1.out _ _) _ _).alloc (by rw [hsz]; exact Nat.le_of_lt hs1) _⟩
end Go.Proofs.Ytckfghdocaojgaa
