/- The walks of Split and Decode of the program. -/
import Derived.Test.YtckfghdocaojgaaFrameW3
import Derived.Test.YtckfghdocaojgaaAppE
import Derived.Deep.RegionHeld3
import Derived.Deep.RegionHeldLaw
import Derived.Deep.DrawnRows
namespace Go.Proofs.Ytckfghdocaojgaa
open Go.RowKit
attribute [local go_sem ↓] Go.wp_at_zero Go.wp_at_succ
theorem quiet1 {P : Program} {f : FuncId} {args : Array Value} {w : World} {m : Nat} {v : Value} (h : Calls P f args (w.drewN m) fun e w' => e = .returned v ∧ w.drewN m = w') : Calls P f args (w.drewN m) fun e w'' => e = .returned v ∧ ∃ k, w'' = w.drewN k :=
  h.mono fun _ _ ⟨h1, h2⟩ => ⟨h1, m, h2.symm⟩
/-- What Split answers. -/
def SplitA (base : Nat) (s : SpF) (e : Ending) (w' : World) : Prop := ∃ A1 n1 c1 A2 n2 c2, e = .returned (.tuple #[.agg #[.int .i64 (s.k : Int), .slice A1 n1 c1], .slice A2 n2 c2, .int .i64 (s.err : Int)]) ∧ NewB w' base 5 A1 n1 c1 s.body ∧ NewB w' base 5 A2 n2 c2 s.rest
theorem keepC {w1 w : World} {b i : Nat} {v : Value} (hlt : b < w1.heap.size) (h : w1.cell? ⟨b, i, none⟩ = some v) (hb : Below w1.heap.size w1 w) : w.cell? ⟨b, i, none⟩ = some v ∧ Below w1.heap.size w1 w := ⟨(hb.cell hlt).trans h, hb⟩
theorem belowS {w W : World} (h : Below w.heap.size w W) (j : Nat) (v : Value) : Below w.heap.size w (W.setCell ⟨w.heap.size, j, none⟩ v) := h.setCell (Nat.le_refl _) v
theorem belowA {w1 w : World} (h : Below w1.heap.size w1 w) (o : Obj) : Below w1.heap.size w1 (w.alloc o) := h.alloc h.size o
theorem belowT {w1 w w' : World} (h : Below w1.heap.size w1 w) (hb : Below w.heap.size w w') : Below w1.heap.size w1 w' := h.trans (hb.mono h.size)
set_option maxHeartbeats 1500000 in
set_option maxRecDepth 20000 in
theorem split_any (A : Option Addr) (cap : Nat) (bs : List UInt8) (w : World) (hr : RdB w A bs) (hcap : bs.length ≤ cap) (hbig : bs.length ≤ 140737488355328) :
    Calls Try.prog 16 #[.slice A bs.length cap] w fun e w' => SplitA w.heap.size (splitF bs) e w' ∧ Below w.heap.size w w' := by
  have hlen := hr.1
  have hal : Below w.heap.size w (w.alloc (.cells #[.int .i64 0, .slice none 0 0] 29 (0, 0))) := (Below.refl _ _).alloc (Nat.le_refl _) _
  have HAL := Lib.hid hal
  have HR1 := Lib.hid (hr.below hal)
  by_cases h0 : sizeF bs = 0
  · have HS := Lib.hid (show splitF bs = ⟨0, [], [], 3⟩ by unfold splitF; rw [if_pos h0])
    rw [HS.out]
    have hsz := Lib.hid h0
    clear h0 hal
    go_enter Try.func16, Try.ntmps16
    go_wp2_with fail
    refine (size_any A cap bs _ HR1.out hcap).mono ?_
    rintro e w1 ⟨rfl, rfl⟩
    rw [hsz.out]
    go_wp2
    refine bodyPost_ret (v := .tuple #[.agg #[.int .i64 0, .slice none 0 0], .slice none 0 0, .int .i64 3]) (by simp [results, Try.results16, go_sem]) rfl ⟨⟨none, 0, 0, none, 0, 0, rfl, NewB.nil _ _ _ _ _, NewB.nil _ _ _ _ _⟩, HAL.out⟩
  · have hsz := h0
    unfold sizeF at hsz
    have h7 : 7 ≤ bs.length := by
      by_cases h : bs.length < 7
      · rw [if_pos h] at hsz; omega
      · omega
    rw [if_neg (by omega)] at hsz
    have hbd := lenF_bd bs
    have hle : lenF bs ≤ bs.length := by
      by_cases h : bs.length < lenF bs
      · rw [if_pos h] at hsz; omega
      · omega
    have hse : sizeF bs = lenF bs := by unfold sizeF; rw [if_neg (by omega), if_neg (by omega)]
    have hsp : splitF bs = wholeF bs (lenF bs) := by unfold splitF; rw [if_neg h0, hse]
    obtain ⟨m, hm⟩ : ∃ m, lenF bs = m + 4 := ⟨lenF bs - 4, by omega⟩
    obtain ⟨n, hn⟩ : ∃ n, n = lenF bs := ⟨_, rfl⟩
    rw [← hn] at hse hsp hle hbd hm
    have HSE := Lib.hid hse
    have hbsz : ¬ sizeF bs = 0 := h0
    have hm0 : n - 4 = m := by omega
    obtain ⟨r, hres⟩ : ∃ r : SpF, r = splitF bs := ⟨_, rfl⟩
    rw [← hres]
    rw [hsp] at hres
    unfold wholeF at hres
    rw [hm0] at hres
    have HRES := Lib.hid hres; clear hres
    have hok : sumOk bs n = (sum (bs.take m) == leN ((bs.drop m).take 4)) := by unfold sumOk; rw [hm0]
    obtain ⟨b, off, rfl, hcw⟩ := hr.at (by omega)
    have hxw := hcw 0 (by omega)
    rw [Nat.add_zero] at hxw
    have hx0 := cell_below hal hxw
    have hhd : bs.head? = some bs[0] ∧ bs.headD 0 = bs[0] := by
      match bs, h7 with
      | x :: t, _ => exact ⟨rfl, rfl⟩
    generalize bs[0] = x0 at hx0 hhd hxw
    have HXW := Lib.hid hxw; clear hxw hcw
    have HHD := Lib.hid hhd; clear hhd
    clear h0 hsz hn hse hsp hbsz hr
    obtain ⟨q1, hq1⟩ : ∃ q1, q1 = bs.take m := ⟨_, rfl⟩
    obtain ⟨q2, hq2⟩ : ∃ q2, q2 = (bs.drop m).take 4 := ⟨_, rfl⟩
    have HQ1 := Lib.hid (show RdB _ (some ⟨b, off, none⟩) q1 by rw [hq1]; have := HR1.out.part 0 m (by omega); simpa using this)
    have HQ2 := Lib.hid (show RdB _ (some ⟨b, off + m, none⟩) q2 by rw [hq2]; exact HR1.out.part m 4 (by omega))
    have HL1 := Lib.hid (show m = q1.length by rw [hq1]; simp; omega)
    have HL2 := Lib.hid (show 4 = q2.length by rw [hq2]; simp; omega)
    have hg2 : getN q2 = leN q2 := by unfold getN; rw [List.take_of_length_le (by have := HL2.out; omega)]
    rw [← hq1, ← hq2, ← hg2] at hok
    have HS1 := Lib.hid (sum_lt q1)
    have HOK := Lib.hid hok
    clear hok hg2 hq1 hq2 hal
    have hw1 : IntKind.i64.wrap ((n : Int) - 4) = (m : Int) := by rw [IntKind.wrap_i64]; omega
    have hcm : ¬ cap = m := by omega
    have hmn : m ≤ n := by omega
    have hmc : m ≤ cap := by omega
    have hnc : n ≤ cap := by omega
    have hn0 : ((n : Int) == 0) = false := by simp; omega
    have hwu : IntKind.u64.wrap ((sum q1 : Nat) : Int) = ((sum q1 : Nat) : Int) := wrap_u64_nat _ (by have := HS1.out; omega)
    have HMN := Lib.hid hm; clear hm hm0
    have hn4 : n - m = 4 := by have := HMN.out; omega
    have h3m : 3 ≤ m := by have := HMN.out; omega
    go_enter Try.func16, Try.ntmps16
    go_wp2_with fail
    have hg0 := heap_alloc_new w (.cells #[.int .i64 0, .slice none 0 0] 29 (0, 0))
    have hs0 : (w.alloc (.cells #[.int .i64 0, .slice none 0 0] 29 (0, 0))).heap.size = w.heap.size + 1 := by simp [go_sem]
    generalize w.alloc (.cells #[.int .i64 0, .slice none 0 0] 29 (0, 0)) = w1 at *
    have HSZ := Lib.hid hs0; clear hs0
    have HG0 := Lib.hid hg0; clear hg0
    refine (size_any _ cap bs w1 HR1.out hcap).mono ?_
    rintro e w2 ⟨rfl, rfl⟩
    rw [HSE.out]
    have hz0 : w1.cell? ⟨w.heap.size, 0, none⟩ = some (.int .i64 0) := by rw [cell_of_row _ _ _ _ _ _ HG0.out]; rfl
    have hz1 : w1.cell? ⟨w.heap.size, 1, none⟩ = some (.slice none 0 0) := by rw [cell_of_row _ _ _ _ _ _ HG0.out]; rfl
    have hzf := fun j => frozen_of_row w1 w.heap.size j _ _ HG0.out
    by_cases hok : sumOk bs n = true
    · have hq : (((sum q1 : Nat) : Int) != ((getN q2 : Nat) : Int)) = false := by
        have := HOK.out.symm.trans hok; simp at this; simp [this]
      have HRES := Lib.hid (HRES.out.trans (if_pos hok))
      clear hok
      go_wp2_with fail
      go_quiet (first | (go_at_call 23; exact quiet1 (sum_n _ _ _ q1 _ HQ1.out HL1.out)) | (go_at_call 28; exact quiet1 (get_n _ _ _ q2 _ HQ2.out HL2.out)))
      have HL3 := Lib.hid (show m - 3 = ((bs.take m).drop 3).length by simp; omega)
      have HB3 := Lib.hid (show m - 3 ≤ 140737488355328 by omega)
      have HQ3 := Lib.hid (show RdB w1 (some ⟨b, off + 3, none⟩) ((bs.take m).drop 3) by
        have := HR1.out.part 3 (m - 3) (by omega)
        rw [List.drop_take]; exact this)
      by_cases hx : x0 = 0
      · subst hx
        have HRES := Lib.hid (HRES.out.trans (if_pos HHD.out.1))
        go_wp2
        obtain ⟨hr0, hr1⟩ := two_cells (w := w1.drewN nq) (u := .int .i64 0) (v := .slice none 0 0) HG0.out
        have HBF := Lib.hid (((below_drewN HAL.out nq).setCell (p := ⟨w.heap.size, 0, none⟩) (Nat.le_refl _) (.int .i64 0)).setCell (p := ⟨w.heap.size, 1, none⟩) (Nat.le_refl _) (.slice none 0 0))
        rw [HRES.out]
        exact bodyPost_ret (v := .tuple #[.agg #[.int .i64 0, .slice none 0 0], .slice none 0 0, .int .i64 4]) (by simp [results, Try.results16, go_sem, hr0, hr1]) rfl ⟨⟨none, 0, 0, none, 0, 0, rfl, NewB.nil _ _ _ _ _, NewB.nil _ _ _ _ _⟩, HBF.out⟩
      · have hxb : ((x0.toNat : Int) == 0) = false := by
          simp; intro h; exact hx (UInt8.toNat_inj.1 (by simpa using h))
        have HRES := Lib.hid (HRES.out.trans (if_neg (by rw [HHD.out.1]; simpa using hx)))
        clear hx
        have HBLT := Lib.hid (World.block_lt_of_cell? w _ HXW.out)
        have HX0 := Lib.hid HXW.out
        have hq4 : (n = cap ∧ (0 = (bs.drop n).length ∧ 0 ≤ 140737488355328) ∧ RdB w1 (some ⟨b, off, none⟩) (bs.drop n)) ∨ (¬ cap = n ∧ (bs.length - n = (bs.drop n).length ∧ bs.length - n ≤ 140737488355328) ∧ RdB w1 (some ⟨b, off + n, none⟩) (bs.drop n)) := by
          by_cases hc : cap = n
          · refine .inl ⟨hc.symm, ⟨by simp; omega, by omega⟩, ?_⟩
            rw [List.drop_of_length_le (by omega)]
            exact ⟨by simp, fun h => by simp [bv] at h⟩
          · refine .inr ⟨hc, ⟨by simp, by omega⟩, ?_⟩
            have := HR1.out.part n (bs.length - n) (by omega)
            rwa [List.take_of_length_le (by simp)] at this
        have hc3 : ¬ cap = 3 := by omega
        have hx8 := x0.toNat_lt
        have hwx : IntKind.i64.wrap (x0.toNat : Int) = (x0.toNat : Int) := by rw [IntKind.wrap_i64]; omega
        clear hx8
        have hi1 : 0 < bs.length := by omega
        have hi6 : m ≤ n := hmn
        have hi7 : m - 3 ≤ n - 3 := by omega
        have hi2 : (3 : Int) ≤ (m : Int) := by omega
        have hi3 : (m : Int) ≤ (cap : Int) := by omega
        have hi4 : (n : Int) ≤ (cap : Int) := by omega
        have hi5 : (n : Int) ≤ (bs.length : Int) := by omega
        rcases hq4 with ⟨rfl, hb4, hq4⟩ | ⟨hcn, hb4, hq4⟩
        all_goals have HQ4 := Lib.hid hq4
        all_goals have HB4 := Lib.hid hb4
        all_goals clear hb4 hq4 hlen hbd hbig HSE HL1 HL2 HS1 HOK hcm hn0 hwu hn4 hq HQ1 HQ2
        all_goals go_wp2_with fail
        all_goals go_region_held3 (fun w' => w'.cell? ⟨b, off, none⟩ = some (.int .u8 (x0.toNat : Int)) ∧ Below w.heap.size w w') ((refine keepC HBLT.out HX0.out ?_; repeat' (first | refine belowS ?_ _ _ | refine HAL.out.trans (Below.mono ?_ HAL.out.size) | assumption | exact Below.refl _ _ | refine below_drewN ?_ _ | refine Below.drew ?_ | refine belowA ?_ _ | refine belowT ?_ (by assumption)))) ((first
          | (refine step_appE Try.slB (by rfl) (.tmp 37) (.tmp 41) (by rfl) _ (by rfl) _ _ _ ((bs.take m).drop 3) (by rfl) HL3.out (HQ3.out.below (by repeat' (first | assumption | exact Below.refl _ _ | refine below_drewN ?_ _ | refine Below.drew ?_ | refine belowA ?_ _ | refine belowT ?_ (by assumption)))) HB3.out ?_; intro A3 c3 w3 hn3 hb3; have HN3 := Lib.hid hn3; clear hn3)
          | (refine step_appE Try.slB (by rfl) (.tmp 44) (.tmp 47) (by rfl) _ (by rfl) _ _ _ (bs.drop n) (by rfl) HB4.out.1 (HQ4.out.below (by repeat' (first | assumption | exact Below.refl _ _ | refine below_drewN ?_ _ | refine Below.drew ?_ | refine belowA ?_ _ | refine belowT ?_ (by assumption)))) HB4.out.2 ?_; intro A4 c4 w4 hn4' hb4; have hbw : Below w1.heap.size w1 w4 := belowT (by repeat' (first | assumption | exact Below.refl _ _ | refine below_drewN ?_ _ | refine Below.drew ?_ | refine belowA ?_ _ | refine belowT ?_ (by assumption))) hb4; have hgw := (hbw.block _ (Nat.lt_of_lt_of_eq (Nat.lt_succ_self _) HSZ.out.symm)).trans HG0.out; have hy0 : w4.cell? ⟨w.heap.size, 0, none⟩ = some (.int .i64 0) := (cell_of_row _ _ _ _ _ _ hgw).trans rfl; have hy1 : w4.cell? ⟨w.heap.size, 1, none⟩ = some (.slice none 0 0) := (cell_of_row _ _ _ _ _ _ hgw).trans rfl; have hyf := fun j => frozen_of_row w4 w.heap.size j _ _ hgw; have HGW := Lib.hid hgw; have HN4 := Lib.hid hn4'; clear hgw hn4')))
        all_goals (
          go_wp2
          obtain ⟨hr0, hr1⟩ := two_cells (u := .int .i64 (x0.toNat : Int)) (v := .slice A3 (m - 3) c3) HGW.out
          have hs3 : w.heap.size < w3.heap.size := by
            have h1 := hb3.size; have h2 := HSZ.out; simp [go_sem] at h1; omega
          have hs4 : w.heap.size < w4.heap.size := by
            have h1 := hbw.size; have h2 := HSZ.out; omega
          have h34 : Below w3.heap.size w3 w4 := by first | exact hb4 | exact belowT (belowA (Below.refl _ _) _) hb4
          have hn3 := HN3.out.below h34
          have hn4 := HN4.out
          have e3 := (hn3.setCell (a := ⟨w.heap.size, 0, none⟩) (by have h2 := HSZ.out; simp [go_sem]; omega) (.int .i64 (x0.toNat : Int))).setCell (a := ⟨w.heap.size, 1, none⟩) (by have h2 := HSZ.out; simp [go_sem]; omega) (.slice A3 (m - 3) c3)
          have e4 := (hn4.setCell (a := ⟨w.heap.size, 0, none⟩) (by simp [go_sem]; omega) (.int .i64 (x0.toNat : Int))).setCell (a := ⟨w.heap.size, 1, none⟩) (by simp [go_sem]; omega) (.slice A3 (m - 3) c3)
          have hbf : Below w.heap.size w ((w4.setCell ⟨w.heap.size, 0, none⟩ (.int .i64 (x0.toNat : Int))).setCell ⟨w.heap.size, 1, none⟩ (.slice A3 (m - 3) c3)) := belowS (belowS (HAL.out.trans (hbw.mono HAL.out.size)) _ _) _ _
          rw [HRES.out]
          have q3 := Nat.le_of_lt hs3
          have q4 := Nat.le_of_lt hs4
          have q5 : w.heap.size ≤ w1.heap.size := by have h2 := HSZ.out; omega
          have e3 := e3.le (show w.heap.size ≤ _ by first | exact q3 | (simp [go_sem]; omega))
          have e4 := e4.le (show w.heap.size ≤ _ by first | exact q3 | (simp [go_sem]; omega))
          first | exact bodyPost_ret (v := .tuple #[.agg #[.int .i64 (x0.toNat : Int), .slice A3 (m - 3) c3], .slice A4 0 c4, .int .i64 0]) (by simp [results, Try.results16, go_sem, hr0, hr1]) rfl ⟨⟨A3, m - 3, c3, A4, 0, c4, by rw [HHD.out.2]; rfl, e3, e4⟩, hbf⟩ | exact bodyPost_ret (v := .tuple #[.agg #[.int .i64 (x0.toNat : Int), .slice A3 (m - 3) c3], .slice A4 (bs.length - n) c4, .int .i64 0]) (by simp [results, Try.results16, go_sem, hr0, hr1]) rfl ⟨⟨A3, m - 3, c3, A4, (bs.length - n), c4, by rw [HHD.out.2]; rfl, e3, e4⟩, hbf⟩)
    · have hq : (((sum q1 : Nat) : Int) != ((getN q2 : Nat) : Int)) = true := by
        have := hok; rw [HOK.out] at this; simp at this; simp; omega
      have HRES := Lib.hid (HRES.out.trans (if_neg hok))
      clear hok
      go_wp2_with fail
      go_quiet (first | (go_at_call 23; exact quiet1 (sum_n _ _ _ q1 _ HQ1.out HL1.out)) | (go_at_call 28; exact quiet1 (get_n _ _ _ q2 _ HQ2.out HL2.out)))
      go_wp2
      obtain ⟨hr0, hr1⟩ := two_cells (w := w1.drewN nq) (u := .int .i64 0) (v := .slice none 0 0) HG0.out
      have HBF := Lib.hid (((below_drewN HAL.out nq).setCell (p := ⟨w.heap.size, 0, none⟩) (Nat.le_refl _) (.int .i64 0)).setCell (p := ⟨w.heap.size, 1, none⟩) (Nat.le_refl _) (.slice none 0 0))
      rw [HRES.out]
      exact bodyPost_ret (v := .tuple #[.agg #[.int .i64 0, .slice none 0 0], .slice none 0 0, .int .i64 5]) (by simp [results, Try.results16, go_sem, hr0, hr1]) rfl ⟨⟨none, 0, 0, none, 0, 0, rfl, NewB.nil _ _ _ _ _, NewB.nil _ _ _ _ _⟩, HBF.out⟩
end Go.Proofs.Ytckfghdocaojgaa
