/- Frames: the plain words, and the walks of frame.Encode, of the program and of the reference. -/
import Derived.Test.YtckfghdocaojgaaNumPG
import Derived.Test.YtckfghdocaojgaaSumW2
import Derived.Test.YtckfghdocaojgaaSumPlain
namespace Go.Proofs.Ytckfghdocaojgaa
open Go.RowKit
/-- What stands before a frame's sum, and the frame. -/
def hdB (k : Nat) (body : List UInt8) : List UInt8 := UInt8.ofNat k :: (leB body.length 2 ++ body)
def frB (k : Nat) (body : List UInt8) : List UInt8 := hdB k body ++ leB (sum (hdB k body)) 4
def encErr (kind : Int) (body : List UInt8) : Int := if 1 ≤ kind ∧ kind ≤ 255 then (if body.length ≤ 65535 then 0 else 6) else 11
def encB (kind : Int) (body : List UInt8) : List UInt8 := if encErr kind body = 0 then frB kind.toNat body else []
theorem hdB_length (k : Nat) (body : List UInt8) : (hdB k body).length = body.length + 3 := by simp [hdB, leB_length]; omega
theorem frB_length (k : Nat) (body : List UInt8) : (frB k body).length = body.length + 7 := by simp [frB, hdB_length, leB_length]
theorem run_mkOwn {P : Program} {t e : TypeId} (hT : SlT P t e (.int .u8 0) 1 1) (w : World) (base c : Nat) (hc : c ≤ 281474976710656) (hbase : base ≤ w.heap.size) :
    ∃ w', (Instr.makeSlice t (.int .i64 0) (.int .i64 (c : Int))).run P w = .ok (.slice (some ⟨w.heap.size, 0, none⟩) 0 c) w' ∧ OwnB w' base e (.slice (some ⟨w.heap.size, 0, none⟩) 0 c) [] ∧ Below w.heap.size w w' := by
  obtain ⟨i, hi, hz⟩ := Option.map_eq_some_iff.1 hT.inf
  simp only [Prod.mk.injEq] at hz
  obtain ⟨hz0, hz1, hz2⟩ := hz
  obtain ⟨w', h1, h2, h3⟩ := run_make_own (P := P) w base t e i _ 1 hT.und hi hz0 hz1 .i64 .i64 c (by rw [hz2]; omega) (by simp only [maxLen]; omega) hbase
  exact ⟨w', h1, h2, ⟨h3.os, h3.tape, h3.output, h3.size, fun k hk => h3.block k hk (by simp)⟩⟩
set_option maxHeartbeats 1000000 in
set_option maxRecDepth 20000 in
theorem encode_any (kind : Int) (A : Option Addr) (cap : Nat) (body : List UInt8) (w : World) (hk : -9223372036854775808 ≤ kind ∧ kind ≤ 9223372036854775807) (hr : RdB w A body) :
    Calls Try.prog 11 #[.agg #[.int .i64 kind, .slice A body.length cap]] w fun e w' => ∃ A' c', e = .returned (.tuple #[.slice A' (encB kind body).length c', .int .i64 (encErr kind body)]) ∧ OwnB w' w.heap.size 5 (.slice A' (encB kind body).length c') (encB kind body) ∧ Below w.heap.size w w' := by
  have hlen := hr.1
  by_cases h1 : 1 ≤ kind ∧ kind ≤ 255
  · by_cases h2 : body.length ≤ 65535
    · have he : encErr kind body = 0 := by unfold encErr; rw [if_pos h1, if_pos h2]
      have hb : encB kind body = frB kind.toNat body := by unfold encB; rw [if_pos he]
      rw [he, hb]
      obtain ⟨h1, h3⟩ := h1
      obtain ⟨k, rfl⟩ := Int.eq_ofNat_of_zero_le (show 0 ≤ kind by omega)
      have hal : Below w.heap.size w (w.alloc (.cells #[.int .i64 (k : Int), .slice A body.length cap] 29 (0, 0))) := (Below.refl _ _).alloc (Nat.le_refl _) _
      have hg0 := heap_alloc_new w (.cells #[.int .i64 (k : Int), .slice A body.length cap] 29 (0, 0))
      obtain ⟨w1, hw1⟩ : ∃ w1, w1 = w.alloc (.cells #[.int .i64 (k : Int), .slice A body.length cap] 29 (0, 0)) := ⟨_, rfl⟩
      have hs1 : w1.heap.size = w.heap.size + 1 := by rw [hw1]; simp [go_sem]
      obtain ⟨w2, hmk, hO2, hB2⟩ := run_mkOwn Try.slB w1 (w.heap.size + 1) (body.length + 7) (by omega) (by omega)
      rw [show ((body.length + 7 : Nat) : Int) = (body.length : Int) + 7 by omega] at hmk
      rw [← hw1] at hal hg0
      have hc0 : w1.cell? ⟨w.heap.size, 0, none⟩ = some (.int .i64 (k : Int)) := by rw [cell_of_row _ _ _ _ _ _ hg0]; rfl
      have hc1 : w1.cell? ⟨w.heap.size, 1, none⟩ = some (.slice A body.length cap) := by rw [cell_of_row _ _ _ _ _ _ hg0]; rfl
      have hd0 := cell_below hB2 hc0
      have hd1 := cell_below hB2 hc1
      have HR1 := Lib.hid (hr.below hal)
      have HW := Lib.hid hal; clear hal
      have HS1 := Lib.hid hs1
      rw [hs1] at hmk hO2 hB2
      have HBR := Lib.hid (show w.heap.size + 1 ≤ w1.heap.size by omega)
      rw [show ((k : Int)).toNat = k from rfl]
      obtain ⟨y5, hy5⟩ : ∃ y5, y5 = UInt8.ofNat k :: leB body.length 2 := ⟨_, rfl⟩
      obtain ⟨y6, hy6⟩ : ∃ y6, y6 = hdB k body := ⟨_, rfl⟩
      obtain ⟨y7, hy7⟩ : ∃ y7, y7 = frB k body := ⟨_, rfl⟩
      rw [← hy7]
      have HL5 := Lib.hid (show y5.length = 3 by rw [hy5]; simp [leB_length])
      have HY5 := Lib.hid (show y5 = [UInt8.ofNat k] ++ leB body.length 2 from hy5)
      have HY6 := Lib.hid (show y6 = y5 ++ body by rw [hy6, hy5]; rfl)
      have HL6 := Lib.hid (show y6.length = body.length + 3 by rw [hy6, hdB_length])
      have HY7 := Lib.hid (show y7 = y6 ++ leB (sum y6) 4 by rw [hy7, hy6]; rfl)
      have HL7 := Lib.hid (show y7.length = body.length + 7 by rw [hy7, frB_length])
      clear hy5 hy6 hy7
      clear hg0 hr hb he hk
      have HO2 := Lib.hid hO2; clear hO2
      have HB2 := Lib.hid hB2; clear hB2
      have HC0 := Lib.hid hc0; clear hc0
      have HC1 := Lib.hid hc1; clear hc1
      have HV := Lib.hid (show (k : Int) = ((UInt8.ofNat k).toNat : Int) by rw [u8lit]; omega)
      go_enter Try.func11, Try.ntmps11
      rw [hw1] at hmk
      go_wp2_with (at_builtin; go_loud (refine wpList_appB w1 (w.heap.size + 1) Try.slB rfl (.tmp 24) (.tmp 28) rfl _ [] rfl (HO2.out.alloc _) (some ⟨w2.heap.size, 0, none⟩) 1 1 [UInt8.ofNat k] rfl rfl (RdB.one w2 _ _ _ HV.out) [UInt8.ofNat k] rfl (by simp) (HB2.out.alloc (Nat.le_trans HBR.out HB2.out.size) _) HBR.out ?_); intro A3 c3 w3 hown3 hr3 hB3 hg3 hat3; clear hg3 hat3 hr3; have hd0 := (hB3.cell (p := ⟨w.heap.size, 0, none⟩) (Nat.lt_succ_self _)).trans HC0.out; have hd1 := (hB3.cell (p := ⟨w.heap.size, 1, none⟩) (Nat.lt_succ_self _)).trans HC1.out; have HO3 := Lib.hid hown3; clear hown3; have HB3 := Lib.hid hB3; clear hB3)
      clear hmk hw1 HO2 HB2 HV
      refine (put2_any body.length w3 (by omega)).mono ?_
      rintro e w4 ⟨A4, c4, rfl, hr4, hB4⟩
      have he0 := cell_below hB4 hd0
      have he1 := cell_below hB4 hd1
      have HO4 := Lib.hid (HO3.out.below hB4)
      have HB4 := Lib.hid (below_then HB3.out HBR.out hB4)
      have HR4 := Lib.hid hr4
      clear hd0 hd1 HO3 HB3 hB4 hr4
      go_wp2_with (first
        | (at_builtin; refine wpList_appB w1 (w.heap.size + 1) Try.slB rfl (.tmp 30) (.tmp 35) rfl _ [UInt8.ofNat k] rfl HO4.out A4 2 c4 (leB body.length 2) rfl rfl HR4.out y5 HY5.out (by have := HL5.out; omega) HB4.out HBR.out ?_; intro A5 c5 w5 hown5 hr5 hB5 hg5 hat5; clear hg5 hat5 hr5; have hf0 := (hB5.cell (p := ⟨w.heap.size, 0, none⟩) (Nat.lt_succ_self _)).trans HC0.out; have hf1 := (hB5.cell (p := ⟨w.heap.size, 1, none⟩) (Nat.lt_succ_self _)).trans HC1.out; have HR5 := Lib.hid (RdB.below HR1.out (by rw [HS1.out]; exact hB5)); have HO5 := Lib.hid hown5; clear hown5; have HB5 := Lib.hid hB5; clear hB5)
        | (at_builtin; refine wpList_appB w1 (w.heap.size + 1) Try.slB rfl (.tmp 37) (.tmp 39) rfl _ y5 rfl HO5.out A _ cap body rfl rfl HR5.out y6 HY6.out (by have := HL6.out; omega) HB5.out HBR.out ?_; intro A6 c6 w6 hown6 hr6 hB6 hg6 hat6; clear hg6 hat6; have HR6 := Lib.hid hr6; clear hr6; have HO6 := Lib.hid hown6; clear hown6; have HB6 := Lib.hid hB6; clear hB6))
      have HS := Lib.hid (sum_lt y6)
      refine (sum_any A6 c6 y6 w6 HR6.out).mono ?_
      rintro e w7 ⟨rfl, rfl⟩
      obtain ⟨s6, hs6⟩ : ∃ s6, s6 = sum y6 := ⟨_, rfl⟩
      rw [← hs6]
      have HS2 := Lib.hid (show s6 < 4294967296 by rw [hs6]; exact HS.out)
      have HY7' := Lib.hid (show y7 = y6 ++ leB s6 4 by rw [hs6]; exact HY7.out)
      clear hs6 HS HY7
      have hs32 : IntKind.u64.wrap (s6 : Int) = (s6 : Int) := wrap_u64_nat _ (by have := HS2.out; omega)
      clear hs1 hd0 hd1 he0 he1 hf0 hf1 HR1 HC0 HC1 HO4 HB4 HR4 HR5 HO5 HB5
      go_wp2_with fail
      refine (put4_any s6 w6 (by have := HS2.out; omega)).mono ?_
      rintro e w8 ⟨A8, c8, rfl, hr8, hB8⟩
      have HO8 := Lib.hid (HO6.out.below hB8)
      have HB8 := Lib.hid (below_then HB6.out HBR.out hB8)
      have HR8 := Lib.hid hr8
      clear HO6 HB6 hB8 hr8
      go_wp2_with (at_builtin; go_loud (refine wpList_appB w1 (w.heap.size + 1) Try.slB rfl (.tmp 41) (.tmp 45) rfl _ y6 rfl HO8.out A8 4 c8 (leB s6 4) rfl rfl HR8.out y7 HY7'.out (by have := HL7.out; omega) HB8.out HBR.out ?_); intro A9 c9 w9 hown9 hr9 hB9 hg9 hat9; clear hg9 hat9 hr9)
      go_ret2
      exact ⟨_, _, rfl, own_le hown9 (by omega), HW.out.trans (hB9.mono (by omega))⟩
    · have he : encErr kind body = 6 := by unfold encErr; rw [if_pos h1, if_neg h2]
      have hb : encB kind body = [] := by unfold encB; rw [if_neg (by omega)]
      rw [he, hb]
      obtain ⟨h1, h3⟩ := h1
      go_enter Try.func11, Try.ntmps11
      go_wp2
      go_ret2
      exact ⟨none, 0, rfl, own_nil _ _ _ _, (Below.refl _ _).alloc (Nat.le_refl _) _⟩
  · have he : encErr kind body = 11 := by unfold encErr; rw [if_neg h1]
    have hb : encB kind body = [] := by unfold encB; rw [if_neg (by omega)]
    rw [he, hb]
    have hc : kind < 1 ∨ (1 ≤ kind ∧ 255 < kind) := by omega
    clear h1 he hb
    rcases hc with h1 | ⟨h1, h2⟩
    all_goals (
      go_enter Try.func11, Try.ntmps11
      go_wp2
      go_ret2
      exact ⟨none, 0, rfl, own_nil _ _ _ _, (Below.refl _ _).alloc (Nat.le_refl _) _⟩)
end Go.Proofs.Ytckfghdocaojgaa
