/- The law KindWrites. -/
import Derived.Test.YtdeeeipdgoafaaaRdW4
import Derived.Test.YtdeeeipdgoafaaaKindL1
import Derived.Test.YtdeeeipdgoafaaaKindT1
namespace Go.Proofs.Ytdeeeipdgoafaaa
open Go.RowKit
set_option linter.unusedVariables false
theorem wordsB_len (S : Int) (hS : S ≤ 4096) : ∀ (ps : List Int) (next : Int), 0 ≤ next → okFrom S next ps = true → (wordsB next ps).length ≤ 10 * ps.length := by
  intro ps
  induction ps with
  | nil => intro next _ _; simp [wordsB]
  | cons p r ih =>
    intro next h0 hok
    obtain ⟨q1, q2, q3, q4⟩ := okFrom_next hok
    have h1 := varB_len10 ((p - next) / 8).toNat (by omega)
    have h2 := ih (p + 8) (by omega) q4
    rw [wordsB_cons, List.length_append, List.length_cons]; omega
theorem kindB_len {S : Int} {ps : List Int} : (kindB S ps).length ≤ 1000 := by
  unfold kindB
  by_cases h : chk S ps = 0
  · rw [if_pos h]
    obtain ⟨h1, h2, h3, _⟩ := chk_zero h
    have q1 := varB_len10 S.toNat (by omega)
    have q2 := varB_len10 ps.length (by omega)
    have q3 := wordsB_len S h2 ps 0 (by omega) (chk_ok h)
    simp only [List.length_append]; omega
  · rw [if_neg h]; simp
set_option maxHeartbeats 4000000 in
set_option maxRecDepth 20000 in
theorem kindWrites_walk (S : Int) (A : Option Addr) (cap : Nat) (ps : List Int) (A' : Option Addr) (cap' : Nat) (more : List UInt8) (w : World) (hS : -9223372036854775808 ≤ S ∧ S ≤ 9223372036854775807) (hr : RdI w A ps) (hr' : RdB w A' more) (hl : more.length ≤ 140737488351232) :
    Calls Try.prog 8 #[.agg #[.int .i64 S, .slice A ps.length cap], .slice A' more.length cap'] w fun e w' => e = .returned (.bool true) ∧ Below w.heap.size w w' := by
  have HS := Lib.hid hS; clear hS
  have hg := heap_alloc_new w (.cells #[.int .i64 S, .slice A ps.length cap] 24 (0, 0))
  have HAL := Lib.hid (below_alloc w (.cells #[.int .i64 S, .slice A ps.length cap] 24 (0, 0)))
  have HR := Lib.hid (hr.below HAL.out)
  have HR' := Lib.hid (hr'.below HAL.out)
  have HG := Lib.hid hg
  clear hr hr' hg
  go_enter Try.func8, Try.ntmps8
  go_wp2_with fail
  generalize w.alloc (.cells #[.int .i64 S, .slice A ps.length cap] 24 (0, 0)) = x1 at *
  have HSX := Lib.hid (show w.heap.size < x1.heap.size from (Array.getElem?_eq_some_iff.1 HG.out).1)
  refine (kalive_any x1).mono ?_
  rintro e w1 ⟨rfl, hB1⟩
  have HB1 := Lib.hid hB1
  have HW1 := Lib.hid (belowT HAL.out hB1)
  clear hB1
  obtain ⟨hc0, hc1⟩ := cells2 ((HB1.out.block _ HSX.out).trans HG.out)
  by_cases hbig : 1000 < more.length
  · go_wp2
    go_ret
    exact ⟨rfl, HW1.out⟩
  · go_wp2_with fail
    refine (kbytes_any S A cap ps w1 HS.out (HR.out.below HB1.out)).mono ?_
    rintro e w2 ⟨A2, c2, rfl, hO2, hB2⟩
    have HO2 := Lib.hid hO2
    have HB2 := Lib.hid (belowT HB1.out hB2)
    clear hB2 hO2 hc0 hc1
    obtain ⟨hc0, hc1⟩ := cells2 ((HB2.out.block _ HSX.out).trans HG.out)
    go_wp2_with fail
    refine (refKbytes_any S A cap ps w2 HS.out (HR.out.below HB2.out)).mono ?_
    rintro e w3 ⟨A3, c3, rfl, hO3, hB3⟩
    have HO3 := Lib.hid hO3
    have HO2 := Lib.hid (HO2.out.below hB3)
    have HB3 := Lib.hid (belowT HB2.out hB3)
    clear hB3 hO3 hc0 hc1
    obtain ⟨hc0, hc1⟩ := cells2 ((HB3.out.block _ HSX.out).trans HG.out)
    have HKL := Lib.hid (kindB_len (S := S) (ps := ps))
    go_wp2_with fail
    refine (same_any A2 A3 _ _ c2 c3 _ _ w3 HO2.out.rdA HO3.out.rdA rfl rfl).mono ?_
    rintro e w4 ⟨rfl, rfl⟩
    rw [decide_eq_true rfl]
    go_wp2_with fail
    refine (refCheck_any S A cap ps w3 HS.out (HR.out.below HB3.out)).mono ?_
    rintro e w4 ⟨rfl, hB4⟩
    have HO4 := Lib.hid (HO2.out.below hB4)
    have HB4 := Lib.hid (belowT HB3.out hB4)
    clear hB4 hc0 hc1
    obtain ⟨hc0, hc1⟩ := cells2 ((HB4.out.block _ HSX.out).trans HG.out)
    by_cases hck : chk S ps = 0
    · have HCK := Lib.hid hck
      rw [hck]
      have HRK := Lib.hid (rdK_write S ps more hck)
      clear hck
      generalize kindB S ps = kb at *
      go_wp2_with fail
      refine (copy_any A2 _ c2 kb w4 HO4.out.rdA rfl (by have := HKL.out; omega)).mono ?_
      rintro e w5 ⟨A5, c5, rfl, hO5, hB5⟩
      have HO5 := Lib.hid hO5
      have HB5 := Lib.hid (belowT HB4.out hB5)
      have HS5 := Lib.hid hB5.size
      have HM5 := Lib.hid (HR'.out.below HB5.out)
      obtain ⟨ys, hys⟩ : ∃ ys, ys = kb ++ more := ⟨_, rfl⟩
      have HYS := Lib.hid hys
      have HYL := Lib.hid (show ys.length ≤ 2000 by rw [hys, List.length_append]; have := HKL.out; omega)
      clear hB5 hO5 hc0 hc1 hys
      go_wp2_with (at_builtin; go_loud (refine wpList_appB w5 w4.heap.size Try.slB (by rfl) (.tmp 27) (.tmp 28) (by rfl) _ kb (by rfl) HO5.out A' _ cap' more (by rfl) (by rfl) HM5.out ys HYS.out (by have := HYL.out; omega) (Below.refl _ _) HS5.out ?_); intro A6 c6 w6 hown6 hr6 hB6 hg6 hat6; have HR6 := Lib.hid hr6; have HB6 := Lib.hid hB6; clear hown6 hg6 hat6 hr6 hB6)
      have HB6 := Lib.hid (HB5.out.trans (HB6.out.mono HB4.out.size))
      refine (open_any A6 _ c6 ys w6 HR6.out rfl (by have := HYL.out; omega)).mono ?_
      rintro e w7 ⟨g, rfl, hR7, hg0, hg1, hB7⟩
      have HR7 := Lib.hid hR7
      have HG0 := Lib.hid (show x1.heap.size ≤ g ∧ g < w7.heap.size from ⟨Nat.le_trans HB6.out.size hg0, hg1⟩)
      have HB7 := Lib.hid (belowT HB6.out hB7)
      clear hR7 hg0 hg1 hB7
      go_wp2_with fail
      have hkr := kread_any HR7.out (by decide) (by have := HYL.out; omega) HG0.out.2 (Nat.le_refl _)
      rw [HYS.out, HRK.out] at hkr
      refine hkr.mono ?_
      rintro e w8 ⟨A8, c8, rfl, hO8, hz8, hR8, hg8⟩
      have HB8 := Lib.hid (below_grown HB7.out hg8 HB7.out.size (fun k hk => by cases hk; exact HG0.out.1))
      have HSZ8 := Lib.hid hg8.size
      have HR8 := Lib.hid (show Rdr w8 67 g w7.heap.size more 0 from hR8)
      have HI8 := Lib.hid (show RdI w8 A8 ps from ⟨HR.out.1, own_rd hO8, fun z hz => by have := hz8 z hz; omega⟩)
      have hba := below_alloc w8 (.cells #[.int .i64 S, .slice A8 ps.length c8] 24 (0, 0))
      have HB9 := Lib.hid (belowT HB8.out hba)
      have HI9 := Lib.hid (HI8.out.below hba)
      have HR9 := Lib.hid (HR8.out.keep (fun k hk => hba.block k hk) (by have := HG0.out; have := HSZ8.out; omega) HSZ8.out)
      have HK9 := Lib.hid (HR.out.below HB9.out)
      obtain ⟨hd0, hd1⟩ := cells2 (heap_alloc_new w8 (.cells #[.int .i64 S, .slice A8 ps.length c8] 24 (0, 0)))
      obtain ⟨hc0, hc1⟩ := cells2 ((HB9.out.block _ HSX.out).trans HG.out)
      clear hkr hO8 hz8 hR8 hg8 hba
      go_wp2_with fail
      generalize w8.alloc (.cells #[.int .i64 S, .slice A8 ps.length c8] 24 (0, 0)) = x9 at *
      refine (rerr_any HR9.out).mono ?_
      rintro e w10 ⟨rfl, rfl⟩
      go_wp2_with fail
      have hlf := rleft_any HR9.out
      rw [show leftN more 0 = more.length from rfl] at hlf
      refine hlf.mono ?_
      rintro e w10 ⟨rfl, rfl⟩
      clear hlf
      go_wp2_with fail
      refine (ksame_any S S A8 A c8 cap ps ps x9 HI9.out HK9.out).mono ?_
      rintro e w10 ⟨rfl, hB10⟩
      rw [decide_eq_true ⟨rfl, rfl⟩]
      go_wp2
      go_ret
      exact ⟨rfl, belowT HAL.out (belowT HB9.out hB10)⟩
    · have hkb : kindB S ps = [] := by unfold kindB; rw [if_neg hck]
      rw [hkb]
      have hne : (chk S ps != 0) = true := by simpa using hck
      clear hkb hck
      generalize chk S ps = ck at *
      go_wp2
      go_ret
      exact ⟨rfl, belowT HAL.out HB4.out⟩
theorem kindWrites_front (cs : Array Value) (A' : Option Addr) (cap' : Nat) (more : List UInt8) (W : World) (hz : cs.size = 2) (hR : rStruct [rInt .i64, rSlice 1 8 (rInt .i64)] W cs.toList) (hr' : RdB W A' more) (hl : more.length ≤ 140737488351232) :
    Calls Try.prog 8 #[.agg cs, .slice A' more.length cap'] W fun e w' => e = .returned (.bool true) ∧ Below W.heap.size W w' := by
  obtain ⟨S, A, cap, ps, rfl, hS, hr, _⟩ := kind_in hz hR
  exact kindWrites_walk S A cap ps A' cap' more W hS hr hr' hl
end Go.Proofs.Ytdeeeipdgoafaaa
