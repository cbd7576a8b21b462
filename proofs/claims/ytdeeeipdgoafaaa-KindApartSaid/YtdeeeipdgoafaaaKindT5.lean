/- The walk of the reference's All: the same kinds. -/
import Derived.Test.YtdeeeipdgoafaaaKindT4
namespace Go.Proofs.Ytdeeeipdgoafaaa
open Go.RowKit
attribute [local go_sem ↓] Go.wp_at_zero Go.wp_at_succ
set_option maxHeartbeats 4000000 in
set_option maxRecDepth 20000 in
theorem kall_any (A A' : Option Addr) (n c c' : Nat) (vs vs' : List Value) (ks : List Kd) (w : World) (hr : RdL w A vs) (hk : KdE w vs ks) (hr' : RdL w A' vs') (hk' : KdE w vs' ks) (hn : n = ks.length) (h63 : n ≤ 9223372036854775807) :
    Calls Try.prog 23 #[.slice A n c, .slice A' n c'] w fun e w' => e = .returned (.bool true) ∧ Below w.heap.size w w' := by
  have HN := Lib.hid hn; clear hn
  have HK := Lib.hid hk; clear hk
  have HK' := Lib.hid hk'; clear hk'
  have HR := Lib.hid hr; clear hr
  have HR' := Lib.hid hr'; clear hr'
  go_enter Try.func23, Try.ntmps23
  go_wp2_with fail
  go_loopw [5, 13, 14, 15, 16, 17, 18, 19, 20, 21, 22, 23, 24, 25, 26] (fun _ i _ _ _ _ _ _ _ _ _ _ _ _ _ wr => ∃ k : Nat, k ≤ n ∧ i = .int .i64 k ∧ Hid (Below w.heap.size w wr)) (fun _ i _ _ _ _ _ _ _ _ _ _ _ _ _ _ => n - (intOf i).toNat)
  case atStart => exact ⟨0, by omega, rfl, Below.refl _ _⟩
  case round =>
    obtain ⟨k, hkn, rfl, HB⟩ := hrel
    by_cases hlt : k < n
    · have hkl : k < ks.length := by have := HN.out; omega
      obtain ⟨b, off, hA, hbl, hcs⟩ := HK.out.cells HR.out (by omega)
      obtain ⟨A3, c3, hc0, hc1, hr3, _⟩ := hcs k hkl
      obtain ⟨b', off', hA', hbl', hcs'⟩ := HK'.out.cells HR'.out (by omega)
      obtain ⟨A4, c4, hd0, hd1, hr4, _⟩ := hcs' k hkl
      generalize ks[k].1 = S at *
      generalize ks[k].2 = ps at *
      subst hA hA'
      have he0 := cell_below HB.out hc0
      have he1 := cell_below HB.out hc1
      have hf0 := cell_below HB.out hd0
      have hf1 := cell_below HB.out hd1
      have HE := Lib.hid (And.intro (And.intro he0 he1) (And.intro hf0 hf1))
      have HR3 := Lib.hid (hr3.below HB.out)
      have HR4 := Lib.hid (hr4.below HB.out)
      have hi0 : (0 : Int) ≤ (k : Int) := by omega
      have hbw : b < wr.heap.size := World.block_lt_of_cell? wr _ he0
      have hbw' : b' < wr.heap.size := World.block_lt_of_cell? wr _ hf0
      have HBW := Lib.hid (And.intro hbw hbw')
      clear hcs hcs' hc0 hc1 hd0 hd1 hr3 hr4 hbl hbl'
      go_wp2
      go_region_held3 (fun w' => w'.cell? ⟨b, off + k * 2, none⟩ = some (.int .i64 S) ∧ w'.cell? ⟨b, off + k * 2 + 1, none⟩ = some (.slice A3 ps.length c3) ∧ w'.cell? ⟨b', off' + k * 2, none⟩ = some (.int .i64 S) ∧ w'.cell? ⟨b', off' + k * 2 + 1, none⟩ = some (.slice A4 ps.length c4)) (first | exact ⟨HE.out.1.1, HE.out.1.2, HE.out.2.1, HE.out.2.2⟩ | exact ⟨(hb7.cell HBW.out.1).trans HE.out.1.1, (hb7.cell HBW.out.1).trans HE.out.1.2, (hb7.cell HBW.out.2).trans HE.out.2.1, (hb7.cell HBW.out.2).trans HE.out.2.2⟩) ((go_at_call 14; refine (ksame_any S S A3 A4 c3 c4 ps ps _ (by exact HR3.out) (by exact HR4.out)).mono ?_; rintro e w7 ⟨rfl, hb7⟩; rw [decide_eq_true (show S = S ∧ ps = ps from ⟨rfl, rfl⟩)]; have HB7 := Lib.hid hb7))
      go_wp2
      go_roundw
      case rel => exact ⟨k + 1, by omega, by go_num, belowT HB.out (belowT (Below.drew (Below.refl _ _)) HB7.out)⟩
      case measure => simp [intOf]; omega
    · obtain rfl : k = n := by omega
      go_wp2
      go_ret
      exact ⟨rfl, HB.out⟩
end Go.Proofs.Ytdeeeipdgoafaaa
