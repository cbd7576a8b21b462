/- The contracts of the statement's own 'want', kind by kind (1 2 3 4). -/
import Derived.Test.YtjfbopnohijhkaaArenaD0
namespace Go.Proofs.Ytjfbopnohijhkaa
open Go.RowKit
set_option linter.unusedVariables false
section
variable {T : TypeId} {g gb : Nat} {base : Int} {bs : List UInt8} {w : World}
set_option maxHeartbeats 4000000 in
set_option maxRecDepth 20000 in
theorem want1_any (hA : Arn w T g gb base bs) (at_ to_ n : Int) (Wd : Nat) (A : Option Addr) (cap : Nat) (xs : List UInt8) (near : Bool) (hW : Wd < 18446744073709551616) (hr : RdB w A xs) (hne : ∀ a, A = some a → 0 < xs.length → a.block ≠ gb) :
    Calls Try.prog 28 #[.pointer (some ⟨g, 0, none⟩), .agg #[.int .i64 1, .int .i64 at_, .int .i64 to_, .int .i64 n, .int .u64 (Wd : Int), .slice A xs.length cap, .bool near]] w fun e w' => DoPost w T g gb base (ans1 base bs (nearA base near at_) n) e w' := by
  obtain ⟨t1, t2⟩ := tmod_bd at_
  obtain ⟨t3, t4⟩ := tmod_bd to_
  have hb0 := hA.b0
  have hb1 := hA.b1
  have hw1 : IntKind.i64.wrap (base + at_.tmod 2000) = base + at_.tmod 2000 := wrap_i64_in (by omega) (by omega)
  have hw2 : IntKind.i64.wrap (base + to_.tmod 2000) = base + to_.tmod 2000 := wrap_i64_in (by omega) (by omega)
  clear t1 t2 t3 t4
  have HB01 := Lib.hid (And.intro hb0 hb1)
  have HW := Lib.hid hW; clear hW
  have HLT := Lib.hid hA.lt
  have HNE := Lib.hid hne; clear hne
  obtain ⟨x1, hx1⟩ : ∃ x1, x1 = (w.alloc (.cells #[.int .i64 1, .int .i64 at_, .int .i64 to_, .int .i64 n, .int .u64 (Wd : Int), .slice A xs.length cap, .bool near] 57 (0, 0))).alloc (.cells #[.int .i64 0, .int .i64 0, .int .i64 0] 52 (0, 0)) := ⟨_, rfl⟩
  have hal : Below w.heap.size w x1 := by rw [hx1]; exact ((Below.refl _ _).alloc (Nat.le_refl _) _).alloc (by simp) _
  have hgr : x1.heap[w.heap.size + 1]? = some (.cells #[.int .i64 0, .int .i64 0, .int .i64 0] 52 (0, 0)) := by rw [hx1]; exact heap_alloc2_new _ _ _
  have hgb : x1.heap[w.heap.size]? = some (.cells #[.int .i64 1, .int .i64 at_, .int .i64 to_, .int .i64 n, .int .u64 (Wd : Int), .slice A xs.length cap, .bool near] 57 (0, 0)) := by rw [hx1, Below.heap_alloc _ _ _ (by simp)]; exact heap_alloc_new w _
  have hsz : x1.heap.size = w.heap.size + 2 := by rw [hx1]; simp
  have HA := Lib.hid (hA.below hal)
  have HR := Lib.hid (hr.below hal)
  have hc0 : x1.cell? ⟨w.heap.size, 0, none⟩ = some (.int .i64 1) := (cell_of_row _ _ _ _ _ _ hgb).trans rfl
  have hc1 : x1.cell? ⟨w.heap.size, 1, none⟩ = some (.int .i64 at_) := (cell_of_row _ _ _ _ _ _ hgb).trans rfl
  have hc2 : x1.cell? ⟨w.heap.size, 2, none⟩ = some (.int .i64 to_) := (cell_of_row _ _ _ _ _ _ hgb).trans rfl
  have hc3 : x1.cell? ⟨w.heap.size, 3, none⟩ = some (.int .i64 n) := (cell_of_row _ _ _ _ _ _ hgb).trans rfl
  have hc4 : x1.cell? ⟨w.heap.size, 4, none⟩ = some (.int .u64 (Wd : Int)) := (cell_of_row _ _ _ _ _ _ hgb).trans rfl
  have hc5 : x1.cell? ⟨w.heap.size, 5, none⟩ = some (.slice A xs.length cap) := (cell_of_row _ _ _ _ _ _ hgb).trans rfl
  have hc6 : x1.cell? ⟨w.heap.size, 6, none⟩ = some (.bool near) := (cell_of_row _ _ _ _ _ _ hgb).trans rfl
  have HG := Lib.hid hgr
  have HSZ := Lib.hid hsz
  have HAL := Lib.hid hal
  have HX := Lib.hid hx1
  clear hgb hgr hsz hal hA hr hb0 hb1 hx1
  cases near
  · show Calls _ _ _ _ fun e w' => DoPost w T g gb base (ans1 base bs at_ n) e w'
    go_enter Try.func28, Try.ntmps28
    go_wp2_with fail
    rw [← HX.out]
    go_quiet (fail)
    have hd0 : (x1.drewN nq).cell? ⟨w.heap.size, 0, none⟩ = some (.int .i64 1) := hc0
    have hd1 : (x1.drewN nq).cell? ⟨w.heap.size, 1, none⟩ = some (.int .i64 at_) := hc1
    have hd2 : (x1.drewN nq).cell? ⟨w.heap.size, 2, none⟩ = some (.int .i64 to_) := hc2
    have hd3 : (x1.drewN nq).cell? ⟨w.heap.size, 3, none⟩ = some (.int .i64 n) := hc3
    have hd4 : (x1.drewN nq).cell? ⟨w.heap.size, 4, none⟩ = some (.int .u64 (Wd : Int)) := hc4
    have hd5 : (x1.drewN nq).cell? ⟨w.heap.size, 5, none⟩ = some (.slice A xs.length cap) := hc5
    have hd6 : (x1.drewN nq).cell? ⟨w.heap.size, 6, none⟩ = some (.bool false) := hc6
    have HAn := Lib.hid (HA.out.drewN nq); have HRn := Lib.hid (show RdB (x1.drewN nq) A xs from HR.out); have HGn := Lib.hid (show (x1.drewN nq).heap[w.heap.size + 1]? = some (.cells #[.int .i64 0, .int .i64 0, .int .i64 0] 52 (0, 0)) from HG.out); have HSn := Lib.hid (show (x1.drewN nq).heap.size = w.heap.size + 2 from HSZ.out); have HALn := Lib.hid (below_drewN HAL.out nq)
    clear hc0 hc1 hc2 hc3 hc4 hc5 hc6 HA HR HG HSZ HAL
    generalize x1.drewN nq = y1 at *
    have hc0 := hd0
    have hc1 := hd1
    have hc2 := hd2
    have hc3 := hd3
    have hc4 := hd4
    have hc5 := hd5
    have hc6 := hd6
    have HA := Lib.hid HAn.out; have HR := Lib.hid HRn.out; have HG := Lib.hid HGn.out; have HSZ := Lib.hid HSn.out; have HAL := Lib.hid HALn.out
    clear hd0 hd1 hd2 hd3 hd4 hd5 hd6 HAn HRn HGn HSn HALn
    go_wp2_with fail
    refine (refRead_any HA.out at_ n).mono ?_
    rintro e w3 ⟨v, rfl, hO3, hB3⟩
    obtain ⟨A3, c3, rfl, hr3⟩ := hO3.rd
    have HA3 := Lib.hid (HA.out.below hB3)
    have HO3 := Lib.hid (show OwnB w3 (w.heap.size + 1 + 1) 5 _ _ from own_le hO3 (by have := HSZ.out; omega)); have HR3 := Lib.hid hr3
    have HRW := Lib.hid (((grown_of_below hB3 (some gb)).block (w.heap.size + 1) (by have := HSZ.out; omega) (fun h => by have := HLT.out.2; simp at h; omega)).trans HG.out)
    have HGR := Lib.hid ((grown_of_below HAL.out (some gb)).trans (grown_of_below hB3 (some gb)))
    clear hO3 hB3 hr3
    clear hc0 hc1 hc2 hc3 hc4 hc5 hc6
    obtain ⟨hz0, hz1, hz2⟩ := cells3 HRW.out
    have hzf := fun j => frozen_of_row w3 (w.heap.size + 1) j _ _ HRW.out
    go_wp2
    obtain ⟨hr0, hr1, hr2⟩ := cells3 (set3_heap (a := .int .i64 (okN (inA base bs.length at_ n))) (b := .int .i64 0) (c := .int .i64 0) HRW.out)
    simp only [set3] at hr0 hr1 hr2
    exact bodyPost_ret (v := .tuple #[.agg #[.int .i64 (okN (inA base bs.length at_ n)), .int .i64 0, .int .i64 0], .int .u64 0, .slice A3 (rdA base bs at_ n).length c3]) (by simp [results, Try.results28, go_sem, hr0, hr1, hr2]) rfl (do_end (Nat.le_succ _) HLT.out.1 HLT.out.2 (ans1 base bs at_ n) _ _ _ rfl HO3.out HA3.out rfl HGR.out _ _ _ _ rfl)
  · show Calls _ _ _ _ fun e w' => DoPost w T g gb base (ans1 base bs (base + at_.tmod 2000) n) e w'
    go_enter Try.func28, Try.ntmps28
    go_wp2_with fail
    rw [← HX.out]
    go_quiet (fail)
    have hd0 : (x1.drewN nq).cell? ⟨w.heap.size, 0, none⟩ = some (.int .i64 1) := hc0
    have hd1 : (x1.drewN nq).cell? ⟨w.heap.size, 1, none⟩ = some (.int .i64 at_) := hc1
    have hd2 : (x1.drewN nq).cell? ⟨w.heap.size, 2, none⟩ = some (.int .i64 to_) := hc2
    have hd3 : (x1.drewN nq).cell? ⟨w.heap.size, 3, none⟩ = some (.int .i64 n) := hc3
    have hd4 : (x1.drewN nq).cell? ⟨w.heap.size, 4, none⟩ = some (.int .u64 (Wd : Int)) := hc4
    have hd5 : (x1.drewN nq).cell? ⟨w.heap.size, 5, none⟩ = some (.slice A xs.length cap) := hc5
    have hd6 : (x1.drewN nq).cell? ⟨w.heap.size, 6, none⟩ = some (.bool true) := hc6
    have HAn := Lib.hid (HA.out.drewN nq); have HRn := Lib.hid (show RdB (x1.drewN nq) A xs from HR.out); have HGn := Lib.hid (show (x1.drewN nq).heap[w.heap.size + 1]? = some (.cells #[.int .i64 0, .int .i64 0, .int .i64 0] 52 (0, 0)) from HG.out); have HSn := Lib.hid (show (x1.drewN nq).heap.size = w.heap.size + 2 from HSZ.out); have HALn := Lib.hid (below_drewN HAL.out nq)
    clear hc0 hc1 hc2 hc3 hc4 hc5 hc6 HA HR HG HSZ HAL
    generalize x1.drewN nq = y1 at *
    have hc0 := hd0
    have hc1 := hd1
    have hc2 := hd2
    have hc3 := hd3
    have hc4 := hd4
    have hc5 := hd5
    have hc6 := hd6
    have HA := Lib.hid HAn.out; have HR := Lib.hid HRn.out; have HG := Lib.hid HGn.out; have HSZ := Lib.hid HSn.out; have HAL := Lib.hid HALn.out
    clear hd0 hd1 hd2 hd3 hd4 hd5 hd6 HAn HRn HGn HSn HALn
    have hq0 := HA.out.c0
    have hglt := HA.out.lt.1
    go_wp2_with fail
    go_quiet (fail)
    clear hq0
    have hd0 : (y1.drewN nq).cell? ⟨w.heap.size, 0, none⟩ = some (.int .i64 1) := hc0
    have hd1 : (y1.drewN nq).cell? ⟨w.heap.size, 1, none⟩ = some (.int .i64 at_) := hc1
    have hd2 : (y1.drewN nq).cell? ⟨w.heap.size, 2, none⟩ = some (.int .i64 to_) := hc2
    have hd3 : (y1.drewN nq).cell? ⟨w.heap.size, 3, none⟩ = some (.int .i64 n) := hc3
    have hd4 : (y1.drewN nq).cell? ⟨w.heap.size, 4, none⟩ = some (.int .u64 (Wd : Int)) := hc4
    have hd5 : (y1.drewN nq).cell? ⟨w.heap.size, 5, none⟩ = some (.slice A xs.length cap) := hc5
    have hd6 : (y1.drewN nq).cell? ⟨w.heap.size, 6, none⟩ = some (.bool true) := hc6
    have HAn := Lib.hid (HA.out.drewN nq); have HRn := Lib.hid (show RdB (y1.drewN nq) A xs from HR.out); have HGn := Lib.hid (show (y1.drewN nq).heap[w.heap.size + 1]? = some (.cells #[.int .i64 0, .int .i64 0, .int .i64 0] 52 (0, 0)) from HG.out); have HSn := Lib.hid (show (y1.drewN nq).heap.size = w.heap.size + 2 from HSZ.out); have HALn := Lib.hid (below_drewN HAL.out nq)
    clear hc0 hc1 hc2 hc3 hc4 hc5 hc6 HA HR HG HSZ HAL
    generalize y1.drewN nq = y2 at *
    have hc0 := hd0
    have hc1 := hd1
    have hc2 := hd2
    have hc3 := hd3
    have hc4 := hd4
    have hc5 := hd5
    have hc6 := hd6
    have HA := Lib.hid HAn.out; have HR := Lib.hid HRn.out; have HG := Lib.hid HGn.out; have HSZ := Lib.hid HSn.out; have HAL := Lib.hid HALn.out
    clear hd0 hd1 hd2 hd3 hd4 hd5 hd6 HAn HRn HGn HSn HALn
    go_wp2_with fail
    refine (refRead_any HA.out (base + at_.tmod 2000) n).mono ?_
    rintro e w3 ⟨v, rfl, hO3, hB3⟩
    obtain ⟨A3, c3, rfl, hr3⟩ := hO3.rd
    have HA3 := Lib.hid (HA.out.below hB3)
    have HO3 := Lib.hid (show OwnB w3 (w.heap.size + 1 + 1) 5 _ _ from own_le hO3 (by have := HSZ.out; omega)); have HR3 := Lib.hid hr3
    have HRW := Lib.hid (((grown_of_below hB3 (some gb)).block (w.heap.size + 1) (by have := HSZ.out; omega) (fun h => by have := HLT.out.2; simp at h; omega)).trans HG.out)
    have HGR := Lib.hid ((grown_of_below HAL.out (some gb)).trans (grown_of_below hB3 (some gb)))
    clear hO3 hB3 hr3
    clear hc0 hc1 hc2 hc3 hc4 hc5 hc6
    obtain ⟨hz0, hz1, hz2⟩ := cells3 HRW.out
    have hzf := fun j => frozen_of_row w3 (w.heap.size + 1) j _ _ HRW.out
    go_wp2
    obtain ⟨hr0, hr1, hr2⟩ := cells3 (set3_heap (a := .int .i64 (okN (inA base bs.length (base + at_.tmod 2000) n))) (b := .int .i64 0) (c := .int .i64 0) HRW.out)
    simp only [set3] at hr0 hr1 hr2
    exact bodyPost_ret (v := .tuple #[.agg #[.int .i64 (okN (inA base bs.length (base + at_.tmod 2000) n)), .int .i64 0, .int .i64 0], .int .u64 0, .slice A3 (rdA base bs (base + at_.tmod 2000) n).length c3]) (by simp [results, Try.results28, go_sem, hr0, hr1, hr2]) rfl (do_end (Nat.le_succ _) HLT.out.1 HLT.out.2 (ans1 base bs (base + at_.tmod 2000) n) _ _ _ rfl HO3.out HA3.out rfl HGR.out _ _ _ _ rfl)
set_option maxHeartbeats 4000000 in
set_option maxRecDepth 20000 in
theorem want2_any (hA : Arn w T g gb base bs) (at_ to_ n : Int) (Wd : Nat) (A : Option Addr) (cap : Nat) (xs : List UInt8) (near : Bool) (hW : Wd < 18446744073709551616) (hr : RdB w A xs) (hne : ∀ a, A = some a → 0 < xs.length → a.block ≠ gb) :
    Calls Try.prog 28 #[.pointer (some ⟨g, 0, none⟩), .agg #[.int .i64 2, .int .i64 at_, .int .i64 to_, .int .i64 n, .int .u64 (Wd : Int), .slice A xs.length cap, .bool near]] w fun e w' => DoPost w T g gb base (ans2 base bs (nearA base near at_) xs) e w' := by
  obtain ⟨t1, t2⟩ := tmod_bd at_
  obtain ⟨t3, t4⟩ := tmod_bd to_
  have hb0 := hA.b0
  have hb1 := hA.b1
  have hw1 : IntKind.i64.wrap (base + at_.tmod 2000) = base + at_.tmod 2000 := wrap_i64_in (by omega) (by omega)
  have hw2 : IntKind.i64.wrap (base + to_.tmod 2000) = base + to_.tmod 2000 := wrap_i64_in (by omega) (by omega)
  clear t1 t2 t3 t4
  have HB01 := Lib.hid (And.intro hb0 hb1)
  have HW := Lib.hid hW; clear hW
  have HLT := Lib.hid hA.lt
  have HNE := Lib.hid hne; clear hne
  obtain ⟨x1, hx1⟩ : ∃ x1, x1 = (w.alloc (.cells #[.int .i64 2, .int .i64 at_, .int .i64 to_, .int .i64 n, .int .u64 (Wd : Int), .slice A xs.length cap, .bool near] 57 (0, 0))).alloc (.cells #[.int .i64 0, .int .i64 0, .int .i64 0] 52 (0, 0)) := ⟨_, rfl⟩
  have hal : Below w.heap.size w x1 := by rw [hx1]; exact ((Below.refl _ _).alloc (Nat.le_refl _) _).alloc (by simp) _
  have hgr : x1.heap[w.heap.size + 1]? = some (.cells #[.int .i64 0, .int .i64 0, .int .i64 0] 52 (0, 0)) := by rw [hx1]; exact heap_alloc2_new _ _ _
  have hgb : x1.heap[w.heap.size]? = some (.cells #[.int .i64 2, .int .i64 at_, .int .i64 to_, .int .i64 n, .int .u64 (Wd : Int), .slice A xs.length cap, .bool near] 57 (0, 0)) := by rw [hx1, Below.heap_alloc _ _ _ (by simp)]; exact heap_alloc_new w _
  have hsz : x1.heap.size = w.heap.size + 2 := by rw [hx1]; simp
  have HA := Lib.hid (hA.below hal)
  have HR := Lib.hid (hr.below hal)
  have hc0 : x1.cell? ⟨w.heap.size, 0, none⟩ = some (.int .i64 2) := (cell_of_row _ _ _ _ _ _ hgb).trans rfl
  have hc1 : x1.cell? ⟨w.heap.size, 1, none⟩ = some (.int .i64 at_) := (cell_of_row _ _ _ _ _ _ hgb).trans rfl
  have hc2 : x1.cell? ⟨w.heap.size, 2, none⟩ = some (.int .i64 to_) := (cell_of_row _ _ _ _ _ _ hgb).trans rfl
  have hc3 : x1.cell? ⟨w.heap.size, 3, none⟩ = some (.int .i64 n) := (cell_of_row _ _ _ _ _ _ hgb).trans rfl
  have hc4 : x1.cell? ⟨w.heap.size, 4, none⟩ = some (.int .u64 (Wd : Int)) := (cell_of_row _ _ _ _ _ _ hgb).trans rfl
  have hc5 : x1.cell? ⟨w.heap.size, 5, none⟩ = some (.slice A xs.length cap) := (cell_of_row _ _ _ _ _ _ hgb).trans rfl
  have hc6 : x1.cell? ⟨w.heap.size, 6, none⟩ = some (.bool near) := (cell_of_row _ _ _ _ _ _ hgb).trans rfl
  have HG := Lib.hid hgr
  have HSZ := Lib.hid hsz
  have HAL := Lib.hid hal
  have HX := Lib.hid hx1
  clear hgb hgr hsz hal hA hr hb0 hb1 hx1
  cases near
  · show Calls _ _ _ _ fun e w' => DoPost w T g gb base (ans2 base bs at_ xs) e w'
    go_enter Try.func28, Try.ntmps28
    go_wp2_with fail
    rw [← HX.out]
    go_quiet (fail)
    have hd0 : (x1.drewN nq).cell? ⟨w.heap.size, 0, none⟩ = some (.int .i64 2) := hc0
    have hd1 : (x1.drewN nq).cell? ⟨w.heap.size, 1, none⟩ = some (.int .i64 at_) := hc1
    have hd2 : (x1.drewN nq).cell? ⟨w.heap.size, 2, none⟩ = some (.int .i64 to_) := hc2
    have hd3 : (x1.drewN nq).cell? ⟨w.heap.size, 3, none⟩ = some (.int .i64 n) := hc3
    have hd4 : (x1.drewN nq).cell? ⟨w.heap.size, 4, none⟩ = some (.int .u64 (Wd : Int)) := hc4
    have hd5 : (x1.drewN nq).cell? ⟨w.heap.size, 5, none⟩ = some (.slice A xs.length cap) := hc5
    have hd6 : (x1.drewN nq).cell? ⟨w.heap.size, 6, none⟩ = some (.bool false) := hc6
    have HAn := Lib.hid (HA.out.drewN nq); have HRn := Lib.hid (show RdB (x1.drewN nq) A xs from HR.out); have HGn := Lib.hid (show (x1.drewN nq).heap[w.heap.size + 1]? = some (.cells #[.int .i64 0, .int .i64 0, .int .i64 0] 52 (0, 0)) from HG.out); have HSn := Lib.hid (show (x1.drewN nq).heap.size = w.heap.size + 2 from HSZ.out); have HALn := Lib.hid (below_drewN HAL.out nq)
    clear hc0 hc1 hc2 hc3 hc4 hc5 hc6 HA HR HG HSZ HAL
    generalize x1.drewN nq = y1 at *
    have hc0 := hd0
    have hc1 := hd1
    have hc2 := hd2
    have hc3 := hd3
    have hc4 := hd4
    have hc5 := hd5
    have hc6 := hd6
    have HA := Lib.hid HAn.out; have HR := Lib.hid HRn.out; have HG := Lib.hid HGn.out; have HSZ := Lib.hid HSn.out; have HAL := Lib.hid HALn.out
    clear hd0 hd1 hd2 hd3 hd4 hd5 hd6 HAn HRn HGn HSn HALn
    go_wp2_with fail
    refine (refWrite_any HA.out at_ xs A cap HR.out HNE.out).mono ?_
    rintro e w3 ⟨rfl, hA3, hg3⟩
    have HA3 := Lib.hid hA3
    have HRW := Lib.hid ((hg3.block (w.heap.size + 1) (by have := HSZ.out; omega) (fun h => by have := HLT.out.2; simp at h; omega)).trans HG.out)
    have HGR := Lib.hid ((grown_of_below HAL.out (some gb)).trans hg3)
    clear hA3 hg3
    clear hc0 hc1 hc2 hc3 hc4 hc5 hc6
    obtain ⟨hz0, hz1, hz2⟩ := cells3 HRW.out
    have hzf := fun j => frozen_of_row w3 (w.heap.size + 1) j _ _ HRW.out
    go_wp2
    obtain ⟨hr0, hr1, hr2⟩ := cells3 (set3_heap (a := .int .i64 (okN (inA base bs.length at_ xs.length))) (b := .int .i64 0) (c := .int .i64 0) HRW.out)
    simp only [set3] at hr0 hr1 hr2
    exact bodyPost_ret (v := .tuple #[.agg #[.int .i64 (okN (inA base bs.length at_ xs.length)), .int .i64 0, .int .i64 0], .int .u64 0, .slice none 0 0]) (by simp [results, Try.results28, go_sem, hr0, hr1, hr2]) rfl (do_end (Nat.le_succ _) HLT.out.1 HLT.out.2 (ans2 base bs at_ xs) _ _ _ rfl (own_nil w3 _ _ _) HA3.out rfl HGR.out _ _ _ _ rfl)
  · show Calls _ _ _ _ fun e w' => DoPost w T g gb base (ans2 base bs (base + at_.tmod 2000) xs) e w'
    go_enter Try.func28, Try.ntmps28
    go_wp2_with fail
    rw [← HX.out]
    go_quiet (fail)
    have hd0 : (x1.drewN nq).cell? ⟨w.heap.size, 0, none⟩ = some (.int .i64 2) := hc0
    have hd1 : (x1.drewN nq).cell? ⟨w.heap.size, 1, none⟩ = some (.int .i64 at_) := hc1
    have hd2 : (x1.drewN nq).cell? ⟨w.heap.size, 2, none⟩ = some (.int .i64 to_) := hc2
    have hd3 : (x1.drewN nq).cell? ⟨w.heap.size, 3, none⟩ = some (.int .i64 n) := hc3
    have hd4 : (x1.drewN nq).cell? ⟨w.heap.size, 4, none⟩ = some (.int .u64 (Wd : Int)) := hc4
    have hd5 : (x1.drewN nq).cell? ⟨w.heap.size, 5, none⟩ = some (.slice A xs.length cap) := hc5
    have hd6 : (x1.drewN nq).cell? ⟨w.heap.size, 6, none⟩ = some (.bool true) := hc6
    have HAn := Lib.hid (HA.out.drewN nq); have HRn := Lib.hid (show RdB (x1.drewN nq) A xs from HR.out); have HGn := Lib.hid (show (x1.drewN nq).heap[w.heap.size + 1]? = some (.cells #[.int .i64 0, .int .i64 0, .int .i64 0] 52 (0, 0)) from HG.out); have HSn := Lib.hid (show (x1.drewN nq).heap.size = w.heap.size + 2 from HSZ.out); have HALn := Lib.hid (below_drewN HAL.out nq)
    clear hc0 hc1 hc2 hc3 hc4 hc5 hc6 HA HR HG HSZ HAL
    generalize x1.drewN nq = y1 at *
    have hc0 := hd0
    have hc1 := hd1
    have hc2 := hd2
    have hc3 := hd3
    have hc4 := hd4
    have hc5 := hd5
    have hc6 := hd6
    have HA := Lib.hid HAn.out; have HR := Lib.hid HRn.out; have HG := Lib.hid HGn.out; have HSZ := Lib.hid HSn.out; have HAL := Lib.hid HALn.out
    clear hd0 hd1 hd2 hd3 hd4 hd5 hd6 HAn HRn HGn HSn HALn
    have hq0 := HA.out.c0
    have hglt := HA.out.lt.1
    go_wp2_with fail
    go_quiet (fail)
    clear hq0
    have hd0 : (y1.drewN nq).cell? ⟨w.heap.size, 0, none⟩ = some (.int .i64 2) := hc0
    have hd1 : (y1.drewN nq).cell? ⟨w.heap.size, 1, none⟩ = some (.int .i64 at_) := hc1
    have hd2 : (y1.drewN nq).cell? ⟨w.heap.size, 2, none⟩ = some (.int .i64 to_) := hc2
    have hd3 : (y1.drewN nq).cell? ⟨w.heap.size, 3, none⟩ = some (.int .i64 n) := hc3
    have hd4 : (y1.drewN nq).cell? ⟨w.heap.size, 4, none⟩ = some (.int .u64 (Wd : Int)) := hc4
    have hd5 : (y1.drewN nq).cell? ⟨w.heap.size, 5, none⟩ = some (.slice A xs.length cap) := hc5
    have hd6 : (y1.drewN nq).cell? ⟨w.heap.size, 6, none⟩ = some (.bool true) := hc6
    have HAn := Lib.hid (HA.out.drewN nq); have HRn := Lib.hid (show RdB (y1.drewN nq) A xs from HR.out); have HGn := Lib.hid (show (y1.drewN nq).heap[w.heap.size + 1]? = some (.cells #[.int .i64 0, .int .i64 0, .int .i64 0] 52 (0, 0)) from HG.out); have HSn := Lib.hid (show (y1.drewN nq).heap.size = w.heap.size + 2 from HSZ.out); have HALn := Lib.hid (below_drewN HAL.out nq)
    clear hc0 hc1 hc2 hc3 hc4 hc5 hc6 HA HR HG HSZ HAL
    generalize y1.drewN nq = y2 at *
    have hc0 := hd0
    have hc1 := hd1
    have hc2 := hd2
    have hc3 := hd3
    have hc4 := hd4
    have hc5 := hd5
    have hc6 := hd6
    have HA := Lib.hid HAn.out; have HR := Lib.hid HRn.out; have HG := Lib.hid HGn.out; have HSZ := Lib.hid HSn.out; have HAL := Lib.hid HALn.out
    clear hd0 hd1 hd2 hd3 hd4 hd5 hd6 HAn HRn HGn HSn HALn
    go_wp2_with fail
    refine (refWrite_any HA.out (base + at_.tmod 2000) xs A cap HR.out HNE.out).mono ?_
    rintro e w3 ⟨rfl, hA3, hg3⟩
    have HA3 := Lib.hid hA3
    have HRW := Lib.hid ((hg3.block (w.heap.size + 1) (by have := HSZ.out; omega) (fun h => by have := HLT.out.2; simp at h; omega)).trans HG.out)
    have HGR := Lib.hid ((grown_of_below HAL.out (some gb)).trans hg3)
    clear hA3 hg3
    clear hc0 hc1 hc2 hc3 hc4 hc5 hc6
    obtain ⟨hz0, hz1, hz2⟩ := cells3 HRW.out
    have hzf := fun j => frozen_of_row w3 (w.heap.size + 1) j _ _ HRW.out
    go_wp2
    obtain ⟨hr0, hr1, hr2⟩ := cells3 (set3_heap (a := .int .i64 (okN (inA base bs.length (base + at_.tmod 2000) xs.length))) (b := .int .i64 0) (c := .int .i64 0) HRW.out)
    simp only [set3] at hr0 hr1 hr2
    exact bodyPost_ret (v := .tuple #[.agg #[.int .i64 (okN (inA base bs.length (base + at_.tmod 2000) xs.length)), .int .i64 0, .int .i64 0], .int .u64 0, .slice none 0 0]) (by simp [results, Try.results28, go_sem, hr0, hr1, hr2]) rfl (do_end (Nat.le_succ _) HLT.out.1 HLT.out.2 (ans2 base bs (base + at_.tmod 2000) xs) _ _ _ rfl (own_nil w3 _ _ _) HA3.out rfl HGR.out _ _ _ _ rfl)
set_option maxHeartbeats 4000000 in
set_option maxRecDepth 20000 in
theorem want3_any (hA : Arn w T g gb base bs) (at_ to_ n : Int) (Wd : Nat) (A : Option Addr) (cap : Nat) (xs : List UInt8) (near : Bool) (hW : Wd < 18446744073709551616) (hr : RdB w A xs) (hne : ∀ a, A = some a → 0 < xs.length → a.block ≠ gb) :
    Calls Try.prog 28 #[.pointer (some ⟨g, 0, none⟩), .agg #[.int .i64 3, .int .i64 at_, .int .i64 to_, .int .i64 n, .int .u64 (Wd : Int), .slice A xs.length cap, .bool near]] w fun e w' => DoPost w T g gb base (ans3 base bs (nearA base near at_) n) e w' := by
  obtain ⟨t1, t2⟩ := tmod_bd at_
  obtain ⟨t3, t4⟩ := tmod_bd to_
  have hb0 := hA.b0
  have hb1 := hA.b1
  have hw1 : IntKind.i64.wrap (base + at_.tmod 2000) = base + at_.tmod 2000 := wrap_i64_in (by omega) (by omega)
  have hw2 : IntKind.i64.wrap (base + to_.tmod 2000) = base + to_.tmod 2000 := wrap_i64_in (by omega) (by omega)
  clear t1 t2 t3 t4
  have HB01 := Lib.hid (And.intro hb0 hb1)
  have HW := Lib.hid hW; clear hW
  have HLT := Lib.hid hA.lt
  have HNE := Lib.hid hne; clear hne
  obtain ⟨x1, hx1⟩ : ∃ x1, x1 = (w.alloc (.cells #[.int .i64 3, .int .i64 at_, .int .i64 to_, .int .i64 n, .int .u64 (Wd : Int), .slice A xs.length cap, .bool near] 57 (0, 0))).alloc (.cells #[.int .i64 0, .int .i64 0, .int .i64 0] 52 (0, 0)) := ⟨_, rfl⟩
  have hal : Below w.heap.size w x1 := by rw [hx1]; exact ((Below.refl _ _).alloc (Nat.le_refl _) _).alloc (by simp) _
  have hgr : x1.heap[w.heap.size + 1]? = some (.cells #[.int .i64 0, .int .i64 0, .int .i64 0] 52 (0, 0)) := by rw [hx1]; exact heap_alloc2_new _ _ _
  have hgb : x1.heap[w.heap.size]? = some (.cells #[.int .i64 3, .int .i64 at_, .int .i64 to_, .int .i64 n, .int .u64 (Wd : Int), .slice A xs.length cap, .bool near] 57 (0, 0)) := by rw [hx1, Below.heap_alloc _ _ _ (by simp)]; exact heap_alloc_new w _
  have hsz : x1.heap.size = w.heap.size + 2 := by rw [hx1]; simp
  have HA := Lib.hid (hA.below hal)
  have HR := Lib.hid (hr.below hal)
  have hc0 : x1.cell? ⟨w.heap.size, 0, none⟩ = some (.int .i64 3) := (cell_of_row _ _ _ _ _ _ hgb).trans rfl
  have hc1 : x1.cell? ⟨w.heap.size, 1, none⟩ = some (.int .i64 at_) := (cell_of_row _ _ _ _ _ _ hgb).trans rfl
  have hc2 : x1.cell? ⟨w.heap.size, 2, none⟩ = some (.int .i64 to_) := (cell_of_row _ _ _ _ _ _ hgb).trans rfl
  have hc3 : x1.cell? ⟨w.heap.size, 3, none⟩ = some (.int .i64 n) := (cell_of_row _ _ _ _ _ _ hgb).trans rfl
  have hc4 : x1.cell? ⟨w.heap.size, 4, none⟩ = some (.int .u64 (Wd : Int)) := (cell_of_row _ _ _ _ _ _ hgb).trans rfl
  have hc5 : x1.cell? ⟨w.heap.size, 5, none⟩ = some (.slice A xs.length cap) := (cell_of_row _ _ _ _ _ _ hgb).trans rfl
  have hc6 : x1.cell? ⟨w.heap.size, 6, none⟩ = some (.bool near) := (cell_of_row _ _ _ _ _ _ hgb).trans rfl
  have HG := Lib.hid hgr
  have HSZ := Lib.hid hsz
  have HAL := Lib.hid hal
  have HX := Lib.hid hx1
  clear hgb hgr hsz hal hA hr hb0 hb1 hx1
  cases near
  · show Calls _ _ _ _ fun e w' => DoPost w T g gb base (ans3 base bs at_ n) e w'
    go_enter Try.func28, Try.ntmps28
    go_wp2_with fail
    rw [← HX.out]
    go_quiet (fail)
    have hd0 : (x1.drewN nq).cell? ⟨w.heap.size, 0, none⟩ = some (.int .i64 3) := hc0
    have hd1 : (x1.drewN nq).cell? ⟨w.heap.size, 1, none⟩ = some (.int .i64 at_) := hc1
    have hd2 : (x1.drewN nq).cell? ⟨w.heap.size, 2, none⟩ = some (.int .i64 to_) := hc2
    have hd3 : (x1.drewN nq).cell? ⟨w.heap.size, 3, none⟩ = some (.int .i64 n) := hc3
    have hd4 : (x1.drewN nq).cell? ⟨w.heap.size, 4, none⟩ = some (.int .u64 (Wd : Int)) := hc4
    have hd5 : (x1.drewN nq).cell? ⟨w.heap.size, 5, none⟩ = some (.slice A xs.length cap) := hc5
    have hd6 : (x1.drewN nq).cell? ⟨w.heap.size, 6, none⟩ = some (.bool false) := hc6
    have HAn := Lib.hid (HA.out.drewN nq); have HRn := Lib.hid (show RdB (x1.drewN nq) A xs from HR.out); have HGn := Lib.hid (show (x1.drewN nq).heap[w.heap.size + 1]? = some (.cells #[.int .i64 0, .int .i64 0, .int .i64 0] 52 (0, 0)) from HG.out); have HSn := Lib.hid (show (x1.drewN nq).heap.size = w.heap.size + 2 from HSZ.out); have HALn := Lib.hid (below_drewN HAL.out nq)
    clear hc0 hc1 hc2 hc3 hc4 hc5 hc6 HA HR HG HSZ HAL
    generalize x1.drewN nq = y1 at *
    have hc0 := hd0
    have hc1 := hd1
    have hc2 := hd2
    have hc3 := hd3
    have hc4 := hd4
    have hc5 := hd5
    have hc6 := hd6
    have HA := Lib.hid HAn.out; have HR := Lib.hid HRn.out; have HG := Lib.hid HGn.out; have HSZ := Lib.hid HSn.out; have HAL := Lib.hid HALn.out
    clear hd0 hd1 hd2 hd3 hd4 hd5 hd6 HAn HRn HGn HSn HALn
    go_wp2_with fail
    refine (refZero_any HA.out at_ n).mono ?_
    rintro e w3 ⟨rfl, hA3, hg3⟩
    have HA3 := Lib.hid hA3
    have HRW := Lib.hid ((hg3.block (w.heap.size + 1) (by have := HSZ.out; omega) (fun h => by have := HLT.out.2; simp at h; omega)).trans HG.out)
    have HGR := Lib.hid ((grown_of_below HAL.out (some gb)).trans hg3)
    clear hA3 hg3
    clear hc0 hc1 hc2 hc3 hc4 hc5 hc6
    obtain ⟨hz0, hz1, hz2⟩ := cells3 HRW.out
    have hzf := fun j => frozen_of_row w3 (w.heap.size + 1) j _ _ HRW.out
    go_wp2
    obtain ⟨hr0, hr1, hr2⟩ := cells3 (set3_heap (a := .int .i64 (okN (inA base bs.length at_ n))) (b := .int .i64 0) (c := .int .i64 0) HRW.out)
    simp only [set3] at hr0 hr1 hr2
    exact bodyPost_ret (v := .tuple #[.agg #[.int .i64 (okN (inA base bs.length at_ n)), .int .i64 0, .int .i64 0], .int .u64 0, .slice none 0 0]) (by simp [results, Try.results28, go_sem, hr0, hr1, hr2]) rfl (do_end (Nat.le_succ _) HLT.out.1 HLT.out.2 (ans3 base bs at_ n) _ _ _ rfl (own_nil w3 _ _ _) HA3.out rfl HGR.out _ _ _ _ rfl)
  · show Calls _ _ _ _ fun e w' => DoPost w T g gb base (ans3 base bs (base + at_.tmod 2000) n) e w'
    go_enter Try.func28, Try.ntmps28
    go_wp2_with fail
    rw [← HX.out]
    go_quiet (fail)
    have hd0 : (x1.drewN nq).cell? ⟨w.heap.size, 0, none⟩ = some (.int .i64 3) := hc0
    have hd1 : (x1.drewN nq).cell? ⟨w.heap.size, 1, none⟩ = some (.int .i64 at_) := hc1
    have hd2 : (x1.drewN nq).cell? ⟨w.heap.size, 2, none⟩ = some (.int .i64 to_) := hc2
    have hd3 : (x1.drewN nq).cell? ⟨w.heap.size, 3, none⟩ = some (.int .i64 n) := hc3
    have hd4 : (x1.drewN nq).cell? ⟨w.heap.size, 4, none⟩ = some (.int .u64 (Wd : Int)) := hc4
    have hd5 : (x1.drewN nq).cell? ⟨w.heap.size, 5, none⟩ = some (.slice A xs.length cap) := hc5
    have hd6 : (x1.drewN nq).cell? ⟨w.heap.size, 6, none⟩ = some (.bool true) := hc6
    have HAn := Lib.hid (HA.out.drewN nq); have HRn := Lib.hid (show RdB (x1.drewN nq) A xs from HR.out); have HGn := Lib.hid (show (x1.drewN nq).heap[w.heap.size + 1]? = some (.cells #[.int .i64 0, .int .i64 0, .int .i64 0] 52 (0, 0)) from HG.out); have HSn := Lib.hid (show (x1.drewN nq).heap.size = w.heap.size + 2 from HSZ.out); have HALn := Lib.hid (below_drewN HAL.out nq)
    clear hc0 hc1 hc2 hc3 hc4 hc5 hc6 HA HR HG HSZ HAL
    generalize x1.drewN nq = y1 at *
    have hc0 := hd0
    have hc1 := hd1
    have hc2 := hd2
    have hc3 := hd3
    have hc4 := hd4
    have hc5 := hd5
    have hc6 := hd6
    have HA := Lib.hid HAn.out; have HR := Lib.hid HRn.out; have HG := Lib.hid HGn.out; have HSZ := Lib.hid HSn.out; have HAL := Lib.hid HALn.out
    clear hd0 hd1 hd2 hd3 hd4 hd5 hd6 HAn HRn HGn HSn HALn
    have hq0 := HA.out.c0
    have hglt := HA.out.lt.1
    go_wp2_with fail
    go_quiet (fail)
    clear hq0
    have hd0 : (y1.drewN nq).cell? ⟨w.heap.size, 0, none⟩ = some (.int .i64 3) := hc0
    have hd1 : (y1.drewN nq).cell? ⟨w.heap.size, 1, none⟩ = some (.int .i64 at_) := hc1
    have hd2 : (y1.drewN nq).cell? ⟨w.heap.size, 2, none⟩ = some (.int .i64 to_) := hc2
    have hd3 : (y1.drewN nq).cell? ⟨w.heap.size, 3, none⟩ = some (.int .i64 n) := hc3
    have hd4 : (y1.drewN nq).cell? ⟨w.heap.size, 4, none⟩ = some (.int .u64 (Wd : Int)) := hc4
    have hd5 : (y1.drewN nq).cell? ⟨w.heap.size, 5, none⟩ = some (.slice A xs.length cap) := hc5
    have hd6 : (y1.drewN nq).cell? ⟨w.heap.size, 6, none⟩ = some (.bool true) := hc6
    have HAn := Lib.hid (HA.out.drewN nq); have HRn := Lib.hid (show RdB (y1.drewN nq) A xs from HR.out); have HGn := Lib.hid (show (y1.drewN nq).heap[w.heap.size + 1]? = some (.cells #[.int .i64 0, .int .i64 0, .int .i64 0] 52 (0, 0)) from HG.out); have HSn := Lib.hid (show (y1.drewN nq).heap.size = w.heap.size + 2 from HSZ.out); have HALn := Lib.hid (below_drewN HAL.out nq)
    clear hc0 hc1 hc2 hc3 hc4 hc5 hc6 HA HR HG HSZ HAL
    generalize y1.drewN nq = y2 at *
    have hc0 := hd0
    have hc1 := hd1
    have hc2 := hd2
    have hc3 := hd3
    have hc4 := hd4
    have hc5 := hd5
    have hc6 := hd6
    have HA := Lib.hid HAn.out; have HR := Lib.hid HRn.out; have HG := Lib.hid HGn.out; have HSZ := Lib.hid HSn.out; have HAL := Lib.hid HALn.out
    clear hd0 hd1 hd2 hd3 hd4 hd5 hd6 HAn HRn HGn HSn HALn
    go_wp2_with fail
    refine (refZero_any HA.out (base + at_.tmod 2000) n).mono ?_
    rintro e w3 ⟨rfl, hA3, hg3⟩
    have HA3 := Lib.hid hA3
    have HRW := Lib.hid ((hg3.block (w.heap.size + 1) (by have := HSZ.out; omega) (fun h => by have := HLT.out.2; simp at h; omega)).trans HG.out)
    have HGR := Lib.hid ((grown_of_below HAL.out (some gb)).trans hg3)
    clear hA3 hg3
    clear hc0 hc1 hc2 hc3 hc4 hc5 hc6
    obtain ⟨hz0, hz1, hz2⟩ := cells3 HRW.out
    have hzf := fun j => frozen_of_row w3 (w.heap.size + 1) j _ _ HRW.out
    go_wp2
    obtain ⟨hr0, hr1, hr2⟩ := cells3 (set3_heap (a := .int .i64 (okN (inA base bs.length (base + at_.tmod 2000) n))) (b := .int .i64 0) (c := .int .i64 0) HRW.out)
    simp only [set3] at hr0 hr1 hr2
    exact bodyPost_ret (v := .tuple #[.agg #[.int .i64 (okN (inA base bs.length (base + at_.tmod 2000) n)), .int .i64 0, .int .i64 0], .int .u64 0, .slice none 0 0]) (by simp [results, Try.results28, go_sem, hr0, hr1, hr2]) rfl (do_end (Nat.le_succ _) HLT.out.1 HLT.out.2 (ans3 base bs (base + at_.tmod 2000) n) _ _ _ rfl (own_nil w3 _ _ _) HA3.out rfl HGR.out _ _ _ _ rfl)
set_option maxHeartbeats 4000000 in
set_option maxRecDepth 20000 in
theorem want4_any (hA : Arn w T g gb base bs) (at_ to_ n : Int) (Wd : Nat) (A : Option Addr) (cap : Nat) (xs : List UInt8) (near : Bool) (hW : Wd < 18446744073709551616) (hr : RdB w A xs) (hne : ∀ a, A = some a → 0 < xs.length → a.block ≠ gb) :
    Calls Try.prog 28 #[.pointer (some ⟨g, 0, none⟩), .agg #[.int .i64 4, .int .i64 at_, .int .i64 to_, .int .i64 n, .int .u64 (Wd : Int), .slice A xs.length cap, .bool near]] w fun e w' => DoPost w T g gb base (ans4 base bs (nearA base near at_) (nearA base near to_) n) e w' := by
  obtain ⟨t1, t2⟩ := tmod_bd at_
  obtain ⟨t3, t4⟩ := tmod_bd to_
  have hb0 := hA.b0
  have hb1 := hA.b1
  have hw1 : IntKind.i64.wrap (base + at_.tmod 2000) = base + at_.tmod 2000 := wrap_i64_in (by omega) (by omega)
  have hw2 : IntKind.i64.wrap (base + to_.tmod 2000) = base + to_.tmod 2000 := wrap_i64_in (by omega) (by omega)
  clear t1 t2 t3 t4
  have HB01 := Lib.hid (And.intro hb0 hb1)
  have HW := Lib.hid hW; clear hW
  have HLT := Lib.hid hA.lt
  have HNE := Lib.hid hne; clear hne
  obtain ⟨x1, hx1⟩ : ∃ x1, x1 = (w.alloc (.cells #[.int .i64 4, .int .i64 at_, .int .i64 to_, .int .i64 n, .int .u64 (Wd : Int), .slice A xs.length cap, .bool near] 57 (0, 0))).alloc (.cells #[.int .i64 0, .int .i64 0, .int .i64 0] 52 (0, 0)) := ⟨_, rfl⟩
  have hal : Below w.heap.size w x1 := by rw [hx1]; exact ((Below.refl _ _).alloc (Nat.le_refl _) _).alloc (by simp) _
  have hgr : x1.heap[w.heap.size + 1]? = some (.cells #[.int .i64 0, .int .i64 0, .int .i64 0] 52 (0, 0)) := by rw [hx1]; exact heap_alloc2_new _ _ _
  have hgb : x1.heap[w.heap.size]? = some (.cells #[.int .i64 4, .int .i64 at_, .int .i64 to_, .int .i64 n, .int .u64 (Wd : Int), .slice A xs.length cap, .bool near] 57 (0, 0)) := by rw [hx1, Below.heap_alloc _ _ _ (by simp)]; exact heap_alloc_new w _
  have hsz : x1.heap.size = w.heap.size + 2 := by rw [hx1]; simp
  have HA := Lib.hid (hA.below hal)
  have HR := Lib.hid (hr.below hal)
  have hc0 : x1.cell? ⟨w.heap.size, 0, none⟩ = some (.int .i64 4) := (cell_of_row _ _ _ _ _ _ hgb).trans rfl
  have hc1 : x1.cell? ⟨w.heap.size, 1, none⟩ = some (.int .i64 at_) := (cell_of_row _ _ _ _ _ _ hgb).trans rfl
  have hc2 : x1.cell? ⟨w.heap.size, 2, none⟩ = some (.int .i64 to_) := (cell_of_row _ _ _ _ _ _ hgb).trans rfl
  have hc3 : x1.cell? ⟨w.heap.size, 3, none⟩ = some (.int .i64 n) := (cell_of_row _ _ _ _ _ _ hgb).trans rfl
  have hc4 : x1.cell? ⟨w.heap.size, 4, none⟩ = some (.int .u64 (Wd : Int)) := (cell_of_row _ _ _ _ _ _ hgb).trans rfl
  have hc5 : x1.cell? ⟨w.heap.size, 5, none⟩ = some (.slice A xs.length cap) := (cell_of_row _ _ _ _ _ _ hgb).trans rfl
  have hc6 : x1.cell? ⟨w.heap.size, 6, none⟩ = some (.bool near) := (cell_of_row _ _ _ _ _ _ hgb).trans rfl
  have HG := Lib.hid hgr
  have HSZ := Lib.hid hsz
  have HAL := Lib.hid hal
  have HX := Lib.hid hx1
  clear hgb hgr hsz hal hA hr hb0 hb1 hx1
  cases near
  · show Calls _ _ _ _ fun e w' => DoPost w T g gb base (ans4 base bs at_ to_ n) e w'
    go_enter Try.func28, Try.ntmps28
    go_wp2_with fail
    rw [← HX.out]
    go_quiet (fail)
    have hd0 : (x1.drewN nq).cell? ⟨w.heap.size, 0, none⟩ = some (.int .i64 4) := hc0
    have hd1 : (x1.drewN nq).cell? ⟨w.heap.size, 1, none⟩ = some (.int .i64 at_) := hc1
    have hd2 : (x1.drewN nq).cell? ⟨w.heap.size, 2, none⟩ = some (.int .i64 to_) := hc2
    have hd3 : (x1.drewN nq).cell? ⟨w.heap.size, 3, none⟩ = some (.int .i64 n) := hc3
    have hd4 : (x1.drewN nq).cell? ⟨w.heap.size, 4, none⟩ = some (.int .u64 (Wd : Int)) := hc4
    have hd5 : (x1.drewN nq).cell? ⟨w.heap.size, 5, none⟩ = some (.slice A xs.length cap) := hc5
    have hd6 : (x1.drewN nq).cell? ⟨w.heap.size, 6, none⟩ = some (.bool false) := hc6
    have HAn := Lib.hid (HA.out.drewN nq); have HRn := Lib.hid (show RdB (x1.drewN nq) A xs from HR.out); have HGn := Lib.hid (show (x1.drewN nq).heap[w.heap.size + 1]? = some (.cells #[.int .i64 0, .int .i64 0, .int .i64 0] 52 (0, 0)) from HG.out); have HSn := Lib.hid (show (x1.drewN nq).heap.size = w.heap.size + 2 from HSZ.out); have HALn := Lib.hid (below_drewN HAL.out nq)
    clear hc0 hc1 hc2 hc3 hc4 hc5 hc6 HA HR HG HSZ HAL
    generalize x1.drewN nq = y1 at *
    have hc0 := hd0
    have hc1 := hd1
    have hc2 := hd2
    have hc3 := hd3
    have hc4 := hd4
    have hc5 := hd5
    have hc6 := hd6
    have HA := Lib.hid HAn.out; have HR := Lib.hid HRn.out; have HG := Lib.hid HGn.out; have HSZ := Lib.hid HSn.out; have HAL := Lib.hid HALn.out
    clear hd0 hd1 hd2 hd3 hd4 hd5 hd6 HAn HRn HGn HSn HALn
    go_wp2_with fail
    refine (refMove_any HA.out at_ to_ n).mono ?_
    rintro e w3 ⟨rfl, hA3, hg3⟩
    have HA3 := Lib.hid hA3
    have HRW := Lib.hid ((hg3.block (w.heap.size + 1) (by have := HSZ.out; omega) (fun h => by have := HLT.out.2; simp at h; omega)).trans HG.out)
    have HGR := Lib.hid ((grown_of_below HAL.out (some gb)).trans hg3)
    clear hA3 hg3
    clear hc0 hc1 hc2 hc3 hc4 hc5 hc6
    obtain ⟨hz0, hz1, hz2⟩ := cells3 HRW.out
    have hzf := fun j => frozen_of_row w3 (w.heap.size + 1) j _ _ HRW.out
    go_wp2
    obtain ⟨hr0, hr1, hr2⟩ := cells3 (set3_heap (a := .int .i64 (okN (inA base bs.length at_ n && inA base bs.length to_ n))) (b := .int .i64 0) (c := .int .i64 0) HRW.out)
    simp only [set3] at hr0 hr1 hr2
    exact bodyPost_ret (v := .tuple #[.agg #[.int .i64 (okN (inA base bs.length at_ n && inA base bs.length to_ n)), .int .i64 0, .int .i64 0], .int .u64 0, .slice none 0 0]) (by simp [results, Try.results28, go_sem, hr0, hr1, hr2]) rfl (do_end (Nat.le_succ _) HLT.out.1 HLT.out.2 (ans4 base bs at_ to_ n) _ _ _ rfl (own_nil w3 _ _ _) HA3.out rfl HGR.out _ _ _ _ rfl)
  · show Calls _ _ _ _ fun e w' => DoPost w T g gb base (ans4 base bs (base + at_.tmod 2000) (base + to_.tmod 2000) n) e w'
    go_enter Try.func28, Try.ntmps28
    go_wp2_with fail
    rw [← HX.out]
    go_quiet (fail)
    have hd0 : (x1.drewN nq).cell? ⟨w.heap.size, 0, none⟩ = some (.int .i64 4) := hc0
    have hd1 : (x1.drewN nq).cell? ⟨w.heap.size, 1, none⟩ = some (.int .i64 at_) := hc1
    have hd2 : (x1.drewN nq).cell? ⟨w.heap.size, 2, none⟩ = some (.int .i64 to_) := hc2
    have hd3 : (x1.drewN nq).cell? ⟨w.heap.size, 3, none⟩ = some (.int .i64 n) := hc3
    have hd4 : (x1.drewN nq).cell? ⟨w.heap.size, 4, none⟩ = some (.int .u64 (Wd : Int)) := hc4
    have hd5 : (x1.drewN nq).cell? ⟨w.heap.size, 5, none⟩ = some (.slice A xs.length cap) := hc5
    have hd6 : (x1.drewN nq).cell? ⟨w.heap.size, 6, none⟩ = some (.bool true) := hc6
    have HAn := Lib.hid (HA.out.drewN nq); have HRn := Lib.hid (show RdB (x1.drewN nq) A xs from HR.out); have HGn := Lib.hid (show (x1.drewN nq).heap[w.heap.size + 1]? = some (.cells #[.int .i64 0, .int .i64 0, .int .i64 0] 52 (0, 0)) from HG.out); have HSn := Lib.hid (show (x1.drewN nq).heap.size = w.heap.size + 2 from HSZ.out); have HALn := Lib.hid (below_drewN HAL.out nq)
    clear hc0 hc1 hc2 hc3 hc4 hc5 hc6 HA HR HG HSZ HAL
    generalize x1.drewN nq = y1 at *
    have hc0 := hd0
    have hc1 := hd1
    have hc2 := hd2
    have hc3 := hd3
    have hc4 := hd4
    have hc5 := hd5
    have hc6 := hd6
    have HA := Lib.hid HAn.out; have HR := Lib.hid HRn.out; have HG := Lib.hid HGn.out; have HSZ := Lib.hid HSn.out; have HAL := Lib.hid HALn.out
    clear hd0 hd1 hd2 hd3 hd4 hd5 hd6 HAn HRn HGn HSn HALn
    have hq0 := HA.out.c0
    have hglt := HA.out.lt.1
    go_wp2_with fail
    go_quiet (fail)
    clear hq0
    have hd0 : (y1.drewN nq).cell? ⟨w.heap.size, 0, none⟩ = some (.int .i64 4) := hc0
    have hd1 : (y1.drewN nq).cell? ⟨w.heap.size, 1, none⟩ = some (.int .i64 at_) := hc1
    have hd2 : (y1.drewN nq).cell? ⟨w.heap.size, 2, none⟩ = some (.int .i64 to_) := hc2
    have hd3 : (y1.drewN nq).cell? ⟨w.heap.size, 3, none⟩ = some (.int .i64 n) := hc3
    have hd4 : (y1.drewN nq).cell? ⟨w.heap.size, 4, none⟩ = some (.int .u64 (Wd : Int)) := hc4
    have hd5 : (y1.drewN nq).cell? ⟨w.heap.size, 5, none⟩ = some (.slice A xs.length cap) := hc5
    have hd6 : (y1.drewN nq).cell? ⟨w.heap.size, 6, none⟩ = some (.bool true) := hc6
    have HAn := Lib.hid (HA.out.drewN nq); have HRn := Lib.hid (show RdB (y1.drewN nq) A xs from HR.out); have HGn := Lib.hid (show (y1.drewN nq).heap[w.heap.size + 1]? = some (.cells #[.int .i64 0, .int .i64 0, .int .i64 0] 52 (0, 0)) from HG.out); have HSn := Lib.hid (show (y1.drewN nq).heap.size = w.heap.size + 2 from HSZ.out); have HALn := Lib.hid (below_drewN HAL.out nq)
    clear hc0 hc1 hc2 hc3 hc4 hc5 hc6 HA HR HG HSZ HAL
    generalize y1.drewN nq = y2 at *
    have hc0 := hd0
    have hc1 := hd1
    have hc2 := hd2
    have hc3 := hd3
    have hc4 := hd4
    have hc5 := hd5
    have hc6 := hd6
    have HA := Lib.hid HAn.out; have HR := Lib.hid HRn.out; have HG := Lib.hid HGn.out; have HSZ := Lib.hid HSn.out; have HAL := Lib.hid HALn.out
    clear hd0 hd1 hd2 hd3 hd4 hd5 hd6 HAn HRn HGn HSn HALn
    go_wp2_with fail
    refine (refMove_any HA.out (base + at_.tmod 2000) (base + to_.tmod 2000) n).mono ?_
    rintro e w3 ⟨rfl, hA3, hg3⟩
    have HA3 := Lib.hid hA3
    have HRW := Lib.hid ((hg3.block (w.heap.size + 1) (by have := HSZ.out; omega) (fun h => by have := HLT.out.2; simp at h; omega)).trans HG.out)
    have HGR := Lib.hid ((grown_of_below HAL.out (some gb)).trans hg3)
    clear hA3 hg3
    clear hc0 hc1 hc2 hc3 hc4 hc5 hc6
    obtain ⟨hz0, hz1, hz2⟩ := cells3 HRW.out
    have hzf := fun j => frozen_of_row w3 (w.heap.size + 1) j _ _ HRW.out
    go_wp2
    obtain ⟨hr0, hr1, hr2⟩ := cells3 (set3_heap (a := .int .i64 (okN (inA base bs.length (base + at_.tmod 2000) n && inA base bs.length (base + to_.tmod 2000) n))) (b := .int .i64 0) (c := .int .i64 0) HRW.out)
    simp only [set3] at hr0 hr1 hr2
    exact bodyPost_ret (v := .tuple #[.agg #[.int .i64 (okN (inA base bs.length (base + at_.tmod 2000) n && inA base bs.length (base + to_.tmod 2000) n)), .int .i64 0, .int .i64 0], .int .u64 0, .slice none 0 0]) (by simp [results, Try.results28, go_sem, hr0, hr1, hr2]) rfl (do_end (Nat.le_succ _) HLT.out.1 HLT.out.2 (ans4 base bs (base + at_.tmod 2000) (base + to_.tmod 2000) n) _ _ _ rfl (own_nil w3 _ _ _) HA3.out rfl HGR.out _ _ _ _ rfl)
end
end Go.Proofs.Ytjfbopnohijhkaa
