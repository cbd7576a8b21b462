/- The contracts of the statement's own 'want', kind by kind (5 6 7 8 0). -/
import Derived.Test.YtjfbopnohijhkaaArenaD0
namespace Go.Proofs.Ytjfbopnohijhkaa
open Go.RowKit
set_option linter.unusedVariables false
section
variable {T : TypeId} {g gb : Nat} {base : Int} {bs : List UInt8} {w : World}
set_option maxHeartbeats 4000000 in
set_option maxRecDepth 20000 in
theorem want5_any (hA : Arn w T g gb base bs) (at_ to_ n : Int) (Wd : Nat) (A : Option Addr) (cap : Nat) (xs : List UInt8) (near : Bool) (hW : Wd < 18446744073709551616) (hr : RdB w A xs) (hne : ∀ a, A = some a → 0 < xs.length → a.block ≠ gb) :
    Calls Try.prog 28 #[.pointer (some ⟨g, 0, none⟩), .agg #[.int .i64 5, .int .i64 at_, .int .i64 to_, .int .i64 n, .int .u64 (Wd : Int), .slice A xs.length cap, .bool near]] w fun e w' => DoPost w T g gb base (ans5 base bs (nearA base near at_)) e w' := by
  obtain ⟨t1, t2⟩ := tmod_bd at_
  obtain ⟨t3, t4⟩ := tmod_bd to_
  have hb0 := hA.b0
  have hb1 := hA.b1
  have hw1 : IntKind.i64.wrap (base + at_.tmod 2000) = base + at_.tmod 2000 := wrap_i64_in (by omega) (by omega)
  have hw2 : IntKind.i64.wrap (base + to_.tmod 2000) = base + to_.tmod 2000 := wrap_i64_in (by omega) (by omega)
  clear t1 t2 t3 t4
  have HB01 := Lib.hid (And.intro hb0 hb1)
  have HW := Lib.hid hW; clear hW
  have HLT := Lib.hid hA.lt
  have HNE := Lib.hid hne; clear hne
  obtain ⟨x1, hx1⟩ : ∃ x1, x1 = (w.alloc (.cells #[.int .i64 5, .int .i64 at_, .int .i64 to_, .int .i64 n, .int .u64 (Wd : Int), .slice A xs.length cap, .bool near] 57 (0, 0))).alloc (.cells #[.int .i64 0, .int .i64 0, .int .i64 0] 52 (0, 0)) := ⟨_, rfl⟩
  have hal : Below w.heap.size w x1 := by rw [hx1]; exact ((Below.refl _ _).alloc (Nat.le_refl _) _).alloc (by simp) _
  have hgr : x1.heap[w.heap.size + 1]? = some (.cells #[.int .i64 0, .int .i64 0, .int .i64 0] 52 (0, 0)) := by rw [hx1]; exact heap_alloc2_new _ _ _
  have hgb : x1.heap[w.heap.size]? = some (.cells #[.int .i64 5, .int .i64 at_, .int .i64 to_, .int .i64 n, .int .u64 (Wd : Int), .slice A xs.length cap, .bool near] 57 (0, 0)) := by rw [hx1, Below.heap_alloc _ _ _ (by simp)]; exact heap_alloc_new w _
  have hsz : x1.heap.size = w.heap.size + 2 := by rw [hx1]; simp
  have HA := Lib.hid (hA.below hal)
  have HR := Lib.hid (hr.below hal)
  have hc0 : x1.cell? ⟨w.heap.size, 0, none⟩ = some (.int .i64 5) := (cell_of_row _ _ _ _ _ _ hgb).trans rfl
  have hc1 : x1.cell? ⟨w.heap.size, 1, none⟩ = some (.int .i64 at_) := (cell_of_row _ _ _ _ _ _ hgb).trans rfl
  have hc2 : x1.cell? ⟨w.heap.size, 2, none⟩ = some (.int .i64 to_) := (cell_of_row _ _ _ _ _ _ hgb).trans rfl
  have hc3 : x1.cell? ⟨w.heap.size, 3, none⟩ = some (.int .i64 n) := (cell_of_row _ _ _ _ _ _ hgb).trans rfl
  have hc4 : x1.cell? ⟨w.heap.size, 4, none⟩ = some (.int .u64 (Wd : Int)) := (cell_of_row _ _ _ _ _ _ hgb).trans rfl
  have hc5 : x1.cell? ⟨w.heap.size, 5, none⟩ = some (.slice A xs.length cap) := (cell_of_row _ _ _ _ _ _ hgb).trans rfl
  have hc6 : x1.cell? ⟨w.heap.size, 6, none⟩ = some (.bool near) := (cell_of_row _ _ _ _ _ _ hgb).trans rfl
  have HG := Lib.hid hgr
  have HSZ := Lib.hid hsz
  have HAL := Lib.hid hal
  have HX := Lib.hid hx1
  clear hgb hgr hsz hal hA hr hb0 hb1 hx1
  cases near
  · show Calls _ _ _ _ fun e w' => DoPost w T g gb base (ans5 base bs at_) e w'
    go_enter Try.func28, Try.ntmps28
    go_wp2_with fail
    rw [← HX.out]
    go_quiet (fail)
    have hd0 : (x1.drewN nq).cell? ⟨w.heap.size, 0, none⟩ = some (.int .i64 5) := hc0
    have hd1 : (x1.drewN nq).cell? ⟨w.heap.size, 1, none⟩ = some (.int .i64 at_) := hc1
    have hd2 : (x1.drewN nq).cell? ⟨w.heap.size, 2, none⟩ = some (.int .i64 to_) := hc2
    have hd3 : (x1.drewN nq).cell? ⟨w.heap.size, 3, none⟩ = some (.int .i64 n) := hc3
    have hd4 : (x1.drewN nq).cell? ⟨w.heap.size, 4, none⟩ = some (.int .u64 (Wd : Int)) := hc4
    have hd5 : (x1.drewN nq).cell? ⟨w.heap.size, 5, none⟩ = some (.slice A xs.length cap) := hc5
    have hd6 : (x1.drewN nq).cell? ⟨w.heap.size, 6, none⟩ = some (.bool false) := hc6
    have HAn := Lib.hid (HA.out.drewN nq); have HRn := Lib.hid (show RdB (x1.drewN nq) A xs from HR.out); have HGn := Lib.hid (show (x1.drewN nq).heap[w.heap.size + 1]? = some (.cells #[.int .i64 0, .int .i64 0, .int .i64 0] 52 (0, 0)) from HG.out); have HSn := Lib.hid (show (x1.drewN nq).heap.size = w.heap.size + 2 from HSZ.out); have HALn := Lib.hid (below_drewN HAL.out nq)
    clear hc0 hc1 hc2 hc3 hc4 hc5 hc6 HA HR HG HSZ HAL
    generalize x1.drewN nq = y1 at *
    have hc0 := hd0
    have hc1 := hd1
    have hc2 := hd2
    have hc3 := hd3
    have hc4 := hd4
    have hc5 := hd5
    have hc6 := hd6
    have HA := Lib.hid HAn.out; have HR := Lib.hid HRn.out; have HG := Lib.hid HGn.out; have HSZ := Lib.hid HSn.out; have HAL := Lib.hid HALn.out
    clear hd0 hd1 hd2 hd3 hd4 hd5 hd6 HAn HRn HGn HSn HALn
    go_wp2_with fail
    refine (refRead_any HA.out at_ 8).mono ?_
    rintro e w3 ⟨v, rfl, hO3, hB3⟩
    obtain ⟨A3, c3, rfl, hr3⟩ := hO3.rd
    have HA3 := Lib.hid (HA.out.below hB3)
    have HO3 := Lib.hid (show OwnB w3 (w.heap.size + 1 + 1) 5 _ _ from own_le hO3 (by have := HSZ.out; omega)); have HR3 := Lib.hid hr3
    have HRW := Lib.hid (((grown_of_below hB3 (some gb)).block (w.heap.size + 1) (by have := HSZ.out; omega) (fun h => by have := HLT.out.2; simp at h; omega)).trans HG.out)
    have HGR := Lib.hid ((grown_of_below HAL.out (some gb)).trans (grown_of_below hB3 (some gb)))
    clear hO3 hB3 hr3
    clear hc0 hc1 hc2 hc3 hc4 hc5 hc6
    go_wp2_with fail
    refine (refGet_any A3 c3 _ _ w3 HR3.out rfl).mono ?_
    rintro e w4 ⟨rfl, rfl⟩
    obtain ⟨hz0, hz1, hz2⟩ := cells3 HRW.out
    have hzf := fun j => frozen_of_row w3 (w.heap.size + 1) j _ _ HRW.out
    go_wp2
    obtain ⟨hr0, hr1, hr2⟩ := cells3 (set3_heap (a := .int .i64 (okN (inA base bs.length at_ 8))) (b := .int .i64 0) (c := .int .i64 0) HRW.out)
    simp only [set3] at hr0 hr1 hr2
    exact bodyPost_ret (v := .tuple #[.agg #[.int .i64 (okN (inA base bs.length at_ 8)), .int .i64 0, .int .i64 0], .int .u64 (getN (rdA base bs at_ 8) : Nat), .slice none 0 0]) (by simp [results, Try.results28, go_sem, hr0, hr1, hr2]) rfl (do_end (Nat.le_succ _) HLT.out.1 HLT.out.2 (ans5 base bs at_) _ _ _ rfl (own_nil w3 _ _ _) HA3.out rfl HGR.out _ _ _ _ rfl)
  · show Calls _ _ _ _ fun e w' => DoPost w T g gb base (ans5 base bs (base + at_.tmod 2000)) e w'
    go_enter Try.func28, Try.ntmps28
    go_wp2_with fail
    rw [← HX.out]
    go_quiet (fail)
    have hd0 : (x1.drewN nq).cell? ⟨w.heap.size, 0, none⟩ = some (.int .i64 5) := hc0
    have hd1 : (x1.drewN nq).cell? ⟨w.heap.size, 1, none⟩ = some (.int .i64 at_) := hc1
    have hd2 : (x1.drewN nq).cell? ⟨w.heap.size, 2, none⟩ = some (.int .i64 to_) := hc2
    have hd3 : (x1.drewN nq).cell? ⟨w.heap.size, 3, none⟩ = some (.int .i64 n) := hc3
    have hd4 : (x1.drewN nq).cell? ⟨w.heap.size, 4, none⟩ = some (.int .u64 (Wd : Int)) := hc4
    have hd5 : (x1.drewN nq).cell? ⟨w.heap.size, 5, none⟩ = some (.slice A xs.length cap) := hc5
    have hd6 : (x1.drewN nq).cell? ⟨w.heap.size, 6, none⟩ = some (.bool true) := hc6
    have HAn := Lib.hid (HA.out.drewN nq); have HRn := Lib.hid (show RdB (x1.drewN nq) A xs from HR.out); have HGn := Lib.hid (show (x1.drewN nq).heap[w.heap.size + 1]? = some (.cells #[.int .i64 0, .int .i64 0, .int .i64 0] 52 (0, 0)) from HG.out); have HSn := Lib.hid (show (x1.drewN nq).heap.size = w.heap.size + 2 from HSZ.out); have HALn := Lib.hid (below_drewN HAL.out nq)
    clear hc0 hc1 hc2 hc3 hc4 hc5 hc6 HA HR HG HSZ HAL
    generalize x1.drewN nq = y1 at *
    have hc0 := hd0
    have hc1 := hd1
    have hc2 := hd2
    have hc3 := hd3
    have hc4 := hd4
    have hc5 := hd5
    have hc6 := hd6
    have HA := Lib.hid HAn.out; have HR := Lib.hid HRn.out; have HG := Lib.hid HGn.out; have HSZ := Lib.hid HSn.out; have HAL := Lib.hid HALn.out
    clear hd0 hd1 hd2 hd3 hd4 hd5 hd6 HAn HRn HGn HSn HALn
    have hq0 := HA.out.c0
    have hglt := HA.out.lt.1
    go_wp2_with fail
    go_quiet (fail)
    clear hq0
    have hd0 : (y1.drewN nq).cell? ⟨w.heap.size, 0, none⟩ = some (.int .i64 5) := hc0
    have hd1 : (y1.drewN nq).cell? ⟨w.heap.size, 1, none⟩ = some (.int .i64 at_) := hc1
    have hd2 : (y1.drewN nq).cell? ⟨w.heap.size, 2, none⟩ = some (.int .i64 to_) := hc2
    have hd3 : (y1.drewN nq).cell? ⟨w.heap.size, 3, none⟩ = some (.int .i64 n) := hc3
    have hd4 : (y1.drewN nq).cell? ⟨w.heap.size, 4, none⟩ = some (.int .u64 (Wd : Int)) := hc4
    have hd5 : (y1.drewN nq).cell? ⟨w.heap.size, 5, none⟩ = some (.slice A xs.length cap) := hc5
    have hd6 : (y1.drewN nq).cell? ⟨w.heap.size, 6, none⟩ = some (.bool true) := hc6
    have HAn := Lib.hid (HA.out.drewN nq); have HRn := Lib.hid (show RdB (y1.drewN nq) A xs from HR.out); have HGn := Lib.hid (show (y1.drewN nq).heap[w.heap.size + 1]? = some (.cells #[.int .i64 0, .int .i64 0, .int .i64 0] 52 (0, 0)) from HG.out); have HSn := Lib.hid (show (y1.drewN nq).heap.size = w.heap.size + 2 from HSZ.out); have HALn := Lib.hid (below_drewN HAL.out nq)
    clear hc0 hc1 hc2 hc3 hc4 hc5 hc6 HA HR HG HSZ HAL
    generalize y1.drewN nq = y2 at *
    have hc0 := hd0
    have hc1 := hd1
    have hc2 := hd2
    have hc3 := hd3
    have hc4 := hd4
    have hc5 := hd5
    have hc6 := hd6
    have HA := Lib.hid HAn.out; have HR := Lib.hid HRn.out; have HG := Lib.hid HGn.out; have HSZ := Lib.hid HSn.out; have HAL := Lib.hid HALn.out
    clear hd0 hd1 hd2 hd3 hd4 hd5 hd6 HAn HRn HGn HSn HALn
    go_wp2_with fail
    refine (refRead_any HA.out (base + at_.tmod 2000) 8).mono ?_
    rintro e w3 ⟨v, rfl, hO3, hB3⟩
    obtain ⟨A3, c3, rfl, hr3⟩ := hO3.rd
    have HA3 := Lib.hid (HA.out.below hB3)
    have HO3 := Lib.hid (show OwnB w3 (w.heap.size + 1 + 1) 5 _ _ from own_le hO3 (by have := HSZ.out; omega)); have HR3 := Lib.hid hr3
    have HRW := Lib.hid (((grown_of_below hB3 (some gb)).block (w.heap.size + 1) (by have := HSZ.out; omega) (fun h => by have := HLT.out.2; simp at h; omega)).trans HG.out)
    have HGR := Lib.hid ((grown_of_below HAL.out (some gb)).trans (grown_of_below hB3 (some gb)))
    clear hO3 hB3 hr3
    clear hc0 hc1 hc2 hc3 hc4 hc5 hc6
    go_wp2_with fail
    refine (refGet_any A3 c3 _ _ w3 HR3.out rfl).mono ?_
    rintro e w4 ⟨rfl, rfl⟩
    obtain ⟨hz0, hz1, hz2⟩ := cells3 HRW.out
    have hzf := fun j => frozen_of_row w3 (w.heap.size + 1) j _ _ HRW.out
    go_wp2
    obtain ⟨hr0, hr1, hr2⟩ := cells3 (set3_heap (a := .int .i64 (okN (inA base bs.length (base + at_.tmod 2000) 8))) (b := .int .i64 0) (c := .int .i64 0) HRW.out)
    simp only [set3] at hr0 hr1 hr2
    exact bodyPost_ret (v := .tuple #[.agg #[.int .i64 (okN (inA base bs.length (base + at_.tmod 2000) 8)), .int .i64 0, .int .i64 0], .int .u64 (getN (rdA base bs (base + at_.tmod 2000) 8) : Nat), .slice none 0 0]) (by simp [results, Try.results28, go_sem, hr0, hr1, hr2]) rfl (do_end (Nat.le_succ _) HLT.out.1 HLT.out.2 (ans5 base bs (base + at_.tmod 2000)) _ _ _ rfl (own_nil w3 _ _ _) HA3.out rfl HGR.out _ _ _ _ rfl)
set_option maxHeartbeats 4000000 in
set_option maxRecDepth 20000 in
theorem want6_any (hA : Arn w T g gb base bs) (at_ to_ n : Int) (Wd : Nat) (A : Option Addr) (cap : Nat) (xs : List UInt8) (near : Bool) (hW : Wd < 18446744073709551616) (hr : RdB w A xs) (hne : ∀ a, A = some a → 0 < xs.length → a.block ≠ gb) :
    Calls Try.prog 28 #[.pointer (some ⟨g, 0, none⟩), .agg #[.int .i64 6, .int .i64 at_, .int .i64 to_, .int .i64 n, .int .u64 (Wd : Int), .slice A xs.length cap, .bool near]] w fun e w' => DoPost w T g gb base (ans6 base bs (nearA base near at_) Wd) e w' := by
  obtain ⟨t1, t2⟩ := tmod_bd at_
  obtain ⟨t3, t4⟩ := tmod_bd to_
  have hb0 := hA.b0
  have hb1 := hA.b1
  have hw1 : IntKind.i64.wrap (base + at_.tmod 2000) = base + at_.tmod 2000 := wrap_i64_in (by omega) (by omega)
  have hw2 : IntKind.i64.wrap (base + to_.tmod 2000) = base + to_.tmod 2000 := wrap_i64_in (by omega) (by omega)
  clear t1 t2 t3 t4
  have HB01 := Lib.hid (And.intro hb0 hb1)
  have HW := Lib.hid hW; clear hW
  have HLT := Lib.hid hA.lt
  have HNE := Lib.hid hne; clear hne
  obtain ⟨x1, hx1⟩ : ∃ x1, x1 = (w.alloc (.cells #[.int .i64 6, .int .i64 at_, .int .i64 to_, .int .i64 n, .int .u64 (Wd : Int), .slice A xs.length cap, .bool near] 57 (0, 0))).alloc (.cells #[.int .i64 0, .int .i64 0, .int .i64 0] 52 (0, 0)) := ⟨_, rfl⟩
  have hal : Below w.heap.size w x1 := by rw [hx1]; exact ((Below.refl _ _).alloc (Nat.le_refl _) _).alloc (by simp) _
  have hgr : x1.heap[w.heap.size + 1]? = some (.cells #[.int .i64 0, .int .i64 0, .int .i64 0] 52 (0, 0)) := by rw [hx1]; exact heap_alloc2_new _ _ _
  have hgb : x1.heap[w.heap.size]? = some (.cells #[.int .i64 6, .int .i64 at_, .int .i64 to_, .int .i64 n, .int .u64 (Wd : Int), .slice A xs.length cap, .bool near] 57 (0, 0)) := by rw [hx1, Below.heap_alloc _ _ _ (by simp)]; exact heap_alloc_new w _
  have hsz : x1.heap.size = w.heap.size + 2 := by rw [hx1]; simp
  have HA := Lib.hid (hA.below hal)
  have HR := Lib.hid (hr.below hal)
  have hc0 : x1.cell? ⟨w.heap.size, 0, none⟩ = some (.int .i64 6) := (cell_of_row _ _ _ _ _ _ hgb).trans rfl
  have hc1 : x1.cell? ⟨w.heap.size, 1, none⟩ = some (.int .i64 at_) := (cell_of_row _ _ _ _ _ _ hgb).trans rfl
  have hc2 : x1.cell? ⟨w.heap.size, 2, none⟩ = some (.int .i64 to_) := (cell_of_row _ _ _ _ _ _ hgb).trans rfl
  have hc3 : x1.cell? ⟨w.heap.size, 3, none⟩ = some (.int .i64 n) := (cell_of_row _ _ _ _ _ _ hgb).trans rfl
  have hc4 : x1.cell? ⟨w.heap.size, 4, none⟩ = some (.int .u64 (Wd : Int)) := (cell_of_row _ _ _ _ _ _ hgb).trans rfl
  have hc5 : x1.cell? ⟨w.heap.size, 5, none⟩ = some (.slice A xs.length cap) := (cell_of_row _ _ _ _ _ _ hgb).trans rfl
  have hc6 : x1.cell? ⟨w.heap.size, 6, none⟩ = some (.bool near) := (cell_of_row _ _ _ _ _ _ hgb).trans rfl
  have HG := Lib.hid hgr
  have HSZ := Lib.hid hsz
  have HAL := Lib.hid hal
  have HX := Lib.hid hx1
  clear hgb hgr hsz hal hA hr hb0 hb1 hx1
  cases near
  · show Calls _ _ _ _ fun e w' => DoPost w T g gb base (ans6 base bs at_ Wd) e w'
    go_enter Try.func28, Try.ntmps28
    go_wp2_with fail
    rw [← HX.out]
    go_quiet (fail)
    have hd0 : (x1.drewN nq).cell? ⟨w.heap.size, 0, none⟩ = some (.int .i64 6) := hc0
    have hd1 : (x1.drewN nq).cell? ⟨w.heap.size, 1, none⟩ = some (.int .i64 at_) := hc1
    have hd2 : (x1.drewN nq).cell? ⟨w.heap.size, 2, none⟩ = some (.int .i64 to_) := hc2
    have hd3 : (x1.drewN nq).cell? ⟨w.heap.size, 3, none⟩ = some (.int .i64 n) := hc3
    have hd4 : (x1.drewN nq).cell? ⟨w.heap.size, 4, none⟩ = some (.int .u64 (Wd : Int)) := hc4
    have hd5 : (x1.drewN nq).cell? ⟨w.heap.size, 5, none⟩ = some (.slice A xs.length cap) := hc5
    have hd6 : (x1.drewN nq).cell? ⟨w.heap.size, 6, none⟩ = some (.bool false) := hc6
    have HAn := Lib.hid (HA.out.drewN nq); have HRn := Lib.hid (show RdB (x1.drewN nq) A xs from HR.out); have HGn := Lib.hid (show (x1.drewN nq).heap[w.heap.size + 1]? = some (.cells #[.int .i64 0, .int .i64 0, .int .i64 0] 52 (0, 0)) from HG.out); have HSn := Lib.hid (show (x1.drewN nq).heap.size = w.heap.size + 2 from HSZ.out); have HALn := Lib.hid (below_drewN HAL.out nq)
    clear hc0 hc1 hc2 hc3 hc4 hc5 hc6 HA HR HG HSZ HAL
    generalize x1.drewN nq = y1 at *
    have hc0 := hd0
    have hc1 := hd1
    have hc2 := hd2
    have hc3 := hd3
    have hc4 := hd4
    have hc5 := hd5
    have hc6 := hd6
    have HA := Lib.hid HAn.out; have HR := Lib.hid HRn.out; have HG := Lib.hid HGn.out; have HSZ := Lib.hid HSn.out; have HAL := Lib.hid HALn.out
    clear hd0 hd1 hd2 hd3 hd4 hd5 hd6 HAn HRn HGn HSn HALn
    go_wp2_with fail
    refine (refPut8_any Wd y1 HW.out).mono ?_
    rintro e w2 ⟨A2, c2, rfl, hO2, hB2⟩
    have HA2 := Lib.hid (HA.out.below hB2); have HR2 := Lib.hid hO2.rdA; have HK2 := Lib.hid (grown_of_below hB2 (some gb))
    have HN2 := Lib.hid (show ∀ a, A2 = some a → a.block ≠ gb from fun a ha => by have := hO2.lt' a ha.symm; have := HLT.out.2; have := HSZ.out; omega)
    have hwc := refWrite_any HA2.out at_ (leB Wd 8) A2 c2 HR2.out (fun a ha _ => HN2.out a ha)
    rw [leB_length] at hwc
    have HWC := Lib.hid hwc; clear hO2 hB2 hwc
    go_wp2_with fail
    refine HWC.out.mono ?_
    rintro e w3 ⟨rfl, hA3, hg3⟩
    have HA3 := Lib.hid hA3
    have HRW := Lib.hid (((HK2.out.trans hg3).block (w.heap.size + 1) (by have := HSZ.out; omega) (fun h => by have := HLT.out.2; simp at h; omega)).trans HG.out)
    have HGR := Lib.hid ((grown_of_below HAL.out (some gb)).trans (HK2.out.trans hg3))
    clear hA3 hg3
    clear hc0 hc1 hc2 hc3 hc4 hc5 hc6
    obtain ⟨hz0, hz1, hz2⟩ := cells3 HRW.out
    have hzf := fun j => frozen_of_row w3 (w.heap.size + 1) j _ _ HRW.out
    go_wp2
    obtain ⟨hr0, hr1, hr2⟩ := cells3 (set3_heap (a := .int .i64 (okN (inA base bs.length at_ 8))) (b := .int .i64 0) (c := .int .i64 0) HRW.out)
    simp only [set3] at hr0 hr1 hr2
    exact bodyPost_ret (v := .tuple #[.agg #[.int .i64 (okN (inA base bs.length at_ 8)), .int .i64 0, .int .i64 0], .int .u64 0, .slice none 0 0]) (by simp [results, Try.results28, go_sem, hr0, hr1, hr2]) rfl (do_end (Nat.le_succ _) HLT.out.1 HLT.out.2 (ans6 base bs at_ Wd) _ _ _ rfl (own_nil w3 _ _ _) HA3.out rfl HGR.out _ _ _ _ rfl)
  · show Calls _ _ _ _ fun e w' => DoPost w T g gb base (ans6 base bs (base + at_.tmod 2000) Wd) e w'
    go_enter Try.func28, Try.ntmps28
    go_wp2_with fail
    rw [← HX.out]
    go_quiet (fail)
    have hd0 : (x1.drewN nq).cell? ⟨w.heap.size, 0, none⟩ = some (.int .i64 6) := hc0
    have hd1 : (x1.drewN nq).cell? ⟨w.heap.size, 1, none⟩ = some (.int .i64 at_) := hc1
    have hd2 : (x1.drewN nq).cell? ⟨w.heap.size, 2, none⟩ = some (.int .i64 to_) := hc2
    have hd3 : (x1.drewN nq).cell? ⟨w.heap.size, 3, none⟩ = some (.int .i64 n) := hc3
    have hd4 : (x1.drewN nq).cell? ⟨w.heap.size, 4, none⟩ = some (.int .u64 (Wd : Int)) := hc4
    have hd5 : (x1.drewN nq).cell? ⟨w.heap.size, 5, none⟩ = some (.slice A xs.length cap) := hc5
    have hd6 : (x1.drewN nq).cell? ⟨w.heap.size, 6, none⟩ = some (.bool true) := hc6
    have HAn := Lib.hid (HA.out.drewN nq); have HRn := Lib.hid (show RdB (x1.drewN nq) A xs from HR.out); have HGn := Lib.hid (show (x1.drewN nq).heap[w.heap.size + 1]? = some (.cells #[.int .i64 0, .int .i64 0, .int .i64 0] 52 (0, 0)) from HG.out); have HSn := Lib.hid (show (x1.drewN nq).heap.size = w.heap.size + 2 from HSZ.out); have HALn := Lib.hid (below_drewN HAL.out nq)
    clear hc0 hc1 hc2 hc3 hc4 hc5 hc6 HA HR HG HSZ HAL
    generalize x1.drewN nq = y1 at *
    have hc0 := hd0
    have hc1 := hd1
    have hc2 := hd2
    have hc3 := hd3
    have hc4 := hd4
    have hc5 := hd5
    have hc6 := hd6
    have HA := Lib.hid HAn.out; have HR := Lib.hid HRn.out; have HG := Lib.hid HGn.out; have HSZ := Lib.hid HSn.out; have HAL := Lib.hid HALn.out
    clear hd0 hd1 hd2 hd3 hd4 hd5 hd6 HAn HRn HGn HSn HALn
    have hq0 := HA.out.c0
    have hglt := HA.out.lt.1
    go_wp2_with fail
    go_quiet (fail)
    clear hq0
    have hd0 : (y1.drewN nq).cell? ⟨w.heap.size, 0, none⟩ = some (.int .i64 6) := hc0
    have hd1 : (y1.drewN nq).cell? ⟨w.heap.size, 1, none⟩ = some (.int .i64 at_) := hc1
    have hd2 : (y1.drewN nq).cell? ⟨w.heap.size, 2, none⟩ = some (.int .i64 to_) := hc2
    have hd3 : (y1.drewN nq).cell? ⟨w.heap.size, 3, none⟩ = some (.int .i64 n) := hc3
    have hd4 : (y1.drewN nq).cell? ⟨w.heap.size, 4, none⟩ = some (.int .u64 (Wd : Int)) := hc4
    have hd5 : (y1.drewN nq).cell? ⟨w.heap.size, 5, none⟩ = some (.slice A xs.length cap) := hc5
    have hd6 : (y1.drewN nq).cell? ⟨w.heap.size, 6, none⟩ = some (.bool true) := hc6
    have HAn := Lib.hid (HA.out.drewN nq); have HRn := Lib.hid (show RdB (y1.drewN nq) A xs from HR.out); have HGn := Lib.hid (show (y1.drewN nq).heap[w.heap.size + 1]? = some (.cells #[.int .i64 0, .int .i64 0, .int .i64 0] 52 (0, 0)) from HG.out); have HSn := Lib.hid (show (y1.drewN nq).heap.size = w.heap.size + 2 from HSZ.out); have HALn := Lib.hid (below_drewN HAL.out nq)
    clear hc0 hc1 hc2 hc3 hc4 hc5 hc6 HA HR HG HSZ HAL
    generalize y1.drewN nq = y2 at *
    have hc0 := hd0
    have hc1 := hd1
    have hc2 := hd2
    have hc3 := hd3
    have hc4 := hd4
    have hc5 := hd5
    have hc6 := hd6
    have HA := Lib.hid HAn.out; have HR := Lib.hid HRn.out; have HG := Lib.hid HGn.out; have HSZ := Lib.hid HSn.out; have HAL := Lib.hid HALn.out
    clear hd0 hd1 hd2 hd3 hd4 hd5 hd6 HAn HRn HGn HSn HALn
    go_wp2_with fail
    refine (refPut8_any Wd y2 HW.out).mono ?_
    rintro e w2 ⟨A2, c2, rfl, hO2, hB2⟩
    have HA2 := Lib.hid (HA.out.below hB2); have HR2 := Lib.hid hO2.rdA; have HK2 := Lib.hid (grown_of_below hB2 (some gb))
    have HN2 := Lib.hid (show ∀ a, A2 = some a → a.block ≠ gb from fun a ha => by have := hO2.lt' a ha.symm; have := HLT.out.2; have := HSZ.out; omega)
    have hwc := refWrite_any HA2.out (base + at_.tmod 2000) (leB Wd 8) A2 c2 HR2.out (fun a ha _ => HN2.out a ha)
    rw [leB_length] at hwc
    have HWC := Lib.hid hwc; clear hO2 hB2 hwc
    go_wp2_with fail
    refine HWC.out.mono ?_
    rintro e w3 ⟨rfl, hA3, hg3⟩
    have HA3 := Lib.hid hA3
    have HRW := Lib.hid (((HK2.out.trans hg3).block (w.heap.size + 1) (by have := HSZ.out; omega) (fun h => by have := HLT.out.2; simp at h; omega)).trans HG.out)
    have HGR := Lib.hid ((grown_of_below HAL.out (some gb)).trans (HK2.out.trans hg3))
    clear hA3 hg3
    clear hc0 hc1 hc2 hc3 hc4 hc5 hc6
    obtain ⟨hz0, hz1, hz2⟩ := cells3 HRW.out
    have hzf := fun j => frozen_of_row w3 (w.heap.size + 1) j _ _ HRW.out
    go_wp2
    obtain ⟨hr0, hr1, hr2⟩ := cells3 (set3_heap (a := .int .i64 (okN (inA base bs.length (base + at_.tmod 2000) 8))) (b := .int .i64 0) (c := .int .i64 0) HRW.out)
    simp only [set3] at hr0 hr1 hr2
    exact bodyPost_ret (v := .tuple #[.agg #[.int .i64 (okN (inA base bs.length (base + at_.tmod 2000) 8)), .int .i64 0, .int .i64 0], .int .u64 0, .slice none 0 0]) (by simp [results, Try.results28, go_sem, hr0, hr1, hr2]) rfl (do_end (Nat.le_succ _) HLT.out.1 HLT.out.2 (ans6 base bs (base + at_.tmod 2000) Wd) _ _ _ rfl (own_nil w3 _ _ _) HA3.out rfl HGR.out _ _ _ _ rfl)
set_option maxHeartbeats 4000000 in
set_option maxRecDepth 20000 in
theorem want7_any (hA : Arn w T g gb base bs) (at_ to_ n : Int) (Wd : Nat) (A : Option Addr) (cap : Nat) (xs : List UInt8) (near : Bool) (hW : Wd < 18446744073709551616) (hr : RdB w A xs) (hne : ∀ a, A = some a → 0 < xs.length → a.block ≠ gb) :
    Calls Try.prog 28 #[.pointer (some ⟨g, 0, none⟩), .agg #[.int .i64 7, .int .i64 at_, .int .i64 to_, .int .i64 n, .int .u64 (Wd : Int), .slice A xs.length cap, .bool near]] w fun e w' => DoPost w T g gb base (ans7 base bs (nearA base near at_)) e w' := by
  obtain ⟨t1, t2⟩ := tmod_bd at_
  obtain ⟨t3, t4⟩ := tmod_bd to_
  have hb0 := hA.b0
  have hb1 := hA.b1
  have hw1 : IntKind.i64.wrap (base + at_.tmod 2000) = base + at_.tmod 2000 := wrap_i64_in (by omega) (by omega)
  have hw2 : IntKind.i64.wrap (base + to_.tmod 2000) = base + to_.tmod 2000 := wrap_i64_in (by omega) (by omega)
  clear t1 t2 t3 t4
  have HB01 := Lib.hid (And.intro hb0 hb1)
  have HW := Lib.hid hW; clear hW
  have HLT := Lib.hid hA.lt
  have HNE := Lib.hid hne; clear hne
  obtain ⟨x1, hx1⟩ : ∃ x1, x1 = (w.alloc (.cells #[.int .i64 7, .int .i64 at_, .int .i64 to_, .int .i64 n, .int .u64 (Wd : Int), .slice A xs.length cap, .bool near] 57 (0, 0))).alloc (.cells #[.int .i64 0, .int .i64 0, .int .i64 0] 52 (0, 0)) := ⟨_, rfl⟩
  have hal : Below w.heap.size w x1 := by rw [hx1]; exact ((Below.refl _ _).alloc (Nat.le_refl _) _).alloc (by simp) _
  have hgr : x1.heap[w.heap.size + 1]? = some (.cells #[.int .i64 0, .int .i64 0, .int .i64 0] 52 (0, 0)) := by rw [hx1]; exact heap_alloc2_new _ _ _
  have hgb : x1.heap[w.heap.size]? = some (.cells #[.int .i64 7, .int .i64 at_, .int .i64 to_, .int .i64 n, .int .u64 (Wd : Int), .slice A xs.length cap, .bool near] 57 (0, 0)) := by rw [hx1, Below.heap_alloc _ _ _ (by simp)]; exact heap_alloc_new w _
  have hsz : x1.heap.size = w.heap.size + 2 := by rw [hx1]; simp
  have HA := Lib.hid (hA.below hal)
  have HR := Lib.hid (hr.below hal)
  have hc0 : x1.cell? ⟨w.heap.size, 0, none⟩ = some (.int .i64 7) := (cell_of_row _ _ _ _ _ _ hgb).trans rfl
  have hc1 : x1.cell? ⟨w.heap.size, 1, none⟩ = some (.int .i64 at_) := (cell_of_row _ _ _ _ _ _ hgb).trans rfl
  have hc2 : x1.cell? ⟨w.heap.size, 2, none⟩ = some (.int .i64 to_) := (cell_of_row _ _ _ _ _ _ hgb).trans rfl
  have hc3 : x1.cell? ⟨w.heap.size, 3, none⟩ = some (.int .i64 n) := (cell_of_row _ _ _ _ _ _ hgb).trans rfl
  have hc4 : x1.cell? ⟨w.heap.size, 4, none⟩ = some (.int .u64 (Wd : Int)) := (cell_of_row _ _ _ _ _ _ hgb).trans rfl
  have hc5 : x1.cell? ⟨w.heap.size, 5, none⟩ = some (.slice A xs.length cap) := (cell_of_row _ _ _ _ _ _ hgb).trans rfl
  have hc6 : x1.cell? ⟨w.heap.size, 6, none⟩ = some (.bool near) := (cell_of_row _ _ _ _ _ _ hgb).trans rfl
  have HG := Lib.hid hgr
  have HSZ := Lib.hid hsz
  have HAL := Lib.hid hal
  have HX := Lib.hid hx1
  clear hgb hgr hsz hal hA hr hb0 hb1 hx1
  cases near
  · show Calls _ _ _ _ fun e w' => DoPost w T g gb base (ans7 base bs at_) e w'
    go_enter Try.func28, Try.ntmps28
    go_wp2_with fail
    rw [← HX.out]
    go_quiet (fail)
    have hd0 : (x1.drewN nq).cell? ⟨w.heap.size, 0, none⟩ = some (.int .i64 7) := hc0
    have hd1 : (x1.drewN nq).cell? ⟨w.heap.size, 1, none⟩ = some (.int .i64 at_) := hc1
    have hd2 : (x1.drewN nq).cell? ⟨w.heap.size, 2, none⟩ = some (.int .i64 to_) := hc2
    have hd3 : (x1.drewN nq).cell? ⟨w.heap.size, 3, none⟩ = some (.int .i64 n) := hc3
    have hd4 : (x1.drewN nq).cell? ⟨w.heap.size, 4, none⟩ = some (.int .u64 (Wd : Int)) := hc4
    have hd5 : (x1.drewN nq).cell? ⟨w.heap.size, 5, none⟩ = some (.slice A xs.length cap) := hc5
    have hd6 : (x1.drewN nq).cell? ⟨w.heap.size, 6, none⟩ = some (.bool false) := hc6
    have HAn := Lib.hid (HA.out.drewN nq); have HRn := Lib.hid (show RdB (x1.drewN nq) A xs from HR.out); have HGn := Lib.hid (show (x1.drewN nq).heap[w.heap.size + 1]? = some (.cells #[.int .i64 0, .int .i64 0, .int .i64 0] 52 (0, 0)) from HG.out); have HSn := Lib.hid (show (x1.drewN nq).heap.size = w.heap.size + 2 from HSZ.out); have HALn := Lib.hid (below_drewN HAL.out nq)
    clear hc0 hc1 hc2 hc3 hc4 hc5 hc6 HA HR HG HSZ HAL
    generalize x1.drewN nq = y1 at *
    have hc0 := hd0
    have hc1 := hd1
    have hc2 := hd2
    have hc3 := hd3
    have hc4 := hd4
    have hc5 := hd5
    have hc6 := hd6
    have HA := Lib.hid HAn.out; have HR := Lib.hid HRn.out; have HG := Lib.hid HGn.out; have HSZ := Lib.hid HSn.out; have HAL := Lib.hid HALn.out
    clear hd0 hd1 hd2 hd3 hd4 hd5 hd6 HAn HRn HGn HSn HALn
    go_wp2_with fail
    refine (refPlace_any HA.out at_).mono ?_
    rintro e w3 ⟨rfl, hB3⟩
    have HA3 := Lib.hid (HA.out.below hB3)
    have HRW := Lib.hid (((grown_of_below hB3 (some gb)).block (w.heap.size + 1) (by have := HSZ.out; omega) (fun h => by have := HLT.out.2; simp at h; omega)).trans HG.out)
    have HGR := Lib.hid ((grown_of_below HAL.out (some gb)).trans (grown_of_below hB3 (some gb)))
    clear hB3
    clear hc0 hc1 hc2 hc3 hc4 hc5 hc6
    cases hin : inA base bs.length at_ 1
    · have HI := Lib.hid hin; clear hin
      rw [show placeA base bs at_ = .tuple #[.int .i64 0, .int .i64 0, .bool false] from by unfold placeA; rw [HI.out]; rfl]
      have HAN := Lib.hid (show ans7 base bs at_ = ⟨0, 0, 0, 0, [], bs⟩ from by unfold ans7; rw [HI.out]; rfl)
      obtain ⟨hz0, hz1, hz2⟩ := cells3 HRW.out
      have hzf := fun j => frozen_of_row w3 (w.heap.size + 1) j _ _ HRW.out
      go_wp2
      obtain ⟨hr0, hr1, hr2⟩ := cells3 (set3_heap (a := .int .i64 0) (b := .int .i64 0) (c := .int .i64 0) HRW.out)
      simp only [set3] at hr0 hr1 hr2
      rw [HAN.out]
      exact bodyPost_ret (v := .tuple #[.agg #[.int .i64 0, .int .i64 0, .int .i64 0], .int .u64 0, .slice none 0 0]) (by simp [results, Try.results28, go_sem, hr0, hr1, hr2]) rfl (do_end (Nat.le_succ _) HLT.out.1 HLT.out.2 (⟨0, 0, 0, 0, [], bs⟩) _ _ _ rfl (own_nil w3 _ _ _) HA3.out rfl HGR.out _ _ _ _ rfl)
    · have HI := Lib.hid hin; clear hin
      rw [show placeA base bs at_ = .tuple #[.int .i64 ((at_ - base) / 256), .int .i64 ((at_ - base) % 256), .bool true] from by unfold placeA; rw [HI.out]; rfl]
      have HAN := Lib.hid (show ans7 base bs at_ = ⟨1, ((at_ - base) / 256), ((at_ - base) % 256), 0, [], bs⟩ from by unfold ans7; rw [HI.out]; rfl)
      obtain ⟨hz0, hz1, hz2⟩ := cells3 HRW.out
      have hzf := fun j => frozen_of_row w3 (w.heap.size + 1) j _ _ HRW.out
      go_wp2
      obtain ⟨hr0, hr1, hr2⟩ := cells3 (set3_heap (a := .int .i64 1) (b := .int .i64 ((at_ - base) / 256)) (c := .int .i64 ((at_ - base) % 256)) HRW.out)
      simp only [set3] at hr0 hr1 hr2
      rw [HAN.out]
      exact bodyPost_ret (v := .tuple #[.agg #[.int .i64 1, .int .i64 ((at_ - base) / 256), .int .i64 ((at_ - base) % 256)], .int .u64 0, .slice none 0 0]) (by simp [results, Try.results28, go_sem, hr0, hr1, hr2]) rfl (do_end (Nat.le_succ _) HLT.out.1 HLT.out.2 (⟨1, ((at_ - base) / 256), ((at_ - base) % 256), 0, [], bs⟩) _ _ _ rfl (own_nil w3 _ _ _) HA3.out rfl HGR.out _ _ _ _ rfl)
  · show Calls _ _ _ _ fun e w' => DoPost w T g gb base (ans7 base bs (base + at_.tmod 2000)) e w'
    go_enter Try.func28, Try.ntmps28
    go_wp2_with fail
    rw [← HX.out]
    go_quiet (fail)
    have hd0 : (x1.drewN nq).cell? ⟨w.heap.size, 0, none⟩ = some (.int .i64 7) := hc0
    have hd1 : (x1.drewN nq).cell? ⟨w.heap.size, 1, none⟩ = some (.int .i64 at_) := hc1
    have hd2 : (x1.drewN nq).cell? ⟨w.heap.size, 2, none⟩ = some (.int .i64 to_) := hc2
    have hd3 : (x1.drewN nq).cell? ⟨w.heap.size, 3, none⟩ = some (.int .i64 n) := hc3
    have hd4 : (x1.drewN nq).cell? ⟨w.heap.size, 4, none⟩ = some (.int .u64 (Wd : Int)) := hc4
    have hd5 : (x1.drewN nq).cell? ⟨w.heap.size, 5, none⟩ = some (.slice A xs.length cap) := hc5
    have hd6 : (x1.drewN nq).cell? ⟨w.heap.size, 6, none⟩ = some (.bool true) := hc6
    have HAn := Lib.hid (HA.out.drewN nq); have HRn := Lib.hid (show RdB (x1.drewN nq) A xs from HR.out); have HGn := Lib.hid (show (x1.drewN nq).heap[w.heap.size + 1]? = some (.cells #[.int .i64 0, .int .i64 0, .int .i64 0] 52 (0, 0)) from HG.out); have HSn := Lib.hid (show (x1.drewN nq).heap.size = w.heap.size + 2 from HSZ.out); have HALn := Lib.hid (below_drewN HAL.out nq)
    clear hc0 hc1 hc2 hc3 hc4 hc5 hc6 HA HR HG HSZ HAL
    generalize x1.drewN nq = y1 at *
    have hc0 := hd0
    have hc1 := hd1
    have hc2 := hd2
    have hc3 := hd3
    have hc4 := hd4
    have hc5 := hd5
    have hc6 := hd6
    have HA := Lib.hid HAn.out; have HR := Lib.hid HRn.out; have HG := Lib.hid HGn.out; have HSZ := Lib.hid HSn.out; have HAL := Lib.hid HALn.out
    clear hd0 hd1 hd2 hd3 hd4 hd5 hd6 HAn HRn HGn HSn HALn
    have hq0 := HA.out.c0
    have hglt := HA.out.lt.1
    go_wp2_with fail
    go_quiet (fail)
    clear hq0
    have hd0 : (y1.drewN nq).cell? ⟨w.heap.size, 0, none⟩ = some (.int .i64 7) := hc0
    have hd1 : (y1.drewN nq).cell? ⟨w.heap.size, 1, none⟩ = some (.int .i64 at_) := hc1
    have hd2 : (y1.drewN nq).cell? ⟨w.heap.size, 2, none⟩ = some (.int .i64 to_) := hc2
    have hd3 : (y1.drewN nq).cell? ⟨w.heap.size, 3, none⟩ = some (.int .i64 n) := hc3
    have hd4 : (y1.drewN nq).cell? ⟨w.heap.size, 4, none⟩ = some (.int .u64 (Wd : Int)) := hc4
    have hd5 : (y1.drewN nq).cell? ⟨w.heap.size, 5, none⟩ = some (.slice A xs.length cap) := hc5
    have hd6 : (y1.drewN nq).cell? ⟨w.heap.size, 6, none⟩ = some (.bool true) := hc6
    have HAn := Lib.hid (HA.out.drewN nq); have HRn := Lib.hid (show RdB (y1.drewN nq) A xs from HR.out); have HGn := Lib.hid (show (y1.drewN nq).heap[w.heap.size + 1]? = some (.cells #[.int .i64 0, .int .i64 0, .int .i64 0] 52 (0, 0)) from HG.out); have HSn := Lib.hid (show (y1.drewN nq).heap.size = w.heap.size + 2 from HSZ.out); have HALn := Lib.hid (below_drewN HAL.out nq)
    clear hc0 hc1 hc2 hc3 hc4 hc5 hc6 HA HR HG HSZ HAL
    generalize y1.drewN nq = y2 at *
    have hc0 := hd0
    have hc1 := hd1
    have hc2 := hd2
    have hc3 := hd3
    have hc4 := hd4
    have hc5 := hd5
    have hc6 := hd6
    have HA := Lib.hid HAn.out; have HR := Lib.hid HRn.out; have HG := Lib.hid HGn.out; have HSZ := Lib.hid HSn.out; have HAL := Lib.hid HALn.out
    clear hd0 hd1 hd2 hd3 hd4 hd5 hd6 HAn HRn HGn HSn HALn
    go_wp2_with fail
    refine (refPlace_any HA.out (base + at_.tmod 2000)).mono ?_
    rintro e w3 ⟨rfl, hB3⟩
    have HA3 := Lib.hid (HA.out.below hB3)
    have HRW := Lib.hid (((grown_of_below hB3 (some gb)).block (w.heap.size + 1) (by have := HSZ.out; omega) (fun h => by have := HLT.out.2; simp at h; omega)).trans HG.out)
    have HGR := Lib.hid ((grown_of_below HAL.out (some gb)).trans (grown_of_below hB3 (some gb)))
    clear hB3
    clear hc0 hc1 hc2 hc3 hc4 hc5 hc6
    cases hin : inA base bs.length (base + at_.tmod 2000) 1
    · have HI := Lib.hid hin; clear hin
      rw [show placeA base bs (base + at_.tmod 2000) = .tuple #[.int .i64 0, .int .i64 0, .bool false] from by unfold placeA; rw [HI.out]; rfl]
      have HAN := Lib.hid (show ans7 base bs (base + at_.tmod 2000) = ⟨0, 0, 0, 0, [], bs⟩ from by unfold ans7; rw [HI.out]; rfl)
      obtain ⟨hz0, hz1, hz2⟩ := cells3 HRW.out
      have hzf := fun j => frozen_of_row w3 (w.heap.size + 1) j _ _ HRW.out
      go_wp2
      obtain ⟨hr0, hr1, hr2⟩ := cells3 (set3_heap (a := .int .i64 0) (b := .int .i64 0) (c := .int .i64 0) HRW.out)
      simp only [set3] at hr0 hr1 hr2
      rw [HAN.out]
      exact bodyPost_ret (v := .tuple #[.agg #[.int .i64 0, .int .i64 0, .int .i64 0], .int .u64 0, .slice none 0 0]) (by simp [results, Try.results28, go_sem, hr0, hr1, hr2]) rfl (do_end (Nat.le_succ _) HLT.out.1 HLT.out.2 (⟨0, 0, 0, 0, [], bs⟩) _ _ _ rfl (own_nil w3 _ _ _) HA3.out rfl HGR.out _ _ _ _ rfl)
    · have HI := Lib.hid hin; clear hin
      rw [show placeA base bs (base + at_.tmod 2000) = .tuple #[.int .i64 (((base + at_.tmod 2000) - base) / 256), .int .i64 (((base + at_.tmod 2000) - base) % 256), .bool true] from by unfold placeA; rw [HI.out]; rfl]
      have HAN := Lib.hid (show ans7 base bs (base + at_.tmod 2000) = ⟨1, (((base + at_.tmod 2000) - base) / 256), (((base + at_.tmod 2000) - base) % 256), 0, [], bs⟩ from by unfold ans7; rw [HI.out]; rfl)
      obtain ⟨hz0, hz1, hz2⟩ := cells3 HRW.out
      have hzf := fun j => frozen_of_row w3 (w.heap.size + 1) j _ _ HRW.out
      go_wp2
      obtain ⟨hr0, hr1, hr2⟩ := cells3 (set3_heap (a := .int .i64 1) (b := .int .i64 (((base + at_.tmod 2000) - base) / 256)) (c := .int .i64 (((base + at_.tmod 2000) - base) % 256)) HRW.out)
      simp only [set3] at hr0 hr1 hr2
      rw [HAN.out]
      exact bodyPost_ret (v := .tuple #[.agg #[.int .i64 1, .int .i64 (((base + at_.tmod 2000) - base) / 256), .int .i64 (((base + at_.tmod 2000) - base) % 256)], .int .u64 0, .slice none 0 0]) (by simp [results, Try.results28, go_sem, hr0, hr1, hr2]) rfl (do_end (Nat.le_succ _) HLT.out.1 HLT.out.2 (⟨1, (((base + at_.tmod 2000) - base) / 256), (((base + at_.tmod 2000) - base) % 256), 0, [], bs⟩) _ _ _ rfl (own_nil w3 _ _ _) HA3.out rfl HGR.out _ _ _ _ rfl)
set_option maxHeartbeats 4000000 in
set_option maxRecDepth 20000 in
theorem want8_any (hA : Arn w T g gb base bs) (at_ to_ n : Int) (Wd : Nat) (A : Option Addr) (cap : Nat) (xs : List UInt8) (near : Bool) (hW : Wd < 18446744073709551616) (hr : RdB w A xs) (hne : ∀ a, A = some a → 0 < xs.length → a.block ≠ gb) :
    Calls Try.prog 28 #[.pointer (some ⟨g, 0, none⟩), .agg #[.int .i64 8, .int .i64 at_, .int .i64 to_, .int .i64 n, .int .u64 (Wd : Int), .slice A xs.length cap, .bool near]] w fun e w' => DoPost w T g gb base (ans8 bs at_ n) e w' := by
  obtain ⟨t1, t2⟩ := tmod_bd at_
  obtain ⟨t3, t4⟩ := tmod_bd to_
  have hb0 := hA.b0
  have hb1 := hA.b1
  have hw1 : IntKind.i64.wrap (base + at_.tmod 2000) = base + at_.tmod 2000 := wrap_i64_in (by omega) (by omega)
  have hw2 : IntKind.i64.wrap (base + to_.tmod 2000) = base + to_.tmod 2000 := wrap_i64_in (by omega) (by omega)
  clear t1 t2 t3 t4
  have HB01 := Lib.hid (And.intro hb0 hb1)
  have HW := Lib.hid hW; clear hW
  have HLT := Lib.hid hA.lt
  have HNE := Lib.hid hne; clear hne
  obtain ⟨x1, hx1⟩ : ∃ x1, x1 = (w.alloc (.cells #[.int .i64 8, .int .i64 at_, .int .i64 to_, .int .i64 n, .int .u64 (Wd : Int), .slice A xs.length cap, .bool near] 57 (0, 0))).alloc (.cells #[.int .i64 0, .int .i64 0, .int .i64 0] 52 (0, 0)) := ⟨_, rfl⟩
  have hal : Below w.heap.size w x1 := by rw [hx1]; exact ((Below.refl _ _).alloc (Nat.le_refl _) _).alloc (by simp) _
  have hgr : x1.heap[w.heap.size + 1]? = some (.cells #[.int .i64 0, .int .i64 0, .int .i64 0] 52 (0, 0)) := by rw [hx1]; exact heap_alloc2_new _ _ _
  have hgb : x1.heap[w.heap.size]? = some (.cells #[.int .i64 8, .int .i64 at_, .int .i64 to_, .int .i64 n, .int .u64 (Wd : Int), .slice A xs.length cap, .bool near] 57 (0, 0)) := by rw [hx1, Below.heap_alloc _ _ _ (by simp)]; exact heap_alloc_new w _
  have hsz : x1.heap.size = w.heap.size + 2 := by rw [hx1]; simp
  have HA := Lib.hid (hA.below hal)
  have HR := Lib.hid (hr.below hal)
  have hc0 : x1.cell? ⟨w.heap.size, 0, none⟩ = some (.int .i64 8) := (cell_of_row _ _ _ _ _ _ hgb).trans rfl
  have hc1 : x1.cell? ⟨w.heap.size, 1, none⟩ = some (.int .i64 at_) := (cell_of_row _ _ _ _ _ _ hgb).trans rfl
  have hc2 : x1.cell? ⟨w.heap.size, 2, none⟩ = some (.int .i64 to_) := (cell_of_row _ _ _ _ _ _ hgb).trans rfl
  have hc3 : x1.cell? ⟨w.heap.size, 3, none⟩ = some (.int .i64 n) := (cell_of_row _ _ _ _ _ _ hgb).trans rfl
  have hc4 : x1.cell? ⟨w.heap.size, 4, none⟩ = some (.int .u64 (Wd : Int)) := (cell_of_row _ _ _ _ _ _ hgb).trans rfl
  have hc5 : x1.cell? ⟨w.heap.size, 5, none⟩ = some (.slice A xs.length cap) := (cell_of_row _ _ _ _ _ _ hgb).trans rfl
  have hc6 : x1.cell? ⟨w.heap.size, 6, none⟩ = some (.bool near) := (cell_of_row _ _ _ _ _ _ hgb).trans rfl
  have HG := Lib.hid hgr
  have HSZ := Lib.hid hsz
  have HAL := Lib.hid hal
  have HX := Lib.hid hx1
  clear hgb hgr hsz hal hA hr hb0 hb1 hx1
  cases near
  · show Calls _ _ _ _ fun e w' => DoPost w T g gb base (ans8 bs at_ n) e w'
    go_enter Try.func28, Try.ntmps28
    go_wp2_with fail
    rw [← HX.out]
    go_quiet (fail)
    have hd0 : (x1.drewN nq).cell? ⟨w.heap.size, 0, none⟩ = some (.int .i64 8) := hc0
    have hd1 : (x1.drewN nq).cell? ⟨w.heap.size, 1, none⟩ = some (.int .i64 at_) := hc1
    have hd2 : (x1.drewN nq).cell? ⟨w.heap.size, 2, none⟩ = some (.int .i64 to_) := hc2
    have hd3 : (x1.drewN nq).cell? ⟨w.heap.size, 3, none⟩ = some (.int .i64 n) := hc3
    have hd4 : (x1.drewN nq).cell? ⟨w.heap.size, 4, none⟩ = some (.int .u64 (Wd : Int)) := hc4
    have hd5 : (x1.drewN nq).cell? ⟨w.heap.size, 5, none⟩ = some (.slice A xs.length cap) := hc5
    have hd6 : (x1.drewN nq).cell? ⟨w.heap.size, 6, none⟩ = some (.bool false) := hc6
    have HAn := Lib.hid (HA.out.drewN nq); have HRn := Lib.hid (show RdB (x1.drewN nq) A xs from HR.out); have HGn := Lib.hid (show (x1.drewN nq).heap[w.heap.size + 1]? = some (.cells #[.int .i64 0, .int .i64 0, .int .i64 0] 52 (0, 0)) from HG.out); have HSn := Lib.hid (show (x1.drewN nq).heap.size = w.heap.size + 2 from HSZ.out); have HALn := Lib.hid (below_drewN HAL.out nq)
    clear hc0 hc1 hc2 hc3 hc4 hc5 hc6 HA HR HG HSZ HAL
    generalize x1.drewN nq = y1 at *
    have hc0 := hd0
    have hc1 := hd1
    have hc2 := hd2
    have hc3 := hd3
    have hc4 := hd4
    have hc5 := hd5
    have hc6 := hd6
    have HA := Lib.hid HAn.out; have HR := Lib.hid HRn.out; have HG := Lib.hid HGn.out; have HSZ := Lib.hid HSn.out; have HAL := Lib.hid HALn.out
    clear hd0 hd1 hd2 hd3 hd4 hd5 hd6 HAn HRn HGn HSn HALn
    go_wp2_with fail
    refine (refAddr_any HA.out at_ n).mono ?_
    rintro e w3 ⟨rfl, hB3⟩
    have HA3 := Lib.hid (HA.out.below hB3)
    have hq0 := HA3.out.c0
    have HRW := Lib.hid (((grown_of_below hB3 (some gb)).block (w.heap.size + 1) (by have := HSZ.out; omega) (fun h => by have := HLT.out.2; simp at h; omega)).trans HG.out)
    have HGR := Lib.hid ((grown_of_below HAL.out (some gb)).trans (grown_of_below hB3 (some gb)))
    clear hB3
    clear hc0 hc1 hc2 hc3 hc4 hc5 hc6
    cases hin : addrB bs at_ n
    · have HI := Lib.hid hin
      clear hin
      rw [show addrA base bs at_ n = .tuple #[.int .i64 0, .bool false] from by unfold addrA; rw [HI.out]; rfl]
      have HAN := Lib.hid (show ans8 bs at_ n = ⟨0, 0, 0, 0, [], bs⟩ from by unfold ans8; rw [HI.out]; rfl)
      obtain ⟨hz0, hz1, hz2⟩ := cells3 HRW.out
      have hzf := fun j => frozen_of_row w3 (w.heap.size + 1) j _ _ HRW.out
      go_wp2
      obtain ⟨hr0, hr1, hr2⟩ := cells3 (set3_heap (a := .int .i64 0) (b := .int .i64 0) (c := .int .i64 0) HRW.out)
      simp only [set3] at hr0 hr1 hr2
      rw [HAN.out]
      exact bodyPost_ret (v := .tuple #[.agg #[.int .i64 0, .int .i64 0, .int .i64 0], .int .u64 0, .slice none 0 0]) (by simp [results, Try.results28, go_sem, hr0, hr1, hr2]) rfl (do_end (Nat.le_succ _) HLT.out.1 HLT.out.2 (⟨0, 0, 0, 0, [], bs⟩) _ _ _ rfl (own_nil w3 _ _ _) HA3.out rfl HGR.out _ _ _ _ rfl)
    · have HI := Lib.hid hin
      have hbd : 0 ≤ at_ ∧ at_ < ((bs.length / 256 : Nat) : Int) ∧ 0 ≤ n ∧ n < 256 := by unfold addrB at hin; exact of_decide_eq_true hin
      have hbl := HA3.out.bl
      have hw3 : IntKind.i64.wrap (base + at_ * 256 + n - base) = at_ * 256 + n := by rw [wrap_i64_in (by have := HB01.out; omega) (by have := HB01.out; omega)]; omega
      clear hbd hbl
      clear hin
      rw [show addrA base bs at_ n = .tuple #[.int .i64 (base + at_ * 256 + n), .bool true] from by unfold addrA; rw [HI.out]; rfl]
      have HAN := Lib.hid (show ans8 bs at_ n = ⟨1, at_ * 256 + n, 0, 0, [], bs⟩ from by unfold ans8; rw [HI.out]; rfl)
      obtain ⟨hz0, hz1, hz2⟩ := cells3 HRW.out
      have hzf := fun j => frozen_of_row w3 (w.heap.size + 1) j _ _ HRW.out
      go_wp2
      obtain ⟨hr0, hr1, hr2⟩ := cells3 (set3_heap (a := .int .i64 1) (b := .int .i64 (at_ * 256 + n)) (c := .int .i64 0) HRW.out)
      simp only [set3] at hr0 hr1 hr2
      rw [HAN.out]
      exact bodyPost_ret (v := .tuple #[.agg #[.int .i64 1, .int .i64 (at_ * 256 + n), .int .i64 0], .int .u64 0, .slice none 0 0]) (by simp [results, Try.results28, go_sem, hr0, hr1, hr2]) rfl (do_end (Nat.le_succ _) HLT.out.1 HLT.out.2 (⟨1, at_ * 256 + n, 0, 0, [], bs⟩) _ _ _ rfl (own_nil w3 _ _ _) HA3.out rfl HGR.out _ _ _ _ rfl)
  · show Calls _ _ _ _ fun e w' => DoPost w T g gb base (ans8 bs at_ n) e w'
    go_enter Try.func28, Try.ntmps28
    go_wp2_with fail
    rw [← HX.out]
    go_quiet (fail)
    have hd0 : (x1.drewN nq).cell? ⟨w.heap.size, 0, none⟩ = some (.int .i64 8) := hc0
    have hd1 : (x1.drewN nq).cell? ⟨w.heap.size, 1, none⟩ = some (.int .i64 at_) := hc1
    have hd2 : (x1.drewN nq).cell? ⟨w.heap.size, 2, none⟩ = some (.int .i64 to_) := hc2
    have hd3 : (x1.drewN nq).cell? ⟨w.heap.size, 3, none⟩ = some (.int .i64 n) := hc3
    have hd4 : (x1.drewN nq).cell? ⟨w.heap.size, 4, none⟩ = some (.int .u64 (Wd : Int)) := hc4
    have hd5 : (x1.drewN nq).cell? ⟨w.heap.size, 5, none⟩ = some (.slice A xs.length cap) := hc5
    have hd6 : (x1.drewN nq).cell? ⟨w.heap.size, 6, none⟩ = some (.bool true) := hc6
    have HAn := Lib.hid (HA.out.drewN nq); have HRn := Lib.hid (show RdB (x1.drewN nq) A xs from HR.out); have HGn := Lib.hid (show (x1.drewN nq).heap[w.heap.size + 1]? = some (.cells #[.int .i64 0, .int .i64 0, .int .i64 0] 52 (0, 0)) from HG.out); have HSn := Lib.hid (show (x1.drewN nq).heap.size = w.heap.size + 2 from HSZ.out); have HALn := Lib.hid (below_drewN HAL.out nq)
    clear hc0 hc1 hc2 hc3 hc4 hc5 hc6 HA HR HG HSZ HAL
    generalize x1.drewN nq = y1 at *
    have hc0 := hd0
    have hc1 := hd1
    have hc2 := hd2
    have hc3 := hd3
    have hc4 := hd4
    have hc5 := hd5
    have hc6 := hd6
    have HA := Lib.hid HAn.out; have HR := Lib.hid HRn.out; have HG := Lib.hid HGn.out; have HSZ := Lib.hid HSn.out; have HAL := Lib.hid HALn.out
    clear hd0 hd1 hd2 hd3 hd4 hd5 hd6 HAn HRn HGn HSn HALn
    have hq0 := HA.out.c0
    have hglt := HA.out.lt.1
    go_wp2_with fail
    go_quiet (fail)
    clear hq0
    have hd0 : (y1.drewN nq).cell? ⟨w.heap.size, 0, none⟩ = some (.int .i64 8) := hc0
    have hd1 : (y1.drewN nq).cell? ⟨w.heap.size, 1, none⟩ = some (.int .i64 at_) := hc1
    have hd2 : (y1.drewN nq).cell? ⟨w.heap.size, 2, none⟩ = some (.int .i64 to_) := hc2
    have hd3 : (y1.drewN nq).cell? ⟨w.heap.size, 3, none⟩ = some (.int .i64 n) := hc3
    have hd4 : (y1.drewN nq).cell? ⟨w.heap.size, 4, none⟩ = some (.int .u64 (Wd : Int)) := hc4
    have hd5 : (y1.drewN nq).cell? ⟨w.heap.size, 5, none⟩ = some (.slice A xs.length cap) := hc5
    have hd6 : (y1.drewN nq).cell? ⟨w.heap.size, 6, none⟩ = some (.bool true) := hc6
    have HAn := Lib.hid (HA.out.drewN nq); have HRn := Lib.hid (show RdB (y1.drewN nq) A xs from HR.out); have HGn := Lib.hid (show (y1.drewN nq).heap[w.heap.size + 1]? = some (.cells #[.int .i64 0, .int .i64 0, .int .i64 0] 52 (0, 0)) from HG.out); have HSn := Lib.hid (show (y1.drewN nq).heap.size = w.heap.size + 2 from HSZ.out); have HALn := Lib.hid (below_drewN HAL.out nq)
    clear hc0 hc1 hc2 hc3 hc4 hc5 hc6 HA HR HG HSZ HAL
    generalize y1.drewN nq = y2 at *
    have hc0 := hd0
    have hc1 := hd1
    have hc2 := hd2
    have hc3 := hd3
    have hc4 := hd4
    have hc5 := hd5
    have hc6 := hd6
    have HA := Lib.hid HAn.out; have HR := Lib.hid HRn.out; have HG := Lib.hid HGn.out; have HSZ := Lib.hid HSn.out; have HAL := Lib.hid HALn.out
    clear hd0 hd1 hd2 hd3 hd4 hd5 hd6 HAn HRn HGn HSn HALn
    go_wp2_with fail
    refine (refAddr_any HA.out at_ n).mono ?_
    rintro e w3 ⟨rfl, hB3⟩
    have HA3 := Lib.hid (HA.out.below hB3)
    have hq0 := HA3.out.c0
    have HRW := Lib.hid (((grown_of_below hB3 (some gb)).block (w.heap.size + 1) (by have := HSZ.out; omega) (fun h => by have := HLT.out.2; simp at h; omega)).trans HG.out)
    have HGR := Lib.hid ((grown_of_below HAL.out (some gb)).trans (grown_of_below hB3 (some gb)))
    clear hB3
    clear hc0 hc1 hc2 hc3 hc4 hc5 hc6
    cases hin : addrB bs at_ n
    · have HI := Lib.hid hin
      clear hin
      rw [show addrA base bs at_ n = .tuple #[.int .i64 0, .bool false] from by unfold addrA; rw [HI.out]; rfl]
      have HAN := Lib.hid (show ans8 bs at_ n = ⟨0, 0, 0, 0, [], bs⟩ from by unfold ans8; rw [HI.out]; rfl)
      obtain ⟨hz0, hz1, hz2⟩ := cells3 HRW.out
      have hzf := fun j => frozen_of_row w3 (w.heap.size + 1) j _ _ HRW.out
      go_wp2
      obtain ⟨hr0, hr1, hr2⟩ := cells3 (set3_heap (a := .int .i64 0) (b := .int .i64 0) (c := .int .i64 0) HRW.out)
      simp only [set3] at hr0 hr1 hr2
      rw [HAN.out]
      exact bodyPost_ret (v := .tuple #[.agg #[.int .i64 0, .int .i64 0, .int .i64 0], .int .u64 0, .slice none 0 0]) (by simp [results, Try.results28, go_sem, hr0, hr1, hr2]) rfl (do_end (Nat.le_succ _) HLT.out.1 HLT.out.2 (⟨0, 0, 0, 0, [], bs⟩) _ _ _ rfl (own_nil w3 _ _ _) HA3.out rfl HGR.out _ _ _ _ rfl)
    · have HI := Lib.hid hin
      have hbd : 0 ≤ at_ ∧ at_ < ((bs.length / 256 : Nat) : Int) ∧ 0 ≤ n ∧ n < 256 := by unfold addrB at hin; exact of_decide_eq_true hin
      have hbl := HA3.out.bl
      have hw3 : IntKind.i64.wrap (base + at_ * 256 + n - base) = at_ * 256 + n := by rw [wrap_i64_in (by have := HB01.out; omega) (by have := HB01.out; omega)]; omega
      clear hbd hbl
      clear hin
      rw [show addrA base bs at_ n = .tuple #[.int .i64 (base + at_ * 256 + n), .bool true] from by unfold addrA; rw [HI.out]; rfl]
      have HAN := Lib.hid (show ans8 bs at_ n = ⟨1, at_ * 256 + n, 0, 0, [], bs⟩ from by unfold ans8; rw [HI.out]; rfl)
      obtain ⟨hz0, hz1, hz2⟩ := cells3 HRW.out
      have hzf := fun j => frozen_of_row w3 (w.heap.size + 1) j _ _ HRW.out
      go_wp2
      obtain ⟨hr0, hr1, hr2⟩ := cells3 (set3_heap (a := .int .i64 1) (b := .int .i64 (at_ * 256 + n)) (c := .int .i64 0) HRW.out)
      simp only [set3] at hr0 hr1 hr2
      rw [HAN.out]
      exact bodyPost_ret (v := .tuple #[.agg #[.int .i64 1, .int .i64 (at_ * 256 + n), .int .i64 0], .int .u64 0, .slice none 0 0]) (by simp [results, Try.results28, go_sem, hr0, hr1, hr2]) rfl (do_end (Nat.le_succ _) HLT.out.1 HLT.out.2 (⟨1, at_ * 256 + n, 0, 0, [], bs⟩) _ _ _ rfl (own_nil w3 _ _ _) HA3.out rfl HGR.out _ _ _ _ rfl)
set_option maxHeartbeats 4000000 in
set_option maxRecDepth 20000 in
theorem want0_any (hA : Arn w T g gb base bs) (kind : Int) (hk : kind ≠ 1 ∧ kind ≠ 2 ∧ kind ≠ 3 ∧ kind ≠ 4 ∧ kind ≠ 5 ∧ kind ≠ 6 ∧ kind ≠ 7 ∧ kind ≠ 8) (at_ to_ n : Int) (Wd : Nat) (A : Option Addr) (cap : Nat) (xs : List UInt8) (near : Bool) (hW : Wd < 18446744073709551616) (hr : RdB w A xs) (hne : ∀ a, A = some a → 0 < xs.length → a.block ≠ gb) :
    Calls Try.prog 28 #[.pointer (some ⟨g, 0, none⟩), .agg #[.int .i64 kind, .int .i64 at_, .int .i64 to_, .int .i64 n, .int .u64 (Wd : Int), .slice A xs.length cap, .bool near]] w fun e w' => DoPost w T g gb base ((⟨0, 0, 0, 0, [], bs⟩ : An)) e w' := by
  obtain ⟨k1, k2, k3, k4, k5, k6, k7, k8⟩ := hk
  have hk1 : (kind == 1) = false := by simpa using k1
  have hk2 : (kind == 2) = false := by simpa using k2
  have hk3 : (kind == 3) = false := by simpa using k3
  have hk4 : (kind == 4) = false := by simpa using k4
  have hk5 : (kind == 5) = false := by simpa using k5
  have hk6 : (kind == 6) = false := by simpa using k6
  have hk7 : (kind == 7) = false := by simpa using k7
  have hk8 : (kind == 8) = false := by simpa using k8
  clear k1 k2 k3 k4 k5 k6 k7 k8
  obtain ⟨t1, t2⟩ := tmod_bd at_
  obtain ⟨t3, t4⟩ := tmod_bd to_
  have hb0 := hA.b0
  have hb1 := hA.b1
  have hw1 : IntKind.i64.wrap (base + at_.tmod 2000) = base + at_.tmod 2000 := wrap_i64_in (by omega) (by omega)
  have hw2 : IntKind.i64.wrap (base + to_.tmod 2000) = base + to_.tmod 2000 := wrap_i64_in (by omega) (by omega)
  clear t1 t2 t3 t4
  have HB01 := Lib.hid (And.intro hb0 hb1)
  have HW := Lib.hid hW; clear hW
  have HLT := Lib.hid hA.lt
  have HNE := Lib.hid hne; clear hne
  obtain ⟨x1, hx1⟩ : ∃ x1, x1 = (w.alloc (.cells #[.int .i64 kind, .int .i64 at_, .int .i64 to_, .int .i64 n, .int .u64 (Wd : Int), .slice A xs.length cap, .bool near] 57 (0, 0))).alloc (.cells #[.int .i64 0, .int .i64 0, .int .i64 0] 52 (0, 0)) := ⟨_, rfl⟩
  have hal : Below w.heap.size w x1 := by rw [hx1]; exact ((Below.refl _ _).alloc (Nat.le_refl _) _).alloc (by simp) _
  have hgr : x1.heap[w.heap.size + 1]? = some (.cells #[.int .i64 0, .int .i64 0, .int .i64 0] 52 (0, 0)) := by rw [hx1]; exact heap_alloc2_new _ _ _
  have hgb : x1.heap[w.heap.size]? = some (.cells #[.int .i64 kind, .int .i64 at_, .int .i64 to_, .int .i64 n, .int .u64 (Wd : Int), .slice A xs.length cap, .bool near] 57 (0, 0)) := by rw [hx1, Below.heap_alloc _ _ _ (by simp)]; exact heap_alloc_new w _
  have hsz : x1.heap.size = w.heap.size + 2 := by rw [hx1]; simp
  have HA := Lib.hid (hA.below hal)
  have HR := Lib.hid (hr.below hal)
  have hc0 : x1.cell? ⟨w.heap.size, 0, none⟩ = some (.int .i64 kind) := (cell_of_row _ _ _ _ _ _ hgb).trans rfl
  have hc1 : x1.cell? ⟨w.heap.size, 1, none⟩ = some (.int .i64 at_) := (cell_of_row _ _ _ _ _ _ hgb).trans rfl
  have hc2 : x1.cell? ⟨w.heap.size, 2, none⟩ = some (.int .i64 to_) := (cell_of_row _ _ _ _ _ _ hgb).trans rfl
  have hc3 : x1.cell? ⟨w.heap.size, 3, none⟩ = some (.int .i64 n) := (cell_of_row _ _ _ _ _ _ hgb).trans rfl
  have hc4 : x1.cell? ⟨w.heap.size, 4, none⟩ = some (.int .u64 (Wd : Int)) := (cell_of_row _ _ _ _ _ _ hgb).trans rfl
  have hc5 : x1.cell? ⟨w.heap.size, 5, none⟩ = some (.slice A xs.length cap) := (cell_of_row _ _ _ _ _ _ hgb).trans rfl
  have hc6 : x1.cell? ⟨w.heap.size, 6, none⟩ = some (.bool near) := (cell_of_row _ _ _ _ _ _ hgb).trans rfl
  have HG := Lib.hid hgr
  have HSZ := Lib.hid hsz
  have HAL := Lib.hid hal
  have HX := Lib.hid hx1
  clear hgb hgr hsz hal hA hr hb0 hb1 hx1
  cases near
  · show Calls _ _ _ _ fun e w' => DoPost w T g gb base ((⟨0, 0, 0, 0, [], bs⟩ : An)) e w'
    go_enter Try.func28, Try.ntmps28
    go_wp2_with fail
    rw [← HX.out]
    go_quiet (fail)
    have hd0 : (x1.drewN nq).cell? ⟨w.heap.size, 0, none⟩ = some (.int .i64 kind) := hc0
    have hd1 : (x1.drewN nq).cell? ⟨w.heap.size, 1, none⟩ = some (.int .i64 at_) := hc1
    have hd2 : (x1.drewN nq).cell? ⟨w.heap.size, 2, none⟩ = some (.int .i64 to_) := hc2
    have hd3 : (x1.drewN nq).cell? ⟨w.heap.size, 3, none⟩ = some (.int .i64 n) := hc3
    have hd4 : (x1.drewN nq).cell? ⟨w.heap.size, 4, none⟩ = some (.int .u64 (Wd : Int)) := hc4
    have hd5 : (x1.drewN nq).cell? ⟨w.heap.size, 5, none⟩ = some (.slice A xs.length cap) := hc5
    have hd6 : (x1.drewN nq).cell? ⟨w.heap.size, 6, none⟩ = some (.bool false) := hc6
    have HAn := Lib.hid (HA.out.drewN nq); have HRn := Lib.hid (show RdB (x1.drewN nq) A xs from HR.out); have HGn := Lib.hid (show (x1.drewN nq).heap[w.heap.size + 1]? = some (.cells #[.int .i64 0, .int .i64 0, .int .i64 0] 52 (0, 0)) from HG.out); have HSn := Lib.hid (show (x1.drewN nq).heap.size = w.heap.size + 2 from HSZ.out); have HALn := Lib.hid (below_drewN HAL.out nq)
    clear hc0 hc1 hc2 hc3 hc4 hc5 hc6 HA HR HG HSZ HAL
    generalize x1.drewN nq = y1 at *
    have hc0 := hd0
    have hc1 := hd1
    have hc2 := hd2
    have hc3 := hd3
    have hc4 := hd4
    have hc5 := hd5
    have hc6 := hd6
    have HA := Lib.hid HAn.out; have HR := Lib.hid HRn.out; have HG := Lib.hid HGn.out; have HSZ := Lib.hid HSn.out; have HAL := Lib.hid HALn.out
    clear hd0 hd1 hd2 hd3 hd4 hd5 hd6 HAn HRn HGn HSn HALn
    have HA3 := Lib.hid HA.out; have HGR := Lib.hid (grown_of_below HAL.out (some gb)); have HRW := Lib.hid HG.out
    obtain ⟨hz0, hz1, hz2⟩ := cells3 HRW.out
    have hzf := fun j => frozen_of_row y1 (w.heap.size + 1) j _ _ HRW.out
    go_wp2
    obtain ⟨hr0, hr1, hr2⟩ := cells3 (set3_heap (a := .int .i64 0) (b := .int .i64 0) (c := .int .i64 0) HRW.out)
    simp only [set3] at hr0 hr1 hr2
    exact bodyPost_ret (v := .tuple #[.agg #[.int .i64 0, .int .i64 0, .int .i64 0], .int .u64 0, .slice none 0 0]) (by simp [results, Try.results28, go_sem, hr0, hr1, hr2]) rfl (do_end (Nat.le_succ _) HLT.out.1 HLT.out.2 ((⟨0, 0, 0, 0, [], bs⟩ : An)) _ _ _ rfl (own_nil y1 _ _ _) HA3.out rfl HGR.out _ _ _ _ rfl)
  · show Calls _ _ _ _ fun e w' => DoPost w T g gb base ((⟨0, 0, 0, 0, [], bs⟩ : An)) e w'
    go_enter Try.func28, Try.ntmps28
    go_wp2_with fail
    rw [← HX.out]
    go_quiet (fail)
    have hd0 : (x1.drewN nq).cell? ⟨w.heap.size, 0, none⟩ = some (.int .i64 kind) := hc0
    have hd1 : (x1.drewN nq).cell? ⟨w.heap.size, 1, none⟩ = some (.int .i64 at_) := hc1
    have hd2 : (x1.drewN nq).cell? ⟨w.heap.size, 2, none⟩ = some (.int .i64 to_) := hc2
    have hd3 : (x1.drewN nq).cell? ⟨w.heap.size, 3, none⟩ = some (.int .i64 n) := hc3
    have hd4 : (x1.drewN nq).cell? ⟨w.heap.size, 4, none⟩ = some (.int .u64 (Wd : Int)) := hc4
    have hd5 : (x1.drewN nq).cell? ⟨w.heap.size, 5, none⟩ = some (.slice A xs.length cap) := hc5
    have hd6 : (x1.drewN nq).cell? ⟨w.heap.size, 6, none⟩ = some (.bool true) := hc6
    have HAn := Lib.hid (HA.out.drewN nq); have HRn := Lib.hid (show RdB (x1.drewN nq) A xs from HR.out); have HGn := Lib.hid (show (x1.drewN nq).heap[w.heap.size + 1]? = some (.cells #[.int .i64 0, .int .i64 0, .int .i64 0] 52 (0, 0)) from HG.out); have HSn := Lib.hid (show (x1.drewN nq).heap.size = w.heap.size + 2 from HSZ.out); have HALn := Lib.hid (below_drewN HAL.out nq)
    clear hc0 hc1 hc2 hc3 hc4 hc5 hc6 HA HR HG HSZ HAL
    generalize x1.drewN nq = y1 at *
    have hc0 := hd0
    have hc1 := hd1
    have hc2 := hd2
    have hc3 := hd3
    have hc4 := hd4
    have hc5 := hd5
    have hc6 := hd6
    have HA := Lib.hid HAn.out; have HR := Lib.hid HRn.out; have HG := Lib.hid HGn.out; have HSZ := Lib.hid HSn.out; have HAL := Lib.hid HALn.out
    clear hd0 hd1 hd2 hd3 hd4 hd5 hd6 HAn HRn HGn HSn HALn
    have hq0 := HA.out.c0
    have hglt := HA.out.lt.1
    go_wp2_with fail
    go_quiet (fail)
    clear hq0
    have hd0 : (y1.drewN nq).cell? ⟨w.heap.size, 0, none⟩ = some (.int .i64 kind) := hc0
    have hd1 : (y1.drewN nq).cell? ⟨w.heap.size, 1, none⟩ = some (.int .i64 at_) := hc1
    have hd2 : (y1.drewN nq).cell? ⟨w.heap.size, 2, none⟩ = some (.int .i64 to_) := hc2
    have hd3 : (y1.drewN nq).cell? ⟨w.heap.size, 3, none⟩ = some (.int .i64 n) := hc3
    have hd4 : (y1.drewN nq).cell? ⟨w.heap.size, 4, none⟩ = some (.int .u64 (Wd : Int)) := hc4
    have hd5 : (y1.drewN nq).cell? ⟨w.heap.size, 5, none⟩ = some (.slice A xs.length cap) := hc5
    have hd6 : (y1.drewN nq).cell? ⟨w.heap.size, 6, none⟩ = some (.bool true) := hc6
    have HAn := Lib.hid (HA.out.drewN nq); have HRn := Lib.hid (show RdB (y1.drewN nq) A xs from HR.out); have HGn := Lib.hid (show (y1.drewN nq).heap[w.heap.size + 1]? = some (.cells #[.int .i64 0, .int .i64 0, .int .i64 0] 52 (0, 0)) from HG.out); have HSn := Lib.hid (show (y1.drewN nq).heap.size = w.heap.size + 2 from HSZ.out); have HALn := Lib.hid (below_drewN HAL.out nq)
    clear hc0 hc1 hc2 hc3 hc4 hc5 hc6 HA HR HG HSZ HAL
    generalize y1.drewN nq = y2 at *
    have hc0 := hd0
    have hc1 := hd1
    have hc2 := hd2
    have hc3 := hd3
    have hc4 := hd4
    have hc5 := hd5
    have hc6 := hd6
    have HA := Lib.hid HAn.out; have HR := Lib.hid HRn.out; have HG := Lib.hid HGn.out; have HSZ := Lib.hid HSn.out; have HAL := Lib.hid HALn.out
    clear hd0 hd1 hd2 hd3 hd4 hd5 hd6 HAn HRn HGn HSn HALn
    have HA3 := Lib.hid HA.out; have HGR := Lib.hid (grown_of_below HAL.out (some gb)); have HRW := Lib.hid HG.out
    obtain ⟨hz0, hz1, hz2⟩ := cells3 HRW.out
    have hzf := fun j => frozen_of_row y2 (w.heap.size + 1) j _ _ HRW.out
    go_wp2
    obtain ⟨hr0, hr1, hr2⟩ := cells3 (set3_heap (a := .int .i64 0) (b := .int .i64 0) (c := .int .i64 0) HRW.out)
    simp only [set3] at hr0 hr1 hr2
    exact bodyPost_ret (v := .tuple #[.agg #[.int .i64 0, .int .i64 0, .int .i64 0], .int .u64 0, .slice none 0 0]) (by simp [results, Try.results28, go_sem, hr0, hr1, hr2]) rfl (do_end (Nat.le_succ _) HLT.out.1 HLT.out.2 ((⟨0, 0, 0, 0, [], bs⟩ : An)) _ _ _ rfl (own_nil y2 _ _ _) HA3.out rfl HGR.out _ _ _ _ rfl)
end
end Go.Proofs.Ytjfbopnohijhkaa
