/- num.Open. -/
import Derived.Test.YtdeeeipdgoafaaaRdK2
import Derived.Test.YtdeeeipdgoafaaaRdMath3
namespace Go.Proofs.Ytdeeeipdgoafaaa
open Go.RowKit
set_option linter.unusedVariables false
set_option maxHeartbeats 1000000 in
set_option maxRecDepth 20000 in
theorem open_any (A : Option Addr) (n c : Nat) (xs : List UInt8) (w : World) (hr : RdB w A xs) (hn : n = xs.length) (hl : xs.length ≤ 140737488355328) :
    Calls Try.prog 27 #[.slice A n c] w fun e w' => ∃ g, e = .returned (.pointer (some ⟨g, 0, none⟩)) ∧ Rdr w' 67 g w'.heap.size xs 0 ∧ w.heap.size ≤ g ∧ g < w'.heap.size ∧ Below w.heap.size w w' := by
  subst hn
  obtain ⟨m, hm⟩ : ∃ m, m = xs.length := ⟨_, rfl⟩
  have hmk := Try.mkB m (by omega)
  obtain ⟨zs, hzs⟩ : ∃ zs : List UInt8, zs = List.replicate m 0 := ⟨_, rfl⟩
  have hba := below_alloc w (.cells (bv (List.replicate m 0)).toArray 5 (0, 0))
  obtain ⟨w3, hcp, hg3, hgr⟩ := run_copyNew (P := Try.prog) (w.alloc (.cells (bv (List.replicate m 0)).toArray 5 (0, 0))) 47 47 3 5 Try.underlying47 rfl w.heap.size 5 m m A m c xs (heap_alloc_new w _) hm (hr.below hba) (by omega)
  rw [show xs.take m = xs by rw [hm, List.take_length]] at hg3
  have hB3 : Below w.heap.size w w3 := below_grown hba hgr hba.size (fun k hk => by cases hk; exact Nat.le_refl _)
  have hsz3 : w.heap.size < w3.heap.size := (Array.getElem?_eq_some_iff.1 hg3).1
  have HRD := Lib.hid (show RdB w3 (some ⟨w.heap.size, 0, none⟩) xs from ⟨hr.1, fun _ => ⟨_, _, rfl, fun j v hj => by rw [cell_of_row _ _ _ _ _ _ hg3, Nat.zero_add]; simpa using hj⟩⟩)
  have HB3 := Lib.hid hB3
  have HS3 := Lib.hid hsz3
  rw [← hzs] at hmk hcp
  have HM := Lib.hid hm
  rw [← hm]
  clear hzs hg3 hgr hB3 hsz3 hr hba
  have hml : m ≤ 140737488355328 := by omega
  clear hm
  go_enter Try.func27, Try.ntmps27
  go_wp2
  go_ret
  have hba := below_alloc w3 (.cells #[.slice (some ⟨w.heap.size, 0, none⟩) m m, .int .i64 0] 67 (0, 0))
  have hs4 : (w3.alloc (.cells #[.slice (some ⟨w.heap.size, 0, none⟩) m m, .int .i64 0] 67 (0, 0))).heap.size = w3.heap.size + 1 := by simp [go_sem]
  refine ⟨w3.heap.size, rfl, ⟨_, m, by rw [← HM.out]; exact heap_alloc_new w3 _, HRD.out.below hba, by rw [HM.out]; exact Nat.le_refl _, fun a ha _ => by cases ha; have := HS3.out; exact ⟨by show w.heap.size ≠ w3.heap.size; omega, by show w.heap.size < _; rw [hs4]; omega⟩⟩, HB3.out.size, by rw [hs4]; omega, belowT HB3.out hba⟩
end Go.Proofs.Ytdeeeipdgoafaaa
