/- The row of KindTable: for every input it answers true, and the input reads as it did. No condition. -/
import Derived.Test.YtdeeeipdgoafaaaRows
import Derived.Test.YtdeeeipdgoafaaaKindT6
import Derived.Test.YtdeeeipdgoafaaaOpen
import Derived.WalkKit
import Derived.ProofKit
import Derived.OpenShut
import Derived.ShutString
import Derived.ChangeOld
import Derived.SizedLaws
import Derived.Carry
import Derived.Below
namespace Go.Proofs.Ytdeeeipdgoafaaa.kindTable
open Go.ChangeShapes Go.WideShapes Go.ChangeAt Go.RowKit
open Go.ChangeMaps (open_string shut_string)
set_option linter.unusedVariables false

theorem own : ownKnob Try.prog.godebug = none := by kernel_rfl
theorem laidOut : laidOutB Try.prog = true := by kernel_rfl

theorem op0 : Opens Try.prog 22 1 (rSlice 1 8 (rInt .i64)) := opens_slice Try.underlying22 (by kernel_rfl) (by kernel_rfl) (by decide) (opens_int Try.underlying3)
theorem op1 : Opens Try.prog 24 2 (rStruct [(rInt .i64), (rSlice 1 8 (rInt .i64))]) := opens_struct (Rs := [(rInt .i64), (rSlice 1 8 (rInt .i64))]) Try.underlying24 (by kernel_rfl) ⟨⟨_, rfl, rfl, by kernel_rfl, (opens_int Try.underlying3)⟩, ⟨⟨_, rfl, rfl, by kernel_rfl, op0⟩, True.intro⟩⟩
theorem op2 : Opens Try.prog 41 1 (rSlice 2 32 (rStruct [(rInt .i64), (rSlice 1 8 (rInt .i64))])) := opens_slice Try.underlying41 (by kernel_rfl) (by kernel_rfl) (by decide) op1
set_option maxRecDepth 100000 in
theorem lifted (os : Os) (started : os.Started) (H : Type) (enc : TypeId × Value → H) :
    ReturnsInHanded {} Try.checked os 6 .any (Rows.kindTableSpec.pre6 enc Try.prog Try.f6 Rows.kindTableRow.domain false) (Rows.kindTableSpec.post enc Try.prog Try.f6 false true false false) := by
  refine returnsInHanded_of_change_sized (C := Try.checked) own started (by kernel_rfl) Try.func6
    (ChangeSpec.witness6 (enc := enc) (C := Try.checked) false ⟨#[], #[.slice none 0 0, .int .i64 0], []⟩ 8 (by kernel_rfl) (by kernel_rfl) (by kernel_rfl) (by kernel_rfl)) ?_
  intro W base args ds gs before hval0 hW _ hsz0 _
  have hsz : (DataW.weightsEach Try.prog (Try.f6.params.toList ++ Rows.kindTableSpec.plain.varTypes Try.prog) (ds ++ gs)).all (· ≤ reachBytes) = true := hsz0
  clear hsz0
  have hval : ∀ (j : Nat) t v, Try.f6.params[j]? = some t → args[j]? = some v → Value.okWide Try.prog W .any base t v := hval0
  have hW' := hW
  obtain ⟨p, q, hA0, hV, rfl, hfz, hnd⟩ := hW
  have hA : DataW.TrodAll enc Try.prog W 0 (fun _ => true) true Try.f6.params.toList args.toList ds p := hA0
  rw [Try.params6] at hA hval hsz
  obtain ⟨v0, vs0, d0, ds0, p0, q0, hargs, rfl, rfl, h0, r0⟩ := trodAll_cons hA
  obtain ⟨v1, vs1, d1, ds1, p1, q1, rfl, rfl, rfl, h1, r1⟩ := trodAll_cons r0
  obtain ⟨rfl, rfl, rfl⟩ := trodAll_nil r1
  obtain rfl : args = #[v0, v1] := by cases args; simp_all
  obtain ⟨rfl, rfl⟩ := trodVars_none hV
  have k0 := h0
  have lt0 : ∀ x ∈ p0, x.block < W.heap.size := by obtain ⟨m, hm⟩ := k0; exact DataW.trod_lt m _ _ _ hm
  have k1 := h1
  have lt1 : ∀ x ∈ p1, x.block < W.heap.size := by obtain ⟨m, hm⟩ := k1; exact DataW.trod_lt m _ _ _ hm
  obtain ⟨x0, len0, cap0, rfl⟩ := okWide_slice Try.underlying41 (hval 0 41 v0 rfl rfl)
  obtain ⟨fuel0, hf0⟩ := h0
  obtain ⟨hcl0, hR0⟩ := op2 H enc W _ _ _ fuel0 _ (d0, p0) hf0 (fun n hn => by simpa using List.all_eq_true.1 hsz _ (weights_each _ _ 0 41 d0 rfl rfl n hn))
  obtain ⟨a1, rfl, e1, f1, w1⟩ := open_int Try.underlying3 (hval 1 3 v1 rfl rfl) h1
  have bd1 := bounds_i64 w1
  clear hA0 hval0
  refine (kindTable_front x0 len0 cap0 a1 W hR0 (by omega) (by omega)).mono fun e W' ⟨he, bel⟩ => ?_
  subst he
  exact ⟨_, rfl, _, _, _, [], _, [], hW', trodAll_mk1 (shut_bool Try.underlying4 _), (trodAll_cons_mk (Below.trod laidOut (by kernel_rfl) (of_decide_eq_true (by kernel_rfl)) k0 bel lt0) (trodAll_cons_mk (Below.trod laidOut (by kernel_rfl) (of_decide_eq_true (by kernel_rfl)) k1 bel lt1) trodAll_mk0)), rfl, bel.frame _, fun h => by cases h⟩

theorem over : Rows.kindTableRow.holds Try.pinned (OpenSpec.ofChange Rows.kindTableSpec) :=
  OpenClaim.holds_of_wide 6 Try.f6 rfl rfl rfl rfl rfl rfl rfl ⟨rfl, rfl, rfl, rfl, rfl⟩ rfl rfl rfl rfl rfl (by kernel_rfl) Try.func6 (by kernel_rfl)
    (of_decide_eq_true (by kernel_rfl)) (by unfold Func.isWrapper; first | (rw [if_pos (by decide +kernel)]; kernel_rfl) | (rw [if_neg (by decide +kernel)]; exact ⟨rfl, rfl⟩))
    (fun os started H enc _ => lifted os started H enc)
end Go.Proofs.Ytdeeeipdgoafaaa.kindTable
namespace Go.Proofs.Ytdeeeipdgoafaaa
/-- The statement. -/
theorem kindTable_holds : Rows.KindTableSaid := kindTable.over
#print axioms kindTable_holds
end Go.Proofs.Ytdeeeipdgoafaaa
