/- The row of KindWrites: for every input it answers true, and the input reads as it did. No condition. -/
import Derived.Test.YtdeeeipdgoafaaaRows
import Derived.Test.YtdeeeipdgoafaaaKindR1
import Derived.Test.YtdeeeipdgoafaaaOpen
import Derived.WalkKit
import Derived.ProofKit
import Derived.OpenShut
import Derived.ShutString
import Derived.ChangeOld
import Derived.SizedLaws
import Derived.Carry
import Derived.Below
namespace Go.Proofs.Ytdeeeipdgoafaaa.kindWrites
open Go.ChangeShapes Go.WideShapes Go.ChangeAt Go.RowKit
open Go.ChangeMaps (open_string shut_string)
set_option linter.unusedVariables false

theorem own : ownKnob Try.prog.godebug = none := by kernel_rfl
theorem laidOut : laidOutB Try.prog = true := by kernel_rfl

theorem op0 : Opens Try.prog 22 1 (rSlice 1 8 (rInt .i64)) := opens_slice Try.underlying22 (by kernel_rfl) (by kernel_rfl) (by decide) (opens_int Try.underlying3)
theorem op1 : Opens Try.prog 24 2 (rStruct [(rInt .i64), (rSlice 1 8 (rInt .i64))]) := opens_struct (Rs := [(rInt .i64), (rSlice 1 8 (rInt .i64))]) Try.underlying24 (by kernel_rfl) ⟨⟨_, rfl, rfl, by kernel_rfl, (opens_int Try.underlying3)⟩, ⟨⟨_, rfl, rfl, by kernel_rfl, op0⟩, True.intro⟩⟩
theorem op2 : Opens Try.prog 47 1 (rSlice 1 1 (rInt .u8)) := opens_slice Try.underlying47 (by kernel_rfl) (by kernel_rfl) (by decide) (opens_int Try.underlying5)
set_option maxRecDepth 100000 in
theorem lifted (os : Os) (started : os.Started) (H : Type) (enc : TypeId × Value → H) :
    ReturnsInHanded {} Try.checked os 8 .any (Rows.kindWritesSpec.pre6 enc Try.prog Try.f8 Rows.kindWritesRow.domain false) (Rows.kindWritesSpec.post enc Try.prog Try.f8 false true false false) := by
  refine returnsInHanded_of_change_sized (C := Try.checked) own started (by kernel_rfl) Try.func8
    (ChangeSpec.witness6 (enc := enc) (C := Try.checked) false ⟨#[], #[.agg #[.int .i64 0, .slice none 0 0], .slice none 0 0], []⟩ 8 (by kernel_rfl) (by kernel_rfl) (by kernel_rfl) (by kernel_rfl)) ?_
  intro W base args ds gs before hval0 hW _ hsz0 _
  have hsz : (DataW.weightsEach Try.prog (Try.f8.params.toList ++ Rows.kindWritesSpec.plain.varTypes Try.prog) (ds ++ gs)).all (· ≤ reachBytes) = true := hsz0
  clear hsz0
  have hval : ∀ (j : Nat) t v, Try.f8.params[j]? = some t → args[j]? = some v → Value.okWide Try.prog W .any base t v := hval0
  have hW' := hW
  obtain ⟨p, q, hA0, hV, rfl, hfz, hnd⟩ := hW
  have hA : DataW.TrodAll enc Try.prog W 0 (fun _ => true) true Try.f8.params.toList args.toList ds p := hA0
  rw [Try.params8] at hA hval hsz
  obtain ⟨v0, vs0, d0, ds0, p0, q0, hargs, rfl, rfl, h0, r0⟩ := trodAll_cons hA
  obtain ⟨v1, vs1, d1, ds1, p1, q1, rfl, rfl, rfl, h1, r1⟩ := trodAll_cons r0
  obtain ⟨rfl, rfl, rfl⟩ := trodAll_nil r1
  obtain rfl : args = #[v0, v1] := by cases args; simp_all
  obtain ⟨rfl, rfl⟩ := trodVars_none hV
  have k0 := h0
  have lt0 : ∀ x ∈ p0, x.block < W.heap.size := by obtain ⟨m, hm⟩ := k0; exact DataW.trod_lt m _ _ _ hm
  have k1 := h1
  have lt1 : ∀ x ∈ p1, x.block < W.heap.size := by obtain ⟨m, hm⟩ := k1; exact DataW.trod_lt m _ _ _ hm
  obtain ⟨fuel0, hf0⟩ := h0
  obtain ⟨hcl0, hR0⟩ := op1 H enc W _ _ _ fuel0 _ (d0, p0) hf0 (fun n hn => by simpa using List.all_eq_true.1 hsz _ (weights_each _ _ 0 24 d0 rfl rfl n hn))
  obtain ⟨cs0, rfl⟩ := agg_of_cells v0 (by rw [Array.length_toList] at hcl0; omega)
  obtain ⟨x1, len1, cap1, rfl⟩ := okWide_slice Try.underlying47 (hval 1 47 v1 rfl rfl)
  obtain ⟨fuel1, hf1⟩ := h1
  obtain ⟨hcl1, hR1⟩ := op2 H enc W _ _ _ fuel1 _ (d1, p1) hf1 (fun n hn => by simpa using List.all_eq_true.1 hsz _ (weights_each _ _ 1 47 d1 rfl rfl n hn))
  obtain ⟨A1, c1, bs1, e1, _, _, hl1, hr1⟩ := rSlice_bytes hR1
  simp only [Value.slice.injEq] at e1
  obtain ⟨rfl, rfl, rfl⟩ := e1
  clear hA0 hval0
  refine (kindWrites_front cs0 x1 cap1 bs1 W (by rw [← Array.length_toList]; exact hcl0) hR0 hr1 hl1).mono fun e W' ⟨he, bel⟩ => ?_
  subst he
  exact ⟨_, rfl, _, _, _, [], _, [], hW', trodAll_mk1 (shut_bool Try.underlying4 _), (trodAll_cons_mk (Below.trod laidOut (by kernel_rfl) (of_decide_eq_true (by kernel_rfl)) k0 bel lt0) (trodAll_cons_mk (Below.trod laidOut (by kernel_rfl) (of_decide_eq_true (by kernel_rfl)) k1 bel lt1) trodAll_mk0)), rfl, bel.frame _, fun h => by cases h⟩

theorem over : Rows.kindWritesRow.holds Try.pinned (OpenSpec.ofChange Rows.kindWritesSpec) :=
  OpenClaim.holds_of_wide 8 Try.f8 rfl rfl rfl rfl rfl rfl rfl ⟨rfl, rfl, rfl, rfl, rfl⟩ rfl rfl rfl rfl rfl (by kernel_rfl) Try.func8 (by kernel_rfl)
    (of_decide_eq_true (by kernel_rfl)) (by unfold Func.isWrapper; first | (rw [if_pos (by decide +kernel)]; kernel_rfl) | (rw [if_neg (by decide +kernel)]; exact ⟨rfl, rfl⟩))
    (fun os started H enc _ => lifted os started H enc)
end Go.Proofs.Ytdeeeipdgoafaaa.kindWrites
namespace Go.Proofs.Ytdeeeipdgoafaaa
/-- The statement. -/
theorem kindWrites_holds : Rows.KindWritesSaid := kindWrites.over
#print axioms kindWrites_holds
end Go.Proofs.Ytdeeeipdgoafaaa
