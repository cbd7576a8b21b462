/- The row of FrameBursts: for every input it answers true, and the input reads as it did. No condition. -/
import Derived.Test.YtckfghdocaojgaaRows
import Derived.Test.YtckfghdocaojgaaFrameL4
import Derived.Test.YtckfghdocaojgaaOpen
import Derived.WalkKit
import Derived.ProofKit
import Derived.OpenShut
import Derived.ShutString
import Derived.ChangeOld
import Derived.SizedLaws
import Derived.Carry
import Derived.Below
namespace Go.Proofs.Ytckfghdocaojgaa.frameBursts
open Go.ChangeShapes Go.WideShapes Go.ChangeAt Go.RowKit
open Go.ChangeMaps (open_string shut_string)
set_option linter.unusedVariables false

theorem own : ownKnob Try.prog.godebug = none := by kernel_rfl
theorem laidOut : laidOutB Try.prog = true := by kernel_rfl

theorem op0 : Opens Try.prog 22 1 (rSlice 1 1 (rInt .u8)) := opens_slice Try.underlying22 (by kernel_rfl) (by kernel_rfl) (by decide) (opens_int Try.underlying5)
theorem op1 : Opens Try.prog 47 2 (rStruct [(rInt .u16), (rInt .u32)]) := opens_struct (Rs := [(rInt .u16), (rInt .u32)]) Try.underlying47 (by kernel_rfl) ⟨⟨_, rfl, rfl, by kernel_rfl, (opens_int Try.underlying44)⟩, ⟨⟨_, rfl, rfl, by kernel_rfl, (opens_int Try.underlying45)⟩, True.intro⟩⟩
set_option maxRecDepth 100000 in
theorem lifted (os : Os) (started : os.Started) (H : Type) (enc : TypeId × Value → H) :
    ReturnsInHanded {} Try.checked os 6 .any (Rows.frameBurstsSpec.pre6 enc Try.prog Try.f6 Rows.frameBurstsRow.domain false) (Rows.frameBurstsSpec.post enc Try.prog Try.f6 false true false false) := by
  refine returnsInHanded_of_change_sized (C := Try.checked) own started (by kernel_rfl) Try.func6
    (ChangeSpec.witness6 (enc := enc) (C := Try.checked) false ⟨#[], #[.int .u8 0, .slice none 0 0, .agg #[.int .u16 0, .int .u32 0]], []⟩ 8 (by kernel_rfl) (by kernel_rfl) (by kernel_rfl) (by kernel_rfl)) ?_
  intro W base args ds gs before hval0 hW _ hsz0 _
  have hsz : (DataW.weightsEach Try.prog (Try.f6.params.toList ++ Rows.frameBurstsSpec.plain.varTypes Try.prog) (ds ++ gs)).all (· ≤ reachBytes) = true := hsz0
  clear hsz0
  have hval : ∀ (j : Nat) t v, Try.f6.params[j]? = some t → args[j]? = some v → Value.okWide Try.prog W .any base t v := hval0
  have hW' := hW
  obtain ⟨p, q, hA0, hV, rfl, hfz, hnd⟩ := hW
  have hA : DataW.TrodAll enc Try.prog W 0 (fun _ => true) true Try.f6.params.toList args.toList ds p := hA0
  rw [Try.params6] at hA hval hsz
  obtain ⟨v0, vs0, d0, ds0, p0, q0, hargs, rfl, rfl, h0, r0⟩ := trodAll_cons hA
  obtain ⟨v1, vs1, d1, ds1, p1, q1, rfl, rfl, rfl, h1, r1⟩ := trodAll_cons r0
  obtain ⟨v2, vs2, d2, ds2, p2, q2, rfl, rfl, rfl, h2, r2⟩ := trodAll_cons r1
  obtain ⟨rfl, rfl, rfl⟩ := trodAll_nil r2
  obtain rfl : args = #[v0, v1, v2] := by cases args; simp_all
  obtain ⟨rfl, rfl⟩ := trodVars_none hV
  have k0 := h0
  have lt0 : ∀ x ∈ p0, x.block < W.heap.size := by obtain ⟨m, hm⟩ := k0; exact DataW.trod_lt m _ _ _ hm
  have k1 := h1
  have lt1 : ∀ x ∈ p1, x.block < W.heap.size := by obtain ⟨m, hm⟩ := k1; exact DataW.trod_lt m _ _ _ hm
  have k2 := h2
  have lt2 : ∀ x ∈ p2, x.block < W.heap.size := by obtain ⟨m, hm⟩ := k2; exact DataW.trod_lt m _ _ _ hm
  obtain ⟨a0, rfl, e0, f0, w0⟩ := open_int Try.underlying5 (hval 0 5 v0 rfl rfl) h0
  have bd0 := bounds_u8 w0
  obtain ⟨n0, hn0⟩ := Int.eq_ofNat_of_zero_le bd0.1
  subst hn0
  obtain ⟨x1, len1, cap1, rfl⟩ := okWide_slice Try.underlying22 (hval 1 22 v1 rfl rfl)
  obtain ⟨fuel1, hf1⟩ := h1
  obtain ⟨hcl1, hR1⟩ := op0 H enc W _ _ _ fuel1 _ (d1, p1) hf1 (fun n hn => by simpa using List.all_eq_true.1 hsz _ (weights_each _ _ 1 22 d1 rfl rfl n hn))
  obtain ⟨A1, c1, bs1, e1, _, _, hl1, hr1⟩ := rSlice_bytes hR1
  simp only [Value.slice.injEq] at e1
  obtain ⟨rfl, rfl, rfl⟩ := e1
  obtain ⟨fuel2, hf2⟩ := h2
  obtain ⟨hcl2, hR2⟩ := op1 H enc W _ _ _ fuel2 _ (d2, p2) hf2 (fun n hn => by simpa using List.all_eq_true.1 hsz _ (weights_each _ _ 2 47 d2 rfl rfl n hn))
  obtain ⟨cs2, rfl⟩ := agg_of_cells v2 (by rw [Array.length_toList] at hcl2; omega)
  clear hA0 hval0
  refine (frameBursts_front n0 x1 cap1 bs1 cs2 W (by omega) hr1 hl1 (by rw [← Array.length_toList]; exact hcl2) hR2).mono fun e W' ⟨he, bel⟩ => ?_
  subst he
  exact ⟨_, rfl, _, _, _, [], _, [], hW', trodAll_mk1 (shut_bool Try.underlying4 _), (trodAll_cons_mk (Below.trod laidOut (by kernel_rfl) (of_decide_eq_true (by kernel_rfl)) k0 bel lt0) (trodAll_cons_mk (Below.trod laidOut (by kernel_rfl) (of_decide_eq_true (by kernel_rfl)) k1 bel lt1) (trodAll_cons_mk (Below.trod laidOut (by kernel_rfl) (of_decide_eq_true (by kernel_rfl)) k2 bel lt2) trodAll_mk0))), rfl, bel.frame _, fun h => by cases h⟩

theorem over : Rows.frameBurstsRow.holds Try.pinned (OpenSpec.ofChange Rows.frameBurstsSpec) :=
  OpenClaim.holds_of_wide 6 Try.f6 rfl rfl rfl rfl rfl rfl rfl ⟨rfl, rfl, rfl, rfl, rfl⟩ rfl rfl rfl rfl rfl (by kernel_rfl) Try.func6 (by kernel_rfl)
    (of_decide_eq_true (by kernel_rfl)) (by unfold Func.isWrapper; first | (rw [if_pos (by decide +kernel)]; kernel_rfl) | (rw [if_neg (by decide +kernel)]; exact ⟨rfl, rfl⟩))
    (fun os started H enc _ => lifted os started H enc)
end Go.Proofs.Ytckfghdocaojgaa.frameBursts
namespace Go.Proofs.Ytckfghdocaojgaa
/-- The statement. -/
theorem frameBursts_holds : Rows.FrameBurstsSaid := frameBursts.over
#print axioms frameBursts_holds
end Go.Proofs.Ytckfghdocaojgaa
