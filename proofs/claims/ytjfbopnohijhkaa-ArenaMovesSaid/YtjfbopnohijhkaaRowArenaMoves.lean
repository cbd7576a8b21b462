/- The row of ArenaMoves: for every input it answers true, and the input reads as it did. No condition. -/
import Derived.Test.YtjfbopnohijhkaaRows
import Derived.Test.YtjfbopnohijhkaaArenaL4
import Derived.Test.YtjfbopnohijhkaaOpen
import Derived.WalkKit
import Derived.ProofKit
import Derived.OpenShut
import Derived.ShutString
import Derived.ChangeOld
import Derived.SizedLaws
import Derived.Carry
import Derived.Below
namespace Go.Proofs.Ytjfbopnohijhkaa.arenaMoves
open Go.ChangeShapes Go.WideShapes Go.ChangeAt Go.RowKit
open Go.ChangeMaps (open_string shut_string)
set_option linter.unusedVariables false

theorem own : ownKnob Try.prog.godebug = none := by kernel_rfl
theorem laidOut : laidOutB Try.prog = true := by kernel_rfl

theorem op0 : Opens Try.prog 33 1 (rSlice 1 1 (rInt .u8)) := opens_slice Try.underlying33 (by kernel_rfl) (by kernel_rfl) (by decide) (opens_int Try.underlying5)
theorem op1 : Opens Try.prog 41 3 (rStruct [(rInt .u16), (rInt .u16), (rInt .u16)]) := opens_struct (Rs := [(rInt .u16), (rInt .u16), (rInt .u16)]) Try.underlying41 (by kernel_rfl) ⟨⟨_, rfl, rfl, by kernel_rfl, (opens_int Try.underlying39)⟩, ⟨⟨_, rfl, rfl, by kernel_rfl, (opens_int Try.underlying39)⟩, ⟨⟨_, rfl, rfl, by kernel_rfl, (opens_int Try.underlying39)⟩, True.intro⟩⟩⟩
set_option maxRecDepth 100000 in
theorem lifted (os : Os) (started : os.Started) (H : Type) (enc : TypeId × Value → H) :
    ReturnsInHanded {} Try.checked os 5 .any (Rows.arenaMovesSpec.pre6 enc Try.prog Try.f5 Rows.arenaMovesRow.domain false) (Rows.arenaMovesSpec.post enc Try.prog Try.f5 false true false false) := by
  refine returnsInHanded_of_change_sized (C := Try.checked) own started (by kernel_rfl) Try.func5
    (ChangeSpec.witness6 (enc := enc) (C := Try.checked) false ⟨#[], #[.slice none 0 0, .agg #[.int .u16 0, .int .u16 0, .int .u16 0]], []⟩ 8 (by kernel_rfl) (by kernel_rfl) (by kernel_rfl) (by kernel_rfl)) ?_
  intro W base args ds gs before hval0 hW _ hsz0 _
  have hsz : (DataW.weightsEach Try.prog (Try.f5.params.toList ++ Rows.arenaMovesSpec.plain.varTypes Try.prog) (ds ++ gs)).all (· ≤ reachBytes) = true := hsz0
  clear hsz0
  have hval : ∀ (j : Nat) t v, Try.f5.params[j]? = some t → args[j]? = some v → Value.okWide Try.prog W .any base t v := hval0
  have hW' := hW
  obtain ⟨p, q, hA0, hV, rfl, hfz, hnd⟩ := hW
  have hA : DataW.TrodAll enc Try.prog W 0 (fun _ => true) true Try.f5.params.toList args.toList ds p := hA0
  rw [Try.params5] at hA hval hsz
  obtain ⟨v0, vs0, d0, ds0, p0, q0, hargs, rfl, rfl, h0, r0⟩ := trodAll_cons hA
  obtain ⟨v1, vs1, d1, ds1, p1, q1, rfl, rfl, rfl, h1, r1⟩ := trodAll_cons r0
  obtain ⟨rfl, rfl, rfl⟩ := trodAll_nil r1
  obtain rfl : args = #[v0, v1] := by cases args; simp_all
  obtain ⟨rfl, rfl⟩ := trodVars_none hV
  have k0 := h0
  have lt0 : ∀ x ∈ p0, x.block < W.heap.size := by obtain ⟨m, hm⟩ := k0; exact DataW.trod_lt m _ _ _ hm
  have k1 := h1
  have lt1 : ∀ x ∈ p1, x.block < W.heap.size := by obtain ⟨m, hm⟩ := k1; exact DataW.trod_lt m _ _ _ hm
  obtain ⟨x0, len0, cap0, rfl⟩ := okWide_slice Try.underlying33 (hval 0 33 v0 rfl rfl)
  obtain ⟨fuel0, hf0⟩ := h0
  obtain ⟨hcl0, hR0⟩ := op0 H enc W _ _ _ fuel0 _ (d0, p0) hf0 (fun n hn => by simpa using List.all_eq_true.1 hsz _ (weights_each _ _ 0 33 d0 rfl rfl n hn))
  obtain ⟨A0, c0, bs0, e0, _, _, hl0, hr0⟩ := rSlice_bytes hR0
  simp only [Value.slice.injEq] at e0
  obtain ⟨rfl, rfl, rfl⟩ := e0
  obtain ⟨fuel1, hf1⟩ := h1
  obtain ⟨hcl1, hR1⟩ := op1 H enc W _ _ _ fuel1 _ (d1, p1) hf1 (fun n hn => by simpa using List.all_eq_true.1 hsz _ (weights_each _ _ 1 41 d1 rfl rfl n hn))
  obtain ⟨cs1, rfl⟩ := agg_of_cells v1 (by rw [Array.length_toList] at hcl1; omega)
  clear hA0 hval0
  refine (arenaMoves_front x0 cap0 bs0 cs1 W hr0 hl0 (by rw [← Array.length_toList]; exact hcl1) hR1).mono fun e W' ⟨he, bel⟩ => ?_
  subst he
  exact ⟨_, rfl, _, _, _, [], _, [], hW', trodAll_mk1 (shut_bool Try.underlying4 _), (trodAll_cons_mk (Below.trod laidOut (by kernel_rfl) (of_decide_eq_true (by kernel_rfl)) k0 bel lt0) (trodAll_cons_mk (Below.trod laidOut (by kernel_rfl) (of_decide_eq_true (by kernel_rfl)) k1 bel lt1) trodAll_mk0)), rfl, bel.frame _, fun h => by cases h⟩

theorem over : Rows.arenaMovesRow.holds Try.pinned (OpenSpec.ofChange Rows.arenaMovesSpec) :=
  OpenClaim.holds_of_wide 5 Try.f5 rfl rfl rfl rfl rfl rfl rfl ⟨rfl, rfl, rfl, rfl, rfl⟩ rfl rfl rfl rfl rfl (by kernel_rfl) Try.func5 (by kernel_rfl)
    (of_decide_eq_true (by kernel_rfl)) (by unfold Func.isWrapper; first | (rw [if_pos (by decide +kernel)]; kernel_rfl) | (rw [if_neg (by decide +kernel)]; exact ⟨rfl, rfl⟩))
    (fun os started H enc _ => lifted os started H enc)
end Go.Proofs.Ytjfbopnohijhkaa.arenaMoves
namespace Go.Proofs.Ytjfbopnohijhkaa
/-- The statement. -/
theorem arenaMoves_holds : Rows.ArenaMovesSaid := arenaMoves.over
#print axioms arenaMoves_holds
end Go.Proofs.Ytjfbopnohijhkaa
