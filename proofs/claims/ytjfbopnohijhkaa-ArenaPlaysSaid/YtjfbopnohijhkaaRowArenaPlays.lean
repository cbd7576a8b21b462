/- The row of ArenaPlays: for every input it answers true, and the input reads as it did. No condition. -/
import Derived.Test.YtjfbopnohijhkaaRows
import Derived.Test.YtjfbopnohijhkaaArenaH
import Derived.Test.YtjfbopnohijhkaaOpen
import Derived.WalkKit
import Derived.ProofKit
import Derived.OpenShut
import Derived.ShutString
import Derived.ChangeOld
import Derived.SizedLaws
import Derived.Carry
import Derived.Below
namespace Go.Proofs.Ytjfbopnohijhkaa.arenaPlays
open Go.ChangeShapes Go.WideShapes Go.ChangeAt Go.RowKit
open Go.ChangeMaps (open_string shut_string)
set_option linter.unusedVariables false

theorem own : ownKnob Try.prog.godebug = none := by kernel_rfl
theorem laidOut : laidOutB Try.prog = true := by kernel_rfl

theorem op0 : Opens Try.prog 33 1 (rSlice 1 1 (rInt .u8)) := opens_slice Try.underlying33 (by kernel_rfl) (by kernel_rfl) (by decide) (opens_int Try.underlying5)
theorem op1 : Opens Try.prog 57 7 (rStruct [(rInt .i64), (rInt .i64), (rInt .i64), (rInt .i64), (rInt .u64), (rSlice 1 1 (rInt .u8)), rBool]) := opens_struct (Rs := [(rInt .i64), (rInt .i64), (rInt .i64), (rInt .i64), (rInt .u64), (rSlice 1 1 (rInt .u8)), rBool]) Try.underlying57 (by kernel_rfl) ⟨⟨_, rfl, rfl, by kernel_rfl, (opens_int Try.underlying3)⟩, ⟨⟨_, rfl, rfl, by kernel_rfl, (opens_int Try.underlying3)⟩, ⟨⟨_, rfl, rfl, by kernel_rfl, (opens_int Try.underlying3)⟩, ⟨⟨_, rfl, rfl, by kernel_rfl, (opens_int Try.underlying3)⟩, ⟨⟨_, rfl, rfl, by kernel_rfl, (opens_int Try.underlying53)⟩, ⟨⟨_, rfl, rfl, by kernel_rfl, op0⟩, ⟨⟨_, rfl, rfl, by kernel_rfl, (opens_bool Try.underlying4)⟩, True.intro⟩⟩⟩⟩⟩⟩⟩
theorem op2 : Opens Try.prog 51 1 (rSlice 7 72 (rStruct [(rInt .i64), (rInt .i64), (rInt .i64), (rInt .i64), (rInt .u64), (rSlice 1 1 (rInt .u8)), rBool])) := opens_slice Try.underlying51 (by kernel_rfl) (by kernel_rfl) (by decide) op1
set_option maxRecDepth 100000 in
theorem lifted (os : Os) (started : os.Started) (H : Type) (enc : TypeId × Value → H) :
    ReturnsInHanded {} Try.checked os 7 .any (Rows.arenaPlaysSpec.pre6 enc Try.prog Try.f7 Rows.arenaPlaysRow.domain false) (Rows.arenaPlaysSpec.post enc Try.prog Try.f7 false true false false) := by
  refine returnsInHanded_of_change_sized (C := Try.checked) own started (by kernel_rfl) Try.func7
    (ChangeSpec.witness6 (enc := enc) (C := Try.checked) false ⟨#[], #[.int .u32 0, .int .u8 0, .slice none 0 0], []⟩ 8 (by kernel_rfl) (by kernel_rfl) (by kernel_rfl) (by kernel_rfl)) ?_
  intro W base args ds gs before hval0 hW _ hsz0 _
  have hsz : (DataW.weightsEach Try.prog (Try.f7.params.toList ++ Rows.arenaPlaysSpec.plain.varTypes Try.prog) (ds ++ gs)).all (· ≤ reachBytes) = true := hsz0
  clear hsz0
  have hval : ∀ (j : Nat) t v, Try.f7.params[j]? = some t → args[j]? = some v → Value.okWide Try.prog W .any base t v := hval0
  have hW' := hW
  obtain ⟨p, q, hA0, hV, rfl, hfz, hnd⟩ := hW
  have hA : DataW.TrodAll enc Try.prog W 0 (fun _ => true) true Try.f7.params.toList args.toList ds p := hA0
  rw [Try.params7] at hA hval hsz
  obtain ⟨v0, vs0, d0, ds0, p0, q0, hargs, rfl, rfl, h0, r0⟩ := trodAll_cons hA
  obtain ⟨v1, vs1, d1, ds1, p1, q1, rfl, rfl, rfl, h1, r1⟩ := trodAll_cons r0
  obtain ⟨v2, vs2, d2, ds2, p2, q2, rfl, rfl, rfl, h2, r2⟩ := trodAll_cons r1
  obtain ⟨rfl, rfl, rfl⟩ := trodAll_nil r2
  obtain rfl : args = #[v0, v1, v2] := by cases args; simp_all
  obtain ⟨rfl, rfl⟩ := trodVars_none hV
  have k0 := h0
  have lt0 : ∀ x ∈ p0, x.block < W.heap.size := by obtain ⟨m, hm⟩ := k0; exact DataW.trod_lt m _ _ _ hm
  have k1 := h1
  have lt1 : ∀ x ∈ p1, x.block < W.heap.size := by obtain ⟨m, hm⟩ := k1; exact DataW.trod_lt m _ _ _ hm
  have k2 := h2
  have lt2 : ∀ x ∈ p2, x.block < W.heap.size := by obtain ⟨m, hm⟩ := k2; exact DataW.trod_lt m _ _ _ hm
  obtain ⟨a0, rfl, e0, f0, w0⟩ := open_int Try.underlying22 (hval 0 22 v0 rfl rfl) h0
  have bd0 := bounds_u32 w0
  obtain ⟨n0, hn0⟩ := Int.eq_ofNat_of_zero_le bd0.1
  subst hn0
  obtain ⟨a1, rfl, e1, f1, w1⟩ := open_int Try.underlying5 (hval 1 5 v1 rfl rfl) h1
  have bd1 := bounds_u8 w1
  obtain ⟨n1, hn1⟩ := Int.eq_ofNat_of_zero_le bd1.1
  subst hn1
  obtain ⟨x2, len2, cap2, rfl⟩ := okWide_slice Try.underlying51 (hval 2 51 v2 rfl rfl)
  obtain ⟨fuel2, hf2⟩ := h2
  obtain ⟨hcl2, hR2⟩ := op2 H enc W _ _ _ fuel2 _ (d2, p2) hf2 (fun n hn => by simpa using List.all_eq_true.1 hsz _ (weights_each _ _ 2 51 d2 rfl rfl n hn))
  clear hA0 hval0
  refine (arenaPlays_front n0 n1 x2 len2 cap2 W (by omega) (by omega) hR2).mono fun e W' ⟨he, bel⟩ => ?_
  subst he
  exact ⟨_, rfl, _, _, _, [], _, [], hW', trodAll_mk1 (shut_bool Try.underlying4 _), (trodAll_cons_mk (Below.trod laidOut (by kernel_rfl) (of_decide_eq_true (by kernel_rfl)) k0 bel lt0) (trodAll_cons_mk (Below.trod laidOut (by kernel_rfl) (of_decide_eq_true (by kernel_rfl)) k1 bel lt1) (trodAll_cons_mk (Below.trod laidOut (by kernel_rfl) (of_decide_eq_true (by kernel_rfl)) k2 bel lt2) trodAll_mk0))), rfl, bel.frame _, fun h => by cases h⟩

theorem over : Rows.arenaPlaysRow.holds Try.pinned (OpenSpec.ofChange Rows.arenaPlaysSpec) :=
  OpenClaim.holds_of_wide 7 Try.f7 rfl rfl rfl rfl rfl rfl rfl ⟨rfl, rfl, rfl, rfl, rfl⟩ rfl rfl rfl rfl rfl (by kernel_rfl) Try.func7 (by kernel_rfl)
    (of_decide_eq_true (by kernel_rfl)) (by unfold Func.isWrapper; first | (rw [if_pos (by decide +kernel)]; kernel_rfl) | (rw [if_neg (by decide +kernel)]; exact ⟨rfl, rfl⟩))
    (fun os started H enc _ => lifted os started H enc)
end Go.Proofs.Ytjfbopnohijhkaa.arenaPlays
namespace Go.Proofs.Ytjfbopnohijhkaa
/-- The statement. -/
theorem arenaPlays_holds : Rows.ArenaPlaysSaid := arenaPlays.over
#print axioms arenaPlays_holds
end Go.Proofs.Ytjfbopnohijhkaa
