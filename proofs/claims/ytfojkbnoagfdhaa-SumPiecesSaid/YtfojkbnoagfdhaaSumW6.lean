/- The walks of Join (both) and of alive. -/
import Derived.Test.YtfojkbnoagfdhaaSumW5
import Derived.Lib.SlBytesConst
namespace Go.Proofs.Ytfojkbnoagfdhaa
open Go.RowKit

theorem RdB.new (w : World) (bs : List UInt8) (cs : Array Value) (t : TypeId) (fr : Nat × Nat) (h : cs = (bv bs).toArray) (hl : bs.length ≤ 9223372036854775807) : RdB (w.alloc (.cells cs t fr)) (some ⟨w.heap.size, 0, none⟩) bs := by
  refine ⟨hl, fun _ => ⟨_, _, rfl, fun j v hj => ?_⟩⟩
  rw [cell_of_row _ _ _ _ _ _ (heap_alloc_new w _), h, Nat.zero_add]
  simpa using hj
theorem sum_at (A : Option Addr) (n cap : Nat) (bs : List UInt8) (w : World) (hr : RdB w A bs) (hn : bs.length = n) :
    Calls Try.prog 10 #[.slice A n cap] w fun e w' => e = .returned (.int .u32 (sum bs : Nat)) ∧ w = w' := by subst hn; exact sum_any A cap bs w hr

theorem shift_lt (s n : Nat) (h : s < 4294967296) : shift s n < 4294967296 := by
  have key : ∀ (n : Nat) (f : Nat → Nat) (s : Nat), (∀ i, i < 32 → f i < 4294967296) → s < 4294967296 → shiftF f s n < 4294967296 := by
    intro n
    induction n using Nat.strongRecOn with
    | ind n ih =>
      intro f s hf hs
      rw [shiftF]
      split
      · exact hs
      · refine ih _ (by omega) _ _ (fun i _ => sq_lt f hf i) ?_
        split
        · exact layT_lt f hf s
        · exact hs
  exact key n tab0 s (fun i hi => tab0_lt i hi) h

set_option maxHeartbeats 400000 in
theorem join_any (a b : Nat) (n : Int) (w : World) (h1 : a < 4294967296) (h2 : b < 4294967296) (hn : n ≤ 9223372036854775807) (hn0 : -9223372036854775808 ≤ n) :
    Calls Try.prog 16 #[.int .u32 (a : Int), .int .u32 (b : Int), .int .i64 n] w fun e w' => e = .returned (.int .u32 (shift a n.toNat ^^^ b : Nat)) ∧ Below w.heap.size w w' := by
  have hx := xor_32 _ b (shift_lt a n.toNat h1) h2
  have HX := Lib.hid hx; clear hx
  go_enter Try.func16, Try.ntmps16
  go_wp2_with fail
  refine (shift_any a n w h1 hn hn0).mono ?_
  rintro e w' ⟨rfl, hb⟩
  go_wp2
  go_ret
  exact ⟨ret_int HX.out, hb⟩

set_option maxHeartbeats 400000 in
theorem refJoin_any (a b : Nat) (n : Int) (w : World) (h1 : a < 4294967296) (h2 : b < 4294967296) (hn : n ≤ 9223372036854775807) (hn0 : -9223372036854775808 ≤ n) :
    Calls Try.prog 17 #[.int .u32 (a : Int), .int .u32 (b : Int), .int .i64 n] w fun e w' => e = .returned (.int .u32 (shift a n.toNat ^^^ b : Nat)) ∧ Below w.heap.size w w' := by
  have hx := xor_32 _ b (shift_lt a n.toNat h1) h2
  have HX := Lib.hid hx; clear hx
  go_enter Try.func17, Try.ntmps17
  go_wp2_with fail
  refine (refShift_any a n w h1 hn hn0).mono ?_
  rintro e w' ⟨rfl, hb⟩
  go_wp2
  go_ret
  exact ⟨ret_int HX.out, hb⟩

set_option maxHeartbeats 400000 in
theorem alive_any (w : World) : Calls Try.prog 9 #[] w fun e w' => e = .returned (.bool true) ∧ Below w.heap.size w w' := by
  have kc := fun (w : World) (C : Array Value) (n c : Nat) => Lib.run_convert_bytes_const (P := Try.prog) w 23 5 C n c Try.underlying23 Try.underlying5
  go_enter Try.func9, Try.ntmps9
  go_wp2_with fail
  refine (sum_at _ 9 9 [49, 50, 51, 52, 53, 54, 55, 56, 57] _ (RdB.new w _ _ _ _ rfl (by decide)) rfl).mono ?_
  rintro e w' ⟨rfl, rfl⟩
  rw [show sum [49, 50, 51, 52, 53, 54, 55, 56, 57] = 3808858755 by decide +kernel]
  go_wp2_with fail
  refine (shift_any 1 1 _ (by decide) (by decide) (by decide)).mono ?_
  rintro e w1 ⟨rfl, hb1⟩
  rw [show shift 1 (1 : Int).toNat = 4067132163 by decide +kernel]
  have hB1 : Below w.heap.size w w1 := ((Below.refl _ _).alloc (Nat.le_refl _) _).trans (hb1.mono (by simp))
  clear hb1
  go_wp2_with fail
  refine (sum_at _ 4 4 [49, 50, 51, 52] _ (RdB.new w1 _ _ _ _ rfl (by decide)) rfl).mono ?_
  rintro e w' ⟨rfl, rfl⟩
  rw [show sum [49, 50, 51, 52] = 4131058926 by decide +kernel]
  have hB2 : Below w.heap.size w (w1.alloc (Obj.cells (bv [49, 50, 51, 52]).toArray 5 (4, 5))) := hB1.alloc hB1.size _
  generalize w1.alloc (Obj.cells (bv [49, 50, 51, 52]).toArray 5 (4, 5)) = w2 at *
  go_wp2_with fail
  refine (sum_at _ 5 5 [53, 54, 55, 56, 57] _ (RdB.new w2 _ _ _ _ rfl (by decide)) rfl).mono ?_
  rintro e w' ⟨rfl, rfl⟩
  rw [show sum [53, 54, 55, 56, 57] = 2209703384 by decide +kernel]
  go_wp2_with fail
  refine (join_any _ _ _ _ (by decide) (by decide) (by decide) (by decide)).mono ?_
  rintro e w3 ⟨rfl, hb3⟩
  rw [show (shift 4131058926 (5 : Int).toNat ^^^ 2209703384) = 3808858755 by decide +kernel]
  have hB3 : Below w.heap.size w w3 := (hB2.alloc hB2.size _).trans (hb3.mono (by have := hB2.size; simp; omega))
  go_wp2
  go_ret
  exact ⟨rfl, hB3⟩
end Go.Proofs.Ytfojkbnoagfdhaa
