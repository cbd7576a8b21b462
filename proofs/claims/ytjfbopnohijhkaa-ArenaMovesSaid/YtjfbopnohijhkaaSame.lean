/- Bytes compared and copied by the reference's helpers. -/
import Derived.Test.YtjfbopnohijhkaaProg
import Derived.LoopTactic
import Derived.Outline
import Derived.KernelRfl
import Derived.WalkLawsBesides
import Derived.Test.YtjfbopnohijhkaaOpen
import Derived.Deep.QuietTactic
import Derived.BigQuiet
import Derived.Deep.RegionHeld
namespace Go.Proofs.Ytjfbopnohijhkaa
open Go.RowKit

theorem Try.slB : SlT Try.prog 33 5 (.int .u8 0) 1 1 := ⟨Try.underlying33, by kernel_rfl, rfl, by decide⟩
theorem wrap_u64_nat (n : Nat) (h : n < 18446744073709551616) : IntKind.u64.wrap ((n : Nat) : Int) = (n : Int) := by
  rw [show IntKind.u64.wrap (n : Int) = (n : Int) % 18446744073709551616 from by simp [IntKind.wrap, IntKind.bits, IntKind.signed]]
  omega

theorem ret_bool {a b : Bool} (h : a = b) : Ending.returned (.bool a) = .returned (.bool b) := by rw [h]
theorem beq_eq_decide' {α : Type} [DecidableEq α] (xs ys : List α) : (xs == ys) = decide (xs = ys) := by
  by_cases h : xs = ys
  · subst h; simp
  · rw [decide_eq_false h]; exact beq_eq_false_iff_ne.2 h

set_option maxHeartbeats 400000 in
theorem same_any (A A' : Option Addr) (n n' c c' : Nat) (xs ys : List UInt8) (w : World) (hr : RdB w A xs) (hr' : RdB w A' ys) (hn : n = xs.length) (hn' : n' = ys.length) :
    Calls Try.prog 24 #[.slice A n c, .slice A' n' c'] w fun e w' => e = .returned (.bool (decide (xs = ys))) ∧ w = w' := by
  subst hn hn'
  have hc1 := run_strB (P := Try.prog) w 33 5 9 Try.underlying33 Try.underlying5 Try.underlying9 A xs.length c xs rfl hr
  have hc2 := run_strB (P := Try.prog) w 33 5 9 Try.underlying33 Try.underlying5 Try.underlying9 A' ys.length c' ys rfl hr'
  go_enter Try.func24, Try.ntmps24
  go_wp2
  go_ret
  exact ⟨ret_bool (beq_eq_decide' xs ys), rfl⟩

set_option maxHeartbeats 400000 in
theorem copy_any (A : Option Addr) (n c : Nat) (xs : List UInt8) (w : World) (hr : RdB w A xs) (hn : n = xs.length) (hl : xs.length ≤ 140737488355328) :
    Calls Try.prog 34 #[.slice A n c] w fun e w' => ∃ A' c', e = .returned (.slice A' n c') ∧ OwnB w' w.heap.size 5 (.slice A' n c') xs ∧ Below w.heap.size w w' := by
  subst hn
  have hr1 := hr.below ((Below.refl w.heap.size w).alloc (Nat.le_refl _) (.cells #[] 5))
  go_enter Try.func34, Try.ntmps34
  go_wp2_with (at_builtin; refine wpList_appB w w.heap.size Try.slB rfl (.tmp 3) (.tmp 4) rfl _ [] rfl (own_empty w _ _ _ (Nat.le_refl _)) A xs.length c xs rfl rfl hr1 xs rfl hl ((Below.refl _ _).alloc (Nat.le_refl _) _) (Nat.le_refl _) ?_; intro A2 c2 w2 hown2 hr2 hb2 hg2 hat2; clear hg2 hat2 hr2 hr1)
  go_ret
  exact ⟨A2, c2, rfl, hown2, hb2⟩

end Go.Proofs.Ytjfbopnohijhkaa
