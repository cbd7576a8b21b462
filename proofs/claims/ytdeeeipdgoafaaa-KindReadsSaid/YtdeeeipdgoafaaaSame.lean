/- Bytes compared and copied by the reference's helpers. -/
import Derived.Test.YtdeeeipdgoafaaaProg
import Derived.LoopTactic
import Derived.Outline
import Derived.KernelRfl
import Derived.WalkLawsBesides
import Derived.Test.YtdeeeipdgoafaaaOpen
import Derived.Deep.QuietTactic
import Derived.BigQuiet
import Derived.Deep.RegionHeld
import Derived.Deep.OwnRows
import Derived.Laws.CopyRow
namespace Go.Proofs.Ytdeeeipdgoafaaa
open Go.RowKit

theorem Try.slB : SlT Try.prog 47 5 (.int .u8 0) 1 1 := ⟨Try.underlying47, by kernel_rfl, rfl, by decide⟩
theorem wrap_u64_nat (n : Nat) (h : n < 18446744073709551616) : IntKind.u64.wrap ((n : Nat) : Int) = (n : Int) := by
  rw [show IntKind.u64.wrap (n : Int) = (n : Int) % 18446744073709551616 from by simp [IntKind.wrap, IntKind.bits, IntKind.signed]]
  omega

theorem ret_bool {a b : Bool} (h : a = b) : Ending.returned (.bool a) = .returned (.bool b) := by rw [h]
theorem beq_eq_decide' {α : Type} [DecidableEq α] (xs ys : List α) : (xs == ys) = decide (xs = ys) := by
  by_cases h : xs = ys
  · subst h; simp
  · rw [decide_eq_false h]; exact beq_eq_false_iff_ne.2 h

set_option maxHeartbeats 400000 in
theorem same_any (A A' : Option Addr) (n n' c c' : Nat) (xs ys : List UInt8) (w : World) (hr : RdB w A xs) (hr' : RdB w A' ys) (hn : n = xs.length) (hn' : n' = ys.length) :
    Calls Try.prog 25 #[.slice A n c, .slice A' n' c'] w fun e w' => e = .returned (.bool (decide (xs = ys))) ∧ w = w' := by
  subst hn hn'
  have hc1 := run_strB (P := Try.prog) w 47 5 9 Try.underlying47 Try.underlying5 Try.underlying9 A xs.length c xs rfl hr
  have hc2 := run_strB (P := Try.prog) w 47 5 9 Try.underlying47 Try.underlying5 Try.underlying9 A' ys.length c' ys rfl hr'
  go_enter Try.func25, Try.ntmps25
  go_wp2
  go_ret
  exact ⟨ret_bool (beq_eq_decide' xs ys), rfl⟩

set_option maxHeartbeats 400000 in
theorem copy_any (A : Option Addr) (n c : Nat) (xs : List UInt8) (w : World) (hr : RdB w A xs) (hn : n = xs.length) (hl : xs.length ≤ 140737488355328) :
    Calls Try.prog 28 #[.slice A n c] w fun e w' => ∃ A' c', e = .returned (.slice A' n c') ∧ OwnB w' w.heap.size 5 (.slice A' n c') xs ∧ Below w.heap.size w w' := by
  subst hn
  have hr1 := hr.below ((Below.refl w.heap.size w).alloc (Nat.le_refl _) (.cells #[] 5))
  go_enter Try.func28, Try.ntmps28
  go_wp2_with (at_builtin; refine wpList_appB w w.heap.size Try.slB rfl (.tmp 3) (.tmp 4) rfl _ [] rfl (own_empty w _ _ _ (Nat.le_refl _)) A xs.length c xs rfl rfl hr1 xs rfl hl ((Below.refl _ _).alloc (Nat.le_refl _) _) (Nat.le_refl _) ?_; intro A2 c2 w2 hown2 hr2 hb2 hg2 hat2; clear hg2 hat2 hr2 hr1)
  go_ret
  exact ⟨A2, c2, rfl, hown2, hb2⟩

theorem made_zero (m : Nat) : madeCells #[.int .u8 0] m = (bv (List.replicate m 0)).toArray := by
  apply Array.ext
  · simp [madeCells, bv]
  · intro i h1 h2
    simp [madeCells, bv, Nat.mod_one]
theorem Try.mkB (m : Nat) (hn : m ≤ 281474976710656) : ∀ W : World, (Instr.makeSlice 47 (.int .i64 (m : Int)) (.int .i64 (m : Int))).run Try.prog W = .ok (.slice (some ⟨W.heap.size, 0, none⟩) m m) (W.alloc (.cells (bv (List.replicate m 0)).toArray 5)) := by
  intro W
  rw [← made_zero]
  exact run_make_row' 47 5 (.int .u8 0) 1 Try.underlying47 (by kernel_rfl) rfl .i64 .i64 m (by omega) (by omega) W

/-- copy into a row that was just made: the first bytes of the source. -/
theorem run_copyNew {P : Program} (W : World) (dT sT ty elem : TypeId) (hu : P.underlying dT = some (.slice elem)) (hsz : (P.info? elem).map (·.size) = some 1) (g : Nat) (e : TypeId) (k c : Nat) (A : Option Addr) (n c2 : Nat) (xs : List UInt8)
    (hg : W.heap[g]? = some (.cells (bv (List.replicate k 0)).toArray e (0, 0))) (hn : n = xs.length) (hr : RdB W A xs) (hk : k ≤ xs.length) :
    ∃ W', (Builtin.copy_ #[dT, sT] ty #[.slice (some ⟨g, 0, none⟩) k c, .slice A n c2]).run P W = .ok (goInt k) W' ∧ W'.heap[g]? = some (.cells (bv (xs.take k)).toArray e (0, 0)) ∧ W.grownBy W' (some g) := by
  subst hn
  rcases Nat.eq_zero_or_pos k with h0 | h0
  · subst h0
    exact ⟨W, by rw [run_copy_none (P := P) W dT sT ty elem _ A _ c _ c2 hu hsz (by simp)]; rfl, by simpa using hg, World.grownBy.refl W _⟩
  · obtain ⟨b, off, rfl, hc⟩ := hr.2 (by rw [bv_length]; omega)
    have hl : (bv (xs.take k)).length = k := by simp [bv]; omega
    have hrun := run_copy_row (P := P) W dT sT ty elem g 0 k c ⟨b, off, none⟩ xs.length c2 _ e (bv (xs.take k)) hu hsz hg (by rw [hl]; exact (Nat.min_eq_right hk).symm) (by
      intro j v hj
      have hadd : (⟨b, off, none⟩ : Addr).add j = ⟨b, off + j, none⟩ := by unfold Addr.add; split <;> simp_all
      rw [hadd]
      refine hc j v ?_
      simp only [bv, List.getElem?_map, List.getElem?_take] at hj ⊢
      split at hj
      · exact hj
      · simp at hj) (by simp [bv]; omega) (bv_one _)
    rw [hl] at hrun
    refine ⟨_, hrun, ?_, ⟨rfl, rfl, rfl, by simp [World.setRow], fun i _ hne => setRow_other W g i _ (fun e => hne (by rw [e]))⟩⟩
    rw [setRow_heap W g _ _ e (0, 0) hg]
    simp [bv]
end Go.Proofs.Ytdeeeipdgoafaaa
