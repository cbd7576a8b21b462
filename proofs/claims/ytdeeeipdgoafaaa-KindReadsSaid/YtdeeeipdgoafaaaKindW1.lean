/- The walks of Check, of the program and of the reference. -/
import Derived.Test.YtdeeeipdgoafaaaProg
import Derived.LoopTactic
import Derived.Outline
import Derived.KernelRfl
import Derived.WalkLawsBesides
import Derived.Test.YtdeeeipdgoafaaaKindMath
namespace Go.Proofs.Ytdeeeipdgoafaaa
open Go.RowKit

set_option maxHeartbeats 1000000 in
theorem check_any (S : Int) (A : Option Addr) (cap : Nat) (ps : List Int) (w : World) (hS : -9223372036854775808 ≤ S ∧ S ≤ 9223372036854775807) (hr : RdI w A ps) :
    Calls Try.prog 12 #[.agg #[.int .i64 S, .slice A ps.length cap]] w fun e w' => e = .returned (.int .i64 (chk S ps)) ∧ Below w.heap.size w w' := by
  have hlen := hr.1
  obtain ⟨hS0, hS1⟩ := hS
  by_cases h1 : S < 1
  · go_enter Try.func12, Try.ntmps12
    go_wp2
    go_ret
    exact ⟨ret_int (by unfold chk; rw [if_pos (Or.inl h1)]), (Below.refl _ _).alloc (Nat.le_refl _) _⟩
  by_cases h2 : 4096 < S
  · go_enter Try.func12, Try.ntmps12
    go_wp2
    go_ret
    exact ⟨ret_int (by unfold chk; rw [if_pos (Or.inr h2)]), (Below.refl _ _).alloc (Nat.le_refl _) _⟩
  by_cases h3 : 16 < ps.length
  · go_enter Try.func12, Try.ntmps12
    go_wp2
    go_ret
    exact ⟨ret_int (by unfold chk; rw [if_neg (by omega), if_pos h3]), (Below.refl _ _).alloc (Nat.le_refl _) _⟩
  have HF : Hid (∀ r, (okFrom S 0 ps = r) → chk S ps = if r = true then 0 else 11) := fun r hr => by unfold chk; rw [if_neg (by omega), if_neg h3, hr]
  go_enter Try.func12, Try.ntmps12
  go_wp2
  go_loop [3, 5, 23] (fun nx _ i => ∃ (k : Nat) (next : Int), k ≤ ps.length ∧ i = .int .i64 k ∧ nx = .int .i64 next ∧ 0 ≤ next ∧ next ≤ 4096 ∧ Hid (okFrom S next (ps.drop k) = okFrom S 0 ps)) (fun _ _ i => ps.length - (intOf i).toNat)
  case atStart => exact ⟨0, 0, by omega, rfl, rfl, by omega, by omega, rfl⟩
  case round =>
    obtain ⟨k, next, hk, rfl, rfl, hn0, hn1, hO⟩ := hrel
    by_cases hlt : k < ps.length
    · obtain ⟨b, off, rfl, hblt, hc⟩ := hr.at (by omega)
      have hck := hc k hlt
      have hbd := hr.2.2 ps[k] (List.getElem_mem hlt)
      have hO2 := hO.out
      rw [drop_cons ps k hlt, okFrom_cons] at hO2
      clear hc
      generalize ps[k] = p at *
      have HO2 := Lib.hid hO2; clear hO2
      by_cases hok : p % 8 = 0 ∧ next ≤ p ∧ p ≤ S - 8
      · obtain ⟨hm, hp0, hp1⟩ := hok
        have hm' : p.tmod 8 = 0 := by rw [Int.tmod_eq_emod_of_nonneg (by omega)]; exact hm
        have HM := Lib.hid hm; clear hm
        go_wp2
        go_round
        case rel => exact ⟨k + 1, p + 8, by omega, by go_num, rfl, by omega, by omega, by have h := HO2.out; rw [if_pos ⟨HM.out, hp0, hp1⟩] at h; exact h⟩
        case measure => simp [intOf]; omega
      · have hfin : chk S ps = 11 := by have h := HO2.out; rw [if_neg hok] at h; rw [HF.out _ h.symm]; rfl
        have HFIN := Lib.hid hfin; clear hfin
        have hno : ¬ (p.tmod 8 = 0 ∧ next ≤ p ∧ p ≤ S - 8) := fun h => hok ⟨by rw [← Int.tmod_eq_emod_of_nonneg (by omega)]; exact h.1, h.2⟩
        have HNO := Lib.hid hno; clear hno hok
        go_wp2
        all_goals first
          | (go_ret; exact ⟨ret_int HFIN.out.symm, (Below.refl _ _).alloc (Nat.le_refl _) _⟩)
          | (exfalso; exact HNO.out (by refine ⟨?_, ?_, ?_⟩ <;> first | assumption | omega))
    · go_wp2
      go_ret
      refine ⟨ret_int ?_, (Below.refl _ _).alloc (Nat.le_refl _) _⟩
      have := hO.out
      rw [List.drop_of_length_le (by omega)] at this
      rw [HF.out _ this.symm]; rfl

set_option maxHeartbeats 1000000 in
theorem refCheck_any (S : Int) (A : Option Addr) (cap : Nat) (ps : List Int) (w : World) (hS : -9223372036854775808 ≤ S ∧ S ≤ 9223372036854775807) (hr : RdI w A ps) :
    Calls Try.prog 13 #[.agg #[.int .i64 S, .slice A ps.length cap]] w fun e w' => e = .returned (.int .i64 (chk S ps)) ∧ Below w.heap.size w w' := by
  have hlen := hr.1
  obtain ⟨hS0, hS1⟩ := hS
  by_cases h1 : S < 1
  · go_enter Try.func13, Try.ntmps13
    go_wp2
    go_ret
    exact ⟨ret_int (by unfold chk; rw [if_pos (Or.inl h1)]), (Below.refl _ _).alloc (Nat.le_refl _) _⟩
  by_cases h2 : 4096 < S
  · go_enter Try.func13, Try.ntmps13
    go_wp2
    go_ret
    exact ⟨ret_int (by unfold chk; rw [if_pos (Or.inr h2)]), (Below.refl _ _).alloc (Nat.le_refl _) _⟩
  by_cases h3 : 16 < ps.length
  · go_enter Try.func13, Try.ntmps13
    go_wp2
    go_ret
    exact ⟨ret_int (by unfold chk; rw [if_neg (by omega), if_pos h3]), (Below.refl _ _).alloc (Nat.le_refl _) _⟩
  have HF : Hid (∀ r, (okFrom S 0 ps = r) → chk S ps = if r = true then 0 else 11) := fun r hr => by unfold chk; rw [if_neg (by omega), if_neg h3, hr]
  go_enter Try.func13, Try.ntmps13
  go_wp2
  go_loop [3, 4, 20] (fun _ _ i => ∃ (k : Nat) (next : Int), k ≤ ps.length ∧ i = .int .i64 k ∧ 0 ≤ next ∧ next ≤ 4096 ∧ Hid (next % 8 = 0 ∧ (∀ h : 0 < k ∧ k ≤ ps.length, next = ps[k - 1] + 8) ∧ (k = 0 → next = 0) ∧ okFrom S next (ps.drop k) = okFrom S 0 ps)) (fun _ _ i => ps.length - (intOf i).toNat)
  case atStart => exact ⟨0, 0, by omega, rfl, by omega, by omega, by omega, by omega, fun _ => rfl, rfl⟩
  case round =>
    obtain ⟨k, next, hk, rfl, hn0, hn1, hO⟩ := hrel
    by_cases hlt : k < ps.length
    · obtain ⟨b, off, rfl, hblt, hc⟩ := hr.at (by omega)
      have hck := hc k hlt
      have hbd := hr.2.2 ps[k] (List.getElem_mem hlt)
      obtain ⟨hn8, hprev, hz, hO2⟩ := hO.out
      rw [drop_cons ps k hlt, okFrom_cons] at hO2
      have hrel2 : ∀ (p : Int), ps[k] = p → p % 8 = 0 → p ≤ S - 8 → okFrom S (p + 8) (ps.drop (k + 1)) = okFrom S 0 ps → next ≤ p → ∃ (k' : Nat) (next' : Int), k' ≤ ps.length ∧ Value.int .i64 ((k : Int) + 1) = .int .i64 k' ∧ 0 ≤ next' ∧ next' ≤ 4096 ∧ Hid (next' % 8 = 0 ∧ (∀ h : 0 < k' ∧ k' ≤ ps.length, next' = ps[k' - 1] + 8) ∧ (k' = 0 → next' = 0) ∧ okFrom S next' (ps.drop k') = okFrom S 0 ps) := fun p hp hm h1 h2 h3 =>
        ⟨k + 1, p + 8, by omega, by go_num, by omega, by omega, by omega, fun _ => by rw [← hp]; rfl, by omega, h2⟩
      by_cases hk0 : k = 0
      · subst hk0
        obtain rfl := hz rfl
        clear hc hprev hz hn8
        rw [Nat.add_zero] at hck
        generalize hpe : ps[0] = p at *
        have HPE := Lib.hid hpe; clear hpe
        have HO2 := Lib.hid hO2; clear hO2
        have HR := Lib.hid hrel2; clear hrel2
        by_cases hok : p % 8 = 0 ∧ 0 ≤ p ∧ p ≤ S - 8
        · obtain ⟨hm, hp0, hp1⟩ := hok
          have hm' : p.tmod 8 = 0 := by rw [Int.tmod_eq_emod_of_nonneg (by omega)]; exact hm
          have HM := Lib.hid hm; clear hm
          go_wp2
          go_round
          case rel => exact HR.out p rfl HM.out hp1 (by have h := HO2.out; rw [if_pos ⟨HM.out, hp0, hp1⟩] at h; exact h) hp0
          case measure => simp [intOf]; omega
        · have hfin : chk S ps = 11 := by have h := HO2.out; rw [if_neg hok] at h; rw [HF.out _ h.symm]; rfl
          have HFIN := Lib.hid hfin; clear hfin
          have HNO := Lib.hid hok; clear hok
          go_wp2
          all_goals first
            | (go_ret; exact ⟨ret_int HFIN.out.symm, (Below.refl _ _).alloc (Nat.le_refl _) _⟩)
            | (exfalso; exact HNO.out ⟨by omega, by omega, by omega⟩)
      · have hpk := hc (k - 1) (by omega)
        have hpv := hprev ⟨by omega, by omega⟩
        clear hc hprev hz
        generalize hpe : ps[k] = p at *
        have HPE := Lib.hid hpe; clear hpe
        have hqb := hr.2.2 ps[k - 1] (List.getElem_mem (by omega))
        generalize ps[k - 1] = q at *
        have HO2 := Lib.hid hO2; clear hO2
        have HR := Lib.hid hrel2; clear hrel2
        have HN8 := Lib.hid hn8; clear hn8
        obtain rfl : q = next - 8 := by omega
        clear hpv
        have hki : ((k : Int) - 1) = ((k - 1 : Nat) : Int) := by omega
        by_cases hok : p % 8 = 0 ∧ next ≤ p ∧ p ≤ S - 8
        · obtain ⟨hm, hp0, hp1⟩ := hok
          have hm' : p.tmod 8 = 0 := by rw [Int.tmod_eq_emod_of_nonneg (by omega)]; exact hm
          have HM := Lib.hid hm; clear hm
          go_wp2
          go_round
          case rel => exact HR.out p rfl HM.out hp1 (by have h := HO2.out; rw [if_pos ⟨HM.out, hp0, hp1⟩] at h; exact h) hp0
          case measure => simp [intOf]; omega
        · have hfin : chk S ps = 11 := by have h := HO2.out; rw [if_neg hok] at h; rw [HF.out _ h.symm]; rfl
          have HFIN := Lib.hid hfin; clear hfin
          have HNO := Lib.hid hok; clear hok
          go_wp2
          all_goals first
            | (go_ret; exact ⟨ret_int HFIN.out.symm, (Below.refl _ _).alloc (Nat.le_refl _) _⟩)
            | (exfalso; have h8 := HN8.out; exact HNO.out ⟨by omega, by omega, by omega⟩)
    · go_wp2
      go_ret
      refine ⟨ret_int ?_, (Below.refl _ _).alloc (Nat.le_refl _) _⟩
      have := hO.out.2.2.2
      rw [List.drop_of_length_le (by omega)] at this
      rw [HF.out _ this.symm]; rfl
end Go.Proofs.Ytdeeeipdgoafaaa
