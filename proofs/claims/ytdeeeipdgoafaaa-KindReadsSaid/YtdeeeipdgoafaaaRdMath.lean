/- Reading a number to the base 128, in plain words. No program in sight. -/
import Derived.Test.YtdeeeipdgoafaaaNumMath
namespace Go.Proofs.Ytdeeeipdgoafaaa
open Go.RowKit
/-- From the digit i on, a the sum so far: (the number, how many bytes in all, the fault). -/
def vr : Nat → Nat → List UInt8 → Nat × Nat × Nat
  | _, _, [] => (0, 0, 3)
  | i, a, c :: r => if (i = 9 ∧ 1 < c.toNat) ∨ (0 < i ∧ c.toNat = 0) then (0, 0, 4) else if c.toNat < 128 then (a + c.toNat * 128 ^ i, i + 1, 0) else vr (i + 1) (a + c.toNat % 128 * 128 ^ i) r
theorem vr_nil (i a : Nat) : vr i a [] = (0, 0, 3) := by rw [vr]
theorem vr_cons (i a : Nat) (c : UInt8) (r : List UInt8) : vr i a (c :: r) = if (i = 9 ∧ 1 < c.toNat) ∨ (0 < i ∧ c.toNat = 0) then (0, 0, 4) else if c.toNat < 128 then (a + c.toNat * 128 ^ i, i + 1, 0) else vr (i + 1) (a + c.toNat % 128 * 128 ^ i) r := by rw [vr]
theorem pow128 (i : Nat) (h : i ≤ 8) : 128 ^ (i + 1) ≤ 9223372036854775808 := by
  have : 128 ^ (i + 1) ≤ 128 ^ 9 := Nat.pow_le_pow_right (by decide) (by omega)
  exact Nat.le_trans this (by decide)
theorem acc_lt (i a c : Nat) (ha : a < 128 ^ i) (hc : c < 128) : a + c * 128 ^ i < 128 ^ (i + 1) := by
  have h1 : c * 128 ^ i ≤ 127 * 128 ^ i := Nat.mul_le_mul_right _ (by omega)
  rw [Nat.pow_succ]; omega
/-- The number that is read fits 64 bits; the fault is 0, 3 or 4; with a fault there is no number. -/
theorem vr_lt (r : List UInt8) : ∀ (i a : Nat), i ≤ 9 → a < 128 ^ i → (vr i a r).1 < 18446744073709551616 ∧ ((vr i a r).2.2 = 0 ∨ (vr i a r).2.2 = 3 ∨ (vr i a r).2.2 = 4) ∧ ((vr i a r).2.2 ≠ 0 → (vr i a r).1 = 0) ∧ ((vr i a r).2.2 = 0 → i < (vr i a r).2.1 ∧ (vr i a r).2.1 ≤ i + r.length ∧ (vr i a r).2.1 ≤ 10) := by
  induction r with
  | nil => intro i a _ _; rw [vr_nil]; exact ⟨by decide, by simp, by simp, by simp⟩
  | cons c r ih =>
    intro i a hi ha
    rw [vr_cons]
    by_cases h1 : (i = 9 ∧ 1 < c.toNat) ∨ (0 < i ∧ c.toNat = 0)
    · rw [if_pos h1]; exact ⟨by decide, by simp, by simp, by simp⟩
    · rw [if_neg h1]
      by_cases h2 : c.toNat < 128
      · rw [if_pos h2]
        refine ⟨?_, by simp, by simp, fun _ => ⟨by simp, by simp, by show i + 1 ≤ 10; omega⟩⟩
        show a + c.toNat * 128 ^ i < 18446744073709551616
        by_cases h9 : i = 9
        · subst h9
          have hc : c.toNat ≤ 1 := by omega
          have hp : (128 : Nat) ^ 9 = 9223372036854775808 := by decide
          rw [hp] at ha ⊢
          have : c.toNat * 9223372036854775808 ≤ 1 * 9223372036854775808 := Nat.mul_le_mul_right _ hc
          omega
        · have := acc_lt i a c.toNat ha h2
          have := pow128 i (by omega)
          omega
      · rw [if_neg h2]
        have h9 : i ≠ 9 := by intro h; exact h1 (.inl ⟨h, by omega⟩)
        obtain ⟨q1, q2, q3, q4⟩ := ih (i + 1) (a + c.toNat % 128 * 128 ^ i) (by omega) (acc_lt i a _ ha (Nat.mod_lt _ (by decide)))
        exact ⟨q1, q2, q3, fun h => by obtain ⟨u1, u2, u3⟩ := q4 h; exact ⟨by omega, by simp; omega, u3⟩⟩
/-- What 'Var' writes is read again. -/
theorem vr_write (v : Nat) : ∀ (i a : Nat) (more : List UInt8), i ≤ 9 → v * 128 ^ i < 18446744073709551616 → (0 < i → 0 < v) → vr i a (varB v ++ more) = (a + v * 128 ^ i, i + (varB v).length, 0) := by
  induction v using Nat.strongRecOn with
  | _ v ih =>
    intro i a more hi hv hp
    have h9 : i = 9 → v ≤ 1 := by
      intro h; subst h
      have hpw : (128 : Nat) ^ 9 = 9223372036854775808 := by decide
      rw [hpw] at hv; omega
    by_cases h : v < 128
    · rw [varB_small v h, List.singleton_append, vr_cons]
      have hc : (UInt8.ofNat v).toNat = v := by rw [UInt8.toNat_ofNat']; omega
      rw [hc, if_neg (by intro hh; rcases hh with ⟨h1, h2⟩ | ⟨h1, h2⟩; · have := h9 h1; omega
                         · have := hp h1; omega), if_pos h]
      simp
    · rw [varB_step v (by omega), List.cons_append, vr_cons]
      have hc : (UInt8.ofNat (v % 128 + 128)).toNat = v % 128 + 128 := by rw [UInt8.toNat_ofNat']; omega
      rw [hc, if_neg (by intro hh; rcases hh with ⟨h1, h2⟩ | ⟨h1, h2⟩; · have := h9 h1; omega
                         · omega), if_neg (by omega)]
      have hm : v / 128 * 128 + v % 128 = v := by omega
      have hpow : (128 : Nat) ^ (i + 1) = 128 * 128 ^ i := by rw [Nat.pow_succ, Nat.mul_comm]
      have hi9 : i ≠ 9 := by intro hh; have := h9 hh; omega
      have hmod : (v % 128 + 128) % 128 = v % 128 := by omega
      have hdist : v * 128 ^ i = v / 128 * 128 ^ (i + 1) + v % 128 * 128 ^ i := by
        rw [hpow, ← Nat.mul_assoc, ← Nat.add_mul, hm]
      rw [hmod, ih (v / 128) (by omega) (i + 1) _ more (by omega) (by omega) (fun _ => by omega)]
      simp only [List.length_cons, Prod.mk.injEq, and_true]
      exact ⟨by omega, by omega⟩
/-- What is read is what 'Var' writes. -/
theorem vr_canon (r : List UInt8) : ∀ (i a : Nat), (vr i a r).2.2 = 0 → ∃ u more, r = varB u ++ more ∧ (vr i a r).1 = a + u * 128 ^ i ∧ (vr i a r).2.1 = i + (varB u).length ∧ (0 < i → 0 < u) := by
  induction r with
  | nil => intro i a h; rw [vr_nil] at h; simp at h
  | cons c r ih =>
    intro i a h
    rw [vr_cons] at h ⊢
    by_cases h1 : (i = 9 ∧ 1 < c.toNat) ∨ (0 < i ∧ c.toNat = 0)
    · rw [if_pos h1] at h; simp at h
    · rw [if_neg h1] at h ⊢
      by_cases h2 : c.toNat < 128
      · rw [if_pos h2]
        refine ⟨c.toNat, r, ?_, rfl, ?_, ?_⟩
        · rw [varB_small _ h2]; simp
        · rw [varB_small _ h2]; rfl
        · intro hi; rcases Nat.eq_zero_or_pos c.toNat with h0 | h0
          · exact absurd (.inr ⟨hi, h0⟩) h1
          · exact h0
      · rw [if_neg h2] at h ⊢
        obtain ⟨u, more, q1, q2, q3, q4⟩ := ih (i + 1) _ h
        have hu := q4 (by omega)
        have hcl : c.toNat < 256 := c.toNat_lt
        refine ⟨u * 128 + c.toNat % 128, more, ?_, ?_, ?_, fun _ => by omega⟩
        · rw [varB_step _ (by omega), show (u * 128 + c.toNat % 128) / 128 = u by omega, show (u * 128 + c.toNat % 128) % 128 + 128 = c.toNat by omega, q1]
          simp
        · have hd : (u * 128 + c.toNat % 128) * 128 ^ i = u * 128 ^ (i + 1) + c.toNat % 128 * 128 ^ i := by rw [Nat.pow_succ, Nat.add_mul, Nat.mul_assoc, Nat.mul_comm 128]
          rw [q2, hd]; omega
        · rw [q3, varB_step (u * 128 + c.toNat % 128) (by omega), show (u * 128 + c.toNat % 128) / 128 = u by omega]
          simp; omega
end Go.Proofs.Ytdeeeipdgoafaaa
