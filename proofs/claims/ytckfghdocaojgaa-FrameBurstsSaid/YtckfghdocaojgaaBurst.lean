/- Bits turned in bytes, in plain numbers. No program in sight. -/
import Derived.Test.YtckfghdocaojgaaMem
import Derived.Test.YtckfghdocaojgaaSumPlain
namespace Go.Proofs.Ytckfghdocaojgaa
open Go.RowKit
theorem bit_of (bits k : Nat) : ((bits : Int) / 2 ^ k).tmod 2 = if bits.testBit k = true then 1 else 0 := by
  have e : ((bits : Int) / 2 ^ k) = ((bits / 2 ^ k : Nat) : Int) := by simp
  rw [e, Int.tmod_eq_emod_of_nonneg (Int.natCast_nonneg _), Nat.testBit_eq_decide_div_mod_eq]
  rcases Nat.mod_two_eq_zero_or_one (bits / 2 ^ k) with h | h
  · rw [if_neg (by simp [h])]; omega
  · rw [if_pos (by simp [h])]; omega
theorem xor_mul256 (a b : Nat) : (a ^^^ b) * 256 = a * 256 ^^^ b * 256 := by
  have := Nat.shiftLeft_xor_distrib (a := a) (b := b) (i := 8)
  simpa [Nat.shiftLeft_eq] using this
theorem val_set (cs : List UInt8) : ∀ (i : Nat) (x : UInt8) (h : i < cs.length), val (cs.set i x) = val cs ^^^ ((cs[i].toNat ^^^ x.toNat) * 256 ^ i) := by
  induction cs with
  | nil => intro i x h; simp at h
  | cons c d ih =>
    intro i x h
    rcases i with _ | i
    · simp only [List.set_cons_zero, val, List.getElem_cons_zero, Nat.pow_zero, Nat.mul_one]
      rw [Nat.xor_comm c.toNat (val d * 256), Nat.xor_assoc, ← Nat.xor_assoc c.toNat, Nat.xor_self, Nat.zero_xor, Nat.xor_comm]
    · have hi : i < d.length := by simpa using h
      simp only [List.set_cons_succ, val, List.getElem_cons_succ]
      rw [ih i x hi, xor_mul256, ← Nat.xor_assoc, Nat.pow_succ, Nat.mul_assoc]

theorem flip8 (y r : Nat) (hy : y < 256) (hr : r < 8) : Go.bits .xor .u8 (y : Int) (2 ^ r % 256) = ((UInt8.ofNat (y ^^^ 2 ^ r)).toNat : Int) ∧ y ^^^ (UInt8.ofNat (y ^^^ 2 ^ r)).toNat = 2 ^ r := by
  have hp : 2 ^ r < 256 := (Nat.pow_lt_pow_right (by decide) hr : 2 ^ r < 2 ^ 8)
  have hx : y ^^^ 2 ^ r < 256 := Nat.xor_lt_two_pow (n := 8) hy hp
  have e : ((2 : Int) ^ r % 256) = ((2 ^ r : Nat) : Int) := by
    have e : ((2 : Int) ^ r) = ((2 ^ r : Nat) : Int) := by simp
    rw [e]; generalize 2 ^ r = q at hp ⊢; omega
  have ht : (UInt8.ofNat (y ^^^ 2 ^ r)).toNat = y ^^^ 2 ^ r := by rw [UInt8.toNat_ofNat']; exact Nat.mod_eq_of_lt hx
  refine ⟨by rw [e, u8_xor_nat y _ hy hp, ht], ?_⟩
  rw [ht, ← Nat.xor_assoc, Nat.xor_self, Nat.zero_xor]

end Go.Proofs.Ytckfghdocaojgaa
