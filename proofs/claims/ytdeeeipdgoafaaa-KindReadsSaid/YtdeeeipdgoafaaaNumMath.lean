/- Numbers as bytes, in plain numbers: digits to the base 128, lowest bytes. No program in sight. -/
import Derived.Test.YtdeeeipdgoafaaaOpen
import Derived.Laws.BitsAllLaws
import Derived.Laws.Bits128
namespace Go.Proofs.Ytdeeeipdgoafaaa

/-- A number's digits to the base 128. -/
def varB (n : Nat) : List UInt8 := if h : n < 128 then [UInt8.ofNat n] else UInt8.ofNat (n % 128 + 128) :: varB (n / 128)
termination_by n
decreasing_by omega
theorem varB_small (n : Nat) (h : n < 128) : varB n = [UInt8.ofNat n] := by rw [varB, dif_pos h]
theorem varB_step (n : Nat) (h : 128 ≤ n) : varB n = UInt8.ofNat (n % 128 + 128) :: varB (n / 128) := by rw [varB, dif_neg (by omega)]
theorem varB_len (k : Nat) : ∀ n, n < 128 ^ k → 0 < k → (varB n).length ≤ k := by
  induction k with
  | zero => intro n _ h; omega
  | succ k ih =>
    intro n hn _
    rcases Nat.lt_or_ge n 128 with h | h
    · rw [varB_small n h]; simp
    · rw [varB_step n h, List.length_cons]
      have hk : 0 < k := by
        rcases Nat.eq_zero_or_pos k with h0 | h0
        · subst h0; simp at hn; omega
        · exact h0
      have := ih (n / 128) (by rw [Nat.pow_succ] at hn; exact Nat.div_lt_of_lt_mul (by rw [Nat.mul_comm]; exact hn)) hk
      omega
theorem varB_len10 (n : Nat) (h : n < 18446744073709551616) : (varB n).length ≤ 10 := varB_len 10 n (Nat.lt_of_lt_of_le h (by decide)) (by decide)
theorem byteV (n : Nat) (h : n < 256) : (n : Int) = ((UInt8.ofNat n).toNat : Int) := by
  rw [UInt8.toNat_ofNat']; omega
theorem or128 (n : Nat) : Go.bits .or .u8 ((n : Int) % 256) 128 = ((UInt8.ofNat (n % 128 + 128)).toNat : Int) := by
  rw [UInt8.toNat_ofNat']
  have h1 : Go.bits .or .u8 ((n : Int) % 256) 128 = ((n % 256 ||| 128 : Nat) : Int) := by
    rw [show ((n : Int) % 256) = ((n % 256 : Nat) : Int) from rfl, show (128 : Int) = ((128 : Nat) : Int) from rfl]
    exact u8_or_nat (n % 256) 128 (by omega) (by decide)
  rw [h1]
  have h2 : n % 256 ||| 128 = n % 128 + 128 := by
    apply Nat.eq_of_testBit_eq
    intro j
    rw [Nat.testBit_or, show n % 256 = n % 2 ^ 8 from rfl, Nat.testBit_mod_two_pow, show n % 128 + 128 = 2 ^ 7 * 1 + n % 2 ^ 7 by omega]
    rw [Nat.testBit_two_pow_mul_add _ (Nat.mod_lt _ (by decide)), Nat.testBit_mod_two_pow, show (128 : Nat) = 2 ^ 7 from rfl, Nat.testBit_two_pow]
    by_cases h : j < 7
    · simp [h, show j < 8 by omega, show ¬ 7 = j by omega]
    · rw [if_neg h]
      by_cases h7 : j = 7
      · subst h7; simp
      · have hb : Nat.testBit 1 (j - 7) = false := by
          obtain ⟨i, hi⟩ : ∃ i, j - 7 = i + 1 := ⟨j - 8, by omega⟩
          rw [hi, Nat.testBit_succ]; simp
        simp [show ¬ j < 8 by omega, show ¬ 7 = j by omega, hb]
  rw [h2]
  omega
end Go.Proofs.Ytdeeeipdgoafaaa
