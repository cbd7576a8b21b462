/- Plain laws of the sum: steps lie over one another, a table is what it was made of, sums of joined bytes, bursts. No program in sight. -/
import Derived.Test.YtckfghdocaojgaaSumMath
namespace Go.Proofs.Ytckfghdocaojgaa

theorem xor_mod2 (a b : Nat) : (a ^^^ b) % 2 = (a % 2 + b % 2) % 2 := by
  have h := Nat.testBit_xor a b 0
  simp only [Nat.testBit_zero] at h
  have ha := Nat.mod_two_eq_zero_or_one a
  have hb := Nat.mod_two_eq_zero_or_one b
  have hc := Nat.mod_two_eq_zero_or_one (a ^^^ b)
  rcases ha with ha | ha <;> rcases hb with hb | hb <;> rcases hc with hc | hc <;> simp [ha, hb, hc] at h ⊢
theorem xor_div2 (a b : Nat) : (a ^^^ b) / 2 = a / 2 ^^^ b / 2 := by
  have h := Nat.shiftRight_xor_distrib (a := a) (b := b) (i := 1)
  simpa [Nat.shiftRight_succ] using h
theorem st_xor (a b : Nat) : st (a ^^^ b) = st a ^^^ st b := by
  unfold st
  rw [xor_div2, xor_mod2]
  rcases Nat.mod_two_eq_zero_or_one a with ha | ha <;> rcases Nat.mod_two_eq_zero_or_one b with hb | hb <;> simp only [ha, hb, Nat.zero_add, Nat.add_zero, Nat.reduceAdd, Nat.reduceMod, if_true, Nat.zero_ne_one, if_false]
  · rw [Nat.xor_assoc]
  · rw [Nat.xor_assoc, Nat.xor_comm (b / 2), ← Nat.xor_assoc]
  · rw [show (a / 2 ^^^ 2197175160) ^^^ (b / 2 ^^^ 2197175160) = (a / 2 ^^^ b / 2) ^^^ (2197175160 ^^^ 2197175160) from by
      rw [Nat.xor_assoc, Nat.xor_assoc]; congr 1; rw [← Nat.xor_assoc, Nat.xor_comm 2197175160 (b / 2), Nat.xor_assoc]]
    rw [Nat.xor_self, Nat.xor_zero]
theorem st_zero : st 0 = 0 := rfl
theorem stN_zero (n : Nat) : stN n 0 = 0 := by
  induction n with
  | zero => rfl
  | succ n ih => exact ih
theorem stN_xor (n : Nat) : ∀ a b : Nat, stN n (a ^^^ b) = stN n a ^^^ stN n b := by
  induction n with
  | zero => intro a b; rfl
  | succ n ih => intro a b; simp only [stN]; rw [st_xor]; exact ih _ _
theorem stN_add (m n : Nat) : ∀ x, stN (m + n) x = stN n (stN m x) := by
  induction m with
  | zero => intro x; simp [stN]
  | succ m ih => intro x; rw [show m + 1 + n = (m + n) + 1 by omega]; exact ih (st x)
theorem stN_shl (n : Nat) : ∀ v : Nat, stN n (v * 2 ^ n) = v := by
  induction n with
  | zero => intro v; simp [stN]
  | succ n ih =>
    intro v
    have h : st (v * 2 ^ (n + 1)) = v * 2 ^ n := by
      unfold st
      rw [Nat.pow_succ, ← Nat.mul_assoc]
      rw [if_neg (by omega)]
      omega
    show stN n (st (v * 2 ^ (n + 1))) = v
    rw [h, ih]
theorem bit_split (x i : Nat) : x * 2 ^ i = ((x / 2) * 2 ^ (i + 1)) ^^^ ((x % 2) * 2 ^ i) := by
  rw [← Nat.shiftLeft_eq, ← Nat.shiftLeft_eq, ← Nat.shiftLeft_eq]
  have h : x = (x / 2) <<< 1 ^^^ (x % 2) := by
    apply Nat.eq_of_testBit_eq
    intro j
    rw [Nat.testBit_xor, Nat.testBit_shiftLeft]
    rcases j with _ | j
    · simp
    · have h1 : (x % 2).testBit (j + 1) = false := by
        apply Nat.testBit_lt_two_pow
        exact Nat.lt_of_lt_of_le (Nat.mod_lt x (by decide)) (by rw [Nat.pow_succ]; have := Nat.one_le_two_pow (n := j); omega)
      simp [h1, Nat.testBit_succ]
  conv => lhs; rw [h]
  rw [Nat.shiftLeft_xor_distrib, ← Nat.shiftLeft_add, Nat.add_comm 1 i]

/-- A table of what n steps make of each bit makes of a number what n steps make of it. -/
theorem lay_steps (f : Nat → Nat) (m : Nat) (hf : ∀ i, i < 32 → f i = stN m (2 ^ i)) (n : Nat) : ∀ (i x out : Nat), i + n ≤ 32 → x < 2 ^ n → lay f n i x out = out ^^^ stN m (x * 2 ^ i) := by
  induction n with
  | zero =>
    intro i x out _ hx
    obtain rfl : x = 0 := by simpa using hx
    simp [lay, stN_zero]
  | succ n ih =>
    intro i x out hi hx
    rw [Nat.pow_succ] at hx
    simp only [lay]
    rw [ih (i + 1) (x / 2) _ (by omega) (by omega), bit_split x i, stN_xor]
    rcases Nat.mod_two_eq_zero_or_one x with h | h
    · rw [if_neg (by omega), h, Nat.zero_mul, stN_zero, Nat.xor_zero]
    · rw [if_pos h, h, Nat.one_mul, hf i (by omega), Nat.xor_assoc, Nat.xor_comm (stN m (2 ^ i))]
theorem layT_steps (f : Nat → Nat) (m : Nat) (hf : ∀ i, i < 32 → f i = stN m (2 ^ i)) (x : Nat) (hx : x < 4294967296) : layT f x = stN m x := by
  unfold layT
  rw [lay_steps f m hf 32 0 x 0 (by omega) hx]
  simp
theorem shiftF_steps (n : Nat) : ∀ (f : Nat → Nat) (m s : Nat), (∀ i, i < 32 → f i = stN m (2 ^ i)) → s < 4294967296 → shiftF f s n = stN (m * n) s := by
  induction n using Nat.strongRecOn with
  | ind n ih =>
    intro f m s hf hs
    rw [shiftF]
    split
    · rename_i h; subst h; simp [stN]
    · have hsq : ∀ i, i < 32 → sq f i = stN (2 * m) (2 ^ i) := fun i hi => by
        unfold sq
        have hlt : f i < 4294967296 := by rw [hf i hi]; exact stN_lt m (Nat.pow_lt_pow_right (by decide) hi : 2 ^ i < 2 ^ 32)
        rw [layT_steps f m hf _ hlt, hf i hi, Nat.two_mul, stN_add]
      rcases Nat.mod_two_eq_zero_or_one n with h | h
      · rw [if_neg (by omega), ih (n / 2) (by omega) (sq f) (2 * m) s hsq hs]
        congr 1
        rw [Nat.mul_comm 2 m, Nat.mul_assoc]; congr 1; omega
      · rw [if_pos h, layT_steps f m hf s hs, ih (n / 2) (by omega) (sq f) (2 * m) _ hsq (stN_lt m hs), ← stN_add]
        congr 1
        have : n = 2 * (n / 2) + 1 := by omega
        conv => rhs; rw [this]
        rw [Nat.mul_add, Nat.mul_comm 2 m, Nat.mul_assoc]; omega
/-- Many times eight steps. -/
theorem shift_steps (s n : Nat) (hs : s < 4294967296) : shift s n = stN (8 * n) s := shiftF_steps n tab0 8 s (fun _ _ => rfl) hs

/-- Bytes as one number, the lowest first. -/
def val : List UInt8 → Nat
  | [] => 0
  | c :: d => c.toNat ^^^ (val d * 256)
theorem mr_val (d : List UInt8) : ∀ x, mr x d = stN (8 * d.length) (x ^^^ val d) := by
  induction d with
  | nil => intro x; simp [mr, stN, val]
  | cons c d ih =>
    intro x
    show mr (stN 8 (x ^^^ c.toNat)) d = _
    rw [ih, List.length_cons, Nat.mul_add, Nat.add_comm, stN_add, val]
    congr 1
    rw [← Nat.xor_assoc, stN_xor 8 (x ^^^ c.toNat), show val d * 256 = val d * 2 ^ 8 from rfl, stN_shl]
theorem mr_append (x : Nat) (a b : List UInt8) : mr x (a ++ b) = mr (mr x a) b := by simp [mr]
theorem xor_back (a b : Nat) : (a ^^^ b) ^^^ b = a := by rw [Nat.xor_assoc, Nat.xor_self, Nat.xor_zero]
theorem more_append (s : Nat) (a b : List UInt8) : more s (a ++ b) = more (more s a) b := by
  unfold more
  rw [xor_back, mr_append]
theorem more_nil (s : Nat) : more s [] = s := by
  unfold more
  exact xor_back _ _
theorem sum_nil : sum [] = 0 := by decide
theorem sum_lt (b : List UInt8) : sum b < 4294967296 := more_lt 0 b (by decide)
theorem mr_over (y : List UInt8) (a b : Nat) : mr (a ^^^ b) y = stN (8 * y.length) a ^^^ mr b y := by
  rw [mr_val, mr_val, Nat.xor_assoc, stN_xor]
/-- The sum of two pieces out of their sums. -/
theorem sum_join (x y : List UInt8) : sum (x ++ y) = shift (sum x) y.length ^^^ sum y := by
  rw [shift_steps _ _ (sum_lt x)]
  unfold sum
  rw [more_append]
  show mr (more 0 x ^^^ 4294967295) y ^^^ 4294967295 = _ ^^^ (mr (0 ^^^ 4294967295) y ^^^ 4294967295)
  rw [mr_over, Nat.xor_assoc, Nat.zero_xor]

/-! ### Bursts -/
theorem st_ne (y : Nat) (h : y < 4294967296) (h0 : y ≠ 0) : st y ≠ 0 := by
  unfold st
  split
  · intro h1
    have h2 := congrArg (fun z => z ^^^ 2197175160) h1
    simp only [xor_back, Nat.zero_xor] at h2
    omega
  · omega
theorem stN_ne (n : Nat) : ∀ y, y < 4294967296 → y ≠ 0 → stN n y ≠ 0 := by
  induction n with
  | zero => intro y _ h; exact h
  | succ n ih => intro y h h0; exact ih _ (st_lt h) (st_ne y h h0)
/-- Which bits are turned: those of the 32 from 'at' on, if they are there. -/
def burst (k bits at_ m : Nat) : Nat := ((bits % 2 ^ k) * 2 ^ at_) % 2 ^ m
theorem burst_bit (k bits at_ m j : Nat) : (burst k bits at_ m).testBit j = (decide (j < m) && decide (at_ ≤ j) && decide (j - at_ < k) && bits.testBit (j - at_)) := by
  unfold burst
  rw [Nat.testBit_mod_two_pow, ← Nat.shiftLeft_eq, Nat.testBit_shiftLeft, Nat.testBit_mod_two_pow]
  simp only [ge_iff_le, Bool.and_assoc]
theorem burst_zero (bits at_ m : Nat) : burst 0 bits at_ m = 0 := by simp [burst, Nat.mod_one]
theorem burst_step (k bits at_ m : Nat) : burst (k + 1) bits at_ m = if bits.testBit k = true ∧ at_ + k < m then burst k bits at_ m ^^^ 2 ^ (at_ + k) else burst k bits at_ m := by
  apply Nat.eq_of_testBit_eq
  intro j
  by_cases h : bits.testBit k = true ∧ at_ + k < m
  · rw [if_pos h, Nat.testBit_xor, burst_bit, burst_bit, Nat.testBit_two_pow]
    by_cases hj : at_ + k = j
    · subst hj
      simp [h.1, h.2]
    · have e : decide (j - at_ < k + 1) = decide (j - at_ < k) ∨ ¬ at_ ≤ j := by
        by_cases ha : at_ ≤ j
        · left; apply decide_eq_decide.2; omega
        · exact .inr ha
      rcases e with e | e
      · rw [e]; simp [hj]
      · simp [e, hj]
  · rw [if_neg h, burst_bit, burst_bit]
    by_cases hj : at_ + k = j
    · subst hj
      have h' : bits.testBit k = false ∨ ¬ at_ + k < m := by
        cases hb : bits.testBit k
        · exact .inl rfl
        · exact .inr fun hm => h ⟨hb, hm⟩
      rcases h' with h' | h' <;> simp [h']
    · by_cases ha : at_ ≤ j
      · rw [show decide (j - at_ < k + 1) = decide (j - at_ < k) from decide_eq_decide.2 (by omega)]
      · simp [ha]
theorem burst_mono (k bits at_ m : Nat) (h : burst k bits at_ m ≠ 0) : burst (k + 1) bits at_ m ≠ 0 := by
  rcases Nat.lt_or_ge 0 (burst k bits at_ m) with hp | hp
  · obtain ⟨j, hj⟩ := Nat.exists_testBit_of_ne_zero h
    intro h0
    have h1 := burst_bit (k + 1) bits at_ m j
    rw [h0] at h1
    rw [burst_bit] at hj
    simp at hj h1
    have := h1 hj.1.1.1 hj.1.1.2 (by omega)
    rw [hj.2] at this
    cases this
  · omega
theorem burst_new (k bits at_ m : Nat) (h : bits.testBit k = true ∧ at_ + k < m) : burst (k + 1) bits at_ m ≠ 0 := by
  intro h0
  have h1 := burst_bit (k + 1) bits at_ m (at_ + k)
  rw [h0] at h1
  simp [h.1, h.2] at h1
/-- The sums of bytes of one length that differ by a burst differ, if any bit is turned. -/
theorem burst_sum (b c : List UInt8) (bits at_ : Nat) (hb : bits < 4294967296) (hl : c.length = b.length) (hv : val c = val b ^^^ burst 32 bits at_ (8 * b.length)) :
    (sum c = sum b) ↔ burst 32 bits at_ (8 * b.length) = 0 := by
  have hm : bits % 2 ^ 32 = bits := Nat.mod_eq_of_lt hb
  have key : stN (8 * b.length) (burst 32 bits at_ (8 * b.length)) = 0 ↔ burst 32 bits at_ (8 * b.length) = 0 := by
    constructor
    · intro h
      rcases Nat.lt_or_ge at_ (8 * b.length) with hat | hat
      · have e : burst 32 bits at_ (8 * b.length) = (bits % 2 ^ (8 * b.length - at_)) * 2 ^ at_ := by
          unfold burst
          rw [hm]
          conv => lhs; rw [show 8 * b.length = (8 * b.length - at_) + at_ by omega]
          rw [Nat.pow_add, Nat.mul_mod_mul_right]
        rw [e] at h ⊢
        rw [show 8 * b.length = at_ + (8 * b.length - at_) by omega, stN_add] at h
        rw [show at_ + (8 * b.length - at_) = 8 * b.length by omega] at h
        rw [stN_shl] at h
        by_cases h0 : bits % 2 ^ (8 * b.length - at_) = 0
        · rw [h0, Nat.zero_mul]
        · exact absurd h (stN_ne _ _ (Nat.lt_of_le_of_lt (Nat.mod_le _ _) hb) h0)
      · apply Nat.eq_of_testBit_eq
        intro j
        rw [burst_bit]
        simp
        intro h1 h2
        omega
    · intro h; rw [h, stN_zero]
  rw [← key]
  unfold sum more
  rw [mr_val, mr_val, hl, hv, ← Nat.xor_assoc, stN_xor]
  constructor
  · intro h
    have h2 := congrArg (fun z => z ^^^ 4294967295) h
    simp only [xor_back] at h2
    have h3 := congrArg (fun z => stN (8 * b.length) (0 ^^^ 4294967295 ^^^ val b) ^^^ z) h2
    simp only [Nat.xor_self, ← Nat.xor_assoc, Nat.zero_xor] at h3 ⊢
    exact h3
  · intro h
    rw [h, Nat.xor_zero]
end Go.Proofs.Ytckfghdocaojgaa
