/- Plain laws of frames: what is encoded is decoded; what lacks bytes, or has more, is none; bursts. No program in sight. -/
import Derived.Test.YtckfghdocaojgaaFrameW6
namespace Go.Proofs.Ytckfghdocaojgaa
open Go.RowKit
theorem frB_hd (k : Nat) (body more : List UInt8) : (frB k body ++ more).headD 0 = UInt8.ofNat k ∧ (frB k body ++ more).head? = some (UInt8.ofNat k) := by
  simp [frB, hdB]
theorem leN_take2 (n : Nat) (t : List UInt8) (hn : n ≤ 65535) : leN ((leB n 2 ++ t).take 2) = n := by
  rw [List.take_left' (leB_length n 2), leN_leB _ _ (by omega)]
theorem frB_lenF (k : Nat) (body more : List UInt8) (hb : body.length ≤ 65535) : lenF (frB k body ++ more) = body.length + 7 := by
  unfold lenF
  have e : (frB k body ++ more).drop 1 = leB body.length 2 ++ (body ++ (leB (sum (hdB k body)) 4 ++ more)) := by simp [frB, hdB]
  rw [e, leN_take2 _ _ hb]
theorem frB_sizeF (k : Nat) (body more : List UInt8) (hb : body.length ≤ 65535) : sizeF (frB k body ++ more) = body.length + 7 := by
  have hl : (frB k body ++ more).length = body.length + 7 + more.length := by simp [frB_length]
  unfold sizeF
  rw [frB_lenF k body more hb, if_neg (by omega), if_neg (by omega)]
theorem frB_split (k : Nat) (body more : List UInt8) (h1 : 1 ≤ k) (h2 : k ≤ 255) (hb : body.length ≤ 65535) : splitF (frB k body ++ more) = ⟨k, body, more, 0⟩ := by
  have hs := frB_sizeF k body more hb
  have hl3 : (hdB k body).length = body.length + 3 := hdB_length k body
  have e1 : (frB k body ++ more).take (body.length + 7 - 4) = hdB k body := by
    rw [show frB k body ++ more = hdB k body ++ (leB (sum (hdB k body)) 4 ++ more) by simp [frB]]
    exact List.take_left' (by omega)
  have e2 : ((frB k body ++ more).drop (body.length + 7 - 4)).take 4 = leB (sum (hdB k body)) 4 := by
    rw [show frB k body ++ more = hdB k body ++ (leB (sum (hdB k body)) 4 ++ more) by simp [frB]]
    rw [List.drop_left' (by omega)]
    exact List.take_left' (leB_length _ _)
  have e3 : (frB k body ++ more).drop (body.length + 7) = more := List.drop_left' (frB_length k body)
  have e4 : (hdB k body).drop 3 = body := by
    have : hdB k body = (UInt8.ofNat k :: leB body.length 2) ++ body := rfl
    rw [this]; exact List.drop_left' (by simp [leB_length])
  have hok : sumOk (frB k body ++ more) (body.length + 7) = true := by
    rw [sumOk_iff _ _ (by simp [frB_length]) (by omega), e1, e2]
  obtain ⟨h5, h6⟩ := frB_hd k body more
  have hk : UInt8.ofNat k ≠ 0 := by
    intro h
    have := congrArg UInt8.toNat h
    simp at this
    omega
  have hkn : (UInt8.ofNat k).toNat = k := by simp; omega
  unfold splitF
  rw [hs, if_neg (by omega)]
  unfold wholeF
  rw [if_pos hok, h5, h6, if_neg (by simpa using hk), e1, e3, e4, hkn]
theorem frB_dec (k : Nat) (body : List UInt8) (h1 : 1 ≤ k) (h2 : k ≤ 255) (hb : body.length ≤ 65535) : decF (frB k body) = ⟨k, body, [], 0⟩ := by
  have hs := frB_sizeF k body [] hb
  have hp := frB_split k body [] h1 h2 hb
  rw [List.append_nil] at hs hp
  unfold decF
  rw [hs, if_neg (by rw [frB_length]; omega), hp]
theorem frB_more (k : Nat) (body more : List UInt8) (hb : body.length ≤ 65535) (hm : 0 < more.length) : decF (frB k body ++ more) = ⟨0, [], [], 6⟩ := by
  unfold decF
  rw [frB_sizeF k body more hb, if_pos ⟨by omega, by simp [frB_length]; omega⟩]
theorem frB_short (k : Nat) (body : List UInt8) (n : Nat) (hb : body.length ≤ 65535) (hn : n < body.length + 7) : sizeF ((frB k body).take n) = 0 := by
  have hl : ((frB k body).take n).length = n := by rw [List.length_take, frB_length]; omega
  unfold sizeF
  rw [hl]
  split
  · rfl
  · rename_i h7
    have e : lenF ((frB k body).take n) = lenF (frB k body) := by
      unfold lenF
      rw [List.drop_take, List.take_take, Nat.min_eq_left (by omega)]
    have := frB_lenF k body [] hb
    rw [List.append_nil] at this
    rw [e, this, if_pos hn]
theorem frB_short_split (k : Nat) (body : List UInt8) (n : Nat) (hb : body.length ≤ 65535) (hn : n < body.length + 7) : splitF ((frB k body).take n) = ⟨0, [], [], 3⟩ ∧ decF ((frB k body).take n) = ⟨0, [], [], 3⟩ := by
  have h := frB_short k body n hb hn
  have hs : splitF ((frB k body).take n) = ⟨0, [], [], 3⟩ := by unfold splitF; rw [if_pos h]
  exact ⟨hs, by unfold decF; rw [h, if_neg (fun h => h.1 rfl), hs]⟩
theorem xor_add (a x : Nat) (h : a < 256) : a ^^^ (x * 256) = a + 256 * x := by
  apply Nat.eq_of_testBit_eq
  intro j
  have e : a + 256 * x = 2 ^ 8 * x + a := by omega
  rw [e, Nat.testBit_two_pow_mul_add _ (by simpa using h), Nat.testBit_xor, show x * 256 = 2 ^ 8 * x by omega, Nat.testBit_two_pow_mul]
  by_cases hj : j < 8
  · have : decide (j ≥ 8) = false := decide_eq_false (by omega)
    rw [if_pos hj, this]; simp
  · rw [if_neg hj]
    have : a.testBit j = false := Nat.testBit_lt_two_pow (Nat.lt_of_lt_of_le (show a < 2 ^ 8 by simpa using h) (Nat.pow_le_pow_right (by decide) (by omega)))
    rw [this]
    simp; omega
theorem val_leN (q : List UInt8) : val q = leN q := by
  induction q with
  | nil => rfl
  | cons c d ih => rw [val, ih, xor_add _ _ c.toNat_lt]; rfl
theorem val_inj (p q : List UInt8) (hl : p.length = q.length) (h : val p = val q) : p = q := by
  rw [val_leN, val_leN] at h
  rw [← leB_leN p, ← leB_leN q, h, hl]
/-- The sum of bytes behind which their sum stands is always the same. -/
theorem sum_code (q : List UInt8) : sum (q ++ leB (sum q) 4) = stN 32 4294967295 ^^^ 4294967295 := by
  have hl := sum_lt q
  rw [sum_join, leB_length, shift_steps _ _ hl]
  generalize sum q = s at *
  have e : sum (leB s 4) = stN 32 (4294967295 ^^^ s) ^^^ 4294967295 := by
    unfold sum more
    rw [mr_val, leB_length, val_leN, leN_leB _ _ (by simpa using hl), Nat.zero_xor]
  rw [e, stN_xor, show 8 * 4 = 32 from rfl, ← Nat.xor_assoc, Nat.xor_comm (stN 32 4294967295) (stN 32 s), ← Nat.xor_assoc, Nat.xor_self, Nat.zero_xor]
theorem dec_err (c : List UInt8) : (decF c).err ≠ 0 → (decF c).k = 0 ∧ (decF c).body = [] := by
  unfold decF
  split
  · intro _; exact ⟨rfl, rfl⟩
  · unfold splitF
    split
    · intro _; exact ⟨rfl, rfl⟩
    · intro h
      rcases wholeF_rest c (sizeF c) with ⟨_, h2, h3, _⟩ | ⟨h1, _⟩
      · exact ⟨h2, h3⟩
      · exact absurd h1 h
/-- What is decoded without a fault is bytes and their sum. -/
theorem dec_code (c : List UInt8) (h : (decF c).err = 0) : ∃ q, c = q ++ leB (sum q) 4 := by
  unfold decF at h
  split at h
  · simp at h
  · rename_i h1
    unfold splitF at h
    split at h
    · simp at h
    · rename_i h0
      obtain ⟨h7, hle, _⟩ := sizeF_bd c h0
      have hn : sizeF c = c.length := by omega
      unfold wholeF at h
      split at h
      · rename_i hok
        rw [sumOk_iff c _ hle (by omega), hn] at hok
        refine ⟨c.take (c.length - 4), ?_⟩
        have e : (c.drop (c.length - 4)).take 4 = c.drop (c.length - 4) := List.take_of_length_le (by simp; omega)
        rw [← hok, e, List.take_append_drop]
      · simp at h
/-- Bytes of a frame that differ by a burst are no frame. -/
theorem dec_burst (b c : List UInt8) (bits at_ : Nat) (hbits : bits < 4294967296) (hb : (decF b).err = 0) (hl : c.length = b.length) (hv : val c = val b ^^^ burst 32 bits at_ (8 * b.length)) : (decF c).err = 0 ↔ b = c := by
  constructor
  · intro hc
    obtain ⟨p, hp⟩ := dec_code b hb
    obtain ⟨q, hq⟩ := dec_code c hc
    have hs : sum c = sum b := by rw [hp, hq, sum_code, sum_code]
    have h0 := (burst_sum b c bits at_ hbits hl hv).1 hs
    rw [h0, Nat.xor_zero] at hv
    exact (val_inj c b hl hv).symm
  · intro h
    rw [← h]; exact hb
end Go.Proofs.Ytckfghdocaojgaa
