/- The law SumBursts as a walk: it answers true. -/
import Derived.Test.YtfojkbnoagfdhaaSumL2
namespace Go.Proofs.Ytfojkbnoagfdhaa
open Go.RowKit

theorem bit_of (bits k : Nat) : ((bits : Int) / 2 ^ k).tmod 2 = if bits.testBit k = true then 1 else 0 := by
  have e : ((bits : Int) / 2 ^ k) = ((bits / 2 ^ k : Nat) : Int) := by simp
  rw [e, Int.tmod_eq_emod_of_nonneg (Int.natCast_nonneg _), Nat.testBit_eq_decide_div_mod_eq]
  rcases Nat.mod_two_eq_zero_or_one (bits / 2 ^ k) with h | h
  · rw [if_neg (by simp [h])]; omega
  · rw [if_pos (by simp [h])]; omega
theorem xor_mul256 (a b : Nat) : (a ^^^ b) * 256 = a * 256 ^^^ b * 256 := by
  have := Nat.shiftLeft_xor_distrib (a := a) (b := b) (i := 8)
  simpa [Nat.shiftLeft_eq] using this
theorem val_set (cs : List UInt8) : ∀ (i : Nat) (x : UInt8) (h : i < cs.length), val (cs.set i x) = val cs ^^^ ((cs[i].toNat ^^^ x.toNat) * 256 ^ i) := by
  induction cs with
  | nil => intro i x h; simp at h
  | cons c d ih =>
    intro i x h
    rcases i with _ | i
    · simp only [List.set_cons_zero, val, List.getElem_cons_zero, Nat.pow_zero, Nat.mul_one]
      rw [Nat.xor_comm c.toNat (val d * 256), Nat.xor_assoc, ← Nat.xor_assoc c.toNat, Nat.xor_self, Nat.zero_xor, Nat.xor_comm]
    · have hi : i < d.length := by simpa using h
      simp only [List.set_cons_succ, val, List.getElem_cons_succ]
      rw [ih i x hi, xor_mul256, ← Nat.xor_assoc, Nat.pow_succ, Nat.mul_assoc]

theorem flip8 (y r : Nat) (hy : y < 256) (hr : r < 8) : Go.bits .xor .u8 (y : Int) (2 ^ r % 256) = ((UInt8.ofNat (y ^^^ 2 ^ r)).toNat : Int) ∧ y ^^^ (UInt8.ofNat (y ^^^ 2 ^ r)).toNat = 2 ^ r := by
  have hp : 2 ^ r < 256 := (Nat.pow_lt_pow_right (by decide) hr : 2 ^ r < 2 ^ 8)
  have hx : y ^^^ 2 ^ r < 256 := Nat.xor_lt_two_pow (n := 8) hy hp
  have e : ((2 : Int) ^ r % 256) = ((2 ^ r : Nat) : Int) := by
    have e : ((2 : Int) ^ r) = ((2 ^ r : Nat) : Int) := by simp
    rw [e]; generalize 2 ^ r = q at hp ⊢; omega
  have ht : (UInt8.ofNat (y ^^^ 2 ^ r)).toNat = y ^^^ 2 ^ r := by rw [UInt8.toNat_ofNat']; exact Nat.mod_eq_of_lt hx
  refine ⟨by rw [e, u8_xor_nat y _ hy hp, ht], ?_⟩
  rw [ht, ← Nat.xor_assoc, Nat.xor_self, Nat.zero_xor]

set_option maxHeartbeats 1000000 in
theorem sumBursts_walk (A : Option Addr) (cap : Nat) (bs : List UInt8) (at_ bits : Nat) (w : World) (hr : RdB w A bs) (_hl : bs.length ≤ 140737488351232) (ha : at_ < 65536) (hbits : bits < 4294967296) :
    Calls Try.prog 8 #[.slice A bs.length cap, .int .u16 (at_ : Int), .int .u32 (bits : Int)] w fun e w' => e = .returned (.bool true) ∧ Below w.heap.size w w' := by
  have hlen := hr.len
  by_cases h1 : 5000 < bs.length
  · go_enter Try.func8, Try.ntmps8
    go_wp2_with fail
    refine (alive_any w).mono ?_
    rintro e w1 ⟨rfl, hb1⟩
    go_wp2
    go_ret
    exact ⟨rfl, hb1⟩
  by_cases h2 : bits = 0
  · subst h2
    go_enter Try.func8, Try.ntmps8
    go_wp2_with fail
    refine (alive_any w).mono ?_
    rintro e w1 ⟨rfl, hb1⟩
    go_wp2
    go_ret
    exact ⟨rfl, hb1⟩
  have hb0 : ((bits : Int) == 0) = false := by rw [beq_eq_false_iff_ne]; omega
  go_enter Try.func8, Try.ntmps8
  go_wp2_with fail
  refine (alive_any w).mono ?_
  rintro e w1 ⟨rfl, hb1⟩
  have hr1 := hr.below (hb1.alloc hb1.size (.cells #[] 5))
  go_wp2_with (at_builtin; refine wpList_appB w w.heap.size Try.slB rfl (.tmp 20) (.tmp 21) rfl _ [] rfl (own_empty w1 _ _ _ hb1.size) A bs.length cap bs rfl rfl hr1 bs rfl (by omega) (hb1.alloc hb1.size _) (Nat.le_refl _) ?_; intro A2 c2 w2 hown2 hr2 hb2 hg2 hat2; clear hg2 hat2 hr2 hr1 hb1)
  go_loopw [8, 9, 10, 37, 43] (fun t i _ _ _ wr => ∃ (k : Nat) (cs : List UInt8), k ≤ 32 ∧ i = .int .i64 k ∧ cs.length = bs.length ∧ Hid (OwnB wr w.heap.size 5 (.slice A2 bs.length c2) cs) ∧ Below w.heap.size w wr ∧ Hid (val cs = val bs ^^^ burst k bits at_ (8 * bs.length)) ∧ t = .bool (decide (burst k bits at_ (8 * bs.length) ≠ 0))) (fun _ i _ _ _ _ => 32 - (intOf i).toNat)
  case atStart => exact ⟨0, bs, by omega, rfl, rfl, hown2, hb2, by rw [burst_zero, Nat.xor_zero]; rfl, by simp [burst_zero]⟩
  case round =>
    obtain ⟨k, cs, hk, rfl, hcl, hown, hB, hV, rfl⟩ := hrel
    by_cases hlt : k < 32
    · by_cases hbit : bits.testBit k = true
      · have hq := bit_of bits k
        rw [if_pos hbit] at hq
        by_cases hp : at_ + k < 8 * bs.length
        · obtain ⟨g, hA, hbg, hgs, hcell, hfz, hset⟩ := hown.out.blk (by omega)
          have hi8 : (at_ + k) / 8 < cs.length := by omega
          have hc8 := hcell _ hi8
          have hf8 := hfz ((at_ + k) / 8)
          have hs8 := fun x => hset _ x hi8
          have HS := Lib.hid hs8
          have HV := Lib.hid (fun x => val_set cs _ x hi8)
          clear hcell hfz hset hs8
          have HBY : Hid (cs[(at_ + k) / 8].toNat < 256) := cs[(at_ + k) / 8].toNat_lt
          generalize hcy : cs[(at_ + k) / 8].toNat = y at *
          clear hcy
          have HI : Hid (8 * ((at_ + k) / 8) + (at_ + k) % 8 = at_ + k) := by show _ = _; omega
          have hia : ((at_ : Int) + (k : Int)) / 8 = (((at_ + k) / 8 : Nat) : Int) := by omega
          have hra : ((at_ : Int) + (k : Int)) % 8 = (((at_ + k) % 8 : Nat) : Int) := by omega
          have hr8 : (at_ + k) % 8 < 8 := by omega
          generalize (at_ + k) / 8 = i8 at *
          generalize (at_ + k) % 8 = r8 at *
          subst hA
          obtain ⟨hfl, hfx⟩ := flip8 y r8 HBY.out hr8
          have HFL := Lib.hid hfl; clear hfl
          go_wp2
          go_roundw
          case rel =>
            refine ⟨k + 1, cs.set i8 (UInt8.ofNat (y ^^^ 2 ^ r8)), by omega, by go_num, by rw [List.length_set]; exact hcl, ?_, hB.setCell hbg _, ?_, ?_⟩
            · rw [HFL.out]; exact HS.out _
            · show _ = _
              rw [HV.out, hfx, burst_step, if_pos ⟨hbit, by omega⟩, hV.out, Nat.xor_assoc]
              congr 2
              rw [show (256 : Nat) = 2 ^ 8 from rfl, ← Nat.pow_mul, ← Nat.pow_add, ← HI.out, Nat.add_comm]
            · have := burst_new k bits at_ (8 * bs.length) ⟨hbit, by omega⟩
              simp [this]
          case measure => simp [intOf]; omega
        · go_wp2
          go_roundw
          case rel => exact ⟨k + 1, cs, by omega, by go_num, hcl, hown.out, hB, by rw [burst_step, if_neg (fun h => hp h.2)]; exact hV.out, by rw [burst_step, if_neg (fun h => hp h.2)]⟩
          case measure => simp [intOf]; omega
      · have hq := bit_of bits k
        rw [if_neg hbit] at hq
        go_wp2
        go_roundw
        case rel => exact ⟨k + 1, cs, by omega, by go_num, hcl, hown.out, hB, by rw [burst_step, if_neg (fun h => hbit h.1)]; exact hV.out, by rw [burst_step, if_neg (fun h => hbit h.1)]⟩
        case measure => simp [intOf]; omega
    · obtain rfl : k = 32 := by omega
      have hfin := burst_sum bs cs bits at_ hbits hcl hV.out
      have hrc : RdB wr A2 cs := hown.out.rdA
      have hrb := hr.below hB
      by_cases hz : burst 32 bits at_ (8 * bs.length) = 0
      · have he := hfin.2 hz
        have HE := Lib.hid he; clear he hfin
        go_wp2_with fail
        refine (sum_at A2 bs.length c2 cs wr hrc hcl).mono ?_
        rintro e w' ⟨rfl, rfl⟩
        rw [HE.out]
        go_wp2_with fail
        refine (sum_any A cap bs wr hrb).mono ?_
        rintro e w' ⟨rfl, rfl⟩
        go_wp2
        go_ret
        exact ⟨rfl, hB⟩
      · have he : ((sum cs : Int) == (sum bs : Int)) = false := by
          rw [beq_eq_false_iff_ne]
          intro h
          exact hz (hfin.1 (by exact_mod_cast h))
        have he' : ((sum cs : Int) != (sum bs : Int)) = true := by rw [bne, he]; rfl
        clear hfin
        go_wp2_with fail
        refine (sum_at A2 bs.length c2 cs wr hrc hcl).mono ?_
        rintro e w' ⟨rfl, rfl⟩
        go_wp2_with fail
        refine (sum_any A cap bs wr hrb).mono ?_
        rintro e w' ⟨rfl, rfl⟩
        go_wp2
        go_ret
        exact ⟨rfl, hB⟩
end Go.Proofs.Ytfojkbnoagfdhaa
