/- num.Put and num.Get: fixed widths, the lowest byte first. -/
import Derived.Test.YtjfbopnohijhkaaSame
namespace Go.Proofs.Ytjfbopnohijhkaa
open Go.RowKit
/-- A number's lowest k bytes, the lowest first; and back. -/
def leB (n : Nat) : Nat → List UInt8
  | 0 => []
  | k + 1 => UInt8.ofNat (n % 256) :: leB (n / 256) k
def leN : List UInt8 → Nat
  | [] => 0
  | b :: bs => b.toNat + 256 * leN bs
def getN (bs : List UInt8) : Nat := leN (bs.take 8)
theorem leB_length (n k : Nat) : (leB n k).length = k := by
  induction k generalizing n with
  | zero => rfl
  | succ k ih => simp [leB, ih]
theorem leN_lt (bs : List UInt8) : leN bs < 256 ^ bs.length := by
  induction bs with
  | nil => simp [leN]
  | cons b bs ih =>
    have hb := b.toNat_lt
    simp only [leN, List.length_cons, Nat.pow_succ]
    omega
theorem leN_append (xs ys : List UInt8) : leN (xs ++ ys) = leN xs + 256 ^ xs.length * leN ys := by
  induction xs with
  | nil => simp [leN]
  | cons b bs ih =>
    simp only [List.cons_append, leN, List.length_cons, ih, Nat.pow_succ]
    rw [Nat.mul_add, ← Nat.mul_assoc, Nat.mul_comm (256 ^ bs.length) 256]
    omega
theorem leN_leB (n k : Nat) (h : n < 256 ^ k) : leN (leB n k) = n := by
  induction k generalizing n with
  | zero => simp at h; subst h; rfl
  | succ k ih =>
    rw [Nat.pow_succ] at h
    simp only [leB, leN]
    rw [ih (n / 256) (by omega)]
    have : (UInt8.ofNat (n % 256)).toNat = n % 256 := by simp
    omega
theorem pow_le_56 (k : Nat) (h : k ≤ 7) : 256 ^ k ≤ 72057594037927936 := by
  have : 256 ^ k ≤ 256 ^ 7 := Nat.pow_le_pow_right (by decide) h
  simpa using this
theorem getStep (bs : List UInt8) (k : Nat) (hk : k < bs.length) (h7 : k ≤ 7) :
    Go.bits .or .u64 ((leN (bs.take k) : Nat) : Int) (IntKind.u64.wrap (IntKind.u64.wrap (bs[k].toNat : Int) * 2 ^ (8 * k))) = ((leN (bs.take (k + 1)) : Nat) : Int) := by
  have hx := bs[k].toNat_lt
  have hp := pow_le_56 k h7
  have hl := leN_lt (bs.take k)
  have hlk : (bs.take k).length = k := by simp; omega
  rw [hlk] at hl
  have e1 : IntKind.u64.wrap (bs[k].toNat : Int) = (bs[k].toNat : Int) := wrap_u64_nat _ (by omega)
  have e2 : (2 : Int) ^ (8 * k) = ((256 ^ k : Nat) : Int) := by rw [Int.pow_mul]; norm_cast
  have hm : bs[k].toNat * 256 ^ k < 18446744073709551616 := by
    have : bs[k].toNat * 256 ^ k ≤ 255 * 256 ^ k := Nat.mul_le_mul_right _ (by omega)
    omega
  rw [e1, e2, ← Int.natCast_mul, wrap_u64_nat _ hm]
  rw [u64_or_nat _ _ (by omega) hm]
  congr 1
  rw [List.take_succ_eq_append_getElem hk, leN_append, hlk]
  simp only [leN, Nat.mul_zero, Nat.add_zero]
  rw [Nat.mul_comm (bs[k].toNat), Nat.or_comm, show (256 : Nat) ^ k = 2 ^ (8 * k) by rw [Nat.pow_mul]]
  rw [← Nat.two_pow_add_eq_or_of_lt (by rw [Nat.pow_mul]; exact hl)]
  omega
set_option maxHeartbeats 1000000 in
set_option maxRecDepth 20000 in
theorem get_any (A : Option Addr) (c : Nat) (bs : List UInt8) (w : World) (hr : RdB w A bs) :
    Calls Try.prog 43 #[.slice A bs.length c] w fun e w' => e = .returned (.int .u64 (getN bs : Nat)) ∧ w = w' := by
  have hlen := hr.1
  go_enter Try.func43, Try.ntmps43
  go_wp2
  go_loopw [3, 4, 5, 6, 7, 8, 9, 10, 11, 12, 13, 14, 15, 16, 17, 18, 19, 20, 21, 22, 23, 24] (fun n i _ _ _ _ _ _ _ _ _ _ _ _ _ _ _ _ _ _ _ _ wr => ∃ k m : Nat, k ≤ 8 ∧ k ≤ bs.length ∧ i = .int .i64 k ∧ n = .int .u64 (m : Int) ∧ Hid (m = leN (bs.take k)) ∧ wr = w) (fun n i _ _ _ _ _ _ _ _ _ _ _ _ _ _ _ _ _ _ _ _ _ => 8 - (intOf i).toNat)
  case atStart => exact ⟨0, 0, by omega, by omega, rfl, rfl, (show (0 : Nat) = leN (bs.take 0) by simp [leN]), rfl⟩
  case round =>
    obtain ⟨k, m, hk, hkl, rfl, rfl, HM, rfl⟩ := hrel
    by_cases hlt : k < bs.length
    · by_cases h8 : k < 8
      · obtain ⟨b, off, rfl, hc⟩ := hr.at (by omega)
        have hck := hc k hlt
        clear hc
        have HV := Lib.hid (getStep bs k hlt (by omega))
        generalize hx : bs[k] = x at hck HV
        have hs : IntKind.u64.wrap (IntKind.u64.wrap (x.toNat : Int) * 2 ^ (8 * k)) = IntKind.u64.wrap (IntKind.u64.wrap (x.toNat : Int) * 2 ^ (8 * k)) := rfl
        clear hs
        go_wp2
        go_roundw
        case rel =>
          refine ⟨k + 1, leN (bs.take (k + 1)), by omega, by omega, by go_num, ?_, rfl, trivial⟩
          rw [HM.out]
          exact val_int HV.out
        case measure => simp [intOf]; omega
      · obtain rfl : k = 8 := by omega
        have HE := Lib.hid (show m = getN bs from HM.out)
        go_wp2
        go_ret
        exact ⟨ret_int (by rw [HE.out]), rfl⟩
    · have HE := Lib.hid (show m = getN bs by rw [HM.out]; unfold getN; rw [List.take_of_length_le (by omega), List.take_of_length_le (by omega)])
      go_wp2
      go_ret
      exact ⟨ret_int (by rw [HE.out]), rfl⟩
theorem get_n' (A : Option Addr) (c n : Nat) (bs : List UInt8) (w : World) (hr : RdB w A bs) (hn : n = bs.length) :
    Calls Try.prog 43 #[.slice A n c] w fun e w' => e = .returned (.int .u64 (getN bs : Nat)) ∧ w = w' := by subst hn; exact get_any A c bs w hr
theorem clamp_any (k : Nat) (hk : k ≤ 8) (w : World) : Calls Try.prog 46 #[.int .i64 (k : Int)] w fun e w' => e = .returned (.int .i64 (k : Int)) ∧ w = w' := by
  have h1 : min (k : Int) 8 = k := by omega
  have h2 : max 0 (k : Int) = k := by omega
  go_enter Try.func46, Try.ntmps46
  go_wp2
  · go_ret
    exact ⟨rfl, rfl⟩
  · go_ret
    exact ⟨ret_int (by omega), rfl⟩
theorem u8lit (n : Nat) : ((UInt8.ofNat n).toNat : Int) = (n : Int) % 256 := by rw [UInt8.toNat_ofNat']; omega
set_option maxHeartbeats 1000000 in
set_option maxHeartbeats 1000000 in
theorem put2_any (n : Nat) (w : World) (hn : n < 18446744073709551616) :
    Calls Try.prog 44 #[.int .u64 (n : Int), .int .i64 2] w fun e w' => ∃ A c, e = .returned (.slice A 2 c) ∧ RdB w' A (leB n 2) ∧ Below w.heap.size w w' := by
  have h0 : (n : Int) % 256 = ((UInt8.ofNat ((n) % 256)).toNat : Int) := by rw [u8lit]; omega
  have h1 : (n : Int) / 256 % 256 = ((UInt8.ofNat ((n / 256) % 256)).toNat : Int) := by rw [u8lit]; omega
  have hb8 : #[Value.int .u8 ((n : Int) % 256), .int .u8 ((n : Int) / 256 % 256), .int .u8 0, .int .u8 0, .int .u8 0, .int .u8 0, .int .u8 0, .int .u8 0] = (bv (leB n 2 ++ [0, 0, 0, 0, 0, 0])).toArray := by
    rw [h0, h1]; rfl
  clear h0 h1
  have HN := Lib.hid hn; clear hn
  have hmk : ∀ W : World, (Instr.makeSlice 33 (.int .i64 2) (.int .i64 2)).run Try.prog W = .ok (.slice (some ⟨W.heap.size, 0, none⟩) 2 2) (W.alloc (.cells (bv (List.replicate 2 0)).toArray 5)) := fun W => Try.mkB 2 (by decide) W
  obtain ⟨zs, hzs⟩ : ∃ zs : List UInt8, zs = List.replicate 2 0 := ⟨_, rfl⟩
  obtain ⟨w1, hw1⟩ : ∃ w1, w1 = w.alloc (.cells (bv (leB n 2 ++ [0, 0, 0, 0, 0, 0])).toArray 81 (0, 0)) := ⟨_, rfl⟩
  have hs1 : w1.heap.size = w.heap.size + 1 := by rw [hw1]; simp [go_sem]
  have hr1 : RdB (w1.alloc (.cells (bv (List.replicate 2 0)).toArray 5)) (some ⟨w.heap.size, 0, none⟩) (leB n 2 ++ [0, 0, 0, 0, 0, 0]) := by
    rw [hw1]
    exact (RdB.new w _ _ _ _ rfl (by simp [leB_length])).below ((Below.refl _ _).alloc (Nat.le_refl _) _)
  obtain ⟨w3, hcp, hg3, hgr⟩ := run_copyNew (P := Try.prog) (w1.alloc (.cells (bv (List.replicate 2 0)).toArray 5)) 33 33 3 5 Try.underlying33 rfl w1.heap.size 5 2 2 (some ⟨w.heap.size, 0, none⟩) 8 8 (leB n 2 ++ [0, 0, 0, 0, 0, 0]) (heap_alloc_new w1 _) (by simp [leB_length]) hr1 (by simp [leB_length])
  have htk : (leB n 2 ++ [0, 0, 0, 0, 0, 0]).take 2 = leB n 2 := List.take_left' (leB_length n 2)
  rw [htk] at hg3
  clear htk
  have HRD := Lib.hid (show RdB w3 (some ⟨w1.heap.size, 0, none⟩) (leB n 2) from ⟨by simp [leB_length], fun _ => ⟨_, _, rfl, fun j v hj => by rw [cell_of_row _ _ _ _ _ _ hg3, Nat.zero_add]; simpa using hj⟩⟩)
  have HB := Lib.hid (show Below w.heap.size w w3 from ((Below.refl w.heap.size w).alloc (Nat.le_refl _) _ |> fun h => (hw1 ▸ h : Below w.heap.size w w1)).alloc (by omega) _ |>.grown hgr (by simp [go_sem]; omega) (fun k hk => by cases hk; omega))
  clear hg3 hgr hr1
  rw [hs1] at hcp HRD
  rw [hw1] at hcp
  simp only [← hzs] at hcp hmk
  clear hs1 hw1 hzs
  go_enter Try.func44, Try.ntmps44
  go_wp2_with fail
  refine (clamp_any 2 (by decide) _).mono ?_
  rintro e w1 ⟨rfl, rfl⟩
  go_wp2
  go_ret
  exact ⟨_, _, rfl, HRD.out, HB.out⟩
set_option maxHeartbeats 1000000 in
theorem put4_any (n : Nat) (w : World) (hn : n < 18446744073709551616) :
    Calls Try.prog 44 #[.int .u64 (n : Int), .int .i64 4] w fun e w' => ∃ A c, e = .returned (.slice A 4 c) ∧ RdB w' A (leB n 4) ∧ Below w.heap.size w w' := by
  have h0 : (n : Int) % 256 = ((UInt8.ofNat ((n) % 256)).toNat : Int) := by rw [u8lit]; omega
  have h1 : (n : Int) / 256 % 256 = ((UInt8.ofNat ((n / 256) % 256)).toNat : Int) := by rw [u8lit]; omega
  have h2 : (n : Int) / 65536 % 256 = ((UInt8.ofNat ((n / 256 / 256) % 256)).toNat : Int) := by rw [u8lit]; omega
  have h3 : (n : Int) / 16777216 % 256 = ((UInt8.ofNat ((n / 256 / 256 / 256) % 256)).toNat : Int) := by rw [u8lit]; omega
  have hb8 : #[Value.int .u8 ((n : Int) % 256), .int .u8 ((n : Int) / 256 % 256), .int .u8 ((n : Int) / 65536 % 256), .int .u8 ((n : Int) / 16777216 % 256), .int .u8 0, .int .u8 0, .int .u8 0, .int .u8 0] = (bv (leB n 4 ++ [0, 0, 0, 0])).toArray := by
    rw [h0, h1, h2, h3]; rfl
  clear h0 h1 h2 h3
  have HN := Lib.hid hn; clear hn
  have hmk : ∀ W : World, (Instr.makeSlice 33 (.int .i64 4) (.int .i64 4)).run Try.prog W = .ok (.slice (some ⟨W.heap.size, 0, none⟩) 4 4) (W.alloc (.cells (bv (List.replicate 4 0)).toArray 5)) := fun W => Try.mkB 4 (by decide) W
  obtain ⟨zs, hzs⟩ : ∃ zs : List UInt8, zs = List.replicate 4 0 := ⟨_, rfl⟩
  obtain ⟨w1, hw1⟩ : ∃ w1, w1 = w.alloc (.cells (bv (leB n 4 ++ [0, 0, 0, 0])).toArray 81 (0, 0)) := ⟨_, rfl⟩
  have hs1 : w1.heap.size = w.heap.size + 1 := by rw [hw1]; simp [go_sem]
  have hr1 : RdB (w1.alloc (.cells (bv (List.replicate 4 0)).toArray 5)) (some ⟨w.heap.size, 0, none⟩) (leB n 4 ++ [0, 0, 0, 0]) := by
    rw [hw1]
    exact (RdB.new w _ _ _ _ rfl (by simp [leB_length])).below ((Below.refl _ _).alloc (Nat.le_refl _) _)
  obtain ⟨w3, hcp, hg3, hgr⟩ := run_copyNew (P := Try.prog) (w1.alloc (.cells (bv (List.replicate 4 0)).toArray 5)) 33 33 3 5 Try.underlying33 rfl w1.heap.size 5 4 4 (some ⟨w.heap.size, 0, none⟩) 8 8 (leB n 4 ++ [0, 0, 0, 0]) (heap_alloc_new w1 _) (by simp [leB_length]) hr1 (by simp [leB_length])
  have htk : (leB n 4 ++ [0, 0, 0, 0]).take 4 = leB n 4 := List.take_left' (leB_length n 4)
  rw [htk] at hg3
  clear htk
  have HRD := Lib.hid (show RdB w3 (some ⟨w1.heap.size, 0, none⟩) (leB n 4) from ⟨by simp [leB_length], fun _ => ⟨_, _, rfl, fun j v hj => by rw [cell_of_row _ _ _ _ _ _ hg3, Nat.zero_add]; simpa using hj⟩⟩)
  have HB := Lib.hid (show Below w.heap.size w w3 from ((Below.refl w.heap.size w).alloc (Nat.le_refl _) _ |> fun h => (hw1 ▸ h : Below w.heap.size w w1)).alloc (by omega) _ |>.grown hgr (by simp [go_sem]; omega) (fun k hk => by cases hk; omega))
  clear hg3 hgr hr1
  rw [hs1] at hcp HRD
  rw [hw1] at hcp
  simp only [← hzs] at hcp hmk
  clear hs1 hw1 hzs
  go_enter Try.func44, Try.ntmps44
  go_wp2_with fail
  refine (clamp_any 4 (by decide) _).mono ?_
  rintro e w1 ⟨rfl, rfl⟩
  go_wp2
  go_ret
  exact ⟨_, _, rfl, HRD.out, HB.out⟩
set_option maxHeartbeats 1000000 in
theorem put8_any (n : Nat) (w : World) (hn : n < 18446744073709551616) :
    Calls Try.prog 44 #[.int .u64 (n : Int), .int .i64 8] w fun e w' => ∃ A c, e = .returned (.slice A 8 c) ∧ RdB w' A (leB n 8) ∧ Below w.heap.size w w' := by
  have h0 : (n : Int) % 256 = ((UInt8.ofNat ((n) % 256)).toNat : Int) := by rw [u8lit]; omega
  have h1 : (n : Int) / 256 % 256 = ((UInt8.ofNat ((n / 256) % 256)).toNat : Int) := by rw [u8lit]; omega
  have h2 : (n : Int) / 65536 % 256 = ((UInt8.ofNat ((n / 256 / 256) % 256)).toNat : Int) := by rw [u8lit]; omega
  have h3 : (n : Int) / 16777216 % 256 = ((UInt8.ofNat ((n / 256 / 256 / 256) % 256)).toNat : Int) := by rw [u8lit]; omega
  have h4 : (n : Int) / 4294967296 % 256 = ((UInt8.ofNat ((n / 256 / 256 / 256 / 256) % 256)).toNat : Int) := by rw [u8lit]; omega
  have h5 : (n : Int) / 1099511627776 % 256 = ((UInt8.ofNat ((n / 256 / 256 / 256 / 256 / 256) % 256)).toNat : Int) := by rw [u8lit]; omega
  have h6 : (n : Int) / 281474976710656 % 256 = ((UInt8.ofNat ((n / 256 / 256 / 256 / 256 / 256 / 256) % 256)).toNat : Int) := by rw [u8lit]; omega
  have h7 : (n : Int) / 72057594037927936 % 256 = ((UInt8.ofNat ((n / 256 / 256 / 256 / 256 / 256 / 256 / 256) % 256)).toNat : Int) := by rw [u8lit]; omega
  have hb8 : #[Value.int .u8 ((n : Int) % 256), .int .u8 ((n : Int) / 256 % 256), .int .u8 ((n : Int) / 65536 % 256), .int .u8 ((n : Int) / 16777216 % 256), .int .u8 ((n : Int) / 4294967296 % 256), .int .u8 ((n : Int) / 1099511627776 % 256), .int .u8 ((n : Int) / 281474976710656 % 256), .int .u8 ((n : Int) / 72057594037927936 % 256)] = (bv (leB n 8)).toArray := by
    rw [h0, h1, h2, h3, h4, h5, h6, h7]; rfl
  clear h0 h1 h2 h3 h4 h5 h6 h7
  have HN := Lib.hid hn; clear hn
  have hmk : ∀ W : World, (Instr.makeSlice 33 (.int .i64 8) (.int .i64 8)).run Try.prog W = .ok (.slice (some ⟨W.heap.size, 0, none⟩) 8 8) (W.alloc (.cells (bv (List.replicate 8 0)).toArray 5)) := fun W => Try.mkB 8 (by decide) W
  obtain ⟨zs, hzs⟩ : ∃ zs : List UInt8, zs = List.replicate 8 0 := ⟨_, rfl⟩
  obtain ⟨w1, hw1⟩ : ∃ w1, w1 = w.alloc (.cells (bv (leB n 8)).toArray 81 (0, 0)) := ⟨_, rfl⟩
  have hs1 : w1.heap.size = w.heap.size + 1 := by rw [hw1]; simp [go_sem]
  have hr1 : RdB (w1.alloc (.cells (bv (List.replicate 8 0)).toArray 5)) (some ⟨w.heap.size, 0, none⟩) (leB n 8) := by
    rw [hw1]
    exact (RdB.new w _ _ _ _ rfl (by simp [leB_length])).below ((Below.refl _ _).alloc (Nat.le_refl _) _)
  obtain ⟨w3, hcp, hg3, hgr⟩ := run_copyNew (P := Try.prog) (w1.alloc (.cells (bv (List.replicate 8 0)).toArray 5)) 33 33 3 5 Try.underlying33 rfl w1.heap.size 5 8 8 (some ⟨w.heap.size, 0, none⟩) 8 8 (leB n 8) (heap_alloc_new w1 _) (by simp [leB_length]) hr1 (by simp [leB_length])
  have htk : (leB n 8).take 8 = leB n 8 := List.take_of_length_le (by simp [leB_length])
  rw [htk] at hg3
  clear htk
  have HRD := Lib.hid (show RdB w3 (some ⟨w1.heap.size, 0, none⟩) (leB n 8) from ⟨by simp [leB_length], fun _ => ⟨_, _, rfl, fun j v hj => by rw [cell_of_row _ _ _ _ _ _ hg3, Nat.zero_add]; simpa using hj⟩⟩)
  have HB := Lib.hid (show Below w.heap.size w w3 from ((Below.refl w.heap.size w).alloc (Nat.le_refl _) _ |> fun h => (hw1 ▸ h : Below w.heap.size w w1)).alloc (by omega) _ |>.grown hgr (by simp [go_sem]; omega) (fun k hk => by cases hk; omega))
  clear hg3 hgr hr1
  rw [hs1] at hcp HRD
  rw [hw1] at hcp
  simp only [← hzs] at hcp hmk
  clear hs1 hw1 hzs
  go_enter Try.func44, Try.ntmps44
  go_wp2_with fail
  refine (clamp_any 8 (by decide) _).mono ?_
  rintro e w1 ⟨rfl, rfl⟩
  go_wp2
  go_ret
  exact ⟨_, _, rfl, HRD.out, HB.out⟩
end Go.Proofs.Ytjfbopnohijhkaa
