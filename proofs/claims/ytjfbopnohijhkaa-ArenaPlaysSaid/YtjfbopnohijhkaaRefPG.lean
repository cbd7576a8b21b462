/- The reference's Get and Put of eight bytes. -/
import Derived.Test.YtjfbopnohijhkaaNumPG
namespace Go.Proofs.Ytjfbopnohijhkaa
open Go.RowKit
set_option linter.unusedVariables false
theorem leN_bd (bs : List UInt8) (h : bs.length ≤ 7) : leN bs < 72057594037927936 := by
  have h1 := leN_lt bs
  have h2 := pow_le_56 bs.length h
  omega
set_option maxHeartbeats 1000000 in
set_option maxRecDepth 20000 in
theorem refGet_any (A : Option Addr) (c n : Nat) (bs : List UInt8) (w : World) (hr : RdB w A bs) (hn : n = bs.length) :
    Calls Try.prog 39 #[.slice A n c] w fun e w' => e = .returned (.int .u64 (getN bs : Nat)) ∧ w = w' := by
  subst hn
  have hlen := hr.1
  obtain ⟨K, hK, hK8⟩ : ∃ K : Nat, ((8 < bs.length ∧ K = 8) ∨ (bs.length ≤ 8 ∧ K = bs.length)) ∧ K ≤ 8 ∧ K ≤ bs.length := by
    by_cases h : 8 < bs.length
    · exact ⟨8, .inl ⟨h, rfl⟩, by omega⟩
    · exact ⟨bs.length, .inr ⟨by omega, rfl⟩, by omega⟩
  have HT := Lib.hid (show bs.take 8 = bs.take K by
    rcases hK with ⟨_, rfl⟩ | ⟨h, rfl⟩
    · rfl
    · rw [List.take_of_length_le (by omega), List.take_of_length_le (by omega)])
  have HKL := Lib.hid (show (bs.take K).length = K by simp; omega)
  have HK := Lib.hid hK
  rcases hK with ⟨hq, hKe⟩ | ⟨hq, hKe⟩
  all_goals (
    have HKE := Lib.hid hKe; clear hKe
    go_enter Try.func39, Try.ntmps39
    go_wp2
    go_loopw [3, 4, 9, 10, 11, 12, 13, 14, 15, 16, 17, 18, 19, 20] (fun v i _ _ _ _ _ _ _ _ _ _ _ _ wr => ∃ k m : Nat, k ≤ K ∧ i = .int .i64 ((k : Int) - 1) ∧ v = .int .u64 (m : Int) ∧ Hid (m = leN ((bs.take K).drop k)) ∧ wr = w) (fun _ i _ _ _ _ _ _ _ _ _ _ _ _ _ => (intOf i + 1).toNat)
    case atStart => exact ⟨K, 0, by omega, by first | (rw [HKE.out]; done) | (rw [HKE.out]; rfl) | go_num, rfl, (show 0 = leN ((bs.take K).drop K) by rw [List.drop_of_length_le (by rw [HKL.out]; omega)]; rfl), rfl⟩
    case round =>
      obtain ⟨k, m, hk, rfl, rfl, HM, rfl⟩ := hrel
      by_cases hlt : 1 ≤ k
      · obtain ⟨j, rfl⟩ : ∃ j, k = j + 1 := ⟨k - 1, by omega⟩
        obtain ⟨b, off, rfl, hc⟩ := hr.at (by omega)
        have hck := hc j (by omega)
        clear hc
        have hstep : leN ((bs.take K).drop j) = bs[j].toNat + 256 * m := by
          rw [List.drop_eq_getElem_cons (by rw [HKL.out]; omega)]
          simp only [leN, List.getElem_take]
          rw [HM.out]
        have hm : m < 72057594037927936 := by rw [HM.out]; exact leN_bd _ (by rw [List.length_drop, HKL.out]; omega)
        have hx := bs[j].toNat_lt
        generalize bs[j] = x at hck hstep hx
        have hj1 : ((j + 1 : Nat) : Int) - 1 = (j : Int) := by omega
        rw [hj1]
        have HST := Lib.hid hstep; clear hstep
        go_wp2
        go_roundw
        case rel => exact ⟨j, x.toNat + 256 * m, by omega, by go_num, by go_num, HST.out.symm, trivial⟩
        case measure => simp [intOf]
      · obtain rfl : k = 0 := by omega
        have HE := Lib.hid (show m = getN bs by rw [HM.out]; unfold getN; rw [HT.out]; rfl)
        go_wp2
        go_ret
        exact ⟨ret_int (by rw [HE.out]), rfl⟩)
theorem leB_succ' (n k : Nat) : leB n (k + 1) = leB n k ++ [UInt8.ofNat (n / 256 ^ k % 256)] := by
  induction k generalizing n with
  | zero => simp [leB]
  | succ k ih =>
    rw [show leB n (k + 1 + 1) = UInt8.ofNat (n % 256) :: leB (n / 256) (k + 1) from rfl, ih (n / 256)]
    rw [show leB n (k + 1) = UInt8.ofNat (n % 256) :: leB (n / 256) k from rfl]
    simp [Nat.pow_succ, Nat.div_div_eq_div_mul, Nat.mul_comm]
theorem width8 (w : World) : Calls Try.prog 45 #[.int .i64 8] w fun e w' => e = .returned (.int .i64 8) ∧ w = w' := by
  go_enter Try.func45, Try.ntmps45
  go_wp2
  go_ret
  exact ⟨rfl, rfl⟩
set_option maxHeartbeats 1000000 in
set_option maxRecDepth 20000 in
theorem refPut8_any (n : Nat) (w : World) (hn : n < 18446744073709551616) :
    Calls Try.prog 40 #[.int .u64 (n : Int), .int .i64 8] w fun e w' => ∃ A c, e = .returned (.slice A 8 c) ∧ OwnB w' w.heap.size 5 (.slice A 8 c) (leB n 8) ∧ Below w.heap.size w w' := by
  have HN := Lib.hid hn; clear hn
  go_enter Try.func40, Try.ntmps40
  go_wp2
  go_loopw [0, 5, 6, 7, 8, 9, 10, 11, 12, 13, 14, 15, 16, 17, 18] (fun v o _ _ _ _ _ _ _ _ _ _ _ _ _ wr => ∃ (k m : Nat) (A : Option Addr) (c : Nat) (ys : List UInt8), k ≤ 8 ∧ v = .int .u64 (m : Int) ∧ o = .slice A ys.length c ∧ Hid (m < 18446744073709551616 ∧ m = n / 256 ^ k) ∧ Hid (ys = leB n k) ∧ Hid (ys.length = k) ∧ Hid (OwnB wr w.heap.size 5 (.slice A ys.length c) ys) ∧ Hid (Below w.heap.size w wr)) (fun _ o _ _ _ _ _ _ _ _ _ _ _ _ _ _ => 8 - (match o with | .slice _ l _ => l | _ => 0))
  case atStart => exact ⟨0, n, none, 0, [], by omega, rfl, rfl, (show n < 18446744073709551616 ∧ n = n / 256 ^ 0 from ⟨HN.out, by simp⟩), (show [] = leB n 0 from rfl), (show ([] : List UInt8).length = 0 from rfl), own_nil _ _ _ _, Below.refl _ _⟩
  case round =>
    obtain ⟨k, m, A5, c5, ys, hk, rfl, rfl, HM, HYS, hyl, HO, HB⟩ := hrel
    go_wp2_with fail
    refine (width8 wr).mono ?_
    rintro e w1 ⟨rfl, rfl⟩
    by_cases hlt : k < 8
    · have HV := Lib.hid (show (m : Int) % 256 = ((UInt8.ofNat (m % 256)).toNat : Int) by rw [u8lit]; omega)
      have HYN := Lib.hid (show ys ++ [UInt8.ofNat (m % 256)] = leB n (k + 1) by rw [HYS.out, leB_succ', HM.out.2])
      have HMN := Lib.hid (show m / 256 < 18446744073709551616 ∧ m / 256 = n / 256 ^ (k + 1) from ⟨by have := HM.out.1; omega, by rw [HM.out.2, Nat.pow_succ, Nat.div_div_eq_div_mul]⟩)
      obtain ⟨yn, hyn⟩ : ∃ yn, yn = ys ++ [UInt8.ofNat (m % 256)] := ⟨_, rfl⟩
      have hynl : yn.length = ys.length + 1 := by rw [hyn]; simp
      have hmw : IntKind.u64.wrap ((m : Int) / 256) = ((m / 256 : Nat) : Int) := wrap_u64_nat (m / 256) (by have := HM.out.1; omega)
      have HYQ := Lib.hid hyn; clear hyn
      have HYL := Lib.hid hynl; clear hynl
      have hyl8 : (ys.length : Int) < 8 := by have := hyl.out; omega
      go_wp2_with (at_builtin; go_loud (refine wpList_appB w w.heap.size Try.slB rfl (.tmp 11) (.tmp 15) rfl _ ys rfl (HO.out.alloc _) (some ⟨wr.heap.size, 0, none⟩) 1 1 [UInt8.ofNat (m % 256)] rfl rfl (RdB.one wr _ _ _ HV.out) yn HYQ.out (by have := HYL.out; have := hyl.out; omega) (HB.out.alloc HB.out.size _) (Nat.le_refl _) ?_); intro A8 c8 w8 hown8 hr8 hB8 hg8 hat8; clear hg8 hat8 hr8; have HO8 := Lib.hid hown8; clear hown8; have HB8 := Lib.hid hB8; clear hB8)
      go_roundw
      case rel => exact ⟨k + 1, m / 256, A8, c8, yn, by omega, by go_num, by first | rfl | rw [HYL.out], HMN.out, HYQ.out.trans HYN.out, (show yn.length = k + 1 by rw [HYL.out, hyl.out]), HO8.out, HB8.out⟩
      case measure => have := HYL.out; simp; omega
    · have h8 : ys.length = 8 := by have := hyl.out; omega
      have HF := Lib.hid (show ys = leB n 8 by rw [HYS.out]; congr 1; omega)
      go_wp2
      go_ret
      refine ⟨_, _, rfl, ?_, HB.out⟩
      rw [← HF.out]
      have := HO.out
      rwa [h8] at this
end Go.Proofs.Ytjfbopnohijhkaa
