/- The walk of the reference's Encode. -/
import Derived.Test.YtckfghdocaojgaaFrameW1
namespace Go.Proofs.Ytckfghdocaojgaa
open Go.RowKit
theorem OwnB.new (w : World) (base : Nat) (e : TypeId) (xs : List UInt8) (hb : base ≤ w.heap.size) (hl : xs.length ≤ 9223372036854775807) : OwnB (w.alloc (.cells (bv xs).toArray e (0, 0))) base e (.slice (some ⟨w.heap.size, 0, none⟩) xs.length xs.length) xs :=
  ⟨by simp [bv], .inr ⟨w.heap.size, xs.length, _, rfl, hb, heap_alloc_new w _, Nat.le_refl _, by simp only [maxLen]; omega, by simp [bv], by rw [Nat.mul_one, ← bv_length xs]; simp only [List.take_length]⟩⟩
theorem leB_succ (n k : Nat) : leB n (k + 1) = leB n k ++ [UInt8.ofNat (n / 256 ^ k % 256)] := by
  induction k generalizing n with
  | zero => simp [leB]
  | succ k ih =>
    rw [show leB n (k + 1 + 1) = UInt8.ofNat (n % 256) :: leB (n / 256) (k + 1) from rfl, ih (n / 256)]
    rw [show leB n (k + 1) = UInt8.ofNat (n % 256) :: leB (n / 256) k from rfl]
    simp [Nat.pow_succ, Nat.div_div_eq_div_mul, Nat.mul_comm]
set_option maxHeartbeats 1000000 in
set_option maxRecDepth 20000 in
theorem refEncode_any (kind : Int) (A : Option Addr) (cap : Nat) (body : List UInt8) (w : World) (hk : -9223372036854775808 ≤ kind ∧ kind ≤ 9223372036854775807) (hr : RdB w A body) :
    Calls Try.prog 12 #[.int .i64 kind, .slice A body.length cap] w fun e w' => ∃ A' c', e = .returned (.tuple #[.slice A' (encB kind body).length c', .int .i64 (encErr kind body)]) ∧ OwnB w' w.heap.size 5 (.slice A' (encB kind body).length c') (encB kind body) ∧ Below w.heap.size w w' := by
  have hlen := hr.1
  by_cases h1 : 1 ≤ kind ∧ kind ≤ 255
  · by_cases h2 : body.length ≤ 65535
    · have he : encErr kind body = 0 := by unfold encErr; rw [if_pos h1, if_pos h2]
      have hb : encB kind body = frB kind.toNat body := by unfold encB; rw [if_pos he]
      rw [he, hb]
      obtain ⟨h1, h3⟩ := h1
      obtain ⟨k, rfl⟩ := Int.eq_ofNat_of_zero_le (show 0 ≤ kind by omega)
      rw [show ((k : Int)).toNat = k from rfl]
      obtain ⟨y3, hy3⟩ : ∃ y3, y3 = UInt8.ofNat k :: leB body.length 2 := ⟨_, rfl⟩
      obtain ⟨y6, hy6⟩ : ∃ y6, y6 = hdB k body := ⟨_, rfl⟩
      obtain ⟨y7, hy7⟩ : ∃ y7, y7 = frB k body := ⟨_, rfl⟩
      rw [← hy7]
      have hb3 : #[Value.int .u8 (k : Int), .int .u8 ((body.length : Int) % 256), .int .u8 ((body.length : Int) / 256)] = (bv y3).toArray := by
        have e0 : (k : Int) = ((UInt8.ofNat k).toNat : Int) := by rw [u8lit]; omega
        have e1 : (body.length : Int) % 256 = ((UInt8.ofNat (body.length % 256)).toNat : Int) := by rw [u8lit]; omega
        have e2 : (body.length : Int) / 256 = ((UInt8.ofNat (body.length / 256 % 256)).toNat : Int) := by rw [u8lit]; omega
        rw [e1, e2, hy3]
        conv => lhs; rw [e0]
        rfl
      have hal : Below w.heap.size w (w.alloc (.cells (bv y3).toArray 5 (0, 0))) := (Below.refl _ _).alloc (Nat.le_refl _) _
      have HR1 := Lib.hid (hr.below hal)
      have HAL := Lib.hid hal
      have HL3 := Lib.hid (show y3.length = 3 by rw [hy3]; simp [leB_length])
      have hO1 := OwnB.new w w.heap.size 5 y3 (Nat.le_refl _) (by rw [HL3.out]; omega)
      rw [HL3.out] at hO1
      have HO1 := Lib.hid hO1; clear hO1
      have HY6 := Lib.hid (show y6 = y3 ++ body by rw [hy6, hy3]; rfl)
      have HL6 := Lib.hid (show y6.length = body.length + 3 by rw [hy6, hdB_length])
      have HY7 := Lib.hid (show y7 = y6 ++ leB (sum y6) 4 by rw [hy7, hy6]; rfl)
      have HL7 := Lib.hid (show y7.length = body.length + 7 by rw [hy7, frB_length])
      clear hy3 hy6 hy7 hal hr hk he hb
      go_enter Try.func12, Try.ntmps12
      go_wp2_with (at_builtin; go_loud (refine wpList_appB w w.heap.size Try.slB rfl (.tmp 29) (.tmp 30) rfl _ y3 rfl HO1.out A _ cap body rfl rfl HR1.out y6 HY6.out (by have := HL6.out; omega) HAL.out (Nat.le_refl _) ?_); intro A6 c6 w6 hown6 hr6 hB6 hg6 hat6; clear hg6 hat6; have HR6 := Lib.hid hr6; clear hr6; have HO6 := Lib.hid hown6; clear hown6; have HB6 := Lib.hid hB6; clear hB6)
      refine (refSum_any A6 c6 y6 w6 HR6.out).mono ?_
      rintro e w7 ⟨rfl, rfl⟩
      have hS := sum_lt y6
      obtain ⟨s6, hs6⟩ : ∃ s6, s6 = sum y6 := ⟨_, rfl⟩
      rw [← hs6] at hS ⊢
      have HY7' := Lib.hid (show y7 = y6 ++ leB s6 4 by rw [hs6]; exact HY7.out)
      clear hs6 HY7 HO1 HR1 HAL
      go_wp2
      go_loopw [6, 7, 8, 34, 35, 36, 37, 38, 39, 40, 41, 42, 43, 44, 45] (fun o s i _ _ _ _ _ _ _ _ _ _ _ _ wr => ∃ (k m : Nat) (A : Option Addr) (c : Nat) (ys : List UInt8), k ≤ 4 ∧ i = .int .i64 k ∧ s = .int .u32 (m : Int) ∧ o = .slice A ys.length c ∧ m < 4294967296 ∧ Hid (m = s6 / 256 ^ k) ∧ Hid (ys = y6 ++ leB s6 k) ∧ Hid (OwnB wr w.heap.size 5 (.slice A ys.length c) ys) ∧ Hid (Below w.heap.size w wr)) (fun _ _ i _ _ _ _ _ _ _ _ _ _ _ _ _ => 4 - (intOf i).toNat)
      case atStart => exact ⟨0, s6, A6, c6, y6, by omega, rfl, rfl, rfl, hS, (show s6 = s6 / 256 ^ 0 by simp), (show y6 = y6 ++ leB s6 0 by simp [leB]), HO6.out, HB6.out⟩
      case round =>
        obtain ⟨k, m, A5, c5, ys, hk, rfl, rfl, rfl, hm, HM, HYS, HO, HB⟩ := hrel
        by_cases hlt : k < 4
        · have HV := Lib.hid (show (m : Int) % 256 = ((UInt8.ofNat (m % 256)).toNat : Int) by rw [u8lit]; omega)
          have hyl : ys.length ≤ 65543 := by rw [HYS.out, List.length_append, leB_length, HL6.out]; omega
          have HYN := Lib.hid (show ys ++ [UInt8.ofNat (m % 256)] = y6 ++ leB s6 (k + 1) by rw [HYS.out, leB_succ, HM.out]; simp)
          have HMN := Lib.hid (show m / 256 = s6 / 256 ^ (k + 1) by rw [HM.out, Nat.pow_succ, Nat.div_div_eq_div_mul])
          obtain ⟨yn, hyn⟩ : ∃ yn, yn = ys ++ [UInt8.ofNat (m % 256)] := ⟨_, rfl⟩
          have hynl : yn.length = ys.length + 1 := by rw [hyn]; simp
          have HYQ := Lib.hid hyn; clear hyn
          have HYL := Lib.hid hynl; clear hynl
          go_wp2_with (at_builtin; go_loud (refine wpList_appB w w.heap.size Try.slB rfl (.tmp 38) (.tmp 42) rfl _ ys rfl (HO.out.alloc _) (some ⟨wr.heap.size, 0, none⟩) 1 1 [UInt8.ofNat (m % 256)] rfl rfl (RdB.one wr _ _ _ HV.out) yn HYQ.out (by have := HYL.out; omega) (HB.out.alloc HB.out.size _) (Nat.le_refl _) ?_); intro A8 c8 w8 hown8 hr8 hB8 hg8 hat8; clear hg8 hat8 hr8; have HO8 := Lib.hid hown8; clear hown8; have HB8 := Lib.hid hB8; clear hB8)
          go_roundw
          case rel => exact ⟨k + 1, m / 256, A8, c8, yn, by omega, by go_num, by go_num, by first | rfl | rw [HYL.out], by omega, HMN.out, HYQ.out.trans HYN.out, HO8.out, HB8.out⟩
          case measure => simp [intOf]; omega
        · obtain rfl : k = 4 := by omega
          have HE := Lib.hid (show ys = y7 from HYS.out.trans HY7'.out.symm)
          go_wp2
          go_ret2
          rw [← HE.out]
          exact ⟨_, _, rfl, HO.out, HB.out⟩
    · have he : encErr kind body = 6 := by unfold encErr; rw [if_pos h1, if_neg h2]
      have hb : encB kind body = [] := by unfold encB; rw [if_neg (by omega)]
      rw [he, hb]
      obtain ⟨h1, h3⟩ := h1
      go_enter Try.func12, Try.ntmps12
      go_wp2
      go_ret2
      exact ⟨none, 0, rfl, own_nil _ _ _ _, Below.refl _ _⟩
  · have he : encErr kind body = 11 := by unfold encErr; rw [if_neg h1]
    have hb : encB kind body = [] := by unfold encB; rw [if_neg (by omega)]
    rw [he, hb]
    have hc : kind < 1 ∨ (1 ≤ kind ∧ 255 < kind) := by omega
    clear h1 he hb
    rcases hc with h1 | ⟨h1, h2⟩
    all_goals (
      go_enter Try.func12, Try.ntmps12
      go_wp2
      go_ret2
      exact ⟨none, 0, rfl, own_nil _ _ _ _, Below.refl _ _⟩)
end Go.Proofs.Ytckfghdocaojgaa
