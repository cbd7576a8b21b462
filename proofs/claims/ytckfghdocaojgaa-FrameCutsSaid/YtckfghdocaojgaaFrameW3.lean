/- Frames read: the plain words, the walks of size, of the program and of the reference. -/
import Derived.Test.YtckfghdocaojgaaFrameW2
namespace Go.Proofs.Ytckfghdocaojgaa
open Go.RowKit
def lenF (b : List UInt8) : Nat := leN ((b.drop 1).take 2) + 7
def sizeF (b : List UInt8) : Nat := if b.length < 7 then 0 else if b.length < lenF b then 0 else lenF b
def sumOk (b : List UInt8) (n : Nat) : Bool := sum (b.take (n - 4)) == leN ((b.drop (n - 4)).take 4)
structure SpF where
  k : Nat
  body : List UInt8
  rest : List UInt8
  err : Nat
def wholeF (b : List UInt8) (n : Nat) : SpF :=
  if sumOk b n then (if b.head? = some 0 then ⟨0, [], [], 4⟩ else ⟨(b.headD 0).toNat, (b.take (n - 4)).drop 3, b.drop n, 0⟩) else ⟨0, [], [], 5⟩
def splitF (b : List UInt8) : SpF := if sizeF b = 0 then ⟨0, [], [], 3⟩ else wholeF b (sizeF b)
theorem leN2 (b : List UInt8) (h : 7 ≤ b.length) : leN ((b.drop 1).take 2) = b[1].toNat + 256 * b[2].toNat := by
  match b, h with
  | x0 :: x1 :: x2 :: t, _ => simp [leN]
theorem lenF_bd (b : List UInt8) : 7 ≤ lenF b ∧ lenF b ≤ 65542 := by
  have h := leN_lt ((b.drop 1).take 2)
  have h2 : ((b.drop 1).take 2).length ≤ 2 := by simp; omega
  have h3 : 256 ^ ((b.drop 1).take 2).length ≤ 256 ^ 2 := Nat.pow_le_pow_right (by decide) h2
  simp only [lenF]
  have : (256 : Nat) ^ 2 = 65536 := rfl
  omega
/-- A part of bytes. -/
theorem RdB.part {w : World} {b off : Nat} {bs : List UInt8} (h : RdB w (some ⟨b, off, none⟩) bs) (i m : Nat) (hi : i + m ≤ bs.length) : RdB w (some ⟨b, off + i, none⟩) ((bs.drop i).take m) := by
  have hl := h.1
  refine ⟨by simp; omega, fun hp => ⟨b, off + i, rfl, fun j v hj => ?_⟩⟩
  have hm : 0 < m := by simp [bv] at hp; omega
  obtain ⟨b', off', e, hc⟩ := h.at (by omega)
  simp only [bv, List.getElem?_map, List.getElem?_take, List.getElem?_drop] at hj
  split at hj
  · have hlt : i + j < bs.length := by omega
    rw [List.getElem?_eq_getElem hlt] at hj
    simp at hj
    rw [← hj, Nat.add_assoc]
    simp only [Option.some.injEq, Addr.mk.injEq] at e
    obtain ⟨rfl, rfl, _⟩ := e
    exact hc (i + j) hlt
  · simp at hj
theorem get_n (A : Option Addr) (c n : Nat) (bs : List UInt8) (w : World) (hr : RdB w A bs) (hn : n = bs.length) :
    Calls Try.prog 28 #[.slice A n c] w fun e w' => e = .returned (.int .u64 (getN bs : Nat)) ∧ w = w' := by subst hn; exact get_any A c bs w hr
theorem sum_n (A : Option Addr) (c n : Nat) (bs : List UInt8) (w : World) (hr : RdB w A bs) (hn : n = bs.length) :
    Calls Try.prog 23 #[.slice A n c] w fun e w' => e = .returned (.int .u32 (sum bs : Nat)) ∧ w = w' := by subst hn; exact sum_any A c bs w hr
theorem refSum_n (A : Option Addr) (c n : Nat) (bs : List UInt8) (w : World) (hr : RdB w A bs) (hn : n = bs.length) :
    Calls Try.prog 24 #[.slice A n c] w fun e w' => e = .returned (.int .u32 (sum bs : Nat)) ∧ w = w' := by subst hn; exact refSum_any A c bs w hr
theorem size_any (A : Option Addr) (cap : Nat) (bs : List UInt8) (w : World) (hr : RdB w A bs) (hcap : bs.length ≤ cap) :
    Calls Try.prog 25 #[.slice A bs.length cap] w fun e w' => e = .returned (.int .i64 (sizeF bs : Nat)) ∧ w = w' := by
  have hlen := hr.1
  by_cases h7 : bs.length < 7
  · have HS := Lib.hid (show sizeF bs = 0 by unfold sizeF; rw [if_pos h7])
    rw [HS.out]
    go_enter Try.func25, Try.ntmps25
    go_wp2
    go_ret
    exact ⟨rfl, rfl⟩
  · obtain ⟨b, off, rfl, _⟩ := hr.at (by omega)
    have h7 : 7 ≤ bs.length := by omega
    have hc1 : ¬ cap = 1 := by omega
    have hc3 : 3 ≤ cap := by omega
    have hp := hr.part 1 2 (by omega)
    have hpl : ((bs.drop 1).take 2).length = 2 := by simp; omega
    obtain ⟨q, hq⟩ : ∃ q, q = (bs.drop 1).take 2 := ⟨_, rfl⟩
    rw [← hq] at hp hpl
    have hg : getN q + 7 = lenF bs := by unfold getN lenF; rw [hq, List.take_of_length_le (by simp; omega)]
    have hbd := lenF_bd bs
    have HSZ := Lib.hid (show sizeF bs = if bs.length < lenF bs then 0 else lenF bs by unfold sizeF; rw [if_neg (by omega)])
    rw [HSZ.out]
    generalize lenF bs = n at hg hbd
    have HG := Lib.hid hg; clear hg
    have HP := Lib.hid hp; clear hp
    have HQL := Lib.hid hpl; clear hpl hq
    have hu : ((getN q : Nat) : Int) = (n : Int) - 7 := by have := HG.out; omega
    have hw : IntKind.i64.wrap ((n : Int) - 7) = (n : Int) - 7 := by rw [IntKind.wrap_i64]; omega
    by_cases hlt : bs.length < n
    all_goals (
      first | rw [if_pos hlt] | rw [if_neg hlt]
      go_enter Try.func25, Try.ntmps25
      go_wp2_with fail
      refine (get_n _ (cap - 1) 2 q w HP.out HQL.out.symm).mono ?_
      rintro e w1 ⟨rfl, rfl⟩
      rw [hu]
      go_wp2
      go_ret
      exact ⟨ret_int (by omega), rfl⟩)
set_option maxHeartbeats 1000000 in
theorem refSize_any (A : Option Addr) (cap : Nat) (bs : List UInt8) (w : World) (hr : RdB w A bs) :
    Calls Try.prog 26 #[.slice A bs.length cap] w fun e w' => e = .returned (.int .i64 (sizeF bs : Nat)) ∧ ∃ m, w' = w.drewN m := by
  have hlen := hr.1
  by_cases h7 : bs.length < 7
  · have HS := Lib.hid (show sizeF bs = 0 by unfold sizeF; rw [if_pos h7])
    rw [HS.out]
    go_enter Try.func26, Try.ntmps26
    go_wp2
    go_ret
    exact ⟨rfl, 0, rfl⟩
  · obtain ⟨b, off, rfl, hc⟩ := hr.at (by omega)
    have h7 : 7 ≤ bs.length := by omega
    have hc1 := hc 1 (by omega)
    have hc2 := hc 2 (by omega)
    have hg := leN2 bs h7
    have hbd := lenF_bd bs
    have HSZ := Lib.hid (show sizeF bs = if bs.length < lenF bs then 0 else lenF bs by unfold sizeF; rw [if_neg (by omega)])
    rw [HSZ.out]
    have hn : lenF bs = bs[1].toNat + 256 * bs[2].toNat + 7 := by unfold lenF; rw [hg]
    have hx1 := bs[1].toNat_lt
    have hx2 := bs[2].toNat_lt
    clear hg hc
    generalize lenF bs = n at hn hbd
    generalize bs[1] = x1 at *
    generalize bs[2] = x2 at *
    have HN := Lib.hid (show (x1.toNat : Int) + 256 * (x2.toNat : Int) + 7 = (n : Int) by omega); clear hn
    have hw0 : IntKind.i64.wrap (x1.toNat : Int) = x1.toNat := by rw [IntKind.wrap_i64]; omega
    have hw1 : IntKind.i64.wrap (x2.toNat : Int) = x2.toNat := by rw [IntKind.wrap_i64]; omega
    have hw2 : IntKind.i64.wrap (256 * (x2.toNat : Int)) = 256 * x2.toNat := by rw [IntKind.wrap_i64]; omega
    have hw3 : IntKind.i64.wrap ((x1.toNat : Int) + 256 * (x2.toNat : Int)) = x1.toNat + 256 * x2.toNat := by rw [IntKind.wrap_i64]; omega
    have hw4 : IntKind.i64.wrap ((x1.toNat : Int) + 256 * (x2.toNat : Int) + 7) = n := by rw [IntKind.wrap_i64, HN.out]; omega
    by_cases hlt : bs.length < n
    all_goals (
      first | rw [if_pos hlt] | rw [if_neg hlt]
      go_enter Try.func26, Try.ntmps26
      go_wp2
      go_quiet (fail)
      go_wp2
      go_ret
      exact ⟨rfl, _, rfl⟩)
end Go.Proofs.Ytckfghdocaojgaa
