/- The sum of layer 2 in plain numbers: steps, sums, tables; what they are of joined bytes and of bursts. No program in sight. -/
import Derived.Laws.BitsAllLaws
import Derived.Test.YtckfghdocaojgaaBase
namespace Go.Proofs.Ytckfghdocaojgaa

def st (y : Nat) : Nat := if y % 2 = 1 then (y / 2) ^^^ 2197175160 else y / 2
def stN : Nat → Nat → Nat
  | 0, y => y
  | n + 1, y => stN n (st y)
def mr (x : Nat) (cs : List UInt8) : Nat := cs.foldl (fun x c => stN 8 (x ^^^ c.toNat)) x
def more (s : Nat) (cs : List UInt8) : Nat := mr (s ^^^ 4294967295) cs ^^^ 4294967295
def sum (cs : List UInt8) : Nat := more 0 cs
/-- What a table makes of the bits of x, from bit i on. -/
def lay (f : Nat → Nat) : Nat → Nat → Nat → Nat → Nat
  | 0, _, _, out => out
  | n + 1, i, x, out => lay f n (i + 1) (x / 2) (if x % 2 = 1 then out ^^^ f i else out)
def layT (f : Nat → Nat) (x : Nat) : Nat := lay f 32 0 x 0
def tab0 (i : Nat) : Nat := stN 8 (2 ^ i)
def sq (f : Nat → Nat) (i : Nat) : Nat := layT f (f i)
/-- Many times eight steps: n is halved, the table squared. -/
def shiftF (f : Nat → Nat) (s n : Nat) : Nat :=
  if h : n = 0 then s else shiftF (sq f) (if n % 2 = 1 then layT f s else s) (n / 2)
termination_by n
decreasing_by omega
def shift (s n : Nat) : Nat := shiftF tab0 s n

theorem xor_lt32 {a b : Nat} (ha : a < 4294967296) (hb : b < 4294967296) : a ^^^ b < 4294967296 := Nat.xor_lt_two_pow (n := 32) ha hb
theorem st_lt {y : Nat} (h : y < 4294967296) : st y < 4294967296 := by
  unfold st
  split
  · exact xor_lt32 (by omega) (by omega)
  · omega
theorem stN_lt (n : Nat) : ∀ {y : Nat}, y < 4294967296 → stN n y < 4294967296 := by
  induction n with
  | zero => intro y h; exact h
  | succ n ih => intro y h; exact ih (st_lt h)
theorem byte_lt32 (c : UInt8) : c.toNat < 4294967296 := Nat.lt_trans c.toNat_lt (by decide)
theorem mr_lt (cs : List UInt8) : ∀ {x : Nat}, x < 4294967296 → mr x cs < 4294967296 := by
  induction cs with
  | nil => intro x h; exact h
  | cons c cs ih => intro x h; exact ih (stN_lt 8 (xor_lt32 h (byte_lt32 c)))
theorem more_lt (s : Nat) (cs : List UInt8) (hs : s < 4294967296) : more s cs < 4294967296 := xor_lt32 (mr_lt cs (xor_lt32 hs (by decide))) (by decide)
theorem mr_snoc (x : Nat) (cs : List UInt8) (c : UInt8) : mr x (cs ++ [c]) = stN 8 (mr x cs ^^^ c.toNat) := by simp [mr]
theorem mr_take (x : Nat) (cs : List UInt8) (k : Nat) (h : k < cs.length) : mr x (cs.take (k + 1)) = stN 8 (mr x (cs.take k) ^^^ cs[k].toNat) := by
  rw [List.take_succ_eq_append_getElem h, mr_snoc]
theorem lay_lt (f : Nat → Nat) (hf : ∀ i, i < 32 → f i < 4294967296) (n : Nat) : ∀ (i x out : Nat), i + n ≤ 32 → out < 4294967296 → lay f n i x out < 4294967296 := by
  induction n with
  | zero => intro i x out _ h; exact h
  | succ n ih =>
    intro i x out hi h
    refine ih _ _ _ (by omega) ?_
    split
    · exact xor_lt32 h (hf i (by omega))
    · exact h
theorem layT_lt (f : Nat → Nat) (hf : ∀ i, i < 32 → f i < 4294967296) (x : Nat) : layT f x < 4294967296 := lay_lt f hf 32 0 x 0 (by omega) (by decide)
theorem lay_zero (f : Nat → Nat) (n : Nat) : ∀ (i out : Nat), lay f n i 0 out = out := by
  induction n with
  | zero => intro i out; rfl
  | succ n ih => intro i out; simp [lay, ih]
theorem tab0_lt (i : Nat) (h : i < 32) : tab0 i < 4294967296 := stN_lt 8 (Nat.pow_lt_pow_right (by decide) h : 2 ^ i < 2 ^ 32)
theorem sq_lt (f : Nat → Nat) (hf : ∀ i, i < 32 → f i < 4294967296) (i : Nat) : sq f i < 4294967296 := layT_lt f hf _
end Go.Proofs.Ytckfghdocaojgaa
