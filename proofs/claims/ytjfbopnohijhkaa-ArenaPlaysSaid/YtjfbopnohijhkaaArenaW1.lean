/- Arenas in memory; the walks of Good, New, Base, Pages, End, In, of the program and of the reference. -/
import Derived.Test.YtjfbopnohijhkaaProg
import Derived.LoopTactic
import Derived.Outline
import Derived.KernelRfl
import Derived.WalkLawsBesides
import Derived.Test.YtjfbopnohijhkaaOpen
import Derived.Test.YtjfbopnohijhkaaSame
import Derived.Deep.QuietTactic
import Derived.BigQuiet
import Derived.Deep.RegionHeld
import Derived.Deep.OwnRows
namespace Go.Proofs.Ytjfbopnohijhkaa
open Go.RowKit

/-- An arena: its struct of the type T stands in the block g, its bytes in the block gb. -/
structure Arn (w : World) (T : TypeId) (g gb : Nat) (base : Int) (bs : List UInt8) : Prop where
  obj : w.heap[g]? = some (.cells #[.int .i64 base, .slice (some ⟨gb, 0, none⟩) bs.length bs.length] T (0, 0))
  mem : w.heap[gb]? = some (.cells (bv bs).toArray 5 (0, 0))
  b0 : 256 ≤ base
  b1 : base ≤ 1099511627776
  len : ∃ p : Nat, 1 ≤ p ∧ p ≤ 4096 ∧ bs.length = 256 * p
section
variable {w w' : World} {T : TypeId} {g gb : Nat} {base : Int} {bs : List UInt8}
theorem Arn.c0 (h : Arn w T g gb base bs) : w.cell? ⟨g, 0, none⟩ = some (.int .i64 base) := by rw [cell_of_row _ _ _ _ _ _ h.obj]; rfl
theorem Arn.c1 (h : Arn w T g gb base bs) : w.cell? ⟨g, 1, none⟩ = some (.slice (some ⟨gb, 0, none⟩) bs.length bs.length) := by rw [cell_of_row _ _ _ _ _ _ h.obj]; rfl
theorem Arn.bl (h : Arn w T g gb base bs) : 256 ≤ bs.length ∧ bs.length ≤ 1048576 := by obtain ⟨p, h1, h2, h3⟩ := h.len; omega
theorem Arn.lt (h : Arn w T g gb base bs) : g < w.heap.size ∧ gb < w.heap.size := ⟨(Array.getElem?_eq_some_iff.1 h.obj).1, (Array.getElem?_eq_some_iff.1 h.mem).1⟩
theorem Arn.keep (h : Arn w T g gb base bs) (h1 : w'.heap[g]? = w.heap[g]?) (h2 : w'.heap[gb]? = w.heap[gb]?) : Arn w' T g gb base bs := ⟨h1.trans h.obj, h2.trans h.mem, h.b0, h.b1, h.len⟩
theorem Arn.below (h : Arn w T g gb base bs) (hb : Below w.heap.size w w') : Arn w' T g gb base bs := h.keep (hb.block _ h.lt.1) (hb.block _ h.lt.2)
theorem Arn.drew (h : Arn w T g gb base bs) : Arn w.drew T g gb base bs := ⟨h.obj, h.mem, h.b0, h.b1, h.len⟩
end
/-- Which addresses lie in an arena. -/
def inA (base : Int) (L : Nat) (addr n : Int) : Bool := decide (0 ≤ n ∧ base ≤ addr ∧ addr ≤ base + L ∧ n ≤ base + L - addr)
def goodB (b : Int) : Bool := decide (256 ≤ b ∧ b ≤ 1099511627776 ∧ b % 256 = 0)

theorem wrap_i64_in {x : Int} (h0 : -9223372036854775808 ≤ x) (h1 : x ≤ 9223372036854775807) : IntKind.i64.wrap x = x := by
  rw [IntKind.wrap_i64]; omega
set_option maxHeartbeats 400000 in
theorem good_any (b : Int) (w : World) (hb : -9223372036854775808 ≤ b ∧ b ≤ 9223372036854775807) : Calls Try.prog 16 #[.int .i64 b] w fun e w' => e = .returned (.bool (goodB b)) ∧ w = w' := by
  by_cases h1 : 256 ≤ b
  · by_cases h2 : b ≤ 1099511627776
    · have HG := Lib.hid (show (b % 256 == 0) = goodB b by unfold goodB; rw [Bool.eq_iff_iff]; simp [h1, h2])
      go_enter Try.func16, Try.ntmps16
      go_wp2
      go_ret
      exact ⟨by rw [← HG.out]; rfl, rfl⟩
    · have HG := Lib.hid (show goodB b = false by unfold goodB; simp; omega)
      go_enter Try.func16, Try.ntmps16
      go_wp2
      go_ret
      exact ⟨by rw [HG.out]; rfl, rfl⟩
  · have HG := Lib.hid (show goodB b = false by unfold goodB; simp; omega)
    go_enter Try.func16, Try.ntmps16
    go_wp2
    go_ret
    exact ⟨by rw [HG.out]; rfl, rfl⟩

set_option maxHeartbeats 400000 in
set_option maxRecDepth 20000 in
theorem new_any (b p : Int) (w : World) (hb : -9223372036854775808 ≤ b ∧ b ≤ 9223372036854775807) (hp : 1 ≤ p) (hp1 : p ≤ 4096) (hg : goodB b = true) :
    Calls Try.prog 11 #[.int .i64 b, .int .i64 p] w fun e w' => ∃ g gb, e = .returned (.tuple #[.pointer (some ⟨g, 0, none⟩), .int .i64 0]) ∧ w.heap.size ≤ g ∧ w.heap.size ≤ gb ∧ Arn w' 71 g gb b (List.replicate (256 * p.toNat) 0) ∧ Below w.heap.size w w' := by
  obtain ⟨q, rfl⟩ := Int.eq_ofNat_of_zero_le (show 0 ≤ p by omega)
  obtain ⟨m, hm⟩ : ∃ m : Nat, m = 256 * q := ⟨_, rfl⟩
  have hmk := Try.mkB m (by omega)
  have hmul : (q : Int) * 256 = (m : Int) := by omega
  have HM := Lib.hid (show m = 256 * q ∧ m ≤ 1048576 ∧ 256 ≤ b ∧ b ≤ 1099511627776 by unfold goodB at hg; simp at hg; omega); clear hm
  have HG := Lib.hid hg; clear hg
  have HB := Lib.hid hb; clear hb
  go_enter Try.func11, Try.ntmps11
  go_wp2_with fail
  refine (good_any b w HB.out).mono ?_
  rintro e w1 ⟨rfl, rfl⟩
  rw [HG.out]
  go_wp2
  go_ret2
  obtain ⟨hm, hm1, hb0, hb1⟩ := HM.out
  have hr : 256 * (q : Int).toNat = m := by rw [hm]; rfl
  rw [hr]
  refine ⟨w.heap.size + 1, w.heap.size, rfl, by omega, by omega, ⟨?_, ?_, hb0, hb1, ⟨q, by omega, by omega, by rw [List.length_replicate]; omega⟩⟩, ?_⟩
  · rw [List.length_replicate]; exact heap_alloc2_new w _ _
  · exact heap_alloc2_old w _ _
  · exact ((Below.refl _ _).alloc (Nat.le_refl _) _).alloc (by simp [go_sem]) _
set_option maxHeartbeats 400000 in
theorem refGood_any (b : Int) (w : World) (hb : -9223372036854775808 ≤ b ∧ b ≤ 9223372036854775807) : Calls Try.prog 17 #[.int .i64 b] w fun e w' => e = .returned (.bool (goodB b)) ∧ w = w' := by
  by_cases h1 : 256 ≤ b
  · by_cases h2 : b ≤ 1099511627776
    · have HG := Lib.hid (show (b % 256 == 0) = goodB b by unfold goodB; rw [Bool.eq_iff_iff]; simp [h1, h2])
      go_enter Try.func17, Try.ntmps17
      go_wp2
      go_ret
      exact ⟨by rw [← HG.out]; rfl, rfl⟩
    · have HG := Lib.hid (show goodB b = false by unfold goodB; simp; omega)
      go_enter Try.func17, Try.ntmps17
      go_wp2
      go_ret
      exact ⟨by rw [HG.out]; rfl, rfl⟩
  · have HG := Lib.hid (show goodB b = false by unfold goodB; simp; omega)
    go_enter Try.func17, Try.ntmps17
    go_wp2
    go_ret
    exact ⟨by rw [HG.out]; rfl, rfl⟩
set_option maxHeartbeats 400000 in
set_option maxRecDepth 20000 in
theorem refNew_any (b p : Int) (w : World) (hb : -9223372036854775808 ≤ b ∧ b ≤ 9223372036854775807) (hp : 1 ≤ p) (hp1 : p ≤ 4096) (hg : goodB b = true) :
    Calls Try.prog 13 #[.int .i64 b, .int .i64 p] w fun e w' => ∃ g gb, e = .returned (.tuple #[.pointer (some ⟨g, 0, none⟩), .int .i64 0]) ∧ w.heap.size ≤ g ∧ w.heap.size ≤ gb ∧ Arn w' 35 g gb b (List.replicate (256 * p.toNat) 0) ∧ Below w.heap.size w w' := by
  obtain ⟨q, rfl⟩ := Int.eq_ofNat_of_zero_le (show 0 ≤ p by omega)
  obtain ⟨m, hm⟩ : ∃ m : Nat, m = 256 * q := ⟨_, rfl⟩
  have hmk := Try.mkB m (by omega)
  have hmul : 256 * (q : Int) = (m : Int) := by omega
  have HM := Lib.hid (show m = 256 * q ∧ m ≤ 1048576 ∧ 256 ≤ b ∧ b ≤ 1099511627776 by unfold goodB at hg; simp at hg; omega); clear hm
  have HG := Lib.hid hg; clear hg
  have HB := Lib.hid hb; clear hb
  go_enter Try.func13, Try.ntmps13
  go_wp2_with fail
  refine (refGood_any b w HB.out).mono ?_
  rintro e w1 ⟨rfl, rfl⟩
  rw [HG.out]
  go_wp2
  go_ret2
  obtain ⟨hm, hm1, hb0, hb1⟩ := HM.out
  have hr : 256 * (q : Int).toNat = m := by rw [hm]; rfl
  rw [hr]
  refine ⟨w.heap.size + 1, w.heap.size, rfl, by omega, by omega, ⟨?_, ?_, hb0, hb1, ⟨q, by omega, by omega, by rw [List.length_replicate]; omega⟩⟩, ?_⟩
  · rw [List.length_replicate]; exact heap_alloc2_new w _ _
  · exact heap_alloc2_old w _ _
  · exact ((Below.refl _ _).alloc (Nat.le_refl _) _).alloc (by simp [go_sem]) _
set_option maxHeartbeats 400000 in
theorem new_err (b p : Int) (w : World) (hb : -9223372036854775808 ≤ b ∧ b ≤ 9223372036854775807) (hp : ¬ (1 ≤ p ∧ p ≤ 4096) ∨ goodB b = false) :
    Calls Try.prog 11 #[.int .i64 b, .int .i64 p] w fun e w' => e = .returned (.tuple #[.pointer none, .int .i64 (if 1 ≤ p ∧ p ≤ 4096 then 10 else 2)]) ∧ w = w' := by
  by_cases h1 : 1 ≤ p ∧ p ≤ 4096
  · rw [if_pos h1]
    have hg : goodB b = false := hp.resolve_left (fun h => h h1)
    clear hp
    have HB := Lib.hid hb; clear hb
    have HG := Lib.hid hg; clear hg
    obtain ⟨h1, h2⟩ := h1
    go_enter Try.func11, Try.ntmps11
    go_wp2_with fail
    refine (good_any b w HB.out).mono ?_
    rintro e w1 ⟨rfl, rfl⟩
    rw [HG.out]
    go_wp2
    go_ret2
    exact ⟨rfl, rfl⟩
  · rw [if_neg h1]
    clear hp
    have HB := Lib.hid hb; clear hb
    by_cases h2 : p < 1
    · go_enter Try.func11, Try.ntmps11
      go_wp2
      go_ret2
      exact ⟨rfl, rfl⟩
    · have h3 : 4096 < p := by omega
      go_enter Try.func11, Try.ntmps11
      go_wp2
      go_ret2
      exact ⟨rfl, rfl⟩
section
variable {T : TypeId} {g gb : Nat} {base : Int} {bs : List UInt8} {w : World}
theorem base_any (hA : Arn w T g gb base bs) : Calls Try.prog 18 #[.pointer (some ⟨g, 0, none⟩)] w fun e w' => e = .returned (.int .i64 base) ∧ w = w' := by
  have h0 := hA.c0
  have HA := Lib.hid hA; clear hA
  go_enter Try.func18, Try.ntmps18
  go_wp2
  go_ret
  exact ⟨rfl, rfl⟩
theorem pages_any (hA : Arn w T g gb base bs) : Calls Try.prog 19 #[.pointer (some ⟨g, 0, none⟩)] w fun e w' => e = .returned (.int .i64 ((bs.length / 256 : Nat) : Int)) ∧ w = w' := by
  have h1 := hA.c1
  have hl := hA.bl
  have HA := Lib.hid hA; clear hA
  go_enter Try.func19, Try.ntmps19
  go_wp2
  go_ret
  exact ⟨rfl, rfl⟩
theorem end_any (hA : Arn w T g gb base bs) : Calls Try.prog 20 #[.pointer (some ⟨g, 0, none⟩)] w fun e w' => e = .returned (.int .i64 (base + (bs.length : Int))) ∧ w = w' := by
  obtain ⟨p, hp1, hp2, hp3⟩ := hA.len
  have hb0 := hA.b0
  have hb1 := hA.b1
  have hq : ((bs.length / 256 : Nat) : Int) = (p : Int) := by omega
  have HL := Lib.hid (show base + (p : Int) * 256 = base + (bs.length : Int) by omega)
  have HA := Lib.hid hA; clear hA
  clear hp3
  go_enter Try.func20, Try.ntmps20
  go_wp2_with fail
  refine (base_any HA.out).mono ?_
  rintro e w1 ⟨rfl, rfl⟩
  go_wp2_with fail
  refine (pages_any HA.out).mono ?_
  rintro e w1 ⟨rfl, rfl⟩
  rw [hq]
  go_wp2
  go_ret
  exact ⟨ret_int HL.out, rfl⟩
theorem in_any (hA : Arn w T g gb base bs) (addr n : Int) : Calls Try.prog 14 #[.pointer (some ⟨g, 0, none⟩), .int .i64 addr, .int .i64 n] w fun e w' => e = .returned (.bool (inA base bs.length addr n)) ∧ w = w' := by
  have h0 := hA.c0
  have hl := hA.bl
  have hb0 := hA.b0
  have hb1 := hA.b1
  obtain ⟨L, hL⟩ : ∃ L : Nat, L = bs.length := ⟨_, rfl⟩
  rw [← hL] at hl ⊢
  have HA := Lib.hid hA; clear hA
  have HL := Lib.hid hL; clear hL
  have HI := Lib.hid (show inA base L addr n = decide (0 ≤ n ∧ base ≤ addr ∧ addr ≤ base + L ∧ n ≤ base + L - addr) from rfl)
  by_cases h1 : 0 ≤ n
  · by_cases h2 : base ≤ addr
    · by_cases h3 : addr ≤ base + L
      · go_enter Try.func14, Try.ntmps14
        go_wp2_with fail
        refine (end_any HA.out).mono ?_
        rintro e w1 ⟨rfl, rfl⟩
        rw [← HL.out]
        go_wp2_with fail
        refine (end_any HA.out).mono ?_
        rintro e w1 ⟨rfl, rfl⟩
        rw [← HL.out]
        go_wp2
        go_ret
        exact ⟨by rw [HI.out]; simp [h1, h2, h3], rfl⟩
      · go_enter Try.func14, Try.ntmps14
        go_wp2_with fail
        refine (end_any HA.out).mono ?_
        rintro e w1 ⟨rfl, rfl⟩
        rw [← HL.out]
        go_wp2
        go_ret
        rw [HI.out, decide_eq_false (by omega)]
        exact ⟨rfl, rfl⟩
    · go_enter Try.func14, Try.ntmps14
      go_wp2
      go_ret
      rw [HI.out, decide_eq_false (by omega)]
      exact ⟨rfl, rfl⟩
  · go_enter Try.func14, Try.ntmps14
    go_wp2
    go_ret
    rw [HI.out, decide_eq_false (by omega)]
    exact ⟨rfl, rfl⟩
theorem refIn_any (hA : Arn w T g gb base bs) (addr n : Int) : Calls Try.prog 15 #[.pointer (some ⟨g, 0, none⟩), .int .i64 addr, .int .i64 n] w fun e w' => e = .returned (.bool (inA base bs.length addr n)) ∧ ∃ m, w' = w.drewN m := by
  have h0 := hA.c0
  have h1' := hA.c1
  have hl := hA.bl
  have hb0 := hA.b0
  have hb1 := hA.b1
  obtain ⟨L, hL⟩ : ∃ L : Nat, L = bs.length := ⟨_, rfl⟩
  rw [← hL] at hl h1' ⊢
  clear hL hA
  have HI := Lib.hid (show inA base L addr n = decide (0 ≤ n ∧ base ≤ addr ∧ addr ≤ base + L ∧ n ≤ base + L - addr) from rfl)
  have hw1 : IntKind.i64.wrap (base + (L : Int)) = base + L := wrap_i64_in (by omega) (by omega)
  by_cases h2 : base ≤ addr
  · by_cases h3 : addr ≤ base + L
    · have hw2 : IntKind.i64.wrap (base + (L : Int) - addr) = base + L - addr := wrap_i64_in (by omega) (by omega)
      have hd2 : decide (addr < base) = false := decide_eq_false (by omega)
      have hd3 : decide (base + (L : Int) < addr) = false := decide_eq_false (by omega)
      by_cases h1 : 0 ≤ n
      · have hd1 : decide (0 ≤ n) = true := decide_eq_true h1
        go_enter Try.func15, Try.ntmps15
        go_wp2
        go_quiet (fail)
        go_wp2
        go_quiet (fail)
        go_wp2
        go_ret
        exact ⟨by rw [HI.out]; simp [h1, h2, h3], _, World.drewN_drewN ..⟩
      · have hd1 : decide (0 ≤ n) = false := decide_eq_false h1
        go_enter Try.func15, Try.ntmps15
        go_wp2
        go_quiet (fail)
        go_wp2
        go_quiet (fail)
        go_wp2
        go_ret
        rw [HI.out, decide_eq_false (by omega)]
        exact ⟨rfl, _, World.drewN_drewN ..⟩
    · have hd2 : decide (addr < base) = false := decide_eq_false (by omega)
      have hd3 : decide (base + (L : Int) < addr) = true := decide_eq_true (by omega)
      go_enter Try.func15, Try.ntmps15
      go_wp2
      go_quiet (fail)
      go_wp2
      go_ret
      rw [HI.out, decide_eq_false (by omega)]
      exact ⟨rfl, _, rfl⟩
  · have hd2 : decide (addr < base) = true := decide_eq_true (by omega)
    go_enter Try.func15, Try.ntmps15
    go_wp2
    go_quiet (fail)
    go_wp2
    go_ret
    rw [HI.out, decide_eq_false (by omega)]
    exact ⟨rfl, _, rfl⟩
/-- The place of an address in the bytes. -/
theorem inA_at {base : Int} {L : Nat} {addr n : Int} (h : inA base L addr n = true) : ∃ i m : Nat, addr = base + i ∧ n = m ∧ i + m ≤ L := by
  unfold inA at h
  have h := of_decide_eq_true h
  exact ⟨(addr - base).toNat, n.toNat, by omega, by omega, by omega⟩
theorem at_err (hA : Arn w T g gb base bs) (addr n : Int) (hi : inA base bs.length addr n = false) : Calls Try.prog 33 #[.pointer (some ⟨g, 0, none⟩), .int .i64 addr, .int .i64 n] w fun e w' => e = .returned (.tuple #[.slice none 0 0, .int .i64 10]) ∧ w = w' := by
  have h0 := hA.c0
  have HA := Lib.hid hA; clear hA
  have HI := Lib.hid hi; clear hi
  go_enter Try.func33, Try.ntmps33
  go_wp2_with fail
  refine (in_any HA.out addr n).mono ?_
  rintro e w1 ⟨rfl, rfl⟩
  rw [HI.out]
  go_wp2
  go_ret2
  exact ⟨rfl, rfl⟩
/-- What 'at' answers: m bytes of the block gb from i on. -/
def AtP (gb i m : Nat) (e : Ending) : Prop := ∃ A c, e = .returned (.tuple #[.slice A m c, .int .i64 0]) ∧ (0 < m → A = some ⟨gb, i, none⟩)
theorem at_any (hA : Arn w T g gb base bs) (i m : Nat) (hi : i + m ≤ bs.length) (L : Nat) (hL : L = bs.length) : Calls Try.prog 33 #[.pointer (some ⟨g, 0, none⟩), .int .i64 (base + i), .int .i64 m] w fun e w' => AtP gb i m e ∧ ∃ m, w' = w.drewN m := by
  have h0 := hA.c0
  have h1' := hA.c1
  have hl := hA.bl
  have hb0 := hA.b0
  have hb1 := hA.b1
  have HI := Lib.hid (show inA base bs.length (base + i) m = true by unfold inA; rw [decide_eq_true_iff]; omega)
  rw [← hL] at hl h1' hi
  have HA := Lib.hid hA; clear hA
  have HL := Lib.hid hL; clear hL
  have hw1 : IntKind.i64.wrap (base + (i : Int) - base) = i := by rw [wrap_i64_in (by omega) (by omega)]; omega
  have hw2 : IntKind.i64.wrap ((i : Int) + (m : Int)) = ((i + m : Nat) : Int) := by rw [wrap_i64_in (by omega) (by omega)]; omega
  go_enter Try.func33, Try.ntmps33
  go_wp2_with fail
  refine (in_any HA.out _ _).mono ?_
  rintro e w1 ⟨rfl, rfl⟩
  rw [HI.out]
  go_wp2
  go_quiet (fail)
  all_goals go_wp2
  all_goals go_ret2
  · exact ⟨⟨_, _, rfl, by omega⟩, _, rfl⟩
  · exact ⟨⟨_, _, rfl, fun _ => rfl⟩, _, rfl⟩
end
end Go.Proofs.Ytjfbopnohijhkaa
