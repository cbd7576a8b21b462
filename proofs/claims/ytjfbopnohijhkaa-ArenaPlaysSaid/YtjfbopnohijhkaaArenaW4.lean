/- The reference's arena: Write, Zero, Move, Place, Addr. -/
import Derived.Test.YtjfbopnohijhkaaArenaW3
namespace Go.Proofs.Ytjfbopnohijhkaa
open Go.RowKit
set_option linter.unusedVariables false
theorem splice_nil (bs : List UInt8) (i : Nat) : splice bs i [] = bs := by simp [splice]
theorem splice_set (bs xs : List UInt8) (i k : Nat) (hk : k < xs.length) (hi : i + xs.length ≤ bs.length) : (splice bs i (xs.take k)).set (i + k) xs[k] = splice bs i (xs.take (k + 1)) := by
  apply List.ext_getElem?
  intro j
  have h1 : (xs.take k).length = k := by simp; omega
  have h2 : (xs.take (k + 1)).length = k + 1 := by simp; omega
  have hb : (bs.take i).length = i := by simp; omega
  simp only [splice, h1, h2, List.getElem?_set, List.length_append, hb, List.length_drop, List.getElem?_append, List.getElem?_take, List.getElem?_drop]
  by_cases hj : j = i + k
  · subst hj
    rw [if_pos rfl, if_pos (by omega), if_neg (by omega), if_pos (by omega), if_pos (by omega)]
    rw [show i + k - i = k by omega, List.getElem?_eq_getElem hk]
  · rw [if_neg (fun e => hj e.symm)]
    by_cases h3 : j < i
    · simp only [if_pos h3]
    · rw [if_neg h3, if_neg h3]
      by_cases h4 : j - i < k
      · have h5 : j - i < k + 1 := by omega
        simp only [if_pos h4, if_pos h5]
      · have h5 : ¬ j - i < k + 1 := by omega
        simp only [if_neg h4, if_neg h5]
        congr 1; omega
section
variable {T : TypeId} {g gb : Nat} {base : Int} {bs : List UInt8} {w : World}
set_option maxHeartbeats 1000000 in
set_option maxRecDepth 20000 in
theorem refWrite_any (hA : Arn w T g gb base bs) (addr : Int) (xs : List UInt8) (A : Option Addr) (c : Nat) (hr : RdB w A xs) (hne : ∀ a, A = some a → 0 < xs.length → a.block ≠ gb) :
    Calls Try.prog 36 #[.pointer (some ⟨g, 0, none⟩), .int .i64 addr, .slice A xs.length c] w fun e w' => e = .returned (.int .i64 (okN (inA base bs.length addr xs.length))) ∧ Arn w' T g gb base (wrB base bs addr xs) ∧ w.grownBy w' (some gb) := by
  have hlen := hr.1
  unfold wrB okN
  cases hin : inA base bs.length addr xs.length
  · have HI := Lib.hid hin; clear hin
    have HA := Lib.hid hA; clear hA
    go_enter Try.func36, Try.ntmps36
    go_wp2_with fail
    refine (refIn_any HA.out addr _).mono ?_
    rintro e w1 ⟨rfl, k, rfl⟩
    rw [HI.out]
    go_wp2
    go_ret
    exact ⟨rfl, by simpa using HA.out.drewN k, grown_drewN _ _ _⟩
  · have hin0 := Lib.hid hin
    obtain ⟨i, m, rfl, h2, h3⟩ := inA_at hin
    obtain rfl : m = xs.length := by omega
    clear h2 hin
    have hb0 := hA.b0
    have hb1 := hA.b1
    have hbl := hA.bl
    have HE := Lib.hid (show (base + (i : Int) - base).toNat = i by omega)
    have hw1 : IntKind.i64.wrap (base + (i : Int) - base) = i := by rw [wrap_i64_in (by omega) (by omega)]; omega
    have HI := Lib.hid h3
    have HA := Lib.hid hA; clear hA
    have HR := Lib.hid hr; clear hr
    have HNE := Lib.hid hne; clear hne
    go_enter Try.func36, Try.ntmps36
    go_wp2_with fail
    refine (refIn_any HA.out _ _).mono ?_
    rintro e w1 ⟨rfl, k0, rfl⟩
    rw [hin0.out]
    go_wp2
    go_loopw [7, 16, 17, 18, 19, 20, 21, 22, 23, 24, 25, 26, 27, 28, 29, 30, 31, 32, 33, 34, 35, 36] (fun _ i' _ _ _ _ _ _ _ _ _ _ _ _ _ _ _ _ _ _ _ _ wr => ∃ k : Nat, k ≤ xs.length ∧ i' = .int .i64 k ∧ Hid (Arn wr T g gb base (splice bs i (xs.take k))) ∧ Hid (w.grownBy wr (some gb))) (fun _ i' _ _ _ _ _ _ _ _ _ _ _ _ _ _ _ _ _ _ _ _ _ => xs.length - (intOf i').toNat)
    case atStart => exact ⟨0, by omega, rfl, (show Arn _ T g gb base (splice bs i (xs.take 0)) by rw [List.take_zero, splice_nil]; exact HA.out.drewN k0), grown_drewN _ _ _⟩
    case round =>
      obtain ⟨k, hk, rfl, HK, HG⟩ := hrel
      by_cases hlt : k < xs.length
      · obtain ⟨b, off, rfl, hc⟩ := HR.out.at (by omega)
        have hbne : b ≠ gb := HNE.out _ rfl (by omega)
        have hgne : g ≠ gb := HA.out.ne
        have hck0 := hc k hlt
        have hckb := World.block_lt_of_cell? w _ hck0
        have hck : wr.cell? ⟨b, off + k, none⟩ = some (.int .u8 (xs[k].toNat : Int)) := (World.cell?_of_block (w := w) (HG.out.block b hckb (fun e => hbne (Option.some.inj e)))).trans hck0
        clear hck0 hckb hc
        have h0 := HK.out.c0
        have h1 := HK.out.c1
        have hsl : (splice bs i (xs.take k)).length = bs.length := length_splice _ _ _ (by have := HI.out; simp; omega)
        rw [hsl] at h1
        have hd : wr.cell? ⟨gb, i + k, none⟩ = some (.int .u8 (((splice bs i (xs.take k))[i + k]'(by have := HI.out; omega)).toNat : Int)) := by
          rw [cell_of_row _ _ _ _ _ _ HK.out.mem]
          have h9 : i + k < (splice bs i (xs.take k)).length := by have := HI.out; omega
          simp [bv, h9]
        have hfr : wr.frozen? ⟨gb, i + k, none⟩ = false := frozen_of_row wr gb (i + k) _ _ HK.out.mem
        generalize ((splice bs i (xs.take k))[i + k]'(by have := HI.out; omega)) = z at hd
        have hw2 : IntKind.i64.wrap ((i : Int) + (k : Int)) = ((i + k : Nat) : Int) := by rw [wrap_i64_in (by omega) (by omega)]; omega
        obtain ⟨hS1, hS2⟩ := HK.out.set (i + k) xs[k]
        rw [splice_set bs xs i k hlt HI.out] at hS1
        have HS1 := Lib.hid hS1; clear hS1
        have HS2 := Lib.hid (HG.out.trans hS2); clear hS2
        generalize xs[k] = x at *
        obtain ⟨L, hL⟩ : ∃ L : Nat, L = bs.length := ⟨_, rfl⟩
        rw [← hL] at h1 h3 hbl
        have HLL := Lib.hid hL; clear hL hsl
        have hset : ∀ B, B ≠ gb → (wr.setCell ⟨gb, i + k, none⟩ (.int .u8 (x.toNat : Int))).heap[B]? = wr.heap[B]? := fun B hB => Below.heap_setCell wr ⟨gb, i + k, none⟩ _ B hB
        have hk0 := (World.cell?_of_block (w := wr) (a := ⟨g, 0, none⟩) (hset g hgne)).trans h0
        have hk1 := (World.cell?_of_block (w := wr) (a := ⟨g, 1, none⟩) (hset g hgne)).trans h1
        have hk2 := (World.cell?_of_block (w := wr) (a := ⟨b, off + k, none⟩) (hset b hbne)).trans hck
        have HKK := Lib.hid (And.intro (And.intro hk0 hk1) hk2); clear hk0 hk1 hk2 hset
        go_wp2_with fail
        go_region_held (fun w' => (w'.cell? ⟨g, 0, none⟩ = some (.int .i64 base) ∧ w'.cell? ⟨g, 1, none⟩ = some (.slice (some ⟨gb, 0, none⟩) L L)) ∧ w'.cell? ⟨b, off + k, none⟩ = some (.int .u8 (x.toNat : Int))) (first | exact ⟨⟨h0, h1⟩, hck⟩ | exact HKK.out) (fail)
        go_wp2
        go_roundw
        case rel => exact ⟨k + 1, by omega, by go_num, HS1.out.drew, HS2.out.trans ⟨rfl, rfl, rfl, Nat.le_refl _, fun _ _ _ => rfl⟩⟩
        case measure => simp [intOf]; omega
      · obtain rfl : k = xs.length := by omega
        have HF := Lib.hid (show Arn wr T g gb base (splice bs i xs) by have := HK.out; rwa [List.take_length] at this)
        go_wp2
        go_ret
        exact ⟨rfl, by simpa [HE.out] using HF.out, HG.out⟩
end
end Go.Proofs.Ytjfbopnohijhkaa
