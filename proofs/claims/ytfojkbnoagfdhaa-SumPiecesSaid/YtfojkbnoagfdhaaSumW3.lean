/- The walks of the tables: of (the program's), lay (the reference's). -/
import Derived.Test.YtfojkbnoagfdhaaSumW2
namespace Go.Proofs.Ytfojkbnoagfdhaa
open Go.RowKit

theorem lay_lt_pow (f : Nat → Nat) (n : Nat) : ∀ (i x out : Nat), x < 2 ^ n → ∀ m, n ≤ m → lay f m i x out = lay f n i x out := by
  induction n with
  | zero => intro i x out hx m _; obtain rfl : x = 0 := by simpa using hx
            rw [lay_zero]; rfl
  | succ n ih =>
    intro i x out hx m hm
    obtain ⟨m, rfl⟩ : ∃ m', m = m' + 1 := ⟨m - 1, by omega⟩
    exact ih _ _ _ (by rw [Nat.pow_succ] at hx; omega) m (by omega)

set_option maxHeartbeats 400000 in
theorem of_any (f : Nat → Nat) (x b : Nat) (w : World) (h1 : x < 4294967296) (hf : ∀ j, j < 32 → f j < 4294967296) (hc : ∀ j, j < 32 → w.cell? ⟨b, j, none⟩ = some (.int .u32 (f j : Nat))) :
    Calls Try.prog 20 #[.pointer (some ⟨b, 0, none⟩), .int .u32 (x : Int)] w fun e w' => e = .returned (.int .u32 (layT f x : Nat)) ∧ w = w' := by
  go_enter Try.func20, Try.ntmps20
  go_wp2
  go_loop [1, 5, 6] (fun v o i => ∃ (k y z : Nat), k ≤ 32 ∧ i = .int .i64 k ∧ v = .int .u32 (y : Int) ∧ o = .int .u32 (z : Int) ∧ y < 4294967296 ∧ z < 4294967296 ∧ Hid (y < 2 ^ (32 - k)) ∧ Hid (lay f (32 - k) k y z = layT f x)) (fun _ _ i => 32 - (intOf i).toNat)
  case atStart => exact ⟨0, x, 0, by omega, rfl, rfl, rfl, h1, by decide, h1, rfl⟩
  case round =>
    obtain ⟨k, y, z, hk, rfl, rfl, rfl, hy1, hz1, hP, hH⟩ := hrel
    have ha := and1_32 y hy1
    by_cases h0 : y = 0
    · subst h0
      clear ha
      go_wp2
      go_ret
      exact ⟨ret_int (by have := hH.out; rw [lay_zero] at this; rw [this]), rfl⟩
    · have hlt : k < 32 := by
        rcases Nat.lt_or_ge k 32 with h | h
        · exact h
        · obtain rfl : k = 32 := by omega
          have hp := hP.out
          simp at hp
          omega
      have hb0 : ((y : Int) != 0) = true := by rw [bne_iff_ne]; omega
      have hck := hc k hlt
      have hfk := hf k hlt
      generalize hfe : f k = fk at *
      have HFE := Lib.hid hfe; clear hfe
      have hxx := xor_32 z fk hz1 hfk
      have HX := Lib.hid hxx; clear hxx
      have hP2 : y / 2 < 2 ^ (32 - (k + 1)) := by
        have hp := hP.out
        rw [show 32 - k = (32 - (k + 1)) + 1 from by omega, Nat.pow_succ] at hp
        omega
      have HP2 := Lib.hid hP2; clear hP2
      have hH2 := hH.out
      rw [show 32 - k = (32 - (k + 1)) + 1 from by omega] at hH2
      unfold lay at hH2
      rcases Nat.mod_two_eq_zero_or_one y with h | h
      · rw [if_neg (by omega)] at hH2
        have HH2 := Lib.hid hH2; clear hH2
        have hb : (bits .and .u32 (y : Int) 1 == 1) = false := by rw [ha, h]; rfl
        clear ha hc hf
        go_wp2
        go_round
        case rel => exact ⟨k + 1, y / 2, z, by omega, by go_num, by go_num, rfl, by omega, hz1, HP2.out, HH2.out⟩
        case measure => simp [intOf]; omega
      · rw [if_pos h] at hH2
        have HH2 := Lib.hid hH2; clear hH2
        have hb : (bits .and .u32 (y : Int) 1 == 1) = true := by rw [ha, h]; rfl
        clear ha hc hf
        go_wp2
        go_round
        case rel => exact ⟨k + 1, y / 2, z ^^^ fk, by omega, by go_num, by go_num, val_int HX.out, by omega, xor_lt32 hz1 hfk, HP2.out, by rw [← HFE.out]; exact HH2.out⟩
        case measure => simp [intOf]; omega

/-- A table's cells. -/
def tabV (f : Nat → Nat) : Array Value := ((List.range 32).map fun j => Value.int .u32 (f j : Nat)).toArray
theorem tabV_size (f : Nat → Nat) : (tabV f).size = 32 := by simp [tabV]
theorem tabV_at (f : Nat → Nat) (j : Nat) (h : j < 32) : (tabV f)[j]? = some (.int .u32 (f j : Nat)) := by simp [tabV, h]

set_option maxHeartbeats 400000 in
theorem lay_any (f : Nat → Nat) (x : Nat) (w : World) (h1 : x < 4294967296) (hf : ∀ j, j < 32 → f j < 4294967296) :
    Calls Try.prog 21 #[.agg (tabV f), .int .u32 (x : Int)] w fun e w' => e = .returned (.int .u32 (layT f x : Nat)) ∧ Below w.heap.size w w' := by
  go_enter Try.func21, Try.ntmps21
  go_wp2
  go_loop [1, 5, 6] (fun v o i => ∃ (k y z : Nat), k ≤ 32 ∧ i = .int .i64 k ∧ v = .int .u32 (y : Int) ∧ o = .int .u32 (z : Int) ∧ y < 4294967296 ∧ z < 4294967296 ∧ Hid (lay f (32 - k) k y z = layT f x)) (fun _ _ i => 32 - (intOf i).toNat)
  case atStart => exact ⟨0, x, 0, by omega, rfl, rfl, rfl, h1, by decide, rfl⟩
  case round =>
    obtain ⟨k, y, z, hk, rfl, rfl, rfl, hy1, hz1, hH⟩ := hrel
    by_cases hlt : k < 32
    · have hck := tabV_at f k hlt
      have hfk := hf k hlt
      generalize hfe : f k = fk at *
      have HFE := Lib.hid hfe; clear hfe
      have hxx := xor_32 z fk hz1 hfk
      have HX := Lib.hid hxx; clear hxx
      have hH2 := hH.out
      rw [show 32 - k = (32 - (k + 1)) + 1 from by omega] at hH2
      unfold lay at hH2
      rcases Nat.mod_two_eq_zero_or_one y with h | h
      · rw [if_neg (by omega)] at hH2
        have HH2 := Lib.hid hH2; clear hH2
        have hb : ((y : Int) % 2 == 1) = false := by rw [show (y : Int) % 2 = ((y % 2 : Nat) : Int) from rfl, h]; rfl
        clear hf
        go_wp2
        go_round
        case rel => exact ⟨k + 1, y / 2, z, by omega, by go_num, by go_num, rfl, by omega, hz1, HH2.out⟩
        case measure => simp [intOf]; omega
      · rw [if_pos h] at hH2
        have HH2 := Lib.hid hH2; clear hH2
        have hb : ((y : Int) % 2 == 1) = true := by rw [show (y : Int) % 2 = ((y % 2 : Nat) : Int) from rfl, h]; rfl
        clear hf
        go_wp2
        go_round
        case rel => exact ⟨k + 1, y / 2, z ^^^ fk, by omega, by go_num, by go_num, val_int HX.out, by omega, xor_lt32 hz1 hfk, by rw [← HFE.out]; exact HH2.out⟩
        case measure => simp [intOf]; omega
    · obtain rfl : k = 32 := by omega
      go_wp2
      go_ret
      exact ⟨ret_int (by have := hH.out; simp only [Nat.sub_self, lay] at this; rw [this]), (Below.refl _ _).alloc (Nat.le_refl _) _⟩
end Go.Proofs.Ytfojkbnoagfdhaa
