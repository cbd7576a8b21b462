/- The walk of ArenaBases. -/
import Derived.Test.YtjfbopnohijhkaaArenaF
import Derived.Test.YtjfbopnohijhkaaArenaL2
import Derived.Deep.RegionHeld3
import Derived.Deep.DrawnRows
namespace Go.Proofs.Ytjfbopnohijhkaa
open Go.RowKit
attribute [local go_sem ↓] Go.wp_at_zero Go.wp_at_succ
set_option linter.unusedVariables false
set_option maxHeartbeats 4000000 in
set_option maxRecDepth 20000 in
theorem arenaBases_walk (x y : Nat) (A : Option Addr) (n cap : Nat) (vs : List Value) (cs : List Cl) (W : World) (hx : x < 4294967296) (hy : y < 4294967296) (hr : RdL W A vs) (hc : ClE W vs cs) (hn : n = cs.length) (hnb : n ≤ 9223372036854775807) :
    Calls Try.prog 8 #[.int .u32 (x : Int), .int .u32 (y : Int), .slice A n cap] W fun e w' => e = .returned (.bool true) ∧ Below W.heap.size W w' := by
  have HX := Lib.hid hx; clear hx
  have HY := Lib.hid hy; clear hy
  have HR := Lib.hid hr; clear hr
  have HC := Lib.hid hc; clear hc
  have HN := Lib.hid hn; clear hn
  obtain ⟨b1, hb1⟩ : ∃ b : Int, b = 256 + 256 * (x : Int) := ⟨_, rfl⟩
  obtain ⟨b2, hb2⟩ : ∃ b : Int, b = 256 + 256 * (y : Int) := ⟨_, rfl⟩
  have HG1 := Lib.hid (show goodB b1 = true by rw [hb1]; exact good_lbase x (by have := HX.out; omega))
  have HG2 := Lib.hid (show goodB b2 = true by rw [hb2]; exact good_lbase y (by have := HY.out; omega))
  have hbb1 : 256 ≤ b1 ∧ b1 ≤ 1099511627776 := by have := HX.out; omega
  have hbb2 : 256 ≤ b2 ∧ b2 ≤ 1099511627776 := by have := HY.out; omega
  have HE1 := Lib.hid hb1; clear hb1
  have HE2 := Lib.hid hb2; clear hb2
  go_enter Try.func8, Try.ntmps8
  go_wp2_with fail
  refine (alive_any W).mono ?_
  rintro e w1 ⟨rfl, hB1⟩
  have HB1 := Lib.hid hB1; clear hB1
  go_wp2_with fail
  refine (lbase_any x (by have := HX.out; omega) w1).mono ?_
  rintro e w2 ⟨rfl, rfl⟩
  rw [← HE1.out]
  go_wp2_with fail
  refine (new_any b1 4 w1 (by omega) (by omega) (by omega) HG1.out).mono ?_
  rintro e w2 ⟨g1, gb1, rfl, hg1, hgb1, hA1, hB2⟩
  obtain ⟨zs, hzs⟩ : ∃ zs : List UInt8, zs = List.replicate (256 * Int.toNat 4) 0 := ⟨_, rfl⟩
  rw [← hzs] at hA1
  have HZ := Lib.hid (show zs.length = 1024 by rw [hzs, List.length_replicate]; rfl)
  have HZS := Lib.hid hzs; clear hzs
  have HA1 := Lib.hid hA1
  have HL1 := Lib.hid (show W.heap.size ≤ g1 ∧ W.heap.size ≤ gb1 by have := HB1.out.size; omega)
  have HB2 := Lib.hid (belowT HB1.out hB2)
  clear hg1 hgb1 hA1 hB2
  go_wp2_with fail
  refine (lbase_any y (by have := HY.out; omega) w2).mono ?_
  rintro e w3 ⟨rfl, rfl⟩
  rw [← HE2.out]
  go_wp2_with fail
  refine (new_any b2 4 w2 (by omega) (by omega) (by omega) HG2.out).mono ?_
  rintro e w3 ⟨g2, gb2, rfl, hg2, hgb2, hA2, hB3⟩
  rw [← HZS.out] at hA2
  have HA2 := Lib.hid hA2
  have HL2 := Lib.hid (show g1 < g2 ∧ g1 < gb2 ∧ gb1 < g2 ∧ gb1 < gb2 by have := HA1.out.lt; omega)
  have HA1 := Lib.hid (HA1.out.below hB3)
  have HB3 := Lib.hid (belowT HB2.out hB3)
  clear hg2 hgb2 hA2 hB3
  go_wp2_with fail
  go_loopw [11, 12, 13, 14, 15, 16, 17, 18, 39, 40, 41, 42, 43, 44, 45, 46, 47, 48, 49, 50, 51, 52, 53, 54, 55, 56, 57, 58, 59, 60, 61, 62, 63, 64, 65, 66, 67, 68, 69, 70, 71, 72, 73, 74, 75, 76, 77, 78, 79, 80, 81, 82, 83, 84, 85] (fun i _ _ _ _ _ _ _ _ _ _ _ _ _ _ _ _ _ _ _ _ _ _ _ _ _ _ _ _ _ _ _ _ _ _ _ _ _ _ _ _ _ _ _ _ _ _ _ _ _ _ _ _ _ _ wr => ∃ (k : Nat) (st : List UInt8), i = .int .i64 k ∧ k ≤ n ∧ k ≤ 200 ∧ st.length = 1024 ∧ Hid (Arn wr 71 g1 gb1 b1 st) ∧ Hid (Arn wr 71 g2 gb2 b2 st) ∧ Hid (Below W.heap.size W wr)) (fun i _ _ _ _ _ _ _ _ _ _ _ _ _ _ _ _ _ _ _ _ _ _ _ _ _ _ _ _ _ _ _ _ _ _ _ _ _ _ _ _ _ _ _ _ _ _ _ _ _ _ _ _ _ _ _ => n - (intOf i).toNat)
  case atStart => exact ⟨0, zs, rfl, by omega, by omega, HZ.out, HA1.out, HA2.out, HB3.out⟩
  case round =>
    obtain ⟨k, st, rfl, hkn, hk2, hst, HA, HAA, HB⟩ := hrel
    by_cases hlt : k < n ∧ k < 200
    · obtain ⟨hlt1, hlt2⟩ := hlt
      have hkl : k < cs.length := by have := HN.out; omega
      obtain ⟨b, off, rfl, hbl, hcs⟩ := HC.out.cells HR.out (by omega)
      obtain ⟨A3, c3, hc0, hc1, hc2, hc3, hc4, hc5, hc6, hr3, hl3, hw3⟩ := hcs k hkl
      have hc0 := cell_below HB.out hc0
      have hc1 := cell_below HB.out hc1
      have hc2 := cell_below HB.out hc2
      have hc3 := cell_below HB.out hc3
      have hc4 := cell_below HB.out hc4
      have hc5 := cell_below HB.out hc5
      have hc6 := cell_below HB.out hc6
      have HR3 := Lib.hid (hr3.below HB.out)
      have HL3 := Lib.hid hl3
      have HW3 := Lib.hid hw3
      generalize cs[k].kind = ck at *
      generalize cs[k].at_ = ca at *
      generalize cs[k].to_ = ct at *
      generalize cs[k].n = cn at *
      generalize cs[k].W = cw at *
      generalize cs[k].xs = xs at *
      generalize cs[k].near = nr at *
      have HST := Lib.hid hst
      have HRA := Lib.hid (show (∀ a, A3 = some a → 0 < xs.length → a.block ≠ gb1) ∧ (∀ a, A3 = some a → 0 < xs.length → a.block ≠ gb2) from ⟨@rd_apart W W A3 xs gb1 hr3 HL1.out.2, @rd_apart W W A3 xs gb2 hr3 (by have := HL1.out; have := HL2.out; omega)⟩)
      clear hcs hr3 hl3 hw3 hbl hst
      go_wp2_with fail
      obtain ⟨x4, hx4⟩ : ∃ x4, x4 = wr.alloc (.cells #[.int .i64 ck, .int .i64 ca, .int .i64 ct, .int .i64 cn, .int .u64 (cw : Int), .slice A3 xs.length c3, .bool true] 57 (0, 0)) := ⟨_, rfl⟩
      have hb4 : Below wr.heap.size wr x4 := by rw [hx4]; exact below_alloc _ _
      have HBX := Lib.hid (show x4.heap[wr.heap.size]? = some (.cells #[.int .i64 ck, .int .i64 ca, .int .i64 ct, .int .i64 cn, .int .u64 (cw : Int), .slice A3 xs.length c3, .bool true] 57 (0, 0)) by rw [hx4]; exact heap_alloc_new _ _)
      have HA4 := Lib.hid (HA.out.below hb4)
      have HAA4 := Lib.hid (HAA.out.below hb4)
      have HB4 := Lib.hid (belowT HB.out hb4)
      have HR4 := Lib.hid (HR3.out.below hb4)
      have HNE1 := Lib.hid (show wr.heap.size ≠ gb1 by have := HA.out.lt; omega)
      have HNE2 := Lib.hid (show wr.heap.size ≠ gb2 by have := HAA.out.lt; omega)
      have HNE3 := Lib.hid (show x4.heap.size ≠ gb1 by have := HA4.out.lt; omega)
      have HNE4 := Lib.hid (show x4.heap.size ≠ gb2 by have := HAA4.out.lt; omega)
      rw [← hx4]
      clear hx4 hb4 hc0 hc1 hc2 hc3 hc4 hc5 hc6
      obtain ⟨an, han⟩ : ∃ an, an = ans b1 st ⟨ck, ca, ct, cn, cw, xs, true⟩ := ⟨_, rfl⟩
      have HAN := Lib.hid (show an = ans b1 st ⟨ck, ca, ct, cn, cw, xs, true⟩ ∧ an = ans b2 st ⟨ck, ca, ct, cn, cw, xs, true⟩ from ⟨han, by rw [han, ans_sh b1 st _ rfl, ans_sh b2 st _ rfl]⟩)
      have HSTL := Lib.hid (show an.st.length = 1024 by rw [han, (len_ans _ _ _).1]; exact HST.out)
      have HD1 := Lib.hid (show ∀ wv, Arn wv 71 g1 gb1 b1 st → RdB wv A3 xs → Calls Try.prog 27 #[.pointer (some ⟨g1, 0, none⟩), .int .i64 b1, .agg #[.int .i64 ck, .int .i64 ca, .int .i64 ct, .int .i64 cn, .int .u64 (cw : Int), .slice A3 xs.length c3, .bool true]] wv fun e w' => DoPost wv 71 g1 gb1 b1 an e w' from fun wv h1 h2 => by
        rw [HAN.out.1]; exact do_any h1 ck ca ct cn cw A3 c3 xs true HW3.out h2 (by have := HL3.out; omega))
      have HD2 := Lib.hid (show ∀ wv, Arn wv 71 g2 gb2 b2 st → RdB wv A3 xs → Calls Try.prog 27 #[.pointer (some ⟨g2, 0, none⟩), .int .i64 b2, .agg #[.int .i64 ck, .int .i64 ca, .int .i64 ct, .int .i64 cn, .int .u64 (cw : Int), .slice A3 xs.length c3, .bool true]] wv fun e w' => DoPost wv 71 g2 gb2 b2 an e w' from fun wv h1 h2 => by
        rw [HAN.out.2]; exact do_any h1 ck ca ct cn cw A3 c3 xs true HW3.out h2 (by have := HL3.out; omega))
      have HGL7 := Lib.hid (show g1 < x4.heap.size ∧ gb1 < x4.heap.size from HA4.out.lt)
      clear han
      obtain ⟨⟨hz0, hz1, hz2, hz3, hz4, hz5, hz6⟩, _⟩ := keep7 HBX.out HNE1.out (grown_refl x4 _)
      go_region_held3 (fun w' => (w'.cell? ⟨wr.heap.size, 0, none⟩ = some (.int .i64 ck) ∧ w'.cell? ⟨wr.heap.size, 1, none⟩ = some (.int .i64 ca) ∧ w'.cell? ⟨wr.heap.size, 2, none⟩ = some (.int .i64 ct) ∧ w'.cell? ⟨wr.heap.size, 3, none⟩ = some (.int .i64 cn) ∧ w'.cell? ⟨wr.heap.size, 4, none⟩ = some (.int .u64 (cw : Int)) ∧ w'.cell? ⟨wr.heap.size, 5, none⟩ = some (.slice A3 xs.length c3) ∧ w'.cell? ⟨wr.heap.size, 6, none⟩ = some (.bool true)) ∧ x4.grownBy w' (some gb1))
        ((refine keep7 HBX.out HNE1.out ?_; repeat' (first | assumption | exact grown_refl _ _ | refine grown_drew ?_ | refine grown_dN ?_ _ | refine grownA ?_ _ | refine grownS ?_ _ _ ?_ | refine grownT ?_ (by assumption) | exact Nat.le_refl _ | exact hg7.size)))
        ((first
          | (go_at_call 12; refine (lbase_any x (by have := HX.out; omega) _).mono ?_; rintro e w7 ⟨rfl, rfl⟩; rw [← HE1.out])
          | (go_at_call 27; refine (HD1.out _ (HA4.out.below (by repeat' (first | assumption | exact Below.refl _ _ | refine below_drewN ?_ _ | refine Below.drew ?_ | refine belowA ?_ _))) (HR4.out.below (by repeat' (first | assumption | exact Below.refl _ _ | refine below_drewN ?_ _ | refine Below.drew ?_ | refine belowA ?_ _)))).mono ?_; rintro e w7 ⟨A7, n7, c7, rfl, hn7, hO7, hA7, hg7⟩; try (have hgx := (hg7.block _ (by simp [go_sem]) (fun e => HNE3.out (Option.some.inj e))).trans (heap_alloc_new _ _); obtain ⟨hq0, hq1, hq2⟩ := cells3 hgx; have hqf := fun j => frozen_of_row _ _ j _ _ hgx))))
      all_goals (first
        | (have hq := heap_alloc_new w7 (.cells #[.int .i64 an.a0, .int .i64 an.a1, .int .i64 an.a2] 52 (0, 0))
           have HS7 := Lib.hid (show x4.heap.size ≤ w7.heap.size from hg7.size)
           have HG7 := Lib.hid (show x4.grownBy (w7.alloc (.cells #[.int .i64 an.a0, .int .i64 an.a1, .int .i64 an.a2] 52 (0, 0))) (some gb1) from grownA (grownT (grown_drew (grown_refl _ _)) hg7) _)
           have HA7 := Lib.hid (hA7.below (below_alloc w7 (.cells #[.int .i64 an.a0, .int .i64 an.a1, .int .i64 an.a2] 52 (0, 0))))
           have HO7 := Lib.hid ((hO7.rdA).below (below_alloc w7 (.cells #[.int .i64 an.a0, .int .i64 an.a1, .int .i64 an.a2] 52 (0, 0))))
           have HQ7 := Lib.hid hq
           have HOL7 := Lib.hid (show ∀ a, A7 = some a → x4.heap.size ≤ a.block from fun a ha => Nat.le_trans (by first | exact Nat.le_refl _ | simp [go_sem]) (hO7.lt' a ha.symm))
           generalize w7.alloc (.cells #[.int .i64 an.a0, .int .i64 an.a1, .int .i64 an.a2] 52 (0, 0)) = x5 at *
           obtain ⟨r5, hr7⟩ : ∃ r, r = w7.heap.size := ⟨_, rfl⟩
           have HS7 := Lib.hid (show x4.heap.size ≤ r5 by rw [hr7]; exact HS7.out)
           rw [← hr7] at HQ7 ⊢
           clear hq hO7 hA7 hg7 hr7)
        | (have hq := set3_heap (a := .int .i64 an.a0) (b := .int .i64 an.a1) (c := .int .i64 an.a2) hgx
           have HS7 := Lib.hid (Nat.le_refl x4.heap.size)
           have HG7 := Lib.hid (show x4.grownBy (((w7.setCell ⟨x4.heap.size, 0, none⟩ (.int .i64 an.a0)).setCell ⟨x4.heap.size, 1, none⟩ (.int .i64 an.a1)).setCell ⟨x4.heap.size, 2, none⟩ (.int .i64 an.a2)) (some gb1) from grownS (grownS (grownS (grownT (by repeat' (first | exact grown_refl _ _ | refine grown_drew ?_ | refine grownA ?_ _)) hg7) _ _ (Nat.le_refl _)) _ _ (Nat.le_refl _)) _ _ (Nat.le_refl _))
           have HA7 := Lib.hid (set3_arn (r := x4.heap.size) hA7 (by have := HGL7.out; omega) (by have := HGL7.out; omega) (.int .i64 an.a0) (.int .i64 an.a1) (.int .i64 an.a2))
           have HO7 := Lib.hid (OwnB.rdA (set3_own (r := x4.heap.size) hO7 (by simp [go_sem]) (.int .i64 an.a0) (.int .i64 an.a1) (.int .i64 an.a2)))
           have HQ7 := Lib.hid hq
           have HOL7 := Lib.hid (show ∀ a, A7 = some a → x4.heap.size ≤ a.block from fun a ha => Nat.le_trans (by first | exact Nat.le_refl _ | simp [go_sem]) (hO7.lt' a ha.symm))
           unfold set3 at HA7 HO7 HQ7 hq
           clear hq
           generalize ((w7.setCell ⟨x4.heap.size, 0, none⟩ (.int .i64 an.a0)).setCell ⟨x4.heap.size, 1, none⟩ (.int .i64 an.a1)).setCell ⟨x4.heap.size, 2, none⟩ (.int .i64 an.a2) = x5 at *
           obtain ⟨r5, hr7⟩ : ∃ r, r = x4.heap.size := ⟨_, rfl⟩
           have HS7 := Lib.hid (show x4.heap.size ≤ r5 by rw [hr7]; exact HS7.out)
           rw [← hr7] at HQ7 ⊢
           clear hO7 hA7 hg7 hr7 hgx hq0 hq1 hq2 hqf))
      all_goals (
        have HBX5 := Lib.hid ((HG7.out.block wr.heap.size (Array.getElem?_eq_some_iff.1 HBX.out).1 (fun e => HNE1.out (Option.some.inj e))).trans HBX.out)
        have HAA5 := Lib.hid (HAA4.out.grown HG7.out (by have := HL2.out; omega) (by have := HL2.out; omega))
        have HR5 := Lib.hid (HR4.out.grownN HG7.out HRA.out.1)
        have HGL8 := Lib.hid HAA5.out.lt
        have HNE5 := Lib.hid (show x5.heap.size ≠ gb2 by have := HGL8.out; omega)
        have HRL5 := Lib.hid (show r5 < x5.heap.size from (Array.getElem?_eq_some_iff.1 HQ7.out).1)
        have HRN5 := Lib.hid (show r5 ≠ gb2 by have := HAA4.out.lt; have := HS7.out; omega)
        clear hz0 hz1 hz2 hz3 hz4 hz5 hz6
        obtain ⟨⟨hz0, hz1, hz2, hz3, hz4, hz5, hz6⟩, _⟩ := keep7 HBX5.out HNE2.out (grown_refl x5 _)
        go_wp2
        go_region_held3 (fun w' => (w'.cell? ⟨wr.heap.size, 0, none⟩ = some (.int .i64 ck) ∧ w'.cell? ⟨wr.heap.size, 1, none⟩ = some (.int .i64 ca) ∧ w'.cell? ⟨wr.heap.size, 2, none⟩ = some (.int .i64 ct) ∧ w'.cell? ⟨wr.heap.size, 3, none⟩ = some (.int .i64 cn) ∧ w'.cell? ⟨wr.heap.size, 4, none⟩ = some (.int .u64 (cw : Int)) ∧ w'.cell? ⟨wr.heap.size, 5, none⟩ = some (.slice A3 xs.length c3) ∧ w'.cell? ⟨wr.heap.size, 6, none⟩ = some (.bool true)) ∧ x5.grownBy w' (some gb2))
        ((refine keep7 HBX5.out HNE2.out ?_; repeat' (first | assumption | exact grown_refl _ _ | refine grown_drew ?_ | refine grown_dN ?_ _ | refine grownA ?_ _ | refine grownS ?_ _ _ ?_ | refine grownT ?_ (by assumption) | exact Nat.le_refl _ | exact hg8.size)))
        ((first
          | (go_at_call 12; refine (lbase_any y (by have := HY.out; omega) _).mono ?_; rintro e w7 ⟨rfl, rfl⟩; rw [← HE2.out])
          | (go_at_call 27; refine (HD2.out _ (HAA5.out.below (by repeat' (first | assumption | exact Below.refl _ _ | refine below_drewN ?_ _ | refine Below.drew ?_ | refine belowA ?_ _))) (HR5.out.below (by repeat' (first | assumption | exact Below.refl _ _ | refine below_drewN ?_ _ | refine Below.drew ?_ | refine belowA ?_ _)))).mono ?_; rintro e w8 ⟨A8, n8, c8, rfl, hn8, hO8, hA8, hg8⟩; try (have hgx := (hg8.block _ (by simp [go_sem]) (fun e => HNE5.out (Option.some.inj e))).trans (heap_alloc_new _ _); obtain ⟨hq0, hq1, hq2⟩ := cells3 hgx; have hqf := fun j => frozen_of_row _ _ j _ _ hgx))))
        )
      all_goals (first
        | (have hq := heap_alloc_new w8 (.cells #[.int .i64 an.a0, .int .i64 an.a1, .int .i64 an.a2] 52 (0, 0))
           have HS8 := Lib.hid (show x5.heap.size ≤ w8.heap.size from hg8.size)
           have HG8 := Lib.hid (show x5.grownBy (w8.alloc (.cells #[.int .i64 an.a0, .int .i64 an.a1, .int .i64 an.a2] 52 (0, 0))) (some gb2) from grownA (grownT (grown_drew (grown_refl _ _)) hg8) _)
           have HA8 := Lib.hid (hA8.below (below_alloc w8 (.cells #[.int .i64 an.a0, .int .i64 an.a1, .int .i64 an.a2] 52 (0, 0))))
           have HO8 := Lib.hid ((hO8.rdA).below (below_alloc w8 (.cells #[.int .i64 an.a0, .int .i64 an.a1, .int .i64 an.a2] 52 (0, 0))))
           have HQ8 := Lib.hid hq
           have HOL8 := Lib.hid (show ∀ a, A8 = some a → x5.heap.size ≤ a.block from fun a ha => Nat.le_trans (by first | exact Nat.le_refl _ | simp [go_sem]) (hO8.lt' a ha.symm))
           generalize w8.alloc (.cells #[.int .i64 an.a0, .int .i64 an.a1, .int .i64 an.a2] 52 (0, 0)) = x6 at *
           obtain ⟨r6, hr8⟩ : ∃ r, r = w8.heap.size := ⟨_, rfl⟩
           have HS8 := Lib.hid (show x5.heap.size ≤ r6 by rw [hr8]; exact HS8.out)
           rw [← hr8] at HQ8 ⊢
           clear hq hO8 hA8 hg8 hr8)
        | (have hq := set3_heap (a := .int .i64 an.a0) (b := .int .i64 an.a1) (c := .int .i64 an.a2) hgx
           have HS8 := Lib.hid (Nat.le_refl x5.heap.size)
           have HG8 := Lib.hid (show x5.grownBy (((w8.setCell ⟨x5.heap.size, 0, none⟩ (.int .i64 an.a0)).setCell ⟨x5.heap.size, 1, none⟩ (.int .i64 an.a1)).setCell ⟨x5.heap.size, 2, none⟩ (.int .i64 an.a2)) (some gb2) from grownS (grownS (grownS (grownT (by repeat' (first | exact grown_refl _ _ | refine grown_drew ?_ | refine grownA ?_ _)) hg8) _ _ (Nat.le_refl _)) _ _ (Nat.le_refl _)) _ _ (Nat.le_refl _))
           have HA8 := Lib.hid (set3_arn (r := x5.heap.size) hA8 (by have := HGL8.out; omega) (by have := HGL8.out; omega) (.int .i64 an.a0) (.int .i64 an.a1) (.int .i64 an.a2))
           have HO8 := Lib.hid (OwnB.rdA (set3_own (r := x5.heap.size) hO8 (by simp [go_sem]) (.int .i64 an.a0) (.int .i64 an.a1) (.int .i64 an.a2)))
           have HQ8 := Lib.hid hq
           have HOL8 := Lib.hid (show ∀ a, A8 = some a → x5.heap.size ≤ a.block from fun a ha => Nat.le_trans (by first | exact Nat.le_refl _ | simp [go_sem]) (hO8.lt' a ha.symm))
           unfold set3 at HA8 HO8 HQ8 hq
           clear hq
           generalize ((w8.setCell ⟨x5.heap.size, 0, none⟩ (.int .i64 an.a0)).setCell ⟨x5.heap.size, 1, none⟩ (.int .i64 an.a1)).setCell ⟨x5.heap.size, 2, none⟩ (.int .i64 an.a2) = x6 at *
           obtain ⟨r6, hr8⟩ : ∃ r, r = x5.heap.size := ⟨_, rfl⟩
           have HS8 := Lib.hid (show x5.heap.size ≤ r6 by rw [hr8]; exact HS8.out)
           rw [← hr8] at HQ8 ⊢
           clear hO8 hA8 hg8 hr8 hgx hq0 hq1 hq2 hqf))
      all_goals (
        have hq5 := (HG8.out.block r5 HRL5.out (fun e => HRN5.out (Option.some.inj e))).trans HQ7.out
        have hq6 := HQ8.out
        obtain ⟨hp0, hp1, hp2⟩ := cells3 hq5
        obtain ⟨hs0, hs1, hs2⟩ := cells3 hq6
        have HA9 := Lib.hid (HA7.out.grown HG8.out (by have := HL2.out; omega) (by have := HL2.out; omega))
        have HO9 := Lib.hid (HO7.out.grownN HG8.out (fun a ha _ => by have := HOL7.out a ha; have := HAA4.out.lt; omega))
        have HB9 := Lib.hid (below_grown (below_grown HB4.out HG7.out HB4.out.size (fun k hk => by cases hk; exact HL1.out.2)) HG8.out (Nat.le_trans HB4.out.size HG7.out.size) (fun k hk => by cases hk; have := HL1.out; have := HL2.out; omega))
        clear hz0 hz1 hz2 hz3 hz4 hz5 hz6 hq5 hq6
        have heq := Try.arr3 an.a0 an.a1 an.a2 x6
        go_wp2_with fail
        refine (same_any A7 A8 _ _ c7 c8 _ _ x6 HO9.out HO8.out rfl rfl).mono ?_
        rintro e w9 ⟨rfl, rfl⟩
        rw [decide_eq_true rfl]
        go_wp2
        go_roundw
        case rel => exact ⟨k + 1, an.st, by go_num, by omega, by omega, HSTL.out, HA9.out, HA8.out, HB9.out⟩
        case measure => simp [intOf]; omega)
    · have hex : k = n ∨ (k < n ∧ k = 200) := by omega
      clear hlt
      have HST := Lib.hid hst; clear hst
      rcases hex with rfl | ⟨hkn, rfl⟩
      all_goals (
        go_wp2_with fail
        refine (bytes_any HA.out).mono ?_
        rintro e w4 ⟨A4, c4, rfl, hr4, hB4⟩
        have HAA4 := Lib.hid (HAA.out.below hB4)
        have HB4 := Lib.hid (belowT HB.out hB4)
        have HR4 := Lib.hid (hr4.rdA)
        clear hB4 hr4
        go_wp2_with fail
        refine (bytes_any HAA4.out).mono ?_
        rintro e w5 ⟨A5, c5, rfl, hr5, hB5⟩
        have HR4 := Lib.hid (HR4.out.below hB5)
        go_wp2_with fail
        refine (same_any A4 A5 _ _ c4 c5 _ _ w5 HR4.out (hr5.rdA) rfl rfl).mono ?_
        rintro e w6 ⟨rfl, rfl⟩
        rw [decide_eq_true rfl]
        go_wp2
        go_ret
        exact ⟨rfl, belowT HB4.out hB5⟩)
theorem arenaBases_front (x y : Nat) (A : Option Addr) (n cap : Nat) (W : World) (hx : x < 4294967296) (hy : y < 4294967296) (hR : rSlice 7 72 (rStruct [rInt .i64, rInt .i64, rInt .i64, rInt .i64, rInt .u64, rSlice 1 1 (rInt .u8), rBool]) W [.slice A n cap]) :
    Calls Try.prog 8 #[.int .u32 (x : Int), .int .u32 (y : Int), .slice A n cap] W fun e w' => e = .returned (.bool true) ∧ Below W.heap.size W w' := by
  obtain ⟨A2, len, cap2, es, hv, hl, h1, h2, _, he, hrd⟩ := hR
  simp only [List.cons.injEq, Value.slice.injEq, and_true] at hv
  obtain ⟨rfl, rfl, rfl⟩ := hv
  obtain ⟨cs, hcl, hce⟩ := calls_in es he
  exact arenaBases_walk x y A n cap es.flatten cs W hx hy hrd hce (by omega) (by omega)
end Go.Proofs.Ytjfbopnohijhkaa
