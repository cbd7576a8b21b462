/- The walk of ArenaPlays. -/
import Derived.Test.YtjfbopnohijhkaaArenaF
import Derived.Test.YtjfbopnohijhkaaArenaL2
import Derived.Deep.RegionHeld3
import Derived.Deep.DrawnRows
namespace Go.Proofs.Ytjfbopnohijhkaa
open Go.RowKit
attribute [local go_sem ↓] Go.wp_at_zero Go.wp_at_succ
set_option linter.unusedVariables false
theorem quiet1 {P : Program} {f : FuncId} {args : Array Value} {w : World} {m : Nat} {v : Value} (h : Calls P f args (w.drewN m) fun e w' => e = .returned v ∧ w.drewN m = w') : Calls P f args (w.drewN m) fun e w'' => e = .returned v ∧ ∃ k, w'' = w.drewN k :=
  h.mono fun _ _ ⟨h1, h2⟩ => ⟨h1, m, h2.symm⟩
/-- Seven cells, kept. -/
theorem keepK {w w' : World} {b o0 o1 o2 o3 o4 o5 o6 gb : Nat} {x0 x1 x2 x3 x4 x5 x6 : Value} (h : w.cell? ⟨b, o0, none⟩ = some x0 ∧ w.cell? ⟨b, o1, none⟩ = some x1 ∧ w.cell? ⟨b, o2, none⟩ = some x2 ∧ w.cell? ⟨b, o3, none⟩ = some x3 ∧ w.cell? ⟨b, o4, none⟩ = some x4 ∧ w.cell? ⟨b, o5, none⟩ = some x5 ∧ w.cell? ⟨b, o6, none⟩ = some x6) (hne : b ≠ gb) (hg : w.grownBy w' (some gb)) :
    (w'.cell? ⟨b, o0, none⟩ = some x0 ∧ w'.cell? ⟨b, o1, none⟩ = some x1 ∧ w'.cell? ⟨b, o2, none⟩ = some x2 ∧ w'.cell? ⟨b, o3, none⟩ = some x3 ∧ w'.cell? ⟨b, o4, none⟩ = some x4 ∧ w'.cell? ⟨b, o5, none⟩ = some x5 ∧ w'.cell? ⟨b, o6, none⟩ = some x6) ∧ w.grownBy w' (some gb) := by
  have hb := hg.block b (World.block_lt_of_cell? w _ h.1) (fun e => hne (Option.some.inj e))
  obtain ⟨h0, h1, h2, h3, h4, h5, h6⟩ := h
  exact ⟨⟨(World.cell?_of_block (w := w) hb).trans h0, (World.cell?_of_block (w := w) hb).trans h1, (World.cell?_of_block (w := w) hb).trans h2, (World.cell?_of_block (w := w) hb).trans h3, (World.cell?_of_block (w := w) hb).trans h4, (World.cell?_of_block (w := w) hb).trans h5, (World.cell?_of_block (w := w) hb).trans h6⟩, hg⟩
theorem u8inc (c : UInt8) : ((c.toNat : Int) + 1) % 256 = ((UInt8.ofNat (c.toNat + 1)).toNat : Int) := by rw [UInt8.toNat_ofNat']; omega
theorem Arn.setN {w : World} {T : TypeId} {g gb : Nat} {base : Int} {bs : List UInt8} (h : Arn w T g gb base bs) (j k : Nat) (v : Value) (h1 : g < j) (h2 : gb < j) : Arn (w.setCell ⟨j, k, none⟩ v) T g gb base bs :=
  h.keep (heap_setCell_other _ _ _ _ (by show g ≠ j; omega)) (heap_setCell_other _ _ _ _ (by show gb ≠ j; omega))
set_option maxHeartbeats 4000000 in
set_option maxRecDepth 20000 in
theorem arenaPlays_walk (x p : Nat) (A : Option Addr) (n cap : Nat) (vs : List Value) (cs : List Cl) (W : World) (hx : x < 4294967296) (hp : p < 256) (hr : RdL W A vs) (hc : ClE W vs cs) (hn : n = cs.length) (hnb : n ≤ 9223372036854775807) :
    Calls Try.prog 7 #[.int .u32 (x : Int), .int .u8 (p : Int), .slice A n cap] W fun e w' => e = .returned (.bool true) ∧ Below W.heap.size W w' := by
  have HX := Lib.hid hx; clear hx
  have HR := Lib.hid hr; clear hr
  have HC := Lib.hid hc; clear hc
  have HN := Lib.hid hn; clear hn
  obtain ⟨b1, hb1⟩ : ∃ b : Int, b = 256 + 256 * (x : Int) := ⟨_, rfl⟩
  have HG1 := Lib.hid (show goodB b1 = true by rw [hb1]; exact good_lbase x (by have := HX.out; omega))
  have hbb1 : 256 ≤ b1 ∧ b1 ≤ 1099511627776 := by have := HX.out; omega
  have HE1 := Lib.hid hb1; clear hb1
  have hK8 : 1 ≤ 1 + (p : Int) % 8 ∧ 1 + (p : Int) % 8 ≤ 8 := by omega
  go_enter Try.func7, Try.ntmps7
  go_wp2_with fail
  refine (alive_any W).mono ?_
  rintro e w1 ⟨rfl, hB1⟩
  have HB1 := Lib.hid hB1; clear hB1
  go_wp2_with fail
  refine (lbase_any x (by have := HX.out; omega) w1).mono ?_
  rintro e w2 ⟨rfl, rfl⟩
  rw [← HE1.out]
  go_wp2_with fail
  generalize 1 + (p : Int) % 8 = K at *
  refine (new_any b1 K w1 (by omega) (by omega) (by omega) HG1.out).mono ?_
  rintro e w2 ⟨g1, gb1, rfl, hg1, hgb1, hA1, hB2⟩
  obtain ⟨zs, hzs⟩ : ∃ zs : List UInt8, zs = List.replicate (256 * K.toNat) 0 := ⟨_, rfl⟩
  rw [← hzs] at hA1
  have HZ := Lib.hid (show (zs.length : Int) = 256 * K by rw [hzs, List.length_replicate]; omega)
  have HZS := Lib.hid hzs; clear hzs
  have HA1 := Lib.hid hA1
  have HL1 := Lib.hid (show W.heap.size ≤ g1 ∧ W.heap.size ≤ gb1 by have := HB1.out.size; omega)
  have HB2 := Lib.hid (belowT HB1.out hB2)
  clear hg1 hgb1 hA1 hB2
  go_wp2_with fail
  refine (lbase_any x (by have := HX.out; omega) w2).mono ?_
  rintro e w3 ⟨rfl, rfl⟩
  rw [← HE1.out]
  go_wp2_with fail
  refine (refNew_any b1 K w2 (by omega) (by omega) (by omega) HG1.out).mono ?_
  rintro e w3 ⟨g2, gb2, rfl, hg2, hgb2, hA2, hB3⟩
  rw [← HZS.out] at hA2
  have HA2 := Lib.hid hA2
  have HL2 := Lib.hid (show g1 < g2 ∧ g1 < gb2 ∧ gb1 < g2 ∧ gb1 < gb2 by have := HA1.out.lt; omega)
  have HA1 := Lib.hid (HA1.out.below hB3)
  have HB3 := Lib.hid (belowT HB2.out hB3)
  clear hg2 hgb2 hA2 hB3
  go_wp2_with fail
  go_loopw [12, 13, 14, 15, 16, 17, 18, 19, 47, 48, 49, 50, 51, 52, 53, 54, 55, 56, 57, 58, 59, 60, 61, 62, 63, 64, 65, 66, 67, 68, 69, 70, 71, 72, 73, 74, 75, 76, 77, 78, 79, 80, 81, 82, 83, 84, 85, 86, 87, 88, 89, 90, 91, 92, 93, 94, 95, 96, 97, 98, 99, 100, 101, 102, 103, 104, 105, 106] (fun i _ _ _ _ _ _ _ _ _ _ _ _ _ _ _ _ _ _ _ _ _ _ _ _ _ _ _ _ _ _ _ _ _ _ _ _ _ _ _ _ _ _ _ _ _ _ _ _ _ _ _ _ _ _ _ _ _ _ _ _ _ _ _ _ _ _ _ wr => ∃ (k : Nat) (st : List UInt8), i = .int .i64 k ∧ k ≤ n ∧ k ≤ 200 ∧ Hid ((st.length : Int) = 256 * K) ∧ Hid (Arn wr 71 g1 gb1 b1 st) ∧ Hid (Arn wr 35 g2 gb2 b1 st) ∧ Hid (Below W.heap.size W wr)) (fun i _ _ _ _ _ _ _ _ _ _ _ _ _ _ _ _ _ _ _ _ _ _ _ _ _ _ _ _ _ _ _ _ _ _ _ _ _ _ _ _ _ _ _ _ _ _ _ _ _ _ _ _ _ _ _ _ _ _ _ _ _ _ _ _ _ _ _ _ => n - (intOf i).toNat)
  case atStart => exact ⟨0, zs, rfl, by omega, by omega, HZ.out, HA1.out, HA2.out, HB3.out⟩
  case round =>
    obtain ⟨k, st, rfl, hkn, hk2, HST, HA, HAA, HB⟩ := hrel
    by_cases hlt : k < n ∧ k < 200
    · obtain ⟨hlt1, hlt2⟩ := hlt
      have hkl : k < cs.length := by have := HN.out; omega
      obtain ⟨bb, off, rfl, hbl, hcs⟩ := HC.out.cells HR.out (by omega)
      obtain ⟨A3, c3, hc0, hc1, hc2, hc3, hc4, hc5, hc6, hr3, hl3, hw3⟩ := hcs k hkl
      have hc0 := cell_below HB.out hc0
      have hc1 := cell_below HB.out hc1
      have hc2 := cell_below HB.out hc2
      have hc3 := cell_below HB.out hc3
      have hc4 := cell_below HB.out hc4
      have hc5 := cell_below HB.out hc5
      have hc6 := cell_below HB.out hc6
      have HR3 := Lib.hid (hr3.below HB.out)
      have HL3 := Lib.hid hl3
      have HW3 := Lib.hid hw3
      generalize cs[k].kind = ck at *
      generalize cs[k].at_ = ca at *
      generalize cs[k].to_ = ct at *
      generalize cs[k].n = cn at *
      generalize cs[k].W = cw at *
      generalize cs[k].xs = xs at *
      generalize cs[k].near = nr at *
      have HRA := Lib.hid (show (∀ a, A3 = some a → 0 < xs.length → a.block ≠ gb1) ∧ (∀ a, A3 = some a → 0 < xs.length → a.block ≠ gb2) from ⟨@rd_apart W W A3 xs gb1 hr3 HL1.out.2, @rd_apart W W A3 xs gb2 hr3 (by have := HL1.out; have := HL2.out; omega)⟩)
      have HNE1 := Lib.hid (show bb ≠ gb1 by have := HL1.out; omega)
      have HNE2 := Lib.hid (show bb ≠ gb2 by have := HL1.out; have := HL2.out; omega)
      have HNE3 := Lib.hid (show wr.heap.size ≠ gb1 by have := HA.out.lt; omega)
      clear hcs hr3 hl3 hw3 hbl
      obtain ⟨an, han⟩ : ∃ an, an = ans b1 st ⟨ck, ca, ct, cn, cw, xs, nr⟩ := ⟨_, rfl⟩
      have HAN := Lib.hid han
      have HSTL := Lib.hid (show (an.st.length : Int) = 256 * K by rw [han, (len_ans _ _ _).1]; exact HST.out)
      have HOUT := Lib.hid (show an.out.length ≤ 2048 by have h := (len_ans b1 st ⟨ck, ca, ct, cn, cw, xs, nr⟩).2; rw [← han] at h; have := HST.out; omega)
      have HD1 := Lib.hid (show ∀ wv, Arn wv 71 g1 gb1 b1 st → RdB wv A3 xs → Calls Try.prog 27 #[.pointer (some ⟨g1, 0, none⟩), .int .i64 b1, .agg #[.int .i64 ck, .int .i64 ca, .int .i64 ct, .int .i64 cn, .int .u64 (cw : Int), .slice A3 xs.length c3, .bool nr]] wv fun e w' => DoPost wv 71 g1 gb1 b1 an e w' from fun wv h1 h2 => by
        rw [HAN.out]; exact do_any h1 ck ca ct cn cw A3 c3 xs nr HW3.out h2 (by have := HL3.out; omega))
      have HD2 := Lib.hid (show ∀ wv, Arn wv 35 g2 gb2 b1 st → RdB wv A3 xs → Calls Try.prog 28 #[.pointer (some ⟨g2, 0, none⟩), .agg #[.int .i64 ck, .int .i64 ca, .int .i64 ct, .int .i64 cn, .int .u64 (cw : Int), .slice A3 xs.length c3, .bool nr]] wv fun e w' => DoPost wv 35 g2 gb2 b1 an e w' from fun wv h1 h2 => by
        rw [HAN.out]; exact want_any h1 ck ca ct cn cw A3 c3 xs nr HW3.out h2 HRA.out.2)
      have HGL7 := Lib.hid (show g1 < wr.heap.size ∧ gb1 < wr.heap.size ∧ g2 < wr.heap.size ∧ gb2 < wr.heap.size from ⟨HA.out.lt.1, HA.out.lt.2, HAA.out.lt.1, HAA.out.lt.2⟩)
      have HCS := Lib.hid (And.intro hc0 (And.intro hc1 (And.intro hc2 (And.intro hc3 (And.intro hc4 (And.intro hc5 hc6))))))
      have hi0 : (0 : Int) ≤ (k : Int) := by omega
      have hi1 : (k : Int) < (n : Int) := by omega
      clear han
      go_wp2_with fail
      go_region_held3 (fun w' => (w'.cell? ⟨bb, off + k * 7, none⟩ = some (.int .i64 ck) ∧ w'.cell? ⟨bb, off + k * 7 + 1, none⟩ = some (.int .i64 ca) ∧ w'.cell? ⟨bb, off + k * 7 + 2, none⟩ = some (.int .i64 ct) ∧ w'.cell? ⟨bb, off + k * 7 + 3, none⟩ = some (.int .i64 cn) ∧ w'.cell? ⟨bb, off + k * 7 + 4, none⟩ = some (.int .u64 (cw : Int)) ∧ w'.cell? ⟨bb, off + k * 7 + 5, none⟩ = some (.slice A3 xs.length c3) ∧ w'.cell? ⟨bb, off + k * 7 + 6, none⟩ = some (.bool nr)) ∧ wr.grownBy w' (some gb1))
        ((refine keepK HCS.out HNE1.out ?_; repeat' (first | assumption | exact grown_refl _ _ | refine grown_drew ?_ | refine grown_dN ?_ _ | refine grownA ?_ _ | refine grownS ?_ _ _ ?_ | refine grownT ?_ (by assumption) | exact Nat.le_refl _ | exact hg7.size)))
        ((first
          | (go_at_call 12; refine (lbase_any x (by have := HX.out; omega) _).mono ?_; rintro e w7 ⟨rfl, rfl⟩; rw [← HE1.out])
          | (go_at_call 27; refine (HD1.out _ (HA.out.below (by repeat' (first | assumption | exact Below.refl _ _ | refine below_drewN ?_ _ | refine Below.drew ?_ | refine belowA ?_ _))) (HR3.out.below (by repeat' (first | assumption | exact Below.refl _ _ | refine below_drewN ?_ _ | refine Below.drew ?_ | refine belowA ?_ _)))).mono ?_; rintro e w7 ⟨A7, n7, c7, rfl, hn7, hO7, hA7, hg7⟩; try (have hgx := (hg7.block _ (by simp [go_sem]) (fun e => HNE3.out (Option.some.inj e))).trans (heap_alloc_new _ _); obtain ⟨hq0, hq1, hq2⟩ := cells3 hgx; have hqf := fun j => frozen_of_row _ _ j _ _ hgx))))
      all_goals (first
        | (have hq := heap_alloc_new w7 (.cells #[.int .i64 an.a0, .int .i64 an.a1, .int .i64 an.a2] 52 (0, 0))
           have HS7 := Lib.hid (show wr.heap.size ≤ w7.heap.size from hg7.size)
           have HG7 := Lib.hid (show wr.grownBy (w7.alloc (.cells #[.int .i64 an.a0, .int .i64 an.a1, .int .i64 an.a2] 52 (0, 0))) (some gb1) from grownA (grownT (grown_drew (grown_refl _ _)) hg7) _)
           have HA7 := Lib.hid (hA7.below (below_alloc w7 (.cells #[.int .i64 an.a0, .int .i64 an.a1, .int .i64 an.a2] 52 (0, 0))))
           have HO7 := Lib.hid (show OwnB (w7.alloc (.cells #[.int .i64 an.a0, .int .i64 an.a1, .int .i64 an.a2] 52 (0, 0))) wr.heap.size 5 (.slice A7 n7 c7) an.out from own_le (hO7.below (below_alloc w7 (.cells #[.int .i64 an.a0, .int .i64 an.a1, .int .i64 an.a2] 52 (0, 0)))) (by first | exact Nat.le_refl _ | simp [go_sem]))
           have HQ7 := Lib.hid hq
           generalize w7.alloc (.cells #[.int .i64 an.a0, .int .i64 an.a1, .int .i64 an.a2] 52 (0, 0)) = x5 at *
           obtain ⟨r5, hr7⟩ : ∃ r, r = w7.heap.size := ⟨_, rfl⟩
           have HS7 := Lib.hid (show wr.heap.size ≤ r5 by rw [hr7]; exact HS7.out)
           rw [← hr7] at HQ7 ⊢
           clear hq hO7 hA7 hg7 hr7)
        | (have hq := set3_heap (a := .int .i64 an.a0) (b := .int .i64 an.a1) (c := .int .i64 an.a2) hgx
           have HG7 := Lib.hid (show wr.grownBy (((w7.setCell ⟨wr.heap.size, 0, none⟩ (.int .i64 an.a0)).setCell ⟨wr.heap.size, 1, none⟩ (.int .i64 an.a1)).setCell ⟨wr.heap.size, 2, none⟩ (.int .i64 an.a2)) (some gb1) from grownS (grownS (grownS (grownT (by repeat' (first | exact grown_refl _ _ | refine grown_drew ?_ | refine grownA ?_ _)) hg7) _ _ (Nat.le_refl _)) _ _ (Nat.le_refl _)) _ _ (Nat.le_refl _))
           have HA7 := Lib.hid (set3_arn (r := wr.heap.size) hA7 (by have := HGL7.out; omega) (by have := HGL7.out; omega) (.int .i64 an.a0) (.int .i64 an.a1) (.int .i64 an.a2))
           have HO7 := Lib.hid (show OwnB (set3 w7 wr.heap.size (.int .i64 an.a0) (.int .i64 an.a1) (.int .i64 an.a2)) wr.heap.size 5 (.slice A7 n7 c7) an.out from own_le (set3_own (r := wr.heap.size) hO7 (by simp [go_sem]) (.int .i64 an.a0) (.int .i64 an.a1) (.int .i64 an.a2)) (by first | exact Nat.le_refl _ | simp [go_sem]))
           have HQ7 := Lib.hid hq
           unfold set3 at HA7 HO7 HQ7 hq
           clear hq
           generalize ((w7.setCell ⟨wr.heap.size, 0, none⟩ (.int .i64 an.a0)).setCell ⟨wr.heap.size, 1, none⟩ (.int .i64 an.a1)).setCell ⟨wr.heap.size, 2, none⟩ (.int .i64 an.a2) = x5 at *
           obtain ⟨r5, hr7⟩ : ∃ r, r = wr.heap.size := ⟨_, rfl⟩
           have HS7 := Lib.hid (show wr.heap.size ≤ r5 by rw [hr7]; exact Nat.le_refl _)
           rw [← hr7] at HQ7 ⊢
           clear hO7 hA7 hg7 hr7 hgx hq0 hq1 hq2 hqf))
      all_goals (
        have HAA5 := Lib.hid (HAA.out.grown HG7.out (by have := HL2.out; omega) (by have := HL2.out; omega))
        have HR5 := Lib.hid (HR3.out.grownN HG7.out HRA.out.1)
        have HRL5 := Lib.hid (show r5 < x5.heap.size from (Array.getElem?_eq_some_iff.1 HQ7.out).1)
        have HRN5 := Lib.hid (show r5 ≠ gb2 by have := HGL7.out; have := HS7.out; omega)
        have HU7 := Lib.hid (HO7.out.u8s hn7)
        subst hn7
        have HO7 := Lib.hid HO7.out.rdA
        have HX5 := Lib.hid (show wr.heap.size ≤ x5.heap.size from HG7.out.size)
        clear hc0 hc1 hc2 hc3 hc4 hc5 hc6
        obtain ⟨⟨hc0, hc1, hc2, hc3, hc4, hc5, hc6⟩, _⟩ := keepK HCS.out HNE1.out HG7.out
        go_wp2_with fail
        refine (HD2.out _ HAA5.out HR5.out).mono ?_
        rintro e w8 ⟨A8, n8, c8, rfl, hn8, hO8, hA8, hg8⟩
        subst hn8
        have hp5 := (Below.heap_alloc w8 (.cells #[.int .i64 an.a0, .int .i64 an.a1, .int .i64 an.a2] 52 (0, 0)) r5 (Nat.lt_of_lt_of_le HRL5.out hg8.size)).trans ((hg8.block r5 HRL5.out (fun e => HRN5.out (Option.some.inj e))).trans HQ7.out)
        obtain ⟨hp0, hp1, hp2⟩ := cells3 hp5
        obtain ⟨hs0, hs1, hs2⟩ := cells3 (heap_alloc_new w8 (.cells #[.int .i64 an.a0, .int .i64 an.a1, .int .i64 an.a2] 52 (0, 0)))
        have heq := Try.arr3 an.a0 an.a1 an.a2 (w8.alloc (.cells #[.int .i64 an.a0, .int .i64 an.a1, .int .i64 an.a2] 52 (0, 0)))
        have hba := below_alloc w8 (.cells #[.int .i64 an.a0, .int .i64 an.a1, .int .i64 an.a2] 52 (0, 0))
        have HA9 := Lib.hid ((HA7.out.grown hg8 (by have := HL2.out; omega) (by have := HL2.out; omega)).below hba)
        have HAA9 := Lib.hid (hA8.below hba)
        have HU9 := Lib.hid ((HU7.out.grown hg8 (by have := HGL7.out; omega)).below hba)
        have HO9 := Lib.hid ((HO7.out.grownN hg8 (fun a ha hp => by obtain ⟨gq, hgq, hlo, _⟩ := HU7.out hp; rw [hgq] at ha; cases ha; have := HGL7.out; show gq ≠ gb2; omega)).below hba)
        have HO8 := Lib.hid (hO8.rdA.below hba)
        have HB9 := Lib.hid (show Below W.heap.size W (w8.alloc (.cells #[.int .i64 an.a0, .int .i64 an.a1, .int .i64 an.a2] 52 (0, 0))) from belowT (below_grown (below_grown HB.out HG7.out HB.out.size (fun k hk => by cases hk; exact HL1.out.2)) hg8 (Nat.le_trans HB.out.size HX5.out) (fun k hk => by cases hk; have := HL1.out; have := HL2.out; omega)) hba)
        have HSW := Lib.hid HB.out.size
        clear hp5 hba hA8 hO8 hg8 hc0 hc1 hc2 hc3 hc4 hc5 hc6
        go_wp2_with fail
        generalize w8.alloc (.cells #[.int .i64 an.a0, .int .i64 an.a1, .int .i64 an.a2] 52 (0, 0)) = x6 at *
        refine (same_any A7 A8 _ _ c7 c8 _ _ x6 HO9.out HO8.out rfl rfl).mono ?_
        rintro e w9 ⟨rfl, rfl⟩
        rw [decide_eq_true rfl]
        clear hp0 hp1 hp2 hs0 hs1 hs2 heq
        go_wp2_with fail
        obtain ⟨L, hL⟩ : ∃ L, L = an.out.length := ⟨_, rfl⟩
        rw [← hL] at HU9 ⊢
        have HLL := Lib.hid (show L ≤ 2048 by rw [hL]; exact HOUT.out)
        clear hL
        go_loopw [19, 95, 96, 97, 98, 99, 100, 101, 102, 103, 104, 105, 106] (fun _ j _ _ _ _ _ _ _ _ _ _ _ wq => ∃ i : Nat, i ≤ L ∧ j = .int .i64 (i : Int) ∧ Hid (U8s wq A7 L wr.heap.size x5.heap.size) ∧ Hid (Arn wq 71 g1 gb1 b1 an.st) ∧ Hid (Arn wq 35 g2 gb2 b1 an.st) ∧ Hid (Below W.heap.size W wq)) (fun _ j _ _ _ _ _ _ _ _ _ _ _ _ => L - (intOf j).toNat)
        case atStart => exact ⟨0, by omega, rfl, HU9.out, HA9.out, HAA9.out, HB9.out⟩
        case round =>
          obtain ⟨i, hiL, rfl, HU, HAq, HAAq, HBq⟩ := hrel
          have hl2 := HLL.out
          by_cases hil : i < L
          · obtain ⟨gq, rfl, hlo, hhi, hcq⟩ := HU.out (by omega)
            obtain ⟨⟨c, hcc⟩, hff⟩ := hcq i hil
            have hi2 : (0 : Int) ≤ (i : Int) := by omega
            have HLO := Lib.hid (show W.heap.size ≤ gq ∧ g1 < gq ∧ gb1 < gq ∧ g2 < gq ∧ gb2 < gq by have := HGL7.out; have := HSW.out; omega)
            clear hcq
            go_wp2
            go_roundw
            case rel => exact ⟨i + 1, by omega, by go_num, HU.out.set ⟨gq, i, none⟩ _ _ (u8inc c), HAq.out.setN gq i _ HLO.out.2.1 HLO.out.2.2.1, HAAq.out.setN gq i _ HLO.out.2.2.2.1 HLO.out.2.2.2.2, HBq.out.setCell HLO.out.1 _⟩
            case measure => simp [intOf]; omega
          · obtain rfl : i = L := by omega
            go_wp2
            go_roundw
            case rel => exact ⟨k + 1, an.st, by go_num, by omega, by omega, HSTL.out, HAq.out, HAAq.out, HBq.out⟩
            case measure => simp [intOf]; omega)
    · have hex : k = n ∨ (k < n ∧ k = 200) := by omega
      clear hlt
      rcases hex with rfl | ⟨hkn, rfl⟩
      all_goals (
        go_wp2_with fail
        refine (bytes_any HA.out).mono ?_
        rintro e w4 ⟨A4, c4, rfl, hr4, hB4⟩
        have HA4 := Lib.hid (HA.out.below hB4)
        have HAA4 := Lib.hid (HAA.out.below hB4)
        have HB4 := Lib.hid (belowT HB.out hB4)
        have hd0 := HAA4.out.c0
        have hd1 := HAA4.out.c1
        have hbl := HAA4.out.bl
        have HP1 := Lib.hid (fun m => base_any (HA4.out.drewN m))
        have HP2 := Lib.hid (show ∀ m, Calls Try.prog 19 #[.pointer (some ⟨g1, 0, none⟩)] (w4.drewN m) fun e w' => e = .returned (.int .i64 K) ∧ w4.drewN m = w' from fun m => by
          have h := pages_any (HA4.out.drewN m)
          rwa [show ((st.length / 256 : Nat) : Int) = K by have := HST.out; omega] at h)
        have HP3 := Lib.hid (fun m => end_any (HA4.out.drewN m))
        have HP4 := Lib.hid (show ∀ m, Calls Try.prog 24 #[.slice A4 st.length c4, .slice (some ⟨gb2, 0, none⟩) st.length st.length] (w4.drewN m) fun e w' => e = .returned (.bool true) ∧ w4.drewN m = w' from fun m => by
          have h := same_any A4 (some ⟨gb2, 0, none⟩) st.length st.length c4 st.length st st (w4.drewN m) (hr4.rdA.below (below_drewN (Below.refl _ _) m)) (HAA4.out.drewN m).rdAll rfl rfl
          rwa [decide_eq_true rfl] at h)
        have hw1 : IntKind.i64.wrap (b1 + (st.length : Int)) = b1 + (st.length : Int) := wrap_i64_in (by omega) (by omega)
        clear hr4 hB4 hbl
        go_wp2_with fail
        go_quiet (first | (go_at_call 18; exact quiet1 (HP1.out _)) | (go_at_call 19; exact quiet1 (HP2.out _)) | (go_at_call 20; exact quiet1 (HP3.out _)) | (go_at_call 24; exact quiet1 (HP4.out _)))
        go_wp2
        go_ret
        exact ⟨rfl, below_drewN HB4.out _⟩)
theorem arenaPlays_front (x p : Nat) (A : Option Addr) (n cap : Nat) (W : World) (hx : x < 4294967296) (hp : p < 256) (hR : rSlice 7 72 (rStruct [rInt .i64, rInt .i64, rInt .i64, rInt .i64, rInt .u64, rSlice 1 1 (rInt .u8), rBool]) W [.slice A n cap]) :
    Calls Try.prog 7 #[.int .u32 (x : Int), .int .u8 (p : Int), .slice A n cap] W fun e w' => e = .returned (.bool true) ∧ Below W.heap.size W w' := by
  obtain ⟨A2, len, cap2, es, hv, hl, h1, h2, _, he, hrd⟩ := hR
  simp only [List.cons.injEq, Value.slice.injEq, and_true] at hv
  obtain ⟨rfl, rfl, rfl⟩ := hv
  obtain ⟨cs, hcl, hce⟩ := calls_in es he
  exact arenaPlays_walk x p A n cap es.flatten cs W hx hp hrd hce (by omega) (by omega)
end Go.Proofs.Ytjfbopnohijhkaa
