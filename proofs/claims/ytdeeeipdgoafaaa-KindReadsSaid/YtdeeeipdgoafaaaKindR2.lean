/- The law KindReads. -/
import Derived.Test.YtdeeeipdgoafaaaKindR1
import Derived.Deep.RegionHeld3
import Derived.Deep.DrawnRows
namespace Go.Proofs.Ytdeeeipdgoafaaa
open Go.RowKit
attribute [local go_sem ↓] Go.wp_at_zero Go.wp_at_succ
set_option linter.unusedVariables false
theorem OwnB.cap {w : World} {base : Nat} {e : TypeId} {A : Option Addr} {n c : Nat} {bs : List UInt8} (h : OwnB w base e (.slice A n c) bs) : bs.length ≤ c := by
  rcases h.2 with ⟨h1, h2⟩ | ⟨g, cap, cur, hv, _, _, hnc, _⟩
  · omega
  · injection hv with _ _ hc
    omega
theorem RdB.take {w : World} {A : Option Addr} {bs : List UInt8} (h : RdB w A bs) (n : Nat) : RdB w A (bs.take n) := by
  refine ⟨by have := h.1; simp; omega, fun hp => ?_⟩
  have h0 : 0 < (bv bs).length := by simp [bv] at hp ⊢; omega
  obtain ⟨b, off, e, hc⟩ := h.2 h0
  refine ⟨b, off, e, fun j v hj => hc j v ?_⟩
  simp only [bv, List.map_take, List.getElem?_take] at hj
  split at hj
  · exact hj
  · simp at hj
theorem OwnB.ltN {w : World} {base : Nat} {e : TypeId} {A : Option Addr} {n c : Nat} {bs : List UInt8} (h : OwnB w base e (.slice A n c) bs) (a : Addr) (ha : A = some a) : base ≤ a.block ∧ a.block < w.heap.size := h.lt a.block (by rw [ha]; rfl)
theorem take_pre {xs a b : List UInt8} (h : xs = a ++ b) : xs.take a.length = a := by rw [h]; exact List.take_left' rfl
theorem belowA' {w1 w : World} (h : Below w1.heap.size w1 w) (o : Obj) : Below w1.heap.size w1 (w.alloc o) := h.alloc h.size o
theorem Rdr.keepB {w w' : World} {T : TypeId} {g hi : Nat} {xs : List UInt8} {er : Nat} (h : Rdr w T g hi xs er) (hg : g < w.heap.size) (hh : hi ≤ w.heap.size) (hb : Below w.heap.size w w') : Rdr w' T g hi xs er := h.keep (fun k hk => hb.block k hk) hg hh
theorem keepR {w w' : World} {b0 b1 b2 o0 o1 o2 o3 o4 : Nat} {v0 v1 v2 v3 v4 : Value} (h : w.cell? ⟨b0, o0, none⟩ = some v0 ∧ w.cell? ⟨b0, o1, none⟩ = some v1 ∧ w.cell? ⟨b1, o2, none⟩ = some v2 ∧ w.cell? ⟨b1, o3, none⟩ = some v3 ∧ w.cell? ⟨b2, o4, none⟩ = some v4) (hb : Below w.heap.size w w') :
    (w'.cell? ⟨b0, o0, none⟩ = some v0 ∧ w'.cell? ⟨b0, o1, none⟩ = some v1 ∧ w'.cell? ⟨b1, o2, none⟩ = some v2 ∧ w'.cell? ⟨b1, o3, none⟩ = some v3 ∧ w'.cell? ⟨b2, o4, none⟩ = some v4) ∧ Below w.heap.size w w' :=
  ⟨⟨cell_below hb h.1, cell_below hb h.2.1, cell_below hb h.2.2.1, cell_below hb h.2.2.2.1, cell_below hb h.2.2.2.2⟩, hb⟩
set_option maxHeartbeats 4000000 in
set_option maxRecDepth 20000 in
theorem kindReads_walk (A : Option Addr) (cap : Nat) (xs : List UInt8) (w : World) (hr : RdB w A xs) (hl : xs.length ≤ 140737488351232) (hcap : xs.length ≤ cap) :
    Calls Try.prog 9 #[.slice A xs.length cap] w fun e w' => e = .returned (.bool true) ∧ Below w.heap.size w w' := by
  have HR := Lib.hid hr; clear hr
  go_enter Try.func9, Try.ntmps9
  go_wp2_with fail
  refine (kalive_any w).mono ?_
  rintro e w1 ⟨rfl, hB1⟩
  have HB1 := Lib.hid hB1; clear hB1
  go_wp2_with fail
  refine (open_any A _ cap xs w1 (HR.out.below HB1.out) rfl (by omega)).mono ?_
  rintro e w2 ⟨g1, rfl, hR2, hg0, hg1, hB2⟩
  have HR2 := Lib.hid hR2
  have HB2 := Lib.hid (belowT HB1.out hB2)
  have HG1 := Lib.hid (show w.heap.size ≤ g1 ∧ g1 < w2.heap.size from ⟨Nat.le_trans HB1.out.size hg0, hg1⟩)
  clear hR2 hg0 hg1 hB2
  go_wp2_with fail
  refine (copy_any A _ cap xs w2 (HR.out.below HB2.out) rfl (by omega)).mono ?_
  rintro e w3 ⟨A3, c3, rfl, hO3, hB3⟩
  have HO3 := Lib.hid hO3
  have HC3 := Lib.hid hO3.cap
  have HR3 := Lib.hid (HR2.out.keep (fun k hk => hB3.block k hk) HG1.out.2 (Nat.le_refl _))
  have HS3 := Lib.hid hB3.size
  have HB3 := Lib.hid (belowT HB2.out hB3)
  have HL3 := Lib.hid (fun a ha => hO3.ltN a ha)
  have hba := below_alloc w3 (.cells #[.slice A3 xs.length c3, .int .i64 0] 58 (0, 0))
  have HR4 := Lib.hid (HR3.out.keep (fun k hk => hba.block k (by have := HS3.out; omega)) HG1.out.2 (Nat.le_refl _))
  have HB4 := Lib.hid (belowT HB3.out hba)
  have HX4 := Lib.hid (heap_alloc_new w3 (.cells #[.slice A3 xs.length c3, .int .i64 0] 58 (0, 0)))
  have HD4 := Lib.hid (HO3.out.rdA.below hba)
  have HS4 := Lib.hid (show (w3.alloc (.cells #[.slice A3 xs.length c3, .int .i64 0] 58 (0, 0))).heap.size = w3.heap.size + 1 by simp [go_sem])
  clear hO3 hB3 hba
  go_wp2_with fail
  generalize w3.alloc (.cells #[.slice A3 xs.length c3, .int .i64 0] 58 (0, 0)) = x4 at *
  obtain ⟨g2, hg2⟩ : ∃ g2, g2 = w3.heap.size := ⟨_, rfl⟩
  have HG2 := Lib.hid (show g1 < g2 ∧ w2.heap.size ≤ g2 ∧ x4.heap.size = g2 + 1 ∧ w.heap.size ≤ g2 from ⟨by have := HG1.out; have := HS3.out; omega, by rw [hg2]; exact HS3.out, by rw [hg2]; exact HS4.out, by have := HB3.out.size; omega⟩)
  have HL3 := Lib.hid (show ∀ a, A3 = some a → w2.heap.size ≤ a.block ∧ a.block < g2 from fun a ha => by rw [hg2]; exact HL3.out a ha)
  rw [← hg2] at HX4 ⊢
  clear hg2
  refine (kread_any HR4.out (by decide) (by omega) (by have := HG1.out; have := HG2.out; omega) (by have := HG2.out; omega)).mono ?_
  rintro e w5 ⟨A5, c5, rfl, hO5, hz5, hR5, hg5⟩
  have HX5 := Lib.hid ((hg5.block g2 (by have := HG2.out; omega) (fun e => by have := Option.some.inj e; have := HG2.out; omega)).trans HX4.out)
  have HD5 := Lib.hid (grownN HD4.out hg5 (fun a ha _ => by have := HL3.out a ha; have := HG1.out; omega))
  have HRR5 := Lib.hid (show Rdr w5 58 g2 (g2 + 1) xs 0 from ⟨A3, c3, HX5.out, HD5.out, HC3.out, fun a ha _ => by have := HL3.out a ha; omega⟩)
  have HO5 := Lib.hid hO5
  have HZ5 := Lib.hid hz5
  have HR5 := Lib.hid hR5
  have HB5 := Lib.hid (below_grown HB4.out hg5 HB4.out.size (fun k hk => by cases hk; exact HG1.out.1))
  have HS5 := Lib.hid hg5.size
  clear hO5 hz5 hR5 hg5
  go_wp2_with fail
  refine (refKread_any HRR5.out (by decide) (by omega) (by have := HS5.out; have := HG2.out; omega) (by have := HS5.out; have := HG2.out; omega)).mono ?_
  rintro e w6 ⟨A6, c6, rfl, hO6, hz6, hR6, hg6⟩
  have HR7 := Lib.hid (HR5.out.keep (base := g2) (fun k hk => hg6.block k (by have := HS5.out; have := HG2.out; omega) (fun e => by have := Option.some.inj e; omega)) HG2.out.1 HG2.out.2.1)
  have HO7 := Lib.hid (own_rd (ownsRow_grown HO5.out hg6 (by have := HG2.out; omega)))
  have HB6 := Lib.hid (below_grown HB5.out hg6 HB5.out.size (fun k hk => by cases hk; exact HG2.out.2.2.2))
  have HS6 := Lib.hid hg6.size
  have HR6 := Lib.hid hR6
  have HO6 := Lib.hid (own_rd hO6)
  have HCN := Lib.hid (fun h => rdK_canon xs h)
  have HE6 := Lib.hid (show (rdK xs 0).ps.length ≤ 9223372036854775807 by
    have h := hO6.2
    rcases h with ⟨_, h0⟩ | ⟨_, _, _, _, _, _, h3, h4, _⟩
    · omega
    · simp only [maxLen] at h4; omega)
  generalize hS : (rdK xs 0).S = S at *
  generalize hP : (rdK xs 0).ps = ps at *
  generalize hLf : (rdK xs 0).left = left at *
  generalize hEr : (rdK xs 0).er = er at *
  go_wp2_with fail
  have hb5a := below_alloc w6 (.cells #[.int .i64 S, .slice A5 ps.length c5] 24 (0, 0))
  have hb6a := belowA' hb5a (.cells #[.int .i64 S, .slice A6 ps.length c6] 24 (0, 0))
  have hx5 := heap_alloc2_old w6 (.cells #[.int .i64 S, .slice A5 ps.length c5] 24 (0, 0)) (.cells #[.int .i64 S, .slice A6 ps.length c6] 24 (0, 0))
  have hx6 := heap_alloc2_new w6 (.cells #[.int .i64 S, .slice A5 ps.length c5] 24 (0, 0)) (.cells #[.int .i64 S, .slice A6 ps.length c6] 24 (0, 0))
  have HSB := Lib.hid (show g1 < w6.heap.size ∧ g2 < w6.heap.size ∧ w2.heap.size ≤ w6.heap.size ∧ g2 + 1 ≤ w6.heap.size by have := HG2.out; have := HS5.out; have := HS6.out; omega)
  have HR7 := Lib.hid (HR7.out.keepB HSB.out.1 HSB.out.2.2.1 hb6a)
  have HR6 := Lib.hid (HR6.out.keepB HSB.out.2.1 HSB.out.2.2.2 hb6a)
  have HI5 := Lib.hid (show RdI w6 A5 ps from ⟨HE6.out, HO7.out, fun z hz => by have := HZ5.out z hz; omega⟩)
  have HI6 := Lib.hid (show RdI w6 A6 ps from ⟨HE6.out, HO6.out, fun z hz => by have := HZ5.out z hz; omega⟩)
  have HI5 := Lib.hid (HI5.out.below hb6a)
  have HI6 := Lib.hid (HI6.out.below hb6a)
  have HB7 := Lib.hid (belowT HB6.out hb6a)
  have HSC := Lib.hid (Nat.le_trans HSB.out.2.2.1 hb6a.size)
  have HSD := Lib.hid (Nat.lt_of_lt_of_le HSB.out.1 hb6a.size)
  have HSE := Lib.hid (Nat.lt_of_lt_of_le HSB.out.2.1 hb6a.size)
  have HSF := Lib.hid (Nat.le_trans HSB.out.2.2.2 hb6a.size)
  generalize (w6.alloc (.cells #[.int .i64 S, .slice A5 ps.length c5] 24 (0, 0))).alloc (.cells #[.int .i64 S, .slice A6 ps.length c6] 24 (0, 0)) = x7 at *
  obtain ⟨hz0, hz1⟩ := cells2 hx5
  obtain ⟨hz2, hz3⟩ := cells2 hx6
  obtain ⟨Ar, cr, hr0, hr1, hrf, _, _, _⟩ := HR6.out.c
  have HK := Lib.hid (And.intro hz0 (And.intro hz1 (And.intro hz2 (And.intro hz3 hr1))))
  clear hb5a hb6a hx5 hx6 hr0 hrf
  go_region_held3 (fun w' => (w'.cell? ⟨w6.heap.size, 0, none⟩ = some (.int .i64 S) ∧ w'.cell? ⟨w6.heap.size, 1, none⟩ = some (.slice A5 ps.length c5) ∧ w'.cell? ⟨w6.heap.size + 1, 0, none⟩ = some (.int .i64 S) ∧ w'.cell? ⟨w6.heap.size + 1, 1, none⟩ = some (.slice A6 ps.length c6) ∧ w'.cell? ⟨g2, 1, none⟩ = some (.int .i64 (er : Int))) ∧ Below x7.heap.size x7 w')
    ((refine keepR HK.out ?_; repeat' (first | assumption | exact Below.refl _ _ | refine below_drewN ?_ _ | refine Below.drew ?_ | refine belowA' ?_ _ | refine belowT ?_ (by assumption))))
    ((first
      | (go_at_call 14; refine (ksame_any S S A5 A6 c5 c6 ps ps _ (HI5.out.below (by repeat' (first | assumption | exact Below.refl _ _ | refine below_drewN ?_ _ | refine Below.drew ?_ | refine belowA' ?_ _ | refine belowT ?_ (by assumption)))) (HI6.out.below (by repeat' (first | assumption | exact Below.refl _ _ | refine below_drewN ?_ _ | refine Below.drew ?_ | refine belowA' ?_ _ | refine belowT ?_ (by assumption))))).mono ?_; rintro e w7 ⟨rfl, hb7⟩; rw [decide_eq_true (show S = S ∧ ps = ps from ⟨rfl, rfl⟩)])
      | (go_at_call 30; refine (rerr_any (HR7.out.keepB HSD.out HSC.out (by repeat' (first | assumption | exact Below.refl _ _ | refine below_drewN ?_ _ | refine Below.drew ?_ | refine belowA' ?_ _ | refine belowT ?_ (by assumption))))).mono ?_; rintro e w9 ⟨rfl, rfl⟩)
      | (go_at_call 31; refine (rleft_any (HR7.out.keepB HSD.out HSC.out (by repeat' (first | assumption | exact Below.refl _ _ | refine below_drewN ?_ _ | refine Below.drew ?_ | refine belowA' ?_ _ | refine belowT ?_ (by assumption))))).mono ?_; rintro e w9 ⟨rfl, rfl⟩)
      | (go_at_call 33; refine (refRest_any (HR6.out.keepB HSE.out HSF.out (by repeat' (first | assumption | exact Below.refl _ _ | refine below_drewN ?_ _ | refine Below.drew ?_ | refine belowA' ?_ _ | refine belowT ?_ (by assumption))))).mono ?_; rintro e w9 ⟨rfl, rfl⟩)))
  have HB8 := Lib.hid (show Below x7.heap.size x7 w7 from belowT (Below.drew (Below.refl _ _)) hb7)
  have HB9 := Lib.hid (belowT HB7.out HB8.out)
  clear hz0 hz1 hz2 hz3 hr1 hb7
  obtain ⟨⟨hz0, hz1, hz2, hz3, hr1⟩, _⟩ := keepR HK.out HB8.out
  by_cases her : er = 0
  · subst her
    have hcn := HCN.out rfl
    obtain ⟨hck, hxs⟩ := hcn
    obtain ⟨hs1, hs2, _, _⟩ := chk_zero hck
    have HCK := Lib.hid hck
    have HXS := Lib.hid hxs
    have HI8 := Lib.hid (HI5.out.below HB8.out)
    have hlen : xs.length = (kindB S ps).length + left.length := by rw [← List.length_append, ← hxs]
    have HTK := Lib.hid (take_pre hxs)
    have hsub : IntKind.i64.wrap ((xs.length : Int) - (left.length : Int)) = ((kindB S ps).length : Int) := by rw [IntKind.wrap_i64]; omega
    have HLEN := Lib.hid hlen
    clear hck hxs hlen
    go_wp2_with fail
    refine (check_any S A5 c5 ps w7 (by omega) HI8.out).mono ?_
    rintro e w10 ⟨rfl, hB10⟩
    rw [HCK.out]
    have HB10 := Lib.hid (belowT HB8.out hB10)
    clear hz0 hz1 hz2 hz3 hr1 hB10
    obtain ⟨⟨hz0, hz1, hz2, hz3, hr1⟩, _⟩ := keepR HK.out HB10.out
    go_wp2_with fail
    refine (kbytes_any S A5 c5 ps w10 (by omega) (HI5.out.below HB10.out)).mono ?_
    rintro e w11 ⟨A11, c11, rfl, hO11, hB11⟩
    have HO11 := Lib.hid hO11.rdA
    have HB11 := Lib.hid (belowT HB10.out hB11)
    have HA11 := Lib.hid (HR.out.below (belowT HB7.out HB11.out))
    generalize kindB S ps = kb at *
    have hkc : kb.length ≤ cap := by have := HLEN.out; omega
    have hkc2 : (kb.length : Int) ≤ (cap : Int) := by omega
    have hk0 : (0 : Int) ≤ (kb.length : Int) := by omega
    clear hO11 hB11
    go_wp2_with fail
    have hlf := rleft_any (HR7.out.keepB HSD.out HSC.out HB11.out)
    rw [show leftN left 0 = left.length from rfl] at hlf
    refine hlf.mono ?_
    rintro e w12 ⟨rfl, rfl⟩
    clear hlf
    go_wp2_with fail
    refine (same_any A11 A _ _ c11 cap kb (xs.take kb.length) w11 HO11.out (HA11.out.take _) rfl (by rw [HTK.out])).mono ?_
    rintro e w13 ⟨rfl, rfl⟩
    rw [HTK.out, decide_eq_true rfl]
    go_wp2
    go_ret
    exact ⟨rfl, belowT HB7.out HB11.out⟩
  · have hne : ((er : Int) != 0) = true := by simp; exact her
    clear her
    go_wp2
    go_ret
    exact ⟨rfl, HB9.out⟩
theorem kindReads_front (A : Option Addr) (n cap : Nat) (W : World) (hR : rSlice 1 1 (rInt .u8) W [.slice A n cap]) :
    Calls Try.prog 9 #[.slice A n cap] W fun e w' => e = .returned (.bool true) ∧ Below W.heap.size W w' := by
  obtain ⟨A2, c2, bs, e2, h1, _, h3, h4⟩ := rSlice_bytes hR
  simp only [Value.slice.injEq] at e2
  obtain ⟨rfl, rfl, rfl⟩ := e2
  exact kindReads_walk A cap bs W h4 h3 h1
end Go.Proofs.Ytdeeeipdgoafaaa
