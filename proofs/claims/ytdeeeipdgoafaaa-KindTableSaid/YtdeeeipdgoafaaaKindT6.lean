/- The law KindTable. -/
import Derived.Test.YtdeeeipdgoafaaaKindT5
namespace Go.Proofs.Ytdeeeipdgoafaaa
open Go.RowKit
attribute [local go_sem ↓] Go.wp_at_zero Go.wp_at_succ
theorem kinds_in {w : World} : ∀ es : List (List Value), (∀ e ∈ es, e.length = 2 ∧ rStruct [rInt .i64, rSlice 1 8 (rInt .i64)] w e) → ∃ ks : List Kd, ks.length = es.length ∧ KdE w es.flatten ks
  | [], _ => ⟨[], rfl, KdE.nil w⟩
  | e :: es, h => by
    obtain ⟨ks, h1, h2⟩ := kinds_in es (fun e he => h e (by simp [he]))
    obtain ⟨hl, hR⟩ := h e (by simp)
    match e, hl with
    | [x0, x1], _ =>
      obtain ⟨S, h3, hw⟩ := hR 0 _ x0 rfl rfl
      obtain ⟨A, cap, ps, h4, _, _, hlp, hwf, hrd⟩ := rSlice_ints (hR 1 _ x1 rfl rfl)
      simp at h3
      subst h3 h4
      have hb := Go.bounds_i64 hw
      exact ⟨(S, ps) :: ks, by simp [h1], KdE.cons h2 S A cap ps ⟨by omega, hrd, fun z hz => by have := Go.bounds_i64 (hwf z hz); omega⟩ ⟨by omega, by omega⟩⟩
/-- Two rows that lie apart. -/
def Two (A B : Option Addr) : Prop := ∀ b, A.map (·.block) = some b → B.map (·.block) ≠ some b
theorem own_blk {w : World} {base n size c : Nat} {e : TypeId} {A : Option Addr} {xs : List Value} (h : w.ownsRow base e size (.slice A n c) n xs) {b : Nat} (hb : A.map (·.block) = some b) : base ≤ b ∧ b < w.heap.size := h.lt b (by rw [ownBlock_slice]; exact hb)
set_option maxHeartbeats 8000000 in
set_option maxRecDepth 20000 in
theorem kindTable_walk (A : Option Addr) (n cap : Nat) (vs0 : List Value) (l : List Kd) (id : Int) (w : World) (hr : RdL w A vs0) (hk : KdE w vs0 l) (hn : n = l.length) (hn63 : n ≤ 9223372036854775807) (hid1 : id ≤ 9223372036854775807) (hid0 : -9223372036854775808 ≤ id) :
    Calls Try.prog 6 #[.slice A n cap, .int .i64 id] w fun e w' => e = .returned (.bool true) ∧ Below w.heap.size w w' := by
  have HR := Lib.hid hr; clear hr
  have HK := Lib.hid hk; clear hk
  have HN := Lib.hid hn; clear hn
  go_enter Try.func6, Try.ntmps6
  go_wp2_with fail
  refine (kalive_any w).mono ?_
  rintro e w1 ⟨rfl, hB1⟩
  have HB1 := Lib.hid hB1; clear hB1
  go_wp2_with fail
  refine (tnew_any w1).mono ?_
  rintro e w2 ⟨rfl, hT2, hs2, hB2⟩
  have HT2 := Lib.hid hT2; clear hT2
  have HB2 := Lib.hid hB2; clear hB2
  go_wp2_with fail
  go_loopw [6, 7, 8, 9, 10, 16, 17, 18, 19, 20, 21, 22, 23, 24, 25, 26, 27, 28, 29, 30, 31, 32, 33, 34, 35, 36, 37, 38, 39, 40, 41, 42, 43, 44, 45, 46, 47, 48, 49, 50, 51, 52, 53, 54, 55, 56, 57, 58, 59, 60, 61, 62, 63, 64, 65, 66, 67, 68, 69, 70, 71, 72, 73, 74, 75, 76] (fun wt i _ _ _ _ _ _ _ _ _ _ _ _ _ _ _ _ _ _ _ _ _ _ _ _ _ _ _ _ _ _ _ _ _ _ _ _ _ _ _ _ _ _ _ _ _ _ _ _ _ _ _ _ _ _ _ _ _ _ _ _ _ _ _ _ wr => ∃ (k : Nat) (acc : List Kd) (A1 : Option Addr) (c1 : Nat) (vs1 : List Value) (A2 : Option Addr) (c2 : Nat) (vs2 : List Value), k ≤ n ∧ k ≤ 100 ∧ i = .int .i64 k ∧ wt = .slice A2 acc.length c2 ∧ acc.length ≤ 64 ∧ Hid (Tab wr w1.heap.size (w1.heap.size + 1) A1 c1 acc vs1) ∧ Hid (wr.ownsRow w2.heap.size 24 2 (.slice A2 acc.length c2) acc.length vs2) ∧ Hid (KdE w vs2 acc) ∧ Hid (Two A1 A2) ∧ Hid (∀ p ∈ acc, p.2.length * 8 ≤ 140737488351232) ∧ Hid (w2.heap.size ≤ wr.heap.size) ∧ Hid (Below w1.heap.size w1 wr)) (fun _ i _ _ _ _ _ _ _ _ _ _ _ _ _ _ _ _ _ _ _ _ _ _ _ _ _ _ _ _ _ _ _ _ _ _ _ _ _ _ _ _ _ _ _ _ _ _ _ _ _ _ _ _ _ _ _ _ _ _ _ _ _ _ _ _ _ => 100 - (intOf i).toNat)
  case atStart => exact ⟨0, [], none, 0, [], none, 0, [], by omega, by omega, rfl, rfl, by simp, HT2.out, own_nil _ _ _ _, KdE.nil _, (fun b h => by simp at h), (fun p hp => by simp at hp), Nat.le_refl _, HB2.out⟩
  case round =>
    obtain ⟨k, acc, A1, c1, vs1, A2, c2, vs2, hk, hk100, rfl, rfl, hacc, HT, HO, HKW, HTWO, HPS, HSZ, HB⟩ := hrel
    by_cases hlt : k < n ∧ k < 100
    · obtain ⟨hkn, hkh⟩ := hlt
      have hkl : k < l.length := by have := HN.out; omega
      obtain ⟨b, off, hA, hbl, hcs⟩ := HK.out.cells HR.out (by omega)
      obtain ⟨A3, c3, hc0, hc1, hr3, hS1, hS2⟩ := hcs k hkl
      generalize l[k].1 = S at *
      generalize l[k].2 = ps at *
      subst hA
      have HBW := Lib.hid (belowT HB1.out HB.out)
      have hd0 := cell_below HBW.out hc0
      have hd1 := cell_below HBW.out hc1
      have hbw : b < wr.heap.size := World.block_lt_of_cell? wr _ hd0
      have HC := Lib.hid (And.intro hc0 hc1)
      have HR3 := Lib.hid hr3
      have HSB := Lib.hid (And.intro hS1 hS2)
      have hi0 : (0 : Int) ≤ (k : Int) := by omega
      clear hcs hc0 hc1 hr3 hS1 hS2
      by_cases hae : addErr acc S ps = 0
      · go_wp2_with fail
        refine (tadd_ok HT.out S A3 c3 ps HSB.out (HR3.out.below HBW.out) hae (by have := HT.out.lt; omega)).mono ?_
        rintro e w3 ⟨A4, c4, vs4, rfl, hT3, hK3, hN3⟩
        have hck : chk S ps = 0 := by
          unfold addErr at hae
          by_cases h1 : chk S ps = 0
          · exact h1
          · rw [if_pos h1] at hae; exact absurd hae h1
        have h64 : acc.length < 64 := by
          rcases Nat.lt_or_ge acc.length 64 with h2 | h2
          · exact h2
          · unfold addErr at hae
            rw [if_neg (by omega), if_pos h2] at hae
            exact absurd hae (by decide)
        have hpl := (chk_zero hck).2.2.1
        have hFT : ∀ b, A2.map (·.block) = some b → ¬ TabF w1.heap.size A1 b := fun b hb => by
          have h1 := own_blk HO.out hb
          rintro (h2 | h2)
          · have := hs2; omega
          · exact HTWO.out b h2 hb
        have HO3 := Lib.hid (hK3.own HO.out (fun b hb => hFT b (by rw [← ownBlock_slice A2 acc.length c2]; exact hb)))
        have hb3 : Below w1.heap.size wr w3 := hK3.below (fun b hb => by
          rcases hb with rfl | h2
          · exact Nat.le_refl _
          · have := own_blk HT.out.own h2; omega) HB.out.size
        have HB3 := Lib.hid (HB.out.trans hb3)
        have HBW3 := Lib.hid (belowT HB1.out (HB.out.trans hb3))
        have HTW3 := Lib.hid (show Two A4 A2 from fun b hb hb2 => by
          rcases hN3 b hb with h1 | h1
          · exact HTWO.out b h1 hb2
          · have := own_blk HO.out hb2; omega)
        have HT3 := Lib.hid hT3
        have HS3 := Lib.hid hK3.size
        have HCK := Lib.hid hck
        have hd0 := cell_below HBW3.out HC.out.1
        have hd1 := cell_below HBW3.out HC.out.2
        have hbw : b < w3.heap.size := World.block_lt_of_cell? w3 _ hd0
        have HPL := Lib.hid hpl
        clear hT3 hK3 hN3 hck hFT hb3 hae hpl
        go_wp2_with fail
        refine (refCheck_any S A3 c3 ps w3 HSB.out (HR3.out.below HBW3.out)).mono ?_
        rintro e w4 ⟨rfl, hB4⟩
        rw [HCK.out]
        have HB4 := Lib.hid hB4
        have hd0 := cell_below hB4 hd0
        have hd1 := cell_below hB4 hd1
        have hbw : b < w4.heap.size := World.block_lt_of_cell? w4 _ hd0
        have HT4 := Lib.hid (HT3.out.below hB4)
        have HO4 := Lib.hid (own_below HO3.out hB4)
        have HBB4 := Lib.hid (HB3.out.trans (hB4.mono (Nat.le_trans HB.out.size HS3.out)))
        clear hB4
        obtain ⟨row, hrow⟩ : ∃ row : List Value, row = [.int .i64 S, .slice A3 ps.length c3] := ⟨_, rfl⟩
        have hba := below_alloc w4 (.cells #[.int .i64 S, .slice A3 ps.length c3] 24 (0, 0))
        have HOW := Lib.hid (own_below HO4.out hba)
        have HTX := Lib.hid (HT4.out.below hba)
        have HNR := Lib.hid (show RdL (w4.alloc (.cells #[.int .i64 S, .slice A3 ps.length c3] 24 (0, 0))) (some ⟨w4.heap.size, 0, none⟩) row by rw [hrow]; exact RdL.newC w4 [.int .i64 S, .slice A3 ps.length c3] _ _)
        have HRL1 := Lib.hid (show row.length = 1 * 2 by rw [hrow]; rfl)
        have HR1 := Lib.hid (show ∀ u ∈ row, u.oneCell' = true by rw [hrow]; intro u hu; simp at hu; rcases hu with rfl | rfl <;> rfl)
        have HSX := Lib.hid (show w2.heap.size ≤ w4.heap.size from Nat.le_trans HSZ.out (Nat.le_trans HS3.out HB4.out.size))
        have HBX := Lib.hid (show Below w2.heap.size w4 _ from hba.mono HSX.out)
        have HBA := Lib.hid hba
        have HROW := Lib.hid hrow
        have HOR := Lib.hid (show ∀ b, A4.map (·.block) = some b → b < w4.heap.size from fun b hb => Nat.lt_of_lt_of_le (own_blk HT3.out.own hb).2 HB4.out.size)
        clear hrow hba
        go_wp2_with (at_builtin; go_loud (refine wpList_appV w4 w2.heap.size Try.slK rfl (.tmp 70) (.tmp 75) rfl _ acc.length vs2 rfl HOW.out (some ⟨w4.heap.size, 0, none⟩) 1 1 row rfl HNR.out HRL1.out HR1.out (acc.length + 1) rfl (vs2 ++ row) rfl (by omega) (by omega) HBX.out HSX.out ?_); intro A5 c5 w5 hown5 hr5 hB5 hg5 hat5; clear hr5; have HO5 := Lib.hid hown5; have HB5 := Lib.hid hB5; have HG5 := Lib.hid (show World.grownBy _ w5 (Value.slice A2 acc.length c2).ownBlock from hg5); have HA5 := Lib.hid (show (Value.slice A5 (acc.length + 1) c5).ownBlock = (Value.slice A2 acc.length c2).ownBlock ∨ (Value.slice A5 (acc.length + 1) c5).ownBlock = some (w4.heap.size + 1) by simpa [go_sem] using hat5); clear hown5 hB5 hg5 hat5)
        have hT5 := HTX.out.kept (kept_of_grown HG5.out) (fun h => by
          rw [ownBlock_slice] at h
          have := own_blk HO4.out h.symm; have := hs2; omega) (fun b hb h => by
          rw [ownBlock_slice] at h
          exact HTW3.out b hb h.symm) (fun b cs fr _ hb h => by
          obtain ⟨cur, h4⟩ := own_block HOW.out h.symm
          rw [hb] at h4
          simp at h4)
        have hTW5 : Two A4 A5 := fun b hb hb2 => by
          rw [← ownBlock_slice A5 (acc.length + 1) c5] at hb2
          rcases HA5.out with h1 | h1
          · rw [h1, ownBlock_slice] at hb2
            exact HTW3.out b hb hb2
          · rw [h1] at hb2
            have := HOR.out b hb
            simp at hb2
            omega
        have HT5 := Lib.hid hT5
        have HTW5 := Lib.hid hTW5
        have HKN := Lib.hid (show KdE w (vs2 ++ row) (acc ++ [(S, ps)]) by rw [HROW.out]; exact HKW.out.snoc S A3 c3 ps HR3.out HSB.out)
        have HPN := Lib.hid (show ∀ p ∈ acc ++ [(S, ps)], p.2.length * 8 ≤ 140737488351232 by
          intro p hp
          rcases List.mem_append.1 hp with h | h
          · exact HPS.out p h
          · simp at h; subst h; have := HPL.out; simp; omega)
        have HON := Lib.hid (show w5.ownsRow w2.heap.size 24 2 (.slice A5 (acc ++ [(S, ps)]).length c5) (acc ++ [(S, ps)]).length (vs2 ++ row) by rw [List.length_append]; exact HO5.out)
        have HBN := Lib.hid (show Below w1.heap.size w1 w5 from HBB4.out.trans (HB5.out.mono (Nat.le_of_lt hs2)))
        have HSN := Lib.hid (Nat.le_trans HSX.out HB5.out.size)
        clear hT5 hTW5
        go_roundw
        case rel => exact ⟨k + 1, acc ++ [(S, ps)], A4, c4, vs4, A5, c5, vs2 ++ row, by omega, by omega, by go_num, by simp, by simp; omega, HT5.out, HON.out, HKN.out, HTW5.out, HPN.out, HSN.out, HBN.out⟩
        case measure => simp [intOf]; omega
      · have HAE := Lib.hid hae
        have hne : (addErr acc S ps == 0) = false := by simpa using hae
        have hne' : (addErr acc S ps != 0) = true := by simpa using hae
        go_wp2_with fail
        refine (tadd_bad HT.out S A3 c3 ps HSB.out (HR3.out.below HBW.out) hae).mono ?_
        rintro e w3 ⟨rfl, hB3⟩
        have HB3 := Lib.hid (HB.out.trans (hB3.mono HB.out.size))
        have HBW3 := Lib.hid (belowT HBW.out hB3)
        have HT3 := Lib.hid (HT.out.below hB3)
        have HO3 := Lib.hid (own_below HO.out hB3)
        have HS3 := Lib.hid hB3.size
        have hd0 := cell_below HBW3.out HC.out.1
        have hd1 := cell_below HBW3.out HC.out.2
        have hbw : b < w3.heap.size := World.block_lt_of_cell? w3 _ hd0
        by_cases hck : chk S ps = 0
        · have h64 : acc.length = 64 := by
            rcases Nat.lt_or_ge acc.length 64 with h2 | h2
            · exfalso
              apply hae
              unfold addErr
              rw [if_neg (by omega), if_neg (by omega)]
            · omega
          have HE7 := Lib.hid (show addErr acc S ps = 7 by unfold addErr; rw [if_neg (by omega), if_pos (by omega)])
          rw [HE7.out]
          have h64' : ((acc.length : Int) == 64) = true := by simp; omega
          have HCK := Lib.hid hck
          clear hck hae hne hne' hB3 h64
          go_wp2_with fail
          refine (refCheck_any S A3 c3 ps w3 HSB.out (HR3.out.below HBW3.out)).mono ?_
          rintro e w4 ⟨rfl, hB4⟩
          rw [HCK.out]
          have HT4 := Lib.hid (HT3.out.below hB4)
          have HO4 := Lib.hid (own_below HO3.out hB4)
          have HB4 := Lib.hid (HB3.out.trans (hB4.mono HB3.out.size))
          have HS4 := Lib.hid (Nat.le_trans HSZ.out (Nat.le_trans HS3.out hB4.size))
          clear hB4
          go_wp2
          go_roundw
          case rel => exact ⟨k + 1, acc, A1, c1, vs1, A2, c2, vs2, by omega, by omega, by go_num, rfl, hacc, HT4.out, HO4.out, HKW.out, HTWO.out, HPS.out, HS4.out, HB4.out⟩
          case measure => simp [intOf]; omega
        · have HE7 := Lib.hid (show addErr acc S ps = chk S ps by unfold addErr; rw [if_pos hck])
          rw [HE7.out]
          have hc1 : (chk S ps == 0) = false := by simpa using hck
          have hc2 : (chk S ps != 0) = true := by simpa using hck
          clear hck hae hne hne' hB3
          generalize hcs : chk S ps = ck at *
          have HCS := Lib.hid hcs
          clear hcs
          go_wp2_with fail
          refine (refCheck_any S A3 c3 ps w3 HSB.out (HR3.out.below HBW3.out)).mono ?_
          rintro e w4 ⟨rfl, hB4⟩
          rw [HCS.out]
          have HT4 := Lib.hid (HT3.out.below hB4)
          have HO4 := Lib.hid (own_below HO3.out hB4)
          have HB4 := Lib.hid (HB3.out.trans (hB4.mono HB3.out.size))
          have HS4 := Lib.hid (Nat.le_trans HSZ.out (Nat.le_trans HS3.out hB4.size))
          clear hB4
          go_wp2
          go_roundw
          case rel => exact ⟨k + 1, acc, A1, c1, vs1, A2, c2, vs2, by omega, by omega, by go_num, rfl, hacc, HT4.out, HO4.out, HKW.out, HTWO.out, HPS.out, HS4.out, HB4.out⟩
          case measure => simp [intOf]; omega
    · have hex : k = n ∨ (k < n ∧ k = 100) := by omega
      have HBW := Lib.hid (belowT HB1.out HB.out)
      have HKR := Lib.hid (HKW.out.below HBW.out)
      clear hlt
      by_cases hgid : 0 ≤ id ∧ id < acc.length
      · obtain ⟨j, hj⟩ := Int.eq_ofNat_of_zero_le hgid.1
        subst hj
        have hjl : j < acc.length := by omega
        obtain ⟨b2, off2, rfl, hbl2, hcs2⟩ := HKR.out.cells (own_rd HO.out) (by omega)
        obtain ⟨A6, c6, hq0, hq1, hr6, _⟩ := hcs2 j hjl
        have hpj := HPS.out acc[j] (List.getElem_mem _)
        have HTG := Lib.hid (tget_ok HT.out j hjl hpj)
        generalize acc[j].1 = S at *
        generalize acc[j].2 = ps at *
        have HQ := Lib.hid (And.intro hq0 hq1)
        have HR6 := Lib.hid hr6
        have hj0 : (0 : Int) ≤ (j : Int) := by omega
        clear hgid hcs2 hq0 hq1 hr6 hpj
        rcases hex with rfl | ⟨hkn, rfl⟩
        all_goals (
          go_wp2_with fail
          refine HTG.out.mono ?_
          rintro e w3 ⟨A7, c7, rfl, hown7, hr7, hB3⟩
          have hg := heap_alloc_new w3 (.cells #[.int .i64 S, .slice A7 ps.length c7] 24 (0, 0))
          obtain ⟨hz0, hz1⟩ := cells2 hg
          have hba := belowT hB3 (below_alloc w3 (.cells #[.int .i64 S, .slice A7 ps.length c7] 24 (0, 0)))
          have hy0 := cell_below hba HQ.out.1
          have hy1 := cell_below hba HQ.out.2
          have HR7 := Lib.hid (hr7.below (below_alloc w3 (.cells #[.int .i64 S, .slice A7 ps.length c7] 24 (0, 0))))
          have HR8 := Lib.hid (HR6.out.below hba)
          have HBA := Lib.hid hba
          have HZ := Lib.hid (And.intro (And.intro hz0 hz1) (And.intro hy0 hy1))
          have hbw2 : w3.heap.size < (w3.alloc (.cells #[.int .i64 S, .slice A7 ps.length c7] 24 (0, 0))).heap.size := by simp [go_sem]
          have hbw3 : b2 < (w3.alloc (.cells #[.int .i64 S, .slice A7 ps.length c7] 24 (0, 0))).heap.size := World.block_lt_of_cell? _ _ hy0
          have HBW2 := Lib.hid (And.intro hbw2 hbw3)
          clear hg hba hown7 hr7 hB3 hbw2 hbw3
          go_wp2_with fail
          generalize w3.alloc (.cells #[.int .i64 S, .slice A7 ps.length c7] 24 (0, 0)) = x3 at *
          go_region_held3 (fun w' => w'.cell? ⟨w3.heap.size, 0, none⟩ = some (.int .i64 S) ∧ w'.cell? ⟨w3.heap.size, 1, none⟩ = some (.slice A7 ps.length c7) ∧ w'.cell? ⟨b2, off2 + j * 2, none⟩ = some (.int .i64 S) ∧ w'.cell? ⟨b2, off2 + j * 2 + 1, none⟩ = some (.slice A6 ps.length c6)) (first | exact ⟨HZ.out.1.1, HZ.out.1.2, HZ.out.2.1, HZ.out.2.2⟩ | exact ⟨(hb7.cell HBW2.out.1).trans HZ.out.1.1, (hb7.cell HBW2.out.1).trans HZ.out.1.2, (hb7.cell HBW2.out.2).trans HZ.out.2.1, (hb7.cell HBW2.out.2).trans HZ.out.2.2⟩) ((go_at_call 14; refine (ksame_any S S A7 A6 c7 c6 ps ps _ (by exact HR7.out) (by exact HR8.out)).mono ?_; rintro e w7 ⟨rfl, hb7⟩; rw [decide_eq_true (show S = S ∧ ps = ps from ⟨rfl, rfl⟩)]; have HB7 := Lib.hid hb7))
          have HB4 := Lib.hid (belowT HBA.out (belowT (Below.drew (Below.refl _ _)) HB7.out))
          have HT4 := Lib.hid (HT.out.below HB4.out)
          have HO4 := Lib.hid (own_below HO.out HB4.out)
          have HK4 := Lib.hid (HKR.out.below HB4.out)
          clear hz0 hz1 hy0 hy1
          go_wp2_with fail
          refine (tlen_any HT4.out).mono ?_
          rintro e w5 ⟨rfl, rfl⟩
          go_wp2_with fail
          refine (tall_any HT4.out hacc HPS.out).mono ?_
          rintro e w5 ⟨A8, c8, vs8, rfl, hown8, hkd8, _, hB5⟩
          have HO8 := Lib.hid (own_rd hown8)
          have HK8 := Lib.hid hkd8
          have HO5 := Lib.hid (own_rd (own_below HO4.out hB5))
          have HK5 := Lib.hid (HK4.out.below hB5)
          have HB5 := Lib.hid (belowT HB4.out hB5)
          clear hown8 hkd8 hB5
          go_wp2_with fail
          refine (kall_any A8 _ _ c8 c2 vs8 vs2 acc w5 HO8.out HK8.out HO5.out HK5.out rfl (by omega)).mono ?_
          rintro e w6 ⟨rfl, hB6⟩
          go_wp2
          go_ret
          exact ⟨rfl, belowT (belowT HBW.out HB5.out) hB6⟩)
      · have hd : id < 0 ∨ (0 ≤ id ∧ (acc.length : Int) ≤ id) := by omega
        have HG := Lib.hid hgid
        clear hgid
        rcases hd with h1 | ⟨h1, h2⟩
        all_goals rcases hex with rfl | ⟨hkn, rfl⟩
        all_goals (
          go_wp2_with fail
          refine (tget_bad HT.out id HG.out).mono ?_
          rintro e w3 ⟨rfl, hB3⟩
          have hba := belowT hB3 (below_alloc w3 (.cells #[.int .i64 0, .slice none 0 0] 24 (0, 0)))
          have HBA := Lib.hid hba
          clear hba hB3
          go_wp2_with fail
          refine (ksame_any 0 0 none none 0 0 [] [] _ (RdI.nil _ _) (RdI.nil _ _)).mono ?_
          rintro e w4 ⟨rfl, hB4⟩
          rw [decide_eq_true (show (0 : Int) = 0 ∧ ([] : List Int) = [] from ⟨rfl, rfl⟩)]
          have HB4 := Lib.hid (belowT HBA.out hB4)
          have HT4 := Lib.hid (HT.out.below (belowT HBA.out hB4))
          have HO4 := Lib.hid (own_below HO.out (belowT HBA.out hB4))
          have HK4 := Lib.hid (HKR.out.below (belowT HBA.out hB4))
          clear hB4
          go_wp2_with fail
          refine (tlen_any HT4.out).mono ?_
          rintro e w5 ⟨rfl, rfl⟩
          go_wp2_with fail
          refine (tall_any HT4.out hacc HPS.out).mono ?_
          rintro e w5 ⟨A8, c8, vs8, rfl, hown8, hkd8, _, hB5⟩
          have HO8 := Lib.hid (own_rd hown8)
          have HK8 := Lib.hid hkd8
          have HO5 := Lib.hid (own_rd (own_below HO4.out hB5))
          have HK5 := Lib.hid (HK4.out.below hB5)
          have HB5 := Lib.hid (belowT HB4.out hB5)
          clear hown8 hkd8 hB5
          go_wp2_with fail
          refine (kall_any A8 A2 _ c8 c2 vs8 vs2 acc w5 HO8.out HK8.out HO5.out HK5.out rfl (by omega)).mono ?_
          rintro e w6 ⟨rfl, hB6⟩
          go_wp2
          go_ret
          exact ⟨rfl, belowT (belowT HBW.out HB5.out) hB6⟩)
theorem kindTable_front (A : Option Addr) (n cap : Nat) (id : Int) (W : World) (hR : rSlice 2 32 (rStruct [rInt .i64, rSlice 1 8 (rInt .i64)]) W [.slice A n cap]) (h1 : id ≤ 9223372036854775807) (h0 : -9223372036854775808 ≤ id) :
    Calls Try.prog 6 #[.slice A n cap, .int .i64 id] W fun e w' => e = .returned (.bool true) ∧ Below W.heap.size W w' := by
  obtain ⟨A2, len, cap2, es, hv, hl, h2, h3, _, he, hrd⟩ := hR
  simp only [List.cons.injEq, Value.slice.injEq, and_true] at hv
  obtain ⟨rfl, rfl, rfl⟩ := hv
  obtain ⟨ks, hkl, hke⟩ := kinds_in es he
  exact kindTable_walk A n cap es.flatten ks id W hrd hke (by omega) (by omega) h1 h0
end Go.Proofs.Ytdeeeipdgoafaaa
