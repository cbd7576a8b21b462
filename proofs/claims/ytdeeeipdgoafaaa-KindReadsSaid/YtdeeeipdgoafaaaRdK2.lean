/- The walk of the reference's Read of a kind. -/
import Derived.Test.YtdeeeipdgoafaaaRdK1
namespace Go.Proofs.Ytdeeeipdgoafaaa
open Go.RowKit
set_option linter.unusedVariables false
set_option maxHeartbeats 4000000 in
set_option maxRecDepth 20000 in
theorem refKread_any {T : TypeId} {g hi : Nat} {xs : List UInt8} {er : Nat} {w : World} (hr : Rdr w T g hi xs er) (he : er ≤ 100) (hl : xs.length ≤ 140737488355328) (hg : g < w.heap.size) (hh : hi ≤ w.heap.size) :
    Calls Try.prog 32 #[.pointer (some ⟨g, 0, none⟩)] w fun e w' => KPost w T g hi (rdK xs er) e w' := by
  have HSZ := Lib.hid (And.intro hg hh)
  have HR := Lib.hid hr
  clear hr hg hh
  go_enter Try.func32, Try.ntmps32
  go_wp2_with fail
  have HB2 := Lib.hid (heap_alloc_new w (.cells #[.int .i64 0, .slice none 0 0] 24 (0, 0)))
  have HBW := Lib.hid (below_alloc w (.cells #[.int .i64 0, .slice none 0 0] 24 (0, 0)))
  have HSX := Lib.hid (show (w.alloc (.cells #[.int .i64 0, .slice none 0 0] 24 (0, 0))).heap.size = w.heap.size + 1 by simp [go_sem])
  generalize w.alloc (.cells #[.int .i64 0, .slice none 0 0] 24 (0, 0)) = x1 at *
  have HR1 := Lib.hid (HR.out.keep (fun k hk => HBW.out.block k hk) HSZ.out.1 HSZ.out.2)
  refine (refUpto_any HR1.out he hl 4096 (by decide)).mono ?_
  rintro e w2 ⟨rfl, hR2, hg2⟩
  obtain ⟨hs1, he2, hl2⟩ := rdU_facts xs er 4096 he
  have HK1 := Lib.hid (show rdK1 xs er = ((rdU xs er 4096).1, (rdU xs er 4096).2.1, failE (decide ((rdU xs er 4096).1 = 0)) (rdU xs er 4096).2.2) from rfl)
  have HR2 := Lib.hid hR2
  have HG2 := Lib.hid ((grown_below (World.grownBy.refl w (some g)) HBW.out (Nat.le_refl _)).trans hg2)
  have HB2 := Lib.hid ((hg2.block w.heap.size (by have := HSX.out; omega) (fun e => by have := Option.some.inj e; have := HSZ.out; omega)).trans HB2.out)
  have HSW := Lib.hid (show w.heap.size + 1 ≤ w2.heap.size by have := hg2.size; have := HSX.out; omega)
  clear hR2 hg2 HBW HR1
  generalize (rdU xs er 4096).1 = s at *
  generalize (rdU xs er 4096).2.1 = ys at *
  generalize (rdU xs er 4096).2.2 = e2 at *
  have HB3 := Lib.hid (heap_alloc_new w2 (.cells #[.int .i64 (s : Int), .slice none 0 0] 24 (0, 0)))
  have HBA := Lib.hid (below_alloc w2 (.cells #[.int .i64 (s : Int), .slice none 0 0] 24 (0, 0)))
  have HSB := Lib.hid (show (w2.alloc (.cells #[.int .i64 (s : Int), .slice none 0 0] 24 (0, 0))).heap.size = w2.heap.size + 1 by simp [go_sem])
  have HR3 := Lib.hid (HR2.out.keep (fun k hk => HBA.out.block k hk) (by have := HSZ.out; have := HSW.out; omega) (by have := HSZ.out; have := HSW.out; omega))
  by_cases hs0 : s = 0
  · have hd : failE (decide (s = 0)) e2 = if e2 = 0 then 4 else e2 := by unfold failE; rw [decide_eq_true hs0, if_pos rfl]
    rw [hd] at HK1
    have hfl := refFail_any HR3.out 4
    obtain ⟨e3, he3⟩ : ∃ e3, e3 = if e2 = 0 then 4 else e2 := ⟨_, rfl⟩
    rw [← he3] at HK1 hfl
    have he3l : e3 ≤ 100 := by rw [he3]; split <;> omega
    have HFL := Lib.hid hfl
    have hz : ((s : Int) == 0) = true := by simp [hs0]
    clear hd he3 hfl hs0
    go_wp2_with fail
    refine HFL.out.mono ?_
    rintro e x4 ⟨rfl, hR4, hg4⟩
    have HR4 := Lib.hid hR4
    have HG4 := Lib.hid ((grown_below HG2.out HBA.out (by have := HSW.out; omega)).trans hg4)
    have HB24 := Lib.hid ((hg4.block w.heap.size (by have := HSW.out; have := HSB.out; omega) (fun e => by have := Option.some.inj e; have := HSZ.out; omega)).trans ((HBA.out.block _ (by have := HSW.out; omega)).trans HB2.out))
    have HB34 := Lib.hid ((hg4.block w2.heap.size (by have := HSB.out; omega) (fun e => by have := Option.some.inj e; have := HSZ.out; have := HSW.out; omega)).trans HB3.out)
    have HSX4 := Lib.hid (show w2.heap.size < x4.heap.size by have := hg4.size; have := HSB.out; omega)
    clear hR4 hg4
    go_wp2_with fail
    refine (refUpto_any HR4.out he3l (by omega) 16 (by decide)).mono ?_
    rintro e x5 ⟨rfl, hR5, hg5⟩
    obtain ⟨hn1, he5, hl5⟩ := rdU_facts ys e3 16 he3l
    have HK2 := Lib.hid (show rdK2 xs er = ((rdU ys e3 16).1, (rdU ys e3 16).2.1, (rdU ys e3 16).2.2) by unfold rdK2; rw [HK1.out])
    have HR5 := Lib.hid hR5
    have HG5 := Lib.hid (HG4.out.trans hg5)
    have HB25 := Lib.hid ((hg5.block w.heap.size (by have := HSW.out; have := HSX4.out; omega) (fun e => by have := Option.some.inj e; have := HSZ.out; omega)).trans HB24.out)
    have HB35 := Lib.hid ((hg5.block w2.heap.size HSX4.out (fun e => by have := Option.some.inj e; have := HSZ.out; have := HSW.out; omega)).trans HB34.out)
    have HSX5 := Lib.hid (show w2.heap.size < x5.heap.size by have := hg5.size; have := HSX4.out; omega)
    clear hR5 hg5
    generalize (rdU ys e3 16).1 = n at *
    generalize (rdU ys e3 16).2.1 = zs at *
    generalize (rdU ys e3 16).2.2 = e5 at *
    have HRES := Lib.hid (show rdWs (s : Int) n 0 zs e5 [] = rdK3 xs er by unfold rdK3; rw [HK1.out, HK2.out])
    have HB3S := Lib.hid (show w.heap.size + 1 ≤ w2.heap.size ∧ g < w.heap.size ∧ hi ≤ w.heap.size from ⟨HSW.out, HSZ.out⟩)
    obtain ⟨b3, hb3⟩ : ∃ b3, b3 = w2.heap.size := ⟨_, rfl⟩
    rw [← hb3] at HB35 HSX5 HB3S ⊢
    clear hb3
    go_wp2_with fail
    go_loopw [5, 6, 7, 20, 21, 22, 23, 24, 25, 26, 27, 28, 29, 30, 31, 32, 33, 34, 35, 36, 37, 38, 39, 40, 41, 42, 43, 44, 45, 46, 47, 48, 49, 50, 51, 52, 53, 54, 55, 56, 57, 58, 59, 60] (fun nx cn _ _ _ _ _ _ _ _ _ _ _ _ _ _ _ _ _ _ _ _ _ _ _ _ _ _ _ _ _ _ _ _ _ _ _ _ _ _ _ _ _ _ wr => ∃ (k c m : Nat) (next : Int) (A : Option Addr) (acc : List Int) (ts : List UInt8) (er' : Nat), cn = .int .i64 (m : Int) ∧ nx = .int .i64 next ∧ m + k = n ∧ 0 ≤ next ∧ next ≤ 514 * (m : Int) ∧ acc.length ≤ m ∧ er' ≤ 100 ∧ ts.length ≤ xs.length ∧ Hid (∀ z ∈ acc, 0 ≤ z ∧ z ≤ 100000) ∧ Hid (Rdr wr T g hi ts er') ∧ Hid (wr.ownsRow (b3 + 1) 3 1 (.slice A acc.length c) acc.length (iv .i64 acc)) ∧ Hid (wr.heap[b3]? = some (.cells #[.int .i64 (s : Int), .slice A acc.length c] 24 (0, 0))) ∧ Hid (wr.heap[w.heap.size]? = some (.cells #[.int .i64 0, .slice none 0 0] 24 (0, 0))) ∧ Hid (w.grownBy wr (some g)) ∧ Hid (b3 < wr.heap.size) ∧ Hid (rdWs (s : Int) k (8 * next) ts er' acc = rdK3 xs er)) (fun nx cn _ _ _ _ _ _ _ _ _ _ _ _ _ _ _ _ _ _ _ _ _ _ _ _ _ _ _ _ _ _ _ _ _ _ _ _ _ _ _ _ _ _ _ => n - (intOf cn).toNat)
    case atStart => exact ⟨n, 0, 0, 0, none, [], zs, e5, rfl, rfl, by omega, by omega, by omega, by simp, he5, by omega, Lib.hid (by simp), HR5.out, own_nil _ _ _ _, HB35.out, HB25.out, HG5.out, HSX5.out, HRES.out⟩
    case round =>
      obtain ⟨k, c, m, next, A, acc, ts, er', rfl, rfl, hkn, hn0, hnx, hacc, her, htl, HACC, HR, HOW, HBX, HBZ, HG, HSX, HRW⟩ := hrel
      obtain ⟨Ar, cr, hr0, hr1, hrf, _, _, _⟩ := HR.out.c
      by_cases her0 : er' = 0
      · subst her0
        rcases k with _ | k
        · have hres := HRW.out
          rw [rdWs_zero] at hres
          have HRES2 := Lib.hid hres.symm
          clear hres
          obtain ⟨hy0, hy1⟩ := cells2 HBX.out
          obtain ⟨hz0, hz1⟩ := cells2 HBZ.out
          have hzf := fun j => frozen_of_row _ _ j _ _ HBZ.out
          have HK := Lib.hid (show rdK xs er = ⟨(s : Int), acc, ts, 0⟩ by unfold rdK; rw [HRES2.out, HK1.out]; rfl)
          obtain ⟨hx0, hx1⟩ := cells2 (heap_setCell_same _ _ 1 _ _ (.slice A acc.length c) (heap_setCell_same _ _ 0 _ _ (.int .i64 (s : Int)) HBZ.out))
          have HF := Lib.hid (And.intro (ownsRow_setCell_below (ownsRow_setCell_below HOW.out (a := ⟨w.heap.size, 0, none⟩) (by show w.heap.size < b3 + 1; have := HB3S.out; omega) (.int .i64 (s : Int))) (a := ⟨w.heap.size, 1, none⟩) (by show w.heap.size < b3 + 1; have := HB3S.out; omega) (.slice A acc.length c)) (And.intro ((HR.out.setN w.heap.size 0 (.int .i64 (s : Int)) HB3S.out.2.1 HB3S.out.2.2).setN w.heap.size 1 (.slice A acc.length c) HB3S.out.2.1 HB3S.out.2.2) (grownSet (grownSet HG.out w.heap.size 0 (.int .i64 (s : Int)) (Nat.le_refl _)) w.heap.size 1 (.slice A acc.length c) (Nat.le_refl _))))
          obtain rfl : m = n := by omega
          go_wp2
          rw [HK.out]
          exact bodyPost_ret (v := .agg #[.int .i64 (s : Int), .slice A acc.length c]) (by simp [results, Try.results32, go_sem, hx0, hx1]) rfl ⟨A, c, rfl, own_le HF.out.1 (by have := HB3S.out; omega), HACC.out, HF.out.2.1, HF.out.2.2⟩
        · have hmn : m < n := by omega
          go_wp2_with fail
          refine (refUpto_any HR.out her (by omega) 512 (by decide)).mono ?_
          rintro e w5 ⟨rfl, hR6, hg6⟩
          clear hr0 hr1 hrf
          obtain ⟨hu1, he6, hl6⟩ := rdU_facts ts 0 512 her
          have hrw := HRW.out
          rw [rdWs_succ] at hrw
          have HR6 := Lib.hid hR6
          have HG6 := Lib.hid (HG.out.trans hg6)
          have HOW6 := Lib.hid (ownsRow_grown HOW.out hg6 (by have := HB3S.out; omega))
          have HBX6 := Lib.hid ((hg6.block b3 HSX.out (fun e => by have := Option.some.inj e; have := HB3S.out; omega)).trans HBX.out)
          have HBZ6 := Lib.hid ((hg6.block w.heap.size (by have := HSX.out; have := HB3S.out; omega) (fun e => by have := Option.some.inj e; have := HB3S.out; omega)).trans HBZ.out)
          have HSX6 := Lib.hid (Nat.lt_of_lt_of_le HSX.out hg6.size)
          obtain ⟨Ar, cr, hr0, hr1, hrf, _, _, _⟩ := hR6.c
          clear hR6 hg6
          generalize (rdU ts 0 512).1 = u at *
          generalize (rdU ts 0 512).2.1 = us at *
          generalize (rdU ts 0 512).2.2 = e6 at *
          rw [show 8 * next + 8 * (u : Int) = 8 * (next + (u : Int)) by omega, show 8 * (next + (u : Int)) + 8 = 8 * (next + (u : Int) + 1) by omega] at hrw
          have HRW6 := Lib.hid hrw; clear hrw
          have hp1 : next + (u : Int) ≤ 10000 := by omega
          have hw1 : IntKind.i64.wrap (8 * (next + (u : Int))) = 8 * (next + (u : Int)) := by rw [IntKind.wrap_i64]; omega
          have hw2 : IntKind.i64.wrap (8 * (next + (u : Int)) + 8) = 8 * (next + (u : Int)) + 8 := by rw [IntKind.wrap_i64]; omega
          have hw3 : IntKind.i64.wrap (next + (u : Int)) = next + (u : Int) := by rw [IntKind.wrap_i64]; omega
          obtain ⟨hy0, hy1⟩ := cells2 HBX6.out
          have hyf := fun j => frozen_of_row _ _ j _ _ HBX6.out
          by_cases hps : e6 = 0 ∧ (s : Int) - 8 < 8 * (next + (u : Int))
          · obtain ⟨rfl, hps⟩ := hps
            have hfe : failE (decide ((s : Int) - 8 < 8 * (next + (u : Int)))) 0 = 4 := by unfold failE; rw [decide_eq_true hps]; rfl
            have hrw := HRW6.out
            rw [hfe] at hrw
            have hfl := refFail_any HR6.out 4
            rw [if_pos rfl] at hfl
            obtain ⟨e7, he7⟩ : ∃ e7, e7 = 4 := ⟨_, rfl⟩
            rw [← he7] at hrw
            have HRW7 := Lib.hid hrw
            have hps2 : (s : Int) < 8 * (next + (u : Int)) + 8 := by omega
            have HFL := Lib.hid hfl
            have he7l : e7 ≤ 100 := by omega
            have HE7 := Lib.hid he7
            clear hfe hrw hfl he7
            go_wp2_with fail
            refine HFL.out.mono ?_
            rintro e w7 ⟨rfl, hR7, hg7⟩
            rw [← HE7.out] at hR7
            clear hr0 hr1 hrf
            have HR7 := Lib.hid hR7
            have HG7 := Lib.hid (HG6.out.trans hg7)
            have HOW7 := Lib.hid (ownsRow_grown HOW6.out hg7 (by have := HB3S.out; omega))
            have HBX7 := Lib.hid ((hg7.block b3 HSX6.out (fun e => by have := Option.some.inj e; have := HB3S.out; omega)).trans HBX6.out)
            have HBZ7 := Lib.hid ((hg7.block w.heap.size (by have := HSX6.out; have := HB3S.out; omega) (fun e => by have := Option.some.inj e; have := HB3S.out; omega)).trans HBZ6.out)
            have HSX7 := Lib.hid (Nat.lt_of_lt_of_le HSX6.out hg7.size)
            clear hR7 hg7 hy0 hy1 hyf
            obtain ⟨hy0, hy1⟩ := cells2 HBX7.out
            have hyf := fun j => frozen_of_row _ _ j _ _ HBX7.out
            have HBX8 := Lib.hid ((Below.heap_alloc w7 (.cells #[.int .i64 (8 * (next + (u : Int)))] 3) b3 HSX7.out).trans HBX7.out)
            have hlen : (acc ++ [8 * (next + (u : Int))]).length = acc.length + 1 := by simp
            go_wp2_with (at_builtin; go_loud (refine wpList_appV (w7.alloc (.cells #[.int .i64 (8 * (next + (u : Int)))] 3)) (b3 + 1) Try.slI (by rfl) (.tmp 53) (.tmp 56) (by rfl) _ acc.length (iv .i64 acc) (by rfl) (World.ownsRow.alloc HOW7.out _) _ 1 1 [.int .i64 (8 * (next + (u : Int)))] (by rfl) (RdL.oneV _ _ _) (by rfl) (by simp; rfl) (acc.length + 1) rfl (iv .i64 (acc ++ [8 * (next + (u : Int))])) (by simp [iv]) (by omega) (by omega) (Below.refl _ _) (by have := HSX7.out; simp [go_sem]; omega) ?_); intro A8 c8 w8 how8 hr8 hB8 hg8 ho8; have HBX9 := Lib.hid ((hB8.block b3 (Nat.lt_succ_self _)).trans HBX8.out); obtain ⟨hv0, hv1⟩ := cells2 HBX9.out; have hvf := fun j => frozen_of_row _ _ j _ _ HBX9.out; have HOW8 := Lib.hid how8; have HB8 := Lib.hid hB8; clear hr8 hg8 ho8 how8 hB8)
            have h3 := HB3S.out
            have h7 := HSX7.out
            have hsz8 : b3 < w8.heap.size := by have h := HB8.out.size; simp [go_sem] at h; omega
            have hbk : ∀ i, i < b3 → (w8.setCell ⟨b3, 1, none⟩ (.slice A8 (acc.length + 1) c8)).heap[i]? = w7.heap[i]? := fun i hi => (heap_setCell_other _ _ _ _ (by show i ≠ b3; omega)).trans ((HB8.out.block i (by omega)).trans (Below.heap_alloc _ _ _ (by omega)))
            have HBK := Lib.hid hbk
            clear hbk
            go_roundw
            case rel =>
              refine ⟨k, c8, m + 1, next + (u : Int) + 1, A8, acc ++ [8 * (next + (u : Int))], us, e7, by go_num, rfl, by omega, by omega, by omega, by simp; omega, he7l, by omega, ?_, HR7.out.keep (base := b3) HBK.out (by omega) (by omega), ?_, ?_, (HBK.out _ (by omega)).trans HBZ7.out, grownSet (grown_below (grown_below HG7.out (below_alloc w7 _) HG7.out.size) HB8.out (by omega)) b3 1 _ (by omega), by show b3 < _; simpa using hsz8, HRW7.out⟩
              · intro z hz
                rcases List.mem_append.1 hz with h | h
                · exact HACC.out z h
                · simp at h; subst h; omega
              · rw [hlen]; exact ownsRow_setCell_below HOW8.out (a := ⟨b3, 1, none⟩) (Nat.lt_succ_self b3) _
              · rw [hlen]; exact heap_setCell_same _ _ 1 _ _ _ HBX9.out
            case measure => simp [intOf]; omega
          · have hfe : failE (decide ((s : Int) - 8 < 8 * (next + (u : Int)))) e6 = e6 := by
              unfold failE
              by_cases h : (s : Int) - 8 < 8 * (next + (u : Int))
              · rw [decide_eq_true h, if_pos rfl, if_neg (fun h0 => hps ⟨h0, h⟩)]
              · rw [decide_eq_false h]; rfl
            have hrw := HRW6.out
            rw [hfe] at hrw
            obtain ⟨e7, he7⟩ : ∃ e7, e7 = e6 := ⟨_, rfl⟩
            obtain ⟨w7, hw7⟩ : ∃ w7, w7 = w5 := ⟨_, rfl⟩
            have he7l : e7 ≤ 100 := by omega
            have HR7 := HR6
            have HG7 := HG6
            have HOW7 := HOW6
            have HBX7 := HBX6
            have HBZ7 := HBZ6
            have HSX7 := HSX6
            have hcs : (e7 = 0 ∧ 8 * (next + (u : Int)) + 8 ≤ (s : Int)) ∨ e7 ≠ 0 := by omega
            rw [← he7] at hrw HR7 hr1
            have HRW7 := Lib.hid hrw
            rw [← hw7] at HR7 HG7 HOW7 HBX7 HBZ7 HSX7 hy0 hy1 hyf hr0 hr1 hrf ⊢
            clear hfe hrw he7 hw7 hps
            rcases hcs with ⟨h70, hsp⟩ | h70
            · have hr1 : w7.cell? ⟨g, 1, none⟩ = some (.int .i64 0) := by rw [hr1, h70]; rfl
              have H70 := Lib.hid h70; clear h70
              have HBX8 := Lib.hid ((Below.heap_alloc w7 (.cells #[.int .i64 (8 * (next + (u : Int)))] 3) b3 HSX7.out).trans HBX7.out)
              have hlen : (acc ++ [8 * (next + (u : Int))]).length = acc.length + 1 := by simp
              go_wp2_with (at_builtin; go_loud (refine wpList_appV (w7.alloc (.cells #[.int .i64 (8 * (next + (u : Int)))] 3)) (b3 + 1) Try.slI (by rfl) (.tmp 53) (.tmp 56) (by rfl) _ acc.length (iv .i64 acc) (by rfl) (World.ownsRow.alloc HOW7.out _) _ 1 1 [.int .i64 (8 * (next + (u : Int)))] (by rfl) (RdL.oneV _ _ _) (by rfl) (by simp; rfl) (acc.length + 1) rfl (iv .i64 (acc ++ [8 * (next + (u : Int))])) (by simp [iv]) (by omega) (by omega) (Below.refl _ _) (by have := HSX7.out; simp [go_sem]; omega) ?_); intro A8 c8 w8 how8 hr8 hB8 hg8 ho8; have HBX9 := Lib.hid ((hB8.block b3 (Nat.lt_succ_self _)).trans HBX8.out); obtain ⟨hv0, hv1⟩ := cells2 HBX9.out; have hvf := fun j => frozen_of_row _ _ j _ _ HBX9.out; have HOW8 := Lib.hid how8; have HB8 := Lib.hid hB8; clear hr8 hg8 ho8 how8 hB8)
              have h3 := HB3S.out
              have h7 := HSX7.out
              have hsz8 : b3 < w8.heap.size := by have h := HB8.out.size; simp [go_sem] at h; omega
              have hbk : ∀ i, i < b3 → (w8.setCell ⟨b3, 1, none⟩ (.slice A8 (acc.length + 1) c8)).heap[i]? = w7.heap[i]? := fun i hi => (heap_setCell_other _ _ _ _ (by show i ≠ b3; omega)).trans ((HB8.out.block i (by omega)).trans (Below.heap_alloc _ _ _ (by omega)))
              have HBK := Lib.hid hbk
              clear hbk
              go_roundw
              case rel =>
                refine ⟨k, c8, m + 1, next + (u : Int) + 1, A8, acc ++ [8 * (next + (u : Int))], us, e7, by go_num, rfl, by omega, by omega, by omega, by simp; omega, he7l, by omega, ?_, HR7.out.keep (base := b3) HBK.out (by omega) (by omega), ?_, ?_, (HBK.out _ (by omega)).trans HBZ7.out, grownSet (grown_below (grown_below HG7.out (below_alloc w7 _) HG7.out.size) HB8.out (by omega)) b3 1 _ (by omega), by show b3 < _; simpa using hsz8, HRW7.out⟩
                · intro z hz
                  rcases List.mem_append.1 hz with h | h
                  · exact HACC.out z h
                  · simp at h; subst h; omega
                · rw [hlen]; exact ownsRow_setCell_below HOW8.out (a := ⟨b3, 1, none⟩) (Nat.lt_succ_self b3) _
                · rw [hlen]; exact heap_setCell_same _ _ 1 _ _ _ HBX9.out
              case measure => simp [intOf]; omega
            · have hne : ((e7 : Int) == 0) = false := by simp; exact h70
              have H70 := Lib.hid h70; clear h70
              have HBX8 := Lib.hid ((Below.heap_alloc w7 (.cells #[.int .i64 (8 * (next + (u : Int)))] 3) b3 HSX7.out).trans HBX7.out)
              have hlen : (acc ++ [8 * (next + (u : Int))]).length = acc.length + 1 := by simp
              go_wp2_with (at_builtin; go_loud (refine wpList_appV (w7.alloc (.cells #[.int .i64 (8 * (next + (u : Int)))] 3)) (b3 + 1) Try.slI (by rfl) (.tmp 53) (.tmp 56) (by rfl) _ acc.length (iv .i64 acc) (by rfl) (World.ownsRow.alloc HOW7.out _) _ 1 1 [.int .i64 (8 * (next + (u : Int)))] (by rfl) (RdL.oneV _ _ _) (by rfl) (by simp; rfl) (acc.length + 1) rfl (iv .i64 (acc ++ [8 * (next + (u : Int))])) (by simp [iv]) (by omega) (by omega) (Below.refl _ _) (by have := HSX7.out; simp [go_sem]; omega) ?_); intro A8 c8 w8 how8 hr8 hB8 hg8 ho8; have HBX9 := Lib.hid ((hB8.block b3 (Nat.lt_succ_self _)).trans HBX8.out); obtain ⟨hv0, hv1⟩ := cells2 HBX9.out; have hvf := fun j => frozen_of_row _ _ j _ _ HBX9.out; have HOW8 := Lib.hid how8; have HB8 := Lib.hid hB8; clear hr8 hg8 ho8 how8 hB8)
              have h3 := HB3S.out
              have h7 := HSX7.out
              have hsz8 : b3 < w8.heap.size := by have h := HB8.out.size; simp [go_sem] at h; omega
              have hbk : ∀ i, i < b3 → (w8.setCell ⟨b3, 1, none⟩ (.slice A8 (acc.length + 1) c8)).heap[i]? = w7.heap[i]? := fun i hi => (heap_setCell_other _ _ _ _ (by show i ≠ b3; omega)).trans ((HB8.out.block i (by omega)).trans (Below.heap_alloc _ _ _ (by omega)))
              have HBK := Lib.hid hbk
              clear hbk
              go_roundw
              case rel =>
                refine ⟨k, c8, m + 1, next + (u : Int) + 1, A8, acc ++ [8 * (next + (u : Int))], us, e7, by go_num, rfl, by omega, by omega, by omega, by simp; omega, he7l, by omega, ?_, HR7.out.keep (base := b3) HBK.out (by omega) (by omega), ?_, ?_, (HBK.out _ (by omega)).trans HBZ7.out, grownSet (grown_below (grown_below HG7.out (below_alloc w7 _) HG7.out.size) HB8.out (by omega)) b3 1 _ (by omega), by show b3 < _; simpa using hsz8, HRW7.out⟩
                · intro z hz
                  rcases List.mem_append.1 hz with h | h
                  · exact HACC.out z h
                  · simp at h; subst h; omega
                · rw [hlen]; exact ownsRow_setCell_below HOW8.out (a := ⟨b3, 1, none⟩) (Nat.lt_succ_self b3) _
                · rw [hlen]; exact heap_setCell_same _ _ 1 _ _ _ HBX9.out
              case measure => simp [intOf]; omega
      · have hres := rdWs_err (s : Int) k (8 * next) ts er' acc her0
        rw [HRW.out] at hres
        have HK := Lib.hid (show rdK xs er = ⟨0, [], ts, er'⟩ by unfold rdK; rw [hres]; exact if_pos her0)
        have hne : ((er' : Int) == 0) = false := by simp; exact her0
        have hne' : ((er' : Int) != 0) = true := by simp; exact her0
        obtain ⟨hy0, hy1⟩ := cells2 HBX.out
        obtain ⟨hz0, hz1⟩ := cells2 HBZ.out
        have hzf := fun j => frozen_of_row _ _ j _ _ HBZ.out
        obtain ⟨hx0, hx1⟩ := cells2 (heap_setCell_same _ _ 1 _ _ (.slice none 0 0) (heap_setCell_same _ _ 0 _ _ (.int .i64 0) HBZ.out))
        have HF := Lib.hid (And.intro ((HR.out.setN w.heap.size 0 (.int .i64 0) HB3S.out.2.1 HB3S.out.2.2).setN w.heap.size 1 (.slice none 0 0) HB3S.out.2.1 HB3S.out.2.2) (grownSet (grownSet HG.out w.heap.size 0 (.int .i64 0) (Nat.le_refl _)) w.heap.size 1 (.slice none 0 0) (Nat.le_refl _)))
        have H0 := Lib.hid her0
        clear hres her0
        have hmc : m < n ∨ m = n := by omega
        rcases hmc with hmc | rfl
        all_goals (
        go_wp2
        rw [HK.out]
        exact bodyPost_ret (v := .agg #[.int .i64 0, .slice none 0 0]) (by simp [results, Try.results32, go_sem, hx0, hx1]) rfl ⟨none, 0, rfl, own_nil _ _ _ _, by simp, HF.out.1, HF.out.2⟩)
  · have hd : failE (decide (s = 0)) e2 = e2 := by unfold failE; rw [decide_eq_false hs0]; rfl
    rw [hd] at HK1
    obtain ⟨e3, he3⟩ : ∃ e3, e3 = e2 := ⟨_, rfl⟩
    rw [← he3] at HK1 HR3
    have he3l : e3 ≤ 100 := by rw [he3]; omega
    have hz : ((s : Int) == 0) = false := by simp [hs0]
    clear hd he3 hs0
    go_wp2_with fail
    have HG4 := Lib.hid (grown_below HG2.out HBA.out (by have := HSW.out; omega))
    have HB24 := Lib.hid ((HBA.out.block _ (by have := HSW.out; omega)).trans HB2.out)
    have HB34 := HB3
    have HSX4 := Lib.hid (show w2.heap.size < (w2.alloc (.cells #[.int .i64 (s : Int), .slice none 0 0] 24 (0, 0))).heap.size by have := HSB.out; omega)
    have HR4 := HR3
    generalize w2.alloc (.cells #[.int .i64 (s : Int), .slice none 0 0] 24 (0, 0)) = x4 at *
    refine (refUpto_any HR4.out he3l (by omega) 16 (by decide)).mono ?_
    rintro e x5 ⟨rfl, hR5, hg5⟩
    obtain ⟨hn1, he5, hl5⟩ := rdU_facts ys e3 16 he3l
    have HK2 := Lib.hid (show rdK2 xs er = ((rdU ys e3 16).1, (rdU ys e3 16).2.1, (rdU ys e3 16).2.2) by unfold rdK2; rw [HK1.out])
    have HR5 := Lib.hid hR5
    have HG5 := Lib.hid (HG4.out.trans hg5)
    have HB25 := Lib.hid ((hg5.block w.heap.size (by have := HSW.out; have := HSX4.out; omega) (fun e => by have := Option.some.inj e; have := HSZ.out; omega)).trans HB24.out)
    have HB35 := Lib.hid ((hg5.block w2.heap.size HSX4.out (fun e => by have := Option.some.inj e; have := HSZ.out; have := HSW.out; omega)).trans HB34.out)
    have HSX5 := Lib.hid (show w2.heap.size < x5.heap.size by have := hg5.size; have := HSX4.out; omega)
    clear hR5 hg5
    generalize (rdU ys e3 16).1 = n at *
    generalize (rdU ys e3 16).2.1 = zs at *
    generalize (rdU ys e3 16).2.2 = e5 at *
    have HRES := Lib.hid (show rdWs (s : Int) n 0 zs e5 [] = rdK3 xs er by unfold rdK3; rw [HK1.out, HK2.out])
    have HB3S := Lib.hid (show w.heap.size + 1 ≤ w2.heap.size ∧ g < w.heap.size ∧ hi ≤ w.heap.size from ⟨HSW.out, HSZ.out⟩)
    obtain ⟨b3, hb3⟩ : ∃ b3, b3 = w2.heap.size := ⟨_, rfl⟩
    rw [← hb3] at HB35 HSX5 HB3S ⊢
    clear hb3
    go_wp2_with fail
    go_loopw [5, 6, 7, 20, 21, 22, 23, 24, 25, 26, 27, 28, 29, 30, 31, 32, 33, 34, 35, 36, 37, 38, 39, 40, 41, 42, 43, 44, 45, 46, 47, 48, 49, 50, 51, 52, 53, 54, 55, 56, 57, 58, 59, 60] (fun nx cn _ _ _ _ _ _ _ _ _ _ _ _ _ _ _ _ _ _ _ _ _ _ _ _ _ _ _ _ _ _ _ _ _ _ _ _ _ _ _ _ _ _ wr => ∃ (k c m : Nat) (next : Int) (A : Option Addr) (acc : List Int) (ts : List UInt8) (er' : Nat), cn = .int .i64 (m : Int) ∧ nx = .int .i64 next ∧ m + k = n ∧ 0 ≤ next ∧ next ≤ 514 * (m : Int) ∧ acc.length ≤ m ∧ er' ≤ 100 ∧ ts.length ≤ xs.length ∧ Hid (∀ z ∈ acc, 0 ≤ z ∧ z ≤ 100000) ∧ Hid (Rdr wr T g hi ts er') ∧ Hid (wr.ownsRow (b3 + 1) 3 1 (.slice A acc.length c) acc.length (iv .i64 acc)) ∧ Hid (wr.heap[b3]? = some (.cells #[.int .i64 (s : Int), .slice A acc.length c] 24 (0, 0))) ∧ Hid (wr.heap[w.heap.size]? = some (.cells #[.int .i64 0, .slice none 0 0] 24 (0, 0))) ∧ Hid (w.grownBy wr (some g)) ∧ Hid (b3 < wr.heap.size) ∧ Hid (rdWs (s : Int) k (8 * next) ts er' acc = rdK3 xs er)) (fun nx cn _ _ _ _ _ _ _ _ _ _ _ _ _ _ _ _ _ _ _ _ _ _ _ _ _ _ _ _ _ _ _ _ _ _ _ _ _ _ _ _ _ _ _ => n - (intOf cn).toNat)
    case atStart => exact ⟨n, 0, 0, 0, none, [], zs, e5, rfl, rfl, by omega, by omega, by omega, by simp, he5, by omega, Lib.hid (by simp), HR5.out, own_nil _ _ _ _, HB35.out, HB25.out, HG5.out, HSX5.out, HRES.out⟩
    case round =>
      obtain ⟨k, c, m, next, A, acc, ts, er', rfl, rfl, hkn, hn0, hnx, hacc, her, htl, HACC, HR, HOW, HBX, HBZ, HG, HSX, HRW⟩ := hrel
      obtain ⟨Ar, cr, hr0, hr1, hrf, _, _, _⟩ := HR.out.c
      by_cases her0 : er' = 0
      · subst her0
        rcases k with _ | k
        · have hres := HRW.out
          rw [rdWs_zero] at hres
          have HRES2 := Lib.hid hres.symm
          clear hres
          obtain ⟨hy0, hy1⟩ := cells2 HBX.out
          obtain ⟨hz0, hz1⟩ := cells2 HBZ.out
          have hzf := fun j => frozen_of_row _ _ j _ _ HBZ.out
          have HK := Lib.hid (show rdK xs er = ⟨(s : Int), acc, ts, 0⟩ by unfold rdK; rw [HRES2.out, HK1.out]; rfl)
          obtain ⟨hx0, hx1⟩ := cells2 (heap_setCell_same _ _ 1 _ _ (.slice A acc.length c) (heap_setCell_same _ _ 0 _ _ (.int .i64 (s : Int)) HBZ.out))
          have HF := Lib.hid (And.intro (ownsRow_setCell_below (ownsRow_setCell_below HOW.out (a := ⟨w.heap.size, 0, none⟩) (by show w.heap.size < b3 + 1; have := HB3S.out; omega) (.int .i64 (s : Int))) (a := ⟨w.heap.size, 1, none⟩) (by show w.heap.size < b3 + 1; have := HB3S.out; omega) (.slice A acc.length c)) (And.intro ((HR.out.setN w.heap.size 0 (.int .i64 (s : Int)) HB3S.out.2.1 HB3S.out.2.2).setN w.heap.size 1 (.slice A acc.length c) HB3S.out.2.1 HB3S.out.2.2) (grownSet (grownSet HG.out w.heap.size 0 (.int .i64 (s : Int)) (Nat.le_refl _)) w.heap.size 1 (.slice A acc.length c) (Nat.le_refl _))))
          obtain rfl : m = n := by omega
          go_wp2
          rw [HK.out]
          exact bodyPost_ret (v := .agg #[.int .i64 (s : Int), .slice A acc.length c]) (by simp [results, Try.results32, go_sem, hx0, hx1]) rfl ⟨A, c, rfl, own_le HF.out.1 (by have := HB3S.out; omega), HACC.out, HF.out.2.1, HF.out.2.2⟩
        · have hmn : m < n := by omega
          go_wp2_with fail
          refine (refUpto_any HR.out her (by omega) 512 (by decide)).mono ?_
          rintro e w5 ⟨rfl, hR6, hg6⟩
          clear hr0 hr1 hrf
          obtain ⟨hu1, he6, hl6⟩ := rdU_facts ts 0 512 her
          have hrw := HRW.out
          rw [rdWs_succ] at hrw
          have HR6 := Lib.hid hR6
          have HG6 := Lib.hid (HG.out.trans hg6)
          have HOW6 := Lib.hid (ownsRow_grown HOW.out hg6 (by have := HB3S.out; omega))
          have HBX6 := Lib.hid ((hg6.block b3 HSX.out (fun e => by have := Option.some.inj e; have := HB3S.out; omega)).trans HBX.out)
          have HBZ6 := Lib.hid ((hg6.block w.heap.size (by have := HSX.out; have := HB3S.out; omega) (fun e => by have := Option.some.inj e; have := HB3S.out; omega)).trans HBZ.out)
          have HSX6 := Lib.hid (Nat.lt_of_lt_of_le HSX.out hg6.size)
          obtain ⟨Ar, cr, hr0, hr1, hrf, _, _, _⟩ := hR6.c
          clear hR6 hg6
          generalize (rdU ts 0 512).1 = u at *
          generalize (rdU ts 0 512).2.1 = us at *
          generalize (rdU ts 0 512).2.2 = e6 at *
          rw [show 8 * next + 8 * (u : Int) = 8 * (next + (u : Int)) by omega, show 8 * (next + (u : Int)) + 8 = 8 * (next + (u : Int) + 1) by omega] at hrw
          have HRW6 := Lib.hid hrw; clear hrw
          have hp1 : next + (u : Int) ≤ 10000 := by omega
          have hw1 : IntKind.i64.wrap (8 * (next + (u : Int))) = 8 * (next + (u : Int)) := by rw [IntKind.wrap_i64]; omega
          have hw2 : IntKind.i64.wrap (8 * (next + (u : Int)) + 8) = 8 * (next + (u : Int)) + 8 := by rw [IntKind.wrap_i64]; omega
          have hw3 : IntKind.i64.wrap (next + (u : Int)) = next + (u : Int) := by rw [IntKind.wrap_i64]; omega
          obtain ⟨hy0, hy1⟩ := cells2 HBX6.out
          have hyf := fun j => frozen_of_row _ _ j _ _ HBX6.out
          by_cases hps : e6 = 0 ∧ (s : Int) - 8 < 8 * (next + (u : Int))
          · obtain ⟨rfl, hps⟩ := hps
            have hfe : failE (decide ((s : Int) - 8 < 8 * (next + (u : Int)))) 0 = 4 := by unfold failE; rw [decide_eq_true hps]; rfl
            have hrw := HRW6.out
            rw [hfe] at hrw
            have hfl := refFail_any HR6.out 4
            rw [if_pos rfl] at hfl
            obtain ⟨e7, he7⟩ : ∃ e7, e7 = 4 := ⟨_, rfl⟩
            rw [← he7] at hrw
            have HRW7 := Lib.hid hrw
            have hps2 : (s : Int) < 8 * (next + (u : Int)) + 8 := by omega
            have HFL := Lib.hid hfl
            have he7l : e7 ≤ 100 := by omega
            have HE7 := Lib.hid he7
            clear hfe hrw hfl he7
            go_wp2_with fail
            refine HFL.out.mono ?_
            rintro e w7 ⟨rfl, hR7, hg7⟩
            rw [← HE7.out] at hR7
            clear hr0 hr1 hrf
            have HR7 := Lib.hid hR7
            have HG7 := Lib.hid (HG6.out.trans hg7)
            have HOW7 := Lib.hid (ownsRow_grown HOW6.out hg7 (by have := HB3S.out; omega))
            have HBX7 := Lib.hid ((hg7.block b3 HSX6.out (fun e => by have := Option.some.inj e; have := HB3S.out; omega)).trans HBX6.out)
            have HBZ7 := Lib.hid ((hg7.block w.heap.size (by have := HSX6.out; have := HB3S.out; omega) (fun e => by have := Option.some.inj e; have := HB3S.out; omega)).trans HBZ6.out)
            have HSX7 := Lib.hid (Nat.lt_of_lt_of_le HSX6.out hg7.size)
            clear hR7 hg7 hy0 hy1 hyf
            obtain ⟨hy0, hy1⟩ := cells2 HBX7.out
            have hyf := fun j => frozen_of_row _ _ j _ _ HBX7.out
            have HBX8 := Lib.hid ((Below.heap_alloc w7 (.cells #[.int .i64 (8 * (next + (u : Int)))] 3) b3 HSX7.out).trans HBX7.out)
            have hlen : (acc ++ [8 * (next + (u : Int))]).length = acc.length + 1 := by simp
            go_wp2_with (at_builtin; go_loud (refine wpList_appV (w7.alloc (.cells #[.int .i64 (8 * (next + (u : Int)))] 3)) (b3 + 1) Try.slI (by rfl) (.tmp 53) (.tmp 56) (by rfl) _ acc.length (iv .i64 acc) (by rfl) (World.ownsRow.alloc HOW7.out _) _ 1 1 [.int .i64 (8 * (next + (u : Int)))] (by rfl) (RdL.oneV _ _ _) (by rfl) (by simp; rfl) (acc.length + 1) rfl (iv .i64 (acc ++ [8 * (next + (u : Int))])) (by simp [iv]) (by omega) (by omega) (Below.refl _ _) (by have := HSX7.out; simp [go_sem]; omega) ?_); intro A8 c8 w8 how8 hr8 hB8 hg8 ho8; have HBX9 := Lib.hid ((hB8.block b3 (Nat.lt_succ_self _)).trans HBX8.out); obtain ⟨hv0, hv1⟩ := cells2 HBX9.out; have hvf := fun j => frozen_of_row _ _ j _ _ HBX9.out; have HOW8 := Lib.hid how8; have HB8 := Lib.hid hB8; clear hr8 hg8 ho8 how8 hB8)
            have h3 := HB3S.out
            have h7 := HSX7.out
            have hsz8 : b3 < w8.heap.size := by have h := HB8.out.size; simp [go_sem] at h; omega
            have hbk : ∀ i, i < b3 → (w8.setCell ⟨b3, 1, none⟩ (.slice A8 (acc.length + 1) c8)).heap[i]? = w7.heap[i]? := fun i hi => (heap_setCell_other _ _ _ _ (by show i ≠ b3; omega)).trans ((HB8.out.block i (by omega)).trans (Below.heap_alloc _ _ _ (by omega)))
            have HBK := Lib.hid hbk
            clear hbk
            go_roundw
            case rel =>
              refine ⟨k, c8, m + 1, next + (u : Int) + 1, A8, acc ++ [8 * (next + (u : Int))], us, e7, by go_num, rfl, by omega, by omega, by omega, by simp; omega, he7l, by omega, ?_, HR7.out.keep (base := b3) HBK.out (by omega) (by omega), ?_, ?_, (HBK.out _ (by omega)).trans HBZ7.out, grownSet (grown_below (grown_below HG7.out (below_alloc w7 _) HG7.out.size) HB8.out (by omega)) b3 1 _ (by omega), by show b3 < _; simpa using hsz8, HRW7.out⟩
              · intro z hz
                rcases List.mem_append.1 hz with h | h
                · exact HACC.out z h
                · simp at h; subst h; omega
              · rw [hlen]; exact ownsRow_setCell_below HOW8.out (a := ⟨b3, 1, none⟩) (Nat.lt_succ_self b3) _
              · rw [hlen]; exact heap_setCell_same _ _ 1 _ _ _ HBX9.out
            case measure => simp [intOf]; omega
          · have hfe : failE (decide ((s : Int) - 8 < 8 * (next + (u : Int)))) e6 = e6 := by
              unfold failE
              by_cases h : (s : Int) - 8 < 8 * (next + (u : Int))
              · rw [decide_eq_true h, if_pos rfl, if_neg (fun h0 => hps ⟨h0, h⟩)]
              · rw [decide_eq_false h]; rfl
            have hrw := HRW6.out
            rw [hfe] at hrw
            obtain ⟨e7, he7⟩ : ∃ e7, e7 = e6 := ⟨_, rfl⟩
            obtain ⟨w7, hw7⟩ : ∃ w7, w7 = w5 := ⟨_, rfl⟩
            have he7l : e7 ≤ 100 := by omega
            have HR7 := HR6
            have HG7 := HG6
            have HOW7 := HOW6
            have HBX7 := HBX6
            have HBZ7 := HBZ6
            have HSX7 := HSX6
            have hcs : (e7 = 0 ∧ 8 * (next + (u : Int)) + 8 ≤ (s : Int)) ∨ e7 ≠ 0 := by omega
            rw [← he7] at hrw HR7 hr1
            have HRW7 := Lib.hid hrw
            rw [← hw7] at HR7 HG7 HOW7 HBX7 HBZ7 HSX7 hy0 hy1 hyf hr0 hr1 hrf ⊢
            clear hfe hrw he7 hw7 hps
            rcases hcs with ⟨h70, hsp⟩ | h70
            · have hr1 : w7.cell? ⟨g, 1, none⟩ = some (.int .i64 0) := by rw [hr1, h70]; rfl
              have H70 := Lib.hid h70; clear h70
              have HBX8 := Lib.hid ((Below.heap_alloc w7 (.cells #[.int .i64 (8 * (next + (u : Int)))] 3) b3 HSX7.out).trans HBX7.out)
              have hlen : (acc ++ [8 * (next + (u : Int))]).length = acc.length + 1 := by simp
              go_wp2_with (at_builtin; go_loud (refine wpList_appV (w7.alloc (.cells #[.int .i64 (8 * (next + (u : Int)))] 3)) (b3 + 1) Try.slI (by rfl) (.tmp 53) (.tmp 56) (by rfl) _ acc.length (iv .i64 acc) (by rfl) (World.ownsRow.alloc HOW7.out _) _ 1 1 [.int .i64 (8 * (next + (u : Int)))] (by rfl) (RdL.oneV _ _ _) (by rfl) (by simp; rfl) (acc.length + 1) rfl (iv .i64 (acc ++ [8 * (next + (u : Int))])) (by simp [iv]) (by omega) (by omega) (Below.refl _ _) (by have := HSX7.out; simp [go_sem]; omega) ?_); intro A8 c8 w8 how8 hr8 hB8 hg8 ho8; have HBX9 := Lib.hid ((hB8.block b3 (Nat.lt_succ_self _)).trans HBX8.out); obtain ⟨hv0, hv1⟩ := cells2 HBX9.out; have hvf := fun j => frozen_of_row _ _ j _ _ HBX9.out; have HOW8 := Lib.hid how8; have HB8 := Lib.hid hB8; clear hr8 hg8 ho8 how8 hB8)
              have h3 := HB3S.out
              have h7 := HSX7.out
              have hsz8 : b3 < w8.heap.size := by have h := HB8.out.size; simp [go_sem] at h; omega
              have hbk : ∀ i, i < b3 → (w8.setCell ⟨b3, 1, none⟩ (.slice A8 (acc.length + 1) c8)).heap[i]? = w7.heap[i]? := fun i hi => (heap_setCell_other _ _ _ _ (by show i ≠ b3; omega)).trans ((HB8.out.block i (by omega)).trans (Below.heap_alloc _ _ _ (by omega)))
              have HBK := Lib.hid hbk
              clear hbk
              go_roundw
              case rel =>
                refine ⟨k, c8, m + 1, next + (u : Int) + 1, A8, acc ++ [8 * (next + (u : Int))], us, e7, by go_num, rfl, by omega, by omega, by omega, by simp; omega, he7l, by omega, ?_, HR7.out.keep (base := b3) HBK.out (by omega) (by omega), ?_, ?_, (HBK.out _ (by omega)).trans HBZ7.out, grownSet (grown_below (grown_below HG7.out (below_alloc w7 _) HG7.out.size) HB8.out (by omega)) b3 1 _ (by omega), by show b3 < _; simpa using hsz8, HRW7.out⟩
                · intro z hz
                  rcases List.mem_append.1 hz with h | h
                  · exact HACC.out z h
                  · simp at h; subst h; omega
                · rw [hlen]; exact ownsRow_setCell_below HOW8.out (a := ⟨b3, 1, none⟩) (Nat.lt_succ_self b3) _
                · rw [hlen]; exact heap_setCell_same _ _ 1 _ _ _ HBX9.out
              case measure => simp [intOf]; omega
            · have hne : ((e7 : Int) == 0) = false := by simp; exact h70
              have H70 := Lib.hid h70; clear h70
              have HBX8 := Lib.hid ((Below.heap_alloc w7 (.cells #[.int .i64 (8 * (next + (u : Int)))] 3) b3 HSX7.out).trans HBX7.out)
              have hlen : (acc ++ [8 * (next + (u : Int))]).length = acc.length + 1 := by simp
              go_wp2_with (at_builtin; go_loud (refine wpList_appV (w7.alloc (.cells #[.int .i64 (8 * (next + (u : Int)))] 3)) (b3 + 1) Try.slI (by rfl) (.tmp 53) (.tmp 56) (by rfl) _ acc.length (iv .i64 acc) (by rfl) (World.ownsRow.alloc HOW7.out _) _ 1 1 [.int .i64 (8 * (next + (u : Int)))] (by rfl) (RdL.oneV _ _ _) (by rfl) (by simp; rfl) (acc.length + 1) rfl (iv .i64 (acc ++ [8 * (next + (u : Int))])) (by simp [iv]) (by omega) (by omega) (Below.refl _ _) (by have := HSX7.out; simp [go_sem]; omega) ?_); intro A8 c8 w8 how8 hr8 hB8 hg8 ho8; have HBX9 := Lib.hid ((hB8.block b3 (Nat.lt_succ_self _)).trans HBX8.out); obtain ⟨hv0, hv1⟩ := cells2 HBX9.out; have hvf := fun j => frozen_of_row _ _ j _ _ HBX9.out; have HOW8 := Lib.hid how8; have HB8 := Lib.hid hB8; clear hr8 hg8 ho8 how8 hB8)
              have h3 := HB3S.out
              have h7 := HSX7.out
              have hsz8 : b3 < w8.heap.size := by have h := HB8.out.size; simp [go_sem] at h; omega
              have hbk : ∀ i, i < b3 → (w8.setCell ⟨b3, 1, none⟩ (.slice A8 (acc.length + 1) c8)).heap[i]? = w7.heap[i]? := fun i hi => (heap_setCell_other _ _ _ _ (by show i ≠ b3; omega)).trans ((HB8.out.block i (by omega)).trans (Below.heap_alloc _ _ _ (by omega)))
              have HBK := Lib.hid hbk
              clear hbk
              go_roundw
              case rel =>
                refine ⟨k, c8, m + 1, next + (u : Int) + 1, A8, acc ++ [8 * (next + (u : Int))], us, e7, by go_num, rfl, by omega, by omega, by omega, by simp; omega, he7l, by omega, ?_, HR7.out.keep (base := b3) HBK.out (by omega) (by omega), ?_, ?_, (HBK.out _ (by omega)).trans HBZ7.out, grownSet (grown_below (grown_below HG7.out (below_alloc w7 _) HG7.out.size) HB8.out (by omega)) b3 1 _ (by omega), by show b3 < _; simpa using hsz8, HRW7.out⟩
                · intro z hz
                  rcases List.mem_append.1 hz with h | h
                  · exact HACC.out z h
                  · simp at h; subst h; omega
                · rw [hlen]; exact ownsRow_setCell_below HOW8.out (a := ⟨b3, 1, none⟩) (Nat.lt_succ_self b3) _
                · rw [hlen]; exact heap_setCell_same _ _ 1 _ _ _ HBX9.out
              case measure => simp [intOf]; omega
      · have hres := rdWs_err (s : Int) k (8 * next) ts er' acc her0
        rw [HRW.out] at hres
        have HK := Lib.hid (show rdK xs er = ⟨0, [], ts, er'⟩ by unfold rdK; rw [hres]; exact if_pos her0)
        have hne : ((er' : Int) == 0) = false := by simp; exact her0
        have hne' : ((er' : Int) != 0) = true := by simp; exact her0
        obtain ⟨hy0, hy1⟩ := cells2 HBX.out
        obtain ⟨hz0, hz1⟩ := cells2 HBZ.out
        have hzf := fun j => frozen_of_row _ _ j _ _ HBZ.out
        obtain ⟨hx0, hx1⟩ := cells2 (heap_setCell_same _ _ 1 _ _ (.slice none 0 0) (heap_setCell_same _ _ 0 _ _ (.int .i64 0) HBZ.out))
        have HF := Lib.hid (And.intro ((HR.out.setN w.heap.size 0 (.int .i64 0) HB3S.out.2.1 HB3S.out.2.2).setN w.heap.size 1 (.slice none 0 0) HB3S.out.2.1 HB3S.out.2.2) (grownSet (grownSet HG.out w.heap.size 0 (.int .i64 0) (Nat.le_refl _)) w.heap.size 1 (.slice none 0 0) (Nat.le_refl _)))
        have H0 := Lib.hid her0
        clear hres her0
        have hmc : m < n ∨ m = n := by omega
        rcases hmc with hmc | rfl
        all_goals (
        go_wp2
        rw [HK.out]
        exact bodyPost_ret (v := .agg #[.int .i64 0, .slice none 0 0]) (by simp [results, Try.results32, go_sem, hx0, hx1]) rfl ⟨none, 0, rfl, own_nil _ _ _ _, by simp, HF.out.1, HF.out.2⟩)
end Go.Proofs.Ytdeeeipdgoafaaa
