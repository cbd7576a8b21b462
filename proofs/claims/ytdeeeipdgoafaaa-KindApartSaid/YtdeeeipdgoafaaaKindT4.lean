/- The walks of a table's Get and All, and of the reference's All. -/
import Derived.Test.YtdeeeipdgoafaaaKindT3
namespace Go.Proofs.Ytdeeeipdgoafaaa
open Go.RowKit
attribute [local go_sem ↓] Go.wp_at_zero Go.wp_at_succ
theorem kd_push {w w' : World} {base lo n : Nat} {v v' : Value} {ks : List Kd} {vs : List Value} (h1 : w.ownsRow base 24 2 v n vs) (h2 : KdE w vs ks) (h3 : AptI w lo vs) (S : Int) (A3 : Option Addr) (c3 : Nat) (ps : List Int) (hS : -9223372036854775808 ≤ S ∧ S ≤ 9223372036854775807) (hr3 : RdI w A3 ps) (ht3 : 0 < ps.length → TypB w lo 3 A3)
    (_hown : w'.ownsRow base 24 2 v' (n + 1) (vs ++ [.int .i64 S, .slice A3 ps.length c3])) (hg : w.grownBy w' v.ownBlock) :
    KdE w' (vs ++ [.int .i64 S, .slice A3 ps.length c3]) (ks ++ [(S, ps)]) ∧ AptI w' lo (vs ++ [.int .i64 S, .slice A3 ps.length c3]) := by
  have kk := kept_of_grown hg
  have hF : ∀ b cs fr, w.heap[b]? = some (.cells cs 3 fr) → ¬ (some b = v.ownBlock) := fun b cs fr h he => by
    obtain ⟨cur, h4⟩ := own_block h1 he.symm
    rw [h] at h4
    simp at h4
  obtain ⟨e1, e2⟩ := h2.kept h3 kk (fun b cs fr _ h => hF b cs fr h)
  have hA3 : 0 < ps.length → ∀ b off sp, A3 = some ⟨b, off, sp⟩ → ¬ (some b = v.ownBlock) := fun hp b off sp hA => by
    obtain ⟨_, cs, fr, h, _⟩ := ht3 hp b off sp hA
    exact hF b cs fr h
  refine ⟨e1.snoc S A3 c3 ps (kk.rdI hr3 (fun b off sp hA hp => hA3 hp b off sp hA)) hS, ?_⟩
  intro i A' n' c' hi hn
  rcases Nat.lt_or_ge i vs.length with hl | hl
  · rw [List.getElem?_append_left hl] at hi
    exact e2 i A' n' c' hi hn
  · rw [List.getElem?_append_right hl] at hi
    rcases hj : i - vs.length with _ | _ | j
    · rw [hj] at hi; simp at hi
    · rw [hj] at hi
      simp only [Nat.zero_add, List.getElem?_cons_succ, List.getElem?_cons_zero, Option.some.injEq, Value.slice.injEq] at hi
      obtain ⟨rfl, rfl, _⟩ := hi
      exact (ht3 hn).kept kk (hA3 hn)
    · rw [hj] at hi; simp at hi
theorem Tab.len {w : World} {g lo : Nat} {A : Option Addr} {c : Nat} {ks : List Kd} {vs : List Value} (h : Tab w g lo A c ks vs) : ks.length ≤ 9223372036854775807 := by
  rcases h.own.2 with ⟨_, h0⟩ | ⟨_, _, _, _, _, _, h3, h4, _⟩
  · omega
  · simp only [maxLen] at h4; omega
set_option maxHeartbeats 2000000 in
theorem tget_bad {w : World} {g lo : Nat} {A : Option Addr} {c : Nat} {ks : List Kd} {vs : List Value} (h : Tab w g lo A c ks vs) (i : Int) (hi : ¬ (0 ≤ i ∧ i < ks.length)) :
    Calls Try.prog 19 #[.pointer (some ⟨g, 0, none⟩), .int .i64 i] w fun e w' => e = .returned (.tuple #[.agg #[.int .i64 0, .slice none 0 0], .int .i64 11]) ∧ Below w.heap.size w w' := by
  have hlk := h.len
  have hg := heap_alloc_new w (.cells #[.int .i64 0, .slice none 0 0] 24 (0, 0))
  obtain ⟨hz0, hz1⟩ := cells2 hg
  have hzf := fun j => frozen_of_row _ w.heap.size j _ _ hg
  have HG := Lib.hid hg; clear hg
  have hgl := h.lt
  have hc := h.cell
  have HT := Lib.hid h; clear h
  have hd : i < 0 ∨ (0 ≤ i ∧ (ks.length : Int) ≤ i) := by omega
  clear hi
  rcases hd with h1 | ⟨h1, h2⟩
  all_goals (
    go_enter Try.func19, Try.ntmps19
    go_wp2
    exact bodyPost_ret (v := .tuple #[.agg #[.int .i64 0, .slice none 0 0], .int .i64 11]) (by simp [results, Try.results19, go_sem]) rfl ⟨rfl, below_alloc _ _⟩)
set_option maxHeartbeats 2000000 in
theorem tget_ok {w : World} {g lo : Nat} {A : Option Addr} {c : Nat} {ks : List Kd} {vs : List Value} (h : Tab w g lo A c ks vs) (i : Nat) (hi : i < ks.length) (hps : ks[i].2.length * 8 ≤ 140737488351232) :
    Calls Try.prog 19 #[.pointer (some ⟨g, 0, none⟩), .int .i64 (i : Int)] w fun e w' => ∃ A' c', e = .returned (.tuple #[.agg #[.int .i64 ks[i].1, .slice A' ks[i].2.length c'], .int .i64 0]) ∧ w'.ownsRow w.heap.size 3 1 (.slice A' ks[i].2.length c') ks[i].2.length (iv .i64 ks[i].2) ∧ RdI w' A' ks[i].2 ∧ Below w.heap.size w w' := by
  have hlk := h.len
  obtain ⟨b, off, rfl, hbl, hcs⟩ := h.els.cells (own_rd h.own) (by omega)
  obtain ⟨A3, c3, hc0, hc1, hr3, _⟩ := hcs i hi
  generalize ks[i].1 = S at *
  generalize ks[i].2 = ps at *
  have hg := heap_alloc_new w (.cells #[.int .i64 0, .slice none 0 0] 24 (0, 0))
  have hal := below_alloc w (.cells #[.int .i64 0, .slice none 0 0] 24 (0, 0))
  have HR3 := Lib.hid (hr3.below hal); clear hr3
  have HAL := Lib.hid hal
  have HG := Lib.hid hg
  have hgl := h.lt
  have hc := h.cell
  have HT := Lib.hid h
  clear h hcs hg hal
  go_enter Try.func19, Try.ntmps19
  go_wp2_with fail
  refine (twin_any S A3 c3 ps _ HR3.out hps).mono ?_
  rintro e w2 ⟨A4, c4, rfl, hown4, hr4, hB4⟩
  have hs : (w.alloc (.cells #[.int .i64 0, .slice none 0 0] 24 (0, 0))).heap.size = w.heap.size + 1 := by simp [go_sem]
  have hgw := (hB4.block w.heap.size (by omega)).trans HG.out
  obtain ⟨hy0, hy1⟩ := cells2 hgw
  have hyf := fun j => frozen_of_row w2 w.heap.size j _ _ hgw
  obtain ⟨hr0, hr1⟩ := cells2 (two_cells' (u := .int .i64 S) (v := .slice A4 ps.length c4) hgw)
  have HB2 := Lib.hid (belowT HAL.out hB4)
  have HO4 := Lib.hid hown4
  have HR4 := Lib.hid hr4
  have HS := Lib.hid hs
  clear hgw hB4 hown4 hr4 hs hc hc0 hc1
  go_wp2
  have hown5 := ownsRow_setCell_below (ownsRow_setCell_below HO4.out (a := ⟨w.heap.size, 0, none⟩) (by rw [HS.out]; exact Nat.lt_succ_self _) (.int .i64 S)) (a := ⟨w.heap.size, 1, none⟩) (by rw [HS.out]; exact Nat.lt_succ_self _) (.slice A4 ps.length c4)
  exact bodyPost_ret (v := .tuple #[.agg #[.int .i64 S, .slice A4 ps.length c4], .int .i64 0]) (by simp [results, Try.results19, go_sem, hr0, hr1]) rfl ⟨A4, c4, rfl, own_le hown5 (by rw [HS.out]; omega), ⟨HR4.out.1, own_rd hown5, HR4.out.2.2⟩, belowS (belowS HB2.out _ _) _ _⟩
set_option maxHeartbeats 4000000 in
set_option maxRecDepth 20000 in
theorem tall_any {w : World} {g lo : Nat} {A : Option Addr} {c : Nat} {ks : List Kd} {vs : List Value} (h : Tab w g lo A c ks vs) (hn : ks.length ≤ 64) (hps : ∀ p ∈ ks, p.2.length * 8 ≤ 140737488351232) :
    Calls Try.prog 21 #[.pointer (some ⟨g, 0, none⟩)] w fun e w' => ∃ A' c' vs', e = .returned (.slice A' ks.length c') ∧ w'.ownsRow w.heap.size 24 2 (.slice A' ks.length c') ks.length vs' ∧ KdE w' vs' ks ∧ AptI w' w.heap.size vs' ∧ Below w.heap.size w w' := by
  have HT := Lib.hid h; clear h
  have HPS := Lib.hid hps; clear hps
  go_enter Try.func21, Try.ntmps21
  go_wp2_with fail
  refine (tlen_any HT.out).mono ?_
  rintro e w1 ⟨rfl, rfl⟩
  go_wp2_with fail
  go_loopw [3, 4, 7, 8, 9, 10, 11, 12, 13, 14, 15, 16, 17, 18, 19, 20, 21] (fun o _ i _ _ _ _ _ _ _ _ _ _ _ _ _ _ wr => ∃ (k : Nat) (A1 : Option Addr) (c1 : Nat) (vs1 : List Value), k ≤ ks.length ∧ i = .int .i64 k ∧ o = .slice A1 k c1 ∧ Hid (wr.ownsRow w.heap.size 24 2 (.slice A1 k c1) k vs1) ∧ Hid (KdE wr vs1 (ks.take k)) ∧ Hid (AptI wr w.heap.size vs1) ∧ Hid (Below w.heap.size w wr)) (fun _ _ i _ _ _ _ _ _ _ _ _ _ _ _ _ _ _ => ks.length - (intOf i).toNat)
  case atStart => exact ⟨0, none, 0, [], by omega, rfl, rfl, own_nil _ _ _ _, KdE.nil _, (fun i A n c h => by simp at h), Below.refl _ _⟩
  case round =>
    obtain ⟨k, A1, c1, vs1, hk, rfl, rfl, HO, HK, HA, HB⟩ := hrel
    by_cases hlt : k < ks.length
    · obtain ⟨b, off, rfl, hbl, hcs⟩ := HT.out.els.cells (own_rd HT.out.own) (by omega)
      obtain ⟨A3, c3, hc0, hc1, hr3, hS1, hS2⟩ := hcs k hlt
      have hpk := HPS.out ks[k] (List.getElem_mem _)
      have HTK := Lib.hid (show ks.take (k + 1) = ks.take k ++ [(ks[k].1, ks[k].2)] from List.take_succ_eq_append_getElem hlt)
      generalize ks[k].1 = S at *
      generalize ks[k].2 = ps at *
      have hc := cell_below HB.out HT.out.cell
      have hd0 := cell_below HB.out hc0
      have hd1 := cell_below HB.out hc1
      have HR3 := Lib.hid (hr3.below HB.out)
      have HSB := Lib.hid (And.intro hS1 hS2)
      have HPK := Lib.hid hpk
      clear hcs hc0 hc1 hr3 hS1 hS2 hpk
      go_wp2_with fail
      refine (twin_any S A3 c3 ps wr HR3.out HPK.out).mono ?_
      rintro e w2 ⟨A4, c4, rfl, hown4, hr4, hB4⟩
      obtain ⟨row, hrow⟩ : ∃ row : List Value, row = [.int .i64 S, .slice A4 ps.length c4] := ⟨_, rfl⟩
      have hbx := belowT hB4 (below_alloc w2 (.cells #[.int .i64 S, .slice A4 ps.length c4] 24 (0, 0)))
      have hba := below_alloc w2 (.cells #[.int .i64 S, .slice A4 ps.length c4] 24 (0, 0))
      have HOW := Lib.hid (own_below HO.out hbx)
      have HNR := Lib.hid (show RdL (w2.alloc (.cells #[.int .i64 S, .slice A4 ps.length c4] 24 (0, 0))) (some ⟨w2.heap.size, 0, none⟩) row by rw [hrow]; exact RdL.newC w2 [.int .i64 S, .slice A4 ps.length c4] _ _)
      have HRL1 := Lib.hid (show row.length = 1 * 2 by rw [hrow]; rfl)
      have HR1 := Lib.hid (show ∀ u ∈ row, u.oneCell' = true by rw [hrow]; intro u hu; simp at hu; rcases hu with rfl | rfl <;> rfl)
      have HBX := Lib.hid (belowT HB.out hbx)
      have HKX := Lib.hid (HK.out.below hbx)
      have HAX := Lib.hid (show AptI _ _ _ from (HK.out.kept (F := fun _ => False) HA.out (kept_of_below hbx) (fun _ _ _ _ _ h => h)).2)
      have HRX := Lib.hid (hr4.below hba)
      have HTX := Lib.hid (((own_typ hown4).kept (F := fun _ => False) (kept_of_below hba) (fun _ _ _ _ h => h)).le (show w.heap.size ≤ wr.heap.size from HB.out.size))
      have HROW := Lib.hid hrow
      clear hrow hbx hba hown4 hr4 hB4 hc hd0 hd1
      go_wp2_with (at_builtin; go_loud (refine wpList_appV w w.heap.size Try.slK rfl (.tmp 10) (.tmp 19) rfl _ k vs1 rfl HOW.out (some ⟨w2.heap.size, 0, none⟩) 1 1 row rfl HNR.out HRL1.out HR1.out (k + 1) rfl (vs1 ++ row) rfl (by omega) (by omega) HBX.out (Nat.le_refl _) ?_); intro A5 c5 w5 hown5 hr5 hB5 hg5 hat5; clear hat5 hr5; have HO5 := Lib.hid hown5; have HB5 := Lib.hid hB5; have HG5 := Lib.hid (show World.grownBy _ w5 (Value.slice A1 k c1).ownBlock from hg5); clear hown5 hB5 hg5)
      obtain ⟨hp1, hp2⟩ := kd_push HOW.out HKX.out HAX.out S A4 c4 ps HSB.out HRX.out (fun _ => HTX.out) (by have := HO5.out; rwa [HROW.out] at this) HG5.out
      have HP1 := Lib.hid (show KdE w5 (vs1 ++ row) (ks.take (k + 1)) by rw [HTK.out, HROW.out]; exact hp1)
      have HP2 := Lib.hid (show AptI w5 w.heap.size (vs1 ++ row) by rw [HROW.out]; exact hp2)
      clear hp1 hp2
      go_roundw
      case rel => exact ⟨k + 1, A5, c5, vs1 ++ row, by omega, by go_num, rfl, HO5.out, HP1.out, HP2.out, HB5.out⟩
      case measure => simp [intOf]; omega
    · obtain ⟨n, hkn⟩ : ∃ n, n = ks.length := ⟨_, rfl⟩
      obtain rfl : k = n := by omega
      have HKN := Lib.hid hkn
      have HK2 := Lib.hid (show KdE wr vs1 ks by have := HK.out; rwa [List.take_of_length_le (by omega)] at this)
      have hkk : (k : Int) = (ks.length : Int) := by omega
      go_wp2
      go_ret
      rw [← HKN.out]
      exact ⟨A1, c1, vs1, rfl, HO.out, HK2.out, HA.out, HB.out⟩
end Go.Proofs.Ytdeeeipdgoafaaa
