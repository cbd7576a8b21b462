/- The law FrameCuts. -/
import Derived.Test.YtckfghdocaojgaaFrameC4
import Derived.Test.YtckfghdocaojgaaOpen
namespace Go.Proofs.Ytckfghdocaojgaa
open Go.RowKit
theorem FrE.cons {w : World} {vs : List Value} {fs : List Fr} (h : FrE w vs fs) (k : Int) (A : Option Addr) (c : Nat) (body : List UInt8) (hr : RdB w A body) (hk : -9223372036854775808 ≤ k ∧ k ≤ 9223372036854775807) : FrE w (.int .i64 k :: .slice A body.length c :: vs) ((k, body) :: fs) := by
  obtain ⟨h1, h2⟩ := h
  refine ⟨by simp [h1]; omega, fun i hi => ?_⟩
  rcases i with _ | i
  · exact ⟨A, c, rfl, rfl, hr, hk⟩
  · obtain ⟨A', c', h3, h4, h5, h6⟩ := h2 i (by simpa using hi)
    rw [show (i + 1) * 2 = i * 2 + 1 + 1 by omega]
    exact ⟨A', c', by simpa using h3, by simpa using h4, by simpa using h5, by simpa using h6⟩
theorem frames_in {w : World} : ∀ es : List (List Value), (∀ e ∈ es, e.length = 2 ∧ rStruct [rInt .i64, rSlice 1 1 (rInt .u8)] w e) → ∃ fs : List Fr, fs.length = es.length ∧ FrE w es.flatten fs
  | [], _ => ⟨[], rfl, FrE.nil w⟩
  | e :: es, h => by
    obtain ⟨fs, h1, h2⟩ := frames_in es (fun e he => h e (by simp [he]))
    obtain ⟨hl, hR⟩ := h e (by simp)
    match e, hl with
    | [x0, x1], _ =>
      obtain ⟨k, h3, hw⟩ := hR 0 _ x0 rfl rfl
      obtain ⟨A, cap, bs, h4, _, _, _, hb⟩ := rSlice_bytes (hR 1 _ x1 rfl rfl)
      simp at h3
      subst h3 h4
      have hk := bounds_i64 hw
      exact ⟨(k, bs) :: fs, by simp [h1], FrE.cons h2 k A cap bs hb ⟨by omega, by omega⟩⟩
theorem part_box {w : World} {k : Int} {v : Value} {t : TypeId} : (w.alloc (.cells #[.int .i64 k, v] t (0, 0))).cell? ⟨w.heap.size, 0, none⟩ = some (.int .i64 k) ∧ (w.alloc (.cells #[.int .i64 k, v] t (0, 0))).cell? ⟨w.heap.size, 1, none⟩ = some v := frame_box
set_option maxHeartbeats 8000000 in
set_option maxRecDepth 20000 in
theorem frameCuts_walk (A : Option Addr) (n cap : Nat) (vs0 : List Value) (fs : List Fr) (A' : Option Addr) (cap' : Nat) (raw : List UInt8) (w : World) (hr : RdL w A vs0) (hf : FrE w vs0 fs) (hn : n = fs.length) (hn63 : n ≤ 9223372036854775807) (hr' : RdB w A' raw) (hcap' : raw.length ≤ cap') :
    Calls Try.prog 8 #[.slice A n cap, .slice A' raw.length cap'] w fun e w' => e = .returned (.bool true) ∧ Below w.heap.size w w' := by
  have hlr := hr'.1
  have HR := Lib.hid hr; clear hr
  have HF := Lib.hid hf; clear hf
  have HR' := Lib.hid hr'; clear hr'
  have HN := Lib.hid hn; clear hn
  by_cases h1 : 30 < n
  · go_enter Try.func8, Try.ntmps8
    go_wp2_with fail
    refine (alive_any w).mono ?_
    rintro e w1 ⟨rfl, hb1⟩
    go_wp2
    go_ret
    exact ⟨rfl, hb1⟩
  by_cases h2 : 20000 < raw.length
  · go_enter Try.func8, Try.ntmps8
    go_wp2_with fail
    refine (alive_any w).mono ?_
    rintro e w1 ⟨rfl, hb1⟩
    go_wp2
    go_ret
    exact ⟨rfl, hb1⟩
  go_enter Try.func8, Try.ntmps8
  go_wp2_with fail
  refine (alive_any w).mono ?_
  rintro e w1 ⟨rfl, hB1⟩
  have hs1 := hB1.size
  have HB1 := Lib.hid hB1; clear hB1
  go_wp2_with fail
  go_loopw [5, 6, 7, 9, 10, 11, 26, 27, 28, 29, 30, 31, 32, 33, 34, 35, 36, 37, 38, 39, 40, 41, 42, 43, 44, 45, 46, 47, 48, 49, 50, 51, 52, 53, 54, 55, 56] (fun o wt bd _ _ _ i _ _ _ _ _ _ _ _ _ _ _ _ _ _ _ _ _ _ _ _ _ _ _ _ _ _ _ _ _ _ wr => ∃ (k : Nat) (er : Int) (xs : List UInt8) (vs : List Value) (A1 : Option Addr) (c1 : Nat) (A2 : Option Addr) (c2 : Nat), k ≤ n ∧ i = .int .i64 k ∧ o = .slice A1 k c1 ∧ wt = .slice A2 xs.length c2 ∧ bd = .int .i64 er ∧ Hid (er = allErr (fs.take k)) ∧ Hid (xs = allB (fs.take k)) ∧ Hid (∀ f ∈ fs.take k, f.2.length ≤ 2000) ∧ Hid (wr.ownsRow w1.heap.size 29 2 (.slice A1 k c1) k vs) ∧ Hid (FrE w vs (fs.take k)) ∧ Hid (OwnB wr w1.heap.size 5 (.slice A2 xs.length c2) xs) ∧ Hid (Below w1.heap.size w1 wr)) (fun _ _ _ _ _ _ i _ _ _ _ _ _ _ _ _ _ _ _ _ _ _ _ _ _ _ _ _ _ _ _ _ _ _ _ _ _ _ => n - (intOf i).toNat)
  case atStart => exact ⟨0, 0, [], [], none, 0, none, 0, by omega, rfl, rfl, rfl, rfl, (show (0 : Int) = allErr (fs.take 0) from rfl), (show [] = allB (fs.take 0) from rfl), (fun f hf => by simp at hf), own_nil _ _ _ _, FrE.nil _, own_nil _ _ _ _, Below.refl _ _⟩
  case round =>
    obtain ⟨k, er, xs, vs, A1, c1, A2, c2, hk, rfl, rfl, rfl, rfl, HE, HX, HL2, HOF, HFE, HOW, HB⟩ := hrel
    by_cases hlt : k < n
    · have hkl : k < fs.length := by have := HN.out; omega
      obtain ⟨b, off, hA, hbl, hcs⟩ := HF.out.cells HR.out (by omega)
      obtain ⟨A3, c3, hc0, hc1, hr3, hk1, hk2⟩ := hcs k hkl
      have HBW := Lib.hid (belowT HB1.out HB.out)
      have HTK := Lib.hid (show fs.take (k + 1) = fs.take k ++ [(fs[k].1, fs[k].2)] from List.take_succ_eq_append_getElem hkl)
      generalize fs[k].1 = kd at *
      generalize fs[k].2 = bd at *
      subst hA
      have hd0 := cell_below HBW.out hc0
      have hd1 := cell_below HBW.out hc1
      have HR3 := Lib.hid hr3
      have HKD := Lib.hid (And.intro hk1 hk2)
      have hbw : b < wr.heap.size := World.block_lt_of_cell? wr _ hd0
      have hbdl := hr3.1
      clear hcs hc0 hc1 hr3 hk1 hk2
      by_cases h2k : 2000 < bd.length
      · go_wp2
        go_ret
        exact ⟨rfl, belowT HBW.out (below_alloc _ _)⟩
      · obtain ⟨x1, hx1⟩ : ∃ x1, x1 = wr.alloc (.cells #[.int .i64 kd, .slice A3 bd.length c3] 53 (0, 0)) := ⟨_, rfl⟩
        have hb1 : Below wr.heap.size wr x1 := by rw [hx1]; exact below_alloc _ _
        have hs2 : x1.heap.size = wr.heap.size + 1 := by rw [hx1]; simp [go_sem]
        have hbx : x1.cell? ⟨wr.heap.size, 0, none⟩ = some (.int .i64 kd) ∧ x1.cell? ⟨wr.heap.size, 1, none⟩ = some (.slice A3 bd.length c3) := by rw [hx1]; exact part_box
        obtain ⟨row, hrow⟩ : ∃ row : List Value, row = [.int .i64 kd, .slice A3 bd.length c3] := ⟨_, rfl⟩
        have hb2 : Below wr.heap.size wr (x1.alloc (.cells #[.int .i64 kd, .slice A3 bd.length c3] 29 (0, 0))) := belowT hb1 (below_alloc _ _)
        have HNR := Lib.hid (show RdL (x1.alloc (.cells #[.int .i64 kd, .slice A3 bd.length c3] 29 (0, 0))) (some ⟨wr.heap.size + 1, 0, none⟩) row by rw [hrow, ← hs2]; exact RdL.newC x1 [.int .i64 kd, .slice A3 bd.length c3] _ _)
        have HOF2 := Lib.hid (own_below HOF.out hb2)
        have HOW2 := Lib.hid (HOW.out.below hb2)
        have HB2 := Lib.hid (belowT HB.out hb2)
        have HBX := Lib.hid (And.intro (cell_below (below_alloc x1 (.cells #[.int .i64 kd, .slice A3 bd.length c3] 29 (0, 0))) hbx.1) (cell_below (below_alloc x1 (.cells #[.int .i64 kd, .slice A3 bd.length c3] 29 (0, 0))) hbx.2))
        have HRL1 := Lib.hid (show row.length = 1 * 2 by rw [hrow]; rfl)
        have HR1 := Lib.hid (show ∀ u ∈ row, u.oneCell' = true by rw [hrow]; intro u hu; simp at hu; rcases hu with rfl | rfl <;> rfl)
        have HROW := Lib.hid hrow
        have HX1 := Lib.hid hx1
        have hown1 := HOF.out.lt
        have HLT := Lib.hid (show ∀ g, (Value.slice A1 k c1).ownBlock = some g → g < wr.heap.size from fun g hg => (hown1 g hg).2)
        clear hb1 hb2 hbx hs2 hrow hx1 hown1
        rw [HX1.out] at HNR HOF2 HOW2 HB2 HBX
        go_wp2_with (at_builtin; go_loud (refine wpList_appV w1 w1.heap.size Try.slF rfl (.tmp 34) (.tmp 40) rfl _ k vs rfl HOF2.out (some ⟨wr.heap.size + 1, 0, none⟩) 1 1 row rfl HNR.out HRL1.out HR1.out (k + 1) rfl (vs ++ row) rfl (by omega) (by omega) HB2.out (Nat.le_refl _) ?_); intro A5 c5 w5 hown5 hr5 hB5 hg5 hat5; clear hat5 hr5; have HO5 := Lib.hid hown5; have HB5 := Lib.hid hB5; have HG5 := Lib.hid (show World.grownBy _ w5 (Value.slice A1 k c1).ownBlock from hg5); have hy0 := (hg5.cell_far ⟨wr.heap.size, 0, none⟩ (by simp [go_sem]) (fun h => Nat.lt_irrefl _ (HLT.out wr.heap.size h.symm))).trans HBX.out.1; have hy1 := (hg5.cell_far ⟨wr.heap.size, 1, none⟩ (by simp [go_sem]) (fun h => Nat.lt_irrefl _ (HLT.out wr.heap.size h.symm))).trans HBX.out.2; clear hown5 hB5 hg5)
        have HOW5 := Lib.hid (own_two HOW2.out HOF2.out (by decide) HG5.out)
        have HFN := Lib.hid (show FrE w (vs ++ row) (fs.take (k + 1)) by rw [HTK.out, HROW.out]; exact HFE.out.snoc kd A3 c3 bd HR3.out HKD.out)
        have HL2N := Lib.hid (show ∀ f ∈ fs.take (k + 1), f.2.length ≤ 2000 by
          rw [HTK.out]
          intro f hf
          rcases List.mem_append.1 hf with h | h
          · exact HL2.out f h
          · simp at h; subst h; simp; omega)
        have HEN := Lib.hid (show allErr (fs.take (k + 1)) = if er = 0 then encErr kd bd else er by rw [HTK.out, allErr_snoc, HE.out])
        have HXN := Lib.hid (show allB (fs.take (k + 1)) = xs ++ encB kd bd by rw [HTK.out, allB_snoc, HX.out])
        clear hy0 hy1 hd0 hd1
        refine (refEncode_any kd A3 c3 bd w5 HKD.out (HR3.out.below (belowT HB1.out HB5.out))).mono ?_
        rintro e w6 ⟨A6, c6, rfl, hO6, hB6⟩
        have HR6 := Lib.hid hO6.rdA
        have HOW6 := Lib.hid (own_below HOW5.out hB6)
        have HOF6 := Lib.hid (own_below HO5.out hB6)
        have HB6 := Lib.hid (belowT HB5.out hB6)
        clear hO6 hB6
        obtain ⟨ys, hys⟩ : ∃ ys, ys = xs ++ encB kd bd := ⟨_, rfl⟩
        have HYS := Lib.hid hys
        have HXN := Lib.hid (show ys = allB (fs.take (k + 1)) by rw [hys]; exact HXN.out.symm)
        have hyl : ys.length ≤ 140737488355328 := by
          have h1 := allB_len (fs.take (k + 1)) 2000 HL2N.out
          rw [← HXN.out] at h1
          have h2 : (fs.take (k + 1)).length ≤ 31 := by simp; omega
          have h3 : (fs.take (k + 1)).length * (2000 + 7) ≤ 31 * 2007 := Nat.mul_le_mul_right _ h2
          omega
        have HYL := Lib.hid hyl
        clear hys hyl
        have HRW := Lib.hid HROW.out
        by_cases he : er = 0
        · subst he
          have HEN := Lib.hid (HEN.out.trans (if_pos rfl))
          go_wp2_with (at_builtin; go_loud (refine wpList_appB w1 w1.heap.size Try.slB rfl (.tmp 50) (.tmp 51) rfl _ xs rfl HOW6.out A6 _ c6 (encB kd bd) rfl rfl HR6.out ys HYS.out HYL.out HB6.out (Nat.le_refl _) ?_); intro A7 c7 w7 hown7 hr7 hB7 hg7 hat7; clear hat7 hr7; have HO7 := Lib.hid hown7; have HB7 := Lib.hid hB7; have HOF7 := Lib.hid (own_two HOF6.out HOW6.out (by decide) hg7); clear hown7 hB7 hg7)
          go_roundw
          case rel => exact ⟨k + 1, encErr kd bd, ys, vs ++ row, A5, c5, A7, c7, by omega, by go_num, rfl, rfl, rfl, HEN.out.symm, HXN.out, HL2N.out, HOF7.out, HFN.out, HO7.out, HB7.out⟩
          case measure => simp [intOf]; omega
        · have hne : (er == 0) = false := by simpa using he
          have HEN := Lib.hid (HEN.out.trans (if_neg he))
          clear he
          go_wp2_with (at_builtin; go_loud (refine wpList_appB w1 w1.heap.size Try.slB rfl (.tmp 50) (.tmp 51) rfl _ xs rfl HOW6.out A6 _ c6 (encB kd bd) rfl rfl HR6.out ys HYS.out HYL.out HB6.out (Nat.le_refl _) ?_); intro A7 c7 w7 hown7 hr7 hB7 hg7 hat7; clear hat7 hr7; have HO7 := Lib.hid hown7; have HB7 := Lib.hid hB7; have HOF7 := Lib.hid (own_two HOF6.out HOW6.out (by decide) hg7); clear hown7 hB7 hg7)
          go_roundw
          case rel => exact ⟨k + 1, er, ys, vs ++ row, A5, c5, A7, c7, by omega, by go_num, rfl, rfl, rfl, HEN.out.symm, HXN.out, HL2N.out, HOF7.out, HFN.out, HO7.out, HB7.out⟩
          case measure => simp [intOf]; omega
    · obtain rfl : k = n := by omega
      have HT := Lib.hid (show fs.take k = fs from List.take_of_length_le (by rw [HN.out]; omega))
      have HE := Lib.hid (show er = allErr fs by have := HE.out; rwa [HT.out] at this)
      have HX := Lib.hid (show xs = allB fs by have := HX.out; rwa [HT.out] at this)
      have HL2 := Lib.hid (show ∀ f ∈ fs, f.2.length ≤ 2000 by have := HL2.out; rwa [HT.out] at this)
      have HFE := Lib.hid (show FrE w vs fs by have := HFE.out; rwa [HT.out] at this)
      have HBW := Lib.hid (belowT HB1.out HB.out)
      have HXL := Lib.hid (show xs.length ≤ 1000000 by
        have h1 := allB_len fs 2000 HL2.out
        rw [← HX.out, ← HN.out] at h1
        have h3 : k * (2000 + 7) ≤ 31 * 2007 := Nat.mul_le_mul_right _ (by omega)
        omega)
      have HRS := Lib.hid (fun (W : World) (h : Below wr.heap.size wr W) => raws_any A' cap' raw W (HR'.out.below (belowT HBW.out h)) hcap' (by omega))
      have HAL := all_any A1 k c1 vs fs wr (own_rd HOF.out) (HFE.out.below HBW.out) HN.out (by omega) HL2.out
      rw [← HE.out] at HAL
      have HAL2 := Lib.hid HAL
      clear HAL
      go_wp2_with fail
      refine HAL2.out.mono ?_
      rintro e w3 ⟨A3, c3, m, rfl, h0, h1, hmc, hB3⟩
      have HB3 := Lib.hid hB3
      have HOW3 := Lib.hid (HOW.out.below hB3)
      by_cases he : er = 0
      · obtain ⟨hm, hr3⟩ := h0 he
        rw [← HX.out] at hm hr3
        subst hm
        have HR3 := Lib.hid hr3
        have HRX := Lib.hid HOW3.out.rdA
        have hcf := cutF_all fs (by rw [← HE.out]; exact he)
        rw [← HX.out, ← HN.out] at hcf
        have HCF := Lib.hid hcf
        subst he
        clear h0 h1 hr3 hB3 hcf
        go_wp2_with fail
        refine (same_any A3 A2 _ _ c3 c2 _ _ w3 HR3.out HRX.out rfl rfl).mono ?_
        rintro e w4 ⟨rfl, rfl⟩
        rw [decide_eq_true rfl]
        go_wp2_with fail
        refine (cuts_any A3 c3 k xs w3 HR3.out hmc HXL.out HCF.out.1 HCF.out.2).mono ?_
        rintro e w4 ⟨rfl, hB4⟩
        have HB4 := Lib.hid (belowT HB3.out hB4)
        clear hB4
        go_wp2_with fail
        refine (HRS.out w4 HB4.out).mono ?_
        rintro e w5 ⟨rfl, hB5⟩
        go_wp2
        go_ret
        exact ⟨rfl, belowT (belowT HBW.out HB4.out) hB5⟩
      · obtain ⟨rfl, rfl, rfl⟩ := h1 he
        have hne : (er == 0) = false := by simpa using he
        have hne' : (er != 0) = true := by simpa using he
        clear h0 h1 he hB3
        go_wp2_with fail
        refine (HRS.out w3 HB3.out).mono ?_
        rintro e w5 ⟨rfl, hB5⟩
        go_wp2
        go_ret
        exact ⟨rfl, belowT (belowT HBW.out HB3.out) hB5⟩
theorem frameCuts_front (A : Option Addr) (n cap : Nat) (A' : Option Addr) (n' cap' : Nat) (W : World) (hR : rSlice 2 32 (rStruct [rInt .i64, rSlice 1 1 (rInt .u8)]) W [.slice A n cap]) (hR' : rSlice 1 1 (rInt .u8) W [.slice A' n' cap']) :
    Calls Try.prog 8 #[.slice A n cap, .slice A' n' cap'] W fun e w' => e = .returned (.bool true) ∧ Below W.heap.size W w' := by
  obtain ⟨A2, len, cap2, es, hv, hl, h1, h2, _, he, hrd⟩ := hR
  simp only [List.cons.injEq, Value.slice.injEq, and_true] at hv
  obtain ⟨rfl, rfl, rfl⟩ := hv
  obtain ⟨A3, c3, bs, e3, h3, _, _, h4⟩ := rSlice_bytes hR'
  simp only [Value.slice.injEq] at e3
  obtain ⟨rfl, rfl, rfl⟩ := e3
  obtain ⟨fs, hfl, hfe⟩ := frames_in es he
  exact frameCuts_walk A n cap es.flatten fs A' cap' bs W hrd hfe (by omega) (by omega) h4 h3
end Go.Proofs.Ytckfghdocaojgaa
