/- The walks of cuts and raws. -/
import Derived.Test.YtckfghdocaojgaaFrameC3
namespace Go.Proofs.Ytckfghdocaojgaa
open Go.RowKit
set_option maxHeartbeats 1000000 in
theorem cuts_any (A : Option Addr) (cap n : Nat) (bs : List UInt8) (w : World) (hr : RdB w A bs) (hcap : bs.length ≤ cap) (hbig : bs.length ≤ 1000000) (h0 : (cutF bs).2 = 0) (hn : (cutF bs).1.length = n) :
    Calls Try.prog 20 #[.slice A bs.length cap, .int .i64 (n : Int), .int .i64 0] w fun e w' => e = .returned (.bool true) ∧ Below w.heap.size w w' := by
  have hc := cut_any A cap bs w hr hcap hbig
  rw [h0, hn] at hc
  have HC := Lib.hid hc
  clear hc h0 hn hr
  go_enter Try.func20, Try.ntmps20
  go_wp2_with fail
  refine HC.out.mono ?_
  rintro e w1 ⟨A1, c1, rfl, _, hB1⟩
  go_wp2
  go_ret
  exact ⟨rfl, hB1⟩
set_option maxHeartbeats 4000000 in
set_option maxRecDepth 20000 in
theorem raws_ok (A : Option Addr) (cap : Nat) (bs : List UInt8) (w : World) (hr : RdB w A bs) (hcap : bs.length ≤ cap) (hbig : bs.length ≤ 1000000) (h0 : (cutF bs).2 = 0) :
    Calls Try.prog 21 #[.slice A bs.length cap] w fun e w' => e = .returned (.bool true) ∧ Below w.heap.size w w' := by
  have hc := cut_any A cap bs w hr hcap hbig
  obtain ⟨L, hL⟩ : ∃ L, cutF bs = (L, 0) := ⟨(cutF bs).1, by rw [← h0]⟩
  rw [hL] at hc
  simp only [] at hc
  have HC := Lib.hid hc
  have HL := Lib.hid hL
  have HR := Lib.hid hr
  clear hc h0 hL hr
  go_enter Try.func21, Try.ntmps21
  go_wp2_with fail
  refine HC.out.mono ?_
  rintro e w1 ⟨A2, c2, rfl, ⟨vs, hvs, hfe, _⟩, hB1⟩
  have HRV := Lib.hid (own_rd (by rw [toFr_length] at hvs; exact hvs))
  have HFE := Lib.hid hfe
  have HB1 := Lib.hid hB1
  have HR1 := Lib.hid (HR.out.below hB1)
  clear hvs hfe hB1
  go_wp2_with fail
  go_loopw [0, 5, 6, 7, 8, 9, 15, 16, 17, 18, 19, 20, 21, 22, 23, 24, 25, 26, 27, 28, 29, 30, 31, 32, 33, 34, 35, 36, 37, 38, 39, 40, 41, 42, 43, 44, 45, 46, 47, 48, 49, 50, 51, 52, 53, 54, 55, 56, 57, 58, 59, 60, 61, 62, 63, 64] (fun b i _ _ _ _ _ _ _ _ _ _ _ _ _ _ _ _ _ _ _ _ _ _ _ _ _ _ _ _ _ _ _ _ _ _ _ _ _ _ _ _ _ _ _ _ _ _ _ _ _ _ _ _ _ _ wr => ∃ (xs : List UInt8) (A1 : Option Addr) (c1 j : Nat), b = .slice A1 xs.length c1 ∧ i = .int .i64 (j : Int) ∧ j ≤ L.length ∧ xs.length ≤ c1 ∧ j + xs.length ≤ 1000000 ∧ Hid (RdB wr A1 xs) ∧ Hid (cutF xs = (L.drop j, 0)) ∧ Hid (Below w1.heap.size w1 wr)) (fun b _ _ _ _ _ _ _ _ _ _ _ _ _ _ _ _ _ _ _ _ _ _ _ _ _ _ _ _ _ _ _ _ _ _ _ _ _ _ _ _ _ _ _ _ _ _ _ _ _ _ _ _ _ _ _ _ => match b with | .slice _ n _ => n | _ => 0)
  case atStart => exact ⟨bs, A, cap, 0, rfl, rfl, by omega, hcap, by omega, HR1.out, HL.out, Below.refl _ _⟩
  case round =>
    obtain ⟨xs, A1, c1, j, rfl, rfl, hj, hxc, hxl, HX, HCX, HB⟩ := hrel
    by_cases hlt : 0 < xs.length
    · have hne : xs ≠ [] := by intro h; rw [h] at hlt; simp at hlt
      have hbad : (splitF xs).err = 0 := by
        rcases Nat.eq_zero_or_pos (splitF xs).err with h | h
        · exact h
        · have h1 := cutF_bad xs hne (by omega)
          rw [HCX.out] at h1
          have := congrArg Prod.snd h1
          simp at this; omega
      have hok := cutF_ok xs hne hbad
      rw [HCX.out] at hok
      have hr2 : (cutF (splitF xs).rest).2 = 0 := by
        rcases Nat.eq_zero_or_pos (cutF (splitF xs).rest).2 with h | h
        · exact h
        · rw [if_pos (by omega)] at hok
          have := congrArg Prod.snd hok
          simp at this; omega
      rw [if_neg (by omega)] at hok
      simp only [Prod.mk.injEq, and_true] at hok
      have hjl : j < L.length := by
        rcases Nat.lt_or_ge j L.length with h | h
        · exact h
        · rw [List.drop_of_length_le h] at hok; cases hok
      rw [List.drop_eq_getElem_cons hjl] at hok
      simp only [List.cons.injEq] at hok
      obtain ⟨hk1, hrest⟩ := hok
      have HREST := Lib.hid (show cutF (splitF xs).rest = (L.drop (j + 1), 0) by rw [← hr2, hrest])
      have HRL := Lib.hid (split_rest xs hbad)
      have hjf : j < (toFr L).length := by rw [toFr_length]; exact hjl
      obtain ⟨b, off, hA2, hbl, hcs⟩ := HFE.out.cells HRV.out (by omega)
      obtain ⟨A3, c3, hc0, hc1, hr3, hfk⟩ := hcs j hjf
      have hfj : (toFr L)[j] = (((splitF xs).k : Int), (splitF xs).body) := by simp [toFr, hk1]
      rw [hfj] at hc0 hc1 hr3
      simp only [] at hc0 hc1 hr3
      subst hA2
      have HC0 := Lib.hid (cell_below HB.out hc0)
      have HC1 := Lib.hid (cell_below HB.out hc1)
      have HR3 := Lib.hid (hr3.below HB.out)
      have HSP := refSplit_any A1 c1 xs wr HX.out hxc (by omega)
      rw [hbad] at HSP
      have HSP := Lib.hid HSP
      generalize (splitF xs).k = k at *
      generalize (splitF xs).body = bd at *
      generalize (splitF xs).rest = rt at *
      clear hfk hcs
      clear hne hbad hr2 hk1 hrest hjf hc0 hc1 hr3 hfj
      go_wp2_with fail
      refine HSP.out.mono ?_
      rintro e w3 ⟨⟨A4, n4, c4, A5, n5, c5, rfl, hn4, hn5⟩, hB3⟩
      have hd0 := cell_below hB3 HC0.out
      have hd1 := cell_below hB3 HC1.out
      have HR3 := Lib.hid (HR3.out.below hB3)
      have HB3 := Lib.hid (belowT HB.out hB3)
      have hc5 := hn5.cap
      obtain ⟨rfl, hr4, _⟩ := hn4
      obtain ⟨rfl, hr5, _⟩ := hn5
      have HR4 := Lib.hid hr4
      have HR5 := Lib.hid hr5
      clear hr4 hr5 hB3
      go_wp2_with fail
      refine (same_any A3 A4 _ _ c3 c4 _ _ w3 HR3.out HR4.out rfl rfl).mono ?_
      rintro e w4 ⟨rfl, rfl⟩
      rw [decide_eq_true rfl]
      go_wp2
      go_roundw
      case rel => exact ⟨rt, A5, c5, j + 1, rfl, by go_num, by omega, hc5, by have := HRL.out; omega, HR5.out, HREST.out, HB3.out⟩
      case measure => have := HRL.out; simp; omega
    · have hx0 : xs = [] := List.eq_nil_of_length_eq_zero (by omega)
      have hjl : j = L.length := by
        have := HCX.out
        rw [hx0, cutF_nil] at this
        have h1 := congrArg Prod.fst this
        simp at h1
        omega
      subst hjl
      clear hx0
      go_wp2
      go_ret
      exact ⟨rfl, belowT HB1.out HB.out⟩
set_option maxHeartbeats 4000000 in
set_option maxRecDepth 20000 in
theorem raws_bad (A : Option Addr) (cap : Nat) (bs : List UInt8) (w : World) (hr : RdB w A bs) (hcap : bs.length ≤ cap) (hbig : bs.length ≤ 1000000) (h0 : (cutF bs).2 ≠ 0) :
    Calls Try.prog 21 #[.slice A bs.length cap] w fun e w' => e = .returned (.bool true) ∧ Below w.heap.size w w' := by
  have hc := cut_any A cap bs w hr hcap hbig
  obtain ⟨er, hL⟩ : ∃ er, cutF bs = ([], er) := ⟨(cutF bs).2, by rw [← cutF_fault bs h0]⟩
  rw [hL] at hc h0
  simp only [] at hc
  have HC := Lib.hid hc
  have HL := Lib.hid hL
  have HER := Lib.hid h0
  have he0 : ((er : Int) == 0) = false := by simp; exact h0
  have HR := Lib.hid hr
  clear hc h0 hL hr
  go_enter Try.func21, Try.ntmps21
  go_wp2_with fail
  refine HC.out.mono ?_
  rintro e w1 ⟨A2, c2, rfl, ⟨vs, hvs, hfe, _⟩, hB1⟩
  have HB1 := Lib.hid hB1
  have HR1 := Lib.hid (HR.out.below hB1)
  clear hvs hfe hB1
  go_wp2_with fail
  go_loopw [0, 5, 6, 7, 8, 9, 15, 16, 17, 18, 19, 20, 21, 22, 23, 24, 25, 26, 27, 28, 29, 30, 31, 32, 33, 34, 35, 36, 37, 38, 39, 40, 41, 42, 43, 44, 45, 46, 47, 48, 49, 50, 51, 52, 53, 54, 55, 56, 57, 58, 59, 60, 61, 62, 63, 64] (fun b i _ _ _ _ _ _ _ _ _ _ _ _ _ _ _ _ _ _ _ _ _ _ _ _ _ _ _ _ _ _ _ _ _ _ _ _ _ _ _ _ _ _ _ _ _ _ _ _ _ _ _ _ _ _ wr => ∃ (xs : List UInt8) (A1 : Option Addr) (c1 j : Nat), b = .slice A1 xs.length c1 ∧ i = .int .i64 (j : Int) ∧ xs.length ≤ c1 ∧ j + xs.length ≤ 1000000 ∧ Hid (RdB wr A1 xs) ∧ Hid (cutF xs = ([], er)) ∧ Hid (Below w1.heap.size w1 wr)) (fun b _ _ _ _ _ _ _ _ _ _ _ _ _ _ _ _ _ _ _ _ _ _ _ _ _ _ _ _ _ _ _ _ _ _ _ _ _ _ _ _ _ _ _ _ _ _ _ _ _ _ _ _ _ _ _ _ => match b with | .slice _ n _ => n | _ => 0)
  case atStart => exact ⟨bs, A, cap, 0, rfl, rfl, hcap, by omega, HR1.out, HL.out, Below.refl _ _⟩
  case round =>
    obtain ⟨xs, A1, c1, j, rfl, rfl, hxc, hxl, HX, HCX, HB⟩ := hrel
    by_cases hlt : 0 < xs.length
    · have hne : xs ≠ [] := by intro h; rw [h] at hlt; simp at hlt
      by_cases hbad : (splitF xs).err = 0
      · have hok := cutF_ok xs hne hbad
        rw [HCX.out] at hok
        have hr2 : (cutF (splitF xs).rest).2 = er := by
          by_cases h : (cutF (splitF xs).rest).2 ≠ 0
          · rw [if_pos h] at hok
            exact (congrArg Prod.snd hok).symm
          · rw [if_neg h] at hok
            exact absurd (congrArg Prod.snd hok) HER.out
        have hr1 := cutF_fault (splitF xs).rest (by rw [hr2]; exact HER.out)
        have HREST := Lib.hid (show cutF (splitF xs).rest = ([], er) by rw [← hr2, ← hr1])
        have HRL := Lib.hid (split_rest xs hbad)
        have HSP := refSplit_any A1 c1 xs wr HX.out hxc (by omega)
        rw [hbad] at HSP
        have HSQ := Lib.hid HSP
        clear HSP
        generalize (splitF xs).k = k at *
        generalize (splitF xs).body = bd at *
        generalize (splitF xs).rest = rt at *
        clear hne hbad hr2 hr1 hok
        go_wp2_with fail
        refine HSQ.out.mono ?_
        rintro e w3 ⟨⟨A4, n4, c4, A5, n5, c5, rfl, hn4, hn5⟩, hB3⟩
        have HB3 := Lib.hid (belowT HB.out hB3)
        have hc5 := hn5.cap
        obtain ⟨rfl, hr4, _⟩ := hn4
        obtain ⟨rfl, hr5, _⟩ := hn5
        have HR5 := Lib.hid hr5
        clear hr4 hr5 hB3
        go_wp2
        go_roundw
        case rel => exact ⟨rt, A5, c5, j + 1, rfl, by go_num, hc5, by have := HRL.out; omega, HR5.out, HREST.out, HB3.out⟩
        case measure => have := HRL.out; simp; omega
      · have h1 := cutF_bad xs hne hbad
        rw [HCX.out] at h1
        have h2 : er = (splitF xs).err := congrArg Prod.snd h1
        have HSP := refSplit_any A1 c1 xs wr HX.out hxc (by omega)
        rw [← h2] at HSP
        have HSQ := Lib.hid HSP
        have hen : ((er : Int) != 0) = true := by simp; exact HER.out
        clear HSP h1 h2 hbad hne
        go_wp2_with fail
        refine HSQ.out.mono ?_
        rintro e w3 ⟨⟨A4, n4, c4, A5, n5, c5, rfl, hn4, hn5⟩, hB3⟩
        have HB3 := Lib.hid (belowT HB.out hB3)
        clear hn4 hn5 hB3
        go_wp2
        go_ret
        exact ⟨rfl, belowT HB1.out HB3.out⟩
    · have hx0 : xs = [] := List.eq_nil_of_length_eq_zero (by omega)
      have := HCX.out
      rw [hx0, cutF_nil] at this
      exact absurd (congrArg Prod.snd this).symm HER.out
theorem raws_any (A : Option Addr) (cap : Nat) (bs : List UInt8) (w : World) (hr : RdB w A bs) (hcap : bs.length ≤ cap) (hbig : bs.length ≤ 1000000) :
    Calls Try.prog 21 #[.slice A bs.length cap] w fun e w' => e = .returned (.bool true) ∧ Below w.heap.size w w' := by
  by_cases h : (cutF bs).2 = 0
  · exact raws_ok A cap bs w hr hcap hbig h
  · exact raws_bad A cap bs w hr hcap hbig h
end Go.Proofs.Ytckfghdocaojgaa
