/- The laws FrameBack and FrameShort. -/
import Derived.Test.YtckfghdocaojgaaFrameL1
import Derived.Test.YtckfghdocaojgaaFramePlain
namespace Go.Proofs.Ytckfghdocaojgaa
open Go.RowKit
/-- A frame in memory: its cells. -/
theorem frame_box {w : World} {k : Int} {v : Value} {t : TypeId} : (w.alloc (.cells #[.int .i64 k, v] t (0, 0))).cell? ⟨w.heap.size, 0, none⟩ = some (.int .i64 k) ∧ (w.alloc (.cells #[.int .i64 k, v] t (0, 0))).cell? ⟨w.heap.size, 1, none⟩ = some v := by
  have hg := heap_alloc_new w (.cells #[.int .i64 k, v] t (0, 0))
  exact ⟨by rw [cell_of_row _ _ _ _ _ _ hg]; rfl, by rw [cell_of_row _ _ _ _ _ _ hg]; rfl⟩
theorem enc_ok (k : Nat) (body : List UInt8) (h1 : 1 ≤ k) (h2 : k ≤ 255) (hb : body.length ≤ 65535) : encErr (k : Int) body = 0 ∧ encB (k : Int) body = frB k body := by
  have he : encErr (k : Int) body = 0 := by unfold encErr; rw [if_pos (by omega), if_pos hb]
  refine ⟨he, ?_⟩
  unfold encB
  rw [if_pos he]; rfl
set_option maxHeartbeats 4000000 in
set_option maxRecDepth 20000 in
theorem frameBack_walk (k : Nat) (A : Option Addr) (cap : Nat) (body : List UInt8) (A' : Option Addr) (cap' : Nat) (more : List UInt8) (w : World) (hk : k < 256) (hr : RdB w A body) (hl : body.length ≤ 140737488351232) (hr' : RdB w A' more) (hl' : more.length ≤ 140737488351232) :
    Calls Try.prog 5 #[.int .u8 (k : Int), .slice A body.length cap, .slice A' more.length cap'] w fun e w' => e = .returned (.bool true) ∧ Below w.heap.size w w' := by
  have hlen := hr.1
  have hlen' := hr'.1
  have HR := Lib.hid hr; clear hr
  have HR' := Lib.hid hr'; clear hr'
  by_cases h1 : 4000 < body.length
  · go_enter Try.func5, Try.ntmps5
    go_wp2_with fail
    refine (alive_any w).mono ?_
    rintro e w1 ⟨rfl, hb1⟩
    go_wp2
    go_ret
    exact ⟨rfl, hb1⟩
  by_cases h2 : 4000 < more.length
  · go_enter Try.func5, Try.ntmps5
    go_wp2_with fail
    refine (alive_any w).mono ?_
    rintro e w1 ⟨rfl, hb1⟩
    go_wp2
    go_ret
    exact ⟨rfl, hb1⟩
  by_cases h3 : k = 0
  · subst h3
    go_enter Try.func5, Try.ntmps5
    go_wp2_with fail
    refine (alive_any w).mono ?_
    rintro e w1 ⟨rfl, hb1⟩
    go_wp2
    go_ret
    exact ⟨rfl, hb1⟩
  have hk0 : ((k : Int) == 0) = false := by rw [beq_eq_false_iff_ne]; omega
  obtain ⟨e1, e2⟩ := enc_ok k body (by omega) (by omega) (by omega)
  have e3 := frB_dec k body (by omega) (by omega) (by omega)
  have e4 := frB_split k body more (by omega) (by omega) (by omega)
  have e5 := frB_length k body
  have e6 : (frB k body ++ more).length = body.length + 7 + more.length := by rw [List.length_append, e5]
  obtain ⟨fr, hfr⟩ : ∃ fr, fr = frB k body := ⟨_, rfl⟩
  obtain ⟨fm, hfm⟩ : ∃ fm, fm = fr ++ more := ⟨_, rfl⟩
  rw [← hfr] at e2 e3 e4 e5 e6
  rw [← hfm] at e4 e6
  have E1 := Lib.hid e1
  have E2 := Lib.hid e2
  have E3 := Lib.hid e3
  have E4 := Lib.hid e4
  have E5 := Lib.hid e5
  have E6 := Lib.hid e6
  have E7 := Lib.hid hfm
  clear e1 e2 e3 e4 e5 e6 hfr hfm
  have hwk : IntKind.i64.wrap (k : Int) = (k : Int) := by rw [IntKind.wrap_i64]; omega
  go_enter Try.func5, Try.ntmps5
  go_wp2_with fail
  refine (alive_any w).mono ?_
  rintro e w1 ⟨rfl, hB1⟩
  have HB1 := Lib.hid hB1; clear hB1
  go_wp2_with fail
  refine (encode_any (k : Int) A cap body w1 (by omega) (HR.out.below HB1.out)).mono ?_
  rintro e w2 ⟨A2, c2, rfl, hO2, hB2⟩
  rw [E1.out, E2.out]
  rw [E2.out] at hO2
  have HC2 := Lib.hid hO2.cap
  have HO2 := Lib.hid hO2.rdA
  have HB2 := Lib.hid (belowT HB1.out hB2); clear hB2 HB1 hO2
  go_wp2_with fail
  refine (decode_any A2 c2 fr w2 HO2.out HC2.out (by have := E5.out; omega)).mono ?_
  rintro e w3 ⟨⟨A3, n3, c3, rfl, hn3⟩, hB3⟩
  rw [E3.out]
  rw [E3.out] at hn3
  obtain ⟨hn, hr3, _⟩ := hn3
  simp only [] at hn hr3
  subst hn
  have HO3 := Lib.hid (HO2.out.below hB3)
  have HB3 := Lib.hid (belowT HB2.out hB3); clear hB3 HB2 HO2
  simp only []
  have hbx := @frame_box w3 (k : Int) (.slice A3 body.length c3) 29
  have ha3 := below_alloc w3 (.cells #[.int .i64 (k : Int), .slice A3 body.length c3] 29 (0, 0))
  have HN3 := Lib.hid (hr3.below ha3)
  go_wp2_with fail
  generalize w3.alloc (.cells #[.int .i64 (k : Int), .slice A3 body.length c3] 29 (0, 0)) = x3 at *
  have HX3 := Lib.hid (belowT HB3.out ha3)
  have HO3 := Lib.hid (HO3.out.below ha3)
  have HBX := Lib.hid hbx
  clear ha3 hr3 hbx
  refine (copy_any A2 _ c2 fr x3 HO3.out rfl (by have := E5.out; omega)).mono ?_
  rintro e w4 ⟨A4, c4, rfl, hO4, hB4⟩
  have HO4 := Lib.hid hO4
  have HN4 := Lib.hid (HN3.out.below hB4)
  have HB4 := Lib.hid hB4
  have HW4 := Lib.hid (belowT HX3.out hB4)
  have HRM := Lib.hid (HR'.out.below (belowT HX3.out hB4))
  clear hO4 hB4
  go_wp2_with (at_builtin; go_loud (refine wpList_appB x3 x3.heap.size Try.slB rfl (.tmp 43) (.tmp 44) rfl _ fr rfl HO4.out A' _ cap' more rfl rfl HRM.out fm E7.out (by have := E6.out; omega) HB4.out (Nat.le_refl _) ?_); intro A5 c5 w5 hown5 hr5 hB5 hg5 hat5; clear hg5 hat5; have HC5 := Lib.hid hown5.cap; have HR5 := Lib.hid hr5; have HB5 := Lib.hid hB5; clear hown5 hr5 hB5)
  refine (split_any A5 c5 fm w5 HR5.out HC5.out (by have := E6.out; omega)).mono ?_
  rintro e w6 ⟨⟨A6, n6, c6, A7, n7, c7, rfl, hn6, hn7⟩, hB6⟩
  rw [E4.out]
  rw [E4.out] at hn6 hn7
  obtain ⟨hn, hr6, _⟩ := hn6
  obtain ⟨hn', hr7, _⟩ := hn7
  simp only [] at hn hn' hr6 hr7
  subst hn hn'
  simp only []
  have hB6' := belowT HB5.out hB6
  have hc0 := cell_below hB6' HBX.out.1
  have hc1 := cell_below hB6' HBX.out.2
  have HN6 := Lib.hid (HN3.out.below hB6')
  have HW6 := Lib.hid (belowT HX3.out hB6')
  have hl6 : w3.heap.size < w6.heap.size := World.block_lt_of_cell? w6 _ hc0
  have hby := @frame_box w6 (k : Int) (.slice A6 body.length c6) 29
  have ha6 := below_alloc w6 (.cells #[.int .i64 (k : Int), .slice A6 body.length c6] 29 (0, 0))
  have hc0' := cell_below ha6 hc0
  have hc1' := cell_below ha6 hc1
  clear hc0 hc1 hB6 hB6' hl6
  go_wp2_with fail
  generalize w6.alloc (.cells #[.int .i64 (k : Int), .slice A6 body.length c6] 29 (0, 0)) = x6 at *
  obtain ⟨hy0, hy1⟩ := hby
  have HA6 := Lib.hid ha6
  have HR6 := Lib.hid (hr6.below ha6)
  have HR7 := Lib.hid (hr7.below ha6)
  clear ha6 hr6 hr7
  refine (same_any A3 A _ _ c3 cap _ _ x6 (HN6.out.below HA6.out) (HR.out.below (belowT HW6.out HA6.out)) rfl rfl).mono ?_
  rintro e w7 ⟨rfl, rfl⟩
  rw [decide_eq_true rfl]
  go_wp2_with fail
  refine (same_any A6 A _ _ c6 cap _ _ x6 HR6.out (HR.out.below (belowT HW6.out HA6.out)) rfl rfl).mono ?_
  rintro e w7 ⟨rfl, rfl⟩
  rw [decide_eq_true rfl]
  go_wp2_with fail
  refine (same_any A7 A' _ _ c7 cap' _ _ x6 HR7.out (HR'.out.below (belowT HW6.out HA6.out)) rfl rfl).mono ?_
  rintro e w7 ⟨rfl, rfl⟩
  rw [decide_eq_true rfl]
  go_wp2
  go_ret
  exact ⟨rfl, belowT HW6.out HA6.out⟩
set_option maxHeartbeats 4000000 in
set_option maxRecDepth 20000 in
theorem frameShort_walk (k : Nat) (A : Option Addr) (cap : Nat) (body : List UInt8) (n : Nat) (w : World) (hk : k < 256) (hr : RdB w A body) (hl : body.length ≤ 140737488351232) (hn : n < 65536) :
    Calls Try.prog 7 #[.int .u8 (k : Int), .slice A body.length cap, .int .u16 (n : Int)] w fun e w' => e = .returned (.bool true) ∧ Below w.heap.size w w' := by
  have hlen := hr.1
  have HR := Lib.hid hr; clear hr
  by_cases h1 : 4000 < body.length
  · go_enter Try.func7, Try.ntmps7
    go_wp2_with fail
    refine (alive_any w).mono ?_
    rintro e w1 ⟨rfl, hb1⟩
    go_wp2
    go_ret
    exact ⟨rfl, hb1⟩
  by_cases h3 : k = 0
  · subst h3
    go_enter Try.func7, Try.ntmps7
    go_wp2_with fail
    refine (alive_any w).mono ?_
    rintro e w1 ⟨rfl, hb1⟩
    go_wp2
    go_ret
    exact ⟨rfl, hb1⟩
  have hk0 : ((k : Int) == 0) = false := by rw [beq_eq_false_iff_ne]; omega
  obtain ⟨e1, e2⟩ := enc_ok k body (by omega) (by omega) (by omega)
  have e5 := frB_length k body
  obtain ⟨m, hm⟩ : ∃ m, m = n % (body.length + 7) := ⟨_, rfl⟩
  have hml : m < body.length + 7 := by rw [hm]; exact Nat.mod_lt _ (by omega)
  obtain ⟨e3, e4⟩ := frB_short_split k body m (by omega) hml
  have e6 := frB_more k body [UInt8.ofNat n] (by omega) (by simp)
  obtain ⟨fr, hfr⟩ : ∃ fr, fr = frB k body := ⟨_, rfl⟩
  obtain ⟨fm, hfm⟩ : ∃ fm, fm = fr ++ [UInt8.ofNat n] := ⟨_, rfl⟩
  obtain ⟨fs, hfs⟩ : ∃ fs, fs = fr.take m := ⟨_, rfl⟩
  rw [← hfr] at e2 e3 e4 e5 e6
  rw [← hfm] at e6
  rw [← hfs] at e3 e4
  obtain ⟨L, hL⟩ : ∃ L, L = fr.length := ⟨_, rfl⟩
  have hL7 : L = body.length + 7 := by rw [hL, e5]
  have E1 := Lib.hid e1
  have E2 := Lib.hid e2
  have E3 := Lib.hid e3
  have E4 := Lib.hid e4
  have E5 := Lib.hid hL
  have E6 := Lib.hid e6
  have E7 := Lib.hid hfm
  have E8 := Lib.hid hfs
  have E9 := Lib.hid (show m = fs.length by rw [hfs, List.length_take, ← hL]; omega)
  have E10 := Lib.hid (show fm.length = L + 1 by rw [hfm, List.length_append, ← hL]; rfl)
  have hL0 : 0 < L := by omega
  have hLb : L ≤ 4007 := by omega
  have hmL : m < L := by omega
  have hnm : (n : Int) % (L : Int) = (m : Int) := by rw [hL7, hm]; omega
  have E11 := Lib.hid hnm
  have HV := Lib.hid (show (n : Int) % 256 = ((UInt8.ofNat n).toNat : Int) by rw [u8lit])
  clear e1 e2 e3 e4 e5 e6 hfr hfm hfs hL hL7 hm hml
  have hwk : IntKind.i64.wrap (k : Int) = (k : Int) := by rw [IntKind.wrap_i64]; omega
  have hwn : IntKind.i64.wrap (n : Int) = (n : Int) := by rw [IntKind.wrap_i64]; omega
  have hL0' : ((L : Int) == 0) = false := by rw [beq_eq_false_iff_ne]; omega
  have hLi : (1 : Int) ≤ (L : Int) := by omega
  go_enter Try.func7, Try.ntmps7
  go_wp2_with fail
  refine (alive_any w).mono ?_
  rintro e w1 ⟨rfl, hB1⟩
  have HB1 := Lib.hid hB1; clear hB1
  go_wp2_with fail
  refine (encode_any (k : Int) A cap body w1 (by omega) (HR.out.below HB1.out)).mono ?_
  rintro e w2 ⟨A2, c2, rfl, hO2, hB2⟩
  rw [E1.out, E2.out, ← E5.out]
  rw [E2.out, ← E5.out] at hO2
  have hc2 := hO2.cap
  have hr2 := hO2.rdA
  obtain ⟨b, off, rfl, _⟩ := hr2.at (by have := E5.out; omega)
  have HC2 := Lib.hid hc2
  have hcm : m ≤ c2 := by have := E5.out; omega
  have HO2 := Lib.hid hr2
  have HB2 := Lib.hid (belowT HB1.out hB2); clear hB2 HB1 hO2 hr2 hc2
  have HD := Lib.hid (fun (W : World) (h : RdB W (some ⟨b, off, none⟩) fs) => decode_any (some ⟨b, off, none⟩) c2 fs W h (by have := E9.out; omega) (by have := E9.out; omega))
  have HS := Lib.hid (fun (W : World) (h : RdB W (some ⟨b, off, none⟩) fs) => split_any (some ⟨b, off, none⟩) c2 fs W h (by have := E9.out; omega) (by have := E9.out; omega))
  have HDQ := HD.out
  have HSQ := HS.out
  rw [← E9.out, E4.out] at HDQ
  rw [← E9.out, E3.out] at HSQ
  have HD := Lib.hid HDQ
  have HS := Lib.hid HSQ
  clear HDQ HSQ
  have HR2 := Lib.hid (show RdB w2 (some ⟨b, off, none⟩) fs by rw [E8.out]; exact HO2.out.take m)
  go_wp2_with fail
  refine (HD.out w2 HR2.out).mono ?_
  rintro e w3 ⟨⟨A3, n3, c3, rfl, hn3⟩, hB3⟩
  simp only []
  have ha3 := below_alloc w3 (.cells #[.int .i64 0, .slice A3 n3 c3] 29 (0, 0))
  have HX3 := Lib.hid (belowT hB3 ha3)
  clear hn3 hB3
  go_wp2_with fail
  generalize w3.alloc (.cells #[.int .i64 0, .slice A3 n3 c3] 29 (0, 0)) = x3 at *
  have HW3 := Lib.hid (belowT HB2.out HX3.out)
  have HR3 := Lib.hid (HR2.out.below HX3.out)
  have HO3 := Lib.hid (HO2.out.below HX3.out)
  clear ha3 HX3 HR2 HO2 HB2
  refine (HS.out x3 HR3.out).mono ?_
  rintro e w4 ⟨⟨A4, n4, c4, A5, n5, c5, rfl, hn4, hn5⟩, hB4⟩
  simp only []
  have ha4 := below_alloc w4 (.cells #[.int .i64 0, .slice A4 n4 c4] 29 (0, 0))
  have HX4 := Lib.hid (belowT hB4 ha4)
  clear hn4 hn5 hB4
  go_wp2_with fail
  generalize w4.alloc (.cells #[.int .i64 0, .slice A4 n4 c4] 29 (0, 0)) = x4 at *
  have HW4 := Lib.hid (belowT HW3.out HX4.out)
  have HO4 := Lib.hid (HO3.out.below HX4.out)
  clear ha4 HX4 HR3 HO3 HW3
  refine (copy_any _ _ c2 fr x4 HO4.out E5.out (by have := E5.out; omega)).mono ?_
  rintro e w5 ⟨A5, c5, rfl, hO5, hB5⟩
  rw [E5.out] at hO5
  have HO5 := Lib.hid (hO5.alloc (.cells #[.int .u8 ((n : Int) % 256)] 5 (0, 0)))
  have ha5 := below_alloc w5 (.cells #[.int .u8 ((n : Int) % 256)] 5 (0, 0))
  have HB5 := Lib.hid (belowT hB5 ha5)
  have HR5 := Lib.hid (RdB.one w5 (UInt8.ofNat n) ((n : Int) % 256) 5 HV.out)
  rw [E5.out]
  clear hO5 hB5 ha5
  go_wp2_with (at_builtin; go_loud (refine wpList_appB x4 x4.heap.size Try.slB rfl (.tmp 65) (.tmp 68) rfl _ fr rfl HO5.out (some ⟨w5.heap.size, 0, none⟩) 1 1 [UInt8.ofNat n] rfl rfl HR5.out fm E7.out (by have := E10.out; omega) HB5.out (Nat.le_refl _) ?_); intro A6 c6 w6 hown6 hr6 hB6 hg6 hat6; clear hg6 hat6; have HC6 := Lib.hid hown6.cap; have HR6 := Lib.hid hr6; have HB6 := Lib.hid hB6; clear hown6 hr6 hB6)
  refine (decode_any A6 c6 fm w6 HR6.out HC6.out (by have := E10.out; omega)).mono ?_
  rintro e w7 ⟨⟨A7, n7, c7, rfl, hn7⟩, hB7⟩
  rw [E6.out]
  have HB7 := Lib.hid (belowT (belowT HW4.out HB6.out) hB7)
  clear hn7 hB7
  simp only []
  go_wp2
  go_ret
  exact ⟨rfl, belowT HB7.out (below_alloc _ _)⟩
end Go.Proofs.Ytckfghdocaojgaa
