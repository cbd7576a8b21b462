/- The law FrameBursts: the walk of Turn, and of the law. -/
import Derived.Test.YtckfghdocaojgaaFrameL3
import Derived.Test.YtckfghdocaojgaaBurst
import Derived.Test.YtckfghdocaojgaaOpen
namespace Go.Proofs.Ytckfghdocaojgaa
open Go.RowKit
set_option maxHeartbeats 4000000 in
set_option maxRecDepth 20000 in
theorem turn_any (A : Option Addr) (cap : Nat) (bs : List UInt8) (at_ bits : Nat) (w : World) (hr : RdB w A bs) (hl : bs.length ≤ 100000) (ha : at_ < 65536) (hbits : bits < 4294967296) :
    Calls Try.prog 18 #[.slice A bs.length cap, .agg #[.int .u16 (at_ : Int), .int .u32 (bits : Int)]] w fun e w' => ∃ A' c' cs, e = .returned (.slice A' bs.length c') ∧ OwnB w' w.heap.size 5 (.slice A' bs.length c') cs ∧ cs.length = bs.length ∧ val cs = val bs ^^^ burst 32 bits at_ (8 * bs.length) ∧ Below w.heap.size w w' := by
  have HR := Lib.hid hr; clear hr
  have HBT := Lib.hid hbits; clear hbits
  have hg0 := heap_alloc_new w (.cells #[.int .u16 (at_ : Int), .int .u32 (bits : Int)] 47 (0, 0))
  have hal := below_alloc w (.cells #[.int .u16 (at_ : Int), .int .u32 (bits : Int)] 47 (0, 0))
  go_enter Try.func18, Try.ntmps18
  go_wp2_with fail
  generalize w.alloc (.cells #[.int .u16 (at_ : Int), .int .u32 (bits : Int)] 47 (0, 0)) = w1 at *
  have HAL := Lib.hid hal
  have HG0 := Lib.hid hg0
  clear hal hg0
  have hlt1 : w.heap.size < w1.heap.size := by
    have := HG0.out
    exact (Array.getElem?_eq_some_iff.1 this).1
  refine (copy_any A _ cap bs w1 (HR.out.below HAL.out) rfl (by omega)).mono ?_
  rintro e w2 ⟨A2, c2, rfl, hO2, hB2⟩
  have HB2 := Lib.hid hB2
  have HO2 := Lib.hid hO2
  have HG2 := Lib.hid ((hB2.block _ hlt1).trans HG0.out)
  clear hO2 hB2 HG0
  go_wp2_with fail
  go_loopw [6, 7, 10, 11, 12, 13, 14, 15, 16, 17, 18, 19, 20, 21, 22, 23, 24, 25, 26, 27, 28, 29, 30, 31, 32, 33, 34, 35, 36, 37, 38, 39, 40, 41, 42, 43, 44, 45, 46] (fun i _ _ _ _ _ _ _ _ _ _ _ _ _ _ _ _ _ _ _ _ _ _ _ _ _ _ _ _ _ _ _ _ _ _ _ _ _ _ wr => ∃ (k : Nat) (cs : List UInt8), k ≤ 32 ∧ i = .int .i64 k ∧ cs.length = bs.length ∧ Hid (OwnB wr w1.heap.size 5 (.slice A2 bs.length c2) cs) ∧ Hid (Below w1.heap.size w1 wr) ∧ Hid (val cs = val bs ^^^ burst k bits at_ (8 * bs.length)) ∧ Hid (wr.heap[w.heap.size]? = some (.cells #[.int .u16 (at_ : Int), .int .u32 (bits : Int)] 47 (0, 0)))) (fun i _ _ _ _ _ _ _ _ _ _ _ _ _ _ _ _ _ _ _ _ _ _ _ _ _ _ _ _ _ _ _ _ _ _ _ _ _ _ _ => 32 - (intOf i).toNat)
  case atStart => exact ⟨0, bs, by omega, rfl, rfl, HO2.out, HB2.out, (show val bs = val bs ^^^ burst 0 bits at_ (8 * bs.length) by rw [burst_zero, Nat.xor_zero]), HG2.out⟩
  case round =>
    obtain ⟨k, cs, hk, rfl, hcl, hown, hB, hV, hG⟩ := hrel
    have hc0 : wr.cell? ⟨w.heap.size, 0, none⟩ = some (.int .u16 (at_ : Int)) := by rw [cell_of_row _ _ _ _ _ _ hG.out]; rfl
    have hc1 : wr.cell? ⟨w.heap.size, 1, none⟩ = some (.int .u32 (bits : Int)) := by rw [cell_of_row _ _ _ _ _ _ hG.out]; rfl
    by_cases hlt : k < 32
    · by_cases hbit : bits.testBit k = true
      · have hq := bit_of bits k
        rw [if_pos hbit] at hq
        by_cases hp : at_ + k < 8 * bs.length
        · obtain ⟨g, hA, hbg, hgs, hcell, hfz, hset⟩ := hown.out.blk (by omega)
          have hi8 : (at_ + k) / 8 < cs.length := by omega
          have hc8 := hcell _ hi8
          have hf8 := hfz ((at_ + k) / 8)
          have hs8 := fun x => hset _ x hi8
          have HS := Lib.hid hs8
          have HV := Lib.hid (fun x => val_set cs _ x hi8)
          have HBG := Lib.hid hbg
          clear hcell hfz hset hs8 hbg
          have HBY : Hid (cs[(at_ + k) / 8].toNat < 256) := cs[(at_ + k) / 8].toNat_lt
          generalize hcy : cs[(at_ + k) / 8].toNat = y at *
          clear hcy
          have HI : Hid (8 * ((at_ + k) / 8) + (at_ + k) % 8 = at_ + k) := by show _ = _; omega
          have hia : ((at_ : Int) + (k : Int)) / 8 = (((at_ + k) / 8 : Nat) : Int) := by omega
          have hra : ((at_ : Int) + (k : Int)) % 8 = (((at_ + k) % 8 : Nat) : Int) := by omega
          have hr8 : (at_ + k) % 8 < 8 := by omega
          generalize (at_ + k) / 8 = i8 at *
          generalize (at_ + k) % 8 = r8 at *
          subst hA
          obtain ⟨hfl, hfx⟩ := flip8 y r8 HBY.out hr8
          have HFL := Lib.hid hfl; clear hfl
          go_wp2
          go_roundw
          case rel =>
            refine ⟨k + 1, cs.set i8 (UInt8.ofNat (y ^^^ 2 ^ r8)), by omega, by go_num, by rw [List.length_set]; exact hcl, ?_, hB.out.setCell HBG.out _, ?_, ?_⟩
            · rw [HFL.out]; exact HS.out _
            · show _ = _
              rw [HV.out, hfx, burst_step, if_pos ⟨hbit, by omega⟩, hV.out, Nat.xor_assoc]
              congr 2
              rw [show (256 : Nat) = 2 ^ 8 from rfl, ← Nat.pow_mul, ← Nat.pow_add, ← HI.out, Nat.add_comm]
            · show _ = _
              rw [heap_setCell_other _ _ _ _ (by have := HBG.out; simp; omega)]
              exact hG.out
          case measure => simp [intOf]; omega
        · go_wp2
          go_roundw
          case rel => exact ⟨k + 1, cs, by omega, by go_num, hcl, hown.out, hB.out, (show val cs = _ by rw [burst_step, if_neg (fun h => hp h.2)]; exact hV.out), hG.out⟩
          case measure => simp [intOf]; omega
      · have hq := bit_of bits k
        rw [if_neg hbit] at hq
        go_wp2
        go_roundw
        case rel => exact ⟨k + 1, cs, by omega, by go_num, hcl, hown.out, hB.out, (show val cs = _ by rw [burst_step, if_neg (fun h => hbit h.1)]; exact hV.out), hG.out⟩
        case measure => simp [intOf]; omega
    · obtain rfl : k = 32 := by omega
      go_wp2
      go_ret
      exact ⟨A2, c2, cs, rfl, own_le hown.out (Nat.le_of_lt hlt1), hcl, hV.out, belowT HAL.out hB.out⟩
set_option maxHeartbeats 4000000 in
set_option maxRecDepth 20000 in
theorem frameBursts_walk (k : Nat) (A : Option Addr) (cap : Nat) (body : List UInt8) (at_ bits : Nat) (w : World) (hk : k < 256) (hr : RdB w A body) (hl : body.length ≤ 140737488351232) (ha : at_ < 65536) (hbits : bits < 4294967296) :
    Calls Try.prog 6 #[.int .u8 (k : Int), .slice A body.length cap, .agg #[.int .u16 (at_ : Int), .int .u32 (bits : Int)]] w fun e w' => e = .returned (.bool true) ∧ Below w.heap.size w w' := by
  have hlen := hr.1
  have HR := Lib.hid hr; clear hr
  have HBI := Lib.hid (And.intro ha hbits); clear ha hbits
  have hg0 := heap_alloc_new w (.cells #[.int .u16 (at_ : Int), .int .u32 (bits : Int)] 47 (0, 0))
  have hal := below_alloc w (.cells #[.int .u16 (at_ : Int), .int .u32 (bits : Int)] 47 (0, 0))
  have HAL := Lib.hid hal
  have HG0 := Lib.hid hg0
  clear hal hg0
  by_cases h1 : 4000 < body.length
  · go_enter Try.func6, Try.ntmps6
    go_wp2_with fail
    refine (alive_any _).mono ?_
    rintro e w1 ⟨rfl, hb1⟩
    go_wp2
    go_ret
    exact ⟨rfl, belowT HAL.out hb1⟩
  by_cases h3 : k = 0
  · subst h3
    go_enter Try.func6, Try.ntmps6
    go_wp2_with fail
    refine (alive_any _).mono ?_
    rintro e w1 ⟨rfl, hb1⟩
    go_wp2
    go_ret
    exact ⟨rfl, belowT HAL.out hb1⟩
  have hk0 : ((k : Int) == 0) = false := by rw [beq_eq_false_iff_ne]; omega
  obtain ⟨e1, e2⟩ := enc_ok k body (by omega) (by omega) (by omega)
  have e3 := frB_dec k body (by omega) (by omega) (by omega)
  have e5 := frB_length k body
  obtain ⟨fr, hfr⟩ : ∃ fr, fr = frB k body := ⟨_, rfl⟩
  rw [← hfr] at e2 e3 e5
  have E1 := Lib.hid e1
  have E2 := Lib.hid e2
  have E3 := Lib.hid (show (decF fr).err = 0 by rw [e3])
  have E5 := Lib.hid e5
  clear e1 e2 e3 e5 hfr
  have hwk : IntKind.i64.wrap (k : Int) = (k : Int) := by rw [IntKind.wrap_i64]; omega
  go_enter Try.func6, Try.ntmps6
  go_wp2_with fail
  refine (alive_any _).mono ?_
  rintro e w1 ⟨rfl, hB1⟩
  have HG1 := Lib.hid ((hB1.block w.heap.size (by simp [go_sem])).trans HG0.out)
  have HB1 := Lib.hid (belowT HAL.out hB1); clear hB1
  go_wp2_with fail
  refine (encode_any (k : Int) A cap body w1 (by omega) (HR.out.below HB1.out)).mono ?_
  rintro e w2 ⟨A2, c2, rfl, hO2, hB2⟩
  rw [E1.out, E2.out]
  rw [E2.out] at hO2
  have HO2 := Lib.hid hO2.rdA
  have hg2 := (hB2.block w.heap.size (Array.getElem?_eq_some_iff.1 HG1.out).1).trans HG1.out
  have hc0 : w2.cell? ⟨w.heap.size, 0, none⟩ = some (.int .u16 (at_ : Int)) := by rw [cell_of_row _ _ _ _ _ _ hg2]; rfl
  have hc1 : w2.cell? ⟨w.heap.size, 1, none⟩ = some (.int .u32 (bits : Int)) := by rw [cell_of_row _ _ _ _ _ _ hg2]; rfl
  have HB2 := Lib.hid (belowT HB1.out hB2); clear hB2 HB1 hO2 HG1 hg2
  go_wp2_with fail
  refine (turn_any A2 c2 fr at_ bits w2 HO2.out (by have := E5.out; omega) HBI.out.1 HBI.out.2).mono ?_
  rintro e w3 ⟨A3, c3, cs, rfl, hO3, hcl, hcv, hB3⟩
  have HX := Lib.hid (dec_burst fr cs bits at_ HBI.out.2 E3.out hcl hcv)
  have HY := Lib.hid (dec_err cs)
  have HO2 := Lib.hid (HO2.out.below hB3)
  have hcap3 := hO3.cap
  have hr3 := hO3.rdA
  have hd := decode_any A3 c3 cs w3 hr3 hcap3 (by have := E5.out; omega)
  rw [hcl] at hd
  have HD := Lib.hid hd
  have HR3 := Lib.hid hr3
  have HCL := Lib.hid hcl
  have HB3 := Lib.hid (belowT HB2.out hB3)
  clear hd hr3 hcap3 hO3 hcl hcv hB3 HB2 hc0 hc1
  go_wp2_with fail
  refine HD.out.mono ?_
  rintro e w4 ⟨⟨A4, n4, c4, rfl, hn4⟩, hB4⟩
  obtain ⟨rfl, _, _⟩ := hn4
  have ha4 := below_alloc w4 (.cells #[.int .i64 ((decF cs).k : Int), .slice A4 (decF cs).body.length c4] 29 (0, 0))
  have HX4 := Lib.hid (belowT hB4 ha4)
  have hO4 := HO2.out.below HX4.out
  have hR4 := HR3.out.below HX4.out
  have HO4 := Lib.hid hO4
  have HR4 := Lib.hid hR4
  have HB4 := Lib.hid (belowT HB3.out HX4.out)
  clear ha4 hB4 hO4 hR4
  by_cases hz : fr = cs
  · have he : (decF cs).err = 0 := HX.out.2 hz
    rw [he]
    have HZ := Lib.hid hz
    clear he hz
    go_wp2_with fail
    refine (same_any A2 A3 _ _ c2 c3 _ _ _ HO4.out HR4.out rfl HCL.out.symm).mono ?_
    rintro e w5 ⟨rfl, rfl⟩
    rw [decide_eq_true HZ.out]
    go_wp2
    go_ret
    exact ⟨rfl, HB4.out⟩
  · have he : (decF cs).err ≠ 0 := fun h => hz (HX.out.1 h)
    obtain ⟨hk0', hb0⟩ := HY.out he
    have hne : ((((decF cs).err : Nat) : Int) != 0) = true := by simp; exact he
    have hne' : ((((decF cs).err : Nat) : Int) == 0) = false := by simp; exact he
    generalize (decF cs).err = er at *
    rw [hk0', hb0] at HO4 HR4 HB4
    rw [hk0', hb0]
    have HZ := Lib.hid hz
    clear hz he hk0' hb0
    go_wp2_with fail
    refine (same_any A2 A3 _ _ c2 c3 _ _ _ HO4.out HR4.out rfl HCL.out.symm).mono ?_
    rintro e w5 ⟨rfl, rfl⟩
    rw [decide_eq_false HZ.out]
    go_wp2
    go_ret
    exact ⟨rfl, HB4.out⟩
theorem frameBursts_front (k : Nat) (A : Option Addr) (cap : Nat) (body : List UInt8) (cs : Array Value) (W : World) (hk : k < 256) (hr : RdB W A body) (hl : body.length ≤ 140737488351232) (hz : cs.size = 2) (hR : rStruct [rInt .u16, rInt .u32] W cs.toList) :
    Calls Try.prog 6 #[.int .u8 (k : Int), .slice A body.length cap, .agg cs] W fun e w' => e = .returned (.bool true) ∧ Below W.heap.size W w' := by
  obtain ⟨x0, x1, rfl⟩ : ∃ x0 x1, cs = #[x0, x1] := by
    obtain ⟨l⟩ := cs
    match l, hz with
    | [x0, x1], _ => exact ⟨x0, x1, rfl⟩
  obtain ⟨a, h0, hw0⟩ := hR 0 _ x0 rfl rfl
  obtain ⟨b, h1, hw1⟩ := hR 1 _ x1 rfl rfl
  simp at h0 h1
  subst h0 h1
  have b0 : 0 ≤ a ∧ a ≤ 65535 := by have w := hw0; simp [Lit.wf, IntKind.min, IntKind.max, IntKind.signed, IntKind.bits] at w; omega
  have b1 := bounds_u32 hw1
  obtain ⟨a', rfl⟩ := Int.eq_ofNat_of_zero_le b0.1
  obtain ⟨b', rfl⟩ := Int.eq_ofNat_of_zero_le b1.1
  exact frameBursts_walk k A cap body a' b' W hk hr hl (by omega) (by omega)
end Go.Proofs.Ytckfghdocaojgaa
