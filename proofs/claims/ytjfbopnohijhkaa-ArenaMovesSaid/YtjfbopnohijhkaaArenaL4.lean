/- The law ArenaMoves. -/
import Derived.Test.YtjfbopnohijhkaaArenaL1
namespace Go.Proofs.Ytjfbopnohijhkaa
open Go.RowKit
set_option linter.unusedVariables false
theorem inA_mv (L : Nat) (f m : Nat) : inA 256 L (256 + (f : Int)) m = decide (f + m ≤ L) := by
  unfold inA
  by_cases h : f + m ≤ L
  · rw [decide_eq_true h, decide_eq_true_iff]; omega
  · rw [decide_eq_false h, decide_eq_false_iff_not]; omega
theorem splice_get (bs xs : List UInt8) (t : Nat) (h : t + xs.length ≤ bs.length) (k : Nat) (hk : k < bs.length) (hk2 : k < (splice bs t xs).length) :
    (splice bs t xs)[k] = if h2 : t ≤ k ∧ k < t + xs.length then xs[k - t]'(by omega) else bs[k] := by
  have hmin : min t bs.length = t := by omega
  split
  · rename_i h2
    simp only [splice]
    rw [List.getElem_append_right (by simp [hmin]; omega)]
    simp only [List.length_take, hmin]
    rw [List.getElem_append_left (by omega)]
  · rename_i h2
    simp only [splice]
    by_cases h3 : k < t
    · rw [List.getElem_append_left (by simp [hmin]; omega)]
      simp
    · rw [List.getElem_append_right (by simp [hmin]; omega)]
      simp only [List.length_take, hmin]
      rw [List.getElem_append_right (by omega)]
      simp only [List.getElem_drop]
      congr 1
      omega
set_option maxHeartbeats 2000000 in
set_option maxRecDepth 20000 in
theorem arenaMoves_walk (A : Option Addr) (cap : Nat) (xs : List UInt8) (fr to n : Nat) (W : World) (hr : RdB W A xs) (hf : fr < 65536) (ht : to < 65536) (hn : n < 65536) :
    Calls Try.prog 5 #[.slice A xs.length cap, .agg #[.int .u16 (fr : Int), .int .u16 (to : Int), .int .u16 (n : Int)]] W fun e w' => e = .returned (.bool true) ∧ Below W.heap.size W w' := by
  have hlen := hr.1
  have hal : Below W.heap.size W (W.alloc (.cells #[.int .u16 (fr : Int), .int .u16 (to : Int), .int .u16 (n : Int)] 41 (0, 0))) := (Below.refl _ _).alloc (Nat.le_refl _) _
  have HAL := Lib.hid hal; clear hal
  have HR := Lib.hid hr; clear hr
  have hbx := heap_alloc_new W (.cells #[.int .u16 (fr : Int), .int .u16 (to : Int), .int .u16 (n : Int)] 41 (0, 0))
  have hsz : (W.alloc (.cells #[.int .u16 (fr : Int), .int .u16 (to : Int), .int .u16 (n : Int)] 41 (0, 0))).heap.size = W.heap.size + 1 := by simp [go_sem]
  go_enter Try.func5, Try.ntmps5
  go_wp2_with fail
  generalize W.alloc (.cells #[.int .u16 (fr : Int), .int .u16 (to : Int), .int .u16 (n : Int)] 41 (0, 0)) = w0 at HAL hbx hsz
  refine (alive_any w0).mono ?_
  rintro e w1 ⟨rfl, hB1⟩
  have HBX := Lib.hid ((hB1.block _ (by omega)).trans hbx); clear hbx
  have HB1 := Lib.hid (HAL.out.trans (hB1.mono (by omega))); clear hB1 HAL hsz
  by_cases hl : 1024 < xs.length
  · go_wp2
    go_ret
    exact ⟨rfl, HB1.out⟩
  · have hl : xs.length ≤ 1024 := by omega
    go_wp2_with fail
    refine (new_any 256 4 w1 (by omega) (by omega) (by omega) rfl).mono ?_
    rintro e w2 ⟨g, gb, rfl, hg, hgb, hA, hB2⟩
    obtain ⟨zs, hzs⟩ : ∃ zs : List UInt8, zs = List.replicate (256 * Int.toNat 4) 0 := ⟨_, rfl⟩
    rw [← hzs] at hA
    have HZ := Lib.hid (show zs.length = 1024 by rw [hzs, List.length_replicate]; rfl)
    clear hzs
    have HBX2 := Lib.hid ((hB2.block _ (by have := HB1.out.size; exact (Array.getElem?_eq_some_iff.1 HBX.out).1)).trans HBX.out)
    have HG := Lib.hid (show W.heap.size ≤ g ∧ W.heap.size < gb by
      have h1 := HB1.out.size
      have h2 := (Array.getElem?_eq_some_iff.1 HBX.out).1
      omega)
    have HB2 := Lib.hid (HB1.out.trans (hB2.mono HB1.out.size)); clear hB2 HB1 HBX hg hgb
    have hin : inA 256 zs.length 256 xs.length = true := by have := inA_mv zs.length 0 xs.length; rw [HZ.out] at this ⊢; simpa [show xs.length ≤ 1024 from hl] using this
    have hbs : wrB 256 zs 256 xs = splice zs 0 xs := by unfold wrB; rw [if_pos hin]; rfl
    obtain ⟨bs, hbq⟩ : ∃ bs, bs = splice zs 0 xs := ⟨_, rfl⟩
    rw [← hbq] at hbs
    have hbl : bs.length = 1024 := by rw [hbq, length_splice _ _ _ (by rw [HZ.out]; omega)]; exact HZ.out
    have HA := Lib.hid hA; clear hA
    have HIN := Lib.hid hin; clear hin
    have HBS := Lib.hid hbs; clear hbs hbq
    go_wp2_with fail
    refine (write_any HA.out 256 xs A cap (HR.out.below HB2.out)).mono ?_
    rintro e w3 ⟨rfl, hA3, hg3⟩
    rw [HIN.out, show okN true = 0 from rfl]
    rw [HBS.out] at hA3
    have HBX3 := Lib.hid ((hg3.block _ (Array.getElem?_eq_some_iff.1 HBX2.out).1 (fun e => by have := Option.some.inj e; have := HG.out; omega)).trans HBX2.out)
    have HB3 := Lib.hid (HB2.out.grown hg3 HB2.out.size (fun k hk => by cases hk; have := HG.out; omega)); clear hg3 HB2 HBX2 HA
    have HA3 := Lib.hid hA3; clear hA3
    go_wp2_with fail
    refine (bytes_any HA3.out).mono ?_
    rintro e w4 ⟨A1, c1, rfl, hr1, hB4⟩
    have HA4 := Lib.hid (HA3.out.below hB4)
    have hbx := (hB4.block _ (Array.getElem?_eq_some_iff.1 HBX3.out).1).trans HBX3.out
    have HR1 := Lib.hid hr1; clear hr1
    have HG3 := Lib.hid (show gb < w3.heap.size from HA3.out.lt.2)
    have HB4 := Lib.hid (HB3.out.trans (hB4.mono HB3.out.size)); clear hB4 HB3 HBX3 HA3
    have HBL := Lib.hid hbl
    rw [hbl]
    have hc0 : w4.cell? ⟨W.heap.size, 0, none⟩ = some (.int .u16 (fr : Int)) := by rw [cell_of_row _ _ _ _ _ _ hbx]; rfl
    have hc1 : w4.cell? ⟨W.heap.size, 1, none⟩ = some (.int .u16 (to : Int)) := by rw [cell_of_row _ _ _ _ _ _ hbx]; rfl
    have hc2 : w4.cell? ⟨W.heap.size, 2, none⟩ = some (.int .u16 (n : Int)) := by rw [cell_of_row _ _ _ _ _ _ hbx]; rfl
    clear hbx
    go_wp2_with fail
    go_quiet (fail)
    go_wp2_with fail
    clear hc0 hc1 hc2
    obtain ⟨f, hf2⟩ : ∃ f : Nat, (fr : Int) % 1024 = f := ⟨fr % 1024, by omega⟩
    obtain ⟨t, ht2⟩ : ∃ t : Nat, (to : Int) % 1024 = t := ⟨to % 1024, by omega⟩
    obtain ⟨m, hm2⟩ : ∃ m : Nat, (n : Int) % 1024 = m := ⟨n % 1024, by omega⟩
    rw [hf2, ht2, hm2]
    have hf3 : f ≤ 1023 := by omega
    have ht3 : t ≤ 1023 := by omega
    have hm3 : m ≤ 1023 := by omega
    clear hf2 ht2 hm2
    refine (move_any (HA4.out.drewN nq) _ _ _).mono ?_
    rintro e w5 ⟨rfl, hA5, hg5⟩
    rw [inA_mv, inA_mv, HBL.out]
    rw [inA_mv] at hA5
    have HB5 := Lib.hid ((below_drewN HB4.out nq).grown hg5 HB4.out.size (fun k hk => by cases hk; have := HG.out; omega))
    have HSZ4 := Lib.hid HB4.out.size
    by_cases hok : f + m ≤ 1024 ∧ t + m ≤ 1024
    · obtain ⟨ho1, ho2⟩ := hok
      rw [show okN (decide (f + m ≤ 1024) && decide (t + m ≤ 1024)) = 0 by rw [decide_eq_true ho1, decide_eq_true ho2]; rfl]
      rw [if_pos (by rw [HBL.out]; exact decide_eq_true ho1)] at hA5
      obtain ⟨ds, hds⟩ : ∃ ds, ds = (bs.drop f).take m := ⟨_, rfl⟩
      have hrd : rdA 256 bs (256 + (f : Int)) m = ds := by
        unfold rdA
        rw [inA_mv, if_pos (by rw [HBL.out]; exact decide_eq_true ho1), show (256 + (f : Int) - 256).toNat = f by omega, hds]; rfl
      have hdl : ds.length = m := by rw [hds]; have := HBL.out; simp; omega
      have hwr : wrB 256 bs (256 + (t : Int)) ds = splice bs t ds := by
        unfold wrB
        rw [inA_mv, if_pos (by rw [HBL.out, hdl]; exact decide_eq_true ho2), show (256 + (t : Int) - 256).toNat = t by omega]
      rw [hrd, hwr] at hA5
      have HGET := Lib.hid (fun (k : Nat) (hk : k < bs.length) (hk2 : k < (splice bs t ds).length) => splice_get bs ds t (by rw [hdl, HBL.out]; exact ho2) k hk hk2)
      have HSL := Lib.hid (show (splice bs t ds).length = 1024 by rw [length_splice _ _ _ (by rw [hdl, HBL.out]; exact ho2)]; exact HBL.out)
      have HDG := Lib.hid (show ∀ j (hj : j < ds.length) (hj2 : f + j < bs.length), ds[j] = bs[f + j] by subst hds; intro j hj hj2; simp)
      generalize splice bs t ds = ns at *
      have HDL := Lib.hid hdl
      clear hds hdl hrd hwr
      have HA5 := Lib.hid hA5; clear hA5
      go_wp2_with fail
      refine (bytes_any HA5.out).mono ?_
      rintro e w6 ⟨A2, c2, rfl, hr2, hB6⟩
      rw [HSL.out]
      have HB6 := Lib.hid (HB5.out.trans (hB6.mono HB5.out.size))
      have HR5 := Lib.hid (((HR1.out.drewN nq).grown hg5 HG3.out).below hB6)
      have HR2 := Lib.hid hr2
      clear hr2 hB6 hg5 HR1 HA4 HA5 HB5 HB4
      have hd1 : decide (1024 < f + m) = false := decide_eq_false (by omega)
      have hd2 : decide (1024 < t + m) = false := decide_eq_false (by omega)
      obtain ⟨A1', c1', he1, hr1⟩ := HR5.out.rd
      obtain ⟨A2', c2', he2, hr2⟩ := HR2.out.rd
      injection he1 with he1 _ _
      injection he2 with he2 _ _
      subst he1 he2
      obtain ⟨b1, o1, rfl, hx1⟩ := hr1.at (by rw [HBL.out]; omega)
      obtain ⟨b2, o2, rfl, hx2⟩ := hr2.at (by rw [HSL.out]; omega)
      have HX1 := Lib.hid hx1; clear hx1 hr1
      have HX2 := Lib.hid hx2; clear hx2 hr2
      clear hbl HR5 HR2 HIN HBS HG3 hlen hf ht hn HR HZ HSZ4
      go_wp2
      go_loopw [13, 14, 80, 81, 82, 83, 84, 85, 86, 87, 88, 89, 90, 91, 92, 93, 94, 95, 96, 97, 98, 99, 100, 101, 102, 103, 104, 105, 106, 107, 108, 109, 110, 111] (fun i _ _ _ _ _ _ _ _ _ _ _ _ _ _ _ _ _ _ _ _ _ _ _ _ _ _ _ _ _ _ _ _ _ wr => ∃ k : Nat, k ≤ 1024 ∧ i = .int .i64 k ∧ wr = w6) (fun i _ _ _ _ _ _ _ _ _ _ _ _ _ _ _ _ _ _ _ _ _ _ _ _ _ _ _ _ _ _ _ _ _ _ => 1024 - (intOf i).toNat)
      case atStart => exact ⟨0, by omega, rfl, rfl⟩
      case round =>
        obtain ⟨k, hk, rfl, rfl⟩ := hrel
        by_cases hlt : k < 1024
        · have hck1 := HX1.out k (by rw [HBL.out]; exact hlt)
          have hck2 := HX2.out k (by rw [HSL.out]; exact hlt)
          by_cases hmid : t ≤ k ∧ k < t + m
          · obtain ⟨hm1, hm2⟩ := hmid
            obtain ⟨j, hj⟩ : ∃ j : Nat, (f : Int) + k - t = (j : Int) := ⟨f + (k - t), by omega⟩
            have hck3 := HX1.out j (by rw [HBL.out]; omega)
            have hv : ns[k]'(by rw [HSL.out]; exact hlt) = bs[j]'(by rw [HBL.out]; omega) := by
              rw [HGET.out k (by rw [HBL.out]; exact hlt), dif_pos ⟨hm1, by rw [HDL.out]; exact hm2⟩, HDG.out (k - t) (by rw [HDL.out]; omega) (by rw [HBL.out]; omega)]
              congr 1; omega
            rw [hv] at hck2
            generalize bs[j]'(by rw [HBL.out]; omega) = x at hck2 hck3
            clear hv
            generalize bs[k]'(by rw [HBL.out]; omega) = y at hck1
            go_wp2
            go_roundw
            case rel => exact ⟨k + 1, by omega, by go_num, trivial⟩
            case measure => simp [intOf]; omega
          · have hv : ns[k]'(by rw [HSL.out]; exact hlt) = bs[k]'(by rw [HBL.out]; omega) := by
              rw [HGET.out k (by rw [HBL.out]; exact hlt), dif_neg (by rw [HDL.out]; exact hmid)]
            rw [hv] at hck2
            generalize bs[k]'(by rw [HBL.out]; omega) = y at hck1 hck2
            clear hv
            by_cases hm1 : t ≤ k
            · have hm2 : t + m ≤ k := by omega
              clear hmid
              go_wp2
              go_roundw
              case rel => exact ⟨k + 1, by omega, by go_num, trivial⟩
              case measure => simp [intOf]; omega
            · clear hmid
              go_wp2
              go_roundw
              case rel => exact ⟨k + 1, by omega, by go_num, trivial⟩
              case measure => simp [intOf]; omega
        · obtain rfl : k = 1024 := by omega
          go_wp2
          go_ret
          exact ⟨rfl, HB6.out⟩
    · rw [show okN (decide (f + m ≤ 1024) && decide (t + m ≤ 1024)) = 10 by
        rw [show (decide (f + m ≤ 1024) && decide (t + m ≤ 1024)) = false by
          rw [← Bool.decide_and]; exact decide_eq_false hok]; rfl]
      have hsame : (if inA 256 bs.length (256 + (f : Int)) m = true then wrB 256 bs (256 + (t : Int)) (rdA 256 bs (256 + (f : Int)) m) else bs) = bs := by
        rw [inA_mv, HBL.out]
        by_cases ho1 : f + m ≤ 1024
        · rw [if_pos (decide_eq_true ho1)]
          have hrl : (rdA 256 bs (256 + (f : Int)) m).length = m := by
            unfold rdA
            rw [inA_mv, if_pos (by rw [HBL.out]; exact decide_eq_true ho1)]
            have := HBL.out
            simp; omega
          unfold wrB
          rw [inA_mv, hrl, if_neg (by rw [HBL.out, decide_eq_true_iff]; omega)]
        · rw [if_neg (by rw [decide_eq_true_iff]; exact ho1)]
      rw [inA_mv] at hsame
      rw [hsame] at hA5
      clear hsame
      have HA5 := Lib.hid hA5; clear hA5
      go_wp2_with fail
      refine (bytes_any HA5.out).mono ?_
      rintro e w6 ⟨A2, c2, rfl, hr2, hB6⟩
      rw [hbl]
      have HB6 := Lib.hid (HB5.out.trans (hB6.mono HB5.out.size))
      have HR5 := Lib.hid (((HR1.out.drewN nq).grown hg5 HG3.out).below hB6)
      have HR2 := Lib.hid hr2
      clear hr2 hB6 hg5 HR1 HA4 HA5 HB5 HB4 HR
      rw [hbl] at HR5 HR2
      have HSM := Lib.hid (show decide (bs = bs) = true from decide_eq_true rfl)
      by_cases ho1 : 1024 < f + m
      · go_wp2_with fail
        refine (same_any A1 A2 1024 1024 c1 c2 bs bs w6 HR5.out.rdA HR2.out.rdA HBL.out.symm HBL.out.symm).mono ?_
        rintro e w7 ⟨rfl, rfl⟩
        go_wp2
        go_ret
        exact ⟨rfl, HB6.out⟩
      · have ho2 : 1024 < t + m := by omega
        go_wp2_with fail
        refine (same_any A1 A2 1024 1024 c1 c2 bs bs w6 HR5.out.rdA HR2.out.rdA HBL.out.symm HBL.out.symm).mono ?_
        rintro e w7 ⟨rfl, rfl⟩
        go_wp2
        go_ret
        exact ⟨rfl, HB6.out⟩
theorem arenaMoves_front (A : Option Addr) (cap : Nat) (bs : List UInt8) (cs : Array Value) (W : World) (hr : RdB W A bs) (hl : bs.length ≤ 140737488351232) (hz : cs.size = 3) (hR : rStruct [rInt .u16, rInt .u16, rInt .u16] W cs.toList) :
    Calls Try.prog 5 #[.slice A bs.length cap, .agg cs] W fun e w' => e = .returned (.bool true) ∧ Below W.heap.size W w' := by
  obtain ⟨x0, x1, x2, rfl⟩ : ∃ x0 x1 x2, cs = #[x0, x1, x2] := by
    obtain ⟨l⟩ := cs
    match l, hz with
    | [x0, x1, x2], _ => exact ⟨x0, x1, x2, rfl⟩
  obtain ⟨a, h0, hw0⟩ := hR 0 _ x0 rfl rfl
  obtain ⟨b, h1, hw1⟩ := hR 1 _ x1 rfl rfl
  obtain ⟨c, h2, hw2⟩ := hR 2 _ x2 rfl rfl
  simp at h0 h1 h2
  subst h0 h1 h2
  have b0 := bounds_u16 hw0
  have b1 := bounds_u16 hw1
  have b2 := bounds_u16 hw2
  obtain ⟨a', rfl⟩ := Int.eq_ofNat_of_zero_le b0.1
  obtain ⟨b', rfl⟩ := Int.eq_ofNat_of_zero_le b1.1
  obtain ⟨c', rfl⟩ := Int.eq_ofNat_of_zero_le b2.1
  exact arenaMoves_walk A cap bs a' b' c' W hr (by omega) (by omega) (by omega)
end Go.Proofs.Ytjfbopnohijhkaa
