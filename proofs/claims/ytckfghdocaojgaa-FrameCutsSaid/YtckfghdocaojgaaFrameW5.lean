/- The walks of the reference's Whole and Split. -/
import Derived.Test.YtckfghdocaojgaaFrameW4
namespace Go.Proofs.Ytckfghdocaojgaa
open Go.RowKit
attribute [local go_sem ↓] Go.wp_at_zero Go.wp_at_succ
theorem leB_leN (q : List UInt8) : leB (leN q) q.length = q := by
  induction q with
  | nil => rfl
  | cons b bs ih =>
    have hb := b.toNat_lt
    have e1 : (b.toNat + 256 * leN bs) % 256 = b.toNat := by omega
    have e2 : (b.toNat + 256 * leN bs) / 256 = leN bs := by omega
    simp only [leN, List.length_cons, leB, e1, e2, ih]
    rw [UInt8.ofNat_toNat]
theorem leB_take (n k j : Nat) (h : j ≤ k) : (leB n k).take j = leB n j := by
  induction k generalizing n j with
  | zero => obtain rfl : j = 0 := by omega
            rfl
  | succ k ih =>
    rcases j with _ | j
    · rfl
    · simp only [leB, List.take_succ_cons]
      rw [ih _ j (by omega)]
theorem RdB.take {w : World} {A : Option Addr} {bs : List UInt8} (h : RdB w A bs) (n : Nat) : RdB w A (bs.take n) := by
  refine ⟨by have := h.1; simp; omega, fun hp => ?_⟩
  have h0 : 0 < (bv bs).length := by simp [bv] at hp ⊢; omega
  obtain ⟨b, off, e, hc⟩ := h.2 h0
  refine ⟨b, off, e, fun j v hj => hc j v ?_⟩
  simp only [bv, List.map_take, List.getElem?_take] at hj
  split at hj
  · exact hj
  · simp at hj
theorem sizeF_bd (b : List UInt8) (h : ¬ sizeF b = 0) : 7 ≤ sizeF b ∧ sizeF b ≤ b.length ∧ sizeF b = lenF b := by
  have hbd := lenF_bd b
  unfold sizeF at h ⊢
  split at h
  · omega
  · rename_i h1
    rw [if_neg h1]
    split at h
    · omega
    · rename_i h2
      rw [if_neg h2]
      omega
theorem wholeF_rest (b : List UInt8) (n : Nat) : (wholeF b n).err ≠ 0 ∧ (wholeF b n).k = 0 ∧ (wholeF b n).body = [] ∧ (wholeF b n).rest = [] ∨ (wholeF b n).err = 0 ∧ (wholeF b n).rest = b.drop n := by
  unfold wholeF
  split
  · split
    · exact .inl ⟨by decide, rfl, rfl, rfl⟩
    · exact .inr ⟨rfl, rfl⟩
  · exact .inl ⟨by decide, rfl, rfl, rfl⟩
theorem wholeF_take (bs : List UInt8) (n : Nat) (h : n ≤ bs.length) (h7 : 7 ≤ n) : (wholeF (bs.take n) n).k = (wholeF bs n).k ∧ (wholeF (bs.take n) n).body = (wholeF bs n).body ∧ (wholeF (bs.take n) n).err = (wholeF bs n).err := by
  have e1 : (bs.take n).take (n - 4) = bs.take (n - 4) := by rw [List.take_take]; congr 1; omega
  have e2 : ((bs.take n).drop (n - 4)).take 4 = (bs.drop (n - 4)).take 4 := by
    rw [List.drop_take, List.take_take]; congr 1; omega
  have e3 : (bs.take n).head? = bs.head? ∧ (bs.take n).headD 0 = bs.headD 0 := by
    match bs, n, h7 with
    | [], _, _ => simp
    | x :: t, n + 1, _ => simp
  unfold wholeF sumOk
  rw [e1, e2, e3.1, e3.2]
  split
  · split <;> exact ⟨rfl, rfl, rfl⟩
  · exact ⟨rfl, rfl, rfl⟩
theorem sumOk_iff (b : List UInt8) (n : Nat) (h : n ≤ b.length) (h4 : 4 ≤ n) : sumOk b n = true ↔ (b.drop (n - 4)).take 4 = leB (sum (b.take (n - 4))) 4 := by
  have hl : ((b.drop (n - 4)).take 4).length = 4 := by simp; omega
  unfold sumOk
  rw [beq_iff_eq]
  constructor
  · intro e
    have := leB_leN ((b.drop (n - 4)).take 4)
    rw [hl] at this
    rw [e, this]
  · intro e
    have h2 := sum_lt (b.take (n - 4))
    rw [e, leN_leB _ 4 (by simpa using h2)]
/-- What the reference's Whole answers. -/
def WholeA (base : Nat) (s : SpF) (e : Ending) (w' : World) : Prop := ∃ A1 n1 c1, e = .returned (.tuple #[.int .i64 (s.k : Int), .slice A1 n1 c1, .int .i64 (s.err : Int)]) ∧ NewB w' base 5 A1 n1 c1 s.body
set_option maxHeartbeats 4000000 in
set_option maxRecDepth 20000 in
theorem refWhole_any (A : Option Addr) (cap : Nat) (bs : List UInt8) (w : World) (hr : RdB w A bs) (hcap : bs.length ≤ cap) (hbig : bs.length ≤ 140737488355328) (h7 : 7 ≤ bs.length) :
    Calls Try.prog 27 #[.slice A bs.length cap] w fun e w' => WholeA w.heap.size (wholeF bs bs.length) e w' ∧ Below w.heap.size w w' := by
  have hlen := hr.1
  obtain ⟨b, off, rfl, hcw⟩ := hr.at (by omega)
  have hx0 := hcw 0 (by omega)
  rw [Nat.add_zero] at hx0
  have HB0 := Lib.hid (World.block_lt_of_cell? w _ hx0)
  have hhd : bs.head? = some bs[0] ∧ bs.headD 0 = bs[0] := by
    match bs, h7 with
    | x :: t, _ => exact ⟨rfl, rfl⟩
  obtain ⟨n, hn⟩ : ∃ n, n = bs.length := ⟨_, rfl⟩
  obtain ⟨m, hm⟩ : ∃ m, bs.length = m + 4 := ⟨bs.length - 4, by omega⟩
  have HOK := Lib.hid (sumOk_iff bs n (by omega) (by omega))
  have hm0 : n - 4 = m := by omega
  obtain ⟨q1, hq1⟩ : ∃ q1, q1 = bs.take m := ⟨_, rfl⟩
  obtain ⟨q2, hq2⟩ : ∃ q2, q2 = (bs.drop m).take 4 := ⟨_, rfl⟩
  have hl2 : q2.length = 4 := by rw [hq2]; simp; omega
  have HC2 : Hid (∀ k (hk : k < q2.length), w.cell? ⟨b, off + (m + k), none⟩ = some (.int .u8 (q2[k].toNat : Int))) := by
    intro k hk
    rw [hcw (m + k) (by omega)]
    simp [hq2]
  have HQ1 := Lib.hid (show RdB w (some ⟨b, off, none⟩) q1 by rw [hq1]; have := hr.part 0 m (by omega); simpa using this)
  have HQ3 := Lib.hid (show RdB w (some ⟨b, off + 3, none⟩) ((bs.take m).drop 3) by
    have := hr.part 3 (m - 3) (by omega)
    rw [List.drop_take]; exact this)
  have HL3 := Lib.hid (show m - 3 = ((bs.take m).drop 3).length by simp; omega)
  have HB3 := Lib.hid (show m - 3 ≤ 140737488355328 by omega)
  obtain ⟨r, hres⟩ : ∃ r : SpF, r = wholeF bs n := ⟨_, rfl⟩
  rw [← hn, ← hres]
  unfold wholeF at hres
  rw [hm0] at hres
  have HRES := Lib.hid hres; clear hres
  have HOK := Lib.hid (show sumOk bs n = true ↔ q2 = leB (sum q1) 4 by rw [hq2, hq1]; have := HOK.out; rw [hm0] at this; exact this)
  have HL1 := Lib.hid (show m = q1.length by rw [hq1]; simp; omega)
  have HL2 := Lib.hid hl2; clear hl2
  generalize bs[0] = x0 at hx0 hhd
  have HHD := Lib.hid hhd; clear hhd
  have HX0 := Lib.hid hx0
  have hmn : m ≤ n := by omega
  have hmc : m ≤ cap := by omega
  have h3m : 3 ≤ m := by omega
  have hn0 : 0 < n := by omega
  have hi2 : (3 : Int) ≤ (m : Int) := by omega
  have hx8 := x0.toNat_lt
  have hwx : IntKind.i64.wrap (x0.toNat : Int) = (x0.toNat : Int) := by rw [IntKind.wrap_i64]; omega
  have hw1 : IntKind.i64.wrap ((n : Int) - 4) = (m : Int) := by rw [IntKind.wrap_i64]; omega
  have hc3 : ¬ cap = 3 := by omega
  have hml : (m : Int) ≤ 140737488355328 := by omega
  have HR := Lib.hid hr
  have HNB := Lib.hid hn
  have HNM := Lib.hid (show n = m + 4 by omega)
  clear hq1 hq2 hm hm0 hn hr hcw h7 hlen hcap hbig hx8
  go_enter Try.func27, Try.ntmps27
  go_wp2_with fail
  refine (refSum_n _ _ _ q1 w HQ1.out HL1.out).mono ?_
  rintro e w1 ⟨rfl, rfl⟩
  have hS := sum_lt q1
  obtain ⟨s1, hs1⟩ : ∃ s1, s1 = sum q1 := ⟨_, rfl⟩
  rw [← hs1] at hS ⊢
  have HOK := Lib.hid (show sumOk bs n = true ↔ q2 = leB s1 4 by rw [hs1]; exact HOK.out)
  clear hs1
  go_wp2_with fail
  go_loopw [6, 7, 15, 16, 17, 18, 19, 20, 21, 22, 23, 24, 25, 26, 27, 28, 29, 30, 31] (fun s i _ _ _ _ _ _ _ _ _ _ _ _ _ _ _ _ _ wr => ∃ k y : Nat, k ≤ 4 ∧ i = .int .i64 k ∧ s = .int .u32 (y : Int) ∧ y < 4294967296 ∧ Hid (y = s1 / 256 ^ k) ∧ Hid (q2.take k = leB s1 k) ∧ w = wr) (fun _ i _ _ _ _ _ _ _ _ _ _ _ _ _ _ _ _ _ _ => 4 - (intOf i).toNat)
  case atStart => exact ⟨0, s1, by omega, rfl, rfl, hS, (show s1 = s1 / 256 ^ 0 by simp), (show q2.take 0 = leB s1 0 by simp [leB]), rfl⟩
  case round =>
    obtain ⟨k, y, hk, rfl, rfl, hy, HY, HT, rfl⟩ := hrel
    by_cases hlt : k < 4
    · have hck := HC2.out k (by rw [HL2.out]; omega)
      obtain ⟨x, hx⟩ : ∃ x, x = q2[k]'(by rw [HL2.out]; omega) := ⟨_, rfl⟩
      rw [← hx] at hck
      have hw2 : IntKind.i64.wrap ((m : Int) + (k : Int)) = ((m + k : Nat) : Int) := by rw [IntKind.wrap_i64]; omega
      have hkn : m + k < n := by have := HNM.out; omega
      have HTK := Lib.hid (show q2.take (k + 1) = q2.take k ++ [x] by rw [List.take_succ_eq_append_getElem (by rw [HL2.out]; omega), hx])
      have HTB := Lib.hid (leB_succ s1 k)
      have HXM := Lib.hid hx; clear hx
      by_cases hxm : x.toNat = y % 256
      · have hb : ((x.toNat : Int) != (y : Int) % 256) = false := by simp; omega
        have HXE := Lib.hid (show x = UInt8.ofNat (s1 / 256 ^ k % 256) by rw [← HY.out, ← hxm, UInt8.ofNat_toNat])
        clear hxm
        go_wp2
        go_roundw
        case rel =>
          exact ⟨k + 1, y / 256, by omega, by go_num, by go_num, by omega, (show y / 256 = s1 / 256 ^ (k + 1) by rw [HY.out, Nat.div_div_eq_div_mul, Nat.pow_succ]), (show q2.take (k + 1) = leB s1 (k + 1) by rw [HTK.out, HTB.out, HT.out, HXE.out]), trivial⟩
        case measure => simp [intOf]; omega
      · have hb : ((x.toNat : Int) != (y : Int) % 256) = true := by simp; omega
        have HNE := Lib.hid (show ¬ sumOk bs n = true by
          intro h
          have h2 := HOK.out.1 h
          have h3 : q2.take (k + 1) = leB s1 (k + 1) := by rw [h2]; exact leB_take s1 4 (k + 1) (by omega)
          rw [HTK.out, HTB.out] at h3
          have h4 := List.append_inj_right' h3 rfl
          simp at h4
          apply hxm
          rw [h4, HY.out]; simp)
        clear hxm
        have HRES := Lib.hid (HRES.out.trans (if_neg HNE.out))
        go_wp2
        go_ret3
        rw [HRES.out]
        exact ⟨⟨none, 0, 0, rfl, NewB.nil _ _ _ _ _⟩, Below.refl _ _⟩
    · obtain rfl : k = 4 := by omega
      have HE := Lib.hid (show q2 = leB s1 4 by rw [← HT.out, List.take_of_length_le (by rw [HL2.out]; omega)])
      have HRES := Lib.hid (HRES.out.trans (if_pos (HOK.out.2 HE.out)))
      by_cases hx : x0 = 0
      · subst hx
        have HRES := Lib.hid (HRES.out.trans (if_pos HHD.out.1))
        go_wp2
        go_ret3
        rw [HRES.out]
        exact ⟨⟨none, 0, 0, rfl, NewB.nil _ _ _ _ _⟩, Below.refl _ _⟩
      · have hxb : ((x0.toNat : Int) == 0) = false := by
          simp; intro h; exact hx (UInt8.toNat_inj.1 (by simpa using h))
        have HRES := Lib.hid (HRES.out.trans (if_neg (by rw [HHD.out.1]; simpa using hx)))
        clear hx
        go_wp2
        go_region_held3 (fun w' => w'.cell? ⟨b, off, none⟩ = some (.int .u8 (x0.toNat : Int)) ∧ Below w.heap.size w w') ((refine keepC HB0.out HX0.out ?_; repeat' (first | assumption | exact Below.refl _ _ | refine below_drewN ?_ _ | refine Below.drew ?_ | refine belowA ?_ _ | refine belowT ?_ (by assumption)))) ((first
          | (refine step_appE Try.slB (by rfl) (.tmp 40) (.tmp 44) (by rfl) _ (by rfl) _ _ _ ((bs.take m).drop 3) (by rfl) HL3.out (HQ3.out.below (by repeat' (first | assumption | exact Below.refl _ _ | refine below_drewN ?_ _ | refine Below.drew ?_ | refine belowA ?_ _ | refine belowT ?_ (by assumption)))) HB3.out ?_; intro A3 c3 w3 hn3 hb3; have HN3 := Lib.hid hn3; clear hn3)))
        go_wp2
        go_ret3
        have hn3 := HN3.out
        rw [HRES.out]
        exact ⟨⟨A3, m - 3, c3, by rw [HHD.out.2]; rfl, hn3.le (by simp [go_sem])⟩, belowT (Below.drew (belowA (Below.refl _ _) _)) hb3⟩
set_option maxHeartbeats 2000000 in
set_option maxRecDepth 20000 in
theorem refSplit_any (A : Option Addr) (cap : Nat) (bs : List UInt8) (w : World) (hr : RdB w A bs) (hcap : bs.length ≤ cap) (hbig : bs.length ≤ 140737488355328) :
    Calls Try.prog 17 #[.slice A bs.length cap] w fun e w' => (∃ A1 n1 c1 A2 n2 c2, e = .returned (.tuple #[.int .i64 ((splitF bs).k : Int), .slice A1 n1 c1, .slice A2 n2 c2, .int .i64 ((splitF bs).err : Int)]) ∧ NewB w' w.heap.size 5 A1 n1 c1 (splitF bs).body ∧ NewB w' w.heap.size 5 A2 n2 c2 (splitF bs).rest) ∧ Below w.heap.size w w' := by
  have hlen := hr.1
  by_cases h0 : sizeF bs = 0
  · have HS := Lib.hid (show splitF bs = ⟨0, [], [], 3⟩ by unfold splitF; rw [if_pos h0])
    rw [HS.out]
    have hsz := Lib.hid h0
    clear h0
    go_enter Try.func17, Try.ntmps17
    go_wp2_with fail
    refine (refSize_any A cap bs _ hr).mono ?_
    rintro e w1 ⟨rfl, k, rfl⟩
    rw [hsz.out]
    go_wp2
    exact bodyPost_ret (v := .tuple #[.int .i64 0, .slice none 0 0, .slice none 0 0, .int .i64 3]) (by simp [results, Try.results17, go_sem]) rfl ⟨⟨none, 0, 0, none, 0, 0, rfl, NewB.nil _ _ _ _ _, NewB.nil _ _ _ _ _⟩, below_drewN (Below.refl _ _) _⟩
  · obtain ⟨n, hn⟩ : ∃ n, n = sizeF bs := ⟨_, rfl⟩
    obtain ⟨h7, hle, _⟩ := sizeF_bd bs h0
    have hsp : splitF bs = wholeF bs n := by unfold splitF; rw [if_neg h0, hn]
    rw [← hn] at h7 hle h0
    obtain ⟨e1, e2, e3⟩ := wholeF_take bs n hle h7
    have e4 := wholeF_rest bs n
    rw [hsp]
    have htl : (bs.take n).length = n := by simp; omega
    obtain ⟨r1, hr1⟩ : ∃ r1 : SpF, r1 = wholeF (bs.take n) n := ⟨_, rfl⟩
    rw [← hr1] at e1 e2 e3
    generalize wholeF bs n = r at *
    have HW := fun (W : World) (hq : RdB W A (bs.take n)) => refWhole_any A cap (bs.take n) W hq (by omega) (by omega) (by omega)
    rw [htl, ← hr1] at HW
    have HWH := Lib.hid HW; clear HW
    have HR := Lib.hid hr
    have HSZ := Lib.hid hn
    have HE1 := Lib.hid e1
    have HE2 := Lib.hid e2
    have HE3 := Lib.hid e3
    have HE4 := Lib.hid e4
    have hcn : n ≤ cap := by omega
    have hn0 : ((n : Int) == 0) = false := by simp; omega
    clear e1 e2 e3 e4 hr1 hsp hn htl hr
    go_enter Try.func17, Try.ntmps17
    go_wp2_with fail
    refine (refSize_any A cap bs _ HR.out).mono ?_
    rintro e w1 ⟨rfl, k, rfl⟩
    rw [← HSZ.out]
    go_wp2_with fail
    refine (HWH.out (w.drewN k) (HR.out.take n)).mono ?_
    rintro e w1 ⟨⟨A1, n1, c1, rfl, hn1⟩, hB1⟩
    rw [HE1.out, HE3.out]
    have HB1 := Lib.hid hB1
    have hn1 : NewB w1 w.heap.size 5 A1 n1 c1 r.body := by rw [← HE2.out]; exact hn1
    have HN1 := Lib.hid hn1; clear hn1
    rcases HE4.out with ⟨h1, h2, h3, h4⟩ | ⟨h1, h2⟩
    · have he : ((r.err : Int) != 0) = true := by simp; omega
      have HK := Lib.hid h2
      have HBD := Lib.hid h3
      have HRS := Lib.hid h4
      clear h1 h2 h3 h4
      go_wp2
      refine bodyPost_ret (v := .tuple #[.int .i64 0, .slice none 0 0, .slice none 0 0, .int .i64 r.err]) (by simp [results, Try.results17, go_sem]) rfl ⟨⟨none, 0, 0, none, 0, 0, by rw [HK.out]; rfl, ?_, ?_⟩, ?_⟩
      · rw [HBD.out]; exact NewB.nil _ _ _ _ _
      · rw [HRS.out]; exact NewB.nil _ _ _ _ _
      · exact belowT (below_drewN (Below.refl _ _) _) HB1.out
    · rw [h1]
      have HR4 := Lib.hid h2
      have HE0 := Lib.hid h1
      clear h1 h2
      have hq4 : (n = cap ∧ (0 = (bs.drop n).length ∧ 0 ≤ 140737488355328) ∧ RdB w A (bs.drop n)) ∨ (¬ cap = n ∧ (bs.length - n = (bs.drop n).length ∧ bs.length - n ≤ 140737488355328) ∧ ∃ b off, A = some ⟨b, off, none⟩ ∧ RdB w (some ⟨b, off + n, none⟩) (bs.drop n)) := by
        by_cases hc : cap = n
        · refine .inl ⟨hc.symm, ⟨by simp; omega, by omega⟩, ?_⟩
          rw [List.drop_of_length_le (by omega)]
          exact ⟨by simp, fun h => by simp [bv] at h⟩
        · refine .inr ⟨hc, ⟨by simp, by omega⟩, ?_⟩
          obtain ⟨b, off, rfl, _⟩ := HR.out.at (by omega)
          refine ⟨b, off, rfl, ?_⟩
          have := HR.out.part n (bs.length - n) (by omega)
          rwa [List.take_of_length_le (by simp)] at this
      have HBA := Lib.hid (belowA (below_drewN (Below.refl _ _) k |> fun h => belowT h HB1.out) (.cells #[] 5))
      rcases hq4 with ⟨rfl, hb4, hq4⟩ | ⟨hcn', hb4, b, off, rfl, hq4⟩
      all_goals (
        have HQ4 := Lib.hid (hq4.below HBA.out)
        have HB4 := Lib.hid hb4
        clear hb4 hq4
        go_wp2_with (at_builtin; go_loud (refine wpList_appE Try.slB rfl (.tmp 27) (.tmp 30) rfl _ rfl _ _ _ (bs.drop n) rfl HB4.out.1 HQ4.out HB4.out.2 ?_); intro A2 c2 w2 hn2 hb2; have HN2 := Lib.hid hn2; have HB2 := Lib.hid hb2; clear hn2 hb2)
        have hn1 := HN1.out.below (belowT (belowA (Below.refl _ _) _) HB2.out)
        have hn2 := HN2.out.le (show w.heap.size ≤ _ by have := HBA.out.size; exact this)
        have hbf := belowT HBA.out HB2.out
        rw [← HR4.out] at hn2
        first | exact bodyPost_ret (v := .tuple #[.int .i64 r.k, .slice A1 n1 c1, .slice A2 0 c2, .int .i64 0]) (by simp [results, Try.results17, go_sem]) rfl ⟨⟨A1, n1, c1, A2, 0, c2, by rw [HE0.out]; rfl, hn1, hn2⟩, hbf⟩ | exact bodyPost_ret (v := .tuple #[.int .i64 r.k, .slice A1 n1 c1, .slice A2 (bs.length - n) c2, .int .i64 0]) (by simp [results, Try.results17, go_sem]) rfl ⟨⟨A1, n1, c1, A2, bs.length - n, c2, by rw [HE0.out]; rfl, hn1, hn2⟩, hbf⟩)
end Go.Proofs.Ytckfghdocaojgaa
