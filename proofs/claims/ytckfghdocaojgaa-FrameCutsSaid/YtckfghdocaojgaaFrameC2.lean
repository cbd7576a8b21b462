/- The walks of All and Cut. -/
import Derived.Test.YtckfghdocaojgaaFrameC1
namespace Go.Proofs.Ytckfghdocaojgaa
open Go.RowKit
/-- Frames as cells. -/
def FrE (w : World) (vs : List Value) (fs : List Fr) : Prop := vs.length = fs.length * 2 ∧ ∀ i (h : i < fs.length), ∃ A c, vs[i * 2]? = some (.int .i64 fs[i].1) ∧ vs[i * 2 + 1]? = some (.slice A fs[i].2.length c) ∧ RdB w A fs[i].2 ∧ -9223372036854775808 ≤ fs[i].1 ∧ fs[i].1 ≤ 9223372036854775807
theorem FrE.below {w w' : World} {vs : List Value} {fs : List Fr} (h : FrE w vs fs) (hb : Below w.heap.size w w') : FrE w' vs fs :=
  ⟨h.1, fun i hi => by obtain ⟨A, c, h1, h2, h3, h4⟩ := h.2 i hi; exact ⟨A, c, h1, h2, h3.below hb, h4⟩⟩
theorem FrE.nil (w : World) : FrE w [] [] := ⟨rfl, fun i h => by simp at h⟩
theorem FrE.snoc {w : World} {vs : List Value} {fs : List Fr} (h : FrE w vs fs) (k : Int) (A : Option Addr) (c : Nat) (body : List UInt8) (hr : RdB w A body) (hk : -9223372036854775808 ≤ k ∧ k ≤ 9223372036854775807) : FrE w (vs ++ [.int .i64 k, .slice A body.length c]) (fs ++ [(k, body)]) := by
  obtain ⟨h1, h2⟩ := h
  refine ⟨by simp [h1]; omega, fun i hi => ?_⟩
  rcases Nat.lt_or_ge i fs.length with hl | hl
  · obtain ⟨A', c', h3, h4, h5, h6⟩ := h2 i hl
    rw [List.getElem_append_left hl]
    exact ⟨A', c', by rw [List.getElem?_append_left (by omega)]; exact h3, by rw [List.getElem?_append_left (by omega)]; exact h4, h5, h6⟩
  · have : i = fs.length := by simp at hi; omega
    subst this
    have e : (fs ++ [(k, body)])[fs.length]'hi = (k, body) := by simp
    rw [e]
    exact ⟨A, c, by rw [List.getElem?_append_right (by omega)]; simp [h1], by rw [List.getElem?_append_right (by omega)]; simp [h1], hr, hk⟩
/-- A frame's cells in memory. -/
theorem FrE.cells {w : World} {A : Option Addr} {vs : List Value} {fs : List Fr} (h : FrE w vs fs) (hr : RdL w A vs) (hp : 0 < fs.length) :
    ∃ b off, A = some ⟨b, off, none⟩ ∧ b < w.heap.size ∧ ∀ i (hi : i < fs.length), ∃ A c, w.cell? ⟨b, off + i * 2, none⟩ = some (.int .i64 fs[i].1) ∧ w.cell? ⟨b, off + i * 2 + 1, none⟩ = some (.slice A fs[i].2.length c) ∧ RdB w A fs[i].2 ∧ -9223372036854775808 ≤ fs[i].1 ∧ fs[i].1 ≤ 9223372036854775807 := by
  obtain ⟨h1, h2⟩ := h
  obtain ⟨b, off, e, hc⟩ := hr (by omega)
  refine ⟨b, off, e, ?_, fun i hi => ?_⟩
  · obtain ⟨A', c', h3, _⟩ := h2 0 hp
    have := hc _ _ h3
    exact World.block_lt_of_cell? w _ this
  · obtain ⟨A', c', h3, h4, h5⟩ := h2 i hi
    exact ⟨A', c', hc _ _ h3, by rw [Nat.add_assoc]; exact hc _ _ h4, h5⟩
set_option maxHeartbeats 4000000 in
set_option maxRecDepth 20000 in
theorem all_any (A : Option Addr) (n cap : Nat) (vs : List Value) (fs : List Fr) (w : World) (hr : RdL w A vs) (hf : FrE w vs fs) (hn : n = fs.length) (h30 : n ≤ 30) (hb : ∀ f ∈ fs, f.2.length ≤ 2000) :
    Calls Try.prog 19 #[.slice A n cap] w fun e w' => ∃ A' c' m, e = .returned (.tuple #[.slice A' m c', .int .i64 (allErr fs)]) ∧ (allErr fs = 0 → m = (allB fs).length ∧ RdB w' A' (allB fs)) ∧ (allErr fs ≠ 0 → m = 0 ∧ A' = none ∧ c' = 0) ∧ m ≤ c' ∧ Below w.heap.size w w' := by
  have HF := Lib.hid hf; clear hf
  have HR := Lib.hid hr; clear hr
  have HN := Lib.hid hn; clear hn
  have HBB := Lib.hid hb; clear hb
  have HLEN := Lib.hid (fun k => allB_len (fs.take k) 2000 (fun f hf => HBB.out f (List.mem_of_mem_take hf)))
  go_enter Try.func19, Try.ntmps19
  go_wp2_with fail
  go_loopw [4, 6, 7, 8, 11, 12, 13, 14, 15, 16, 17, 18, 19, 20, 21, 22, 23, 24, 25, 26] (fun o _ _ _ i _ _ _ _ _ _ _ _ _ _ _ _ _ _ _ wr => ∃ (k : Nat) (xs : List UInt8) (A' : Option Addr) (c' : Nat), k ≤ n ∧ i = .int .i64 k ∧ o = .slice A' xs.length c' ∧ Hid (xs = allB (fs.take k)) ∧ Hid (allErr (fs.take k) = 0) ∧ Hid (OwnB wr w.heap.size 5 (.slice A' xs.length c') xs) ∧ Hid (Below w.heap.size w wr)) (fun _ _ _ _ i _ _ _ _ _ _ _ _ _ _ _ _ _ _ _ _ => n - (intOf i).toNat)
  case atStart => exact ⟨0, [], none, 0, by omega, rfl, rfl, (show [] = allB (fs.take 0) from rfl), (show allErr (fs.take 0) = 0 from rfl), own_nil _ _ _ _, Below.refl _ _⟩
  case round =>
    obtain ⟨k, xs, A1, c1, hk, rfl, rfl, HX, HE, HO, HB⟩ := hrel
    by_cases hlt : k < n
    · have hkl : k < fs.length := by have := HN.out; omega
      obtain ⟨b, off, hA, hbl, hcs⟩ := HF.out.cells HR.out (by omega)
      obtain ⟨A2, c2, hc0, hc1, hr2, hk1, hk2⟩ := hcs k hkl
      have hb2 := HBB.out fs[k] (List.getElem_mem _)
      obtain ⟨ht1, ht2⟩ := allErr_take fs k hkl HE.out
      have htb : allB (fs.take (k + 1)) = xs ++ encB fs[k].1 fs[k].2 := by rw [List.take_succ_eq_append_getElem hkl, allB_snoc, HX.out]
      generalize fs[k].1 = kd at *
      generalize fs[k].2 = bd at *
      subst hA
      have HT1 := Lib.hid ht1; clear ht1
      have HT2 := Lib.hid ht2; clear ht2
      have HTB := Lib.hid htb; clear htb
      have HR2 := Lib.hid (hr2.below HB.out)
      have hd0 := cell_below HB.out hc0
      have hd1 := cell_below HB.out hc1
      have HKD := Lib.hid (And.intro hk1 hk2)
      have hbw : b < wr.heap.size := World.block_lt_of_cell? wr _ hd0
      clear hcs hc0 hc1 hr2 hk1 hk2
      go_wp2_with fail
      have ha := below_alloc wr (.cells #[.int .i64 kd, .slice A2 bd.length c2] 29 (0, 0))
      have HBA := Lib.hid (belowT HB.out ha)
      have HOA := Lib.hid (HO.out.below ha)
      refine (encode_any kd A2 c2 bd _ HKD.out (HR2.out.below ha)).mono ?_
      rintro e w2 ⟨A3, c3, rfl, hO3, hB3⟩
      have HB3 := Lib.hid (belowT HBA.out hB3)
      have HO3 := Lib.hid (HOA.out.below hB3)
      have HR3 := Lib.hid hO3.rdA
      clear ha hO3 hB3 HBA HOA hd0 hd1
      by_cases he : encErr kd bd = 0
      · rw [he]
        have HE1 := Lib.hid (HT1.out.trans he)
        have HLN := Lib.hid (HLEN.out (k + 1))
        clear he
        obtain ⟨ys, hys⟩ : ∃ ys, ys = xs ++ encB kd bd := ⟨_, rfl⟩
        have HYS := Lib.hid hys
        have HYB := Lib.hid (show ys = allB (fs.take (k + 1)) by rw [hys]; exact HTB.out.symm)
        have hyl : ys.length ≤ 140737488355328 := by
          rw [HYB.out]
          have h1 := HLN.out
          have h2 : (fs.take (k + 1)).length ≤ 31 := by simp; omega
          have h3 : (fs.take (k + 1)).length * (2000 + 7) ≤ 31 * 2007 := Nat.mul_le_mul_right _ h2
          omega
        have HYL := Lib.hid hyl
        clear hys hyl
        go_wp2_with (at_builtin; go_loud (refine wpList_appB w w.heap.size Try.slB rfl (.tmp 23) (.tmp 24) rfl _ xs rfl HO3.out A3 _ c3 (encB kd bd) rfl rfl HR3.out ys HYS.out HYL.out HB3.out (Nat.le_refl _) ?_); intro A5 c5 w5 hown5 hr5 hB5 hg5 hat5; clear hg5 hat5 hr5; have HO5 := Lib.hid hown5; have HB5 := Lib.hid hB5; clear hown5 hB5)
        go_roundw
        case rel => exact ⟨k + 1, ys, A5, c5, by omega, by go_num, rfl, HYB.out, HE1.out, HO5.out, HB5.out⟩
        case measure => simp [intOf]; omega
      · have HE2 := Lib.hid (HT2.out he)
        have HNE := Lib.hid he
        have hne : (encErr kd bd != 0) = true := by simp; exact he
        clear he
        go_wp2
        go_ret2
        rw [HE2.out]
        exact ⟨none, 0, 0, rfl, fun h => absurd h HNE.out, fun _ => ⟨rfl, rfl, rfl⟩, Nat.le_refl _, HB3.out⟩
    · obtain rfl : k = n := by omega
      have HT := Lib.hid (show fs.take k = fs from List.take_of_length_le (by rw [HN.out]; omega))
      have HE1 := Lib.hid (show allErr fs = 0 by have := HE.out; rwa [HT.out] at this)
      have HX1 := Lib.hid (show xs = allB fs by have := HX.out; rwa [HT.out] at this)
      go_wp2
      go_ret2
      rw [HE1.out, ← HX1.out]
      exact ⟨A1, c1, xs.length, rfl, fun _ => ⟨rfl, HO.out.rdA⟩, fun h => absurd rfl h, HO.out.cap, HB.out⟩
end Go.Proofs.Ytckfghdocaojgaa
