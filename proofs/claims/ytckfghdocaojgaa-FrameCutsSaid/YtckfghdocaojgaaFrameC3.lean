/- The walks of Cut, cuts, raws. -/
import Derived.Test.YtckfghdocaojgaaFrameC2
import Derived.Test.YtckfghdocaojgaaApart
namespace Go.Proofs.Ytckfghdocaojgaa
open Go.RowKit
theorem Try.slF : SlT Try.prog 52 29 (.agg #[.int .i64 0, .slice none 0 0]) 2 32 := ⟨Try.underlying52, by kernel_rfl, rfl, by decide⟩
def toFr (l : List (Nat × List UInt8)) : List Fr := l.map fun p => ((p.1 : Int), p.2)
theorem toFr_length (l : List (Nat × List UInt8)) : (toFr l).length = l.length := by simp [toFr]
theorem toFr_snoc (l : List (Nat × List UInt8)) (k : Nat) (b : List UInt8) : toFr (l ++ [(k, b)]) = toFr l ++ [((k : Int), b)] := by simp [toFr]
def comb (acc : List (Nat × List UInt8)) (p : List (Nat × List UInt8) × Nat) : List (Nat × List UInt8) × Nat := if p.2 ≠ 0 then ([], p.2) else (acc ++ p.1, 0)
theorem comb_nil (b : List UInt8) : comb [] (cutF b) = cutF b := by
  unfold comb
  by_cases h : (cutF b).2 ≠ 0
  · rw [if_pos h, ← cutF_fault b h]
  · rw [if_neg h]
    have : (cutF b).2 = 0 := by omega
    rw [List.nil_append, ← this]
theorem comb_step (acc : List (Nat × List UInt8)) (b : List UInt8) (h : b ≠ []) (h2 : (splitF b).err = 0) : comb acc (cutF b) = comb (acc ++ [((splitF b).k, (splitF b).body)]) (cutF (splitF b).rest) := by
  rw [cutF_ok b h h2]
  unfold comb
  by_cases he : (cutF (splitF b).rest).2 ≠ 0
  · rw [if_pos he, if_pos he]
    simp only []
    rw [if_pos he]
  · rw [if_neg he, if_neg he]
    simp
theorem splitF_k (b : List UInt8) : (splitF b).k ≤ 255 := by
  unfold splitF wholeF
  split
  · simp
  · split
    · split
      · simp
      · have := (b.headD 0).toNat_lt
        simp only []; omega
    · simp
/-- Frames of the call's own. -/
def AptF (w : World) (base : Nat) (vs : List Value) : Prop := ∀ (i : Nat) (A : Option Addr) (n c : Nat), vs[i]? = some (.slice A n c) → 0 < n → ApartB w base 29 A
def OwnF (w : World) (base : Nat) (v : Value) (fs : List Fr) : Prop := ∃ vs, w.ownsRow base 29 2 v fs.length vs ∧ FrE w vs fs ∧ AptF w base vs
theorem OwnF.nil (w : World) (base : Nat) : OwnF w base (.slice none 0 0) [] := ⟨[], own_nil _ _ _ _, FrE.nil _, fun i A n c h => by simp at h⟩
theorem OwnF.below {w w' : World} {base : Nat} {v : Value} {fs : List Fr} (h : OwnF w base v fs) (hb : Below w.heap.size w w') : OwnF w' base v fs := by
  obtain ⟨vs, h1, h2, h3⟩ := h
  exact ⟨vs, own_below h1 hb, h2.below hb, fun i A n c hi hn => (h3 i A n c hi hn).below hb⟩
theorem OwnF.push {w w' : World} {base : Nat} {v v' : Value} {fs : List Fr} {vs : List Value} {n : Nat} (h1 : w.ownsRow base 29 2 v n vs) (hn : n = fs.length) (h2 : FrE w vs fs) (h3 : AptF w base vs) (k : Int) (A : Option Addr) (c : Nat) (bd : List UInt8) (hr : RdB w A bd) (ha : 0 < bd.length → ApartB w base 29 A) (hk : -9223372036854775808 ≤ k ∧ k ≤ 9223372036854775807)
    (hown : w'.ownsRow base 29 2 v' (n + 1) (vs ++ [.int .i64 k, .slice A bd.length c])) (hg : w.grownBy w' v.ownBlock) : OwnF w' base v' (fs ++ [(k, bd)]) := by
  subst hn
  refine ⟨_, by rw [List.length_append]; exact hown, ?_, ?_⟩
  · refine FrE.snoc ⟨h2.1, fun i hi => ?_⟩ k A c bd (hr.grownA ha h1 hg) hk
    obtain ⟨A', c', h4, h5, h6, h7⟩ := h2.2 i hi
    exact ⟨A', c', h4, h5, h6.grownA (fun hp => h3 _ _ _ _ h5 hp) h1 hg, h7⟩
  · intro i A' n' c' hi hn
    rcases Nat.lt_or_ge i vs.length with hl | hl
    · rw [List.getElem?_append_left hl] at hi
      exact (h3 i A' n' c' hi hn).grown h1 hg
    · rw [List.getElem?_append_right hl] at hi
      rcases hj : i - vs.length with _ | _ | j
      · rw [hj] at hi; simp at hi
      · rw [hj] at hi
        simp only [Nat.zero_add, List.getElem?_cons_succ, List.getElem?_cons_zero, Option.some.injEq, Value.slice.injEq] at hi
        obtain ⟨rfl, rfl, _⟩ := hi
        exact (ha hn).grown h1 hg
      · rw [hj] at hi; simp at hi
theorem NewB.apart {w : World} {base base' : Nat} {A : Option Addr} {n c : Nat} {bs : List UInt8} (h : NewB w base' 5 A n c bs) (hp : 0 < n) : ApartB w base 29 A := by
  obtain ⟨h1, _, h3⟩ := h
  subst h1
  exact own_apart (e' := 5) (h3 hp) (by decide)
set_option maxHeartbeats 4000000 in
set_option maxRecDepth 20000 in
theorem cut_any (A : Option Addr) (cap : Nat) (bs : List UInt8) (w : World) (hr : RdB w A bs) (hcap : bs.length ≤ cap) (hbig : bs.length ≤ 1000000) :
    Calls Try.prog 29 #[.slice A bs.length cap] w fun e w' => ∃ A' c', e = .returned (.tuple #[.slice A' (cutF bs).1.length c', .int .i64 ((cutF bs).2 : Int)]) ∧ OwnF w' w.heap.size (.slice A' (cutF bs).1.length c') (toFr (cutF bs).1) ∧ Below w.heap.size w w' := by
  obtain ⟨rs, hrs⟩ : ∃ rs, rs = cutF bs := ⟨_, rfl⟩
  rw [← hrs]
  have HRS := Lib.hid (show rs = comb [] (cutF bs) by rw [comb_nil, hrs]); clear hrs
  have HR := Lib.hid hr; clear hr
  go_enter Try.func29, Try.ntmps29
  go_wp2_with fail
  go_loopw [0, 4, 5, 6, 7, 8, 9, 10, 11, 12, 13, 14, 15, 16, 17, 18, 19, 20, 21, 22, 23, 24] (fun b o _ _ _ _ _ _ _ _ _ _ _ _ _ _ _ _ _ _ _ _ wr => ∃ (xs : List UInt8) (A1 : Option Addr) (c1 : Nat) (acc : List (Nat × List UInt8)) (A' : Option Addr) (c' : Nat), b = .slice A1 xs.length c1 ∧ o = .slice A' acc.length c' ∧ xs.length ≤ c1 ∧ acc.length + xs.length ≤ 1000000 ∧ Hid (RdB wr A1 xs) ∧ Hid (0 < xs.length → ApartB wr w.heap.size 29 A1) ∧ Hid (OwnF wr w.heap.size (.slice A' acc.length c') (toFr acc)) ∧ Hid (rs = comb acc (cutF xs)) ∧ Hid (Below w.heap.size w wr)) (fun b _ _ _ _ _ _ _ _ _ _ _ _ _ _ _ _ _ _ _ _ _ _ => match b with | .slice _ n _ => n | _ => 0)
  case atStart => exact ⟨bs, A, cap, [], none, 0, rfl, rfl, hcap, by simp; omega, HR.out, (fun hp => HR.out.2.apartOld (by simpa [bv] using hp) (Nat.le_refl _)), OwnF.nil _ _, HRS.out, Below.refl _ _⟩
  case round =>
    obtain ⟨xs, A1, c1, acc, A2, c2, rfl, rfl, hxc, hal, HX, HAP, HO, HC, HB⟩ := hrel
    by_cases hlt : 0 < xs.length
    · have hne : xs ≠ [] := by intro h; rw [h] at hlt; simp at hlt
      have HNE := Lib.hid hne; clear hne
      have hxl : xs.length ≤ 140737488355328 := by omega
      go_wp2_with fail
      refine (split_any A1 c1 xs wr HX.out hxc hxl).mono ?_
      rintro e w2 ⟨⟨A3, n3, c3, A4, n4, c4, rfl, hn3, hn4⟩, hB2⟩
      have HB2 := Lib.hid (belowT HB.out hB2)
      have HO2 := Lib.hid (HO.out.below hB2)
      by_cases he : (splitF xs).err = 0
      · have HST := Lib.hid (comb_step acc xs HNE.out he)
        have HRL := Lib.hid (split_rest xs he)
        have HKB := Lib.hid (splitF_k xs)
        have hc4 := hn4.cap
        have ha3 := fun hp => hn3.apart (base := w.heap.size) hp
        have ha4 := fun hp => hn4.apart (base := w.heap.size) hp
        obtain ⟨rfl, hr3, _⟩ := hn3
        obtain ⟨rfl, hr4, _⟩ := hn4
        rw [he]
        generalize (splitF xs).k = k at *
        generalize (splitF xs).body = bd at *
        generalize (splitF xs).rest = rt at *
        obtain ⟨vs, hvs, hfe, hap⟩ := HO2.out
        obtain ⟨row, hrow⟩ : ∃ row : List Value, row = [.int .i64 (k : Int), .slice A3 bd.length c3] := ⟨_, rfl⟩
        obtain ⟨x2, hx2⟩ : ∃ x2, x2 = w2.alloc (.cells #[.int .i64 (k : Int), .slice A3 bd.length c3] 29 (0, 0)) := ⟨_, rfl⟩
        have hb2 : Below w2.heap.size w2 x2 := by rw [hx2]; exact below_alloc _ _
        have hs2 : x2.heap.size = w2.heap.size + 1 := by rw [hx2]; simp [go_sem]
        have hb3 : Below w2.heap.size w2 (x2.alloc (.cells #[.int .i64 (k : Int), .slice A3 bd.length c3] 29 (0, 0))) := belowT hb2 (below_alloc _ _)
        have HNR := Lib.hid (show RdL (x2.alloc (.cells #[.int .i64 (k : Int), .slice A3 bd.length c3] 29 (0, 0))) (some ⟨w2.heap.size + 1, 0, none⟩) row by rw [hrow, ← hs2]; exact RdL.newC x2 [.int .i64 (k : Int), .slice A3 bd.length c3] _ _)
        have HOW := Lib.hid (own_below hvs hb3)
        have HBA := Lib.hid (belowT HB2.out hb3)
        have HFE := Lib.hid (hfe.below hb3)
        have HAF := Lib.hid (show AptF _ _ _ from fun i A n c hi hn => (hap i A n c hi hn).below hb3)
        have HA3 := Lib.hid (fun hp => (ha3 hp).below hb3)
        have HA4 := Lib.hid (fun hp => (ha4 hp).below hb3)
        have HR3 := Lib.hid (hr3.below hb3)
        have HR4 := Lib.hid (hr4.below hb3)
        have HRL1 := Lib.hid (show row.length = 1 * 2 by rw [hrow]; rfl)
        have HR1 := Lib.hid (show ∀ u ∈ row, u.oneCell' = true by rw [hrow]; intro u hu; simp at hu; rcases hu with rfl | rfl <;> rfl)
        have HROW := Lib.hid hrow
        have HX2 := Lib.hid hx2
        have HTL := Lib.hid (toFr_length acc)
        clear ha3 ha4 hap hb2 hb3 hvs hfe hr3 hr4 hrow hs2 hx2
        have HOW := Lib.hid (show (x2.alloc (.cells #[.int .i64 (k : Int), .slice A3 bd.length c3] 29 (0, 0))).ownsRow w.heap.size 29 2 (.slice A2 acc.length c2) acc.length vs by have := HOW.out; rwa [HTL.out] at this)
        rw [HX2.out] at HOW HNR HBA HR4 HR3 HFE HAF HA3 HA4
        go_wp2_with (at_builtin; go_loud (refine wpList_appV w w.heap.size Try.slF rfl (.tmp 20) (.tmp 22) rfl _ acc.length vs rfl HOW.out (some ⟨w2.heap.size + 1, 0, none⟩) 1 1 row rfl HNR.out HRL1.out HR1.out (acc.length + 1) rfl (vs ++ row) rfl (by omega) (by omega) HBA.out (Nat.le_refl _) ?_); intro A5 c5 w5 hown5 hr5 hB5 hg5 hat5; clear hat5 hr5; have HO5 := Lib.hid hown5; have HB5 := Lib.hid hB5; have HG5 := Lib.hid (show World.grownBy _ w5 (Value.slice A2 acc.length c2).ownBlock from hg5); clear hown5 hB5 hg5)
        have hown' := HO5.out
        rw [HROW.out] at hown'
        have hof := OwnF.push HOW.out HTL.out.symm HFE.out HAF.out (k : Int) A3 c3 bd HR3.out HA3.out (by have := HKB.out; omega) hown' HG5.out
        have hr5 := HR4.out.grownA HA4.out HOW.out HG5.out
        have ha5 := fun hp => (HA4.out hp).grown HOW.out HG5.out
        rw [← toFr_snoc] at hof
        have HOF := Lib.hid hof
        have HR5 := Lib.hid hr5
        have HA5 := Lib.hid ha5
        clear hown' hof hr5 ha5
        go_roundw
        case rel => exact ⟨rt, A4, c4, acc ++ [(k, bd)], A5, c5, rfl, by simp, hc4, by have := HRL.out; simp; omega, HR5.out, HA5.out, (show OwnF w5 w.heap.size (.slice A5 (acc ++ [(k, bd)]).length c5) (toFr (acc ++ [(k, bd)])) by rw [List.length_append]; exact HOF.out), HC.out.trans HST.out, HB5.out⟩
        case measure => have := HRL.out; simp; omega
      · have HE := Lib.hid (cutF_bad xs HNE.out he)
        have hne : ((((splitF xs).err : Nat) : Int) != 0) = true := by simp; exact he
        have HER := Lib.hid he
        generalize (splitF xs).err = er at *
        clear he hn3 hn4
        go_wp2
        go_ret2
        have e1 := HC.out
        rw [HE.out] at e1
        unfold comb at e1
        rw [if_pos HER.out] at e1
        rw [e1]
        exact ⟨none, 0, rfl, OwnF.nil _ _, belowT HB2.out (below_alloc _ _)⟩
    · have hx0 : xs = [] := List.eq_nil_of_length_eq_zero (by omega)
      have e1 := HC.out
      rw [hx0, cutF_nil] at e1
      unfold comb at e1
      rw [if_neg (by simp), List.append_nil] at e1
      have E1 := Lib.hid e1
      clear e1 hx0
      go_wp2
      go_ret2
      rw [E1.out]
      exact ⟨A2, c2, rfl, HO.out, HB.out⟩
end Go.Proofs.Ytckfghdocaojgaa
