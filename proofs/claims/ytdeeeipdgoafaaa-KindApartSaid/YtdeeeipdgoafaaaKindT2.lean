/- Tables of kinds: what one is in memory; New, Len, Get's twin. -/
import Derived.Test.YtdeeeipdgoafaaaKindT1
import Derived.Test.YtdeeeipdgoafaaaKept
import Derived.Deep.RegionLaw
import Derived.Deep.RegionHeld3
import Derived.Deep.DrawnRows
namespace Go.Proofs.Ytdeeeipdgoafaaa
open Go.RowKit
/-- A kind as plain data. -/
abbrev Kd := Int × List Int
/-- Kinds as cells. -/
def KdE (w : World) (vs : List Value) (ks : List Kd) : Prop := vs.length = ks.length * 2 ∧ ∀ i (h : i < ks.length), ∃ A c, vs[i * 2]? = some (.int .i64 ks[i].1) ∧ vs[i * 2 + 1]? = some (.slice A ks[i].2.length c) ∧ RdI w A ks[i].2 ∧ -9223372036854775808 ≤ ks[i].1 ∧ ks[i].1 ≤ 9223372036854775807
theorem KdE.below {w w' : World} {vs : List Value} {ks : List Kd} (h : KdE w vs ks) (hb : Below w.heap.size w w') : KdE w' vs ks :=
  ⟨h.1, fun i hi => by obtain ⟨A, c, h1, h2, h3, h4⟩ := h.2 i hi; exact ⟨A, c, h1, h2, h3.below hb, h4⟩⟩
theorem KdE.nil (w : World) : KdE w [] [] := ⟨rfl, fun i h => by simp at h⟩
theorem KdE.snoc {w : World} {vs : List Value} {ks : List Kd} (h : KdE w vs ks) (S : Int) (A : Option Addr) (c : Nat) (ps : List Int) (hr : RdI w A ps) (hS : -9223372036854775808 ≤ S ∧ S ≤ 9223372036854775807) : KdE w (vs ++ [.int .i64 S, .slice A ps.length c]) (ks ++ [(S, ps)]) := by
  obtain ⟨h1, h2⟩ := h
  refine ⟨by simp [h1]; omega, fun i hi => ?_⟩
  rcases Nat.lt_or_ge i ks.length with hl | hl
  · obtain ⟨A', c', h3, h4, h5, h6⟩ := h2 i hl
    rw [List.getElem_append_left hl]
    exact ⟨A', c', by rw [List.getElem?_append_left (by omega)]; exact h3, by rw [List.getElem?_append_left (by omega)]; exact h4, h5, h6⟩
  · have : i = ks.length := by simp at hi; omega
    subst this
    have e : (ks ++ [(S, ps)])[ks.length]'hi = (S, ps) := by simp
    rw [e]
    exact ⟨A, c, by rw [List.getElem?_append_right (by omega)]; simp [h1], by rw [List.getElem?_append_right (by omega)]; simp [h1], hr, hS⟩
theorem KdE.cons {w : World} {vs : List Value} {ks : List Kd} (h : KdE w vs ks) (S : Int) (A : Option Addr) (c : Nat) (ps : List Int) (hr : RdI w A ps) (hS : -9223372036854775808 ≤ S ∧ S ≤ 9223372036854775807) : KdE w (.int .i64 S :: .slice A ps.length c :: vs) ((S, ps) :: ks) := by
  obtain ⟨h1, h2⟩ := h
  refine ⟨by simp [h1]; omega, fun i hi => ?_⟩
  rcases i with _ | i
  · exact ⟨A, c, rfl, rfl, hr, hS⟩
  · obtain ⟨A', c', h3, h4, h5, h6⟩ := h2 i (by simpa using hi)
    rw [show (i + 1) * 2 = i * 2 + 1 + 1 by omega]
    exact ⟨A', c', by simpa using h3, by simpa using h4, by simpa using h5, by simpa using h6⟩
theorem KdE.cells {w : World} {A : Option Addr} {vs : List Value} {ks : List Kd} (h : KdE w vs ks) (hr : RdL w A vs) (hp : 0 < ks.length) :
    ∃ b off, A = some ⟨b, off, none⟩ ∧ b < w.heap.size ∧ ∀ i (hi : i < ks.length), ∃ A c, w.cell? ⟨b, off + i * 2, none⟩ = some (.int .i64 ks[i].1) ∧ w.cell? ⟨b, off + i * 2 + 1, none⟩ = some (.slice A ks[i].2.length c) ∧ RdI w A ks[i].2 ∧ -9223372036854775808 ≤ ks[i].1 ∧ ks[i].1 ≤ 9223372036854775807 := by
  obtain ⟨h1, h2⟩ := h
  obtain ⟨b, off, e, hc⟩ := hr (by omega)
  refine ⟨b, off, e, ?_, fun i hi => ?_⟩
  · obtain ⟨A', c', h3, _⟩ := h2 0 hp
    have := hc _ _ h3
    exact World.block_lt_of_cell? w _ this
  · obtain ⟨A', c', h3, h4, h5⟩ := h2 i hi
    exact ⟨A', c', hc _ _ h3, by rw [Nat.add_assoc]; exact hc _ _ h4, h5⟩
/-- The lists of kinds lie in rows of ints. -/
def AptI (w : World) (lo : Nat) (vs : List Value) : Prop := ∀ (i : Nat) (A : Option Addr) (n c : Nat), vs[i]? = some (.slice A n c) → 0 < n → TypB w lo 3 A
theorem KeptBut.rdI {F : Nat → Prop} {w w' : World} (h : KeptBut F w w') {A : Option Addr} {zs : List Int} (hr : RdI w A zs) (hF : ∀ b off sp, A = some ⟨b, off, sp⟩ → 0 < zs.length → ¬ F b) : RdI w' A zs :=
  ⟨hr.1, h.rdL hr.2.1 (fun b off sp hA hp => hF b off sp hA (by simpa [iv] using hp)), hr.2.2⟩
theorem KdE.kept {F : Nat → Prop} {w w' : World} {lo : Nat} {vs : List Value} {ks : List Kd} (h : KdE w vs ks) (ha : AptI w lo vs) (hk : KeptBut F w w') (hF : ∀ b cs fr, lo ≤ b → w.heap[b]? = some (.cells cs 3 fr) → ¬ F b) : KdE w' vs ks ∧ AptI w' lo vs := by
  have hf : ∀ (i : Nat) (A : Option Addr) (n c : Nat), vs[i]? = some (.slice A n c) → 0 < n → ∀ b off sp, A = some ⟨b, off, sp⟩ → ¬ F b := fun i A n c hi hn b off sp hA => by
    obtain ⟨h1, cs, fr, h2, _⟩ := ha i A n c hi hn b off sp hA
    exact hF b cs fr h1 h2
  refine ⟨⟨h.1, fun i hi => ?_⟩, fun i A n c hi hn => (ha i A n c hi hn).kept hk (hf i A n c hi hn)⟩
  obtain ⟨A, c, h1, h2, h3, h4⟩ := h.2 i hi
  exact ⟨A, c, h1, h2, hk.rdI h3 (fun b off sp hA hp => hf _ A _ c h2 hp b off sp hA), h4⟩
/-- A table of kinds. -/
structure Tab (w : World) (g lo : Nat) (A : Option Addr) (c : Nat) (ks : List Kd) (vs : List Value) : Prop where
  obj : w.heap[g]? = some (.cells #[.slice A ks.length c] 63 (0, 0))
  own : w.ownsRow (g + 1) 24 2 (.slice A ks.length c) ks.length vs
  els : KdE w vs ks
  apt : AptI w lo vs
  lo_ : g < lo
def TabF (g : Nat) (A : Option Addr) (k : Nat) : Prop := k = g ∨ A.map (·.block) = some k
theorem ownBlock_slice (A : Option Addr) (n c : Nat) : (Value.slice A n c).ownBlock = A.map (·.block) := by cases A <;> rfl
theorem Tab.lt {w : World} {g lo : Nat} {A : Option Addr} {c : Nat} {ks : List Kd} {vs : List Value} (h : Tab w g lo A c ks vs) : g < w.heap.size := (Array.getElem?_eq_some_iff.1 h.obj).1
/-- What does not write the table's blocks leaves it. -/
theorem Tab.kept {F : Nat → Prop} {w w' : World} {g lo : Nat} {A : Option Addr} {c : Nat} {ks : List Kd} {vs : List Value} (h : Tab w g lo A c ks vs) (hk : KeptBut F w w') (h1 : ¬ F g) (h2 : ∀ b, A.map (·.block) = some b → ¬ F b) (h3 : ∀ b cs fr, lo ≤ b → w.heap[b]? = some (.cells cs 3 fr) → ¬ F b) : Tab w' g lo A c ks vs := by
  obtain ⟨e1, e2⟩ := h.els.kept h.apt hk h3
  exact ⟨hk.heap h.obj h1, hk.own h.own (fun b hb => h2 b (by rwa [ownBlock_slice] at hb)), e1, e2, h.lo_⟩
theorem Tab.below {w w' : World} {g lo : Nat} {A : Option Addr} {c : Nat} {ks : List Kd} {vs : List Value} (h : Tab w g lo A c ks vs) (hb : Below w.heap.size w w') : Tab w' g lo A c ks vs :=
  h.kept (F := fun _ => False) (kept_of_below hb) (fun h => h) (fun _ _ h => h) (fun _ _ _ _ _ h => h)
theorem Tab.cell {w : World} {g lo : Nat} {A : Option Addr} {c : Nat} {ks : List Kd} {vs : List Value} (h : Tab w g lo A c ks vs) : w.cell? ⟨g, 0, none⟩ = some (.slice A ks.length c) := by rw [cell_of_row _ _ _ _ _ _ h.obj]; rfl
theorem tnew_any (w : World) : Calls Try.prog 22 #[] w fun e w' => e = .returned (.pointer (some ⟨w.heap.size, 0, none⟩)) ∧ Tab w' w.heap.size (w.heap.size + 1) none 0 [] [] ∧ w.heap.size < w'.heap.size ∧ Below w.heap.size w w' := by
  go_enter Try.func22, Try.ntmps22
  go_wp2
  go_ret
  exact ⟨rfl, ⟨heap_alloc_new w _, own_nil _ _ _ _, KdE.nil _, fun i A n c h => by simp at h, Nat.lt_succ_self _⟩, by simp [go_sem], below_alloc _ _⟩
theorem tlen_any {w : World} {g lo : Nat} {A : Option Addr} {c : Nat} {ks : List Kd} {vs : List Value} (h : Tab w g lo A c ks vs) :
    Calls Try.prog 20 #[.pointer (some ⟨g, 0, none⟩)] w fun e w' => e = .returned (.int .i64 (ks.length : Int)) ∧ w = w' := by
  have hc := h.cell
  go_enter Try.func20, Try.ntmps20
  go_wp2
  go_ret
  exact ⟨rfl, rfl⟩
set_option maxHeartbeats 1000000 in
theorem twin_any (S : Int) (A : Option Addr) (cap : Nat) (ps : List Int) (w : World) (hr : RdI w A ps) (hl : ps.length * 8 ≤ 140737488351232) :
    Calls Try.prog 35 #[.agg #[.int .i64 S, .slice A ps.length cap]] w fun e w' => ∃ A' c', e = .returned (.agg #[.int .i64 S, .slice A' ps.length c']) ∧ w'.ownsRow w.heap.size 3 1 (.slice A' ps.length c') ps.length (iv .i64 ps) ∧ RdI w' A' ps ∧ Below w.heap.size w w' := by
  go_enter Try.func35, Try.ntmps35
  go_wp2_with fail
  generalize hw2 : (w.alloc _).alloc _ = w2
  have hB0 : Below w.heap.size w w2 := by subst hw2; exact ((Below.refl _ _).alloc (Nat.le_refl _) _).alloc (by simp) _
  have hc0 : w2.cell? ⟨w.heap.size, 0, none⟩ = some (.int .i64 S) := by rw [← hw2]; simp [go_sem]
  have hc1 : w2.cell? ⟨w.heap.size, 1, none⟩ = some (.slice A ps.length cap) := by rw [← hw2]; simp [go_sem]
  have hd0 : w2.heap[w.heap.size + 1]? = some (.cells #[.int .i64 0, .slice none 0 0] 24 (0, 0)) := by rw [← hw2]; exact heap_alloc2_new _ _ _
  have HSZ : Hid (w2.heap.size = w.heap.size + 2) := by rw [← hw2]; show _ = _; simp
  clear hw2
  have hr2 := hr.below hB0
  have hzc : w2.cell? ⟨w.heap.size + 1, 0, none⟩ = some (.int .i64 0) := by rw [cell_of_row _ _ _ _ _ _ hd0]; rfl
  have hzc1 : w2.cell? ⟨w.heap.size + 1, 1, none⟩ = some (.slice none 0 0) := by rw [cell_of_row _ _ _ _ _ _ hd0]; rfl
  have hzf := fun j => frozen_of_row w2 (w.heap.size + 1) j _ _ hd0
  go_region_held_law (fun w' => w'.cell? ⟨w.heap.size, 0, none⟩ = some (.int .i64 S) ∧ w'.cell? ⟨w.heap.size, 1, none⟩ = some (.slice A ps.length cap)) (first | exact ⟨hc0, hc1⟩ | exact ⟨hk0, hk1⟩ | go_keep) ((refine step_appV w2 w2.heap.size Try.slI rfl (.tmp 5) (.tmp 7) rfl _ 0 [] rfl (own_empty w2 w2.heap.size _ _ (Nat.le_refl _)) A ps.length cap (iv .i64 ps) rfl (hr2.below ((Below.refl _ _).drew.alloc (Nat.le_refl _) _)).2.1 (by rw [iv_length, Nat.mul_one]) (iv_one _ _) ps.length (by omega) (iv .i64 ps) rfl (by omega) (by omega) ((Below.refl _ _).drew.alloc (Nat.le_refl _) _) (Nat.le_refl _) ?_; intro A3 c3 w3 hown3 hr3 hB3 hg3 hat3; clear hg3 hat3; have hk0 := cell_below hB3 hc0; have hk1 := cell_below hB3 hc1; have hz0 := cell_below hB3 hzc; have hz1 := cell_below hB3 hzc1; have hzg : w3.heap[w.heap.size + 1]? = some (.cells #[.int .i64 0, .slice none 0 0] 24 (0, 0)) := (hB3.block _ (by have := HSZ.out; omega)).trans hd0; have hzf3 := fun j => frozen_of_row w3 (w.heap.size + 1) j _ _ hzg))
  clear hc0 hc1 hk0 hk1 hzc hzc1 hz0 hz1 hzf
  have hB4 : Below w.heap.size w w3 := hB0.trans (hB3.mono hB0.size)
  have hB5 := (hB4.setCell (p := ⟨w.heap.size + 1, 0, none⟩) (by simp) (.int .i64 S)).setCell (p := ⟨w.heap.size + 1, 1, none⟩) (by simp) (.slice A3 ps.length c3)
  have hown5 : ((w3.setCell ⟨w.heap.size + 1, 0, none⟩ (.int .i64 S)).setCell ⟨w.heap.size + 1, 1, none⟩ (.slice A3 ps.length c3)).ownsRow w2.heap.size 3 1 (.slice A3 ps.length c3) ps.length (iv .i64 ps) :=
    ownsRow_setCell_below (ownsRow_setCell_below hown3 (by have := HSZ.out; simp; omega) _) (by have := HSZ.out; simp; omega) _
  have hg1 := heap_setCell_same w3 (w.heap.size + 1) 0 _ _ (.int .i64 S) hzg
  have hg2 := heap_setCell_same _ (w.heap.size + 1) 1 _ _ (.slice A3 ps.length c3) hg1
  generalize ((w3.setCell ⟨w.heap.size + 1, 0, none⟩ (.int .i64 S)).setCell ⟨w.heap.size + 1, 1, none⟩ (.slice A3 ps.length c3)) = w5 at *
  have hr5 : RdI w5 A3 ps := ⟨hr.1, own_rd hown5, hr.2.2⟩
  have hq0 : w5.cell? ⟨w.heap.size + 1, 0, none⟩ = some (.int .i64 S) := by rw [cell_of_row _ _ _ _ _ _ hg2]; rfl
  have hq1 : w5.cell? ⟨w.heap.size + 1, 1, none⟩ = some (.slice A3 ps.length c3) := by rw [cell_of_row _ _ _ _ _ _ hg2]; rfl
  go_wp2
  exact bodyPost_ret (v := .agg #[.int .i64 S, .slice A3 ps.length c3]) (by simp [results, Try.results35, go_sem, hq0, hq1]) rfl ⟨A3, c3, rfl, own_le hown5 (by have := HSZ.out; omega), hr5, hB5⟩

end Go.Proofs.Ytdeeeipdgoafaaa
