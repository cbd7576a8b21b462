/- Memory that a row of the call's own does not touch when it grows: older than the call, or of another type. No program in sight. -/
import Derived.Test.YtdeeeipdgoafaaaMem
import Derived.Deep.AppendLies
namespace Go.Proofs.Ytdeeeipdgoafaaa
open Go.RowKit
/-- The address lies in a block older than the base, or of other elements than e. -/
def ApartB (w : World) (base : Nat) (e : TypeId) (A : Option Addr) : Prop := ∀ b off sp, A = some ⟨b, off, sp⟩ → b < base ∨ ∃ cs e' fr, w.heap[b]? = some (.cells cs e' fr) ∧ e' ≠ e
section
variable {w w' : World} {base n size : Nat} {e : TypeId} {v : Value} {xs : List Value} {A : Option Addr}
theorem apart_row (hown : w.ownsRow base e size v n xs) (ha : ApartB w base e A) {b off : Nat} {sp} (hA : A = some ⟨b, off, sp⟩) : v.ownBlock ≠ some b := by
  intro hv
  rcases hown.2 with ⟨rfl, _⟩ | ⟨g, cap, cur, rfl, hg, hh, _⟩
  · simp [Value.ownBlock] at hv
  · have hgb : g = b := by simpa [Value.ownBlock] using hv
    subst hgb
    rcases ha _ _ _ hA with h | ⟨cs, e', fr, h, hne⟩
    · omega
    · rw [hh] at h
      simp only [Option.some.injEq, Obj.cells.injEq] at h
      exact hne h.2.1.symm
theorem ApartB.grown (ha : ApartB w base e A) (hown : w.ownsRow base e size v n xs) (hg : w.grownBy w' v.ownBlock) : ApartB w' base e A := by
  intro b off sp hA
  rcases ha b off sp hA with h | ⟨cs, e', fr, h, hne⟩
  · exact .inl h
  · refine .inr ⟨cs, e', fr, ?_, hne⟩
    rw [hg.block b (Array.getElem?_eq_some_iff.1 h).1 (fun h2 => apart_row hown ha hA h2.symm)]
    exact h
theorem ApartB.below (ha : ApartB w base e A) (hb : Below w.heap.size w w') : ApartB w' base e A := by
  intro b off sp hA
  rcases ha b off sp hA with h | ⟨cs, e', fr, h, hne⟩
  · exact .inl h
  · exact .inr ⟨cs, e', fr, (hb.block b (Array.getElem?_eq_some_iff.1 h).1).trans h, hne⟩
theorem ApartB.none : ApartB w base e none := fun _ _ _ h => by cases h
theorem ApartB.old {b off : Nat} {sp} (h : b < base) : ApartB w base e (some ⟨b, off, sp⟩) := fun b' _ _ hA => by
  simp only [Option.some.injEq, Addr.mk.injEq] at hA
  exact .inl (hA.1 ▸ h)
theorem RdL.apartOld {vs : List Value} (h : RdL w A vs) (hp : 0 < vs.length) (hb : w.heap.size ≤ base) : ApartB w' base e A := by
  obtain ⟨b, off, rfl, hc⟩ := h hp
  have := hc 0 vs[0] (List.getElem?_eq_getElem hp)
  exact ApartB.old (Nat.lt_of_lt_of_le (World.block_lt_of_cell? w _ this) hb)
theorem RdL.grownA {vs : List Value} (h : RdL w A vs) (ha : 0 < vs.length → ApartB w base e A) (hown : w.ownsRow base e size v n xs) (hg : w.grownBy w' v.ownBlock) : RdL w' A vs := by
  intro hp
  obtain ⟨b, off, rfl, hc⟩ := h hp
  refine ⟨b, off, rfl, fun j u hj => ?_⟩
  have h1 := hc j u hj
  have hlt := World.block_lt_of_cell? w _ h1
  rw [hg.cell_far ⟨b, off + j, none⟩ hlt (fun h2 => apart_row hown (ha hp) rfl h2.symm)]
  exact h1
theorem RdB.grownA {bs : List UInt8} (h : RdB w A bs) (ha : 0 < bs.length → ApartB w base e A) (hown : w.ownsRow base e size v n xs) (hg : w.grownBy w' v.ownBlock) : RdB w' A bs :=
  ⟨h.1, h.2.grownA (fun hp => ha (by simpa [bv] using hp)) hown hg⟩
/-- What is owned is apart from rows of other elements. -/
theorem own_apart {base' size' n' : Nat} {e' : TypeId} {c' : Nat} {ys : List Value} (hown : w.ownsRow base' e' size' (.slice A n' c') n' ys) (hne : e' ≠ e) : ApartB w base e A := by
  intro b off sp hA
  rcases hown.2 with ⟨hv, _⟩ | ⟨g, cap, cur, hv, _, hh, _⟩
  · injection hv with h1; rw [h1] at hA; cases hA
  · injection hv with h1
    rw [h1] at hA
    simp only [Option.some.injEq, Addr.mk.injEq] at hA
    obtain ⟨rfl, _, _⟩ := hA
    exact .inr ⟨cur, e', (0, 0), hh, hne⟩
theorem own_block {v : Value} {b : Nat} (h : w.ownsRow base e size v n xs) (hb : v.ownBlock = some b) : ∃ cur, w.heap[b]? = some (.cells cur e (0, 0)) := by
  rcases h.2 with ⟨rfl, _⟩ | ⟨g, cap, cur, rfl, _, hh, _⟩
  · simp [Value.ownBlock] at hb
  · have : g = b := by simpa [Value.ownBlock] using hb
    subst this
    exact ⟨cur, hh⟩
/-- Two rows of other elements are no one row. -/
theorem own_ne {base' size' n' : Nat} {e' : TypeId} {v' : Value} {ys : List Value} (h : w.ownsRow base e size v n xs) (h' : w.ownsRow base' e' size' v' n' ys) (hne : e ≠ e') : v.ownBlock = none ∨ v.ownBlock ≠ v'.ownBlock := by
  rcases hb : v.ownBlock with _ | b
  · exact .inl rfl
  · refine .inr fun he => ?_
    obtain ⟨c1, h1⟩ := own_block h hb
    obtain ⟨c2, h2⟩ := own_block h' he.symm
    rw [h1] at h2
    simp only [Option.some.injEq, Obj.cells.injEq] at h2
    exact hne h2.2.1
theorem own_two {base' size' n' : Nat} {e' : TypeId} {v' : Value} {ys : List Value} (h : w.ownsRow base e size v n xs) (h' : w.ownsRow base' e' size' v' n' ys) (hne : e ≠ e') (hg : w.grownBy w' v'.ownBlock) : w'.ownsRow base e size v n xs := h.kept hg (own_ne h h' hne)
end
theorem RdL.newC (w : World) (vs : List Value) (t : TypeId) (fr : Nat × Nat) : RdL (w.alloc (.cells vs.toArray t fr)) (some ⟨w.heap.size, 0, none⟩) vs := fun _ => ⟨_, _, rfl, fun j v hj => by
  rw [World.cell?_alloc_mark, Nat.zero_add]; simpa using hj⟩
end Go.Proofs.Ytdeeeipdgoafaaa
