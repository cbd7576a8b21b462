/- What a call may write: some blocks, and new ones. No program in sight. -/
import Derived.Test.YtdeeeipdgoafaaaApart
import Derived.Test.YtdeeeipdgoafaaaOpen
namespace Go.Proofs.Ytdeeeipdgoafaaa
open Go.RowKit
/-- All blocks but some are as they were. -/
structure KeptBut (F : Nat → Prop) (w w' : World) : Prop where
  os : w'.os = w.os
  tape : w'.tape = w.tape
  output : w'.output = w.output
  size : w.heap.size ≤ w'.heap.size
  block : ∀ k, k < w.heap.size → ¬ F k → w'.heap[k]? = w.heap[k]?
section
variable {F G : Nat → Prop} {w w' w1 : World}
theorem KeptBut.refl (w : World) : KeptBut F w w := ⟨rfl, rfl, rfl, Nat.le_refl _, fun _ _ _ => rfl⟩
theorem KeptBut.trans (h : KeptBut F w w1) (h' : KeptBut G w1 w') (hG : ∀ k, k < w.heap.size → G k → F k) : KeptBut F w w' :=
  ⟨h'.os.trans h.os, h'.tape.trans h.tape, h'.output.trans h.output, Nat.le_trans h.size h'.size, fun k hk hF => (h'.block k (Nat.lt_of_lt_of_le hk h.size) (fun hg => hF (hG k hk hg))).trans (h.block k hk hF)⟩
theorem KeptBut.mono (h : KeptBut F w w') (hF : ∀ k, k < w.heap.size → F k → G k) : KeptBut G w w' := ⟨h.os, h.tape, h.output, h.size, fun k hk hg => h.block k hk (fun hf => hg (hF k hk hf))⟩
theorem KeptBut.below {B : Nat} (h : KeptBut F w w') (hB : ∀ k, F k → B ≤ k) (hw : B ≤ w.heap.size) : Below B w w' := ⟨h.os, h.tape, h.output, h.size, fun k hk => h.block k (by omega) (fun hf => by have := hB k hf; omega)⟩
theorem kept_of_below (h : Below w.heap.size w w') : KeptBut F w w' := ⟨h.os, h.tape, h.output, h.size, fun k hk _ => h.block k hk⟩
theorem kept_of_belowB {B : Nat} (h : Below B w w') : KeptBut (fun k => B ≤ k) w w' := ⟨h.os, h.tape, h.output, h.size, fun k _ hf => h.block k (by omega)⟩
theorem kept_of_grown {r : Option Nat} (h : w.grownBy w' r) : KeptBut (fun k => some k = r) w w' := ⟨h.os, h.tape, h.output, h.size, fun k hk hf => h.block k hk hf⟩
theorem kept_setCell (w : World) (a : Addr) (v : Value) : KeptBut (fun k => k = a.block) w (w.setCell a v) := ⟨rfl, rfl, rfl, by simp, fun k _ hf => heap_setCell_other _ _ _ _ hf⟩
theorem kept_drewN (w : World) (n : Nat) : KeptBut F w (w.drewN n) := ⟨rfl, rfl, rfl, Nat.le_refl _, fun _ _ _ => rfl⟩
theorem kept_drew (w : World) : KeptBut F w w.drew := ⟨rfl, rfl, rfl, Nat.le_refl _, fun _ _ _ => rfl⟩
theorem KeptBut.cell (h : KeptBut F w w') {b o : Nat} {v : Value} (hc : w.cell? ⟨b, o, none⟩ = some v) (hF : ¬ F b) : w'.cell? ⟨b, o, none⟩ = some v :=
  (World.cell?_of_block (a := ⟨b, o, none⟩) (h.block b (World.block_lt_of_cell? w _ hc) hF)).trans hc
theorem KeptBut.heap (h : KeptBut F w w') {b : Nat} {o : Obj} (hc : w.heap[b]? = some o) (hF : ¬ F b) : w'.heap[b]? = some o :=
  (h.block b (Array.getElem?_eq_some_iff.1 hc).1 hF).trans hc
theorem KeptBut.rdL (h : KeptBut F w w') {A : Option Addr} {vs : List Value} (hr : RdL w A vs) (hF : ∀ b off sp, A = some ⟨b, off, sp⟩ → 0 < vs.length → ¬ F b) : RdL w' A vs := by
  intro hp
  obtain ⟨b, off, rfl, hc⟩ := hr hp
  exact ⟨b, off, rfl, fun j u hj => h.cell (hc j u hj) (hF b off none rfl hp)⟩
theorem KeptBut.own (h : KeptBut F w w') {base n size : Nat} {e : TypeId} {v : Value} {xs : List Value} (ho : w.ownsRow base e size v n xs) (hF : ∀ b, v.ownBlock = some b → ¬ F b) : w'.ownsRow base e size v n xs := by
  refine ⟨ho.1, ?_⟩
  rcases ho.2 with h1 | ⟨g, cap, cur, rfl, hb, hg, r⟩
  · exact .inl h1
  · exact .inr ⟨g, cap, cur, rfl, hb, h.heap hg (hF g rfl), r⟩
end
/-- The address lies in a block of elements e, from a block's number on. -/
def TypB (w : World) (lo : Nat) (e : TypeId) (A : Option Addr) : Prop := ∀ b off sp, A = some ⟨b, off, sp⟩ → lo ≤ b ∧ ∃ cs fr, w.heap[b]? = some (.cells cs e fr) ∧ fr = (0, 0)
theorem own_typ {w : World} {base n size c : Nat} {e : TypeId} {A : Option Addr} {xs : List Value} (h : w.ownsRow base e size (.slice A n c) n xs) : TypB w base e A := by
  intro b off sp hA
  rcases h.2 with ⟨hv, _⟩ | ⟨g, cap, cur, hv, hb, hh, _⟩
  · injection hv with h1; rw [h1] at hA; cases hA
  · injection hv with h1
    rw [h1] at hA
    simp only [Option.some.injEq, Addr.mk.injEq] at hA
    obtain ⟨rfl, _, _⟩ := hA
    exact ⟨hb, cur, (0, 0), hh, rfl⟩
theorem TypB.kept {w w' : World} {lo : Nat} {e : TypeId} {A : Option Addr} {F : Nat → Prop} (h : TypB w lo e A) (hk : KeptBut F w w') (hF : ∀ b off sp, A = some ⟨b, off, sp⟩ → ¬ F b) : TypB w' lo e A := fun b off sp hA => by
  obtain ⟨h1, cs, fr, h2, h3⟩ := h b off sp hA
  exact ⟨h1, cs, fr, hk.heap h2 (hF b off sp hA), h3⟩
theorem TypB.le {w : World} {lo lo' : Nat} {e : TypeId} {A : Option Addr} (h : TypB w lo e A) (hl : lo' ≤ lo) : TypB w lo' e A := fun b off sp hA => by
  obtain ⟨h1, h2⟩ := h b off sp hA
  exact ⟨Nat.le_trans hl h1, h2⟩
theorem TypB.lt {w : World} {lo b off : Nat} {e : TypeId} {sp} (h : TypB w lo e (some ⟨b, off, sp⟩)) : lo ≤ b ∧ b < w.heap.size := by
  obtain ⟨h1, cs, fr, h2, _⟩ := h b off sp rfl
  exact ⟨h1, (Array.getElem?_eq_some_iff.1 h2).1⟩
theorem TypB.apart {w : World} {lo base : Nat} {e e' : TypeId} {A : Option Addr} (h : TypB w lo e A) (hne : e ≠ e') : ApartB w base e' A := fun b off sp hA => by
  obtain ⟨_, cs, fr, h2, _⟩ := h b off sp hA
  exact .inr ⟨cs, e, fr, h2, hne⟩
/-- A block of other elements is another block. -/
theorem TypB.ne {w : World} {lo b off g : Nat} {e e' : TypeId} {sp} {cs : Array Value} {fr : Nat × Nat} (h : TypB w lo e (some ⟨b, off, sp⟩)) (hg : w.heap[g]? = some (.cells cs e' fr)) (hne : e ≠ e') : b ≠ g := by
  rintro rfl
  obtain ⟨_, cs', fr', h2, _⟩ := h b off sp rfl
  rw [hg] at h2
  simp only [Option.some.injEq, Obj.cells.injEq] at h2
  exact hne h2.2.1.symm
end Go.Proofs.Ytdeeeipdgoafaaa
