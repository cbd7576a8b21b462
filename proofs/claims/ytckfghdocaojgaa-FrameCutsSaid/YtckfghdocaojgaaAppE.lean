/- append([]byte{}, bytes...): the empty slice's own cells are never read. -/
import Derived.Test.YtckfghdocaojgaaSame
namespace Go.Proofs.Ytckfghdocaojgaa
open Go.RowKit
/-- Bytes that are new: read, and, where there are any, of the call's own. -/
def NewB (w : World) (base : Nat) (e : TypeId) (A : Option Addr) (n c : Nat) (bs : List UInt8) : Prop := n = bs.length ∧ RdB w A bs ∧ (0 < n → OwnB w base e (.slice A n c) bs)
theorem NewB.below {w w' : World} {base : Nat} {e : TypeId} {A : Option Addr} {n c : Nat} {bs : List UInt8} (h : NewB w base e A n c bs) (hb : Below w.heap.size w w') : NewB w' base e A n c bs := ⟨h.1, h.2.1.below hb, fun hp => (h.2.2 hp).below hb⟩
theorem NewB.le {w : World} {base base' : Nat} {e : TypeId} {A : Option Addr} {n c : Nat} {bs : List UInt8} (h : NewB w base e A n c bs) (hb : base' ≤ base) : NewB w base' e A n c bs := ⟨h.1, h.2.1, fun hp => own_le (h.2.2 hp) hb⟩
theorem NewB.nil (w : World) (base : Nat) (e : TypeId) (A : Option Addr) (c : Nat) : NewB w base e A 0 c [] := ⟨rfl, ⟨by simp, fun h => by simp [bv] at h⟩, fun h => by omega⟩
theorem NewB.setCell {w : World} {base : Nat} {e : TypeId} {A : Option Addr} {n c : Nat} {bs : List UInt8} (h : NewB w base e A n c bs) {a : Addr} (ha : a.block < base) (u : Value) : NewB (w.setCell a u) base e A n c bs := by
  have ho : 0 < n → OwnB (w.setCell a u) base e (.slice A n c) bs := fun hp => ownsRow_setCell_below (h.2.2 hp) ha u
  refine ⟨h.1, ?_, ho⟩
  rcases Nat.eq_zero_or_pos n with h0 | h0
  · have : bs = [] := List.eq_nil_of_length_eq_zero (by rw [← h.1]; exact h0)
    subst this
    exact ⟨by simp, fun h => by simp [bv] at h⟩
  · exact (ho h0).rdA
/-- A result's cell of two, laid anew. -/
theorem two_cells {w : World} {g : Nat} {x y u v : Value} {t : TypeId} (h : w.heap[g]? = some (.cells #[x, y] t (0, 0))) :
    ((w.setCell ⟨g, 0, none⟩ u).setCell ⟨g, 1, none⟩ v).cell? ⟨g, 0, none⟩ = some u ∧ ((w.setCell ⟨g, 0, none⟩ u).setCell ⟨g, 1, none⟩ v).cell? ⟨g, 1, none⟩ = some v := by
  have h1 := heap_setCell_same w g 0 _ _ u h
  have h2 := heap_setCell_same _ g 1 _ _ v h1
  exact ⟨by rw [cell_of_row _ _ _ _ _ _ h2]; rfl, by rw [cell_of_row _ _ _ _ _ _ h2]; rfl⟩
theorem run_appE {P : Program} {t e : TypeId} (hT : SlT P t e (.int .u8 0) 1 1) (w : World) (ty : TypeId) (a0 : Addr) (A : Option Addr) (m c : Nat) (news : List UInt8) (hm : m = news.length) (hr : RdB w A news) (hl : m ≤ 140737488355328) :
    ∃ A' c' w', (Builtin.append_ #[t, t] ty #[.slice (some a0) 0 0, .slice A m c]).run P w = .ok (.slice A' m c') w' ∧ NewB w' w.heap.size e A' m c' news ∧ Below w.heap.size w w' := by
  obtain ⟨i, hi, hz⟩ := Option.map_eq_some_iff.1 hT.inf
  simp only [Prod.mk.injEq] at hz
  obtain ⟨hz0, hz1, hz2⟩ := hz
  subst hm
  rcases Nat.eq_zero_or_pos news.length with h0 | h0
  · obtain rfl : news = [] := List.eq_nil_of_length_eq_zero h0
    refine ⟨some a0, 0, w, ?_, NewB.nil _ _ _ _ _, Below.refl _ _⟩
    have hl0 : ∀ (x : Addr), (loadCells x 0).run P w = .ok #[] w := fun x => by simpa using run_loadCells_list (P := P) w x [] (by simp)
    rcases A with _ | ad <;> simp [Builtin.append_, run_underlying hT.und, sizeOf, typeInfo, hi, Builtin.lenOf, Builtin.firstCells, storeCells, hl0]
  · obtain ⟨b, off, rfl, hc⟩ := hr.2 (by rwa [bv_length])
    have hn : ∀ j u, (bv news)[j]? = some u → w.cell? ((⟨b, off, none⟩ : Addr).add j) = some u := rd_news hr.2
    have hg := run_append_grow (P := P) w t ty e i _ hT.und hi hz0 a0 0 0 [] (by simp) (by simp) ⟨b, off, none⟩ news.length c (bv news) (by rw [hz1, bv_length, Nat.mul_one]) hn (by omega) (by omega) (by rw [Nat.zero_add, nextslicecap_zero h0, hz2]; omega)
    have hnn := run_append_nil (P := P) w t ty e i _ hT.und hi hz0 ⟨b, off, none⟩ news.length c (bv news) (by rw [hz1, bv_length, Nat.mul_one]) hn h0 (by omega) (by rw [hz2]; omega)
    obtain ⟨v', w', hrun, h2, h3, _, _⟩ := run_app (P := P) w w.heap.size hT ty (.slice none 0 0) 0 [] (own_nil _ _ _ _) (some ⟨b, off, none⟩) news.length c (bv news) hr.2 (by rw [bv_length, Nat.mul_one]) (bv_one _) (by omega) (by omega) (Nat.le_refl _)
    rw [hnn] at hrun
    simp only [Result.ok.injEq] at hrun
    obtain ⟨hv, hw⟩ := hrun
    simp only [Nat.zero_add, List.nil_append] at hg h2
    refine ⟨some ⟨w.heap.size, 0, none⟩, grownCap w news.length 0 e, w', ?_, ?_, ?_⟩
    · rw [hg, ← hw]
      simp
    · rw [← hv] at h2
      exact ⟨rfl, ⟨hr.1, own_rd h2⟩, fun _ => h2⟩
    · exact ⟨h3.os, h3.tape, h3.output, h3.size, fun k hk => h3.block k hk (by simp [Value.ownBlock])⟩
section
variable {P : Program} {w : World} {ops : Array Oper} {rest : List Oper} {o : Oper} {a : Act} {Q : Exit → Act → World → Prop}
theorem wp_appE {K : Act → World → Prop} {t e : TypeId} (hT : SlT P t e (.int .u8 0) 1 1) (s x : Operand)
    (ho : o.op = .call { callee := .builtin .append, args := #[s, x], argTypes := #[t, t] }) (a0 : Addr) (hs : a.eval s = .slice (some a0) 0 0)
    (A : Option Addr) (m c : Nat) (news : List UInt8) (hx : a.eval x = .slice A m c) (hm : m = news.length) (hr : RdB w A news) (hl : m ≤ 140737488355328)
    (h : ∀ A' c' w', NewB w' w.heap.size e A' m c' news → Below w.heap.size w w' → K (a.put o.dst (.slice A' m c')) w') :
    o.wp P a w K Q := by
  obtain ⟨A', c', w', hrun, h2, h3⟩ := run_appE hT w o.type a0 A m c news hm hr hl
  unfold Oper.wp execOp
  simp only [ho, resolve, invoke, builtin, Sem.run_bind, Sem.run_pure, Result.andThen_ok, List.map_toArray, List.map_cons, List.map_nil, hs, hx, hrun]
  exact h A' c' w' h2 h3
theorem wpList_appE {t e : TypeId} (hT : SlT P t e (.int .u8 0) 1 1) (hw : Region.wanted o (yielded ops a.tmps) = true) (s x : Operand)
    (ho : o.op = .call { callee := .builtin .append, args := #[s, x], argTypes := #[t, t] }) (a0 : Addr) (hs : a.eval s = .slice (some a0) 0 0)
    (A : Option Addr) (m c : Nat) (news : List UInt8) (hx : a.eval x = .slice A m c) (hm : m = news.length) (hr : RdB w A news) (hl : m ≤ 140737488355328)
    (h : ∀ A' c' w', NewB w' w.heap.size e A' m c' news → Below w.heap.size w w' → wpList P ops Q rest (a.put o.dst (.slice A' m c')) w') :
    wpList P ops Q (o :: rest) a w := by
  refine wpList_step fun K hK => ?_
  rw [if_pos hw]
  exact wp_appE hT s x ho a0 hs A m c news hx hm hr hl fun A' c' w' h1 h2 => hK _ _ (h A' c' w' h1 h2)
theorem step_appE {K : Act → World → Prop} {E : Prop} {t e : TypeId} (hT : SlT P t e (.int .u8 0) 1 1) (hw : Region.wanted o (yielded ops a.tmps) = true) (s x : Operand)
    (ho : o.op = .call { callee := .builtin .append, args := #[s, x], argTypes := #[t, t] }) (a0 : Addr) (hs : a.eval s = .slice (some a0) 0 0)
    (A : Option Addr) (m c : Nat) (news : List UInt8) (hx : a.eval x = .slice A m c) (hm : m = news.length) (hr : RdB w A news) (hl : m ≤ 140737488355328)
    (h : ∀ A' c' w', NewB w' w.heap.size e A' m c' news → Below w.heap.size w w' → K (a.put o.dst (.slice A' m c')) w') :
    if Region.wanted o (yielded ops a.tmps) = true then Oper.wp P o a w K Q else E := by
  rw [if_pos hw]
  exact wp_appE hT s x ho a0 hs A m c news hx hm hr hl h
end
end Go.Proofs.Ytckfghdocaojgaa
