/- Rows of the call's own: what is appended, what is read of them. No program in sight. -/
import Derived.Test.YtdeeeipdgoafaaaBase
import Derived.Maps.AppendAt
import Derived.OwnWalk
import Derived.Laws.MakeOwn
import Derived.Laws.OwnMore
import Derived.Laws.BytesArg
import Derived.Deep.Draws
import Derived.OpenShut
namespace Go.Proofs.Ytdeeeipdgoafaaa
open Go.RowKit

/-- What a program must say of a slice type t of elements e. -/
structure SlT (P : Program) (t e : TypeId) (z : Value) (size bytes : Nat) : Prop where
  und : P.underlying t = some (.slice e)
  inf : (P.info? e).map (fun i => (i.zero, i.size, i.bytes)) = some (some z, size, bytes)
  zer : z.cells.size = size
  pos : 0 < size

theorem own_rd {w : World} {base n size : Nat} {e : TypeId} {A : Option Addr} {c : Nat} {xs : List Value} (h : w.ownsRow base e size (.slice A n c) n xs) : RdL w A xs := by
  intro hp
  have hn : 0 < n := by
    rcases Nat.eq_zero_or_pos n with h0 | h0
    · subst h0; have := h.1; omega
    · exact h0
  obtain ⟨g, hA⟩ : ∃ g, A = some ⟨g, 0, none⟩ := by
    rcases h.2 with ⟨_, h0⟩ | ⟨g, cap, cur, hv, _⟩
    · omega
    · exact ⟨g, by injection hv⟩
  subst hA
  refine ⟨g, 0, rfl, fun j v hj => ?_⟩
  have := h.cells (g := g) rfl j v hj
  have hadd : (⟨g, 0, none⟩ : Addr).add j = ⟨g, j, none⟩ := by unfold Addr.add; split <;> simp_all
  rw [hadd] at this
  rw [Nat.zero_add]; exact this
theorem own_shape {w : World} {base n size : Nat} {e : TypeId} {v : Value} {xs : List Value} (h : w.ownsRow base e size v n xs) : ∃ A c, v = .slice A n c := by
  rcases h.2 with ⟨rfl, rfl⟩ | ⟨g, cap, cur, rfl, _⟩
  · exact ⟨none, 0, rfl⟩
  · exact ⟨_, cap, rfl⟩
theorem own_ge {w : World} {base : Nat} {e : TypeId} {size n : Nat} {v : Value} {xs : List Value} (h : w.ownsRow base e size v n xs) (k : Nat) (hk : v.ownBlock = some k) : base ≤ k := (h.lt k hk).1
theorem own_nil (W : World) (base : Nat) (e : TypeId) (size : Nat) : W.ownsRow base e size (.slice none 0 0) 0 [] := ⟨by simp, .inl ⟨rfl, rfl⟩⟩
/-- An empty slice that was just made. -/
theorem own_empty (W : World) (base : Nat) (e : TypeId) (size : Nat) (hb : base ≤ W.heap.size) : (W.alloc (.cells #[] e)).ownsRow base e size (.slice (some ⟨W.heap.size, 0, none⟩) 0 0) 0 [] :=
  ⟨by simp, .inr ⟨W.heap.size, 0, #[], rfl, hb, heap_alloc_new W _, Nat.le_refl _, by simp [maxLen], by simp, by simp⟩⟩
theorem own_le {w : World} {base base' size n : Nat} {e : TypeId} {v : Value} {xs : List Value} (h : w.ownsRow base e size v n xs) (hb : base' ≤ base) : w.ownsRow base' e size v n xs :=
  ⟨h.1, h.2.elim Or.inl (fun ⟨g, cap, cur, hv, hg, r⟩ => Or.inr ⟨g, cap, cur, hv, Nat.le_trans hb hg, r⟩)⟩
theorem below_drewN {B : Nat} {w W : World} (h : Below B w W) (n : Nat) : Below B w (W.drewN n) := ⟨h.os, h.tape, h.output, h.size, h.block⟩
theorem below_then {B : Nat} {w w1 w2 : World} (h : Below B w w1) (hB : B ≤ w.heap.size) (k : Below w1.heap.size w1 w2) : Below B w w2 := h.trans (k.mono (Nat.le_trans hB h.size))
theorem own_below {w w1 : World} {base : Nat} {e : TypeId} {size n : Nat} {v : Value} {xs : List Value} (h : w.ownsRow base e size v n xs) (hb : Below w.heap.size w w1) : w1.ownsRow base e size v n xs :=
  h.kept (row := none) ⟨hb.os, hb.tape, hb.output, hb.size, fun i hi _ => hb.block i hi⟩ (by cases v.ownBlock <;> simp)
theorem below_grown {B : Nat} {w w1 w2 : World} {row : Option Nat} (h : Below B w w1) (hg : w1.grownBy w2 row) (hB : B ≤ w1.heap.size) (hr : ∀ k, row = some k → B ≤ k) : Below B w w2 := h.grown hg hB hr
theorem rd_news {w : World} {ad : Addr} {vs : List Value} (h : RdL w (some ad) vs) : ∀ j u, vs[j]? = some u → w.cell? (ad.add j) = some u := by
  intro j u hj
  have hlt := (List.getElem?_eq_some_iff.1 hj).1
  obtain ⟨b, off, e, hc⟩ := h (by omega)
  injection e with e
  subst e
  have hadd : (⟨b, off, none⟩ : Addr).add j = ⟨b, off + j, none⟩ := by unfold Addr.add; split <;> simp_all
  rw [hadd]
  exact hc j u hj
theorem RdL.drewN {w : World} {A : Option Addr} {vs : List Value} (h : RdL w A vs) (n : Nat) : RdL (w.drewN n) A vs := h

section
variable {P : Program}
theorem run_app_nil (w : World) (base : Nat) {t e : TypeId} {z : Value} {size bytes : Nat} (hT : SlT P t e z size bytes) (ty : TypeId)
    (v : Value) (n : Nat) (xs : List Value) (hown : w.ownsRow base e size v n xs) (c : Nat) : (Builtin.append_ #[t, t] ty #[v, .slice none 0 c]).run P w = .ok v w := by
  obtain ⟨i, hi, _⟩ := Option.map_eq_some_iff.1 hT.inf
  rcases hown.2 with ⟨rfl, rfl⟩ | ⟨g, cap, cur, rfl, _, _, hnc, _⟩
  · simp [Builtin.append_, run_underlying hT.und, sizeOf, typeInfo, hi, Builtin.lenOf, Builtin.firstCells]
  · simp [Builtin.append_, run_underlying hT.und, sizeOf, typeInfo, hi, Builtin.lenOf, Builtin.firstCells, hnc, storeCells]
theorem run_app (w : World) (base : Nat) {t e : TypeId} {z : Value} {size bytes : Nat} (hT : SlT P t e z size bytes) (ty : TypeId)
    (v : Value) (n : Nat) (xs : List Value) (hown : w.ownsRow base e size v n xs) (A : Option Addr) (m c : Nat) (news : List Value)
    (hr : RdL w A news) (hl : news.length = m * size) (h1 : ∀ u ∈ news, u.oneCell' = true) (h63 : n + m ≤ 9223372036854775807) (hb : (n + m) * bytes ≤ 140737488355328) (hbase : base ≤ w.heap.size) :
    ∃ v' w', (Builtin.append_ #[t, t] ty #[v, .slice A m c]).run P w = .ok v' w' ∧ w'.ownsRow base e size v' (n + m) (xs ++ news) ∧ w.grownBy w' v.ownBlock ∧
      (v'.ownBlock = v.ownBlock ∨ v'.ownBlock = some w.heap.size) ∧ (v' = .slice none 0 0 ↔ v = .slice none 0 0 ∧ m = 0) := by
  obtain ⟨i, hi, hz⟩ := Option.map_eq_some_iff.1 hT.inf
  simp only [Prod.mk.injEq] at hz
  obtain ⟨hz0, hz1, hz2⟩ := hz
  rcases A with _ | ad
  · have hn : news = [] := by
      rcases news with _ | ⟨x, xs⟩
      · rfl
      · obtain ⟨b, off, e, _⟩ := hr (by simp)
        cases e
    subst hn
    have hm : m = 0 := by
      have h := hl
      have hp := hT.pos
      rcases Nat.eq_zero_or_pos m with h0 | h0
      · exact h0
      · have : 0 < m * size := Nat.mul_pos h0 hp
        simp at h; omega
    subst hm
    exact ⟨v, w, run_app_nil w base hT ty v n xs hown c, by simpa using hown, World.grownBy.refl w _, .inl rfl, by simp⟩
  · obtain ⟨v', w', hrun, h2, h3, h4, h5⟩ := run_append_own_at (P := P) w base t ty e i z size bytes hT.und hi hz0 hz1 hz2 hT.zer hT.pos v n xs hown ad m c news hl (rd_news hr) h1 (by simp only [maxLen]; omega) hb hbase
    exact ⟨v', w', hrun, h2, h3, h5, h4⟩
variable {w : World} {ops : Array Oper} {rest : List Oper} {o : Oper} {a : Act} {Q : Exit → Act → World → Prop}
/-- The operation 'append', wanted. -/
theorem wpList_app (base : Nat) {t e : TypeId} {z : Value} {size bytes : Nat} (hT : SlT P t e z size bytes) (hw : Region.wanted o (yielded ops a.tmps) = true) (s x : Operand)
    (ho : o.op = .call { callee := .builtin .append, args := #[s, x], argTypes := #[t, t] })
    (v : Value) (n : Nat) (xs : List Value) (hs : a.eval s = v) (hown : w.ownsRow base e size v n xs)
    (A : Option Addr) (m c : Nat) (news : List Value) (hx : a.eval x = .slice A m c) (hr : RdL w A news) (hl : news.length = m * size) (h1 : ∀ u ∈ news, u.oneCell' = true)
    (h63 : n + m ≤ 9223372036854775807) (hb : (n + m) * bytes ≤ 140737488355328) (hbase : base ≤ w.heap.size)
    (h : ∀ v' w', w'.ownsRow base e size v' (n + m) (xs ++ news) → w.grownBy w' v.ownBlock → (v'.ownBlock = v.ownBlock ∨ v'.ownBlock = some w.heap.size) → (v' = .slice none 0 0 ↔ v = .slice none 0 0 ∧ m = 0) → wpList P ops Q rest (a.put o.dst v') w') :
    wpList P ops Q (o :: rest) a w := by
  refine wpList_step fun K hK => ?_
  rw [if_pos hw]
  obtain ⟨v', w', hrun, h2, h3, h4, h5⟩ := run_app w base hT o.type v n xs hown A m c news hr hl h1 h63 hb hbase
  unfold Oper.wp execOp
  simp only [ho, resolve, invoke, builtin, Sem.run_bind, Sem.run_pure, Result.andThen_ok, List.map_toArray, List.map_cons, List.map_nil, hs, hx, hrun]
  exact hK _ _ (h v' w' h2 h3 h4 h5)
end
theorem bv_one (bs : List UInt8) : ∀ u ∈ bv bs, u.oneCell' = true := by
  intro u hu
  simp [bv] at hu
  obtain ⟨c, _, rfl⟩ := hu
  rfl
/-- Bytes of the call's own. -/
def OwnB (w : World) (base : Nat) (e : TypeId) (v : Value) (bs : List UInt8) : Prop := w.ownsRow base e 1 v bs.length (bv bs)
theorem OwnB.len {w : World} {base : Nat} {e : TypeId} {v : Value} {bs : List UInt8} (h : OwnB w base e v bs) : bs.length ≤ 9223372036854775807 := by
  rcases h.2 with ⟨_, h0⟩ | ⟨g, cap, cur, _, _, _, h1, h2, _⟩
  · omega
  · simp only [maxLen] at h2; omega
theorem OwnB.rd {w : World} {base : Nat} {e : TypeId} {v : Value} {bs : List UInt8} (h : OwnB w base e v bs) : ∃ A c, v = .slice A bs.length c ∧ RdB w A bs := by
  obtain ⟨A, c, rfl⟩ := own_shape h
  exact ⟨A, c, rfl, h.len, own_rd h⟩
theorem OwnB.rdA {w : World} {base : Nat} {e : TypeId} {A : Option Addr} {n c : Nat} {bs : List UInt8} (h : OwnB w base e (.slice A n c) bs) : RdB w A bs := by
  obtain ⟨A', c', he, hr⟩ := h.rd
  injection he with h1 h2 h3
  subst h1
  exact hr
theorem OwnB.alloc {w : World} {base : Nat} {e : TypeId} {v : Value} {bs : List UInt8} (h : OwnB w base e v bs) (o : Obj) : OwnB (w.alloc o) base e v bs := World.ownsRow.alloc h o
theorem OwnB.below {w w1 : World} {base : Nat} {e : TypeId} {v : Value} {bs : List UInt8} (h : OwnB w base e v bs) (hb : Below w.heap.size w w1) : OwnB w1 base e v bs := own_below h hb
section
variable {P : Program} {w : World} {ops : Array Oper} {rest : List Oper} {o : Oper} {a : Act} {Q : Exit → Act → World → Prop}
/-- append(v, bytes...): both are bytes; w0: where the call began; ys: both behind one another. -/
theorem wpList_appB (w0 : World) (base : Nat) {t e : TypeId} (hT : SlT P t e (.int .u8 0) 1 1) (hw : Region.wanted o (yielded ops a.tmps) = true) (s x : Operand)
    (ho : o.op = .call { callee := .builtin .append, args := #[s, x], argTypes := #[t, t] })
    (v : Value) (xs : List UInt8) (hs : a.eval s = v) (hown : OwnB w base e v xs)
    (A : Option Addr) (m c : Nat) (news : List UInt8) (hx : a.eval x = .slice A m c) (hm : m = news.length) (hr : RdB w A news) (ys : List UInt8) (hy : ys = xs ++ news) (hl : ys.length ≤ 140737488355328)
    (hB : Below base w0 w) (hbase : base ≤ w0.heap.size)
    (h : ∀ A' c' w', OwnB w' base e (.slice A' ys.length c') ys → RdB w' A' ys → Below base w0 w' → w.grownBy w' v.ownBlock → ((Value.slice A' ys.length c').ownBlock = v.ownBlock ∨ (Value.slice A' ys.length c').ownBlock = some w.heap.size) → wpList P ops Q rest (a.put o.dst (.slice A' ys.length c')) w') :
    wpList P ops Q (o :: rest) a w := by
  subst hm hy
  have hll : xs.length + news.length ≤ 140737488355328 := by rwa [List.length_append] at hl
  have hsz : base ≤ w.heap.size := Nat.le_trans hbase hB.size
  refine wpList_app base hT hw s x ho v xs.length (bv xs) hs hown A news.length c (bv news) hx hr.2 (by rw [bv_length, Nat.mul_one]) (bv_one _) (by omega) (by omega) hsz ?_
  intro v' w' h1 h2 h3 _
  have h1' : OwnB w' base e v' (xs ++ news) := by unfold OwnB; rw [List.length_append, bv_append]; exact h1
  obtain ⟨A', c', rfl, hrd⟩ := h1'.rd
  exact h A' c' w' h1' hrd (hB.grown h2 hsz (own_ge hown)) h2 h3
end
/-- string(bytes). -/
theorem run_strB {P : Program} (w : World) (src e dst : TypeId) (hs : P.underlying src = some (.slice e)) (he : P.underlying e = some (.int .u8)) (hd : P.underlying dst = some .string)
    (A : Option Addr) (n c : Nat) (bs : List UInt8) (hn : n = bs.length) (hr : RdB w A bs) : (convert src dst (.slice A n c)).run P w = .ok (.string ⟨bs.toArray⟩) w := by
  subst hn
  have hback : ∀ bs : List UInt8, strOfNums (bs.map fun c => (c.toNat : Int)) = ⟨bs.toArray⟩ := fun bs => by simp [strOfNums, Function.comp_def]
  rcases A with _ | ad
  · have hn : bs = [] := by
      rcases bs with _ | ⟨x, xs⟩
      · rfl
      · obtain ⟨b, off, e, _⟩ := hr.2 (by simp [bv])
        cases e
    subst hn
    exact run_convert_bytes_nil w src e hs he 0 c dst hd
  · rcases Nat.eq_zero_or_pos bs.length with h0 | h0
    · have hn : bs = [] := List.eq_nil_of_length_eq_zero h0
      subst hn
      have hl : (loadCells ad 0).run P w = .ok (([] : List Int).map (Value.int .u8)).toArray w := by simp [loadCells, loadCellsFrom]
      show (convert src dst (.slice (some ad) 0 c)).run P w = _
      rw [run_convert_bytes_string w src dst e _ 0 c hs he hd, run_bytesToString w _ 0 c [] hl]
      rfl
    · obtain ⟨b, off, e1, hc⟩ := hr.at h0
      injection e1 with e1
      subst e1
      have := run_convert_bytes_arg (P := P) w src e hs he b off bs.length c (bs.map fun c => (c.toNat : Int)) (by simp) (fun i hi => by
        rw [hc i (by simpa using hi)]
        simp [List.getD_eq_getElem?_getD, List.getElem?_eq_getElem (show i < bs.length by simpa using hi)]) dst hd
      rw [this, hback]
theorem RdB.nil (w : World) : RdB w .none [] := ⟨by simp, fun h => by simp [bv] at h⟩
/-- Bytes that came in as whole numbers. -/
theorem rdB_of_ints {w : World} {a : Addr} {len cap : Nat} {zs : List Int} (hl : len ≤ cap) (hz : zs.length = cap) (hc : ∀ i, i < zs.length → w.cell? (a.add i) = some (.int .u8 (zs.getD i 0)))
    (hw : ∀ n ∈ zs, (Lit.int .u8 n).wf = true) (hlen : len ≤ 9223372036854775807) : ∃ bs : List UInt8, bs.length = len ∧ RdB w (some a) bs := by
  have hln : ((zs.take len).map fun n => UInt8.ofNat n.toNat).length = len := by simp; omega
  refine ⟨(zs.take len).map fun n => UInt8.ofNat n.toNat, hln, by rw [hln]; exact hlen, fun hp => ?_⟩
  rw [bv_length, hln] at hp
  obtain ⟨b, off, rfl, hcell⟩ := ints_at hc (by omega)
  refine ⟨b, off, rfl, fun j v hj => ?_⟩
  have hjl : j < len := by
    have := (List.getElem?_eq_some_iff.1 hj).1
    rwa [bv_length, hln] at this
  rw [hcell j (by omega)]
  have hjz : j < zs.length := by omega
  have hbd := bounds_u8 (hw zs[j] (List.getElem_mem hjz))
  simp only [bv, List.map_map, List.getElem?_map, List.getElem?_take, if_pos hjl, List.getElem?_eq_getElem hjz, Option.map_some, Function.comp, Option.some.injEq] at hj
  rw [← hj, List.getD_eq_getElem?_getD, List.getElem?_eq_getElem hjz]
  simp only [Option.getD_some, Option.some.injEq, Value.int.injEq, true_and, UInt8.toNat_ofNat']
  omega
/-- The block of bytes of the call's own: read, written. -/
theorem OwnB.blk {w : World} {base : Nat} {e : TypeId} {A : Option Addr} {n c : Nat} {cs : List UInt8} (h : OwnB w base e (.slice A n c) cs) (hp : 0 < cs.length) :
    ∃ g, A = some ⟨g, 0, none⟩ ∧ base ≤ g ∧ g < w.heap.size ∧ (∀ i (hi : i < cs.length), w.cell? ⟨g, i, none⟩ = some (.int .u8 (cs[i].toNat : Int))) ∧ (∀ i, w.frozen? ⟨g, i, none⟩ = false) ∧
      (∀ i (x : UInt8), i < cs.length → OwnB (w.setCell ⟨g, i, none⟩ (.int .u8 (x.toNat : Int))) base e (.slice A n c) (cs.set i x)) := by
  obtain ⟨hl, h2⟩ := h
  rcases h2 with ⟨_, h0⟩ | ⟨g, cap, cur, hv, hb, hg, hn, hm, hs, ht⟩
  · omega
  · have hA : A = some ⟨g, 0, none⟩ := by injection hv
    have hcell : ∀ i (hi : i < cs.length), cur[i]? = some (.int .u8 (cs[i].toNat : Int)) := fun i hi => by
      have h1 : (List.take (cs.length * 1) cur.toList)[i]? = (bv cs)[i]? := by rw [ht]
      rw [List.getElem?_take, if_pos (by omega)] at h1
      rw [← Array.getElem?_toList, h1]
      simp [bv, hi]
    refine ⟨g, hA, hb, (Array.getElem?_eq_some_iff.1 hg).1, fun i hi => ?_, fun i => frozen_of_row _ _ _ _ _ hg, fun i x hi => ?_⟩
    · rw [cell_of_row _ _ _ _ _ _ hg]; exact hcell i hi
    · refine ⟨by rw [bv_length, List.length_set, Nat.mul_one], .inr ⟨g, cap, cur.setIfInBounds i (.int .u8 (x.toNat : Int)), ?_, hb, heap_setCell_same _ _ _ _ _ _ hg, by rw [List.length_set]; exact hn, hm, by rw [Array.size_setIfInBounds]; exact hs, ?_⟩⟩
      · rw [List.length_set]; exact hv
      · rw [List.length_set, Array.toList_setIfInBounds, List.take_set, ht]
        simp [bv, List.map_set]
theorem RdB.new (w : World) (bs : List UInt8) (cs : Array Value) (t : TypeId) (fr : Nat × Nat) (h : cs = (bv bs).toArray) (hl : bs.length ≤ 9223372036854775807) : RdB (w.alloc (.cells cs t fr)) (some ⟨w.heap.size, 0, none⟩) bs := by
  refine ⟨hl, fun _ => ⟨_, _, rfl, fun j v hj => ?_⟩⟩
  rw [cell_of_row _ _ _ _ _ _ (heap_alloc_new w _), h, Nat.zero_add]
  simpa using hj
/-- One byte in a block that was just made. -/
theorem RdB.one (w : World) (c : UInt8) (x : Int) (t : TypeId) (h : x = (c.toNat : Int)) : RdB (w.alloc (.cells #[.int .u8 x] t)) (some ⟨w.heap.size, 0, none⟩) [c] := by
  subst h
  exact RdB.new w [c] _ t (0, 0) rfl (by simp)
section
variable {P : Program} {w : World} {ops : Array Oper} {rest : List Oper} {o : Oper} {a : Act} {Q : Exit → Act → World → Prop}
/-- append(v, cells...) at the operation; w0: where the call began; ys: all cells, k: how many elements. -/
theorem wp_appV {K : Act → World → Prop} (w0 : World) (base : Nat) {t e : TypeId} {z : Value} {size bytes : Nat} (hT : SlT P t e z size bytes) (s x : Operand)
    (ho : o.op = .call { callee := .builtin .append, args := #[s, x], argTypes := #[t, t] })
    (v : Value) (n : Nat) (xs : List Value) (hs : a.eval s = v) (hown : w.ownsRow base e size v n xs)
    (A : Option Addr) (m c : Nat) (news : List Value) (hx : a.eval x = .slice A m c) (hr : RdL w A news) (hl : news.length = m * size) (h1 : ∀ u ∈ news, u.oneCell' = true)
    (k : Nat) (hk : k = n + m) (ys : List Value) (hy : ys = xs ++ news) (h63 : k ≤ 9223372036854775807) (hb : k * bytes ≤ 140737488355328) (hB : Below base w0 w) (hbase : base ≤ w0.heap.size)
    (h : ∀ A' c' w', w'.ownsRow base e size (.slice A' k c') k ys → RdL w' A' ys → Below base w0 w' → w.grownBy w' v.ownBlock → ((Value.slice A' k c').ownBlock = v.ownBlock ∨ (Value.slice A' k c').ownBlock = some w.heap.size) → K (a.put o.dst (.slice A' k c')) w') :
    o.wp P a w K Q := by
  subst hk hy
  have hsz : base ≤ w.heap.size := Nat.le_trans hbase hB.size
  obtain ⟨v', w', hrun, h2, h3, h4, _⟩ := run_app w base hT o.type v n xs hown A m c news hr hl h1 h63 hb hsz
  obtain ⟨A', c', rfl⟩ := own_shape h2
  unfold Oper.wp execOp
  simp only [ho, resolve, invoke, builtin, Sem.run_bind, Sem.run_pure, Result.andThen_ok, List.map_toArray, List.map_cons, List.map_nil, hs, hx, hrun]
  exact h A' c' w' h2 (own_rd h2) (hB.grown h3 hsz (own_ge hown)) h3 h4
theorem wpList_appV (w0 : World) (base : Nat) {t e : TypeId} {z : Value} {size bytes : Nat} (hT : SlT P t e z size bytes) (hw : Region.wanted o (yielded ops a.tmps) = true) (s x : Operand)
    (ho : o.op = .call { callee := .builtin .append, args := #[s, x], argTypes := #[t, t] })
    (v : Value) (n : Nat) (xs : List Value) (hs : a.eval s = v) (hown : w.ownsRow base e size v n xs)
    (A : Option Addr) (m c : Nat) (news : List Value) (hx : a.eval x = .slice A m c) (hr : RdL w A news) (hl : news.length = m * size) (h1 : ∀ u ∈ news, u.oneCell' = true)
    (k : Nat) (hk : k = n + m) (ys : List Value) (hy : ys = xs ++ news) (h63 : k ≤ 9223372036854775807) (hb : k * bytes ≤ 140737488355328) (hB : Below base w0 w) (hbase : base ≤ w0.heap.size)
    (h : ∀ A' c' w', w'.ownsRow base e size (.slice A' k c') k ys → RdL w' A' ys → Below base w0 w' → w.grownBy w' v.ownBlock → ((Value.slice A' k c').ownBlock = v.ownBlock ∨ (Value.slice A' k c').ownBlock = some w.heap.size) → wpList P ops Q rest (a.put o.dst (.slice A' k c')) w') :
    wpList P ops Q (o :: rest) a w := by
  refine wpList_step fun K hK => ?_
  rw [if_pos hw]
  exact wp_appV w0 base hT s x ho v n xs hs hown A m c news hx hr hl h1 k hk ys hy h63 hb hB hbase fun A' c' w' h1 h2 h3 h4 h5 => hK _ _ (h A' c' w' h1 h2 h3 h4 h5)
theorem step_appV {K : Act → World → Prop} {E : Prop} (w0 : World) (base : Nat) {t e : TypeId} {z : Value} {size bytes : Nat} (hT : SlT P t e z size bytes) (hw : Region.wanted o (yielded ops a.tmps) = true) (s x : Operand)
    (ho : o.op = .call { callee := .builtin .append, args := #[s, x], argTypes := #[t, t] })
    (v : Value) (n : Nat) (xs : List Value) (hs : a.eval s = v) (hown : w.ownsRow base e size v n xs)
    (A : Option Addr) (m c : Nat) (news : List Value) (hx : a.eval x = .slice A m c) (hr : RdL w A news) (hl : news.length = m * size) (h1 : ∀ u ∈ news, u.oneCell' = true)
    (k : Nat) (hk : k = n + m) (ys : List Value) (hy : ys = xs ++ news) (h63 : k ≤ 9223372036854775807) (hb : k * bytes ≤ 140737488355328) (hB : Below base w0 w) (hbase : base ≤ w0.heap.size)
    (h : ∀ A' c' w', w'.ownsRow base e size (.slice A' k c') k ys → RdL w' A' ys → Below base w0 w' → w.grownBy w' v.ownBlock → ((Value.slice A' k c').ownBlock = v.ownBlock ∨ (Value.slice A' k c').ownBlock = some w.heap.size) → K (a.put o.dst (.slice A' k c')) w') :
    if Region.wanted o (yielded ops a.tmps) = true then Oper.wp P o a w K Q else E := by
  rw [if_pos hw]
  exact wp_appV w0 base hT s x ho v n xs hs hown A m c news hx hr hl h1 k hk ys hy h63 hb hB hbase h
end
/-- The same for bytes, in a region that draws its order. -/
theorem step_appB {P : Program} {w : World} {ops : Array Oper} {o : Oper} {a : Act} {Q : Exit → Act → World → Prop} {K : Act → World → Prop} {E : Prop} (w0 : World) (base : Nat) {t e : TypeId} (hT : SlT P t e (.int .u8 0) 1 1) (hw : Region.wanted o (yielded ops a.tmps) = true) (s x : Operand)
    (ho : o.op = .call { callee := .builtin .append, args := #[s, x], argTypes := #[t, t] })
    (v : Value) (xs : List UInt8) (hs : a.eval s = v) (hown : OwnB w base e v xs)
    (A : Option Addr) (m c : Nat) (news : List UInt8) (hx : a.eval x = .slice A m c) (hm : m = news.length) (hr : RdB w A news) (ys : List UInt8) (hy : ys = xs ++ news) (hl : ys.length ≤ 140737488355328)
    (hB : Below base w0 w) (hbase : base ≤ w0.heap.size)
    (h : ∀ A' c' w', OwnB w' base e (.slice A' ys.length c') ys → RdB w' A' ys → Below base w0 w' → w.grownBy w' v.ownBlock → ((Value.slice A' ys.length c').ownBlock = v.ownBlock ∨ (Value.slice A' ys.length c').ownBlock = some w.heap.size) → K (a.put o.dst (.slice A' ys.length c')) w') :
    if Region.wanted o (yielded ops a.tmps) = true then Oper.wp P o a w K Q else E := by
  subst hm
  have hyl : ys.length = xs.length + news.length := by rw [hy, List.length_append]
  exact step_appV w0 base hT hw s x ho v xs.length (bv xs) hs hown A news.length c (bv news) hx hr.2 (by rw [bv_length, Nat.mul_one]) (bv_one _) ys.length hyl (bv ys) (by rw [hy, bv_append]) (by omega) (by omega) hB hbase
    fun A' c' w' h1 h2 h3 h4 h5 => h A' c' w' h1 ⟨by omega, h2⟩ h3 h4 h5
end Go.Proofs.Ytdeeeipdgoafaaa
