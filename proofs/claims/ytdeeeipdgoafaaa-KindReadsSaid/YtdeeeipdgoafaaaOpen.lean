/- How arguments that came in are read: whole numbers, bools, slices, structs of one-cell fields, in one another. No program in sight. -/
import Derived.Test.YtdeeeipdgoafaaaMem
import Derived.ProofKit
import Derived.OpenShut
import Derived.SizedLaws
namespace Go.Proofs.Ytdeeeipdgoafaaa
open Go.RowKit Go.ChangeShapes

/-- Cells of the type t, read as data within the form's reach, are 'size' cells of which R holds. -/
def Opens (P : Program) (t : TypeId) (size : Nat) (R : World → List Value → Prop) : Prop :=
  ∀ (H : Type) (enc : TypeId × Value → H) (w : World) (base : Nat) (spare : Nat → Bool) (held : Bool) (fuel : Nat) (cs : List Value) (x : DataW H × List MemPlace),
    DataW.trod enc P w base spare held fuel t cs = some x → (∀ n ∈ x.1.weights P t, n ≤ reachBytes) → cs.length = size ∧ R w cs

def rInt (k : IntKind) : World → List Value → Prop := fun _ cs => ∃ n, cs = [.int k n] ∧ (Lit.int k n).wf = true
def rBool : World → List Value → Prop := fun _ cs => ∃ b, cs = [.bool b]
def rSlice (size bytes : Nat) (R : World → List Value → Prop) : World → List Value → Prop := fun w cs =>
  ∃ (A : Option Addr) (len cap : Nat) (es : List (List Value)), cs = [.slice A len cap] ∧ es.length = len ∧ len ≤ cap ∧ cap ≤ 9223372036854775807 ∧ len * bytes ≤ 140737488351232 ∧ (∀ e ∈ es, e.length = size ∧ R w e) ∧ RdL w A es.flatten
def rStruct (Rs : List (World → List Value → Prop)) : World → List Value → Prop := fun w cs => ∀ (i : Nat) (R : World → List Value → Prop) (c : Value), Rs[i]? = some R → cs[i]? = some c → R w [c]

theorem opens_int {P : Program} {t : TypeId} {k : IntKind} (hu : P.underlying t = some (.int k)) : Opens P t 1 (rInt k) := by
  intro H enc w base spare held fuel cs x h _
  obtain ⟨n, rfl, _, hw⟩ := DataW.trod_int hu h
  exact ⟨rfl, n, rfl, hw⟩
theorem opens_bool {P : Program} {t : TypeId} (hu : P.underlying t = some .bool) : Opens P t 1 rBool := by
  intro H enc w base spare held fuel cs x h _
  cases fuel with
  | zero => simp [DataW.trod] at h
  | succ n =>
    unfold DataW.trod at h
    rw [hu] at h
    split at h <;> simp_all
    exact ⟨_, rfl⟩
theorem flatten_at {es : List (List Value)} {size : Nat} (hs : 0 < size) (he : ∀ e ∈ es, e.length = size) : ∀ (k : Nat) (v : Value), es.flatten[k]? = some v → ∃ e, es[k / size]? = some e ∧ e[k % size]? = some v := by
  induction es with
  | nil => intro k v h; simp at h
  | cons e es ih =>
    intro k v h
    have hl : e.length = size := he e (by simp)
    rw [List.flatten_cons] at h
    rcases Nat.lt_or_ge k size with hk | hk
    · rw [List.getElem?_append_left (by omega)] at h
      exact ⟨e, by rw [Nat.div_eq_of_lt hk]; rfl, by rw [Nat.mod_eq_of_lt hk]; exact h⟩
    · rw [List.getElem?_append_right (by omega), hl] at h
      obtain ⟨e', h1, h2⟩ := ih (fun e h => he e (by simp [h])) (k - size) v h
      refine ⟨e', ?_, ?_⟩
      · rw [show k / size = (k - size) / size + 1 from by rw [← Nat.div_eq_sub_div hs hk]]
        exact h1
      · rw [Nat.mod_eq_sub_mod hk]; exact h2
theorem cells_get {w : World} {base n : Nat} {a : Addr} {vs : List Value} (h : w.cells? base a n = some vs) : vs.length = n ∧ ∀ j v, vs[j]? = some v → w.cell? (a.add j) = some v := by
  unfold World.cells? at h
  split at h
  · have hl := mapM_some_length h
    refine ⟨by simpa using hl, fun j v hj => ?_⟩
    have hjl := (List.getElem?_eq_some_iff.1 hj).1
    have hjn : j < n := by simp at hl; omega
    have := mapM_some_get h j j (by simp [hjn])
    rw [hj] at this
    exact this
  · cases h
theorem weights_elem {H : Type} {P : Program} {e : TypeId} {ds : List (DataW H)} {d : DataW H} (hd : d ∈ ds) : ∀ n ∈ d.weights P e, n ∈ DataW.weightsAll P e ds := by
  induction ds with
  | nil => cases hd
  | cons d' ds ih =>
    intro n hn
    rw [DataW.weightsAll, List.mem_append]
    rcases List.mem_cons.1 hd with rfl | hd
    · exact .inl hn
    · exact .inr (ih hd n hn)
theorem opens_slice {P : Program} {t e : TypeId} {size bytes : Nat} {R : World → List Value → Prop} (hu : P.underlying t = some (.slice e)) (hc : P.cellsOf e = size) (hb : P.bytesOf e = bytes) (hs : 0 < size) (hR : Opens P e size R) :
    Opens P t 1 (rSlice size bytes R) := by
  intro H enc w base spare held fuel cs x h hw
  rcases DataW.trod_slice hu h with ⟨rfl, _⟩ | ⟨a, len, cap, elems, rest, n, rfl, rfl, rfl, _, hl, hm, hlen, hel, _, _⟩
  · exact ⟨rfl, none, 0, 0, [], rfl, rfl, Nat.le_refl _, by omega, by omega, by simp, fun hp => by simp at hp⟩
  · have hw1 : ∀ n ∈ DataW.weightsAll P e (elems.map (·.1)), n ≤ reachBytes := fun n hn => hw n (by simp only [DataW.weights, hu]; simp [hn])
    have hreach : len * bytes ≤ 140737488351232 := by
      have h1 := hw ((elems.length + rest.length) * P.bytesOf e) (by simp only [DataW.weights, hu]; simp)
      rw [hb, hlen] at h1
      simp only [reachBytes] at h1
      have h2 : len * bytes ≤ (len + rest.length) * bytes := Nat.mul_le_mul_right _ (by omega)
      omega
    -- each element's cells
    have each : ∀ i, i < len → ∃ vs, w.cells? base (a.add (i * size)) size = some vs ∧ vs.length = size ∧ R w vs := by
      intro i hi
      have h1 := hel i hi
      rw [hc, List.getElem?_eq_getElem (by omega)] at h1
      obtain ⟨vs, h2, h3⟩ := Option.bind_eq_some_iff.1 h1
      obtain ⟨h4, h5⟩ := hR H enc w base spare held n vs elems[i] h3 (fun n hn => hw1 n (weights_elem (List.mem_map.2 ⟨elems[i], List.getElem_mem _, rfl⟩) n hn))
      exact ⟨vs, h2, h4, h5⟩
    have hes : ∃ es : List (List Value), es.length = len ∧ ∀ (i : Nat) (vs : List Value), es[i]? = some vs → w.cells? base (a.add (i * size)) size = some vs ∧ vs.length = size ∧ R w vs := by
      refine ⟨(List.range len).map fun i => (w.cells? base (a.add (i * size)) size).getD [], by simp, fun i vs hi => ?_⟩
      have hil : i < len := by
        have := (List.getElem?_eq_some_iff.1 hi).1
        simpa using this
      obtain ⟨vs', h1, h2, h3⟩ := each i hil
      simp [hil, h1] at hi
      subst hi
      exact ⟨h1, h2, h3⟩
    obtain ⟨es, hesl, hes⟩ := hes
    have hmem : ∀ e' ∈ es, e'.length = size ∧ R w e' := by
      intro e' he
      obtain ⟨i, hi, rfl⟩ := List.mem_iff_getElem.1 he
      have := hes i _ (List.getElem?_eq_getElem hi)
      exact ⟨this.2.1, this.2.2⟩
    refine ⟨rfl, some a, len, cap, es, rfl, hesl, hl, by simp only [maxLen] at hm; omega, hreach, hmem, fun hp => ?_⟩
    have hpos : 0 < len := by
      rcases Nat.eq_zero_or_pos len with h0 | h0
      · have : es = [] := List.eq_nil_of_length_eq_zero (by omega)
        subst this; simp at hp
      · exact h0
    obtain ⟨vs0, h1, h2, _⟩ := each 0 hpos
    obtain ⟨_, hg0⟩ := cells_get h1
    have hz := hg0 0 vs0[0] (List.getElem?_eq_getElem (by omega))
    obtain ⟨b, off, spot⟩ := a
    have hspot : spot = none := by simpa [Addr.add] using World.cell?_spot hz
    subst hspot
    refine ⟨b, off, rfl, fun k v hk => ?_⟩
    obtain ⟨e', h3, h4⟩ := flatten_at hs (fun e he => (hmem e he).1) k v hk
    obtain ⟨h5, _, _⟩ := hes _ _ h3
    obtain ⟨_, h6⟩ := cells_get h5
    have := h6 _ _ h4
    rw [Go.WideShapes.add_plain, Go.WideShapes.add_plain] at this
    rw [show off + k = off + k / size * size + k % size from by rw [Nat.add_assoc, Nat.mul_comm, Nat.div_add_mod]]
    exact this
theorem weights_each {H : Type} {P : Program} : ∀ (ts : List TypeId) (ds : List (DataW H)) (i : Nat) (t : TypeId) (d : DataW H), ts[i]? = some t → ds[i]? = some d → ∀ n ∈ d.weights P t, n ∈ DataW.weightsEach P ts ds
  | [], _, i, _, _, h, _ => by simp at h
  | _ :: _, [], i, _, _, _, h => by simp at h
  | t' :: ts, d' :: ds, 0, t, d, h1, h2 => by
    simp at h1 h2
    subst h1 h2
    intro n hn
    rw [DataW.weightsEach, List.mem_append]
    exact .inl hn
  | t' :: ts, d' :: ds, i + 1, t, d, h1, h2 => by
    intro n hn
    rw [DataW.weightsEach, List.mem_append]
    exact .inr (weights_each ts ds i t d (by simpa using h1) (by simpa using h2) n hn)
/-- The fields of a struct, one cell each. -/
def FieldsAre (P : Program) (fs : Array Field) : Nat → List (World → List Value → Prop) → Prop
  | _, [] => True
  | i, R :: Rs => (∃ f, fs[i]? = some f ∧ f.offset = i ∧ P.cellsOf f.type = 1 ∧ Opens P f.type 1 R) ∧ FieldsAre P fs (i + 1) Rs
theorem FieldsAre.get {P : Program} {fs : Array Field} : ∀ {Rs : List (World → List Value → Prop)} {j : Nat}, FieldsAre P fs j Rs → ∀ (i : Nat) (R : World → List Value → Prop), Rs[i]? = some R → ∃ f, fs[j + i]? = some f ∧ f.offset = j + i ∧ P.cellsOf f.type = 1 ∧ Opens P f.type 1 R
  | [], _, _, i, R, h => by simp at h
  | R' :: Rs, j, h, 0, R, hi => by
    simp at hi; subst hi
    exact h.1
  | R' :: Rs, j, h, i + 1, R, hi => by
    have := FieldsAre.get h.2 i R (by simpa using hi)
    rwa [show j + 1 + i = j + (i + 1) by omega] at this
theorem opens_struct {P : Program} {t : TypeId} {fs : Array Field} {Rs : List (World → List Value → Prop)} (hu : P.underlying t = some (.struct fs)) (hc : P.cellsOf t = Rs.length) (hf : FieldsAre P fs 0 Rs) : Opens P t Rs.length (rStruct Rs) := by
  intro H enc w base spare held fuel cs x h hw
  obtain ⟨xs, n, rfl, rfl, hl, hxl, hx⟩ := DataW.trod_struct hu h
  refine ⟨by omega, fun i R c hR hcs => ?_⟩
  obtain ⟨f, h1, h2, h3, h4⟩ := hf.get i R hR
  rw [Nat.zero_add] at h1 h2
  have h5 := hx i f h1
  rw [h2, h3] at h5
  have hcl := (List.getElem?_eq_some_iff.1 hcs).1
  have h6 : (cs.drop i).take 1 = [c] := by
    rw [List.drop_eq_getElem_cons hcl, List.take_succ_cons, List.take_zero]
    have := (List.getElem?_eq_some_iff.1 hcs).2
    rw [this]
  rw [h6] at h5
  have hil : i < xs.length := by
    have := (Array.getElem?_eq_some_iff.1 h1).1
    omega
  rw [List.getElem?_eq_getElem hil] at h5
  refine (h4 H enc w base spare held n [c] xs[i] h5 (fun n hn => hw n ?_)).2
  simp only [DataW.weights, hu]
  refine weights_each _ _ i f.type xs[i].1 ?_ ?_ n hn
  · rw [List.getElem?_map]
    simp [h1]
  · rw [List.getElem?_map, List.getElem?_eq_getElem hil]; rfl
/-- Bytes out of what a slice of bytes reads as. -/
theorem rSlice_bytes {w : World} {c : Value} (h : rSlice 1 1 (rInt .u8) w [c]) : ∃ (A : Option Addr) (cap : Nat) (bs : List UInt8), c = .slice A bs.length cap ∧ bs.length ≤ cap ∧ cap ≤ 9223372036854775807 ∧ bs.length ≤ 140737488351232 ∧ RdB w A bs := by
  obtain ⟨A, len, cap, es, hc, hl, hlc, hcm, hr, hes, hrd⟩ := h
  simp at hc
  have key : ∀ es : List (List Value), (∀ e ∈ es, e.length = 1 ∧ rInt .u8 w e) → ∃ bs : List UInt8, bs.length = es.length ∧ es.flatten = bv bs := by
    intro es
    induction es with
    | nil => intro _; exact ⟨[], rfl, rfl⟩
    | cons e es ih =>
      intro he
      obtain ⟨bs, h1, h2⟩ := ih (fun e h => he e (by simp [h]))
      obtain ⟨n, rfl, hw⟩ := (he e (by simp)).2
      have hbd := bounds_u8 hw
      refine ⟨UInt8.ofNat n.toNat :: bs, by simp [h1], ?_⟩
      rw [List.flatten_cons, h2]
      simp only [bv, List.map_cons, List.singleton_append, List.cons.injEq, Value.int.injEq, true_and, and_true, UInt8.toNat_ofNat']
      omega
  obtain ⟨bs, h1, h2⟩ := key es hes
  refine ⟨A, cap, bs, by rw [h1, hl]; exact hc, by omega, hcm, by omega, by omega, by rw [← h2]; exact hrd⟩
/-- Whole numbers out of what a slice of ints reads as. -/
def iv (k : IntKind) (zs : List Int) : List Value := zs.map fun z => .int k z
theorem iv_length (k : IntKind) (zs : List Int) : (iv k zs).length = zs.length := by simp [iv]
theorem rSlice_ints {w : World} {c : Value} {k : IntKind} {bytes : Nat} (h : rSlice 1 bytes (rInt k) w [c]) : ∃ (A : Option Addr) (cap : Nat) (zs : List Int), c = .slice A zs.length cap ∧ zs.length ≤ cap ∧ cap ≤ 9223372036854775807 ∧ zs.length * bytes ≤ 140737488351232 ∧ (∀ z ∈ zs, (Lit.int k z).wf = true) ∧ RdL w A (iv k zs) := by
  obtain ⟨A, len, cap, es, hc, hl, hlc, hcm, hr, hes, hrd⟩ := h
  simp at hc
  have key : ∀ es : List (List Value), (∀ e ∈ es, e.length = 1 ∧ rInt k w e) → ∃ zs : List Int, zs.length = es.length ∧ es.flatten = iv k zs ∧ ∀ z ∈ zs, (Lit.int k z).wf = true := by
    intro es
    induction es with
    | nil => intro _; exact ⟨[], rfl, rfl, by simp⟩
    | cons e es ih =>
      intro he
      obtain ⟨zs, h1, h2, h3⟩ := ih (fun e h => he e (by simp [h]))
      obtain ⟨n, rfl, hw⟩ := (he e (by simp)).2
      refine ⟨n :: zs, by simp [h1], by rw [List.flatten_cons, h2]; rfl, fun z hz => ?_⟩
      rcases List.mem_cons.1 hz with rfl | hz
      · exact hw
      · exact h3 z hz
  obtain ⟨zs, h1, h2, h3⟩ := key es hes
  refine ⟨A, cap, zs, by rw [h1, hl]; exact hc, by omega, hcm, by rw [h1, hl]; exact hr, h3, by rw [← h2]; exact hrd⟩
/-- A value of two cells or more is a struct or an array. -/
theorem agg_of_cells (v : Value) (h : 2 ≤ v.cells.size) : ∃ cs, v = .agg cs := by
  cases v with
  | agg cs => exact ⟨cs, rfl⟩
  | _ => simp [Value.cells] at h
/-- Whole numbers in memory. -/
def RdI (w : World) (A : Option Addr) (zs : List Int) : Prop := zs.length ≤ 9223372036854775807 ∧ RdL w A (iv .i64 zs) ∧ ∀ z ∈ zs, -9223372036854775808 ≤ z ∧ z ≤ 9223372036854775807
theorem RdI.below {w w1 : World} {A : Option Addr} {zs : List Int} (h : RdI w A zs) (hb : Below w.heap.size w w1) : RdI w1 A zs := ⟨h.1, RdL.below h.2.1 hb, h.2.2⟩
theorem RdI.at {w : World} {A : Option Addr} {zs : List Int} (h : RdI w A zs) (hp : 0 < zs.length) :
    ∃ b off, A = some ⟨b, off, none⟩ ∧ b < w.heap.size ∧ ∀ j (hj : j < zs.length), w.cell? ⟨b, off + j, none⟩ = some (.int .i64 zs[j]) := by
  obtain ⟨b, off, e, hc⟩ := h.2.1 (by rwa [iv_length])
  have h0 : ∀ j (hj : j < zs.length), w.cell? ⟨b, off + j, none⟩ = some (.int .i64 zs[j]) := fun j hj => hc j _ (by simp [iv, hj])
  exact ⟨b, off, e, World.block_lt_of_cell? w _ (h0 0 hp), h0⟩

theorem iv_one (k : IntKind) (zs : List Int) : ∀ u ∈ iv k zs, u.oneCell' = true := by
  intro u hu
  simp [iv] at hu
  obtain ⟨c, _, rfl⟩ := hu
  rfl
end Go.Proofs.Ytdeeeipdgoafaaa
