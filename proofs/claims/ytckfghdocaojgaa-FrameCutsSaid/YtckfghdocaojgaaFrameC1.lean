/- Frames one behind the other: the plain words; the walks of All and Cut. -/
import Derived.Test.YtckfghdocaojgaaFrameL3
namespace Go.Proofs.Ytckfghdocaojgaa
open Go.RowKit
/-- A frame as plain data. -/
abbrev Fr := Int × List UInt8
def allErr : List Fr → Int
  | [] => 0
  | f :: r => if encErr f.1 f.2 ≠ 0 then encErr f.1 f.2 else allErr r
def allB : List Fr → List UInt8
  | [] => []
  | f :: r => encB f.1 f.2 ++ allB r
theorem allErr_cons (g : Fr) (r : List Fr) : allErr (g :: r) = if encErr g.1 g.2 ≠ 0 then encErr g.1 g.2 else allErr r := rfl
theorem allB_snoc (l : List Fr) (f : Fr) : allB (l ++ [f]) = allB l ++ encB f.1 f.2 := by
  induction l with
  | nil => simp [allB]
  | cons g r ih => simp [allB, ih]
theorem allErr_snoc (l : List Fr) (f : Fr) : allErr (l ++ [f]) = if allErr l = 0 then encErr f.1 f.2 else allErr l := by
  induction l with
  | nil => simp [allErr]; omega
  | cons g r ih =>
    rw [List.cons_append, allErr_cons, allErr_cons]
    by_cases h : encErr g.1 g.2 = 0
    · simp [h, ih]
    · simp [h]
theorem allErr_take (l : List Fr) (k : Nat) (h : k < l.length) (h0 : allErr (l.take k) = 0) : allErr (l.take (k + 1)) = encErr l[k].1 l[k].2 ∧ (encErr l[k].1 l[k].2 ≠ 0 → allErr l = encErr l[k].1 l[k].2) := by
  rw [List.take_succ_eq_append_getElem h, allErr_snoc, if_pos h0]
  refine ⟨rfl, fun hne => ?_⟩
  have : ∀ (l : List Fr) (k : Nat) (h : k < l.length), allErr (l.take k) = 0 → encErr l[k].1 l[k].2 ≠ 0 → allErr l = encErr l[k].1 l[k].2 := by
    intro l
    induction l with
    | nil => intro k h; simp at h
    | cons g r ih =>
      intro k h h0 hne
      rcases k with _ | k
      · simp only [List.getElem_cons_zero] at hne ⊢
        simp only [allErr]; rw [if_pos hne]
      · simp only [List.take_succ_cons, allErr] at h0
        simp only [List.getElem_cons_succ] at hne ⊢
        by_cases hg : encErr g.1 g.2 ≠ 0
        · rw [if_pos hg] at h0; exact absurd h0 hg
        · rw [if_neg hg] at h0
          simp only [allErr]
          rw [if_neg hg]
          exact ih k (by simpa using h) h0 hne
  exact this l k h h0 hne
theorem encB_len (f : Fr) (m : Nat) (h : f.2.length ≤ m) : (encB f.1 f.2).length ≤ m + 7 := by
  unfold encB
  split
  · rw [frB_length]; omega
  · simp
theorem allB_len (l : List Fr) (m : Nat) (h : ∀ f ∈ l, f.2.length ≤ m) : (allB l).length ≤ l.length * (m + 7) := by
  induction l with
  | nil => simp [allB]
  | cons g r ih =>
    have h1 := encB_len g m (h g (by simp))
    have h2 := ih (fun f hf => h f (by simp [hf]))
    simp only [allB, List.length_append, List.length_cons, Nat.add_mul]
    omega

set_option linter.unusedVariables false in
def cutF (b : List UInt8) : List (Nat × List UInt8) × Nat :=
  if h : b = [] then ([], 0) else
    if h2 : (splitF b).err ≠ 0 then ([], (splitF b).err) else
      match cutF (splitF b).rest with
      | (l, e) => if e ≠ 0 then ([], e) else (((splitF b).k, (splitF b).body) :: l, 0)
termination_by b.length
decreasing_by
  have hs : ¬ sizeF b = 0 := by
    intro h0
    apply h2
    unfold splitF
    rw [if_pos h0]
    decide
  obtain ⟨h7, hle, _⟩ := sizeF_bd b hs
  have hr : (splitF b).rest = b.drop (sizeF b) := by
    unfold splitF at h2 ⊢
    rw [if_neg hs] at h2 ⊢
    rcases wholeF_rest b (sizeF b) with ⟨h3, _⟩ | ⟨_, h4⟩
    · exact absurd h3 h2
    · exact h4
  rw [hr, List.length_drop]
  omega
theorem split_rest (b : List UInt8) (h : (splitF b).err = 0) : (splitF b).rest.length + 7 ≤ b.length := by
  have hs : ¬ sizeF b = 0 := by
    intro h0
    unfold splitF at h
    rw [if_pos h0] at h
    simp at h
  obtain ⟨h7, hle, _⟩ := sizeF_bd b hs
  unfold splitF at h ⊢
  rw [if_neg hs] at h ⊢
  rcases wholeF_rest b (sizeF b) with ⟨h3, _⟩ | ⟨_, h4⟩
  · exact absurd h h3
  · rw [h4, List.length_drop]; omega
theorem cutF_nil : cutF [] = ([], 0) := by rw [cutF, dif_pos rfl]
theorem cutF_bad (b : List UInt8) (h : b ≠ []) (h2 : (splitF b).err ≠ 0) : cutF b = ([], (splitF b).err) := by rw [cutF, dif_neg h, dif_pos h2]
theorem cutF_ok (b : List UInt8) (h : b ≠ []) (h2 : (splitF b).err = 0) : cutF b = if (cutF (splitF b).rest).2 ≠ 0 then ([], (cutF (splitF b).rest).2) else (((splitF b).k, (splitF b).body) :: (cutF (splitF b).rest).1, 0) := by
  rw [cutF, dif_neg h, dif_neg (by omega)]
theorem cutF_fault (b : List UInt8) : (cutF b).2 ≠ 0 → (cutF b).1 = [] := by
  rw [cutF]
  split
  · intro h; exact absurd rfl h
  · split
    · intro _; rfl
    · split
      rename_i l e _
      by_cases he : e ≠ 0
      · rw [if_pos he]; intro _; rfl
      · rw [if_neg he]; intro h; exact absurd rfl h
/-- What the frames' bytes are cut into. -/
theorem cutF_all (l : List Fr) (h0 : allErr l = 0) : (cutF (allB l)).2 = 0 ∧ (cutF (allB l)).1.length = l.length := by
  induction l with
  | nil => simp [allB, cutF_nil]
  | cons f r ih =>
    simp only [allErr] at h0
    by_cases he : encErr f.1 f.2 ≠ 0
    · rw [if_pos he] at h0; exact absurd h0 he
    · rw [if_neg he] at h0
      obtain ⟨i1, i2⟩ := ih h0
      have he : encErr f.1 f.2 = 0 := by omega
      have hk : 1 ≤ f.1 ∧ f.1 ≤ 255 ∧ f.2.length ≤ 65535 := by
        unfold encErr at he
        split at he
        · rename_i h1
          split at he
          · rename_i h2; exact ⟨h1.1, h1.2, h2⟩
          · omega
        · omega
      have hb : encB f.1 f.2 = frB f.1.toNat f.2 := by unfold encB; rw [if_pos he]
      have hs := frB_split f.1.toNat f.2 (allB r) (by omega) (by omega) hk.2.2
      have hne : frB f.1.toNat f.2 ++ allB r ≠ [] := by
        intro h
        have := congrArg List.length h
        simp [frB_length] at this
      simp only [allB]
      rw [hb, cutF_ok _ hne (by rw [hs]), hs]
      simp only []
      rw [i1]
      simp [i2]
end Go.Proofs.Ytckfghdocaojgaa
