/- Kinds in plain numbers: what is wrong with one, which bytes are plain. No program in sight. -/
import Derived.Test.YtdeeeipdgoafaaaNumMath
namespace Go.Proofs.Ytdeeeipdgoafaaa

def okFrom (S : Int) : Int → List Int → Bool
  | _, [] => true
  | next, p :: r => if p % 8 = 0 ∧ next ≤ p ∧ p ≤ S - 8 then okFrom S (p + 8) r else false
/-- What is wrong with a kind. -/
def chk (S : Int) (ps : List Int) : Int := if S < 1 ∨ 4096 < S then 2 else if 16 < ps.length then 6 else if okFrom S 0 ps = true then 0 else 11
theorem okFrom_cons (S next p : Int) (r : List Int) : okFrom S next (p :: r) = if p % 8 = 0 ∧ next ≤ p ∧ p ≤ S - 8 then okFrom S (p + 8) r else false := rfl
theorem drop_cons (ps : List Int) (k : Nat) (h : k < ps.length) : ps.drop k = ps[k] :: ps.drop (k + 1) := List.drop_eq_getElem_cons h
theorem okFrom_mem (S : Int) : ∀ (ps : List Int) (next : Int), okFrom S next ps = true → ∀ p ∈ ps, next ≤ p ∧ p ≤ S - 8 := by
  intro ps
  induction ps with
  | nil => intro next _ p hp; cases hp
  | cons q r ih =>
    intro next h p hp
    rw [okFrom_cons] at h
    by_cases hq : q % 8 = 0 ∧ next ≤ q ∧ q ≤ S - 8
    · rw [if_pos hq] at h
      rcases List.mem_cons.1 hp with rfl | hp
      · exact hq.2
      · have := ih (q + 8) h p hp; omega
    · rw [if_neg hq] at h; cases h
theorem chk_zero {S : Int} {ps : List Int} (h : chk S ps = 0) : 1 ≤ S ∧ S ≤ 4096 ∧ ps.length ≤ 16 ∧ ∀ p ∈ ps, 0 ≤ p ∧ p ≤ S - 8 := by
  unfold chk at h
  split at h
  · omega
  · split at h
    · omega
    · split at h
      · rename_i h3
        exact ⟨by omega, by omega, by omega, okFrom_mem S ps 0 h3⟩
      · omega
def overlaps (at_ n : Int) : List Int → Bool
  | [] => false
  | p :: r => if 0 < n ∧ p < at_ + n ∧ at_ < p + 8 then true else overlaps at_ n r
def plain (S : Int) (ps : List Int) (at_ n : Int) : Bool := if chk S ps = 0 ∧ 0 ≤ at_ ∧ at_ ≤ S ∧ 0 ≤ n ∧ n ≤ S - at_ then !overlaps at_ n ps else false
theorem overlaps_cons (at_ n p : Int) (r : List Int) : overlaps at_ n (p :: r) = if 0 < n ∧ p < at_ + n ∧ at_ < p + 8 then true else overlaps at_ n r := rfl
theorem overlaps_mem (at_ n : Int) : ∀ ps : List Int, overlaps at_ n ps = true ↔ ∃ p ∈ ps, 0 < n ∧ p < at_ + n ∧ at_ < p + 8 := by
  intro ps
  induction ps with
  | nil => simp [overlaps]
  | cons p r ih =>
    rw [overlaps_cons]
    by_cases h : 0 < n ∧ p < at_ + n ∧ at_ < p + 8
    · rw [if_pos h]; exact ⟨fun _ => ⟨p, by simp, h⟩, fun _ => rfl⟩
    · rw [if_neg h, ih]
      constructor
      · rintro ⟨q, hq, hh⟩; exact ⟨q, by simp [hq], hh⟩
      · rintro ⟨q, hq, hh⟩
        rcases List.mem_cons.1 hq with rfl | hq
        · exact absurd hh h
        · exact ⟨q, hq, hh⟩
/-- A kind's fields as bytes: the words between each and the one ahead. -/
def wordsB : Int → List Int → List UInt8
  | _, [] => []
  | next, p :: r => varB ((p - next) / 8).toNat ++ wordsB (p + 8) r
/-- A kind's bytes. -/
def kindB (S : Int) (ps : List Int) : List UInt8 := if chk S ps = 0 then varB S.toNat ++ varB ps.length ++ wordsB 0 ps else []
theorem wordsB_cons (next p : Int) (r : List Int) : wordsB next (p :: r) = varB ((p - next) / 8).toNat ++ wordsB (p + 8) r := rfl
theorem okFrom_next {S next p : Int} {r : List Int} (h : okFrom S next (p :: r) = true) : p % 8 = 0 ∧ next ≤ p ∧ p ≤ S - 8 ∧ okFrom S (p + 8) r = true := by
  rw [okFrom_cons] at h
  by_cases hq : p % 8 = 0 ∧ next ≤ p ∧ p ≤ S - 8
  · rw [if_pos hq] at h; exact ⟨hq.1, hq.2.1, hq.2.2, h⟩
  · rw [if_neg hq] at h; cases h
theorem chk_ok {S : Int} {ps : List Int} (h : chk S ps = 0) : okFrom S 0 ps = true := by
  unfold chk at h
  split at h
  · omega
  · split at h
    · omega
    · split at h
      · assumption
      · omega
end Go.Proofs.Ytdeeeipdgoafaaa
