/- What is written is read again, and what is read is what is written. No program in sight. -/
import Derived.Test.YtdeeeipdgoafaaaRdMath2
namespace Go.Proofs.Ytdeeeipdgoafaaa
open Go.RowKit
theorem rdV_write (v : Nat) (ys : List UInt8) (h : v < 18446744073709551616) : rdV (varB v ++ ys) 0 = (v, ys, 0) := by
  have h1 := vr_write v 0 0 ys (by omega) (by simpa using h) (by omega)
  simp only [Nat.pow_zero, Nat.mul_one, Nat.zero_add] at h1
  unfold rdV
  rw [if_neg (by simp), h1, if_pos rfl, List.drop_left']
  rfl
theorem rdU_write (v most : Nat) (ys : List UInt8) (h : v < 18446744073709551616) (hm : v ≤ most) : rdU (varB v ++ ys) 0 most = (v, ys, 0) := by
  unfold rdU; rw [rdV_write v ys h, if_neg (by show ¬ most < v; omega)]
theorem rdV_canon (xs : List UInt8) (er : Nat) (h : (rdV xs er).2.2 = 0) : er = 0 ∧ xs = varB (rdV xs er).1 ++ (rdV xs er).2.1 := by
  by_cases he : er = 0
  · subst he
    refine ⟨rfl, ?_⟩
    unfold rdV at h ⊢
    rw [if_neg (by simp)] at h ⊢
    by_cases h0 : (vr 0 0 xs).2.2 = 0
    · obtain ⟨u, more, q1, q2, q3, _⟩ := vr_canon xs 0 0 h0
      rw [if_pos h0]
      simp only [Nat.pow_zero, Nat.mul_one, Nat.zero_add] at q2 q3
      show xs = varB (vr 0 0 xs).1 ++ xs.drop (vr 0 0 xs).2.1
      rw [q2, q3, q1, List.drop_left' rfl]
    · rw [if_neg h0] at h; exact absurd h h0
  · rw [rdV_err xs er he] at h; exact absurd h he
theorem rdU_canon (xs : List UInt8) (er most : Nat) (h : (rdU xs er most).2.2 = 0) : er = 0 ∧ xs = varB (rdU xs er most).1 ++ (rdU xs er most).2.1 ∧ (rdU xs er most).1 ≤ most := by
  unfold rdU at h ⊢
  by_cases hm : most < (rdV xs er).1
  · rw [if_pos hm] at h; simp at h
  · rw [if_neg hm] at h ⊢
    obtain ⟨h1, h2⟩ := rdV_canon xs er h
    exact ⟨h1, h2, by omega⟩
theorem rdWs_write (S : Int) (hS : S ≤ 4096) (more : List UInt8) : ∀ (ps : List Int) (next : Int) (acc : List Int), 0 ≤ next → next % 8 = 0 → okFrom S next ps = true → rdWs S ps.length next (wordsB next ps ++ more) 0 acc = (acc ++ ps, more, 0) := by
  intro ps
  induction ps with
  | nil => intro next acc _ _ _; rw [List.length_nil, rdWs_zero]; simp [wordsB]
  | cons p r ih =>
    intro next acc h0 h8 hok
    obtain ⟨q1, q2, q3, q4⟩ := okFrom_next hok
    rw [wordsB_cons, List.length_cons, rdWs_succ, List.append_assoc, rdU_write _ 512 _ (by omega) (by omega)]
    have hp : next + 8 * ((((p - next) / 8).toNat : Nat) : Int) = p := by omega
    show rdWs S r.length (next + 8 * ((((p - next) / 8).toNat : Nat) : Int) + 8) _ (failE (decide (S - 8 < next + 8 * ((((p - next) / 8).toNat : Nat) : Int))) 0) (acc ++ [next + 8 * ((((p - next) / 8).toNat : Nat) : Int)]) = _
    rw [hp, decide_eq_false (show ¬ S - 8 < p by omega)]
    show rdWs S r.length (p + 8) (wordsB (p + 8) r ++ more) 0 (acc ++ [p]) = _
    rw [ih (p + 8) (acc ++ [p]) (by omega) (by omega) q4, List.append_assoc]; rfl
theorem rdK_write (S : Int) (ps : List Int) (more : List UInt8) (h : chk S ps = 0) : rdK (kindB S ps ++ more) 0 = ⟨S, ps, more, 0⟩ := by
  obtain ⟨h1, h2, h3, _⟩ := chk_zero h
  have hok := chk_ok h
  have e1 : rdK1 (kindB S ps ++ more) 0 = (S.toNat, varB ps.length ++ (wordsB 0 ps ++ more), 0) := by
    unfold rdK1 kindB
    rw [if_pos h, List.append_assoc, List.append_assoc, rdU_write S.toNat 4096 _ (by omega) (by omega)]
    show (S.toNat, _, failE (decide (S.toNat = 0)) 0) = _
    rw [decide_eq_false (by omega)]; rfl
  have e2 : rdK2 (kindB S ps ++ more) 0 = (ps.length, wordsB 0 ps ++ more, 0) := by
    unfold rdK2; rw [e1]; exact rdU_write ps.length 16 _ (by omega) (by omega)
  have e3 : rdK3 (kindB S ps ++ more) 0 = (ps, more, 0) := by
    unfold rdK3; rw [e1, e2]
    show rdWs ((S.toNat : Nat) : Int) ps.length 0 (wordsB 0 ps ++ more) 0 [] = _
    rw [show ((S.toNat : Nat) : Int) = S by omega, rdWs_write S h2 more ps 0 [] (by omega) (by omega) hok]; rfl
  unfold rdK
  rw [e3, e1, if_neg (by simp)]
  show (⟨((S.toNat : Nat) : Int), ps, more, 0⟩ : RdK) = _
  rw [show ((S.toNat : Nat) : Int) = S by omega]
theorem rdWs_canon (S : Int) (k : Nat) : ∀ (next : Int) (ys : List UInt8) (er : Nat) (acc : List Int), 0 ≤ next → next % 8 = 0 → (rdWs S k next ys er acc).2.2 = 0 → er = 0 ∧ ∃ ps, (rdWs S k next ys er acc).1 = acc ++ ps ∧ ps.length = k ∧ okFrom S next ps = true ∧ ys = wordsB next ps ++ (rdWs S k next ys er acc).2.1 := by
  induction k with
  | zero => intro next ys er acc _ _ h; exact ⟨h, [], by rw [rdWs_zero]; simp, rfl, rfl, by rw [rdWs_zero]; simp [wordsB]⟩
  | succ k ih =>
    intro next ys er acc h0 h8 h
    rw [rdWs_succ] at h ⊢
    obtain ⟨q1, ps, q2, q3, q4, q5⟩ := ih _ _ _ _ (by omega) (by omega) h
    have hf : (rdU ys er 512).2.2 = 0 ∧ ¬ S - 8 < next + 8 * ((rdU ys er 512).1 : Int) := by
      unfold failE at q1
      by_cases hd : S - 8 < next + 8 * ((rdU ys er 512).1 : Int)
      · rw [decide_eq_true hd, if_pos rfl] at q1
        split at q1
        · omega
        · omega
      · rw [decide_eq_false hd] at q1
        exact ⟨by simpa using q1, hd⟩
    obtain ⟨r1, r2, r3⟩ := rdU_canon ys er 512 hf.1
    refine ⟨r1, (next + 8 * ((rdU ys er 512).1 : Int)) :: ps, by rw [q2]; simp, by simp [q3], ?_, ?_⟩
    · rw [okFrom_cons, if_pos ⟨by omega, by omega, by omega⟩]; exact q4
    · rw [wordsB_cons, show ((next + 8 * ((rdU ys er 512).1 : Int) - next) / 8).toNat = (rdU ys er 512).1 by omega, List.append_assoc, ← q5]
      exact r2
theorem rdK_canon (xs : List UInt8) (h : (rdK xs 0).er = 0) : chk (rdK xs 0).S (rdK xs 0).ps = 0 ∧ xs = kindB (rdK xs 0).S (rdK xs 0).ps ++ (rdK xs 0).left := by
  have h3 : (rdK3 xs 0).2.2 = 0 := by
    unfold rdK at h
    by_cases hh : (rdK3 xs 0).2.2 ≠ 0
    · rw [if_pos hh] at h; exact absurd h hh
    · omega
  have e : rdK xs 0 = ⟨((rdK1 xs 0).1 : Int), (rdK3 xs 0).1, (rdK3 xs 0).2.1, (rdK3 xs 0).2.2⟩ := by unfold rdK; rw [if_neg (by omega)]
  rw [e]
  show chk ((rdK1 xs 0).1 : Int) (rdK3 xs 0).1 = 0 ∧ xs = kindB ((rdK1 xs 0).1 : Int) (rdK3 xs 0).1 ++ (rdK3 xs 0).2.1
  obtain ⟨q1, ps, q2, q3, q4, q5⟩ := rdWs_canon ((rdK1 xs 0).1 : Int) (rdK2 xs 0).1 0 (rdK2 xs 0).2.1 (rdK2 xs 0).2.2 [] (by omega) (by omega) h3
  obtain ⟨r1, r2, r3⟩ := rdU_canon (rdK1 xs 0).2.1 (rdK1 xs 0).2.2 16 q1
  have hf : (rdU xs 0 4096).2.2 = 0 ∧ (rdU xs 0 4096).1 ≠ 0 := by
    have r1' : failE (decide ((rdU xs 0 4096).1 = 0)) (rdU xs 0 4096).2.2 = 0 := r1
    unfold failE at r1'
    by_cases hd : (rdU xs 0 4096).1 = 0
    · rw [decide_eq_true hd, if_pos rfl] at r1'
      split at r1' <;> omega
    · rw [decide_eq_false hd] at r1'
      exact ⟨by simpa using r1', hd⟩
  obtain ⟨_, s2, s3⟩ := rdU_canon xs 0 4096 hf.1
  have hps : (rdK3 xs 0).1 = ps := q2
  have hs1 : (rdK1 xs 0).1 = (rdU xs 0 4096).1 := rfl
  have hc : chk ((rdK1 xs 0).1 : Int) ps = 0 := by
    unfold chk
    have hk16 : ps.length ≤ 16 := by rw [q3]; exact r3
    rw [if_neg (by rw [hs1]; omega), if_neg (by omega), if_pos q4]
  rw [hps]
  refine ⟨hc, ?_⟩
  unfold kindB
  rw [if_pos hc, List.append_assoc, List.append_assoc, q3, show ((rdK1 xs 0).1 : Int).toNat = (rdU xs 0 4096).1 by rw [hs1]; omega]
  have q5' : (rdK2 xs 0).2.1 = wordsB 0 ps ++ (rdK3 xs 0).2.1 := q5
  rw [← q5']
  have r2' : (rdU xs 0 4096).2.1 = varB (rdK2 xs 0).1 ++ (rdK2 xs 0).2.1 := r2
  rw [← r2']
  exact s2
end Go.Proofs.Ytdeeeipdgoafaaa
