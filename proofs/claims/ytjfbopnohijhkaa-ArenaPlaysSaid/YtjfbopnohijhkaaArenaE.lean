/- A call of any kind; what it answers does not lie at the base; as many bytes as there were. -/
import Derived.Test.YtjfbopnohijhkaaArenaD1
import Derived.Test.YtjfbopnohijhkaaArenaD2
import Derived.Test.YtjfbopnohijhkaaArenaD3
import Derived.Test.YtjfbopnohijhkaaArenaD4
namespace Go.Proofs.Ytjfbopnohijhkaa
open Go.RowKit
set_option linter.unusedVariables false
section
variable {T : TypeId} {g gb : Nat} {base : Int} {bs : List UInt8} {w : World}
theorem do_any (hA : Arn w T g gb base bs) (k at_ to_ n : Int) (Wd : Nat) (A : Option Addr) (cap : Nat) (xs : List UInt8) (near : Bool) (hW : Wd < 18446744073709551616) (hr : RdB w A xs) (hxl : xs.length ≤ 140737488355328) :
    Calls Try.prog 27 #[.pointer (some ⟨g, 0, none⟩), .int .i64 base, .agg #[.int .i64 k, .int .i64 at_, .int .i64 to_, .int .i64 n, .int .u64 (Wd : Int), .slice A xs.length cap, .bool near]] w fun e w' => DoPost w T g gb base (ans base bs ⟨k, at_, to_, n, Wd, xs, near⟩) e w' := by
  by_cases h1 : k = 1
  · subst h1; exact do1_any hA at_ to_ n Wd A cap xs near hW hr hxl
  by_cases h2 : k = 2
  · subst h2; exact do2_any hA at_ to_ n Wd A cap xs near hW hr hxl
  by_cases h3 : k = 3
  · subst h3; exact do3_any hA at_ to_ n Wd A cap xs near hW hr hxl
  by_cases h4 : k = 4
  · subst h4; exact do4_any hA at_ to_ n Wd A cap xs near hW hr hxl
  by_cases h5 : k = 5
  · subst h5; exact do5_any hA at_ to_ n Wd A cap xs near hW hr hxl
  by_cases h6 : k = 6
  · subst h6; exact do6_any hA at_ to_ n Wd A cap xs near hW hr hxl
  by_cases h7 : k = 7
  · subst h7; exact do7_any hA at_ to_ n Wd A cap xs near hW hr hxl
  by_cases h8 : k = 8
  · subst h8; exact do8_any hA at_ to_ n Wd A cap xs near hW hr hxl
  rw [show ans base bs ⟨k, at_, to_, n, Wd, xs, near⟩ = ⟨0, 0, 0, 0, [], bs⟩ by unfold ans; rw [if_neg h1, if_neg h2, if_neg h3, if_neg h4, if_neg h5, if_neg h6, if_neg h7, if_neg h8]]
  exact do0_any hA k ⟨h1, h2, h3, h4, h5, h6, h7, h8⟩ at_ to_ n Wd A cap xs near hW hr hxl
theorem want_any (hA : Arn w T g gb base bs) (k at_ to_ n : Int) (Wd : Nat) (A : Option Addr) (cap : Nat) (xs : List UInt8) (near : Bool) (hW : Wd < 18446744073709551616) (hr : RdB w A xs) (hne : ∀ a, A = some a → 0 < xs.length → a.block ≠ gb) :
    Calls Try.prog 28 #[.pointer (some ⟨g, 0, none⟩), .agg #[.int .i64 k, .int .i64 at_, .int .i64 to_, .int .i64 n, .int .u64 (Wd : Int), .slice A xs.length cap, .bool near]] w fun e w' => DoPost w T g gb base (ans base bs ⟨k, at_, to_, n, Wd, xs, near⟩) e w' := by
  by_cases h1 : k = 1
  · subst h1; exact want1_any hA at_ to_ n Wd A cap xs near hW hr hne
  by_cases h2 : k = 2
  · subst h2; exact want2_any hA at_ to_ n Wd A cap xs near hW hr hne
  by_cases h3 : k = 3
  · subst h3; exact want3_any hA at_ to_ n Wd A cap xs near hW hr hne
  by_cases h4 : k = 4
  · subst h4; exact want4_any hA at_ to_ n Wd A cap xs near hW hr hne
  by_cases h5 : k = 5
  · subst h5; exact want5_any hA at_ to_ n Wd A cap xs near hW hr hne
  by_cases h6 : k = 6
  · subst h6; exact want6_any hA at_ to_ n Wd A cap xs near hW hr hne
  by_cases h7 : k = 7
  · subst h7; exact want7_any hA at_ to_ n Wd A cap xs near hW hr hne
  by_cases h8 : k = 8
  · subst h8; exact want8_any hA at_ to_ n Wd A cap xs near hW hr hne
  rw [show ans base bs ⟨k, at_, to_, n, Wd, xs, near⟩ = ⟨0, 0, 0, 0, [], bs⟩ by unfold ans; rw [if_neg h1, if_neg h2, if_neg h3, if_neg h4, if_neg h5, if_neg h6, if_neg h7, if_neg h8]]
  exact want0_any hA k ⟨h1, h2, h3, h4, h5, h6, h7, h8⟩ at_ to_ n Wd A cap xs near hW hr hne
end
theorem inA_sh (base : Int) (L : Nat) (t n : Int) : inA base L (base + t) n = inA 0 L t n := by
  unfold inA; exact decide_eq_decide.2 ⟨by omega, by omega⟩
theorem rdA_sh (base : Int) (bs : List UInt8) (t n : Int) : rdA base bs (base + t) n = rdA 0 bs t n := by
  unfold rdA; rw [inA_sh, show base + t - base = t - 0 by omega]
theorem wrB_sh (base : Int) (bs : List UInt8) (t : Int) (xs : List UInt8) : wrB base bs (base + t) xs = wrB 0 bs t xs := by
  unfold wrB; rw [inA_sh, show base + t - base = t - 0 by omega]
theorem ans_sh (base : Int) (bs : List UInt8) (c : Cl) (h : c.near = true) : ans base bs c = ans 0 bs c := by
  unfold ans ans1 ans2 ans3 ans4 ans5 ans6 ans7
  rw [h]
  simp only [nearA, Int.zero_add, inA_sh, rdA_sh, wrB_sh, show ∀ t : Int, base + t - base = t - 0 from fun t => by omega]
theorem len_rdA (base : Int) (bs : List UInt8) (a n : Int) : (rdA base bs a n).length ≤ bs.length := by
  unfold rdA
  split
  · rw [List.length_take, List.length_drop]; omega
  · simp
theorem len_wrB (base : Int) (bs : List UInt8) (a : Int) (xs : List UInt8) : (wrB base bs a xs).length = bs.length := by
  unfold wrB
  split
  · rename_i h
    obtain ⟨i, m, h1, h2, h3⟩ := inA_at h
    exact length_splice _ _ _ (by omega)
  · rfl
theorem len_ans (base : Int) (bs : List UInt8) (c : Cl) : (ans base bs c).st.length = bs.length ∧ (ans base bs c).out.length ≤ bs.length := by
  unfold ans
  repeat' split
  all_goals (try unfold ans1); (try unfold ans2); (try unfold ans3); (try unfold ans4); (try unfold ans5); (try unfold ans6); (try unfold ans7); (try unfold ans8)
  all_goals (try split)
  all_goals (try simp [len_rdA, len_wrB])
  rename_i h
  obtain ⟨i, m, h1, h2, h3⟩ := inA_at h
  exact length_splice _ _ _ (by rw [List.length_replicate]; omega)
end Go.Proofs.Ytjfbopnohijhkaa
