/-
  The plain law of the reference for package ints, on: how two stand.
-/
import Derived.Test.YtajmjmnlapplaaaDoorPIntsx30
import Derived.Test.YtajmjmnlapplaaaDoorA5
namespace Go.Proofs.YtajmjmnlapplaaaDoor.Pure
set_option linter.unusedVariables false
open Go.RowKit Go.Proofs.YtajmjmnlapplaaaDoor.PInts Go.Proofs.YtajmjmnlapplaaaDoorW.PrintWords Go.Proofs.YtajmjmnlapplaaaDoorW.PrintLast
theorem rRel_yes (k : Nat) (n op a b : Int) (hk : 100 ≤ k) (h : R n) (h1 : 1 ≤ op) (h2 : op ≤ 10) (a0 : 0 ≤ a) (a1 : a < 18446744073709551616) (b0 : 0 ≤ b) (b1 : b < 18446744073709551616) :
    bodkinref02_Rel.f (k + 1) n op a b = some (relI n op (a % pw n) (b % pw n), 0) := by
  have hp := pw_pos n
  have ca := cut_bounds n a
  have cb := cut_bounds n b
  unfold bodkinref02_Rel.f
  rw [rRight_yes n h]
  simp only [Option.bind_some, if_true]
  rw [if_neg (by omega), decide_eq_false (show ¬ op > 10 by omega)]
  simp only [bodkinref02_Rel.j0, Bool.false_eq_true, if_false]
  rw [rCut k n a hk h a0 a1, rCut k n b hk h b0 b1]
  simp only [Option.bind_some]
  rw [rSigned k n _ hk h ca.1 (by omega), rSigned k n _ hk h cb.1 (by omega), cut_cut, cut_cut]
  simp only [Option.bind_some]
  rw [if_pos (by omega), if_pos (by simp; omega)]
  have : op = 1 ∨ op = 2 ∨ op = 3 ∨ op = 4 ∨ op = 5 ∨ op = 6 ∨ op = 7 ∨ op = 8 ∨ op = 9 ∨ op = 10 := by omega
  rcases this with rfl | rfl | rfl | rfl | rfl | rfl | rfl | rfl | rfl | rfl <;> rfl
theorem rRel_no (k : Nat) (n op a b : Int) (h : ¬ (R n ∧ 1 ≤ op ∧ op ≤ 10)) : bodkinref02_Rel.f (k + 1) n op a b = some (false, 1) := by
  unfold bodkinref02_Rel.f
  by_cases hR : R n
  · rw [rRight_yes n hR]
    simp only [Option.bind_some, if_true]
    by_cases h1 : op < 1
    · rw [if_pos h1]; simp [bodkinref02_Rel.j0]
    · rw [if_neg h1, decide_eq_true (show op > 10 from Int.not_le.1 fun h2 => h ⟨hR, by omega, h2⟩)]; simp [bodkinref02_Rel.j0]
  · rw [rRight_no n hR]
    simp [bodkinref02_Rel.j0]
theorem agree_rel (n op a b : Int) (a0 : 0 ≤ a) (a1 : a < 18446744073709551616) (b0 : 0 ≤ b) (b1 : b < 18446744073709551616) :
    ∃ r, ∀ k, 101 ≤ k → ints_Rel.f k n op a b = some r ∧ bodkinref02_Rel.f k n op a b = some r := by
  by_cases h : R n ∧ 1 ≤ op ∧ op ≤ 10
  · refine ⟨(relI n op (a % pw n) (b % pw n), 0), fun k hk => ?_⟩
    obtain ⟨k, rfl⟩ : ∃ m, k = m + 1 := ⟨k - 1, by omega⟩
    exact ⟨rel_yes k n op a b h.1 h.2.1 h.2.2 a0 a1 b0 b1, rRel_yes k n op a b (by omega) h.1 h.2.1 h.2.2 a0 a1 b0 b1⟩
  · refine ⟨(false, 1), fun k hk => ?_⟩
    obtain ⟨k, rfl⟩ : ∃ m, k = m + 1 := ⟨k - 1, by omega⟩
    exact ⟨rel_no k n op a b h, rRel_no k n op a b h⟩
end Go.Proofs.YtajmjmnlapplaaaDoor.Pure
