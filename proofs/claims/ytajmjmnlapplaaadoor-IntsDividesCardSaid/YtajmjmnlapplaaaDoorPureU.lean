/-
  The plain law of ints.Un: the size of a number, and its opposite.
-/
import Derived.Test.YtajmjmnlapplaaaDoorPIntsx14
import Derived.Test.YtajmjmnlapplaaaDoorPureE
namespace Go.Proofs.YtajmjmnlapplaaaDoor.Pure
set_option linter.unusedVariables false
set_option linter.unusedSimpArgs false
open Go.RowKit Go.Proofs.YtajmjmnlapplaaaDoor.PInts Go.Proofs.YtajmjmnlapplaaaDoorW.PrintWords Go.Proofs.YtajmjmnlapplaaaDoorW.PrintLast Go.Proofs.YtajmjmnlapplaaaDoorW.PrintMore

theorem un_no (k : Nat) (n op a : Int) (h : ¬ (R n ∧ 1 ≤ op ∧ op ≤ 8)) : ints_Un.f (k + 1) n op a = some (0, 1) := by
  unfold ints_Un.f
  by_cases hR : R n
  · rw [right_yes n hR]
    simp only [Option.bind_some, if_true]
    by_cases h1 : op < 1
    · rw [if_pos h1]; simp [ints_Un.j0]
    · rw [if_neg h1, decide_eq_true (show op > 8 from Int.not_le.1 fun h2 => h ⟨hR, by omega, h2⟩)]; simp [ints_Un.j0]
  · rw [right_no n hR]
    simp [ints_Un.j0]
theorem sg_cut (n z : Int) (h : R n) (h0 : - (pw n / 2) ≤ z) (h1 : z ≤ pw n / 2 - 1) : sg n (z % pw n) = z := by
  have e := pw_even n h
  unfold sg
  by_cases hz : 0 ≤ z
  · rw [Int.emod_eq_of_lt hz (by omega), if_pos (by omega)]
  · have : z % pw n = z + pw n := by
      rw [← Int.add_emod_right]; exact Int.emod_eq_of_lt (by omega) (by omega)
    rw [this, if_neg (by omega)]; omega
section
variable (k : Nat) (n a : Int) (h : R n) (a0 : 0 ≤ a) (a1 : a < 18446744073709551616)
include h a0 a1
theorem un_abs : ints_Un.f (k + 1) n 7 a = some (if sg n (a % pw n) ≥ 0 then a % pw n else (- (a % pw n)) % pw n, 0) := by
  have ca := cut_bounds n a; have hp := pw_pos n
  unfold ints_Un.f
  rw [right_yes n h]
  simp only [Option.bind_some, if_true]
  rw [if_neg (by decide), show decide ((7 : Int) > 8) = false from rfl]
  simp only [ints_Un.j0]
  rw [mask_ok n h]
  simp only [Option.bind_some, Bool.false_eq_true, if_false]
  rw [if_neg (by decide), if_neg (by decide), if_neg (by decide), if_pos True.intro, and_mask n a h a0 a1, signed_ok n _ h ca.1 (by omega), cut_cut]
  simp only [Option.bind_some]
  rw [wrap_cut n _ h]
  split <;> rfl
theorem un_neg : ints_Un.f (k + 1) n 8 a = some ((- (a % pw n)) % pw n, 0) := by
  have ca := cut_bounds n a; have hp := pw_pos n
  unfold ints_Un.f
  rw [right_yes n h]
  simp only [Option.bind_some, if_true]
  rw [if_neg (by decide), show decide ((8 : Int) > 8) = false from rfl]
  simp only [ints_Un.j0]
  rw [mask_ok n h]
  simp only [Option.bind_some, Bool.false_eq_true, if_false]
  rw [if_neg (by decide), if_neg (by decide), if_neg (by decide), if_neg (by decide), if_pos True.intro, and_mask n a h a0 a1]
  rw [wrap_cut n _ h]
end
theorem awake_at (k : Nat) (h : 20 ≤ k) : bodkinlaw02_awake.f k = some true := at_rounds (bodkinlaw02_awake.mono) h awake_ok
end Go.Proofs.YtajmjmnlapplaaaDoor.Pure
