/-
  The program's small functions over formats, in closed form: signs, sizes, parts. No condition but that a word is one.
-/
import Derived.Test.YtonofklhapfdpaaPConvx4
import Derived.Test.YtonofklhapfdpaaPConvx5
import Derived.Test.YtonofklhapfdpaaFl
namespace Go.Proofs.Ytonofklhapfdpaa.Pure
set_option linter.unusedVariables false
set_option linter.unusedSimpArgs false
open Go.RowKit Go.Proofs.Ytonofklhapfdpaa.PConv Go.Proofs.Ytonofklhapfdpaa.Fl Go.Proofs.YtonofklhapfdpaaW.PrintWords

/-- The two formats, as the program has them. -/
def Pq (p q : Int) (f : Ieee.Format) : Prop := (p = 23 ∧ q = 8 ∧ f = Ieee.single) ∨ (p = 52 ∧ q = 11 ∧ f = Ieee.double)

theorem and_mask (A k : Nat) (hA : A < 18446744073709551616) (hk : k ≤ 64) : Go.bits .and .u64 (A : Int) ((2 ^ k : Nat) - 1 : Int) = ((A % 2 ^ k : Nat) : Int) := by
  unfold Go.bits
  have h2 : 2 ^ k ≤ 18446744073709551616 := by
    have : 2 ^ k ≤ 2 ^ 64 := Nat.pow_le_pow_right (by decide) hk
    exact this
  have hp := pw_pos k
  have e : ((2 ^ k : Nat) - 1 : Int) = ((2 ^ k - 1 : Nat) : Int) := by omega
  have hb : IntKind.bits .u64 = 64 := rfl
  simp only [e]
  rw [IntKind.wrap_u64, BitVec.toNat_and, BitVec.ofInt_natCast, BitVec.ofInt_natCast, BitVec.toNat_ofNat, BitVec.toNat_ofNat, hb]
  rw [Nat.mod_eq_of_lt (show A < 2 ^ 64 from hA), Nat.mod_eq_of_lt (show 2 ^ k - 1 < 2 ^ 64 by omega), Nat.and_two_pow_sub_one_eq_mod]
  have := Nat.mod_lt A hp
  omega
theorem and_pow (A k : Nat) : A &&& 2 ^ k = if A / 2 ^ k % 2 = 1 then 2 ^ k else 0 := by
  apply Nat.eq_of_testBit_eq
  intro i
  rw [Nat.testBit_and, Nat.testBit_two_pow]
  by_cases h : A / 2 ^ k % 2 = 1
  · rw [if_pos h, Nat.testBit_two_pow]
    by_cases e : k = i
    · subst e
      rw [Nat.testBit_eq_decide_div_mod_eq, decide_eq_true h]; simp
    · simp [e]
  · rw [if_neg h, Nat.zero_testBit]
    by_cases e : k = i
    · subst e
      rw [Nat.testBit_eq_decide_div_mod_eq, decide_eq_false h]; simp
    · simp [e]
theorem and_bit (A k : Nat) (hA : A < 18446744073709551616) (hk : k ≤ 63) : (Go.bits .and .u64 (A : Int) ((2 ^ k : Nat) : Int) != 0) = (A / 2 ^ k % 2 == 1) := by
  unfold Go.bits
  have h2 : 2 ^ k < 18446744073709551616 := by
    have : 2 ^ k < 2 ^ 64 := Nat.pow_lt_pow_right (by decide) (by omega)
    exact this
  have hb : IntKind.bits .u64 = 64 := rfl
  simp only
  rw [IntKind.wrap_u64, BitVec.toNat_and, BitVec.ofInt_natCast, BitVec.ofInt_natCast, BitVec.toNat_ofNat, BitVec.toNat_ofNat, hb]
  rw [Nat.mod_eq_of_lt (show A < 2 ^ 64 from hA), Nat.mod_eq_of_lt (show 2 ^ k < 2 ^ 64 from h2), and_pow]
  have hp := pw_pos k
  by_cases h : A / 2 ^ k % 2 = 1
  · rw [if_pos h, h, beq_self_eq_true, bne_iff_ne]
    omega
  · rw [if_neg h]
    have : A / 2 ^ k % 2 = 0 := by omega
    rw [this]; rfl
theorem or_top (A k : Nat) (hA : A < 2 ^ k) (hk : k ≤ 63) : Go.bits .or .u64 (A : Int) ((2 ^ k : Nat) : Int) = ((2 ^ k + A : Nat) : Int) := by
  unfold Go.bits
  have h2 : 2 ^ k < 2 ^ 64 := Nat.pow_lt_pow_right (by decide) (by omega)
  have h3 : 2 ^ (k + 1) ≤ 2 ^ 64 := Nat.pow_le_pow_right (by decide) (by omega)
  have h4 : 2 ^ (k + 1) = 2 * 2 ^ k := by rw [Nat.pow_succ, Nat.mul_comm]
  have hb : IntKind.bits .u64 = 64 := rfl
  simp only
  rw [IntKind.wrap_u64, BitVec.toNat_or, BitVec.ofInt_natCast, BitVec.ofInt_natCast, BitVec.toNat_ofNat, BitVec.toNat_ofNat, hb]
  rw [Nat.mod_eq_of_lt (show A < 2 ^ 64 by omega), Nat.mod_eq_of_lt h2]
  have e : A ||| 2 ^ k = 2 ^ k + A := by
    rw [Nat.or_comm]
    have := Nat.two_pow_add_eq_or_of_lt hA 1
    rw [Nat.mul_one] at this
    exact this.symm
  rw [e]
  have : 2 ^ 64 = 18446744073709551616 := by decide
  omega

theorem c_sign {p q f} (h : Pq p q f) : floats_format_sign.f p q = some (f.signWeight : Int) := by
  rcases h with ⟨rfl, rfl, rfl⟩ | ⟨rfl, rfl, rfl⟩ <;> decide +kernel
theorem c_inf {p q f} (h : Pq p q f) : floats_format_infinity.f p q = some (f.infRung : Int) := by
  rcases h with ⟨rfl, rfl, rfl⟩ | ⟨rfl, rfl, rfl⟩ <;> decide +kernel
theorem c_least {p q f} (h : Pq p q f) : floats_format_least.f p q = some f.leastPlace := by
  rcases h with ⟨rfl, rfl, rfl⟩ | ⟨rfl, rfl, rfl⟩ <;> decide +kernel
theorem c_none {p q f} (h : Pq p q f) : floats_format_none.f p q = some false := by
  rcases h with ⟨rfl, rfl, rfl⟩ | ⟨rfl, rfl, rfl⟩ <;> decide +kernel
/-- The sign's place. -/
theorem sgn_pow {p q f} (h : Pq p q f) : ∃ k : Nat, k ≤ 63 ∧ 31 ≤ k ∧ f.signWeight = 2 ^ k := by
  rcases h with ⟨rfl, rfl, rfl⟩ | ⟨rfl, rfl, rfl⟩
  · exact ⟨31, by decide, by decide, rfl⟩
  · exact ⟨63, by decide, by decide, rfl⟩
theorem bin_ok {p q f} (h : Pq p q f) : f.binade ≤ f.infRung := by
  rcases h with ⟨rfl, rfl, rfl⟩ | ⟨rfl, rfl, rfl⟩
  · exact bin_single
  · exact bin_double
theorem c_size {p q f} (h : Pq p q f) (A : Nat) (hA : A < 18446744073709551616) : floats_format_size.f p q A = some (rungOf f A : Int) := by
  obtain ⟨k, hk, hk2, e⟩ := sgn_pow h
  unfold floats_format_size.f
  rw [c_sign h]
  simp only [Option.bind_some]
  have h2 : 2 ^ k ≤ 2 ^ 63 := Nat.pow_le_pow_right (by decide) hk
  have hp := pw_pos k
  rw [e, IntKind.wrap_u64, show (((2 ^ k : Nat) : Int) - 1) % 18446744073709551616 = ((2 ^ k : Nat) : Int) - 1 from by omega, and_mask A k hA (by omega)]
  unfold rungOf
  rw [e]
theorem c_neg {p q f} (h : Pq p q f) (A : Nat) (hA : A < 18446744073709551616) : floats_format_neg.f p q A = some (negOf f A) := by
  obtain ⟨k, hk, hk2, e⟩ := sgn_pow h
  unfold floats_format_neg.f
  rw [c_sign h]
  simp only [Option.bind_some]
  rw [e, and_bit A k hA hk]
  unfold negOf
  rw [e]
theorem c_signed {p q f} (h : Pq p q f) (neg : Bool) (r : Nat) (hr : r < f.signWeight) : floats_format_signed.f p q neg r = some (f.word neg r : Int) := by
  obtain ⟨k, hk, hk2, e⟩ := sgn_pow h
  unfold floats_format_signed.f Ieee.Format.word
  cases neg
  · rfl
  · rw [if_pos rfl, if_pos rfl, c_sign h]
    simp only [Option.bind_some]
    rw [e] at hr ⊢
    rw [or_top r k hr hk]
theorem c_quiet {p q f} (h : Pq p q f) : ∃ n : Int, (n = 32 ∨ n = 64) ∧ floats_format_nan.f p q = some (canon n) ∧ floats_of.f n = some (p, q) ∧ fmtOf n = f := by
  rcases h with ⟨rfl, rfl, rfl⟩ | ⟨rfl, rfl, rfl⟩
  · exact ⟨32, .inl rfl, by decide +kernel, rfl, rfl⟩
  · exact ⟨64, .inr rfl, by decide +kernel, rfl, rfl⟩
end Go.Proofs.Ytonofklhapfdpaa.Pure
