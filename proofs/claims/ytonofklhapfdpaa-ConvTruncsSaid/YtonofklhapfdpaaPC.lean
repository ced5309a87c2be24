/-
  The program's parts, jamming, order and sum, in closed form. No condition but that a word is one.
-/
import Derived.Test.YtonofklhapfdpaaPB
import Derived.Test.YtonofklhapfdpaaPConvx4
namespace Go.Proofs.Ytonofklhapfdpaa.Pure
set_option linter.unusedVariables false
set_option linter.unusedSimpArgs false
open Go.RowKit Go.Proofs.Ytonofklhapfdpaa.PConv Go.Proofs.Ytonofklhapfdpaa.Fl Go.Proofs.YtonofklhapfdpaaW.PrintWords

theorem or_nat (x y : Nat) (hx : x < 18446744073709551616) (hy : y < 18446744073709551616) : Go.bits .or .u64 (x : Int) (y : Int) = ((x ||| y : Nat) : Int) := by
  unfold Go.bits
  have hb : IntKind.bits .u64 = 64 := rfl
  simp only
  rw [IntKind.wrap_u64, BitVec.toNat_or, BitVec.ofInt_natCast, BitVec.ofInt_natCast, BitVec.toNat_ofNat, BitVec.toNat_ofNat, hb,
    Nat.mod_eq_of_lt (show x < 2 ^ 64 from hx), Nat.mod_eq_of_lt (show y < 2 ^ 64 from hy)]
  have : x ||| y < 2 ^ 64 := Nat.or_lt_two_pow hx hy
  omega
theorem or_one (x : Nat) (hx : x < 18446744073709551616) : Go.bits .or .u64 (x : Int) 1 = ((x / 2 * 2 + 1 : Nat) : Int) := by
  have := or_nat x 1 hx (by decide)
  rw [show ((1 : Nat) : Int) = 1 from rfl] at this
  rw [this]
  have e : x ||| 1 = x / 2 * 2 + 1 := by
    have h : 2 ^ 1 * (x / 2) ||| (x % 2 ||| 1) = 2 ^ 1 * (x / 2) + (x % 2 ||| 1) := by
      exact (Nat.two_pow_add_eq_or_of_lt (by rcases Nat.mod_two_eq_zero_or_one x with h | h <;> rw [h] <;> decide) (x / 2)).symm
    have h2 : x = 2 ^ 1 * (x / 2) ||| x % 2 := by
      rw [← Nat.two_pow_add_eq_or_of_lt (Nat.mod_lt _ (by decide)) (x / 2)]
      omega
    conv => lhs; rw [h2, Nat.or_assoc, h]
    rcases Nat.mod_two_eq_zero_or_one x with h | h <;> rw [h]
    · show 2 ^ 1 * (x / 2) + 1 = _; omega
    · show 2 ^ 1 * (x / 2) + 1 = _; omega
  rw [e]

theorem word_of (f : Ieee.Format) (A : Nat) (h : A < 2 * f.signWeight) : f.word (negOf f A) (rungOf f A) = A := by
  have hs : 0 < f.signWeight := pw_pos _
  unfold Ieee.Format.word negOf rungOf
  have hd := Nat.div_add_mod A f.signWeight
  have hm := Nat.mod_lt A hs
  by_cases c : A < f.signWeight
  · rw [Nat.div_eq_of_lt c, Nat.mod_eq_of_lt c]; rfl
  · have h1 : A / f.signWeight = 1 := (Nat.div_eq_iff hs).2 ⟨by omega, by omega⟩
    rw [h1] at hd ⊢
    rw [if_pos (by rfl)]
    omega

theorem c_parts {p q f} (h : Pq p q f) (A : Nat) (hA : A < 18446744073709551616) :
    floats_format_parts.f p q A = some ((magOf f (rungOf f A) : Int), f.leastPlace + (plOf f (rungOf f A) : Int)) := by
  obtain ⟨w1, w2, w3, w4, w5, w6, w7, w8, w9, w10, w11, w12⟩ := c_w h
  have hr : rungOf f A < f.signWeight := Nat.mod_lt _ (pw_pos _)
  have hb : 0 < f.binade := pw_pos _
  generalize hR : rungOf f A = r at *
  have e1 : IntKind.u64.wrap p = (f.fractionBits : Int) := by rw [IntKind.wrap_u64, w1]; omega
  have e2 : shr .u64 (r : Int) (f.fractionBits : Int) = ((r / f.binade : Nat) : Int) := shr_nat r f.fractionBits (by omega)
  have e3 : shl .u64 1 (f.fractionBits : Int) = (f.binade : Int) := by
    have := shl_nat 1 f.fractionBits (by rw [Nat.one_mul]; exact Nat.lt_of_le_of_lt w10 (by decide)) (by omega)
    rw [Nat.one_mul] at this
    exact this
  have e4 : Go.bits .and .u64 (r : Int) (IntKind.u64.wrap ((f.binade : Int) - 1)) = ((r % f.binade : Nat) : Int) := by
    rw [IntKind.wrap_u64, show ((f.binade : Int) - 1) % 18446744073709551616 = (f.binade : Int) - 1 from by omega]
    exact and_mask r f.fractionBits (by omega) (by omega)
  have hx : r / f.binade ≤ r := Nat.div_le_self _ _
  have hx2 : r / f.binade < 4096 := by
    refine (Nat.div_lt_iff_lt_mul hb).2 ?_
    rw [w11] at hr
    have : 2 ^ f.exponentBits ≤ 2 ^ 11 := Nat.pow_le_pow_right (by decide) w5
    have := Nat.mul_le_mul_right f.binade this
    omega
  have hm : r % f.binade < f.binade := Nat.mod_lt _ hb
  unfold floats_format_parts.f
  rw [c_size h A hA, hR]
  simp only [Option.bind_some]
  rw [if_pos (by rw [IntKind.wrap_u64]; omega), e1, e2, e3, e4, c_least h]
  simp only [Option.bind_some]
  rw [show wrap64 ((r / f.binade : Nat) : Int) = ((r / f.binade : Nat) : Int) from by
    generalize r / f.binade = z at *
    unfold wrap64; omega]
  have zl : r < f.binade ↔ r / f.binade = 0 := by
    constructor
    · exact Nat.div_eq_of_lt
    · intro e
      have := Nat.div_add_mod r f.binade
      rw [e] at this; omega
  by_cases c : r < f.binade
  · have z := zl.1 c
    rw [if_pos (by rw [z]; rfl)]
    unfold magOf plOf
    rw [if_pos c, z, Nat.mod_eq_of_lt c]
    refine congrArg some (Prod.ext rfl ?_)
    show f.leastPlace = f.leastPlace + ((0 - 1 : Nat) : Int)
    omega
  · have z := mt zl.2 c
    rw [if_neg (by omega)]
    unfold magOf plOf
    rw [if_neg c]
    have e5 : Go.bits .or .u64 ((r % f.binade : Nat) : Int) (f.binade : Int) = ((f.binade + r % f.binade : Nat) : Int) := or_top (r % f.binade) f.fractionBits hm (by omega)
    rw [e5]
    refine congrArg some (Prod.ext rfl ?_)
    show wrap64 (wrap64 (f.leastPlace + ((r / f.binade : Nat) : Int)) - 1) = _
    generalize r / f.binade = y at *
    unfold wrap64
    omega

/-- A result, or the NaN that is answered. -/
def resP (p : Int) : Option Nat → Int
  | some r => r
  | none => if p = 23 then canon 32 else canon 64
theorem c_nanv {p q f} (h : Pq p q f) : floats_format_nan.f p q = some (resP p none) := by
  rcases h with ⟨rfl, rfl, rfl⟩ | ⟨rfl, rfl, rfl⟩ <;> decide +kernel

theorem write_inf (f : Ieee.Format) (A : Nat) (h : A < 2 * f.signWeight) (hi : rungOf f A = f.infRung) : f.write (.infinity (negOf f A)) = A := by
  show f.word (negOf f A) f.infRung = A
  rw [← hi]; exact word_of f A h
theorem nearest_word (f : Ieee.Format) (A : Nat) (h : A < 2 * f.signWeight) (hw : f.binade ≤ f.infRung) (hi : rungOf f A < f.infRung) :
    f.nearest (negOf f A) (magOf f (rungOf f A)) (f.leastPlace + (plOf f (rungOf f A) : Nat)) = A := by
  rw [nearest_read f _ _ hw hi]; exact word_of f A h

end Go.Proofs.Ytonofklhapfdpaa.Pure
