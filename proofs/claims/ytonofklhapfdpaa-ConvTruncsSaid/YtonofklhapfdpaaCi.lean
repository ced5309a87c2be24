/-
  Doubles that hold a whole number: how they stand to each other, and what they are as integers. Plain law.
-/
import Derived.Test.YtonofklhapfdpaaCf
import Derived.Test.YtonofklhapfdpaaRefD
namespace Go.Proofs.Ytonofklhapfdpaa.Pure
set_option linter.unusedVariables false
set_option linter.unusedSimpArgs false
open Go.RowKit Go.Proofs.Ytonofklhapfdpaa.PConv Go.Proofs.Ytonofklhapfdpaa.Fl Go.Proofs.Ytonofklhapfdpaa.Ref Go.Proofs.YtonofklhapfdpaaW.PrintWords Go.Proofs.YtonofklhapfdpaaW.PrintLast
open Ieee (Datum)

/-- The double x is the whole number T, with a sign. -/
structure IsT (x : Nat) (neg : Bool) (T : Nat) : Prop where mk :: (out : ∃ m k p : Nat, ∃ l : Int, Ieee.double.read x = .number neg (m * 2 ^ k) l ∧ l + (k : Int) = (p : Int) ∧ T = m * 2 ^ p)
def sg (neg : Bool) (T : Nat) : Int := if neg = true then -(T : Int) else T

theorem order_T {x y A B : Nat} {s t : Bool} (hx : IsT x s A) (hy : IsT y t B) : Ieee.double.order x y = some (compare (sg s A) (sg t B)) := by
  obtain ⟨m, k, p, l, h1, h2, rfl⟩ := hx.out
  obtain ⟨n, k', q, l', g1, g2, rfl⟩ := hy.out
  unfold Ieee.Format.order
  rw [h1, g1, order_scale, h2, g2]
  have e1 : (p : Int) = 0 + (p : Int) := by omega
  have e2 : (q : Int) = 0 + (q : Int) := by omega
  rw [e1, e2, ← order_scale]
  unfold Datum.order Ieee.signed sg
  simp only [Int.min_self, Int.sub_self, Int.toNat_zero, Nat.shiftLeft_zero]

theorem cut_zero (neg : Bool) (n d : Nat) : Ieee.Toward.zero.cut neg n d = n / 2 ^ d := by
  unfold Ieee.Toward.cut
  simp only [Nat.one_shiftLeft, Bool.toNat_false, Nat.add_zero]
  by_cases c : d ≤ n.log2 + 2
  · rw [Nat.min_eq_left c]
  · rw [Nat.min_eq_right (by omega)]
    have h := Nat.lt_log2_self (n := n)
    have h1 : n < 2 ^ (n.log2 + 2) := Nat.lt_of_lt_of_le h (Nat.pow_le_pow_right (by decide) (by omega))
    have h2 : n < 2 ^ d := Nat.lt_of_lt_of_le h1 (Nat.pow_le_pow_right (by decide) (by omega))
    rw [Nat.div_eq_of_lt h1, Nat.div_eq_of_lt h2]

theorem whole_cut (m k p : Nat) (l : Int) (h : l + (k : Int) = (p : Int)) : (m * 2 ^ k) <<< l.toNat / 2 ^ (-l).toNat = m * 2 ^ p := by
  rw [Nat.shiftLeft_eq]
  by_cases c : 0 ≤ l
  · have e : (-l).toNat = 0 := by omega
    rw [e, Nat.pow_zero, Nat.div_one, Nat.mul_assoc, ← Nat.pow_add]
    congr 2; omega
  · have e : l.toNat = 0 := by omega
    rw [e, Nat.pow_zero, Nat.mul_one]
    have e2 : k = p + (-l).toNat := by omega
    rw [e2, Nat.pow_add, ← Nat.mul_assoc, Nat.mul_div_cancel _ (Nat.two_pow_pos _)]

theorem toInt_T {x T : Nat} {s : Bool} (hx : IsT x s T) : (FloatKind.f64.decode x).toInt .zero = some (sg s T) := by
  obtain ⟨m, k, p, l, h1, h2, rfl⟩ := hx.out
  have h1' : FloatKind.f64.decode x = .number s (m * 2 ^ k) l := h1
  rw [h1']
  unfold Datum.toInt Datum.integral
  simp only
  rw [cut_zero, whole_cut m k p l h2]
  unfold Ieee.signed sg
  rw [Nat.shiftLeft_zero]

theorem t_zero (x : Nat) (s : Bool) (l : Int) (h : Ieee.double.read x = .number s 0 l) (hl : l ≤ 0) : IsT x s 0 :=
  ⟨⟨0, (-l).toNat, 0, l, by rw [h, Nat.zero_mul], by omega, by rw [Nat.zero_mul]⟩⟩
theorem t_one (x : Nat) (s : Bool) (p : Nat) (l : Int) (h : Ieee.double.read x = .number s 4503599627370496 l) (hl : l + 52 = (p : Int)) : IsT x s (2 ^ p) :=
  ⟨⟨1, 52, p, l, by rw [h], by omega, by rw [Nat.one_mul]⟩⟩
/-- A whole number of few digits is a double. -/
theorem t_near (s : Bool) (m p : Nat) (h : m < 9007199254740992) (hp : p ≤ 971) : IsT (Ieee.double.nearest s m p) s (m * 2 ^ p) := by
  by_cases z : m = 0
  · subst z
    rw [nearest_zero, Nat.zero_mul]
    cases s
    · exact t_zero _ _ (-1074) (by decide +kernel) (by decide)
    · exact t_zero _ _ (-1074) (by decide +kernel) (by decide)
  · have hl : m.log2 ≤ 52 := by have := (Nat.log2_lt z (k := 53)).2 h; omega
    have hb : Ieee.double.fractionBits = 52 := rfl
    have hlp : Ieee.double.leastPlace = -1074 := by decide +kernel
    have hbin : Ieee.double.binade = 4503599627370496 := by decide +kernel
    have hinf := d_inf
    have e := exact_read Ieee.double s m p z (by rw [hb]; exact hl) (by rw [hlp]; omega) (by
      unfold lastOf
      rw [hlp, hb, hbin, hinf]
      have h1 : m * 2 ^ ((p : Int) - max ((p : Int) + (m.log2 : Int) - ((52 : Nat) : Int)) (-1074)).toNat < 2 ^ 53 := by
        have e1 : ((p : Int) - max ((p : Int) + (m.log2 : Int) - ((52 : Nat) : Int)) (-1074)).toNat = 52 - m.log2 := by omega
        rw [e1]
        have hs := Nat.lt_log2_self (n := m)
        have : m * 2 ^ (52 - m.log2) < 2 ^ (m.log2 + 1) * 2 ^ (52 - m.log2) := Nat.mul_lt_mul_of_pos_right hs (Nat.two_pow_pos _)
        rw [← Nat.pow_add] at this
        have e2 : m.log2 + 1 + (52 - m.log2) = 53 := by omega
        rw [e2] at this; exact this
      have h2 : (max ((p : Int) + (m.log2 : Int) - ((52 : Nat) : Int)) (-1074) - -1074).toNat ≤ 2045 := by omega
      have h3 := Nat.mul_le_mul_right 4503599627370496 h2
      have e53 : (2 : Nat) ^ 53 = 9007199254740992 := by decide
      rw [e53] at h1
      omega) bin_double
    exact ⟨⟨m, _, p, _, e.2.1, by have := e.1; omega, rfl⟩⟩

theorem c_0 : IsT 0 false 0 := t_zero _ _ (-1074) (by decide +kernel) (by decide)
end Go.Proofs.Ytonofklhapfdpaa.Pure
