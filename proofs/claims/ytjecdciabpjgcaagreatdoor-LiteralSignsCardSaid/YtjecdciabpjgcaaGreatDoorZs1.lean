/-
  Plain arithmetic of rounding to nearest, ties to even, over natural numbers: scaling, and a last bit that stands for what was left over.
-/
import GoSem.Core.Float
namespace Go.Proofs.YtjecdciabpjgcaaGreatDoor.Fl
set_option linter.unusedVariables false
set_option linter.unusedSimpArgs false
open Ieee
/-- 'n / 2 ^ d', rounded to the nearest whole number, ties to even. -/
def rne (n d : Nat) : Nat := n / 2 ^ d + (if 2 ^ d < 2 * (n % 2 ^ d) ∨ (2 ^ d = 2 * (n % 2 ^ d) ∧ n / 2 ^ d % 2 = 1) then 1 else 0)
theorem pw_pos (d : Nat) : 0 < 2 ^ d := Nat.pow_pos (by decide)
theorem rne_zero (n : Nat) : rne n 0 = n := by
  unfold rne
  simp only [Nat.pow_zero, Nat.div_one, Nat.mod_one]
  rw [if_neg (by omega)]
  rfl
theorem rne_small (n d : Nat) (h : 2 * n < 2 ^ d) : rne n d = 0 := by
  unfold rne
  rw [Nat.div_eq_of_lt (by omega), Nat.mod_eq_of_lt (by omega), if_neg (by omega)]
theorem cut_even (neg : Bool) (n drop : Nat) : Toward.even.cut neg n drop = rne n drop := by
  unfold Toward.cut
  simp only [Nat.shiftLeft_eq, Nat.one_mul]
  have key : ∀ d, n / 2 ^ d + (decide (2 ^ d < 2 * (n % 2 ^ d)) || (2 ^ d == 2 * (n % 2 ^ d) && n / 2 ^ d % 2 == 1)).toNat = rne n d := by
    intro d
    unfold rne
    congr 1
    by_cases h : 2 ^ d < 2 * (n % 2 ^ d) ∨ (2 ^ d = 2 * (n % 2 ^ d) ∧ n / 2 ^ d % 2 = 1)
    · rw [if_pos h]
      have : (decide (2 ^ d < 2 * (n % 2 ^ d)) || (2 ^ d == 2 * (n % 2 ^ d) && n / 2 ^ d % 2 == 1)) = true := by
        rw [Bool.or_eq_true, Bool.and_eq_true, decide_eq_true_eq, beq_iff_eq, beq_iff_eq]; exact h
      rw [this]; rfl
    · rw [if_neg h]
      have : (decide (2 ^ d < 2 * (n % 2 ^ d)) || (2 ^ d == 2 * (n % 2 ^ d) && n / 2 ^ d % 2 == 1)) = false := by
        rw [Bool.eq_false_iff, Ne, Bool.or_eq_true, Bool.and_eq_true, decide_eq_true_eq, beq_iff_eq, beq_iff_eq]; exact h
      rw [this]; rfl
  rw [key]
  by_cases h : drop ≤ n.log2 + 2
  · rw [Nat.min_eq_left h]
  · rw [Nat.min_eq_right (by omega)]
    have h1 : n < 2 ^ (n.log2 + 1) := Nat.lt_log2_self
    have h2 : 2 ^ (n.log2 + 2) = 2 * 2 ^ (n.log2 + 1) := by rw [Nat.pow_succ 2 (n.log2 + 1), Nat.mul_comm]
    have h3 : 2 ^ (n.log2 + 2) ≤ 2 ^ drop := Nat.pow_le_pow_right (by decide) (by omega)
    rw [rne_small n _ (by omega), rne_small n _ (by omega)]
theorem rne_scale (n k d : Nat) : rne (n * 2 ^ k) (d + k) = rne n d := by
  unfold rne
  have hk := pw_pos k
  rw [Nat.pow_add, Nat.mul_div_mul_right _ _ hk, Nat.mul_mod_mul_right]
  congr 1
  have e : 2 * (n % 2 ^ d * 2 ^ k) = (2 * (n % 2 ^ d)) * 2 ^ k := by rw [Nat.mul_assoc]
  rw [e]
  have a : (2 ^ d * 2 ^ k < 2 * (n % 2 ^ d) * 2 ^ k) ↔ (2 ^ d < 2 * (n % 2 ^ d)) := Nat.mul_lt_mul_right hk
  have b : (2 ^ d * 2 ^ k = 2 * (n % 2 ^ d) * 2 ^ k) ↔ (2 ^ d = 2 * (n % 2 ^ d)) := Nat.mul_left_inj (by omega)
  simp only [a, b]
/-- The value 'm * 2 ^ s', rounded to the nearest whole number, ties to even. -/
def rneP (m : Nat) (s : Int) : Nat := rne (m * 2 ^ s.toNat) (-s).toNat
theorem rneP_scale (m k : Nat) (s : Int) : rneP (m * 2 ^ k) s = rneP m (s + k) := by
  unfold rneP
  by_cases h0 : 0 ≤ s
  · rw [show (-s).toNat = 0 from by omega, show (-(s + (k : Int))).toNat = 0 from by omega, rne_zero, rne_zero,
      show (s + (k : Int)).toNat = k + s.toNat from by omega, Nat.pow_add, Nat.mul_assoc]
  · by_cases h1 : 0 ≤ s + k
    · obtain ⟨d, hd⟩ : ∃ d : Nat, s = -(d : Int) := ⟨(-s).toNat, by omega⟩
      subst hd
      obtain ⟨r, rfl⟩ : ∃ r, k = r + d := ⟨k - d, by omega⟩
      rw [show (-(d : Int)).toNat = 0 from by omega, show (- -(d : Int)).toNat = 0 + d from by omega, show (-(-(d : Int) + ((r + d : Nat) : Int))).toNat = 0 from by omega,
        show (-(d : Int) + ((r + d : Nat) : Int)).toNat = r from by omega, Nat.pow_zero, Nat.mul_one, Nat.pow_add, ← Nat.mul_assoc, rne_scale, rne_zero]
    · rw [show s.toNat = 0 from by omega, show (s + (k : Int)).toNat = 0 from by omega, show (-s).toNat = (-(s + (k : Int))).toNat + k from by omega,
        Nat.pow_zero, Nat.mul_one, Nat.mul_one, rne_scale]
theorem log2_cut (n k : Nat) (h : n / 2 ^ k ≠ 0) : n.log2 = (n / 2 ^ k).log2 + k := by
  have hk := pw_pos k
  have h1 := Nat.log2_self_le h
  have h2 : n / 2 ^ k < 2 ^ ((n / 2 ^ k).log2 + 1) := Nat.lt_log2_self
  have hn : n ≠ 0 := by intro e; subst e; simp at h
  refine (Nat.log2_eq_iff hn).2 ⟨?_, ?_⟩
  · rw [Nat.pow_add]; exact Nat.le_trans (Nat.mul_le_mul_right _ h1) (Nat.div_mul_le_self _ _)
  · rw [show (n / 2 ^ k).log2 + k + 1 = (n / 2 ^ k).log2 + 1 + k from by omega, Nat.pow_add]; exact (Nat.div_lt_iff_lt_mul hk).1 h2
/-- The place of the last digit that is kept. -/
def lastOf (f : Format) (mag : Nat) (place : Int) : Int := max (place + mag.log2 - f.fractionBits) f.leastPlace
theorem nearest_eq (f : Format) (neg : Bool) (mag : Nat) (place : Int) (h : mag ≠ 0) :
    f.nearest neg mag place = f.word neg (min ((lastOf f mag place - f.leastPlace).toNat * f.binade + rneP mag (place - lastOf f mag place)) f.infRung) := by
  unfold Format.nearest
  rw [if_neg h]
  simp only [cut_even, Nat.shiftLeft_eq]
  unfold rneP lastOf
  rw [Int.neg_sub]
theorem nearest_zero (f : Format) (neg : Bool) (place : Int) : f.nearest neg 0 place = f.word neg 0 := by
  unfold Format.nearest
  rw [if_pos rfl]
/-- 'r' is the whole root of 'n'. -/
def IsRt (n r : Nat) : Prop := r * r ≤ n ∧ n < (r + 1) * (r + 1)
theorem sq_lt {a b : Nat} (h : a * a < b * b) : a < b := by
  apply Classical.byContradiction; intro c
  have := Nat.mul_le_mul (show b ≤ a by omega) (show b ≤ a by omega)
  omega
theorem IsRt.eq {n r s : Nat} (h : IsRt n r) (g : IsRt n s) : r = s := by
  have a := sq_lt (Nat.lt_of_le_of_lt h.1 g.2)
  have b := sq_lt (Nat.lt_of_le_of_lt g.1 h.2)
  omega
/-- How two words stand, told by sign and rung. -/
def rungOf (f : Format) (w : Nat) : Nat := w % f.signWeight
def negOf (f : Format) (w : Nat) : Bool := w / f.signWeight % 2 == 1
def magOf (f : Format) (r : Nat) : Nat := if r < f.binade then r else f.binade + r % f.binade
def plOf (f : Format) (r : Nat) : Nat := r / f.binade - 1
theorem mag_lt (f : Format) (r : Nat) : magOf f r < 2 * f.binade := by
  have hb : 0 < f.binade := pw_pos _
  have := Nat.mod_lt r hb
  unfold magOf; split <;> omega
/-- What the document's answers come to, told by the words alone. -/
def fmtOf (n : Int) : Format := if n = 32 then single else double
def wOf (n a : Int) : Nat := if n = 32 then (a % 4294967296).toNat else a.toNat
def canon (n : Int) : Int := if n = 32 then 2143289344 else 9221120237041090560
def resOf (n : Int) : Option Nat → Int
  | some r => r
  | none => canon n
/-- Is a word a NaN? -/
def nanW (f : Format) (w : Nat) : Bool := decide (f.infRung < rungOf f w)
def ordOf (n a b : Int) : Option Ordering := (fmtOf n).order (wOf n a) (wOf n b)
def kindF (n a : Int) : Int :=
  if n ≠ 32 ∧ n ≠ 64 then 0 else
  if rungOf (fmtOf n) (wOf n a) = 0 then 1 else if nanW (fmtOf n) (wOf n a) then 4 else if rungOf (fmtOf n) (wOf n a) = (fmtOf n).infRung then 3 else 2
/-- The sign's weight. -/
def sgnI (n : Int) : Int := if n = 32 then 2147483648 else 9223372036854775808
def binF (n op a b : Int) : Int × Int :=
  if (n ≠ 32 ∧ n ≠ 64) ∨ op < 1 ∨ 9 < op then (0, 1) else
  let x := (wOf n a : Int)
  let y := (wOf n b : Int)
  if op = 7 then (x % sgnI n + y - y % sgnI n, 0) else
  if op = 8 then (if ordOf n b a = some .lt then y else x, 0) else
  if op = 9 then (if ordOf n a b = some .lt then y else x, 0) else
  if nanW (fmtOf n) (wOf n a) || nanW (fmtOf n) (wOf n b) then (canon n, 0) else
  if op = 5 ∨ op = 6 then
    (if rungOf (fmtOf n) (wOf n a) = 0 ∧ rungOf (fmtOf n) (wOf n b) = 0 then (if (op = 5 ↔ sgnI n ≤ x) then x else y)
     else if (ordOf n a b = some .lt ↔ op = 5) then x else y, 0) else
  if op = 1 then (resOf n ((fmtOf n).add (wOf n a) (wOf n b)), 0) else
  if op = 2 then (resOf n ((fmtOf n).sub (wOf n a) (wOf n b)), 0) else
  if op = 3 then (resOf n ((fmtOf n).mul (wOf n a) (wOf n b)), 0) else (resOf n ((fmtOf n).div (wOf n a) (wOf n b)), 0)
theorem bin_single : single.binade ≤ single.infRung := by decide +kernel
theorem bin_double : double.binade ≤ double.infRung := by decide +kernel
theorem rne_bounds (n d : Nat) : n / 2 ^ d ≤ rne n d ∧ rne n d ≤ n / 2 ^ d + 1 := by
  unfold rne; split <;> omega
theorem kept_bounds (f : Format) (m : Nat) (p : Int) (hm : m ≠ 0) :
    rneP m (p - lastOf f m p) ≤ 2 * f.binade ∧ (f.leastPlace < lastOf f m p → f.binade ≤ rneP m (p - lastOf f m p)) := by
  have h1 := Nat.log2_self_le hm
  have h2 : m < 2 ^ (m.log2 + 1) := Nat.lt_log2_self
  unfold rneP
  by_cases c : lastOf f m p ≤ p
  · rw [show (-(p - lastOf f m p)).toNat = 0 from by omega, rne_zero]
    constructor
    · have a : m * 2 ^ (p - lastOf f m p).toNat < 2 ^ (m.log2 + 1) * 2 ^ (p - lastOf f m p).toNat := Nat.mul_lt_mul_of_pos_right h2 (pw_pos _)
      rw [← Nat.pow_add] at a
      have b : 2 ^ (m.log2 + 1 + (p - lastOf f m p).toNat) ≤ 2 ^ (f.fractionBits + 1) := Nat.pow_le_pow_right (by decide) (by unfold lastOf at *; omega)
      rw [Nat.pow_succ 2 f.fractionBits, Nat.mul_comm _ 2] at b
      exact Nat.le_of_lt (Nat.lt_of_lt_of_le a b)
    · intro h
      have a : 2 ^ m.log2 * 2 ^ (p - lastOf f m p).toNat ≤ m * 2 ^ (p - lastOf f m p).toNat := Nat.mul_le_mul_right _ h1
      rw [← Nat.pow_add] at a
      refine Nat.le_trans ?_ a
      exact Nat.pow_le_pow_right (by decide) (by unfold lastOf at *; omega)
  · rw [show (p - lastOf f m p).toNat = 0 from by omega, Nat.pow_zero, Nat.mul_one]
    generalize hd : (-(p - lastOf f m p)).toNat = d
    have rb := rne_bounds m d
    constructor
    · have : m / 2 ^ d < 2 * f.binade := (Nat.div_lt_iff_lt_mul (pw_pos d)).2 (by
        have b : 2 ^ (m.log2 + 1) ≤ 2 ^ (f.fractionBits + 1 + d) := Nat.pow_le_pow_right (by decide) (by unfold lastOf at *; omega)
        rw [Nat.pow_add 2 (f.fractionBits + 1), Nat.pow_succ 2 f.fractionBits, Nat.mul_comm _ 2] at b
        exact Nat.lt_of_lt_of_le h2 b)
      omega
    · intro h
      have : f.binade ≤ m / 2 ^ d := (Nat.le_div_iff_mul_le (pw_pos d)).2 (by
        have b : 2 ^ (f.fractionBits + d) ≤ 2 ^ m.log2 := Nat.pow_le_pow_right (by decide) (by unfold lastOf at *; omega)
        rw [Nat.pow_add] at b
        exact Nat.le_trans b h1)
      omega
theorem s_least : single.leastPlace = -149 := by decide +kernel
theorem s_bin : single.binade = 8388608 := by decide +kernel
theorem s_inf : single.infRung = 255 * 8388608 := by decide +kernel
theorem s_sgn : single.signWeight = 2147483648 := by decide +kernel
theorem d_least : double.leastPlace = -1074 := by decide +kernel
theorem d_bin : double.binade = 4503599627370496 := by decide +kernel
theorem d_inf : double.infRung = 2047 * 4503599627370496 := by decide +kernel
theorem d_sgn : double.signWeight = 9223372036854775808 := by decide +kernel
end Go.Proofs.YtjecdciabpjgcaaGreatDoor.Fl
