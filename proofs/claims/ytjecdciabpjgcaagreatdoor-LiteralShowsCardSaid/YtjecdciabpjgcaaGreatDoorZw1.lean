/-
  Plain arithmetic of rounding to nearest, ties to even, over natural numbers: scaling, and a last bit that stands for what was left over.
-/
import GoSem.Core.Float
namespace Go.Proofs.YtjecdciabpjgcaaGreatDoor.Fl
set_option linter.unusedVariables false
set_option linter.unusedSimpArgs false
open Ieee
/-- 'n / 2 ^ d', rounded to the nearest whole number, ties to even. -/
def rne (n d : Nat) : Nat := n / 2 ^ d + (if 2 ^ d < 2 * (n % 2 ^ d) ∨ (2 ^ d = 2 * (n % 2 ^ d) ∧ n / 2 ^ d % 2 = 1) then 1 else 0)
theorem pw_pos (d : Nat) : 0 < 2 ^ d := Nat.pow_pos (by decide)
theorem rne_zero (n : Nat) : rne n 0 = n := by
  unfold rne
  simp only [Nat.pow_zero, Nat.div_one, Nat.mod_one]
  rw [if_neg (by omega)]
  rfl
theorem rne_small (n d : Nat) (h : 2 * n < 2 ^ d) : rne n d = 0 := by
  unfold rne
  rw [Nat.div_eq_of_lt (by omega), Nat.mod_eq_of_lt (by omega), if_neg (by omega)]
theorem cut_even (neg : Bool) (n drop : Nat) : Toward.even.cut neg n drop = rne n drop := by
  unfold Toward.cut
  simp only [Nat.shiftLeft_eq, Nat.one_mul]
  have key : ∀ d, n / 2 ^ d + (decide (2 ^ d < 2 * (n % 2 ^ d)) || (2 ^ d == 2 * (n % 2 ^ d) && n / 2 ^ d % 2 == 1)).toNat = rne n d := by
    intro d
    unfold rne
    congr 1
    by_cases h : 2 ^ d < 2 * (n % 2 ^ d) ∨ (2 ^ d = 2 * (n % 2 ^ d) ∧ n / 2 ^ d % 2 = 1)
    · rw [if_pos h]
      have : (decide (2 ^ d < 2 * (n % 2 ^ d)) || (2 ^ d == 2 * (n % 2 ^ d) && n / 2 ^ d % 2 == 1)) = true := by
        rw [Bool.or_eq_true, Bool.and_eq_true, decide_eq_true_eq, beq_iff_eq, beq_iff_eq]; exact h
      rw [this]; rfl
    · rw [if_neg h]
      have : (decide (2 ^ d < 2 * (n % 2 ^ d)) || (2 ^ d == 2 * (n % 2 ^ d) && n / 2 ^ d % 2 == 1)) = false := by
        rw [Bool.eq_false_iff, Ne, Bool.or_eq_true, Bool.and_eq_true, decide_eq_true_eq, beq_iff_eq, beq_iff_eq]; exact h
      rw [this]; rfl
  rw [key]
  by_cases h : drop ≤ n.log2 + 2
  · rw [Nat.min_eq_left h]
  · rw [Nat.min_eq_right (by omega)]
    have h1 : n < 2 ^ (n.log2 + 1) := Nat.lt_log2_self
    have h2 : 2 ^ (n.log2 + 2) = 2 * 2 ^ (n.log2 + 1) := by rw [Nat.pow_succ 2 (n.log2 + 1), Nat.mul_comm]
    have h3 : 2 ^ (n.log2 + 2) ≤ 2 ^ drop := Nat.pow_le_pow_right (by decide) (by omega)
    rw [rne_small n _ (by omega), rne_small n _ (by omega)]
theorem rne_scale (n k d : Nat) : rne (n * 2 ^ k) (d + k) = rne n d := by
  unfold rne
  have hk := pw_pos k
  rw [Nat.pow_add, Nat.mul_div_mul_right _ _ hk, Nat.mul_mod_mul_right]
  congr 1
  have e : 2 * (n % 2 ^ d * 2 ^ k) = (2 * (n % 2 ^ d)) * 2 ^ k := by rw [Nat.mul_assoc]
  rw [e]
  have a : (2 ^ d * 2 ^ k < 2 * (n % 2 ^ d) * 2 ^ k) ↔ (2 ^ d < 2 * (n % 2 ^ d)) := Nat.mul_lt_mul_right hk
  have b : (2 ^ d * 2 ^ k = 2 * (n % 2 ^ d) * 2 ^ k) ↔ (2 ^ d = 2 * (n % 2 ^ d)) := Nat.mul_left_inj (by omega)
  simp only [a, b]
/-- The value 'm * 2 ^ s', rounded to the nearest whole number, ties to even. -/
def rneP (m : Nat) (s : Int) : Nat := rne (m * 2 ^ s.toNat) (-s).toNat
theorem rneP_scale (m k : Nat) (s : Int) : rneP (m * 2 ^ k) s = rneP m (s + k) := by
  unfold rneP
  by_cases h0 : 0 ≤ s
  · rw [show (-s).toNat = 0 from by omega, show (-(s + (k : Int))).toNat = 0 from by omega, rne_zero, rne_zero,
      show (s + (k : Int)).toNat = k + s.toNat from by omega, Nat.pow_add, Nat.mul_assoc]
  · by_cases h1 : 0 ≤ s + k
    · obtain ⟨d, hd⟩ : ∃ d : Nat, s = -(d : Int) := ⟨(-s).toNat, by omega⟩
      subst hd
      obtain ⟨r, rfl⟩ : ∃ r, k = r + d := ⟨k - d, by omega⟩
      rw [show (-(d : Int)).toNat = 0 from by omega, show (- -(d : Int)).toNat = 0 + d from by omega, show (-(-(d : Int) + ((r + d : Nat) : Int))).toNat = 0 from by omega,
        show (-(d : Int) + ((r + d : Nat) : Int)).toNat = r from by omega, Nat.pow_zero, Nat.mul_one, Nat.pow_add, ← Nat.mul_assoc, rne_scale, rne_zero]
    · rw [show s.toNat = 0 from by omega, show (s + (k : Int)).toNat = 0 from by omega, show (-s).toNat = (-(s + (k : Int))).toNat + k from by omega,
        Nat.pow_zero, Nat.mul_one, Nat.mul_one, rne_scale]
theorem log2_scale (n k : Nat) (h : n ≠ 0) : (n * 2 ^ k).log2 = n.log2 + k := by
  have hk := pw_pos k
  have h1 := Nat.log2_self_le h
  have h2 : n < 2 ^ (n.log2 + 1) := Nat.lt_log2_self
  refine (Nat.log2_eq_iff (by have := Nat.mul_pos (Nat.pos_of_ne_zero h) hk; omega)).2 ⟨?_, ?_⟩
  · rw [Nat.pow_add]; exact Nat.mul_le_mul_right _ h1
  · rw [show n.log2 + k + 1 = n.log2 + 1 + k from by omega, Nat.pow_add]; exact Nat.mul_lt_mul_of_pos_right h2 hk
theorem log2_cut (n k : Nat) (h : n / 2 ^ k ≠ 0) : n.log2 = (n / 2 ^ k).log2 + k := by
  have hk := pw_pos k
  have h1 := Nat.log2_self_le h
  have h2 : n / 2 ^ k < 2 ^ ((n / 2 ^ k).log2 + 1) := Nat.lt_log2_self
  have hn : n ≠ 0 := by intro e; subst e; simp at h
  refine (Nat.log2_eq_iff hn).2 ⟨?_, ?_⟩
  · rw [Nat.pow_add]; exact Nat.le_trans (Nat.mul_le_mul_right _ h1) (Nat.div_mul_le_self _ _)
  · rw [show (n / 2 ^ k).log2 + k + 1 = (n / 2 ^ k).log2 + 1 + k from by omega, Nat.pow_add]; exact (Nat.div_lt_iff_lt_mul hk).1 h2
/-- The place of the last digit that is kept. -/
def lastOf (f : Format) (mag : Nat) (place : Int) : Int := max (place + mag.log2 - f.fractionBits) f.leastPlace
theorem nearest_eq (f : Format) (neg : Bool) (mag : Nat) (place : Int) (h : mag ≠ 0) :
    f.nearest neg mag place = f.word neg (min ((lastOf f mag place - f.leastPlace).toNat * f.binade + rneP mag (place - lastOf f mag place)) f.infRung) := by
  unfold Format.nearest
  rw [if_neg h]
  simp only [cut_even, Nat.shiftLeft_eq]
  unfold rneP lastOf
  rw [Int.neg_sub]
theorem nearest_zero (f : Format) (neg : Bool) (place : Int) : f.nearest neg 0 place = f.word neg 0 := by
  unfold Format.nearest
  rw [if_pos rfl]
theorem nearest_scale (f : Format) (neg : Bool) (m k : Nat) (place : Int) : f.nearest neg (m * 2 ^ k) place = f.nearest neg m (place + k) := by
  by_cases h : m = 0
  · subst h; rw [Nat.zero_mul, nearest_zero, nearest_zero]
  · have hk := pw_pos k
    have : lastOf f (m * 2 ^ k) place = lastOf f m (place + k) := by
      unfold lastOf; rw [log2_scale m k h]; congr 1; omega
    rw [nearest_eq f neg _ place (by have := Nat.mul_pos (Nat.pos_of_ne_zero h) hk; omega), nearest_eq f neg m _ h, this, rneP_scale]
    rw [show place - lastOf f m (place + ↑k) + ↑k = place + ↑k - lastOf f m (place + ↑k) from by omega]
/-- A quotient's digits, and one more that is 1 where anything is left over. -/
def quo (m n K : Nat) : Nat := 2 * (m * 2 ^ K / n) + (if m * 2 ^ K % n = 0 then 0 else 1)
/-- 'r' is the whole root of 'n'. -/
def IsRt (n r : Nat) : Prop := r * r ≤ n ∧ n < (r + 1) * (r + 1)
theorem sq_lt {a b : Nat} (h : a * a < b * b) : a < b := by
  apply Classical.byContradiction; intro c
  have := Nat.mul_le_mul (show b ≤ a by omega) (show b ≤ a by omega)
  omega
theorem IsRt.eq {n r s : Nat} (h : IsRt n r) (g : IsRt n s) : r = s := by
  have a := sq_lt (Nat.lt_of_le_of_lt h.1 g.2)
  have b := sq_lt (Nat.lt_of_le_of_lt g.1 h.2)
  omega
theorem word_min (f : Format) (neg : Bool) (r : Nat) (h : r ≤ f.infRung) : f.word neg (min r f.infRung) = f.word neg r := by
  rw [Nat.min_eq_left h]
/-- A subnormal number, or nought, is written as it was read. -/
theorem nearest_sub (f : Format) (neg : Bool) (r : Nat) (h : r < f.binade) (hi : f.binade ≤ f.infRung) : f.nearest neg r f.leastPlace = f.word neg r := by
  by_cases h0 : r = 0
  · subst h0; exact nearest_zero ..
  · have l : r.log2 < f.fractionBits := (Nat.log2_lt h0).2 h
    have e : lastOf f r f.leastPlace = f.leastPlace := by unfold lastOf; omega
    rw [nearest_eq f neg r _ h0, e, Int.sub_self]
    rw [show rneP r 0 = r from by unfold rneP; exact (rne_zero _).trans (by simp)]
    rw [show (0 : Int).toNat = 0 from rfl, Nat.zero_mul, Nat.zero_add, word_min f neg r (by omega)]
/-- A normal number, too. -/
theorem nearest_normal (f : Format) (neg : Bool) (r : Nat) (h : f.binade ≤ r) (hi : r < f.infRung) :
    f.nearest neg (f.binade + r % f.binade) (f.leastPlace + ((r / f.binade - 1 : Nat) : Int)) = f.word neg r := by
  have hb : 0 < f.binade := pw_pos _
  have hm := Nat.mod_lt r hb
  have h1 : 1 ≤ r / f.binade := (Nat.le_div_iff_mul_le hb).2 (by omega)
  have hd := Nat.div_add_mod r f.binade
  have l : (f.binade + r % f.binade).log2 = f.fractionBits := by
    refine (Nat.log2_eq_iff (by omega)).2 ⟨?_, ?_⟩
    · show f.binade ≤ _; omega
    · rw [Nat.pow_succ]; show _ < f.binade * 2; omega
  have e : lastOf f (f.binade + r % f.binade) (f.leastPlace + ((r / f.binade - 1 : Nat) : Int)) = f.leastPlace + ((r / f.binade - 1 : Nat) : Int) := by
    unfold lastOf; rw [l]; omega
  rw [nearest_eq f neg _ _ (by omega), e, Int.sub_self]
  rw [show rneP (f.binade + r % f.binade) 0 = f.binade + r % f.binade from by unfold rneP; exact (rne_zero _).trans (by simp)]
  rw [show (f.leastPlace + ((r / f.binade - 1 : Nat) : Int) - f.leastPlace).toNat = r / f.binade - 1 from by omega]
  have : (r / f.binade - 1) * f.binade + (f.binade + r % f.binade) = r := by
    rw [Nat.sub_mul, Nat.one_mul, Nat.mul_comm]
    have : f.binade ≤ f.binade * (r / f.binade) := Nat.le_mul_of_pos_right _ h1
    omega
  rw [this, word_min f neg r (by omega)]
/-- How two words stand, told by sign and rung. -/
def rungOf (f : Format) (w : Nat) : Nat := w % f.signWeight
def negOf (f : Format) (w : Nat) : Bool := w / f.signWeight % 2 == 1
def magOf (f : Format) (r : Nat) : Nat := if r < f.binade then r else f.binade + r % f.binade
def plOf (f : Format) (r : Nat) : Nat := r / f.binade - 1
theorem read_num (f : Format) (w : Nat) (h : rungOf f w < f.infRung) :
    f.read w = .number (negOf f w) (magOf f (rungOf f w)) (f.leastPlace + (plOf f (rungOf f w) : Nat)) := by
  unfold Format.read negOf magOf plOf
  unfold rungOf at *
  simp only
  have hb : 0 < f.binade := pw_pos _
  split
  · rename_i c
    rw [Nat.div_eq_of_lt c]
    simp
  · rfl
theorem read_inf (f : Format) (w : Nat) (hi : f.binade ≤ f.infRung) (h : rungOf f w = f.infRung) : f.read w = .infinity (negOf f w) := by
  unfold Format.read negOf
  unfold rungOf at *
  simp only
  rw [if_neg (by omega), if_neg (by omega), if_pos h]
theorem read_nan (f : Format) (w : Nat) (hi : f.binade ≤ f.infRung) (h : f.infRung < rungOf f w) : f.read w = .nan (negOf f w) (rungOf f w - f.infRung) := by
  unfold Format.read negOf
  unfold rungOf at *
  simp only
  rw [if_neg (by omega), if_neg (by omega), if_neg (by omega)]
/-- What is read is written as it was. -/
theorem nearest_read (f : Format) (neg : Bool) (r : Nat) (hi : f.binade ≤ f.infRung) (h : r < f.infRung) :
    f.nearest neg (magOf f r) (f.leastPlace + (plOf f r : Nat)) = f.word neg r := by
  unfold magOf plOf
  split
  · rename_i c
    rw [Nat.div_eq_of_lt c, show f.leastPlace + ((0 - 1 : Nat) : Int) = f.leastPlace from by omega]
    exact nearest_sub f neg r c hi
  · exact nearest_normal f neg r (by omega) h
theorem mag_lt (f : Format) (r : Nat) : magOf f r < 2 * f.binade := by
  have hb : 0 < f.binade := pw_pos _
  have := Nat.mod_lt r hb
  unfold magOf; split <;> omega
theorem mag_ge (f : Format) (r : Nat) (h : 0 < plOf f r) : f.binade ≤ magOf f r := by
  have hb : 0 < f.binade := pw_pos _
  unfold plOf at h
  have h1 : 1 ≤ r / f.binade := by omega
  have := (Nat.le_div_iff_mul_le hb).1 h1
  unfold magOf; rw [if_neg (by omega)]; omega
theorem mag_zero (f : Format) (r : Nat) : magOf f r = 0 ↔ r = 0 := by
  have hb : 0 < f.binade := pw_pos _
  unfold magOf; split <;> omega
theorem pl_mono (f : Format) (r s : Nat) (h : r ≤ s) : plOf f r ≤ plOf f s := by
  unfold plOf
  have := Nat.div_le_div_right (c := f.binade) h
  omega
/-- A greater rung is a greater number. -/
theorem rung_lt (f : Format) (r s : Nat) (h : r < s) : magOf f r < magOf f s * 2 ^ (plOf f s - plOf f r) := by
  have hb : 0 < f.binade := pw_pos _
  have hp := pl_mono f r s (by omega)
  by_cases c : plOf f r = plOf f s
  · rw [← c, Nat.sub_self, Nat.pow_zero, Nat.mul_one]
    unfold plOf at c
    have d1 := Nat.div_add_mod r f.binade; have d2 := Nat.div_add_mod s f.binade
    have m1 := Nat.mod_lt r hb; have m2 := Nat.mod_lt s hb
    have l1 : r < f.binade ↔ r / f.binade = 0 := by
      constructor
      · exact Nat.div_eq_of_lt
      · intro e; rw [e] at d1; omega
    have l2 : s < f.binade ↔ s / f.binade = 0 := by
      constructor
      · exact Nat.div_eq_of_lt
      · intro e; rw [e] at d2; omega
    unfold magOf
    have dm := Nat.div_le_div_right (c := f.binade) (Nat.le_of_lt h)
    generalize r / f.binade = x at *
    generalize s / f.binade = y at *
    split
    · split
      · exact h
      · rename_i a b
        have : y = 1 := by have := mt l2.2 b; omega
        rw [this] at d2; omega
    · split
      · omega
      · rename_i a b
        have e : x = y := by have := mt l2.2 b; have := mt l1.2 a; omega
        rw [e] at d1; omega
  · obtain ⟨t, ht⟩ : ∃ t, plOf f s - plOf f r = t + 1 := ⟨plOf f s - plOf f r - 1, by omega⟩
    rw [ht, Nat.pow_succ]
    have a := mag_lt f r
    have b := mag_ge f s (by omega)
    have t1 := pw_pos t
    have : magOf f s * 1 ≤ magOf f s * 2 ^ t := Nat.mul_le_mul_left _ t1
    rw [← Nat.mul_assoc]
    omega
theorem compare_of {x y x' y' : Int} (h1 : x < y ↔ x' < y') (h2 : x = y ↔ x' = y') : compare x y = compare x' y' := by
  show compareOfLessAndEq x y = compareOfLessAndEq x' y'
  unfold compareOfLessAndEq
  simp only [h1, h2]
/-- A word's place among the words of a format: its rung, with its sign. -/
def keyOf (f : Format) (w : Nat) : Int := if negOf f w then -(rungOf f w : Int) else rungOf f w
theorem mag_cmp (f : Format) (r s : Nat) :
    (magOf f r * 2 ^ (plOf f r - min (plOf f r) (plOf f s)) < magOf f s * 2 ^ (plOf f s - min (plOf f r) (plOf f s)) ↔ r < s) ∧
    (magOf f r * 2 ^ (plOf f r - min (plOf f r) (plOf f s)) = magOf f s * 2 ^ (plOf f s - min (plOf f r) (plOf f s)) ↔ r = s) := by
  have a : ∀ r s, r < s → magOf f r * 2 ^ (plOf f r - min (plOf f r) (plOf f s)) < magOf f s * 2 ^ (plOf f s - min (plOf f r) (plOf f s)) := by
    intro r s h
    have hp := pl_mono f r s (by omega)
    rw [Nat.min_eq_left hp, Nat.sub_self, Nat.pow_zero, Nat.mul_one]
    exact rung_lt f r s h
  have b : ∀ r s, s < r → magOf f s * 2 ^ (plOf f s - min (plOf f r) (plOf f s)) < magOf f r * 2 ^ (plOf f r - min (plOf f r) (plOf f s)) := by
    intro r s h
    have := a s r h
    rw [Nat.min_comm] at this
    exact this
  constructor
  · constructor
    · intro h
      apply Classical.byContradiction; intro c
      by_cases e : r = s
      · subst e; omega
      · have := b r s (by omega); omega
    · exact a r s
  · constructor
    · intro h
      apply Classical.byContradiction; intro c
      by_cases l : r < s
      · have := a r s l; omega
      · have := b r s (by omega); omega
    · intro e; subst e; rfl
theorem order_key (f : Format) (x y : Nat) (hi : f.binade ≤ f.infRung) (hx : rungOf f x ≤ f.infRung) (hy : rungOf f y ≤ f.infRung) :
    f.order x y = some (compare (keyOf f x) (keyOf f y)) := by
  have hb : 0 < f.binade := pw_pos _
  have cmp : ∀ a b : Int, compare a b = if a < b then .lt else if a = b then .eq else .gt := fun a b => rfl
  unfold Format.order
  by_cases cx : rungOf f x = f.infRung
  · rw [read_inf f x hi cx]
    by_cases cy : rungOf f y = f.infRung
    · rw [read_inf f y hi cy]
      unfold Datum.order keyOf
      simp only
      rw [cx, cy]
      cases negOf f x <;> cases negOf f y <;> simp only [Bool.toNat, cond_true, cond_false, if_true, if_false, Bool.false_eq_true]
      · rw [cmp, if_neg (by omega), if_pos rfl]; rfl
      · rw [cmp, if_neg (by omega), if_neg (by omega)]; rfl
      · rw [cmp, if_pos (by omega)]; rfl
      · rw [cmp, if_neg (by omega), if_pos rfl]; rfl
    · rw [read_num f y (by omega)]
      unfold Datum.order keyOf
      simp only
      rw [cx]
      cases negOf f x <;> cases negOf f y <;> simp only [if_true, if_false, Bool.false_eq_true]
      · rw [cmp, if_neg (by omega), if_neg (by omega)]
      · rw [cmp, if_neg (by omega), if_neg (by omega)]
      · rw [cmp, if_pos (by omega)]
      · rw [cmp, if_pos (by omega)]
  · rw [read_num f x (by omega)]
    by_cases cy : rungOf f y = f.infRung
    · rw [read_inf f y hi cy]
      unfold Datum.order keyOf
      simp only
      rw [cy]
      cases negOf f x <;> cases negOf f y <;> simp only [if_true, if_false, Bool.false_eq_true]
      · rw [cmp, if_pos (by omega)]
      · rw [cmp, if_neg (by omega), if_neg (by omega)]
      · rw [cmp, if_pos (by omega)]
      · rw [cmp, if_neg (by omega), if_neg (by omega)]
    · rw [read_num f y (by omega)]
      unfold Datum.order keyOf Ieee.signed
      simp only
      have m := mag_cmp f (rungOf f x) (rungOf f y)
      have zx := mag_zero f (rungOf f x)
      have zy := mag_zero f (rungOf f y)
      have e1 : (f.leastPlace + (plOf f (rungOf f x) : Int) - min (f.leastPlace + (plOf f (rungOf f x) : Int)) (f.leastPlace + (plOf f (rungOf f y) : Int))).toNat =
        plOf f (rungOf f x) - min (plOf f (rungOf f x)) (plOf f (rungOf f y)) := by omega
      have e2 : (f.leastPlace + (plOf f (rungOf f y) : Int) - min (f.leastPlace + (plOf f (rungOf f x) : Int)) (f.leastPlace + (plOf f (rungOf f y) : Int))).toNat =
        plOf f (rungOf f y) - min (plOf f (rungOf f x)) (plOf f (rungOf f y)) := by omega
      rw [e1, e2, Nat.shiftLeft_eq, Nat.shiftLeft_eq]
      generalize plOf f (rungOf f x) - min (plOf f (rungOf f x)) (plOf f (rungOf f y)) = u at *
      generalize plOf f (rungOf f y) - min (plOf f (rungOf f x)) (plOf f (rungOf f y)) = v at *
      have zu : magOf f (rungOf f x) * 2 ^ u = 0 ↔ rungOf f x = 0 := by
        rw [← zx]; constructor
        · intro h; have := pw_pos u; rcases Nat.mul_eq_zero.1 h with h | h <;> omega
        · intro h; rw [h, Nat.zero_mul]
      have zv : magOf f (rungOf f y) * 2 ^ v = 0 ↔ rungOf f y = 0 := by
        rw [← zy]; constructor
        · intro h; have := pw_pos v; rcases Nat.mul_eq_zero.1 h with h | h <;> omega
        · intro h; rw [h, Nat.zero_mul]
      generalize magOf f (rungOf f x) * 2 ^ u = A at *
      generalize magOf f (rungOf f y) * 2 ^ v = B at *
      obtain ⟨m1, m2⟩ := m
      congr 1
      cases negOf f x <;> cases negOf f y <;> simp only [if_true, if_false, Bool.false_eq_true]
      · exact compare_of (by omega) (by omega)
      · exact compare_of (by omega) (by omega)
      · exact compare_of (by omega) (by omega)
      · exact compare_of (by omega) (by omega)
theorem order_nan (f : Format) (x y : Nat) (hi : f.binade ≤ f.infRung) (h : f.infRung < rungOf f x ∨ f.infRung < rungOf f y) : f.order x y = none := by
  unfold Format.order
  rcases h with h | h
  · rw [read_nan f x hi h]; rfl
  · rw [read_nan f y hi h]
    unfold Datum.order
    cases f.read x <;> rfl
/-- What is written exactly is read with the same value: so many digits more, at a place so much lower. -/
theorem exact_read (f : Format) (neg : Bool) (m : Nat) (p : Int) (hm : m ≠ 0) (hl : m.log2 ≤ f.fractionBits) (hp : f.leastPlace ≤ p)
    (hlt : (lastOf f m p - f.leastPlace).toNat * f.binade + m * 2 ^ (p - lastOf f m p).toNat < f.infRung) (hw : f.binade ≤ f.infRung) :
    lastOf f m p ≤ p ∧ f.read (f.nearest neg m p) = .number neg (m * 2 ^ (p - lastOf f m p).toNat) (lastOf f m p) ∧
    rungOf f (f.nearest neg m p) = (lastOf f m p - f.leastPlace).toNat * f.binade + m * 2 ^ (p - lastOf f m p).toNat ∧ negOf f (f.nearest neg m p) = neg := by
  have hle : lastOf f m p ≤ p := by unfold lastOf; omega
  have hge : f.leastPlace ≤ lastOf f m p := by unfold lastOf; omega
  have hb : 0 < f.binade := pw_pos _
  have e0 : f.nearest neg m p = f.word neg ((lastOf f m p - f.leastPlace).toNat * f.binade + m * 2 ^ (p - lastOf f m p).toNat) := by
    rw [nearest_eq f neg m p hm]
    rw [show rneP m (p - lastOf f m p) = m * 2 ^ (p - lastOf f m p).toNat from by
      unfold rneP; rw [show (-(p - lastOf f m p)).toNat = 0 from by omega, rne_zero]]
    rw [word_min f neg _ (by omega)]
  have hinf : f.infRung < f.signWeight := by
    have h : 0 < 2 ^ f.exponentBits := pw_pos _
    have : f.infRung + f.binade = f.signWeight := by
      unfold Format.infRung Format.signWeight
      rw [Nat.pow_add, ← Nat.succ_mul]
      exact congrArg (· * f.binade) (by omega)
    omega
  generalize hr : (lastOf f m p - f.leastPlace).toNat * f.binade + m * 2 ^ (p - lastOf f m p).toNat = r at *
  have hrn : rungOf f (f.nearest neg m p) = r ∧ negOf f (f.nearest neg m p) = neg := by
    rw [e0]
    unfold rungOf negOf Format.word
    cases neg
    · simp only [Bool.false_eq_true, if_false]
      rw [Nat.mod_eq_of_lt (by omega), Nat.div_eq_of_lt (by omega)]
      exact ⟨rfl, rfl⟩
    · simp only [if_true]
      rw [Nat.add_mod_left, Nat.mod_eq_of_lt (by omega), Nat.add_div_left _ (by omega), Nat.div_eq_of_lt (by omega)]
      exact ⟨rfl, rfl⟩
  refine ⟨hle, ?_, hrn⟩
  rw [read_num f _ (by rw [hrn.1]; exact hlt), hrn.1, hrn.2]
  have hk : m * 2 ^ (p - lastOf f m p).toNat < 2 * f.binade ∧ (f.leastPlace < lastOf f m p → f.binade ≤ m * 2 ^ (p - lastOf f m p).toNat) := by
    have h1 := Nat.log2_self_le hm
    have h2 : m < 2 ^ (m.log2 + 1) := Nat.lt_log2_self
    have hpk := pw_pos (p - lastOf f m p).toNat
    constructor
    · have a : m * 2 ^ (p - lastOf f m p).toNat < 2 ^ (m.log2 + 1) * 2 ^ (p - lastOf f m p).toNat := Nat.mul_lt_mul_of_pos_right h2 hpk
      rw [← Nat.pow_add] at a
      have b : 2 ^ (m.log2 + 1 + (p - lastOf f m p).toNat) ≤ 2 ^ (f.fractionBits + 1) := Nat.pow_le_pow_right (by decide) (by unfold lastOf at *; omega)
      rw [Nat.pow_succ 2 f.fractionBits, Nat.mul_comm _ 2] at b
      exact Nat.lt_of_lt_of_le a b
    · intro h
      have a : 2 ^ m.log2 * 2 ^ (p - lastOf f m p).toNat ≤ m * 2 ^ (p - lastOf f m p).toNat := Nat.mul_le_mul_right _ h1
      rw [← Nat.pow_add] at a
      refine Nat.le_trans ?_ a
      exact Nat.pow_le_pow_right (by decide) (by unfold lastOf at *; omega)
  obtain ⟨k1, k2⟩ := hk
  generalize m * 2 ^ (p - lastOf f m p).toNat = K at *
  generalize hL : (lastOf f m p - f.leastPlace).toNat = L at *
  by_cases c : r < f.binade
  · have hL0 : L = 0 := by
      apply Classical.byContradiction; intro e
      have := k2 (by omega)
      omega
    subst hL0
    rw [Nat.zero_mul, Nat.zero_add] at hr
    unfold magOf plOf
    rw [if_pos c, Nat.div_eq_of_lt c, hr]
    congr 1
    omega
  · have hK : f.binade ≤ K := by
      by_cases e : L = 0
      · subst e; rw [Nat.zero_mul, Nat.zero_add] at hr; omega
      · exact k2 (by omega)
    have hr2 : r = f.binade * (L + 1) + (K - f.binade) := by rw [Nat.mul_add, Nat.mul_one, Nat.mul_comm]; omega
    unfold magOf plOf
    rw [if_neg c, hr2, Nat.mul_add_mod, Nat.mod_eq_of_lt (by omega), Nat.mul_add_div hb, Nat.div_eq_of_lt (by omega)]
    congr 1 <;> omega
/-- What the document's answers come to, told by the words alone. -/
def fmtOf (n : Int) : Format := if n = 32 then single else double
def wOf (n a : Int) : Nat := if n = 32 then (a % 4294967296).toNat else a.toNat
def canon (n : Int) : Int := if n = 32 then 2143289344 else 9221120237041090560
def resOf (n : Int) : Option Nat → Int
  | some r => r
  | none => canon n
/-- Is a word a NaN? -/
def nanW (f : Format) (w : Nat) : Bool := decide (f.infRung < rungOf f w)
def ordOf (n a b : Int) : Option Ordering := (fmtOf n).order (wOf n a) (wOf n b)
def kindF (n a : Int) : Int :=
  if n ≠ 32 ∧ n ≠ 64 then 0 else
  if rungOf (fmtOf n) (wOf n a) = 0 then 1 else if nanW (fmtOf n) (wOf n a) then 4 else if rungOf (fmtOf n) (wOf n a) = (fmtOf n).infRung then 3 else 2
/-- The sign's weight. -/
def sgnI (n : Int) : Int := if n = 32 then 2147483648 else 9223372036854775808
def binF (n op a b : Int) : Int × Int :=
  if (n ≠ 32 ∧ n ≠ 64) ∨ op < 1 ∨ 9 < op then (0, 1) else
  let x := (wOf n a : Int)
  let y := (wOf n b : Int)
  if op = 7 then (x % sgnI n + y - y % sgnI n, 0) else
  if op = 8 then (if ordOf n b a = some .lt then y else x, 0) else
  if op = 9 then (if ordOf n a b = some .lt then y else x, 0) else
  if nanW (fmtOf n) (wOf n a) || nanW (fmtOf n) (wOf n b) then (canon n, 0) else
  if op = 5 ∨ op = 6 then
    (if rungOf (fmtOf n) (wOf n a) = 0 ∧ rungOf (fmtOf n) (wOf n b) = 0 then (if (op = 5 ↔ sgnI n ≤ x) then x else y)
     else if (ordOf n a b = some .lt ↔ op = 5) then x else y, 0) else
  if op = 1 then (resOf n ((fmtOf n).add (wOf n a) (wOf n b)), 0) else
  if op = 2 then (resOf n ((fmtOf n).sub (wOf n a) (wOf n b)), 0) else
  if op = 3 then (resOf n ((fmtOf n).mul (wOf n a) (wOf n b)), 0) else (resOf n ((fmtOf n).div (wOf n a) (wOf n b)), 0)
theorem bin_single : single.binade ≤ single.infRung := by decide +kernel
theorem bin_double : double.binade ≤ double.infRung := by decide +kernel
/-- A word of 32 bits, as one of 64 (of a NaN nothing is said). -/
def wd (b : Nat) : Nat := double.write (single.read b)
theorem wd_num (b : Nat) (h : rungOf single b < single.infRung) (h0 : rungOf single b ≠ 0) :
    ∃ k : Nat, ∃ q : Int, q + k = single.leastPlace + (plOf single (rungOf single b) : Nat) ∧
      double.read (wd b) = .number (negOf single b) (magOf single (rungOf single b) * 2 ^ k) q ∧
      rungOf double (wd b) < double.infRung ∧ rungOf double (wd b) ≠ 0 ∧ negOf double (wd b) = negOf single b := by
  have hm0 : magOf single (rungOf single b) ≠ 0 := fun e => h0 ((mag_zero _ _).1 e)
  have hml := mag_lt single (rungOf single b)
  have hp : plOf single (rungOf single b) ≤ 253 := by
    unfold plOf
    have : rungOf single b / single.binade < 255 := (Nat.div_lt_iff_lt_mul (by decide +kernel)).2 (by
      have : single.infRung = 255 * single.binade := by decide +kernel
      omega)
    omega
  have hl : (magOf single (rungOf single b)).log2 ≤ 23 := by
    have := (Nat.log2_lt (n := magOf single (rungOf single b)) (k := 24) hm0).2 (by have : 2 * single.binade = 2 ^ 24 := by decide +kernel
                                                                                    omega)
    omega
  generalize hm : magOf single (rungOf single b) = m at *
  have hL1 : single.leastPlace = -149 := by decide +kernel
  have hL2 : double.leastPlace = -1074 := by decide +kernel
  have hF : double.fractionBits = 52 := rfl
  have hB : double.binade = 2 ^ 52 := rfl
  have hI : double.infRung = 2047 * 2 ^ 52 := by decide +kernel
  have hlast : lastOf double m (single.leastPlace + (plOf single (rungOf single b) : Nat)) = single.leastPlace + (plOf single (rungOf single b) : Nat) + (m.log2 : Int) - 52 := by
    unfold lastOf; rw [hF, hL2, hL1]; omega
  have hk : m * 2 ^ (52 - m.log2) < 2 ^ 53 := by
    have h2 : m < 2 ^ (m.log2 + 1) := Nat.lt_log2_self
    have a : m * 2 ^ (52 - m.log2) < 2 ^ (m.log2 + 1) * 2 ^ (52 - m.log2) := Nat.mul_lt_mul_of_pos_right h2 (pw_pos _)
    rw [← Nat.pow_add, show m.log2 + 1 + (52 - m.log2) = 53 from by omega] at a
    exact a
  have hk1 : 2 ^ 52 ≤ m * 2 ^ (52 - m.log2) := by
    have h2 := Nat.log2_self_le hm0
    have a : 2 ^ m.log2 * 2 ^ (52 - m.log2) ≤ m * 2 ^ (52 - m.log2) := Nat.mul_le_mul_right _ h2
    rw [← Nat.pow_add, show m.log2 + (52 - m.log2) = 52 from by omega] at a
    exact a
  have e1 : (single.leastPlace + (plOf single (rungOf single b) : Nat) - lastOf double m (single.leastPlace + (plOf single (rungOf single b) : Nat))).toNat = 52 - m.log2 := by
    rw [hlast]; omega
  have e2 : (lastOf double m (single.leastPlace + (plOf single (rungOf single b) : Nat)) - double.leastPlace).toNat ≤ 1200 := by rw [hlast, hL2, hL1]; omega
  have hlt : (lastOf double m (single.leastPlace + (plOf single (rungOf single b) : Nat)) - double.leastPlace).toNat * double.binade + m * 2 ^ (single.leastPlace + (plOf single (rungOf single b) : Nat) - lastOf double m (single.leastPlace + (plOf single (rungOf single b) : Nat))).toNat < double.infRung := by
    rw [e1, hB, hI]
    have := Nat.mul_le_mul_right (2 ^ 52) e2
    omega
  have x := exact_read double (negOf single b) m (single.leastPlace + (plOf single (rungOf single b) : Nat)) hm0 (by rw [hF]; omega) (by rw [hL1, hL2]; omega) hlt bin_double
  have ew : wd b = double.nearest (negOf single b) m (single.leastPlace + (plOf single (rungOf single b) : Nat)) := by
    unfold wd
    rw [read_num single b h, hm]
    rfl
  rw [ew]
  refine ⟨52 - m.log2, lastOf double m (single.leastPlace + (plOf single (rungOf single b) : Nat)), ?_, ?_, ?_, ?_, x.2.2.2⟩
  · rw [hlast]; omega
  · rw [x.2.1, e1]
  · rw [x.2.2.1]; exact hlt
  · rw [x.2.2.1, e1]; omega
theorem inf_lt (f : Format) : f.infRung + f.binade = f.signWeight := by
  have h : 0 < 2 ^ f.exponentBits := pw_pos _
  unfold Format.infRung Format.signWeight
  rw [Nat.pow_add, ← Nat.succ_mul]
  exact congrArg (· * f.binade) (by omega)
theorem word_rung (f : Format) (neg : Bool) (r : Nat) (h : r ≤ f.infRung) : rungOf f (f.word neg r) = r ∧ negOf f (f.word neg r) = neg := by
  have hb : 0 < f.binade := pw_pos _
  have := inf_lt f
  unfold rungOf negOf Format.word
  cases neg
  · simp only [Bool.false_eq_true, if_false]
    rw [Nat.mod_eq_of_lt (by omega), Nat.div_eq_of_lt (by omega)]
    exact ⟨rfl, rfl⟩
  · simp only [if_true]
    rw [Nat.add_mod_left, Nat.mod_eq_of_lt (by omega), Nat.add_div_left _ (by omega), Nat.div_eq_of_lt (by omega)]
    exact ⟨rfl, rfl⟩
theorem rne_bounds (n d : Nat) : n / 2 ^ d ≤ rne n d ∧ rne n d ≤ n / 2 ^ d + 1 := by
  unfold rne; split <;> omega
theorem kept_bounds (f : Format) (m : Nat) (p : Int) (hm : m ≠ 0) :
    rneP m (p - lastOf f m p) ≤ 2 * f.binade ∧ (f.leastPlace < lastOf f m p → f.binade ≤ rneP m (p - lastOf f m p)) := by
  have h1 := Nat.log2_self_le hm
  have h2 : m < 2 ^ (m.log2 + 1) := Nat.lt_log2_self
  unfold rneP
  by_cases c : lastOf f m p ≤ p
  · rw [show (-(p - lastOf f m p)).toNat = 0 from by omega, rne_zero]
    constructor
    · have a : m * 2 ^ (p - lastOf f m p).toNat < 2 ^ (m.log2 + 1) * 2 ^ (p - lastOf f m p).toNat := Nat.mul_lt_mul_of_pos_right h2 (pw_pos _)
      rw [← Nat.pow_add] at a
      have b : 2 ^ (m.log2 + 1 + (p - lastOf f m p).toNat) ≤ 2 ^ (f.fractionBits + 1) := Nat.pow_le_pow_right (by decide) (by unfold lastOf at *; omega)
      rw [Nat.pow_succ 2 f.fractionBits, Nat.mul_comm _ 2] at b
      exact Nat.le_of_lt (Nat.lt_of_lt_of_le a b)
    · intro h
      have a : 2 ^ m.log2 * 2 ^ (p - lastOf f m p).toNat ≤ m * 2 ^ (p - lastOf f m p).toNat := Nat.mul_le_mul_right _ h1
      rw [← Nat.pow_add] at a
      refine Nat.le_trans ?_ a
      exact Nat.pow_le_pow_right (by decide) (by unfold lastOf at *; omega)
  · rw [show (p - lastOf f m p).toNat = 0 from by omega, Nat.pow_zero, Nat.mul_one]
    generalize hd : (-(p - lastOf f m p)).toNat = d
    have rb := rne_bounds m d
    constructor
    · have : m / 2 ^ d < 2 * f.binade := (Nat.div_lt_iff_lt_mul (pw_pos d)).2 (by
        have b : 2 ^ (m.log2 + 1) ≤ 2 ^ (f.fractionBits + 1 + d) := Nat.pow_le_pow_right (by decide) (by unfold lastOf at *; omega)
        rw [Nat.pow_add 2 (f.fractionBits + 1), Nat.pow_succ 2 f.fractionBits, Nat.mul_comm _ 2] at b
        exact Nat.lt_of_lt_of_le h2 b)
      omega
    · intro h
      have : f.binade ≤ m / 2 ^ d := (Nat.le_div_iff_mul_le (pw_pos d)).2 (by
        have b : 2 ^ (f.fractionBits + d) ≤ 2 ^ m.log2 := Nat.pow_le_pow_right (by decide) (by unfold lastOf at *; omega)
        rw [Nat.pow_add] at b
        exact Nat.le_trans b h1)
      omega
theorem s_least : single.leastPlace = -149 := by decide +kernel
theorem s_bin : single.binade = 8388608 := by decide +kernel
theorem s_inf : single.infRung = 255 * 8388608 := by decide +kernel
theorem s_sgn : single.signWeight = 2147483648 := by decide +kernel
theorem d_least : double.leastPlace = -1074 := by decide +kernel
theorem d_bin : double.binade = 4503599627370496 := by decide +kernel
theorem d_inf : double.infRung = 2047 * 4503599627370496 := by decide +kernel
theorem d_sgn : double.signWeight = 9223372036854775808 := by decide +kernel
/-- A finite word of 32 bits as one of 64 is read with the same value. -/
theorem wd_fin (b : Nat) (h : rungOf single b < single.infRung) :
    ∃ k : Nat, ∃ q : Int, q + k = single.leastPlace + (plOf single (rungOf single b) : Nat) ∧
      double.read (wd b) = .number (negOf single b) (magOf single (rungOf single b) * 2 ^ k) q ∧
      rungOf double (wd b) < double.infRung ∧ (rungOf double (wd b) = 0 ↔ rungOf single b = 0) ∧ negOf double (wd b) = negOf single b := by
  by_cases h0 : rungOf single b = 0
  · have hm : magOf single (rungOf single b) = 0 := (mag_zero _ _).2 h0
    have ew : wd b = double.word (negOf single b) 0 := by
      unfold wd
      rw [read_num single b h, hm]
      exact nearest_zero ..
    have w := word_rung double (negOf single b) 0 (by decide +kernel)
    rw [ew]
    refine ⟨(single.leastPlace + (plOf single (rungOf single b) : Nat) - double.leastPlace).toNat, double.leastPlace, ?_, ?_, by rw [w.1]; decide +kernel, by rw [w.1]; simp [h0], w.2⟩
    · rw [s_least, d_least]; omega
    · rw [read_num double _ (by rw [w.1]; decide +kernel), w.1, w.2, hm, Nat.zero_mul]
      have : magOf double 0 = 0 := (mag_zero double 0).2 rfl
      have e2 : plOf double 0 = 0 := by unfold plOf; rw [Nat.zero_div]
      rw [this, e2]
      congr 1
  · obtain ⟨k, q, a1, a2, a3, a4, a5⟩ := wd_num b h h0
    exact ⟨k, q, a1, a2, a3, ⟨fun e => absurd e a4, fun e => absurd e h0⟩, a5⟩
theorem wd_inf (b : Nat) (h : rungOf single b = single.infRung) : double.read (wd b) = .infinity (negOf single b) ∧ rungOf double (wd b) = double.infRung ∧ negOf double (wd b) = negOf single b := by
  have ew : wd b = double.word (negOf single b) double.infRung := by
    unfold wd
    rw [read_inf single b bin_single h]
    rfl
  have w := word_rung double (negOf single b) double.infRung (Nat.le_refl _)
  rw [ew]
  refine ⟨?_, w⟩
  rw [read_inf double _ bin_double w.1, w.2]
end Go.Proofs.YtjecdciabpjgcaaGreatDoor.Fl
