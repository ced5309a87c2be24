/-
  Plain arithmetic of rounding to nearest, ties to even, over natural numbers: scaling, and a last bit that stands for what was left over.
-/
import GoSem.Core.Float
namespace Go.Proofs.Ytonofklhapfdpaa.Fl
set_option linter.unusedVariables false
set_option linter.unusedSimpArgs false
open Ieee

/-- 'n / 2 ^ d', rounded to the nearest whole number, ties to even. -/
def rne (n d : Nat) : Nat := n / 2 ^ d + (if 2 ^ d < 2 * (n % 2 ^ d) ∨ (2 ^ d = 2 * (n % 2 ^ d) ∧ n / 2 ^ d % 2 = 1) then 1 else 0)

theorem pw_pos (d : Nat) : 0 < 2 ^ d := Nat.pow_pos (by decide)

theorem rne_zero (n : Nat) : rne n 0 = n := by
  unfold rne
  simp only [Nat.pow_zero, Nat.div_one, Nat.mod_one]
  rw [if_neg (by omega)]
  rfl

theorem rne_small (n d : Nat) (h : 2 * n < 2 ^ d) : rne n d = 0 := by
  unfold rne
  rw [Nat.div_eq_of_lt (by omega), Nat.mod_eq_of_lt (by omega), if_neg (by omega)]

theorem cut_even (neg : Bool) (n drop : Nat) : Toward.even.cut neg n drop = rne n drop := by
  unfold Toward.cut
  simp only [Nat.shiftLeft_eq, Nat.one_mul]
  have key : ∀ d, n / 2 ^ d + (decide (2 ^ d < 2 * (n % 2 ^ d)) || (2 ^ d == 2 * (n % 2 ^ d) && n / 2 ^ d % 2 == 1)).toNat = rne n d := by
    intro d
    unfold rne
    congr 1
    by_cases h : 2 ^ d < 2 * (n % 2 ^ d) ∨ (2 ^ d = 2 * (n % 2 ^ d) ∧ n / 2 ^ d % 2 = 1)
    · rw [if_pos h]
      have : (decide (2 ^ d < 2 * (n % 2 ^ d)) || (2 ^ d == 2 * (n % 2 ^ d) && n / 2 ^ d % 2 == 1)) = true := by
        rw [Bool.or_eq_true, Bool.and_eq_true, decide_eq_true_eq, beq_iff_eq, beq_iff_eq]; exact h
      rw [this]; rfl
    · rw [if_neg h]
      have : (decide (2 ^ d < 2 * (n % 2 ^ d)) || (2 ^ d == 2 * (n % 2 ^ d) && n / 2 ^ d % 2 == 1)) = false := by
        rw [Bool.eq_false_iff, Ne, Bool.or_eq_true, Bool.and_eq_true, decide_eq_true_eq, beq_iff_eq, beq_iff_eq]; exact h
      rw [this]; rfl
  rw [key]
  by_cases h : drop ≤ n.log2 + 2
  · rw [Nat.min_eq_left h]
  · rw [Nat.min_eq_right (by omega)]
    have h1 : n < 2 ^ (n.log2 + 1) := Nat.lt_log2_self
    have h2 : 2 ^ (n.log2 + 2) = 2 * 2 ^ (n.log2 + 1) := by rw [Nat.pow_succ 2 (n.log2 + 1), Nat.mul_comm]
    have h3 : 2 ^ (n.log2 + 2) ≤ 2 ^ drop := Nat.pow_le_pow_right (by decide) (by omega)
    rw [rne_small n _ (by omega), rne_small n _ (by omega)]

theorem rne_scale (n k d : Nat) : rne (n * 2 ^ k) (d + k) = rne n d := by
  unfold rne
  have hk := pw_pos k
  rw [Nat.pow_add, Nat.mul_div_mul_right _ _ hk, Nat.mul_mod_mul_right]
  congr 1
  have e : 2 * (n % 2 ^ d * 2 ^ k) = (2 * (n % 2 ^ d)) * 2 ^ k := by rw [Nat.mul_assoc]
  rw [e]
  have a : (2 ^ d * 2 ^ k < 2 * (n % 2 ^ d) * 2 ^ k) ↔ (2 ^ d < 2 * (n % 2 ^ d)) := Nat.mul_lt_mul_right hk
  have b : (2 ^ d * 2 ^ k = 2 * (n % 2 ^ d) * 2 ^ k) ↔ (2 ^ d = 2 * (n % 2 ^ d)) := Nat.mul_left_inj (by omega)
  simp only [a, b]

/-- A number without its last 'j' bits; its last bit is 1 where one of them was. -/
def jam (n j : Nat) : Nat := if n % 2 ^ j = 0 then n / 2 ^ j else n / 2 ^ j / 2 * 2 + 1

theorem jam_zero (n : Nat) : jam n 0 = n := by unfold jam; simp [Nat.mod_one]

theorem jam_big (n j : Nat) (h : n < 2 ^ j) (h0 : n ≠ 0) : jam n j = 1 := by
  unfold jam
  rw [Nat.mod_eq_of_lt h, if_neg h0, Nat.div_eq_of_lt h]

theorem rne_jam (n j d : Nat) (hd : 2 ≤ d) : rne (jam n j) d = rne n (d + j) := by
  unfold jam
  by_cases hz : n % 2 ^ j = 0
  · rw [if_pos hz]
    have : n = n / 2 ^ j * 2 ^ j := by have := Nat.div_add_mod n (2 ^ j); rw [hz, Nat.mul_comm] at this; omega
    conv => rhs; rw [this, rne_scale]
  · rw [if_neg hz]
    unfold rne
    have hj := pw_pos j
    obtain ⟨c, rfl⟩ : ∃ c, d = c + 2 := ⟨d - 2, by omega⟩
    have e1 : n / 2 ^ (c + 2 + j) = n / 2 ^ j / 2 / 2 ^ (c + 1) := by
      rw [Nat.div_div_eq_div_mul, Nat.div_div_eq_div_mul]; congr 1; rw [show c + 2 + j = j + 1 + (c + 1) from by omega, Nat.pow_add, Nat.pow_succ, Nat.mul_assoc]
    have e2 : (n / 2 ^ j / 2 * 2 + 1) / 2 ^ (c + 2) = n / 2 ^ j / 2 / 2 ^ (c + 1) := by
      rw [show c + 2 = 1 + (c + 1) from by omega, Nat.pow_add, ← Nat.div_div_eq_div_mul, Nat.pow_one]
      rw [show (n / 2 ^ j / 2 * 2 + 1) / 2 = n / 2 ^ j / 2 from by omega]
    rw [e1, e2]
    have hq := Nat.div_add_mod (n / 2 ^ j / 2) (2 ^ (c + 1))
    have hm := Nat.mod_lt (n / 2 ^ j / 2) (pw_pos (c + 1))
    have m1 : (n / 2 ^ j / 2 * 2 + 1) % 2 ^ (c + 2) = n / 2 ^ j / 2 % 2 ^ (c + 1) * 2 + 1 := by
      have := Nat.div_add_mod (n / 2 ^ j / 2 * 2 + 1) (2 ^ (c + 2))
      rw [e2] at this
      have p : 2 ^ (c + 2) = 2 ^ (c + 1) * 2 := Nat.pow_succ ..
      rw [p] at this ⊢
      have : 2 ^ (c + 1) * 2 * (n / 2 ^ j / 2 / 2 ^ (c + 1)) = 2 * (2 ^ (c + 1) * (n / 2 ^ j / 2 / 2 ^ (c + 1))) := by ac_rfl
      omega
    have m2 : n % 2 ^ (c + 2 + j) = (n / 2 ^ j / 2 % 2 ^ (c + 1) * 2 + n / 2 ^ j % 2) * 2 ^ j + n % 2 ^ j := by
      have a := Nat.div_add_mod n (2 ^ (c + 2 + j))
      rw [e1] at a
      have b := Nat.div_add_mod n (2 ^ j)
      have c1 := Nat.div_add_mod (n / 2 ^ j) 2
      have p : 2 ^ (c + 2 + j) = 2 ^ (c + 1) * 2 * 2 ^ j := by rw [Nat.pow_add, Nat.pow_succ]
      rw [p] at a ⊢
      generalize n % (2 ^ (c + 1) * 2 * 2 ^ j) = X at *
      generalize hA : n / 2 ^ j / 2 / 2 ^ (c + 1) = A at *
      generalize hB : n / 2 ^ j / 2 % 2 ^ (c + 1) = B at *
      generalize n / 2 ^ j / 2 = Q at *
      generalize n / 2 ^ j % 2 = r at *
      generalize n / 2 ^ j = N at *
      generalize n % 2 ^ j = z at *
      subst hq
      rw [← c1] at b
      rw [← b] at a
      have : 2 ^ (c + 1) * 2 * 2 ^ j * A = 2 ^ j * (2 * (2 ^ (c + 1) * A)) := by ac_rfl
      rw [this] at a
      have : 2 ^ j * (2 * (2 ^ (c + 1) * A + B) + r) = 2 ^ j * (2 * (2 ^ (c + 1) * A)) + (B * 2 + r) * 2 ^ j := by
        simp only [Nat.mul_add, Nat.add_mul]; ac_rfl
      omega
    rw [m1, m2]
    have p1 : 2 ^ (c + 2) = 2 ^ c * 4 := by rw [Nat.pow_add]
    have p2 : 2 ^ (c + 1) = 2 ^ c * 2 := Nat.pow_succ ..
    have p3 : 2 ^ (c + 2 + j) = 2 ^ c * 4 * 2 ^ j := by rw [Nat.pow_add, p1]
    have hz' : 0 < n % 2 ^ j := by omega
    have hlt := Nat.mod_lt n hj
    have hr : n / 2 ^ j % 2 < 2 := Nat.mod_lt _ (by decide)
    have hc := pw_pos c
    rw [p1, p3]
    rw [p2] at hm ⊢
    generalize n / 2 ^ j / 2 % (2 ^ c * 2) = B at *
    generalize n / 2 ^ j % 2 = r at *
    generalize n / 2 ^ j / 2 / (2 ^ c * 2) % 2 = odd at *
    generalize n % 2 ^ j = z at *
    generalize n / 2 ^ j / 2 / (2 ^ c * 2) = A at *
    congr 1
    by_cases hB : 2 ^ c ≤ B
    · have l : 2 ^ c * 4 * 2 ^ j < 2 * ((B * 2 + r) * 2 ^ j + z) := by
        have : 2 ^ c * 2 * 2 ^ j ≤ (B * 2 + r) * 2 ^ j := Nat.mul_le_mul_right _ (by omega)
        have : 2 ^ c * 4 * 2 ^ j = 2 * (2 ^ c * 2 * 2 ^ j) := by rw [show 2 ^ c * 4 = 2 * (2 ^ c * 2) from by omega, Nat.mul_assoc]
        omega
      rw [if_pos (Or.inl (by omega)), if_pos (Or.inl l)]
    · have l : 2 * ((B * 2 + r) * 2 ^ j + z) < 2 ^ c * 4 * 2 ^ j := by
        have : (B * 2 + r + 1) * 2 ^ j ≤ 2 ^ c * 2 * 2 ^ j := Nat.mul_le_mul_right _ (by omega)
        have : 2 ^ c * 4 * 2 ^ j = 2 * (2 ^ c * 2 * 2 ^ j) := by rw [show 2 ^ c * 4 = 2 * (2 ^ c * 2) from by omega, Nat.mul_assoc]
        rw [Nat.add_mul (B * 2 + r) 1, Nat.one_mul] at *
        omega
      rw [if_neg (by omega), if_neg (by omega)]

/-- The value 'm * 2 ^ s', rounded to the nearest whole number, ties to even. -/
def rneP (m : Nat) (s : Int) : Nat := rne (m * 2 ^ s.toNat) (-s).toNat

theorem rneP_scale (m k : Nat) (s : Int) : rneP (m * 2 ^ k) s = rneP m (s + k) := by
  unfold rneP
  by_cases h0 : 0 ≤ s
  · rw [show (-s).toNat = 0 from by omega, show (-(s + (k : Int))).toNat = 0 from by omega, rne_zero, rne_zero,
      show (s + (k : Int)).toNat = k + s.toNat from by omega, Nat.pow_add, Nat.mul_assoc]
  · by_cases h1 : 0 ≤ s + k
    · obtain ⟨d, hd⟩ : ∃ d : Nat, s = -(d : Int) := ⟨(-s).toNat, by omega⟩
      subst hd
      obtain ⟨r, rfl⟩ : ∃ r, k = r + d := ⟨k - d, by omega⟩
      rw [show (-(d : Int)).toNat = 0 from by omega, show (- -(d : Int)).toNat = 0 + d from by omega, show (-(-(d : Int) + ((r + d : Nat) : Int))).toNat = 0 from by omega,
        show (-(d : Int) + ((r + d : Nat) : Int)).toNat = r from by omega, Nat.pow_zero, Nat.mul_one, Nat.pow_add, ← Nat.mul_assoc, rne_scale, rne_zero]
    · rw [show s.toNat = 0 from by omega, show (s + (k : Int)).toNat = 0 from by omega, show (-s).toNat = (-(s + (k : Int))).toNat + k from by omega,
        Nat.pow_zero, Nat.mul_one, Nat.mul_one, rne_scale]

theorem log2_scale (n k : Nat) (h : n ≠ 0) : (n * 2 ^ k).log2 = n.log2 + k := by
  have hk := pw_pos k
  have h1 := Nat.log2_self_le h
  have h2 : n < 2 ^ (n.log2 + 1) := Nat.lt_log2_self
  refine (Nat.log2_eq_iff (by have := Nat.mul_pos (Nat.pos_of_ne_zero h) hk; omega)).2 ⟨?_, ?_⟩
  · rw [Nat.pow_add]; exact Nat.mul_le_mul_right _ h1
  · rw [show n.log2 + k + 1 = n.log2 + 1 + k from by omega, Nat.pow_add]; exact Nat.mul_lt_mul_of_pos_right h2 hk

theorem log2_cut (n k : Nat) (h : n / 2 ^ k ≠ 0) : n.log2 = (n / 2 ^ k).log2 + k := by
  have hk := pw_pos k
  have h1 := Nat.log2_self_le h
  have h2 : n / 2 ^ k < 2 ^ ((n / 2 ^ k).log2 + 1) := Nat.lt_log2_self
  have hn : n ≠ 0 := by intro e; subst e; simp at h
  refine (Nat.log2_eq_iff hn).2 ⟨?_, ?_⟩
  · rw [Nat.pow_add]; exact Nat.le_trans (Nat.mul_le_mul_right _ h1) (Nat.div_mul_le_self _ _)
  · rw [show (n / 2 ^ k).log2 + k + 1 = (n / 2 ^ k).log2 + 1 + k from by omega, Nat.pow_add]; exact (Nat.div_lt_iff_lt_mul hk).1 h2

theorem log2_jam (n j : Nat) (h : 2 ≤ n / 2 ^ j) : (jam n j).log2 = (n / 2 ^ j).log2 := by
  unfold jam
  split
  · rfl
  · generalize n / 2 ^ j = a at *
    have h1 := Nat.log2_self_le (n := a) (by omega)
    have h2 : a < 2 ^ (a.log2 + 1) := Nat.lt_log2_self
    have h3 : 1 ≤ a.log2 := (Nat.le_log2 (by omega)).2 (by omega)
    refine (Nat.log2_eq_iff (by omega)).2 ⟨by omega, ?_⟩
    have : 2 ^ (a.log2 + 1) = 2 * 2 ^ a.log2 := by rw [Nat.pow_succ, Nat.mul_comm]
    omega

theorem jam_ne (n j : Nat) (h : n ≠ 0) : jam n j ≠ 0 := by
  unfold jam
  split
  · rename_i hz
    intro e
    have := Nat.div_add_mod n (2 ^ j)
    rw [e, hz] at this
    omega
  · omega

/-- The place of the last digit that is kept. -/
def lastOf (f : Format) (mag : Nat) (place : Int) : Int := max (place + mag.log2 - f.fractionBits) f.leastPlace

theorem nearest_eq (f : Format) (neg : Bool) (mag : Nat) (place : Int) (h : mag ≠ 0) :
    f.nearest neg mag place = f.word neg (min ((lastOf f mag place - f.leastPlace).toNat * f.binade + rneP mag (place - lastOf f mag place)) f.infRung) := by
  unfold Format.nearest
  rw [if_neg h]
  simp only [cut_even, Nat.shiftLeft_eq]
  unfold rneP lastOf
  rw [Int.neg_sub]

theorem nearest_zero (f : Format) (neg : Bool) (place : Int) : f.nearest neg 0 place = f.word neg 0 := by
  unfold Format.nearest
  rw [if_pos rfl]

theorem nearest_scale (f : Format) (neg : Bool) (m k : Nat) (place : Int) : f.nearest neg (m * 2 ^ k) place = f.nearest neg m (place + k) := by
  by_cases h : m = 0
  · subst h; rw [Nat.zero_mul, nearest_zero, nearest_zero]
  · have hk := pw_pos k
    have : lastOf f (m * 2 ^ k) place = lastOf f m (place + k) := by
      unfold lastOf; rw [log2_scale m k h]; congr 1; omega
    rw [nearest_eq f neg _ place (by have := Nat.mul_pos (Nat.pos_of_ne_zero h) hk; omega), nearest_eq f neg m _ h, this, rneP_scale]
    rw [show place - lastOf f m (place + ↑k) + ↑k = place + ↑k - lastOf f m (place + ↑k) from by omega]

theorem nearest_jam (f : Format) (neg : Bool) (n j : Nat) (place : Int) (h : f.fractionBits + 2 ≤ (n / 2 ^ j).log2) :
    f.nearest neg (jam n j) (place + j) = f.nearest neg n place := by
  have ha : 2 ≤ n / 2 ^ j := by
    apply Classical.byContradiction
    intro c
    generalize n / 2 ^ j = a at *
    have : a = 0 ∨ a = 1 := by omega
    rcases this with e | e
    · rw [e, Nat.log2_zero] at h; omega
    · rw [e, show Nat.log2 1 = 0 from by decide] at h; omega
  have hn : n ≠ 0 := by intro e; subst e; rw [Nat.zero_div] at ha; omega
  have hl : lastOf f (jam n j) (place + j) = lastOf f n place := by
    unfold lastOf; rw [log2_jam n j ha, log2_cut n j (by omega)]; congr 1; omega
  have hd : 2 ≤ lastOf f n place - (place + j) := by
    unfold lastOf; rw [log2_cut n j (by omega)]; omega
  rw [nearest_eq f neg _ _ (jam_ne n j hn), nearest_eq f neg n _ hn, hl]
  have : rneP (jam n j) (place + ↑j - lastOf f n place) = rneP n (place - lastOf f n place) := by
    unfold rneP
    rw [show (place + ↑j - lastOf f n place).toNat = 0 from by omega, show (place - lastOf f n place).toNat = 0 from by omega, Nat.pow_zero, Nat.mul_one, Nat.mul_one,
      rne_jam n j _ (by omega)]
    congr 1
    omega
  rw [this]
theorem jam_add (A N j : Nat) (h : A % 2 = 0) : jam (A * 2 ^ j + N) j = A + jam N j := by
  unfold jam
  have hj := pw_pos j
  rw [Nat.mul_comm A, Nat.mul_add_mod, Nat.mul_add_div hj]
  split
  · rfl
  · omega

theorem jam_sub (A N j : Nat) (h : A % 2 = 0) (hN : N ≤ A * 2 ^ j) : jam (A * 2 ^ j - N) j = A - jam N j := by
  have hj := pw_pos j
  have hq := Nat.div_add_mod N (2 ^ j)
  have hm := Nat.mod_lt N hj
  unfold jam
  generalize hQ : N / 2 ^ j = q at *
  generalize hR : N % 2 ^ j = r at *
  by_cases hz : r = 0
  · have e : A * 2 ^ j - N = (A - q) * 2 ^ j := by rw [Nat.sub_mul, ← hq, hz, Nat.add_zero, Nat.mul_comm q]
    rw [e, Nat.mul_mod_left, if_pos rfl, Nat.mul_div_cancel _ hj, if_pos hz]
  · have hlt : q < A := by
      apply Classical.byContradiction; intro c
      have : A * 2 ^ j ≤ q * 2 ^ j := Nat.mul_le_mul_right _ (by omega)
      rw [Nat.mul_comm q] at this
      omega
    have e : A * 2 ^ j - N = (A - q - 1) * 2 ^ j + (2 ^ j - r) := by
      obtain ⟨c, rfl⟩ : ∃ c, A = q + 1 + c := ⟨A - q - 1, by omega⟩
      rw [show q + 1 + c - q - 1 = c from by omega, ← hq, Nat.add_mul, Nat.add_mul, Nat.one_mul, Nat.mul_comm q]
      omega
    rw [e, Nat.mul_comm (A - q - 1), Nat.mul_add_mod, Nat.mul_add_div hj, Nat.mod_eq_of_lt (by omega), Nat.div_eq_of_lt (by omega), if_neg (by omega), if_neg hz]
    omega

theorem jam_jam_ge (N j k : Nat) (h : N < 2 ^ j) (hk : j ≤ k) : jam N k = jam N j := by
  by_cases h0 : N = 0
  · subst h0; unfold jam; simp
  · rw [jam_big N j h h0, jam_big N k (Nat.lt_of_lt_of_le h (Nat.pow_le_pow_right (by decide) hk)) h0]

theorem jam_eq_zero (N j : Nat) : jam N j = 0 ↔ N = 0 := by
  constructor
  · intro h; apply Classical.byContradiction; intro c; exact jam_ne N j c h
  · intro h; subst h; unfold jam; simp

/-- What is rounded may be jammed first, where nothing but nought is dropped, or where enough digits are left. -/
theorem nearest_jam_or (f : Format) (neg : Bool) (n j : Nat) (place : Int) (h : n % 2 ^ j = 0 ∨ f.fractionBits + 2 ≤ (n / 2 ^ j).log2) :
    f.nearest neg (jam n j) (place + j) = f.nearest neg n place := by
  by_cases hz : n % 2 ^ j = 0
  · have : n = n / 2 ^ j * 2 ^ j := by have := Nat.div_add_mod n (2 ^ j); rw [hz, Nat.mul_comm] at this; omega
    conv => rhs; rw [this, nearest_scale]
    unfold jam
    rw [if_pos hz]
  · exact nearest_jam f neg n j place (h.resolve_left hz)

/-- A quotient's digits, and one more that is 1 where anything is left over. -/
def quo (m n K : Nat) : Nat := 2 * (m * 2 ^ K / n) + (if m * 2 ^ K % n = 0 then 0 else 1)

theorem quo_jam (m n K t : Nat) (hn : 0 < n) : jam (quo m n (K + t)) t = quo m n K := by
  have ht := pw_pos t
  unfold quo
  have e1 : m * 2 ^ (K + t) = m * 2 ^ K * 2 ^ t := by rw [Nat.pow_add, Nat.mul_assoc]
  rw [e1]
  generalize m * 2 ^ K = M at *
  have hq := Nat.div_add_mod M n
  have hr := Nat.mod_lt M hn
  generalize M / n = q at *
  generalize hR : M % n = r at *
  have hq2 := Nat.div_add_mod (r * 2 ^ t) n
  have hr2 := Nat.mod_lt (r * 2 ^ t) hn
  have d1 : M * 2 ^ t / n = q * 2 ^ t + r * 2 ^ t / n := by
    rw [← hq, Nat.add_mul, Nat.mul_assoc, Nat.mul_add_div hn]
  have d2 : M * 2 ^ t % n = r * 2 ^ t % n := by
    rw [← hq, Nat.add_mul, Nat.mul_assoc, Nat.mul_add_mod]
  rw [d1, d2]
  have hlt : r * 2 ^ t / n < 2 ^ t := (Nat.div_lt_iff_lt_mul hn).2 (by rw [Nat.mul_comm (2 ^ t)]; exact Nat.mul_lt_mul_of_pos_right hr ht)
  by_cases hz : r = 0
  · subst hz
    rw [Nat.zero_mul, Nat.zero_div, Nat.zero_mod, if_pos rfl, Nat.add_zero, Nat.add_zero, ← Nat.mul_assoc]
    unfold jam
    rw [Nat.mul_mod_left, if_pos rfl, Nat.mul_div_cancel _ ht]
    rfl
  · rw [if_neg hz]
    generalize hs : (if r * 2 ^ t % n = 0 then 0 else 1) = s at *
    have hs1 : s ≤ 1 := by subst hs; split <;> omega
    have hne : ¬ (r * 2 ^ t / n = 0 ∧ s = 0) := by
      rintro ⟨a, b⟩
      rw [a] at hq2
      have : r * 2 ^ t % n = 0 := by subst hs; split at b <;> omega
      have : 0 < r * 2 ^ t := Nat.mul_pos (by omega) ht
      omega
    generalize r * 2 ^ t / n = u at *
    have e : 2 * (q * 2 ^ t + u) + s = 2 ^ t * (2 * q) + (2 * u + s) := by
      rw [Nat.mul_add, Nat.mul_comm (2 ^ t), Nat.mul_assoc]; omega
    rw [e]
    unfold jam
    rw [Nat.mul_add_mod, Nat.mul_add_div ht]
    by_cases hb : 2 * u + s < 2 ^ t
    · rw [Nat.mod_eq_of_lt hb, Nat.div_eq_of_lt hb, if_neg (by omega)]
      omega
    · have f1 : (2 * u + s) / 2 ^ t = 1 := by
        refine (Nat.div_eq_iff ht).2 ⟨by omega, by omega⟩
      rw [f1]
      have f2 := Nat.div_add_mod (2 * u + s) (2 ^ t)
      rw [f1] at f2
      split <;> omega

/-- Digits of a quotient beyond those that a format needs don't matter. -/
theorem nearest_quo (f : Format) (neg : Bool) (m n K L : Nat) (place : Int) (hn : 0 < n) (hK : f.fractionBits + 2 ≤ (quo m n K).log2) (hL : f.fractionBits + 2 ≤ (quo m n L).log2) :
    f.nearest neg (quo m n K) (place - K) = f.nearest neg (quo m n L) (place - L) := by
  have key : ∀ K t : Nat, f.fractionBits + 2 ≤ (quo m n K).log2 → f.nearest neg (quo m n K) (place - K) = f.nearest neg (quo m n (K + t)) (place - ((K + t : Nat) : Int)) := by
    intro K t h
    rw [← nearest_jam_or f neg (quo m n (K + t)) t (place - ((K + t : Nat) : Int)) ?_, quo_jam m n K t hn]
    · congr 1; omega
    · by_cases hz : quo m n (K + t) % 2 ^ t = 0
      · exact .inl hz
      · refine .inr ?_
        have hj := quo_jam m n K t hn
        have h2 : 2 ≤ quo m n (K + t) / 2 ^ t := by
          apply Classical.byContradiction; intro c
          unfold jam at hj
          rw [if_neg hz] at hj
          have : quo m n K = 1 := by omega
          rw [this, show Nat.log2 1 = 0 from by decide] at h
          omega
        rw [← hj, log2_jam _ _ h2] at h
        exact h
  by_cases c : K ≤ L
  · obtain ⟨t, rfl⟩ : ∃ t, L = K + t := ⟨L - K, by omega⟩
    exact key K t hK
  · obtain ⟨t, rfl⟩ : ∃ t, K = L + t := ⟨K - L, by omega⟩
    exact (key L t hL).symm
theorem jam_two (q u s t : Nat) (hu : u < 2 ^ t) (hs : s ≤ 1) : jam (2 * (q * 2 ^ t + u) + s) t = 2 * q + (if u = 0 ∧ s = 0 then 0 else 1) := by
  have ht := pw_pos t
  have e : 2 * (q * 2 ^ t + u) + s = 2 ^ t * (2 * q) + (2 * u + s) := by
    rw [Nat.mul_add, Nat.mul_comm (2 ^ t), Nat.mul_assoc]; omega
  rw [e]
  unfold jam
  rw [Nat.mul_add_mod, Nat.mul_add_div ht]
  by_cases hz : u = 0 ∧ s = 0
  · rw [if_pos hz, hz.1, hz.2]; simp
  · rw [if_neg hz]
    by_cases hb : 2 * u + s < 2 ^ t
    · rw [Nat.mod_eq_of_lt hb, Nat.div_eq_of_lt hb, if_neg (by omega)]
      omega
    · have f1 : (2 * u + s) / 2 ^ t = 1 := (Nat.div_eq_iff ht).2 ⟨by omega, by omega⟩
      rw [f1]
      have f2 := Nat.div_add_mod (2 * u + s) (2 ^ t)
      rw [f1] at f2
      split <;> omega

/-- 'r' is the whole root of 'n'. -/
def IsRt (n r : Nat) : Prop := r * r ≤ n ∧ n < (r + 1) * (r + 1)

theorem sq_lt {a b : Nat} (h : a * a < b * b) : a < b := by
  apply Classical.byContradiction; intro c
  have := Nat.mul_le_mul (show b ≤ a by omega) (show b ≤ a by omega)
  omega
theorem sq_le {a b : Nat} (h : a * a ≤ b * b) : a ≤ b := by
  apply Classical.byContradiction; intro c
  have : b + 1 ≤ a := by omega
  have h1 := Nat.mul_le_mul this this
  have h2 : (b + 1) * (b + 1) = b * b + 2 * b + 1 := by rw [Nat.add_mul, Nat.mul_add]; omega
  omega
theorem IsRt.eq {n r s : Nat} (h : IsRt n r) (g : IsRt n s) : r = s := by
  have a := sq_lt (Nat.lt_of_le_of_lt h.1 g.2)
  have b := sq_lt (Nat.lt_of_le_of_lt g.1 h.2)
  omega

theorem rootFrom_is (n : Nat) : ∀ todo root, root * root ≤ n → n < (root + 2 ^ todo) * (root + 2 ^ todo) → IsRt n (Datum.rootFrom n todo root)
  | 0, root, h1, h2 => by unfold Datum.rootFrom; exact ⟨h1, by simpa using h2⟩
  | todo + 1, root, h1, h2 => by
    unfold Datum.rootFrom
    simp only [Nat.shiftLeft_eq, Nat.one_mul]
    split
    · rename_i h
      refine rootFrom_is n todo _ h ?_
      rw [show root + 2 ^ todo + 2 ^ todo = root + 2 ^ (todo + 1) from by rw [Nat.pow_succ]; omega]
      exact h2
    · exact rootFrom_is n todo root h1 (by omega)

theorem rootFrom_whole (n : Nat) : IsRt n (Datum.rootFrom n (n.log2 / 2 + 1) 0) := by
  refine rootFrom_is n _ 0 (by omega) ?_
  rw [Nat.zero_add, ← Nat.pow_add]
  refine Nat.lt_of_lt_of_le Nat.lt_log2_self (Nat.pow_le_pow_right (by decide) (by omega))

/-- A root's digits, and one more that is 1 where it is not the whole root. -/
def rtS (n r : Nat) : Nat := 2 * r + (if r * r = n then 0 else 1)

theorem rt_jam (n r r' t : Nat) (h : IsRt n r) (h' : IsRt (n * 2 ^ (2 * t)) r') : jam (rtS (n * 2 ^ (2 * t)) r') t = rtS n r := by
  have ht := pw_pos t
  have p2 : 2 ^ (2 * t) = 2 ^ t * 2 ^ t := by rw [Nat.two_mul, Nat.pow_add]
  have hq : r' / 2 ^ t = r := by
    refine IsRt.eq (n := n) ⟨?_, ?_⟩ h
    · have a : (r' / 2 ^ t * 2 ^ t) * (r' / 2 ^ t * 2 ^ t) ≤ n * 2 ^ (2 * t) :=
        Nat.le_trans (Nat.mul_le_mul (Nat.div_mul_le_self _ _) (Nat.div_mul_le_self _ _)) h'.1
      have e : (r' / 2 ^ t * 2 ^ t) * (r' / 2 ^ t * 2 ^ t) = (r' / 2 ^ t * (r' / 2 ^ t)) * 2 ^ (2 * t) := by rw [p2]; ac_rfl
      rw [e] at a
      exact Nat.le_of_mul_le_mul_right a (pw_pos _)
    · have l : r' + 1 ≤ (r' / 2 ^ t + 1) * 2 ^ t := by
        have := Nat.div_add_mod r' (2 ^ t); have := Nat.mod_lt r' ht
        rw [Nat.add_mul, Nat.one_mul, Nat.mul_comm]; omega
      have a := Nat.lt_of_lt_of_le h'.2 (Nat.mul_le_mul l l)
      have e : (r' / 2 ^ t + 1) * 2 ^ t * ((r' / 2 ^ t + 1) * 2 ^ t) = ((r' / 2 ^ t + 1) * (r' / 2 ^ t + 1)) * 2 ^ (2 * t) := by rw [p2]; ac_rfl
      rw [e] at a
      exact Nat.lt_of_mul_lt_mul_right a
  have hd := Nat.div_add_mod r' (2 ^ t)
  have hm := Nat.mod_lt r' ht
  rw [hq] at hd
  unfold rtS
  generalize r' % 2 ^ t = u at *
  have e : r' = r * 2 ^ t + u := by rw [Nat.mul_comm]; exact hd.symm
  clear hd hq
  have e2 : (if r' * r' = n * 2 ^ (2 * t) then 0 else 1) ≤ 1 := by split <;> omega
  have j := jam_two r u _ t hm e2
  rw [← e] at j
  rw [j]
  congr 1
  by_cases hz : r * r = n
  · have : IsRt (n * 2 ^ (2 * t)) (r * 2 ^ t) := by
      have s : r * 2 ^ t * (r * 2 ^ t) = n * 2 ^ (2 * t) := by rw [p2, ← hz]; ac_rfl
      refine ⟨by omega, ?_⟩
      rw [Nat.add_mul, Nat.mul_add]; omega
    have := IsRt.eq h' this
    have hu : u = 0 := by omega
    rw [if_pos ⟨hu, by rw [if_pos (by rw [this, p2, ← hz]; ac_rfl)]⟩, if_pos hz]
  · rw [if_neg hz, if_neg ?_]
    rintro ⟨hu, hs⟩
    have : r' * r' = n * 2 ^ (2 * t) := by
      apply Classical.byContradiction; intro c; rw [if_neg c] at hs; omega
    rw [e, hu, Nat.add_zero, p2] at this
    have e3 : r * 2 ^ t * (r * 2 ^ t) = r * r * (2 ^ t * 2 ^ t) := by ac_rfl
    rw [e3] at this
    exact hz (Nat.eq_of_mul_eq_mul_right (Nat.mul_pos ht ht) this)

theorem nearest_root (f : Format) (neg : Bool) (m K L rK rL : Nat) (place : Int) (iK : IsRt (m * 2 ^ (2 * K)) rK) (iL : IsRt (m * 2 ^ (2 * L)) rL)
    (hK : f.fractionBits + 2 ≤ (rtS (m * 2 ^ (2 * K)) rK).log2) (hL : f.fractionBits + 2 ≤ (rtS (m * 2 ^ (2 * L)) rL).log2) :
    f.nearest neg (rtS (m * 2 ^ (2 * K)) rK) (place - K) = f.nearest neg (rtS (m * 2 ^ (2 * L)) rL) (place - L) := by
  have key : ∀ (K t rK rL : Nat), IsRt (m * 2 ^ (2 * K)) rK → IsRt (m * 2 ^ (2 * (K + t))) rL → f.fractionBits + 2 ≤ (rtS (m * 2 ^ (2 * K)) rK).log2 →
      f.nearest neg (rtS (m * 2 ^ (2 * K)) rK) (place - K) = f.nearest neg (rtS (m * 2 ^ (2 * (K + t))) rL) (place - ((K + t : Nat) : Int)) := by
    intro K t rK rL iK iL h
    have e : m * 2 ^ (2 * (K + t)) = m * 2 ^ (2 * K) * 2 ^ (2 * t) := by rw [Nat.mul_add, Nat.pow_add, Nat.mul_assoc]
    rw [e] at iL ⊢
    have hj := rt_jam _ _ _ t iK iL
    rw [← nearest_jam_or f neg _ t (place - ((K + t : Nat) : Int)) ?_, hj]
    · congr 1; omega
    · by_cases hz : rtS (m * 2 ^ (2 * K) * 2 ^ (2 * t)) rL % 2 ^ t = 0
      · exact .inl hz
      · refine .inr ?_
        have h2 : 2 ≤ rtS (m * 2 ^ (2 * K) * 2 ^ (2 * t)) rL / 2 ^ t := by
          apply Classical.byContradiction; intro c
          unfold jam at hj
          rw [if_neg hz] at hj
          have : rtS (m * 2 ^ (2 * K)) rK = 1 := by omega
          rw [this, show Nat.log2 1 = 0 from by decide] at h
          omega
        rw [← hj, log2_jam _ _ h2] at h
        exact h
  by_cases c : K ≤ L
  · obtain ⟨t, rfl⟩ : ∃ t, L = K + t := ⟨L - K, by omega⟩
    exact key K t rK rL iK iL hK
  · obtain ⟨t, rfl⟩ : ∃ t, K = L + t := ⟨K - L, by omega⟩
    exact (key L t rL rK iL iK hL).symm
theorem word_min (f : Format) (neg : Bool) (r : Nat) (h : r ≤ f.infRung) : f.word neg (min r f.infRung) = f.word neg r := by
  rw [Nat.min_eq_left h]

/-- A subnormal number, or nought, is written as it was read. -/
theorem nearest_sub (f : Format) (neg : Bool) (r : Nat) (h : r < f.binade) (hi : f.binade ≤ f.infRung) : f.nearest neg r f.leastPlace = f.word neg r := by
  by_cases h0 : r = 0
  · subst h0; exact nearest_zero ..
  · have l : r.log2 < f.fractionBits := (Nat.log2_lt h0).2 h
    have e : lastOf f r f.leastPlace = f.leastPlace := by unfold lastOf; omega
    rw [nearest_eq f neg r _ h0, e, Int.sub_self]
    rw [show rneP r 0 = r from by unfold rneP; exact (rne_zero _).trans (by simp)]
    rw [show (0 : Int).toNat = 0 from rfl, Nat.zero_mul, Nat.zero_add, word_min f neg r (by omega)]

/-- A normal number, too. -/
theorem nearest_normal (f : Format) (neg : Bool) (r : Nat) (h : f.binade ≤ r) (hi : r < f.infRung) :
    f.nearest neg (f.binade + r % f.binade) (f.leastPlace + ((r / f.binade - 1 : Nat) : Int)) = f.word neg r := by
  have hb : 0 < f.binade := pw_pos _
  have hm := Nat.mod_lt r hb
  have h1 : 1 ≤ r / f.binade := (Nat.le_div_iff_mul_le hb).2 (by omega)
  have hd := Nat.div_add_mod r f.binade
  have l : (f.binade + r % f.binade).log2 = f.fractionBits := by
    refine (Nat.log2_eq_iff (by omega)).2 ⟨?_, ?_⟩
    · show f.binade ≤ _; omega
    · rw [Nat.pow_succ]; show _ < f.binade * 2; omega
  have e : lastOf f (f.binade + r % f.binade) (f.leastPlace + ((r / f.binade - 1 : Nat) : Int)) = f.leastPlace + ((r / f.binade - 1 : Nat) : Int) := by
    unfold lastOf; rw [l]; omega
  rw [nearest_eq f neg _ _ (by omega), e, Int.sub_self]
  rw [show rneP (f.binade + r % f.binade) 0 = f.binade + r % f.binade from by unfold rneP; exact (rne_zero _).trans (by simp)]
  rw [show (f.leastPlace + ((r / f.binade - 1 : Nat) : Int) - f.leastPlace).toNat = r / f.binade - 1 from by omega]
  have : (r / f.binade - 1) * f.binade + (f.binade + r % f.binade) = r := by
    rw [Nat.sub_mul, Nat.one_mul, Nat.mul_comm]
    have : f.binade ≤ f.binade * (r / f.binade) := Nat.le_mul_of_pos_right _ h1
    omega
  rw [this, word_min f neg r (by omega)]

theorem pow_le_log2 (n k : Nat) (h : 2 ^ k ≤ n) : k ≤ n.log2 := (Nat.le_log2 (by have := pw_pos k; omega)).2 h

theorem sticky_small (m n j : Nat) (h : j ≤ 10) : (m * 2 ^ 10) % 2 ^ j = 0 ∧ (n * 2 ^ 10) % 2 ^ j = 0 := by
  obtain ⟨c, hc⟩ : ∃ c, 10 = c + j := ⟨10 - j, by omega⟩
  rw [hc, Nat.pow_add, ← Nat.mul_assoc, ← Nat.mul_assoc, Nat.mul_mod_left, Nat.mul_mod_left]
  exact ⟨rfl, rfl⟩

theorem add_same (f : Format) (neg : Bool) (m n j : Nat) (d : Int) (hm : 10 < j → f.binade ≤ m) :
    f.nearest neg (m * 2 ^ 10 + jam (n * 2 ^ 10) j) (d + j - 10) = f.nearest neg (m * 2 ^ j + n) d := by
  have hj := pw_pos j
  have e : m * 2 ^ 10 * 2 ^ j + n * 2 ^ 10 = (m * 2 ^ j + n) * 2 ^ 10 := by rw [Nat.add_mul]; congr 1; ac_rfl
  have s := nearest_scale f neg (m * 2 ^ j + n) 10 (d - 10)
  rw [show d - 10 + ((10 : Nat) : Int) = d from by omega] at s
  rw [← s, ← e, ← jam_add (m * 2 ^ 10) (n * 2 ^ 10) j (by omega), show d + (j : Int) - 10 = d - 10 + j from by omega]
  apply nearest_jam_or
  by_cases c : j ≤ 10
  · refine .inl ?_
    rw [Nat.mul_comm _ (2 ^ j), Nat.mul_add_mod]
    exact (sticky_small m n j c).2
  · refine .inr (pow_le_log2 _ _ ?_)
    rw [Nat.mul_comm _ (2 ^ j), Nat.mul_add_div hj]
    have : f.binade ≤ m := hm (by omega)
    have : 2 ^ (f.fractionBits + 2) = f.binade * 4 := Nat.pow_add ..
    exact Nat.le_trans (by omega) (Nat.le_add_right _ _)

theorem add_diff_fin (F X n B : Nat) (h1 : F * 2048 ≤ X) (h2 : n < 2 * B) (h3 : B ≤ F) : F * 8192 ≤ (X - n) * 2 ^ 10 := by
  have a : F * 8 ≤ X - n := by omega
  have b := Nat.mul_le_mul_right (2 ^ 10) a
  rw [Nat.mul_assoc] at b
  exact b

theorem add_diff (f : Format) (neg : Bool) (m n j : Nat) (d : Int) (hm : 10 < j → f.binade ≤ m) (hn : n < 2 * f.binade) (hle : n ≤ m * 2 ^ j) :
    f.nearest neg (m * 2 ^ 10 - jam (n * 2 ^ 10) j) (d + j - 10) = f.nearest neg (m * 2 ^ j - n) d := by
  have hj := pw_pos j
  have e : m * 2 ^ 10 * 2 ^ j - n * 2 ^ 10 = (m * 2 ^ j - n) * 2 ^ 10 := by rw [Nat.sub_mul]; congr 1; ac_rfl
  have s := nearest_scale f neg (m * 2 ^ j - n) 10 (d - 10)
  rw [show d - 10 + ((10 : Nat) : Int) = d from by omega] at s
  have hle' : n * 2 ^ 10 ≤ m * 2 ^ 10 * 2 ^ j := by
    have := Nat.mul_le_mul_right (2 ^ 10) hle
    have e : m * 2 ^ j * 2 ^ 10 = m * 2 ^ 10 * 2 ^ j := by ac_rfl
    omega
  rw [← s, ← e, ← jam_sub (m * 2 ^ 10) (n * 2 ^ 10) j (by omega) hle', show d + (j : Int) - 10 = d - 10 + j from by omega]
  apply nearest_jam_or
  by_cases c : j ≤ 10
  · refine .inl ?_
    rw [e]
    exact (sticky_small _ n j c).1
  · refine .inr (pow_le_log2 _ _ ?_)
    rw [e]
    have hb : f.binade ≤ m := hm (by omega)
    refine (Nat.le_div_iff_mul_le hj).2 ?_
    have p : 2 ^ (f.fractionBits + 2) = f.binade * 4 := Nat.pow_add ..
    have a1 : f.binade * 2 ^ j ≤ m * 2 ^ j := Nat.mul_le_mul_right _ hb
    obtain ⟨b, rfl⟩ : ∃ b, j = b + 11 := ⟨j - 11, by omega⟩
    have p2 : 2 ^ (b + 11) = 2 ^ b * 2048 := Nat.pow_add ..
    have hc := pw_pos b
    have a2 : f.binade ≤ f.binade * 2 ^ b := Nat.le_mul_of_pos_right _ hc
    have e1 : f.binade * (2 ^ b * 2048) = f.binade * 2 ^ b * 2048 := by ac_rfl
    have e2 : f.binade * 4 * (2 ^ b * 2048) = f.binade * 2 ^ b * 8192 := by
      rw [show (8192 : Nat) = 4 * 2048 from rfl]; ac_rfl
    rw [p, p2, e2]
    rw [p2, e1] at a1
    generalize m * (2 ^ b * 2048) = X at *
    generalize f.binade * 2 ^ b = F at *
    exact add_diff_fin F X n _ a1 hn a2

/-- What is cut off a number, told of the whole gap. -/
def moreOf (way : Toward) (neg : Bool) (gap rest low : Nat) : Bool :=
  match way with
  | .even => gap < 2 * rest || (gap == 2 * rest && low % 2 == 1)
  | .down => neg && rest != 0
  | .up => !neg && rest != 0
  | .zero => false

theorem cut_all (way : Toward) (neg : Bool) (n drop : Nat) : way.cut neg n drop = n / 2 ^ drop + (moreOf way neg (2 ^ drop) (n % 2 ^ drop) (n / 2 ^ drop)).toNat := by
  have h : way.cut neg n drop = n / 2 ^ (min drop (n.log2 + 2)) + (moreOf way neg (2 ^ (min drop (n.log2 + 2))) (n % 2 ^ (min drop (n.log2 + 2))) (n / 2 ^ (min drop (n.log2 + 2)))).toNat := by
    unfold Toward.cut moreOf
    simp only [Nat.shiftLeft_eq, Nat.one_mul]
    cases way <;> rfl
  rw [h]
  by_cases c : drop ≤ n.log2 + 2
  · rw [Nat.min_eq_left c]
  · rw [Nat.min_eq_right (by omega)]
    have h1 : n < 2 ^ (n.log2 + 1) := Nat.lt_log2_self
    have h2 : 2 ^ (n.log2 + 2) = 2 * 2 ^ (n.log2 + 1) := by rw [Nat.pow_succ 2 (n.log2 + 1), Nat.mul_comm]
    have h3 : 2 ^ (n.log2 + 2) ≤ 2 ^ drop := Nat.pow_le_pow_right (by decide) (by omega)
    rw [Nat.div_eq_of_lt (show n < 2 ^ (n.log2 + 2) by omega), Nat.mod_eq_of_lt (show n < 2 ^ (n.log2 + 2) by omega), Nat.div_eq_of_lt (show n < 2 ^ drop by omega), Nat.mod_eq_of_lt (show n < 2 ^ drop by omega)]
    cases way
    · unfold moreOf
      rw [decide_eq_false (show ¬ 2 ^ (n.log2 + 2) < 2 * n by omega), decide_eq_false (show ¬ 2 ^ drop < 2 * n by omega)]
      rw [beq_eq_false_iff_ne.2 (show 2 ^ (n.log2 + 2) ≠ 2 * n by omega), beq_eq_false_iff_ne.2 (show 2 ^ drop ≠ 2 * n by omega)]
    · rfl
    · rfl
    · rfl
/-- How two words stand, told by sign and rung. -/
def rungOf (f : Format) (w : Nat) : Nat := w % f.signWeight
def negOf (f : Format) (w : Nat) : Bool := w / f.signWeight % 2 == 1
def magOf (f : Format) (r : Nat) : Nat := if r < f.binade then r else f.binade + r % f.binade
def plOf (f : Format) (r : Nat) : Nat := r / f.binade - 1

theorem read_num (f : Format) (w : Nat) (h : rungOf f w < f.infRung) :
    f.read w = .number (negOf f w) (magOf f (rungOf f w)) (f.leastPlace + (plOf f (rungOf f w) : Nat)) := by
  unfold Format.read negOf magOf plOf
  unfold rungOf at *
  simp only
  have hb : 0 < f.binade := pw_pos _
  split
  · rename_i c
    rw [Nat.div_eq_of_lt c]
    simp
  · rfl
theorem read_inf (f : Format) (w : Nat) (hi : f.binade ≤ f.infRung) (h : rungOf f w = f.infRung) : f.read w = .infinity (negOf f w) := by
  unfold Format.read negOf
  unfold rungOf at *
  simp only
  rw [if_neg (by omega), if_neg (by omega), if_pos h]
theorem read_nan (f : Format) (w : Nat) (hi : f.binade ≤ f.infRung) (h : f.infRung < rungOf f w) : f.read w = .nan (negOf f w) (rungOf f w - f.infRung) := by
  unfold Format.read negOf
  unfold rungOf at *
  simp only
  rw [if_neg (by omega), if_neg (by omega), if_neg (by omega)]

/-- What is read is written as it was. -/
theorem nearest_read (f : Format) (neg : Bool) (r : Nat) (hi : f.binade ≤ f.infRung) (h : r < f.infRung) :
    f.nearest neg (magOf f r) (f.leastPlace + (plOf f r : Nat)) = f.word neg r := by
  unfold magOf plOf
  split
  · rename_i c
    rw [Nat.div_eq_of_lt c, show f.leastPlace + ((0 - 1 : Nat) : Int) = f.leastPlace from by omega]
    exact nearest_sub f neg r c hi
  · exact nearest_normal f neg r (by omega) h

theorem mag_lt (f : Format) (r : Nat) : magOf f r < 2 * f.binade := by
  have hb : 0 < f.binade := pw_pos _
  have := Nat.mod_lt r hb
  unfold magOf; split <;> omega
theorem mag_ge (f : Format) (r : Nat) (h : 0 < plOf f r) : f.binade ≤ magOf f r := by
  have hb : 0 < f.binade := pw_pos _
  unfold plOf at h
  have h1 : 1 ≤ r / f.binade := by omega
  have := (Nat.le_div_iff_mul_le hb).1 h1
  unfold magOf; rw [if_neg (by omega)]; omega
theorem mag_zero (f : Format) (r : Nat) : magOf f r = 0 ↔ r = 0 := by
  have hb : 0 < f.binade := pw_pos _
  unfold magOf; split <;> omega
theorem pl_mono (f : Format) (r s : Nat) (h : r ≤ s) : plOf f r ≤ plOf f s := by
  unfold plOf
  have := Nat.div_le_div_right (c := f.binade) h
  omega
/-- A greater rung is a greater number. -/
theorem rung_lt (f : Format) (r s : Nat) (h : r < s) : magOf f r < magOf f s * 2 ^ (plOf f s - plOf f r) := by
  have hb : 0 < f.binade := pw_pos _
  have hp := pl_mono f r s (by omega)
  by_cases c : plOf f r = plOf f s
  · rw [← c, Nat.sub_self, Nat.pow_zero, Nat.mul_one]
    unfold plOf at c
    have d1 := Nat.div_add_mod r f.binade; have d2 := Nat.div_add_mod s f.binade
    have m1 := Nat.mod_lt r hb; have m2 := Nat.mod_lt s hb
    have l1 : r < f.binade ↔ r / f.binade = 0 := by
      constructor
      · exact Nat.div_eq_of_lt
      · intro e; rw [e] at d1; omega
    have l2 : s < f.binade ↔ s / f.binade = 0 := by
      constructor
      · exact Nat.div_eq_of_lt
      · intro e; rw [e] at d2; omega
    unfold magOf
    have dm := Nat.div_le_div_right (c := f.binade) (Nat.le_of_lt h)
    generalize r / f.binade = x at *
    generalize s / f.binade = y at *
    split
    · split
      · exact h
      · rename_i a b
        have : y = 1 := by have := mt l2.2 b; omega
        rw [this] at d2; omega
    · split
      · omega
      · rename_i a b
        have e : x = y := by have := mt l2.2 b; have := mt l1.2 a; omega
        rw [e] at d1; omega
  · obtain ⟨t, ht⟩ : ∃ t, plOf f s - plOf f r = t + 1 := ⟨plOf f s - plOf f r - 1, by omega⟩
    rw [ht, Nat.pow_succ]
    have a := mag_lt f r
    have b := mag_ge f s (by omega)
    have t1 := pw_pos t
    have : magOf f s * 1 ≤ magOf f s * 2 ^ t := Nat.mul_le_mul_left _ t1
    rw [← Nat.mul_assoc]
    omega
theorem compare_of {x y x' y' : Int} (h1 : x < y ↔ x' < y') (h2 : x = y ↔ x' = y') : compare x y = compare x' y' := by
  show compareOfLessAndEq x y = compareOfLessAndEq x' y'
  unfold compareOfLessAndEq
  simp only [h1, h2]

/-- A word's place among the words of a format: its rung, with its sign. -/
def keyOf (f : Format) (w : Nat) : Int := if negOf f w then -(rungOf f w : Int) else rungOf f w

theorem mag_cmp (f : Format) (r s : Nat) :
    (magOf f r * 2 ^ (plOf f r - min (plOf f r) (plOf f s)) < magOf f s * 2 ^ (plOf f s - min (plOf f r) (plOf f s)) ↔ r < s) ∧
    (magOf f r * 2 ^ (plOf f r - min (plOf f r) (plOf f s)) = magOf f s * 2 ^ (plOf f s - min (plOf f r) (plOf f s)) ↔ r = s) := by
  have a : ∀ r s, r < s → magOf f r * 2 ^ (plOf f r - min (plOf f r) (plOf f s)) < magOf f s * 2 ^ (plOf f s - min (plOf f r) (plOf f s)) := by
    intro r s h
    have hp := pl_mono f r s (by omega)
    rw [Nat.min_eq_left hp, Nat.sub_self, Nat.pow_zero, Nat.mul_one]
    exact rung_lt f r s h
  have b : ∀ r s, s < r → magOf f s * 2 ^ (plOf f s - min (plOf f r) (plOf f s)) < magOf f r * 2 ^ (plOf f r - min (plOf f r) (plOf f s)) := by
    intro r s h
    have := a s r h
    rw [Nat.min_comm] at this
    exact this
  constructor
  · constructor
    · intro h
      apply Classical.byContradiction; intro c
      by_cases e : r = s
      · subst e; omega
      · have := b r s (by omega); omega
    · exact a r s
  · constructor
    · intro h
      apply Classical.byContradiction; intro c
      by_cases l : r < s
      · have := a r s l; omega
      · have := b r s (by omega); omega
    · intro e; subst e; rfl

theorem order_key (f : Format) (x y : Nat) (hi : f.binade ≤ f.infRung) (hx : rungOf f x ≤ f.infRung) (hy : rungOf f y ≤ f.infRung) :
    f.order x y = some (compare (keyOf f x) (keyOf f y)) := by
  have hb : 0 < f.binade := pw_pos _
  have cmp : ∀ a b : Int, compare a b = if a < b then .lt else if a = b then .eq else .gt := fun a b => rfl
  unfold Format.order
  by_cases cx : rungOf f x = f.infRung
  · rw [read_inf f x hi cx]
    by_cases cy : rungOf f y = f.infRung
    · rw [read_inf f y hi cy]
      unfold Datum.order keyOf
      simp only
      rw [cx, cy]
      cases negOf f x <;> cases negOf f y <;> simp only [Bool.toNat, cond_true, cond_false, if_true, if_false, Bool.false_eq_true]
      · rw [cmp, if_neg (by omega), if_pos rfl]; rfl
      · rw [cmp, if_neg (by omega), if_neg (by omega)]; rfl
      · rw [cmp, if_pos (by omega)]; rfl
      · rw [cmp, if_neg (by omega), if_pos rfl]; rfl
    · rw [read_num f y (by omega)]
      unfold Datum.order keyOf
      simp only
      rw [cx]
      cases negOf f x <;> cases negOf f y <;> simp only [if_true, if_false, Bool.false_eq_true]
      · rw [cmp, if_neg (by omega), if_neg (by omega)]
      · rw [cmp, if_neg (by omega), if_neg (by omega)]
      · rw [cmp, if_pos (by omega)]
      · rw [cmp, if_pos (by omega)]
  · rw [read_num f x (by omega)]
    by_cases cy : rungOf f y = f.infRung
    · rw [read_inf f y hi cy]
      unfold Datum.order keyOf
      simp only
      rw [cy]
      cases negOf f x <;> cases negOf f y <;> simp only [if_true, if_false, Bool.false_eq_true]
      · rw [cmp, if_pos (by omega)]
      · rw [cmp, if_neg (by omega), if_neg (by omega)]
      · rw [cmp, if_pos (by omega)]
      · rw [cmp, if_neg (by omega), if_neg (by omega)]
    · rw [read_num f y (by omega)]
      unfold Datum.order keyOf Ieee.signed
      simp only
      have m := mag_cmp f (rungOf f x) (rungOf f y)
      have zx := mag_zero f (rungOf f x)
      have zy := mag_zero f (rungOf f y)
      have e1 : (f.leastPlace + (plOf f (rungOf f x) : Int) - min (f.leastPlace + (plOf f (rungOf f x) : Int)) (f.leastPlace + (plOf f (rungOf f y) : Int))).toNat =
        plOf f (rungOf f x) - min (plOf f (rungOf f x)) (plOf f (rungOf f y)) := by omega
      have e2 : (f.leastPlace + (plOf f (rungOf f y) : Int) - min (f.leastPlace + (plOf f (rungOf f x) : Int)) (f.leastPlace + (plOf f (rungOf f y) : Int))).toNat =
        plOf f (rungOf f y) - min (plOf f (rungOf f x)) (plOf f (rungOf f y)) := by omega
      rw [e1, e2, Nat.shiftLeft_eq, Nat.shiftLeft_eq]
      generalize plOf f (rungOf f x) - min (plOf f (rungOf f x)) (plOf f (rungOf f y)) = u at *
      generalize plOf f (rungOf f y) - min (plOf f (rungOf f x)) (plOf f (rungOf f y)) = v at *
      have zu : magOf f (rungOf f x) * 2 ^ u = 0 ↔ rungOf f x = 0 := by
        rw [← zx]; constructor
        · intro h; have := pw_pos u; rcases Nat.mul_eq_zero.1 h with h | h <;> omega
        · intro h; rw [h, Nat.zero_mul]
      have zv : magOf f (rungOf f y) * 2 ^ v = 0 ↔ rungOf f y = 0 := by
        rw [← zy]; constructor
        · intro h; have := pw_pos v; rcases Nat.mul_eq_zero.1 h with h | h <;> omega
        · intro h; rw [h, Nat.zero_mul]
      generalize magOf f (rungOf f x) * 2 ^ u = A at *
      generalize magOf f (rungOf f y) * 2 ^ v = B at *
      obtain ⟨m1, m2⟩ := m
      congr 1
      cases negOf f x <;> cases negOf f y <;> simp only [if_true, if_false, Bool.false_eq_true]
      · exact compare_of (by omega) (by omega)
      · exact compare_of (by omega) (by omega)
      · exact compare_of (by omega) (by omega)
      · exact compare_of (by omega) (by omega)
theorem order_nan (f : Format) (x y : Nat) (hi : f.binade ≤ f.infRung) (h : f.infRung < rungOf f x ∨ f.infRung < rungOf f y) : f.order x y = none := by
  unfold Format.order
  rcases h with h | h
  · rw [read_nan f x hi h]; rfl
  · rw [read_nan f y hi h]
    unfold Datum.order
    cases f.read x <;> rfl
theorem sum_comm (d e : Datum) : d.sum e = e.sum d := by
  cases d <;> cases e <;> simp only [Datum.sum]
  · rename_i s m i t n j
    rw [Int.min_comm, Bool.and_comm, Int.add_comm]
  · rename_i s t
    by_cases h : s = t
    · subst h; rfl
    · rw [if_neg h, if_neg (fun e => h e.symm)]
theorem product_comm (d e : Datum) : d.product e = e.product d := by
  cases d <;> cases e <;> simp only [Datum.product]
  · rename_i s m i t n j
    rw [Bool.xor_comm, Nat.mul_comm, Int.add_comm]
  all_goals rw [Bool.xor_comm]

/-- The sum of two numbers, the greater one ahead, as the program makes it: ten digits more, and the lesser one's last digits jammed. -/
theorem sum_prog (f : Format) (s t : Bool) (m n : Nat) (i k : Int) (j : Nat) (hj : i = k + j) (hm : 10 < j → f.binade ≤ m) (hn : n < 2 * f.binade) (hle : n ≤ m * 2 ^ j) :
    jam (n * 2 ^ 10) j ≤ m * 2 ^ 10 ∧
    ((Datum.number s m i).sum (.number t n k)).map f.write =
      some (if s = t then f.nearest s (m * 2 ^ 10 + jam (n * 2 ^ 10) j) (i - 10) else f.nearest (s && m * 2 ^ 10 != jam (n * 2 ^ 10) j) (m * 2 ^ 10 - jam (n * 2 ^ 10) j) (i - 10)) := by
  have hle' : n * 2 ^ 10 ≤ m * 2 ^ 10 * 2 ^ j := by
    have := Nat.mul_le_mul_right (2 ^ 10) hle
    have e : m * 2 ^ j * 2 ^ 10 = m * 2 ^ 10 * 2 ^ j := by ac_rfl
    rw [e] at this; exact this
  have js := jam_sub (m * 2 ^ 10) (n * 2 ^ 10) j (by omega) hle'
  have e1 : m * 2 ^ 10 * 2 ^ j - n * 2 ^ 10 = (m * 2 ^ j - n) * 2 ^ 10 := by rw [Nat.sub_mul]; congr 1; ac_rfl
  have hz : m * 2 ^ j = n → jam (n * 2 ^ 10) j = m * 2 ^ 10 := by
    intro e
    rw [← e, show m * 2 ^ j * 2 ^ 10 = m * 2 ^ 10 * 2 ^ j from by ac_rfl]
    unfold jam
    rw [Nat.mul_mod_left, if_pos rfl, Nat.mul_div_cancel _ (pw_pos j)]
  have hnz : m * 2 ^ j ≠ n → jam (n * 2 ^ 10) j < m * 2 ^ 10 := by
    intro e
    have : jam (m * 2 ^ 10 * 2 ^ j - n * 2 ^ 10) j ≠ 0 := jam_ne _ _ (by
      rw [e1]
      have : 0 < m * 2 ^ j - n := by omega
      have := Nat.mul_pos this (pw_pos 10)
      omega)
    rw [js] at this
    omega
  refine ⟨?_, ?_⟩
  · by_cases e : m * 2 ^ j = n
    · exact Nat.le_of_eq (hz e)
    · exact Nat.le_of_lt (hnz e)
  have b : min i k = k := by omega
  simp only [Datum.sum, b, Option.map_some]
  unfold Ieee.signed
  rw [show (i - k).toNat = j from by omega, show (k - k).toNat = 0 from by omega, Nat.shiftLeft_eq, Nat.shiftLeft_eq, Nat.pow_zero, Nat.mul_one]
  have as := add_same f s m n j k hm
  have ad : ∀ neg, f.nearest neg (m * 2 ^ 10 - jam (n * 2 ^ 10) j) (k + j - 10) = f.nearest neg (m * 2 ^ j - n) k := fun neg => add_diff f neg m n j k hm hn hle
  rw [← hj] at as
  rw [← hj] at ad
  unfold Format.write
  clear e1 hle' js
  generalize jam (n * 2 ^ 10) j = y at *
  generalize hM : m * 2 ^ j = M at *
  generalize m * 2 ^ 10 = x at *
  refine congrArg some ?_
  by_cases hst : s = t
  · subst hst
    rw [if_pos rfl, as]
    cases s <;> simp only [Bool.and_self, if_true, if_false, Bool.false_eq_true]
    · rw [show ((M : Int) + (n : Int)).natAbs = M + n from by omega]
      by_cases h : (M : Int) + n = 0
      · rw [if_pos h]
      · rw [if_neg h, decide_eq_false (by omega)]
    · rw [show (-(M : Int) + -(n : Int)).natAbs = M + n from by omega]
      by_cases h : -(M : Int) + -(n : Int) = 0
      · rw [if_pos h]
      · rw [if_neg h, decide_eq_true (by omega)]
  · rw [if_neg hst, ad]
    have ht : t = !s := by cases s <;> cases t <;> simp_all
    subst ht
    by_cases h : M = n
    · rw [hz h]
      cases s <;> simp only [Bool.and_self, if_true, if_false, Bool.false_eq_true, Bool.not_true, Bool.not_false, Bool.and_false, Bool.false_and, Bool.true_and, bne_self_eq_false]
      · rw [show ((M : Int) + -(n : Int)).natAbs = M - n from by omega, if_pos (by omega)]
      · rw [show (-(M : Int) + (n : Int)).natAbs = M - n from by omega, if_pos (by omega)]
    · have hx := hnz h
      have hne : (x != y) = true := by rw [bne_iff_ne]; omega
      rw [hne]
      cases s <;> simp only [Bool.and_self, if_true, if_false, Bool.false_eq_true, Bool.not_true, Bool.not_false, Bool.and_false, Bool.false_and, Bool.true_and, Bool.and_true]
      · rw [show ((M : Int) + -(n : Int)).natAbs = M - n from by omega, if_neg (by omega), decide_eq_false (by omega)]
      · rw [show (-(M : Int) + (n : Int)).natAbs = M - n from by omega, if_neg (by omega), decide_eq_true (by omega)]

theorem product_prog (f : Format) (s t : Bool) (m n : Nat) (i k : Int) (by' : Nat) (h : by' = 0 ∨ f.fractionBits + 2 ≤ (m * n / 2 ^ by').log2) :
    ((Datum.number s m i).product (.number t n k)).map f.write = some (f.nearest (s ^^ t) (jam (m * n) by') (i + k + by')) := by
  simp only [Datum.product, Option.map_some]
  unfold Format.write
  congr 1
  symm
  apply nearest_jam_or
  rcases h with h | h
  · subst h; left; rw [Nat.pow_zero, Nat.mod_one]
  · exact .inr h
theorem quo_scale (m n a b : Nat) (hn : 0 < n) (K : Nat) (hK : a + K = b) (to : Nat) : m * 2 ^ (b + to) / (n * 2 ^ (a + to)) = m * 2 ^ K / n ∧ (m * 2 ^ (b + to) % (n * 2 ^ (a + to)) = 0 ↔ m * 2 ^ K % n = 0) := by
  have e : m * 2 ^ (b + to) = m * 2 ^ K * 2 ^ (a + to) := by
    rw [Nat.mul_assoc, ← Nat.pow_add]; congr 2; omega
  rw [e]
  have hp := pw_pos (a + to)
  refine ⟨Nat.mul_div_mul_right _ _ hp, ?_⟩
  rw [Nat.mul_mod_mul_right]
  constructor
  · intro h; rcases Nat.mul_eq_zero.1 h with h | h
    · exact h
    · omega
  · intro h; rw [h, Nat.zero_mul]

theorem quo_log (f : Format) (m n K : Nat) (h : 2 ^ (f.fractionBits + 1) ≤ m * 2 ^ K / n) : f.fractionBits + 2 ≤ (quo m n K).log2 := by
  apply pow_le_log2
  unfold quo
  have : 2 ^ (f.fractionBits + 2) = 2 ^ (f.fractionBits + 1) * 2 := Nat.pow_succ ..
  omega

/-- The quotient of two numbers, as the program makes it: out of any scaling that gives digits enough. -/
theorem quotient_prog (f : Format) (s t : Bool) (m n : Nat) (i k : Int) (hm : 0 < m) (hn : 0 < n) (hm2 : m < 2 * f.binade) (K : Nat) (hK : 2 ^ (f.fractionBits + 1) ≤ m * 2 ^ K / n) :
    ((Datum.number s m i).quotient (f.fractionBits + 2) (.number t n k)).map f.write = some (f.nearest (s ^^ t) (quo m n K) (i - k - 1 - K)) := by
  simp only [Datum.quotient]
  rw [if_neg (by omega), Option.map_some]
  unfold Format.write
  simp only [Nat.shiftLeft_eq]
  have lm : m.log2 ≤ f.fractionBits := by
    have := (Nat.log2_lt (n := m) (k := f.fractionBits + 1) (by omega)).2 (by rw [Nat.pow_succ]; show _ < f.binade * 2; omega)
    omega
  generalize hL : f.fractionBits + 2 + n.log2 - m.log2 = L
  have e : (m * 2 ^ L % n != 0).toNat = if m * 2 ^ L % n = 0 then 0 else 1 := by
    by_cases h : m * 2 ^ L % n = 0
    · rw [if_pos h, h]; rfl
    · rw [if_neg h, bne_iff_ne.2 h]; rfl
  rw [e]
  have hq : 2 ^ (f.fractionBits + 1) ≤ m * 2 ^ L / n := by
    refine (Nat.le_div_iff_mul_le hn).2 ?_
    have h1 := Nat.log2_self_le (n := m) (by omega)
    have h2 : n < 2 ^ (n.log2 + 1) := Nat.lt_log2_self
    have h3 : 2 ^ m.log2 * 2 ^ L ≤ m * 2 ^ L := Nat.mul_le_mul_right _ h1
    have h4 : 2 ^ (f.fractionBits + 1) * n ≤ 2 ^ (f.fractionBits + 1) * 2 ^ (n.log2 + 1) := Nat.mul_le_mul_left _ (Nat.le_of_lt h2)
    rw [← Nat.pow_add] at h3 h4
    rw [show m.log2 + L = f.fractionBits + 1 + (n.log2 + 1) from by omega] at h3
    exact Nat.le_trans h4 h3
  have := nearest_quo f (s ^^ t) m n L K (i - k - 1) hn (quo_log f m n L hq) (quo_log f m n K hK)
  rw [← this]
  unfold quo
  congr 2
  omega

theorem rt_log (f : Format) (n r : Nat) (h : 2 ^ (f.fractionBits + 1) ≤ r) : f.fractionBits + 2 ≤ (rtS n r).log2 := by
  apply pow_le_log2
  unfold rtS
  have : 2 ^ (f.fractionBits + 2) = 2 ^ (f.fractionBits + 1) * 2 := Nat.pow_succ ..
  omega

theorem IsRt.ge {n r a : Nat} (h : IsRt n r) (ha : a * a ≤ n) : a ≤ r := by
  have := sq_lt (Nat.lt_of_le_of_lt ha h.2)
  omega

/-- The root of a number, as the program makes it: out of any scaling by an even power that gives digits enough. -/
theorem root_prog (f : Format) (m : Nat) (i : Int) (hm : 0 < m) (hm2 : m < 2 * f.binade) (U r : Nat) (hU : (i - U) % 2 = 0) (hr : IsRt (m * 2 ^ U) r) (hr2 : 2 ^ (f.fractionBits + 1) ≤ r) :
    ((Datum.number false m i).root (f.fractionBits + 2)).map f.write = some (f.nearest false (rtS (m * 2 ^ U) r) ((i - U) / 2 - 1)) := by
  simp only [Datum.root]
  rw [if_neg (by omega), if_neg (by decide), Option.map_some]
  unfold Format.write
  simp only [Nat.shiftLeft_eq]
  have lm : m.log2 ≤ f.fractionBits := by
    have := (Nat.log2_lt (n := m) (k := f.fractionBits + 1) (by omega)).2 (by rw [Nat.pow_succ]; show _ < f.binade * 2; omega)
    omega
  generalize hL : 2 * (f.fractionBits + 2) - m.log2 + ((i - ((2 * (f.fractionBits + 2) - m.log2 : Nat) : Int)) % 2).toNat = L
  have hL2 : (i - L) % 2 = 0 := by omega
  have hw := rootFrom_whole (m * 2 ^ L)
  generalize Datum.rootFrom (m * 2 ^ L) ((m * 2 ^ L).log2 / 2 + 1) 0 = w at hw
  have e : (w * w != m * 2 ^ L).toNat = if w * w = m * 2 ^ L then 0 else 1 := by
    by_cases h : w * w = m * 2 ^ L
    · rw [if_pos h, h, bne_self_eq_false]; rfl
    · rw [if_neg h, bne_iff_ne.2 h]; rfl
  rw [e]
  have hw2 : 2 ^ (f.fractionBits + 1) ≤ w := by
    apply hw.ge
    have h1 := Nat.log2_self_le (n := m) (by omega)
    have h3 : 2 ^ m.log2 * 2 ^ L ≤ m * 2 ^ L := Nat.mul_le_mul_right _ h1
    rw [← Nat.pow_add] at h3 ⊢
    exact Nat.le_trans (Nat.pow_le_pow_right (by decide) (by omega)) h3
  show some (f.nearest false (rtS (m * 2 ^ L) w) ((i - (L : Int)) / 2 - 1)) = _
  congr 1
  obtain ⟨c, a, b, ha, hb⟩ : ∃ c a b, L = c + 2 * a ∧ U = c + 2 * b := ⟨L % 2, L / 2, U / 2, by omega, by omega⟩
  subst ha hb
  have p : ∀ x, m * 2 ^ (c + 2 * x) = m * 2 ^ c * 2 ^ (2 * x) := fun x => by rw [Nat.pow_add, Nat.mul_assoc]
  rw [p] at hw hr ⊢
  rw [p b]
  have := nearest_root f false (m * 2 ^ c) a b w r ((i - c) / 2 - 1) hw hr (rt_log f _ _ hw2) (rt_log f _ _ hr2)
  rw [show (i - ((c + 2 * a : Nat) : Int)) / 2 - 1 = (i - c) / 2 - 1 - a from by omega, show (i - ((c + 2 * b : Nat) : Int)) / 2 - 1 = (i - c) / 2 - 1 - b from by omega]
  exact this
/-- What is written exactly is read with the same value: so many digits more, at a place so much lower. -/
theorem exact_read (f : Format) (neg : Bool) (m : Nat) (p : Int) (hm : m ≠ 0) (hl : m.log2 ≤ f.fractionBits) (hp : f.leastPlace ≤ p)
    (hlt : (lastOf f m p - f.leastPlace).toNat * f.binade + m * 2 ^ (p - lastOf f m p).toNat < f.infRung) (hw : f.binade ≤ f.infRung) :
    lastOf f m p ≤ p ∧ f.read (f.nearest neg m p) = .number neg (m * 2 ^ (p - lastOf f m p).toNat) (lastOf f m p) ∧
    rungOf f (f.nearest neg m p) = (lastOf f m p - f.leastPlace).toNat * f.binade + m * 2 ^ (p - lastOf f m p).toNat ∧ negOf f (f.nearest neg m p) = neg := by
  have hle : lastOf f m p ≤ p := by unfold lastOf; omega
  have hge : f.leastPlace ≤ lastOf f m p := by unfold lastOf; omega
  have hb : 0 < f.binade := pw_pos _
  have e0 : f.nearest neg m p = f.word neg ((lastOf f m p - f.leastPlace).toNat * f.binade + m * 2 ^ (p - lastOf f m p).toNat) := by
    rw [nearest_eq f neg m p hm]
    rw [show rneP m (p - lastOf f m p) = m * 2 ^ (p - lastOf f m p).toNat from by
      unfold rneP; rw [show (-(p - lastOf f m p)).toNat = 0 from by omega, rne_zero]]
    rw [word_min f neg _ (by omega)]
  have hinf : f.infRung < f.signWeight := by
    have h : 0 < 2 ^ f.exponentBits := pw_pos _
    have : f.infRung + f.binade = f.signWeight := by
      unfold Format.infRung Format.signWeight
      rw [Nat.pow_add, ← Nat.succ_mul]
      exact congrArg (· * f.binade) (by omega)
    omega
  generalize hr : (lastOf f m p - f.leastPlace).toNat * f.binade + m * 2 ^ (p - lastOf f m p).toNat = r at *
  have hrn : rungOf f (f.nearest neg m p) = r ∧ negOf f (f.nearest neg m p) = neg := by
    rw [e0]
    unfold rungOf negOf Format.word
    cases neg
    · simp only [Bool.false_eq_true, if_false]
      rw [Nat.mod_eq_of_lt (by omega), Nat.div_eq_of_lt (by omega)]
      exact ⟨rfl, rfl⟩
    · simp only [if_true]
      rw [Nat.add_mod_left, Nat.mod_eq_of_lt (by omega), Nat.add_div_left _ (by omega), Nat.div_eq_of_lt (by omega)]
      exact ⟨rfl, rfl⟩
  refine ⟨hle, ?_, hrn⟩
  rw [read_num f _ (by rw [hrn.1]; exact hlt), hrn.1, hrn.2]
  have hk : m * 2 ^ (p - lastOf f m p).toNat < 2 * f.binade ∧ (f.leastPlace < lastOf f m p → f.binade ≤ m * 2 ^ (p - lastOf f m p).toNat) := by
    have h1 := Nat.log2_self_le hm
    have h2 : m < 2 ^ (m.log2 + 1) := Nat.lt_log2_self
    have hpk := pw_pos (p - lastOf f m p).toNat
    constructor
    · have a : m * 2 ^ (p - lastOf f m p).toNat < 2 ^ (m.log2 + 1) * 2 ^ (p - lastOf f m p).toNat := Nat.mul_lt_mul_of_pos_right h2 hpk
      rw [← Nat.pow_add] at a
      have b : 2 ^ (m.log2 + 1 + (p - lastOf f m p).toNat) ≤ 2 ^ (f.fractionBits + 1) := Nat.pow_le_pow_right (by decide) (by unfold lastOf at *; omega)
      rw [Nat.pow_succ 2 f.fractionBits, Nat.mul_comm _ 2] at b
      exact Nat.lt_of_lt_of_le a b
    · intro h
      have a : 2 ^ m.log2 * 2 ^ (p - lastOf f m p).toNat ≤ m * 2 ^ (p - lastOf f m p).toNat := Nat.mul_le_mul_right _ h1
      rw [← Nat.pow_add] at a
      refine Nat.le_trans ?_ a
      exact Nat.pow_le_pow_right (by decide) (by unfold lastOf at *; omega)
  obtain ⟨k1, k2⟩ := hk
  generalize m * 2 ^ (p - lastOf f m p).toNat = K at *
  generalize hL : (lastOf f m p - f.leastPlace).toNat = L at *
  by_cases c : r < f.binade
  · have hL0 : L = 0 := by
      apply Classical.byContradiction; intro e
      have := k2 (by omega)
      omega
    subst hL0
    rw [Nat.zero_mul, Nat.zero_add] at hr
    unfold magOf plOf
    rw [if_pos c, Nat.div_eq_of_lt c, hr]
    congr 1
    omega
  · have hK : f.binade ≤ K := by
      by_cases e : L = 0
      · subst e; rw [Nat.zero_mul, Nat.zero_add] at hr; omega
      · exact k2 (by omega)
    have hr2 : r = f.binade * (L + 1) + (K - f.binade) := by rw [Nat.mul_add, Nat.mul_one, Nat.mul_comm]; omega
    unfold magOf plOf
    rw [if_neg c, hr2, Nat.mul_add_mod, Nat.mod_eq_of_lt (by omega), Nat.mul_add_div hb, Nat.div_eq_of_lt (by omega)]
    congr 1 <;> omega

theorem signed_scale (s : Bool) (m k u : Nat) : Ieee.signed s (m * 2 ^ k) u = Ieee.signed s m (u + k) := by
  unfold Ieee.signed
  rw [Nat.shiftLeft_eq, Nat.shiftLeft_eq, Nat.pow_add, Nat.mul_comm (2 ^ u), ← Nat.mul_assoc]

theorem signed_lt (s t : Bool) (m n u v k : Nat) : (Ieee.signed s m (u + k) < Ieee.signed t n (v + k) ↔ Ieee.signed s m u < Ieee.signed t n v) ∧ (Ieee.signed s m (u + k) = Ieee.signed t n (v + k) ↔ Ieee.signed s m u = Ieee.signed t n v) := by
  have e : ∀ (s : Bool) (m u : Nat), Ieee.signed s m (u + k) = Ieee.signed s m u * ((2 ^ k : Nat) : Int) := by
    intro s m u
    unfold Ieee.signed
    rw [Nat.shiftLeft_eq, Nat.shiftLeft_eq, Nat.pow_add, ← Nat.mul_assoc]
    cases s
    · simp only [Bool.false_eq_true, if_false]; rw [Int.natCast_mul]
    · simp only [if_true]; rw [Int.natCast_mul, Int.neg_mul]
  have hk : (0 : Int) < ((2 ^ k : Nat) : Int) := by have := pw_pos k; omega
  rw [e, e]
  generalize ((2 ^ k : Nat) : Int) = q at *
  constructor
  · exact ⟨fun h => Int.lt_of_mul_lt_mul_right h (by omega), fun h => Int.mul_lt_mul_of_pos_right h hk⟩
  · exact ⟨fun h => Int.eq_of_mul_eq_mul_right (by omega) h, fun h => by rw [h]⟩

/-- How two numbers stand does not hang on how they are written. -/
theorem order_scale (s t : Bool) (m n k l : Nat) (i j : Int) : Datum.order (.number s (m * 2 ^ k) i) (.number t (n * 2 ^ l) j) = Datum.order (.number s m (i + k)) (.number t n (j + l)) := by
  unfold Datum.order
  simp only
  rw [signed_scale, signed_scale]
  refine congrArg some ?_
  -- both are told at a common place
  obtain ⟨a, ha⟩ : ∃ a : Nat, (i - min i j).toNat + k = (i + k - min (i + k) (j + l)).toNat + a := ⟨(min (i + k) (j + l) - min i j).toNat, by omega⟩
  have hb : (j - min i j).toNat + l = (j + l - min (i + k) (j + l)).toNat + a := by omega
  rw [ha, hb]
  have := signed_lt s t m n (i + k - min (i + k) (j + l)).toNat (j + l - min (i + k) (j + l)).toNat a
  exact compare_of this.1 this.2
/-- What the document's answers come to, told by the words alone. -/
def fmtOf (n : Int) : Format := if n = 32 then single else double
def wOf (n a : Int) : Nat := if n = 32 then (a % 4294967296).toNat else a.toNat
def canon (n : Int) : Int := if n = 32 then 2143289344 else 9221120237041090560
def resOf (n : Int) : Option Nat → Int
  | some r => r
  | none => canon n
/-- Is a word a NaN? -/
def nanW (f : Format) (w : Nat) : Bool := decide (f.infRung < rungOf f w)
def ordOf (n a b : Int) : Option Ordering := (fmtOf n).order (wOf n a) (wOf n b)
def kindF (n a : Int) : Int :=
  if n ≠ 32 ∧ n ≠ 64 then 0 else
  if rungOf (fmtOf n) (wOf n a) = 0 then 1 else if nanW (fmtOf n) (wOf n a) then 4 else if rungOf (fmtOf n) (wOf n a) = (fmtOf n).infRung then 3 else 2
/-- The sign's weight. -/
def sgnI (n : Int) : Int := if n = 32 then 2147483648 else 9223372036854775808
def binF (n op a b : Int) : Int × Int :=
  if (n ≠ 32 ∧ n ≠ 64) ∨ op < 1 ∨ 9 < op then (0, 1) else
  let x := (wOf n a : Int)
  let y := (wOf n b : Int)
  if op = 7 then (x % sgnI n + y - y % sgnI n, 0) else
  if op = 8 then (if ordOf n b a = some .lt then y else x, 0) else
  if op = 9 then (if ordOf n a b = some .lt then y else x, 0) else
  if nanW (fmtOf n) (wOf n a) || nanW (fmtOf n) (wOf n b) then (canon n, 0) else
  if op = 5 ∨ op = 6 then
    (if rungOf (fmtOf n) (wOf n a) = 0 ∧ rungOf (fmtOf n) (wOf n b) = 0 then (if (op = 5 ↔ sgnI n ≤ x) then x else y)
     else if (ordOf n a b = some .lt ↔ op = 5) then x else y, 0) else
  if op = 1 then (resOf n ((fmtOf n).add (wOf n a) (wOf n b)), 0) else
  if op = 2 then (resOf n ((fmtOf n).sub (wOf n a) (wOf n b)), 0) else
  if op = 3 then (resOf n ((fmtOf n).mul (wOf n a) (wOf n b)), 0) else (resOf n ((fmtOf n).div (wOf n a) (wOf n b)), 0)
def wayOf (op : Int) : Toward := if op = 4 then .up else if op = 5 then .down else if op = 6 then .zero else .even
def unF (n op a : Int) : Int × Int :=
  if (n ≠ 32 ∧ n ≠ 64) ∨ op < 1 ∨ 7 < op then (0, 1) else
  let x := (wOf n a : Int)
  if op = 1 then (x % sgnI n, 0) else
  if op = 2 then (if sgnI n ≤ x then x - sgnI n else x + sgnI n, 0) else
  if nanW (fmtOf n) (wOf n a) then (canon n, 0) else
  if op = 3 then (resOf n ((fmtOf n).sqrt (wOf n a)), 0) else ((fmtOf n).write (((fmtOf n).read (wOf n a)).integral (wayOf op)), 0)
def relF (n op a b : Int) : Bool × Int :=
  if (n ≠ 32 ∧ n ≠ 64) ∨ op < 1 ∨ 6 < op then (false, 1) else
  let o := ordOf n a b
  (if op = 1 then o == some .eq else if op = 2 then o != some .eq else if op = 3 then o == some .lt else if op = 4 then o == some .gt
    else if op = 5 then o == some .lt || o == some .eq else o == some .gt || o == some .eq, 0)

theorem bin_single : single.binade ≤ single.infRung := by decide +kernel
theorem bin_double : double.binade ≤ double.infRung := by decide +kernel

/-- A word of 32 bits, as one of 64 (of a NaN nothing is said). -/
def wd (b : Nat) : Nat := double.write (single.read b)

theorem wd_num (b : Nat) (h : rungOf single b < single.infRung) (h0 : rungOf single b ≠ 0) :
    ∃ k : Nat, ∃ q : Int, q + k = single.leastPlace + (plOf single (rungOf single b) : Nat) ∧
      double.read (wd b) = .number (negOf single b) (magOf single (rungOf single b) * 2 ^ k) q ∧
      rungOf double (wd b) < double.infRung ∧ rungOf double (wd b) ≠ 0 ∧ negOf double (wd b) = negOf single b := by
  have hm0 : magOf single (rungOf single b) ≠ 0 := fun e => h0 ((mag_zero _ _).1 e)
  have hml := mag_lt single (rungOf single b)
  have hp : plOf single (rungOf single b) ≤ 253 := by
    unfold plOf
    have : rungOf single b / single.binade < 255 := (Nat.div_lt_iff_lt_mul (by decide +kernel)).2 (by
      have : single.infRung = 255 * single.binade := by decide +kernel
      omega)
    omega
  have hl : (magOf single (rungOf single b)).log2 ≤ 23 := by
    have := (Nat.log2_lt (n := magOf single (rungOf single b)) (k := 24) hm0).2 (by have : 2 * single.binade = 2 ^ 24 := by decide +kernel
                                                                                    omega)
    omega
  generalize hm : magOf single (rungOf single b) = m at *
  have hL1 : single.leastPlace = -149 := by decide +kernel
  have hL2 : double.leastPlace = -1074 := by decide +kernel
  have hF : double.fractionBits = 52 := rfl
  have hB : double.binade = 2 ^ 52 := rfl
  have hI : double.infRung = 2047 * 2 ^ 52 := by decide +kernel
  have hlast : lastOf double m (single.leastPlace + (plOf single (rungOf single b) : Nat)) = single.leastPlace + (plOf single (rungOf single b) : Nat) + (m.log2 : Int) - 52 := by
    unfold lastOf; rw [hF, hL2, hL1]; omega
  have hk : m * 2 ^ (52 - m.log2) < 2 ^ 53 := by
    have h2 : m < 2 ^ (m.log2 + 1) := Nat.lt_log2_self
    have a : m * 2 ^ (52 - m.log2) < 2 ^ (m.log2 + 1) * 2 ^ (52 - m.log2) := Nat.mul_lt_mul_of_pos_right h2 (pw_pos _)
    rw [← Nat.pow_add, show m.log2 + 1 + (52 - m.log2) = 53 from by omega] at a
    exact a
  have hk1 : 2 ^ 52 ≤ m * 2 ^ (52 - m.log2) := by
    have h2 := Nat.log2_self_le hm0
    have a : 2 ^ m.log2 * 2 ^ (52 - m.log2) ≤ m * 2 ^ (52 - m.log2) := Nat.mul_le_mul_right _ h2
    rw [← Nat.pow_add, show m.log2 + (52 - m.log2) = 52 from by omega] at a
    exact a
  have e1 : (single.leastPlace + (plOf single (rungOf single b) : Nat) - lastOf double m (single.leastPlace + (plOf single (rungOf single b) : Nat))).toNat = 52 - m.log2 := by
    rw [hlast]; omega
  have e2 : (lastOf double m (single.leastPlace + (plOf single (rungOf single b) : Nat)) - double.leastPlace).toNat ≤ 1200 := by rw [hlast, hL2, hL1]; omega
  have hlt : (lastOf double m (single.leastPlace + (plOf single (rungOf single b) : Nat)) - double.leastPlace).toNat * double.binade + m * 2 ^ (single.leastPlace + (plOf single (rungOf single b) : Nat) - lastOf double m (single.leastPlace + (plOf single (rungOf single b) : Nat))).toNat < double.infRung := by
    rw [e1, hB, hI]
    have := Nat.mul_le_mul_right (2 ^ 52) e2
    omega
  have x := exact_read double (negOf single b) m (single.leastPlace + (plOf single (rungOf single b) : Nat)) hm0 (by rw [hF]; omega) (by rw [hL1, hL2]; omega) hlt bin_double
  have ew : wd b = double.nearest (negOf single b) m (single.leastPlace + (plOf single (rungOf single b) : Nat)) := by
    unfold wd
    rw [read_num single b h, hm]
    rfl
  rw [ew]
  refine ⟨52 - m.log2, lastOf double m (single.leastPlace + (plOf single (rungOf single b) : Nat)), ?_, ?_, ?_, ?_, x.2.2.2⟩
  · rw [hlast]; omega
  · rw [x.2.1, e1]
  · rw [x.2.2.1]; exact hlt
  · rw [x.2.2.1, e1]; omega
theorem inf_lt (f : Format) : f.infRung + f.binade = f.signWeight := by
  have h : 0 < 2 ^ f.exponentBits := pw_pos _
  unfold Format.infRung Format.signWeight
  rw [Nat.pow_add, ← Nat.succ_mul]
  exact congrArg (· * f.binade) (by omega)

theorem word_rung (f : Format) (neg : Bool) (r : Nat) (h : r ≤ f.infRung) : rungOf f (f.word neg r) = r ∧ negOf f (f.word neg r) = neg := by
  have hb : 0 < f.binade := pw_pos _
  have := inf_lt f
  unfold rungOf negOf Format.word
  cases neg
  · simp only [Bool.false_eq_true, if_false]
    rw [Nat.mod_eq_of_lt (by omega), Nat.div_eq_of_lt (by omega)]
    exact ⟨rfl, rfl⟩
  · simp only [if_true]
    rw [Nat.add_mod_left, Nat.mod_eq_of_lt (by omega), Nat.add_div_left _ (by omega), Nat.div_eq_of_lt (by omega)]
    exact ⟨rfl, rfl⟩

theorem rne_bounds (n d : Nat) : n / 2 ^ d ≤ rne n d ∧ rne n d ≤ n / 2 ^ d + 1 := by
  unfold rne; split <;> omega

theorem kept_bounds (f : Format) (m : Nat) (p : Int) (hm : m ≠ 0) :
    rneP m (p - lastOf f m p) ≤ 2 * f.binade ∧ (f.leastPlace < lastOf f m p → f.binade ≤ rneP m (p - lastOf f m p)) := by
  have h1 := Nat.log2_self_le hm
  have h2 : m < 2 ^ (m.log2 + 1) := Nat.lt_log2_self
  unfold rneP
  by_cases c : lastOf f m p ≤ p
  · rw [show (-(p - lastOf f m p)).toNat = 0 from by omega, rne_zero]
    constructor
    · have a : m * 2 ^ (p - lastOf f m p).toNat < 2 ^ (m.log2 + 1) * 2 ^ (p - lastOf f m p).toNat := Nat.mul_lt_mul_of_pos_right h2 (pw_pos _)
      rw [← Nat.pow_add] at a
      have b : 2 ^ (m.log2 + 1 + (p - lastOf f m p).toNat) ≤ 2 ^ (f.fractionBits + 1) := Nat.pow_le_pow_right (by decide) (by unfold lastOf at *; omega)
      rw [Nat.pow_succ 2 f.fractionBits, Nat.mul_comm _ 2] at b
      exact Nat.le_of_lt (Nat.lt_of_lt_of_le a b)
    · intro h
      have a : 2 ^ m.log2 * 2 ^ (p - lastOf f m p).toNat ≤ m * 2 ^ (p - lastOf f m p).toNat := Nat.mul_le_mul_right _ h1
      rw [← Nat.pow_add] at a
      refine Nat.le_trans ?_ a
      exact Nat.pow_le_pow_right (by decide) (by unfold lastOf at *; omega)
  · rw [show (p - lastOf f m p).toNat = 0 from by omega, Nat.pow_zero, Nat.mul_one]
    generalize hd : (-(p - lastOf f m p)).toNat = d
    have rb := rne_bounds m d
    constructor
    · have : m / 2 ^ d < 2 * f.binade := (Nat.div_lt_iff_lt_mul (pw_pos d)).2 (by
        have b : 2 ^ (m.log2 + 1) ≤ 2 ^ (f.fractionBits + 1 + d) := Nat.pow_le_pow_right (by decide) (by unfold lastOf at *; omega)
        rw [Nat.pow_add 2 (f.fractionBits + 1), Nat.pow_succ 2 f.fractionBits, Nat.mul_comm _ 2] at b
        exact Nat.lt_of_lt_of_le h2 b)
      omega
    · intro h
      have : f.binade ≤ m / 2 ^ d := (Nat.le_div_iff_mul_le (pw_pos d)).2 (by
        have b : 2 ^ (f.fractionBits + d) ≤ 2 ^ m.log2 := Nat.pow_le_pow_right (by decide) (by unfold lastOf at *; omega)
        rw [Nat.pow_add] at b
        exact Nat.le_trans b h1)
      omega

/-- What is written is read as what was kept. -/
theorem read_nearest (f : Format) (neg : Bool) (m : Nat) (p : Int) (hm : m ≠ 0) (hlt : (lastOf f m p - f.leastPlace).toNat * f.binade + rneP m (p - lastOf f m p) < f.infRung) :
    (∃ K t : Nat, f.read (f.nearest neg m p) = .number neg K (lastOf f m p + t) ∧ K * 2 ^ t = rneP m (p - lastOf f m p)) ∧
    rungOf f (f.nearest neg m p) = (lastOf f m p - f.leastPlace).toNat * f.binade + rneP m (p - lastOf f m p) ∧ negOf f (f.nearest neg m p) = neg := by
  have hb : 0 < f.binade := pw_pos _
  have hge : f.leastPlace ≤ lastOf f m p := by unfold lastOf; omega
  obtain ⟨k1, k2⟩ := kept_bounds f m p hm
  rw [nearest_eq f neg m p hm]
  generalize rneP m (p - lastOf f m p) = K at *
  generalize hL : (lastOf f m p - f.leastPlace).toNat = L at *
  rw [word_min f neg _ (Nat.le_of_lt hlt)]
  have hw := word_rung f neg (L * f.binade + K) (Nat.le_of_lt hlt)
  refine ⟨?_, hw⟩
  rw [read_num f _ (by rw [hw.1]; exact hlt), hw.1, hw.2]
  by_cases c : K < f.binade
  · have hL0 : L = 0 := by
      apply Classical.byContradiction; intro e
      have := k2 (by omega)
      omega
    subst hL0
    refine ⟨K, 0, ?_, by rw [Nat.pow_zero, Nat.mul_one]⟩
    unfold magOf plOf
    rw [Nat.zero_mul, Nat.zero_add, if_pos c, Nat.div_eq_of_lt c]
    congr 1
    omega
  · by_cases c2 : K = 2 * f.binade
    · refine ⟨f.binade, 1, ?_, by rw [Nat.pow_one, c2, Nat.mul_comm]⟩
      have hr2 : L * f.binade + K = f.binade * (L + 2) + 0 := by rw [Nat.mul_add, c2, Nat.mul_comm L]; omega
      unfold magOf plOf
      rw [if_neg (by rw [hr2, Nat.mul_add]; omega), hr2, Nat.mul_add_mod, Nat.mul_add_div hb, Nat.zero_mod, Nat.zero_div]
      congr 1 <;> omega
    · refine ⟨K, 0, ?_, by rw [Nat.pow_zero, Nat.mul_one]⟩
      have hr2 : L * f.binade + K = f.binade * (L + 1) + (K - f.binade) := by rw [Nat.mul_add, Nat.mul_one, Nat.mul_comm]; omega
      unfold magOf plOf
      rw [if_neg (by rw [hr2, Nat.mul_add]; omega), hr2, Nat.mul_add_mod, Nat.mod_eq_of_lt (by omega), Nat.mul_add_div hb, Nat.div_eq_of_lt (by omega)]
      congr 1 <;> omega

/-- Two roundings one behind the other are one, where the first doesn't end at a midpoint of the second. -/
theorem rne_rne (N a b : Nat) (ha : 2 ≤ a) (hb : 1 ≤ b) (h : rne N a % 2 ^ b ≠ 2 ^ (b - 1)) : rne (rne N a) b = rne N (a + b) := by
  obtain ⟨b, rfl⟩ : ∃ c, b = c + 1 := ⟨b - 1, by omega⟩
  obtain ⟨a, rfl⟩ : ∃ c, a = c + 1 := ⟨a - 1, by omega⟩
  rw [Nat.add_sub_cancel] at h
  have pa := pw_pos a; have pb := pw_pos b
  -- how far the first one is
  have near : ∃ δ : Int, (N : Int) = (2 ^ (a + 1) : Nat) * (rne N (a + 1) : Nat) + δ ∧ -(2 ^ a : Nat) ≤ δ ∧ δ ≤ (2 ^ a : Nat) := by
    have hd := Nat.div_add_mod N (2 ^ (a + 1))
    have hm := Nat.mod_lt N (pw_pos (a + 1))
    have hp : 2 ^ (a + 1) = 2 * 2 ^ a := by rw [Nat.pow_succ, Nat.mul_comm]
    unfold rne
    generalize N / 2 ^ (a + 1) = q at *
    generalize N % 2 ^ (a + 1) = r at *
    rw [hp] at *
    generalize 2 ^ a = A at *
    split
    · refine ⟨(r : Int) - 2 * A, ?_, by omega, by omega⟩
      rw [← hd]
      simp only [Int.natCast_add, Int.natCast_mul, Int.mul_add, Int.natCast_one]
      omega
    · refine ⟨(r : Int), ?_, by omega, by omega⟩
      rw [← hd]
      simp only [Int.natCast_add, Int.natCast_mul, Nat.add_zero]
  obtain ⟨δ, hN, d1, d2⟩ := near
  generalize rne N (a + 1) = D at *
  have hd := Nat.div_add_mod D (2 ^ (b + 1))
  have hm := Nat.mod_lt D (pw_pos (b + 1))
  have hpb : 2 ^ (b + 1) = 2 * 2 ^ b := by rw [Nat.pow_succ, Nat.mul_comm]
  have hpa : 2 ^ (a + 1) = 2 * 2 ^ a := by rw [Nat.pow_succ, Nat.mul_comm]
  have hpab : 2 ^ (a + 1 + (b + 1)) = 2 * 2 ^ a * (2 * 2 ^ b) := by rw [Nat.pow_add, hpa, hpb]
  have hA : 2 ≤ 2 ^ a := by
    obtain ⟨c, rfl⟩ : ∃ c, a = c + 1 := ⟨a - 1, by omega⟩
    rw [Nat.pow_succ]; have := pw_pos c; omega
  unfold rne
  rw [hpab]
  generalize hh : D / 2 ^ (b + 1) = q at *
  generalize hl : D % 2 ^ (b + 1) = l at *
  rw [hpb] at *
  generalize 2 ^ b = B at *
  rw [hpa] at hN
  generalize 2 ^ a = A at *
  -- N = (4 A B) q + 2 A l + δ
  have hN2 : (N : Int) = (2 * A * (2 * B) : Nat) * (q : Int) + (2 * A * l : Nat) + δ := by
    rw [hN, ← hd]
    simp only [Int.natCast_add, Int.natCast_mul, Int.mul_add]
    have : (((2 : Nat) : Int) * A * (((2 : Nat) : Int) * B * q)) = ((2 : Nat) : Int) * A * (((2 : Nat) : Int) * B) * q := by ac_rfl
    rw [this]
  have hG : 0 < 2 * A * (2 * B) := Nat.mul_pos (by omega) (by omega)
  have e1 : 2 * A * (2 * B) = 2 * (2 * A * B) := by ac_rfl
  by_cases c : l < B
  · rw [if_neg (by omega)]
    have hAl : 2 * A * l + 2 * A ≤ 2 * A * B := by
      have := Nat.mul_le_mul_left (2 * A) (show l + 1 ≤ B from c)
      rw [Nat.mul_add, Nat.mul_one] at this; exact this
    by_cases z : δ < 0 ∧ l = 0
    · obtain ⟨z1, rfl⟩ := z
      obtain ⟨q, rfl⟩ : ∃ c, q = c + 1 := ⟨q - 1, by
        rcases Nat.eq_zero_or_pos q with e | e
        · subst e; exfalso; simp at hN2; omega
        · omega⟩
      obtain ⟨e, he⟩ : ∃ e : Nat, δ = -(e : Int) := ⟨(-δ).toNat, by omega⟩
      subst he
      have hN3 : N = 2 * A * (2 * B) * q + (2 * A * (2 * B) - e) := by
        have : ((2 * A * (2 * B) * (q + 1) : Nat) : Int) = (2 * A * (2 * B) : Nat) * ((q + 1 : Nat) : Int) := Int.natCast_mul ..
        have h2 : 2 * A * (2 * B) * (q + 1) = 2 * A * (2 * B) * q + 2 * A * (2 * B) := by rw [Nat.mul_add, Nat.mul_one]
        rw [Nat.mul_zero] at hN2
        omega
      rw [hN3, Nat.mul_add_div hG, Nat.mul_add_mod, Nat.div_eq_of_lt (by omega), Nat.mod_eq_of_lt (by omega), if_pos (Or.inl (by omega))]
    · have hlt : 0 ≤ (2 * A * l : Nat) + δ := by
        by_cases l0 : l = 0
        · have : ¬ δ < 0 := fun x => z ⟨x, l0⟩
          omega
        · have := Nat.mul_le_mul_left (2 * A) (show 1 ≤ l by omega)
          omega
      obtain ⟨x, hx⟩ : ∃ x : Nat, ((2 * A * l : Nat) : Int) + δ = x := ⟨(((2 * A * l : Nat) : Int) + δ).toNat, by omega⟩
      have hN3 : N = 2 * A * (2 * B) * q + x := by
        have : ((2 * A * (2 * B) * q : Nat) : Int) = (2 * A * (2 * B) : Nat) * (q : Int) := Int.natCast_mul ..
        omega
      rw [hN3, Nat.mul_add_div hG, Nat.mul_add_mod, Nat.div_eq_of_lt (by omega), Nat.mod_eq_of_lt (by omega), if_neg (by omega)]
  · rw [if_pos (Or.inl (by omega))]
    have hAl : 2 * A * B + 2 * A ≤ 2 * A * l := by
      have := Nat.mul_le_mul_left (2 * A) (show B + 1 ≤ l by omega)
      rw [Nat.mul_add, Nat.mul_one] at this; exact this
    have hAu : 2 * A * l + 2 * A ≤ 2 * A * (2 * B) := by
      have := Nat.mul_le_mul_left (2 * A) (show l + 1 ≤ 2 * B by omega)
      rw [Nat.mul_add, Nat.mul_one] at this; exact this
    obtain ⟨x, hx⟩ : ∃ x : Nat, ((2 * A * l : Nat) : Int) + δ = x := ⟨(((2 * A * l : Nat) : Int) + δ).toNat, by omega⟩
    have hN3 : N = 2 * A * (2 * B) * q + x := by
      have : ((2 * A * (2 * B) * q : Nat) : Int) = (2 * A * (2 * B) : Nat) * (q : Int) := Int.natCast_mul ..
      omega
    rw [hN3, Nat.mul_add_div hG, Nat.mul_add_mod, Nat.div_eq_of_lt (by omega), Nat.mod_eq_of_lt (by omega), if_pos (Or.inl (by omega))]
theorem cut_scale (way : Toward) (s : Bool) (n k d : Nat) : way.cut s (n * 2 ^ k) (d + k) = way.cut s n d := by
  have hk := pw_pos k
  rw [cut_all, cut_all, Nat.pow_add, Nat.mul_div_mul_right _ _ hk, Nat.mul_mod_mul_right]
  congr 2
  have h0 : (n % 2 ^ d * 2 ^ k != 0) = (n % 2 ^ d != 0) := by
    by_cases h : n % 2 ^ d = 0
    · rw [h, Nat.zero_mul]
    · have := Nat.mul_pos (Nat.pos_of_ne_zero h) hk
      rw [bne_iff_ne.2 h, bne_iff_ne.2 (by omega)]
  cases way
  · unfold moreOf
    simp only
    have e : 2 * (n % 2 ^ d * 2 ^ k) = (2 * (n % 2 ^ d)) * 2 ^ k := by rw [Nat.mul_assoc]
    rw [e]
    have a : (2 ^ d * 2 ^ k < 2 * (n % 2 ^ d) * 2 ^ k) ↔ (2 ^ d < 2 * (n % 2 ^ d)) := Nat.mul_lt_mul_right hk
    have b : (2 ^ d * 2 ^ k = 2 * (n % 2 ^ d) * 2 ^ k) ↔ (2 ^ d = 2 * (n % 2 ^ d)) := Nat.mul_left_inj (by omega)
    rw [decide_eq_decide.2 a]
    congr 2
    rw [Bool.eq_iff_iff, beq_iff_eq, beq_iff_eq]
    exact b
  · unfold moreOf; simp only [h0]
  · unfold moreOf; simp only [h0]
  · rfl

/-- A number cut to a whole one: how it is written does not matter. -/
theorem cut_place (way : Toward) (s : Bool) (m k : Nat) (q : Int) : way.cut s ((m * 2 ^ k) <<< q.toNat) (-q).toNat = way.cut s (m <<< (q + k).toNat) (-(q + (k : Int))).toNat := by
  rw [Nat.shiftLeft_eq, Nat.shiftLeft_eq]
  by_cases h0 : 0 ≤ q
  · rw [show (-q).toNat = 0 from by omega, show (-(q + (k : Int))).toNat = 0 from by omega, show (q + (k : Int)).toNat = k + q.toNat from by omega, Nat.pow_add, Nat.mul_assoc]
  · by_cases h1 : 0 ≤ q + k
    · obtain ⟨d, hd⟩ : ∃ d : Nat, q = -(d : Int) := ⟨(-q).toNat, by omega⟩
      subst hd
      obtain ⟨r, rfl⟩ : ∃ r, k = r + d := ⟨k - d, by omega⟩
      rw [show (-(d : Int)).toNat = 0 from by omega, show (- -(d : Int)).toNat = 0 + d from by omega, show (-(-(d : Int) + ((r + d : Nat) : Int))).toNat = 0 from by omega,
        show (-(d : Int) + ((r + d : Nat) : Int)).toNat = r from by omega, Nat.pow_zero, Nat.mul_one, Nat.pow_add, ← Nat.mul_assoc, cut_scale]
    · rw [show q.toNat = 0 from by omega, show (q + (k : Int)).toNat = 0 from by omega, show (-q).toNat = (-(q + (k : Int))).toNat + k from by omega,
        Nat.pow_zero, Nat.mul_one, Nat.mul_one, cut_scale]

theorem cut_le (way : Toward) (s : Bool) (n d : Nat) : way.cut s n d ≤ n / 2 ^ d + 1 := by
  rw [cut_all]; cases moreOf way s (2 ^ d) (n % 2 ^ d) (n / 2 ^ d) <;> simp [Bool.toNat]

theorem s_frac : single.fractionBits = 23 := rfl
theorem s_least : single.leastPlace = -149 := by decide +kernel
theorem s_bin : single.binade = 8388608 := by decide +kernel
theorem s_inf : single.infRung = 255 * 8388608 := by decide +kernel
theorem s_sgn : single.signWeight = 2147483648 := by decide +kernel
theorem d_frac : double.fractionBits = 52 := rfl
theorem d_least : double.leastPlace = -1074 := by decide +kernel
theorem d_bin : double.binade = 4503599627370496 := by decide +kernel
theorem d_inf : double.infRung = 2047 * 4503599627370496 := by decide +kernel
theorem d_sgn : double.signWeight = 9223372036854775808 := by decide +kernel

theorem pl_le_s (r : Nat) (h : r < single.infRung) : plOf single r ≤ 253 := by
  unfold plOf
  have : r / single.binade < 255 := (Nat.div_lt_iff_lt_mul (by decide +kernel)).2 (by rw [s_inf] at h; rw [s_bin]; exact h)
  omega
theorem mag_log_s (r : Nat) (h : magOf single r ≠ 0) : (magOf single r).log2 ≤ 23 := by
  have := mag_lt single r
  have := (Nat.log2_lt (n := magOf single r) (k := 24) h).2 (by rw [s_bin] at this; exact this)
  omega

/-- A small whole number, or one that a word of 32 bits holds, written to 64 bits and from there to 32, is written to 32 at once. -/
theorem via_double (s : Bool) (m : Nat) (p : Int) (hm : m.log2 ≤ 24) (h1 : -149 ≤ p) (h2 : p ≤ 200) :
    ∃ K : Nat, ∃ q : Int, double.read (double.nearest s m p) = .number s K q ∧ single.nearest s K q = single.nearest s m p ∧ rungOf double (double.nearest s m p) < double.infRung := by
  by_cases hz : m = 0
  · subst hz
    have e : double.nearest s 0 p = double.word s 0 := nearest_zero ..
    have w := word_rung double s 0 (by decide +kernel)
    rw [e]
    refine ⟨0, double.leastPlace, ?_, by rw [nearest_zero, nearest_zero], by rw [w.1]; decide +kernel⟩
    rw [read_num double _ (by rw [w.1]; decide +kernel), w.1, w.2]
    have : magOf double 0 = 0 := (mag_zero double 0).2 rfl
    have e2 : plOf double 0 = 0 := by unfold plOf; rw [Nat.zero_div]
    rw [this, e2]
    congr 1
  · have hlast : lastOf double m p = p + (m.log2 : Int) - 52 := by unfold lastOf; rw [d_frac, d_least]; omega
    have hk : m * 2 ^ (52 - m.log2) < 2 ^ 53 := by
      have h2 : m < 2 ^ (m.log2 + 1) := Nat.lt_log2_self
      have a : m * 2 ^ (52 - m.log2) < 2 ^ (m.log2 + 1) * 2 ^ (52 - m.log2) := Nat.mul_lt_mul_of_pos_right h2 (pw_pos _)
      rw [← Nat.pow_add, show m.log2 + 1 + (52 - m.log2) = 53 from by omega] at a
      exact a
    have e1 : (p - lastOf double m p).toNat = 52 - m.log2 := by rw [hlast]; omega
    have e2 : (lastOf double m p - double.leastPlace).toNat ≤ 1300 := by rw [hlast, d_least]; omega
    have x := exact_read double s m p hz (by rw [d_frac]; omega) (by rw [d_least]; omega) (by
      rw [e1, d_bin, d_inf]
      have := Nat.mul_le_mul_right 4503599627370496 e2
      omega) bin_double
    refine ⟨_, _, x.2.1, ?_, ?_⟩
    · rw [nearest_scale]
      congr 1
      omega
    · rw [x.2.2.1, e1, d_bin, d_inf]
      have := Nat.mul_le_mul_right 4503599627370496 e2
      omega

/-- A finite word of 32 bits as one of 64 is read with the same value. -/
theorem wd_fin (b : Nat) (h : rungOf single b < single.infRung) :
    ∃ k : Nat, ∃ q : Int, q + k = single.leastPlace + (plOf single (rungOf single b) : Nat) ∧
      double.read (wd b) = .number (negOf single b) (magOf single (rungOf single b) * 2 ^ k) q ∧
      rungOf double (wd b) < double.infRung ∧ (rungOf double (wd b) = 0 ↔ rungOf single b = 0) ∧ negOf double (wd b) = negOf single b := by
  by_cases h0 : rungOf single b = 0
  · have hm : magOf single (rungOf single b) = 0 := (mag_zero _ _).2 h0
    have ew : wd b = double.word (negOf single b) 0 := by
      unfold wd
      rw [read_num single b h, hm]
      exact nearest_zero ..
    have w := word_rung double (negOf single b) 0 (by decide +kernel)
    rw [ew]
    refine ⟨(single.leastPlace + (plOf single (rungOf single b) : Nat) - double.leastPlace).toNat, double.leastPlace, ?_, ?_, by rw [w.1]; decide +kernel, by rw [w.1]; simp [h0], w.2⟩
    · rw [s_least, d_least]; omega
    · rw [read_num double _ (by rw [w.1]; decide +kernel), w.1, w.2, hm, Nat.zero_mul]
      have : magOf double 0 = 0 := (mag_zero double 0).2 rfl
      have e2 : plOf double 0 = 0 := by unfold plOf; rw [Nat.zero_div]
      rw [this, e2]
      congr 1
  · obtain ⟨k, q, a1, a2, a3, a4, a5⟩ := wd_num b h h0
    exact ⟨k, q, a1, a2, a3, ⟨fun e => absurd e a4, fun e => absurd e h0⟩, a5⟩

theorem wd_inf (b : Nat) (h : rungOf single b = single.infRung) : double.read (wd b) = .infinity (negOf single b) ∧ rungOf double (wd b) = double.infRung ∧ negOf double (wd b) = negOf single b := by
  have ew : wd b = double.word (negOf single b) double.infRung := by
    unfold wd
    rw [read_inf single b bin_single h]
    rfl
  have w := word_rung double (negOf single b) double.infRung (Nat.le_refl _)
  rw [ew]
  refine ⟨?_, w⟩
  rw [read_inf double _ bin_double w.1, w.2]

/-- How two words of 32 bits stand is how those of 64 stand. -/
theorem order_wd (a b : Nat) (ha : rungOf single a ≤ single.infRung) (hb : rungOf single b ≤ single.infRung) : double.order (wd a) (wd b) = single.order a b := by
  unfold Format.order
  by_cases ca : rungOf single a = single.infRung
  · rw [(wd_inf a ca).1, read_inf single a bin_single ca]
    by_cases cb : rungOf single b = single.infRung
    · rw [(wd_inf b cb).1, read_inf single b bin_single cb]
    · obtain ⟨l, j, b1, b2, _⟩ := wd_fin b (by omega)
      rw [b2, read_num single b (by omega)]
      rfl
  · obtain ⟨k, i, a1, a2, _⟩ := wd_fin a (by omega)
    rw [a2, read_num single a (by omega)]
    by_cases cb : rungOf single b = single.infRung
    · rw [(wd_inf b cb).1, read_inf single b bin_single cb]
      rfl
    · obtain ⟨l, j, b1, b2, _⟩ := wd_fin b (by omega)
      rw [b2, read_num single b (by omega), order_scale, a1, b1]

/-- A whole number near a word of 32 bits, reckoned with 64. -/
theorem integral_wd (way : Toward) (b : Nat) (h : rungOf single b < single.infRung) :
    ∃ s K q, double.read (double.write ((double.read (wd b)).integral way)) = .number s K q ∧
      single.nearest s K q = single.write ((single.read b).integral way) ∧ rungOf single (single.nearest s K q) < single.infRung ∧
      rungOf double (double.write ((double.read (wd b)).integral way)) < double.infRung := by
  obtain ⟨k, q, a1, a2, _⟩ := wd_fin b h
  have hp := pl_le_s _ h
  rw [a2, read_num single b h]
  generalize hn : negOf single b = s at *
  simp only [Datum.integral, Format.write]
  rw [cut_place, a1]
  generalize hP : single.leastPlace + (plOf single (rungOf single b) : Nat) = p at *
  have p1 : -149 ≤ p := by rw [← hP, s_least]; omega
  have p2 : p ≤ 104 := by rw [← hP, s_least]; omega
  by_cases c : 0 ≤ p
  · have e : way.cut s (magOf single (rungOf single b) <<< p.toNat) (-p).toNat = magOf single (rungOf single b) * 2 ^ p.toNat := by
      rw [show (-p).toNat = 0 from by omega, Nat.shiftLeft_eq, cut_all, Nat.pow_zero, Nat.div_one, Nat.mod_one]
      cases way <;> cases s <;> simp [moreOf]
    rw [e, nearest_scale, nearest_scale, Int.zero_add, show ((p.toNat : Nat) : Int) = p from by omega]
    obtain ⟨K, q', b1, b2, b3⟩ := via_double s (magOf single (rungOf single b)) p (by
      by_cases z : magOf single (rungOf single b) = 0
      · rw [z]; decide
      · have := mag_log_s _ z; omega) p1 (by omega)
    refine ⟨s, K, q', b1, b2, ?_, b3⟩
    rw [b2, ← hP, nearest_read single s _ bin_single h, (word_rung single s _ (Nat.le_of_lt h)).1]
    exact h
  · have hc := cut_le way s (magOf single (rungOf single b) <<< p.toNat) (-p).toNat
    rw [show p.toNat = 0 from by omega, Nat.shiftLeft_eq, Nat.pow_zero, Nat.mul_one] at hc ⊢
    have hm := mag_lt single (rungOf single b)
    rw [s_bin] at hm
    have hd : magOf single (rungOf single b) / 2 ^ (-p).toNat ≤ magOf single (rungOf single b) / 2 := by
      have : 2 ^ 1 ≤ 2 ^ (-p).toNat := Nat.pow_le_pow_right (by decide) (by omega)
      exact Nat.div_le_div_left (by omega) (by decide)
    generalize hC : way.cut s (magOf single (rungOf single b)) (-p).toNat = C at *
    have hC2 : C ≤ 8388608 := by omega
    have hlog : C.log2 ≤ 23 := by
      by_cases z : C = 0
      · rw [z]; decide
      · have := (Nat.log2_lt (n := C) (k := 24) z).2 (by omega); omega
    obtain ⟨K, q', b1, b2, b3⟩ := via_double s C 0 (by omega) (by omega) (by omega)
    refine ⟨s, K, q', b1, b2, ?_, b3⟩
    rw [b2]
    by_cases z : C = 0
    · subst z; rw [nearest_zero, (word_rung single s 0 (by decide +kernel)).1]; decide +kernel
    · have hl : lastOf single C 0 ≤ 0 := by unfold lastOf; rw [s_frac, s_least]; omega
      have hl2 : -149 ≤ lastOf single C 0 := by unfold lastOf; rw [s_least]; omega
      have kb := (kept_bounds single C 0 z).1
      rw [s_bin] at kb
      have lt : (lastOf single C 0 - single.leastPlace).toNat * single.binade + rneP C (0 - lastOf single C 0) < single.infRung := by
        rw [s_least, s_bin, s_inf]
        have : (lastOf single C 0 - -149).toNat ≤ 149 := by omega
        have := Nat.mul_le_mul_right 8388608 this
        omega
      rw [(read_nearest single s C 0 z lt).2.1]
      exact lt
theorem rne_near (N a : Nat) : ∃ δ : Int, (N : Int) = (2 ^ (a + 1) : Nat) * (rne N (a + 1) : Nat) + δ ∧ -(2 ^ a : Nat) ≤ δ ∧ δ ≤ (2 ^ a : Nat) := by
  have pa := pw_pos a
  have hd := Nat.div_add_mod N (2 ^ (a + 1))
  have hm := Nat.mod_lt N (pw_pos (a + 1))
  have hp : 2 ^ (a + 1) = 2 * 2 ^ a := by rw [Nat.pow_succ, Nat.mul_comm]
  unfold rne
  generalize N / 2 ^ (a + 1) = q at *
  generalize N % 2 ^ (a + 1) = r at *
  rw [hp] at *
  generalize 2 ^ a = A at *
  split
  · refine ⟨(r : Int) - 2 * A, ?_, by omega, by omega⟩
    rw [← hd]
    simp only [Int.natCast_add, Int.natCast_mul, Int.mul_add, Int.natCast_one]
    omega
  · refine ⟨(r : Int), ?_, by omega, by omega⟩
    rw [← hd]
    simp only [Int.natCast_add, Int.natCast_mul, Nat.add_zero]

/-- No root of a number that 24 digits hold lies at a midpoint. -/
theorem root_mid (n' r D h : Nat) (hr : IsRt (n' * 576460752303423488) r) (h1 : 2 * D ≤ r + 1) (h2 : r ≤ 2 * D + 1) (hD : D = h * 536870912 + 268435456) (hD2 : D ≤ 9007199254740992) : False := by
  obtain ⟨c, hc⟩ : ∃ c, c = 2 * D := ⟨_, rfl⟩
  have hsq : c * c = 288230376151711744 * ((2 * h + 1) * (2 * h + 1)) := by
    rw [hc, hD, show 2 * (h * 536870912 + 268435456) = 536870912 * (2 * h + 1) from by omega, show (288230376151711744 : Nat) = 536870912 * 536870912 from rfl]
    ac_rfl
  have hodd : (2 * h + 1) * (2 * h + 1) = 2 * (2 * h * h + 2 * h) + 1 := by
    rw [Nat.add_mul, Nat.mul_add, Nat.one_mul, Nat.mul_one, Nat.mul_add]
    have : 2 * h * (2 * h) = 2 * (2 * h * h) := by ac_rfl
    omega
  rw [hodd] at hsq
  generalize 2 * h * h + 2 * h = T at *
  obtain ⟨c', hc'⟩ : ∃ c', c = c' + 1 := ⟨c - 1, by omega⟩
  have lo : c' * c' ≤ r * r := Nat.mul_le_mul (by omega) (by omega)
  have hi : (r + 1) * (r + 1) ≤ (c + 2) * (c + 2) := Nat.mul_le_mul (by omega) (by omega)
  have e1 : c * c = c' * c' + 2 * c' + 1 := by rw [hc', Nat.add_mul, Nat.mul_add]; omega
  have e2 : (c + 2) * (c + 2) = c * c + 4 * c + 4 := by rw [Nat.add_mul, Nat.mul_add, Nat.mul_add]; omega
  have r1 := hr.1
  have r2 := hr.2
  have fin : ∀ n' T cc c : Nat, cc = 288230376151711744 * (2 * T + 1) → n' * 576460752303423488 < cc + 4 * c + 4 → cc ≤ n' * 576460752303423488 + 2 * c → c ≤ 18014398509481984 → False := by
    intro n' T cc c h1 h2 h3 h4
    omega
  exact fin n' T (c * c) c hsq (by omega) (by omega) (by omega)

/-- The root of a word of 32 bits, reckoned with 64 and cut to 32 after. -/
theorem root_wd (b : Nat) (h : rungOf single b < single.infRung) (h0 : rungOf single b ≠ 0) (hs : negOf single b = false) :
    ∃ x K q, double.sqrt (wd b) = some x ∧ double.read x = .number false K q ∧ single.sqrt b = some (single.nearest false K q) ∧
      rungOf single (single.nearest false K q) < single.infRung ∧ rungOf double x < double.infRung := by
  obtain ⟨k, q, a1, a2, a3, a4, _⟩ := wd_fin b h
  have hp := pl_le_s _ h
  have hm0 : magOf single (rungOf single b) ≠ 0 := fun e => h0 ((mag_zero _ _).1 e)
  have hml := mag_log_s _ hm0
  have hms := mag_lt single (rungOf single b)
  have hmd : magOf single (rungOf single b) * 2 ^ k < 2 * double.binade := by
    have := read_num double (wd b) a3
    rw [a2] at this
    injection this with e1 e2 e3
    rw [e2]
    exact mag_lt double _
  unfold Format.sqrt
  rw [a2, read_num single b h, hs, ← a1]
  generalize hm : magOf single (rungOf single b) = m at *
  generalize hP : single.leastPlace + (plOf single (rungOf single b) : Nat) = p at *
  have p1 : -149 ≤ p := by rw [← hP, s_least]; omega
  have p2 : p ≤ 104 := by rw [← hP, s_least]; omega
  have hk : k ≤ 53 := by
    apply Classical.byContradiction; intro c
    have : 2 ^ 54 ≤ 2 ^ k := Nat.pow_le_pow_right (by decide) (by omega)
    have : 1 * 2 ^ k ≤ m * 2 ^ k := Nat.mul_le_mul_right _ (by omega)
    rw [d_bin] at hmd
    omega
  -- a scaling that gives 53 digits of the root
  obtain ⟨V, hV1, hV2, hV3⟩ : ∃ V : Nat, 106 ≤ m.log2 + V ∧ m.log2 + V ≤ 107 ∧ (p - V) % 2 = 0 := by
    by_cases c : (p - ((106 - m.log2 : Nat) : Int)) % 2 = 0
    · exact ⟨106 - m.log2, by omega, by omega, c⟩
    · exact ⟨107 - m.log2, by omega, by omega, by omega⟩
  have hV4 : 83 ≤ V := by omega
  obtain ⟨n, hn⟩ : ∃ n, n = m * 2 ^ V := ⟨_, rfl⟩
  have n1 : 2 ^ 53 * 2 ^ 53 ≤ n := by
    have a : 2 ^ m.log2 * 2 ^ V ≤ m * 2 ^ V := Nat.mul_le_mul_right _ (Nat.log2_self_le hm0)
    rw [← Nat.pow_add] at a ⊢
    rw [hn]
    exact Nat.le_trans (Nat.pow_le_pow_right (by decide) (by omega)) a
  have n2 : n < 2 ^ 54 * 2 ^ 54 := by
    have a : m * 2 ^ V < 2 ^ (m.log2 + 1) * 2 ^ V := Nat.mul_lt_mul_of_pos_right Nat.lt_log2_self (pw_pos _)
    rw [← Nat.pow_add] at a ⊢
    rw [hn]
    exact Nat.lt_of_lt_of_le a (Nat.pow_le_pow_right (by decide) (by omega))
  have hr := rootFrom_whole n
  generalize Datum.rootFrom n (n.log2 / 2 + 1) 0 = r at hr
  have r1 : 2 ^ 53 ≤ r := hr.ge n1
  have r2 : r < 2 ^ 54 := sq_lt (Nat.lt_of_le_of_lt hr.1 n2)
  have eD := root_prog double (m * 2 ^ k) q (Nat.mul_pos (by omega) (pw_pos k)) hmd (V - k) r (by omega)
    (by rw [Nat.mul_assoc, ← Nat.pow_add, show k + (V - k) = V from by omega, ← hn]; exact hr) r1
  have eS := root_prog single m p (by omega) hms V r hV3 (by rw [← hn]; exact hr) (Nat.le_trans (by decide) r1)
  rw [Nat.mul_assoc, ← Nat.pow_add, show k + (V - k) = V from by omega, ← hn, show q - ((V - k : Nat) : Int) = p - V from by omega] at eD
  rw [← hn] at eS
  rw [a1, eS]
  generalize hπ : (p - (V : Int)) / 2 - 1 = π at *
  have π1 : -150 ≤ π := by omega
  have π2 : π ≤ 50 := by omega
  obtain ⟨N, hN⟩ : ∃ N, N = rtS n r := ⟨_, rfl⟩
  have hN2 : 2 * r ≤ N ∧ N ≤ 2 * r + 1 := by rw [hN]; unfold rtS; split <;> omega
  rw [← hN] at eD ⊢
  have hN0 : N ≠ 0 := by omega
  have lN : N.log2 = 54 := (Nat.log2_eq_iff hN0).2 ⟨by omega, by omega⟩
  have hlast : lastOf double N π = π + 2 := by unfold lastOf; rw [lN, d_frac, d_least]; omega
  have hkept : rneP N (π - lastOf double N π) = rne N 2 := by
    unfold rneP; rw [hlast, show (π - (π + 2)).toNat = 0 from by omega, show (-(π - (π + 2))).toNat = 2 from by omega, Nat.pow_zero, Nat.mul_one]
  have kb := (kept_bounds double N π hN0).1
  have kg := (kept_bounds double N π hN0).2 (by rw [hlast, d_least]; omega)
  have lt : (lastOf double N π - double.leastPlace).toNat * double.binade + rneP N (π - lastOf double N π) < double.infRung := by
    rw [d_bin] at kb ⊢
    rw [hlast, d_least, d_inf]
    rw [hlast] at kb
    have : (π + 2 - -1074).toNat ≤ 1200 := by omega
    have := Nat.mul_le_mul_right 4503599627370496 this
    omega
  obtain ⟨⟨K, t, rd1, rd2⟩, rd3, _⟩ := read_nearest double false N π hN0 lt
  refine ⟨double.nearest false N π, K, lastOf double N π + t, eD, rd1, ?_, ?_, by rw [rd3]; exact lt⟩
  all_goals
    rw [hkept] at rd2 kb kg
    rw [d_bin] at kb kg
    obtain ⟨D, hD⟩ : ∃ D, D = rne N 2 := ⟨_, rfl⟩
    rw [← hD] at rd2 kb kg
    have sc := nearest_scale single false K t (π + 2)
    rw [rd2] at sc
    rw [hlast, ← sc]
    have hD0 : D ≠ 0 := by omega
  · -- the two roundings are one
    have mid : D % 2 ^ 29 ≠ 2 ^ (29 - 1) := by
      intro e
      obtain ⟨δ, hδ, d1, d2⟩ := rne_near N 1
      rw [show (1 + 1 : Nat) = 2 from rfl, ← hD] at hδ
      have hV5 : n = m * 2 ^ (V - 59) * 576460752303423488 := by
        rw [hn, show (576460752303423488 : Nat) = 2 ^ 59 from rfl, Nat.mul_assoc, ← Nat.pow_add]; congr 2; omega
      rw [hV5] at hr
      have dm := Nat.div_add_mod D (2 ^ 29)
      rw [e] at dm
      exact root_mid _ r D (D / 2 ^ 29) hr (by omega) (by omega) (by omega) (by omega)
    have two := rne_rne N 2 29 (by decide) (by decide) (by rw [← hD]; exact mid)
    rw [← hD] at two
    congr 1
    have hlastN : lastOf single N π = π + 31 := by unfold lastOf; rw [lN, s_frac, s_least]; omega
    have eN := nearest_eq single false N π hN0
    rw [hlastN, show rneP N (π - (π + 31)) = rne N 31 from by unfold rneP; rw [show (π - (π + 31)).toNat = 0 from by omega, show (-(π - (π + 31))).toNat = 31 from by omega, Nat.pow_zero, Nat.mul_one]] at eN
    rw [eN]
    by_cases c : D = 9007199254740992
    · have lD : D.log2 = 53 := (Nat.log2_eq_iff hD0).2 ⟨by omega, by omega⟩
      have hlastD : lastOf single D (π + 2) = π + 32 := by unfold lastOf; rw [lD, s_frac, s_least]; omega
      rw [nearest_eq single false D (π + 2) hD0, hlastD, ← two]
      rw [show rneP D (π + 2 - (π + 32)) = 8388608 from by unfold rneP; rw [show (π + 2 - (π + 32)).toNat = 0 from by omega, show (-(π + 2 - (π + 32))).toNat = 30 from by omega, Nat.pow_zero, Nat.mul_one, c]; decide]
      rw [show rne D 29 = 16777216 from by rw [c]; decide, s_least, s_bin]
      obtain ⟨z, hz⟩ : ∃ z : Nat, (π + 31 - -149).toNat = z := ⟨_, rfl⟩
      rw [hz, show (π + 32 - -149).toNat = z + 1 from by omega]
      have : z * 8388608 + 16777216 = (z + 1) * 8388608 + 8388608 := by rw [Nat.add_mul, Nat.one_mul, Nat.add_assoc]
      rw [this]
    · have lD : D.log2 = 52 := (Nat.log2_eq_iff hD0).2 ⟨by omega, by omega⟩
      have hlastD : lastOf single D (π + 2) = π + 31 := by unfold lastOf; rw [lD, s_frac, s_least]; omega
      rw [nearest_eq single false D (π + 2) hD0, hlastD, ← two]
      rw [show rneP D (π + 2 - (π + 31)) = rne D 29 from by unfold rneP; rw [show (π + 2 - (π + 31)).toNat = 0 from by omega, show (-(π + 2 - (π + 31))).toNat = 29 from by omega, Nat.pow_zero, Nat.mul_one]]
  · have lD : D.log2 ≤ 53 := by have := (Nat.log2_lt (n := D) (k := 54) hD0).2 (by omega); omega
    have hl2 : lastOf single D (π + 2) ≤ π + 32 := by unfold lastOf; rw [s_frac, s_least]; omega
    have kb2 := (kept_bounds single D (π + 2) hD0).1
    rw [s_bin] at kb2
    have lt2 : (lastOf single D (π + 2) - single.leastPlace).toNat * single.binade + rneP D (π + 2 - lastOf single D (π + 2)) < single.infRung := by
      rw [s_bin, s_inf, s_least]
      have : (lastOf single D (π + 2) - -149).toNat ≤ 240 := by omega
      have := Nat.mul_le_mul_right 8388608 this
      omega
    rw [(read_nearest single false D (π + 2) hD0 lt2).2.1]
    exact lt2
end Go.Proofs.Ytonofklhapfdpaa.Fl
