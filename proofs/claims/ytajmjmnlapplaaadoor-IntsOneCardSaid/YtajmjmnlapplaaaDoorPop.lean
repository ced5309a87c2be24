/-
  How many bits of a number are 1: the count by halves that math/bits does, and the sum of the bits.
-/
import Derived.Test.YtajmjmnlapplaaaDoorA3
namespace Go.Proofs.YtajmjmnlapplaaaDoor.Pure
set_option linter.unusedVariables false
set_option linter.unusedSimpArgs false
open Go.RowKit Go.Proofs.YtajmjmnlapplaaaDoor.PInts Go.Proofs.YtajmjmnlapplaaaDoorW.PrintWords Go.Proofs.YtajmjmnlapplaaaDoorW.PrintLast

/-- The sum of the lowest d bits. -/
def pc : Nat → Nat → Nat
  | 0, _ => 0
  | d + 1, x => x % 2 + pc d (x / 2)
theorem pc_split (m d : Nat) : ∀ x y : Nat, x < 2 ^ m → pc (m + d) (x + 2 ^ m * y) = pc m x + pc d y := by
  induction m with
  | zero => intro x y h; simp [pc, show x = 0 by simpa using h]
  | succ m ih =>
    intro x y h
    rw [Nat.pow_succ] at h
    have e1 : (x + 2 ^ (m + 1) * y) % 2 = x % 2 := by rw [Nat.pow_succ, Nat.mul_comm (2 ^ m) 2, Nat.mul_assoc]; omega
    have e2 : (x + 2 ^ (m + 1) * y) / 2 = x / 2 + 2 ^ m * y := by rw [Nat.pow_succ, Nat.mul_comm (2 ^ m) 2, Nat.mul_assoc]; omega
    rw [show m + 1 + d = (m + d) + 1 from by omega]
    simp only [pc]
    rw [e1, e2, ih (x / 2) y (by omega)]
    omega
theorem pc_le (m : Nat) : ∀ x, pc m x ≤ m := by
  induction m with
  | zero => intro x; simp [pc]
  | succ m ih => intro x; have := ih (x / 2); simp only [pc]; omega
theorem and_split (u mh ml : Nat) (h : ml < 256) : u &&& (ml + 256 * mh) = (u % 256 &&& ml) + 256 * (u / 256 &&& mh) := by
  have hlt : (u % 256 &&& ml) < 256 := Nat.lt_of_le_of_lt Nat.and_le_right h
  apply Nat.eq_of_testBit_eq
  intro i
  rw [show (256 : Nat) = 2 ^ 8 from rfl, Nat.add_comm (u % 2 ^ 8 &&& ml), Nat.testBit_two_pow_mul_add _ (by simpa using hlt), Nat.testBit_and]
  have e : (ml + 2 ^ 8 * mh).testBit i = if i < 8 then ml.testBit i else mh.testBit (i - 8) := by
    rw [Nat.add_comm, Nat.testBit_two_pow_mul_add _ (by simpa using h)]
  rw [e]
  by_cases hi : i < 8
  · rw [if_pos hi, if_pos hi, Nat.testBit_and, Nat.testBit_mod_two_pow]
    simp [hi]
  · rw [if_neg hi, if_neg hi, Nat.testBit_and, Nat.testBit_div_two_pow, show i - 8 + 8 = i from by omega]

/-- A byte, k times. -/
def rep : Nat → Nat → Nat
  | 0, _ => 0
  | k + 1, c => c + 256 * rep k c
/-- The bytes of a number, each turned. -/
def bs : Nat → (Nat → Nat) → Nat → Nat
  | 0, _, _ => 0
  | k + 1, g, x => g (x % 256) + 256 * bs k g (x / 256)
def f1 (b : Nat) : Nat := (b / 2 &&& 85) + (b &&& 85)
def f2 (b : Nat) : Nat := (b / 4 &&& 51) + (b &&& 51)
def f3 (b : Nat) : Nat := (b / 16 + b) &&& 15
theorem half_byte : ∀ c : Fin 128, (c.val + 128 &&& 85) = (c.val &&& 85) := by decide +kernel
theorem quarter_byte : ∀ c : Fin 64, ∀ e : Fin 4, (c.val + 64 * e.val &&& 51) = (c.val &&& 51) := by decide +kernel
theorem f1_lt : ∀ b : Fin 256, f1 b.val < 256 := by decide +kernel
theorem f12_small : ∀ b : Fin 256, f2 (f1 b.val) < 256 ∧ f2 (f1 b.val) / 16 ≤ 4 ∧ f2 (f1 b.val) % 16 ≤ 4 := by decide +kernel
theorem f123 : ∀ b : Fin 256, f3 (f2 (f1 b.val)) = pc 8 b.val := by decide +kernel
theorem s1 (k : Nat) : ∀ x, (x / 2 &&& rep k 85) + (x &&& rep k 85) = bs k f1 x := by
  induction k with
  | zero => intro x; simp [rep, bs]
  | succ k ih =>
    intro x
    simp only [rep, bs]
    rw [and_split _ _ _ (by decide), and_split _ _ _ (by decide), ← ih (x / 256)]
    have e1 : x / 2 / 256 = x / 256 / 2 := by omega
    have e2 : (x / 2 % 256 &&& 85) = (x % 256 / 2 &&& 85) := by
      have hb := half_byte ⟨x % 256 / 2, by omega⟩
      rcases (show x / 2 % 256 = x % 256 / 2 ∨ x / 2 % 256 = x % 256 / 2 + 128 by omega) with h | h
      · rw [h]
      · rw [h]; exact hb
    rw [e1, e2]
    unfold f1
    omega
theorem s2 (k : Nat) : ∀ x, (bs k f1 x / 4 &&& rep k 51) + (bs k f1 x &&& rep k 51) = bs k (fun b => f2 (f1 b)) x := by
  induction k with
  | zero => intro x; simp [rep, bs]
  | succ k ih =>
    intro x
    simp only [rep, bs]
    have hl := f1_lt ⟨x % 256, by omega⟩
    simp only at hl
    rw [and_split _ _ _ (by decide), and_split _ _ _ (by decide), ← ih (x / 256)]
    generalize f1 (x % 256) = c at *
    generalize bs k f1 (x / 256) = y at *
    have e1 : (c + 256 * y) / 4 / 256 = y / 4 := by omega
    have e2 : (c + 256 * y) / 256 = y := by omega
    have e3 : (c + 256 * y) % 256 = c := by omega
    have e4 : (c + 256 * y) / 4 % 256 = c / 4 + 64 * (y % 4) := by omega
    have hq := quarter_byte ⟨c / 4, by omega⟩ ⟨y % 4, by omega⟩
    simp only at hq
    rw [e1, e2, e3, e4, hq]
    unfold f2
    omega
theorem bs_low (k : Nat) : ∀ x, bs k (fun b => f2 (f1 b)) x % 16 ≤ 4 := by
  intro x
  cases k with
  | zero => simp [bs]
  | succ k =>
    simp only [bs]
    have h := f12_small ⟨x % 256, by omega⟩
    simp only at h
    omega
theorem s3 (k : Nat) : ∀ x, (bs k (fun b => f2 (f1 b)) x / 16 + bs k (fun b => f2 (f1 b)) x) &&& rep k 15 = bs k (fun b => f3 (f2 (f1 b))) x := by
  induction k with
  | zero => intro x; simp [rep, bs]
  | succ k ih =>
    intro x
    simp only [rep, bs]
    have h := f12_small ⟨x % 256, by omega⟩
    have hl := bs_low k (x / 256)
    simp only at h
    rw [and_split _ _ _ (by decide), ← ih (x / 256)]
    generalize f2 (f1 (x % 256)) = c at *
    generalize bs k (fun b => f2 (f1 b)) (x / 256) = y at *
    have e1 : ((c + 256 * y) / 16 + (c + 256 * y)) / 256 = y / 16 + y := by omega
    have e2 : ((c + 256 * y) / 16 + (c + 256 * y)) % 256 &&& 15 = (c / 16 + c) &&& 15 := by
      rw [show (15 : Nat) = 2 ^ 4 - 1 from rfl, Nat.and_two_pow_sub_one_eq_mod, Nat.and_two_pow_sub_one_eq_mod]
      omega
    rw [e1, e2]
    rfl
theorem bs_pc (k : Nat) : ∀ x, bs k (fun b => f3 (f2 (f1 b))) x = bs k (pc 8) x := by
  induction k with
  | zero => intro x; rfl
  | succ k ih =>
    intro x
    simp only [bs]
    rw [ih, f123 ⟨x % 256, by omega⟩]
theorem fold_d1 (p A : Nat) (h : p < 256) : (p + 256 * A) / 256 = A := by omega
theorem fold_d2 (a B : Nat) (h : a < 65536) : (a + 65536 * B) / 65536 = B := by omega
theorem fold_d3 (a C : Nat) (h : a < 4294967296) : (a + 4294967296 * C) / 4294967296 = C := by omega
theorem fold_m (a C : Nat) : (a + 256 * C) % 128 = a % 128 := by omega
theorem fold_four (p0 p1 p2 p3 p4 p5 p6 p7 : Nat) (q0 : p0 ≤ 8) (q1 : p1 ≤ 8) (q2 : p2 ≤ 8) (q3 : p3 ≤ 8) (q4 : p4 ≤ 8) (q5 : p5 ≤ 8) (q6 : p6 ≤ 8) (q7 : p7 ≤ 8) :
    (p0 + 256 * (p1 + 256 * (p2 + 256 * (p3 + 256 * (p4 + 256 * (p5 + 256 * (p6 + 256 * p7)))))) + (p0 + 256 * (p1 + 256 * (p2 + 256 * (p3 + 256 * (p4 + 256 * (p5 + 256 * (p6 + 256 * p7))))))) / 256) % 18446744073709551616 = ((p0 + p1) + 256 * (p1 + p2)) + 65536 * ((p2 + p3) + 256 * (p3 + p4) + 65536 * ((p4 + p5) + 256 * (p5 + p6) + 65536 * ((p6 + p7) + 256 * p7))) := by
  rw [fold_d1 p0 _ (by clear q1 q2 q3 q4 q5 q6 q7; omega)]
  have e : p0 + 256 * (p1 + 256 * (p2 + 256 * (p3 + 256 * (p4 + 256 * (p5 + 256 * (p6 + 256 * p7)))))) + (p1 + 256 * (p2 + 256 * (p3 + 256 * (p4 + 256 * (p5 + 256 * (p6 + 256 * p7)))))) = ((p0 + p1) + 256 * (p1 + p2)) + 65536 * ((p2 + p3) + 256 * (p3 + p4) + 65536 * ((p4 + p5) + 256 * (p5 + p6) + 65536 * ((p6 + p7) + 256 * p7))) := by
    clear q0 q1 q2 q3 q4 q5 q6 q7
    simp only [Nat.mul_add, ← Nat.mul_assoc, Nat.reduceMul]
    ac_rfl
  rw [e, Nat.mod_eq_of_lt]
  have t3 : (p6 + p7) + 256 * p7 ≤ 5000 := by clear e q0 q1 q2 q3 q4 q5; omega
  generalize (p6 + p7) + 256 * p7 = z3 at *
  clear e
  have t2 : (p4 + p5) + 256 * (p5 + p6) ≤ 5000 := by clear t3 q0 q1 q2 q3 q7; omega
  have t1 : (p2 + p3) + 256 * (p3 + p4) ≤ 5000 := by clear t3 t2 q0 q1 q5 q6 q7; omega
  have t0 : (p0 + p1) + 256 * (p1 + p2) ≤ 5000 := by clear t3 t2 t1 q3 q4 q5 q6 q7; omega
  generalize (p4 + p5) + 256 * (p5 + p6) = z2 at *
  generalize (p2 + p3) + 256 * (p3 + p4) = z1 at *
  generalize (p0 + p1) + 256 * (p1 + p2) = z0 at *
  clear q0 q1 q2 q3 q4 q5 q6 q7
  omega
theorem fold_five (a0 a1 a2 a3 a4 a5 a6 a7 : Nat) (q0 : a0 ≤ 16) (q1 : a1 ≤ 16) (q2 : a2 ≤ 16) (q3 : a3 ≤ 16) (q4 : a4 ≤ 16) (q5 : a5 ≤ 16) (q6 : a6 ≤ 16) (q7 : a7 ≤ 16) :
    ((a0 + 256 * a1) + 65536 * (a2 + 256 * a3 + 65536 * (a4 + 256 * a5 + 65536 * (a6 + 256 * a7))) + ((a0 + 256 * a1) + 65536 * (a2 + 256 * a3 + 65536 * (a4 + 256 * a5 + 65536 * (a6 + 256 * a7)))) / 65536) % 18446744073709551616
    = ((a0 + a2) + 256 * (a1 + a3) + 65536 * ((a2 + a4) + 256 * (a3 + a5))) + 4294967296 * ((a4 + a6) + 256 * (a5 + a7) + 65536 * (a6 + 256 * a7)) := by
  rw [fold_d2 (a0 + 256 * a1) _ (by clear q2 q3 q4 q5 q6 q7; omega)]
  have e : (a0 + 256 * a1) + 65536 * (a2 + 256 * a3 + 65536 * (a4 + 256 * a5 + 65536 * (a6 + 256 * a7))) + (a2 + 256 * a3 + 65536 * (a4 + 256 * a5 + 65536 * (a6 + 256 * a7))) = ((a0 + a2) + 256 * (a1 + a3) + 65536 * ((a2 + a4) + 256 * (a3 + a5))) + 4294967296 * ((a4 + a6) + 256 * (a5 + a7) + 65536 * (a6 + 256 * a7)) := by
    clear q0 q1 q2 q3 q4 q5 q6 q7
    simp only [Nat.mul_add, ← Nat.mul_assoc, Nat.reduceMul]
    ac_rfl
  rw [e, Nat.mod_eq_of_lt]
  clear e
  have t3 : a6 + 256 * a7 ≤ 10000 := by clear q0 q1 q2 q3 q4 q5; omega
  have t2 : (a4 + a6) + 256 * (a5 + a7) ≤ 10000 := by clear t3 q0 q1 q2 q3; omega
  have t1 : (a2 + a4) + 256 * (a3 + a5) ≤ 10000 := by clear t3 t2 q0 q1 q6 q7; omega
  have t0 : (a0 + a2) + 256 * (a1 + a3) ≤ 10000 := by clear t3 t2 t1 q4 q5 q6 q7; omega
  generalize a6 + 256 * a7 = z3 at *
  generalize (a4 + a6) + 256 * (a5 + a7) = z2 at *
  generalize (a2 + a4) + 256 * (a3 + a5) = z1 at *
  generalize (a0 + a2) + 256 * (a1 + a3) = z0 at *
  clear q0 q1 q2 q3 q4 q5 q6 q7
  omega
theorem fold_six (b0 b1 b2 b3 b4 b5 b6 b7 : Nat) (q0 : b0 ≤ 32) (q1 : b1 ≤ 32) (q2 : b2 ≤ 32) (q3 : b3 ≤ 32) (q4 : b4 ≤ 32) (q5 : b5 ≤ 32) (q6 : b6 ≤ 32) (q7 : b7 ≤ 32) :
    ((b0 + 256 * b1 + 65536 * (b2 + 256 * b3)) + 4294967296 * (b4 + 256 * b5 + 65536 * (b6 + 256 * b7)) + ((b0 + 256 * b1 + 65536 * (b2 + 256 * b3)) + 4294967296 * (b4 + 256 * b5 + 65536 * (b6 + 256 * b7))) / 4294967296) % 18446744073709551616 % 128
    = (b0 + b4) % 128 := by
  have u2 : b2 + 256 * b3 ≤ 20000 := by clear q0 q1 q4 q5 q6 q7; omega
  have u6 : b6 + 256 * b7 ≤ 20000 := by clear u2 q0 q1 q2 q3 q4 q5; omega
  generalize b2 + 256 * b3 = z2 at *
  generalize b6 + 256 * b7 = z6 at *
  clear q2 q3 q6 q7
  have t0 : b0 + 256 * b1 + 65536 * z2 < 4294967296 := by clear u6 q4 q5; omega
  have t4 : b4 + 256 * b5 + 65536 * z6 < 4294967295 := by clear t0 u2 q0 q1; omega
  rw [Nat.mod_mod_of_dvd _ (by decide : 128 ∣ 18446744073709551616), fold_d3 _ _ t0]
  have e : b0 + 256 * b1 + 65536 * z2 + 4294967296 * (b4 + 256 * b5 + 65536 * z6) + (b4 + 256 * b5 + 65536 * z6) = (b0 + b4) + 256 * ((b1 + b5) + 256 * (z2 + z6) + 16777216 * (b4 + 256 * b5 + 65536 * z6)) := by
    clear q0 q1 q4 q5 u2 u6 t0 t4
    simp only [Nat.mul_add, ← Nat.mul_assoc, Nat.reduceMul]
    ac_rfl
  rw [e, fold_m]
theorem fold_lin (p0 p1 p2 p3 p4 p5 p6 p7 : Nat) (q0 : p0 ≤ 8) (q1 : p1 ≤ 8) (q2 : p2 ≤ 8) (q3 : p3 ≤ 8) (q4 : p4 ≤ 8) (q5 : p5 ≤ 8) (q6 : p6 ≤ 8) (q7 : p7 ≤ 8)
    (y4 y5 y6 : Nat) (h4 : y4 = (p0 + 256 * (p1 + 256 * (p2 + 256 * (p3 + 256 * (p4 + 256 * (p5 + 256 * (p6 + 256 * p7)))))) + (p0 + 256 * (p1 + 256 * (p2 + 256 * (p3 + 256 * (p4 + 256 * (p5 + 256 * (p6 + 256 * p7))))))) / 256) % 18446744073709551616)
    (h5 : y5 = (y4 + y4 / 65536) % 18446744073709551616) (h6 : y6 = (y5 + y5 / 4294967296) % 18446744073709551616) :
    y6 % 128 = p0 + (p1 + (p2 + (p3 + (p4 + (p5 + (p6 + p7)))))) := by
  rw [fold_four p0 p1 p2 p3 p4 p5 p6 p7 q0 q1 q2 q3 q4 q5 q6 q7] at h4
  rw [h4, fold_five (p0 + p1) (p1 + p2) (p2 + p3) (p3 + p4) (p4 + p5) (p5 + p6) (p6 + p7) p7 (Nat.add_le_add q0 q1) (Nat.add_le_add q1 q2) (Nat.add_le_add q2 q3) (Nat.add_le_add q3 q4) (Nat.add_le_add q4 q5) (Nat.add_le_add q5 q6) (Nat.add_le_add q6 q7) (Nat.le_trans q7 (by decide))] at h5
  rw [h6, h5, fold_six (p0 + p1 + (p2 + p3)) (p1 + p2 + (p3 + p4)) (p2 + p3 + (p4 + p5)) (p3 + p4 + (p5 + p6)) (p4 + p5 + (p6 + p7)) (p5 + p6 + p7) (p6 + p7) p7
    (Nat.add_le_add (Nat.add_le_add q0 q1) (Nat.add_le_add q2 q3)) (Nat.add_le_add (Nat.add_le_add q1 q2) (Nat.add_le_add q3 q4)) (Nat.add_le_add (Nat.add_le_add q2 q3) (Nat.add_le_add q4 q5)) (Nat.add_le_add (Nat.add_le_add q3 q4) (Nat.add_le_add q5 q6)) (Nat.add_le_add (Nat.add_le_add q4 q5) (Nat.add_le_add q6 q7)) (Nat.le_trans (Nat.add_le_add (Nat.add_le_add q5 q6) q7) (by decide)) (Nat.le_trans (Nat.add_le_add q6 q7) (by decide)) (Nat.le_trans q7 (by decide))]
  clear h4 h5 h6
  omega
theorem fold8 (x : Nat) (hx : x < 18446744073709551616) : ∀ y4 y5 y6 : Nat, y4 = (bs 8 (pc 8) x + bs 8 (pc 8) x / 256) % 18446744073709551616 → y5 = (y4 + y4 / 65536) % 18446744073709551616 → y6 = (y5 + y5 / 4294967296) % 18446744073709551616 → y6 % 128 = pc 64 x := by
  intro y4 y5 y6 h4 h5 h6
  have p : ∀ z : Nat, pc 8 z ≤ 8 := fun z => pc_le 8 z
  have sp : ∀ d y : Nat, pc (8 + d) y = pc 8 (y % 256) + pc d (y / 256) := by
    intro d y
    have := pc_split 8 d (y % 256) (y / 256) (by omega)
    rw [show y % 256 + 2 ^ 8 * (y / 256) = y from by omega] at this
    exact this
  have e : pc 64 x = pc 8 (x % 256) + (pc 8 (x / 256 % 256) + (pc 8 (x / 256 / 256 % 256) + (pc 8 (x / 256 / 256 / 256 % 256) + (pc 8 (x / 256 / 256 / 256 / 256 % 256) + (pc 8 (x / 256 / 256 / 256 / 256 / 256 % 256) + (pc 8 (x / 256 / 256 / 256 / 256 / 256 / 256 % 256) + pc 8 (x / 256 / 256 / 256 / 256 / 256 / 256 / 256))))))) := by
    rw [show 64 = 8 + 56 from rfl, sp, show 56 = 8 + 48 from rfl, sp, show 48 = 8 + 40 from rfl, sp, show 40 = 8 + 32 from rfl, sp, show 32 = 8 + 24 from rfl, sp, show 24 = 8 + 16 from rfl, sp, show 16 = 8 + 8 from rfl, sp]
  have hb : bs 8 (pc 8) x = pc 8 (x % 256) + 256 * (pc 8 (x / 256 % 256) + 256 * (pc 8 (x / 256 / 256 % 256) + 256 * (pc 8 (x / 256 / 256 / 256 % 256) + 256 * (pc 8 (x / 256 / 256 / 256 / 256 % 256) + 256 * (pc 8 (x / 256 / 256 / 256 / 256 / 256 % 256) + 256 * (pc 8 (x / 256 / 256 / 256 / 256 / 256 / 256 % 256) + 256 * (pc 8 (x / 256 / 256 / 256 / 256 / 256 / 256 / 256))))))))  := by
    simp only [bs]
    rw [show x / 256 / 256 / 256 / 256 / 256 / 256 / 256 % 256 = x / 256 / 256 / 256 / 256 / 256 / 256 / 256 from by omega]
    omega
  rw [e]
  rw [hb] at h4
  have q0 := p (x % 256)
  have q1 := p (x / 256 % 256)
  have q2 := p (x / 256 / 256 % 256)
  have q3 := p (x / 256 / 256 / 256 % 256)
  have q4 := p (x / 256 / 256 / 256 / 256 % 256)
  have q5 := p (x / 256 / 256 / 256 / 256 / 256 % 256)
  have q6 := p (x / 256 / 256 / 256 / 256 / 256 / 256 % 256)
  have q7 := p (x / 256 / 256 / 256 / 256 / 256 / 256 / 256)
  clear e hb sp p
  generalize pc 8 (x % 256) = p0 at *
  generalize pc 8 (x / 256 % 256) = p1 at *
  generalize pc 8 (x / 256 / 256 % 256) = p2 at *
  generalize pc 8 (x / 256 / 256 / 256 % 256) = p3 at *
  generalize pc 8 (x / 256 / 256 / 256 / 256 % 256) = p4 at *
  generalize pc 8 (x / 256 / 256 / 256 / 256 / 256 % 256) = p5 at *
  generalize pc 8 (x / 256 / 256 / 256 / 256 / 256 / 256 % 256) = p6 at *
  generalize pc 8 (x / 256 / 256 / 256 / 256 / 256 / 256 / 256) = p7 at *
  exact fold_lin p0 p1 p2 p3 p4 p5 p6 p7 q0 q1 q2 q3 q4 q5 q6 q7 y4 y5 y6 h4 h5 h6
end Go.Proofs.YtajmjmnlapplaaaDoor.Pure
