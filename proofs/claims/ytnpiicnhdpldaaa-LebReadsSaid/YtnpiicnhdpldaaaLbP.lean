/-
  Plain arithmetic of numbers in parts of seven bits (chapter 1): what is written, what is read. No condition beyond those that the lemmas state.
-/
import Derived.Test.YtnpiicnhdpldaaaLbH
namespace Go.Proofs.Ytnpiicnhdpldaaa.Pure
set_option linter.unusedVariables false
set_option linter.unusedSimpArgs false
open Go.RowKit Go.Proofs.YtnpiicnhdpldaaaW.PrintWords Go.Proofs.Ytnpiicnhdpldaaa.PLeb Go.Proofs.Ytnpiicnhdpldaaa.Lb

theorem or8 (a : Int) (h0 : 0 ≤ a) (h1 : a < 256) : Go.bits .or .u8 a 128 = 128 + a % 128 := by
  have h : ∀ x : Fin 256, Go.bits .or .u8 ((x.val : Nat) : Int) 128 = 128 + ((x.val : Nat) : Int) % 128 := by decide +kernel
  have := h ⟨a.toNat, by omega⟩
  simpa [Int.toNat_of_nonneg h0] using this
theorem and127 (a : Int) (h0 : 0 ≤ a) (h1 : a < 256) : Go.bits .and .u8 a 127 = a % 128 := by
  have h : ∀ x : Fin 256, Go.bits .and .u8 ((x.val : Nat) : Int) 127 = ((x.val : Nat) : Int) % 128 := by decide +kernel
  have := h ⟨a.toNat, by omega⟩
  simpa [Int.toNat_of_nonneg h0] using this
theorem and64 (a : Int) (h0 : 0 ≤ a) (h1 : a < 256) : (Go.bits .and .u8 a 64 != 0) = decide (64 ≤ a % 128) := by
  have h : ∀ x : Fin 256, (Go.bits .and .u8 ((x.val : Nat) : Int) 64 != 0) = decide (64 ≤ ((x.val : Nat) : Int) % 128) := by decide +kernel
  have := h ⟨a.toNat, by omega⟩
  simpa [Int.toNat_of_nonneg h0] using this

theorem or_nat (x y : Nat) (hx : x < 18446744073709551616) (hy : y < 18446744073709551616) : Go.bits .or .u64 (x : Int) (y : Int) = ((x ||| y : Nat) : Int) := by
  unfold Go.bits
  have hb : IntKind.bits .u64 = 64 := rfl
  simp only
  rw [IntKind.wrap_u64, BitVec.toNat_or, BitVec.ofInt_natCast, BitVec.ofInt_natCast, BitVec.toNat_ofNat, BitVec.toNat_ofNat, hb]
  rw [Nat.mod_eq_of_lt (show x < 2 ^ 64 from hx), Nat.mod_eq_of_lt (show y < 2 ^ 64 from hy)]
  have : x ||| y < 2 ^ 64 := Nat.or_lt_two_pow hx hy
  omega

/-- One byte more: the number grows by so much of the byte as there is room for. -/
theorem numS_val (A k : Nat) (c : Int) (hk : k ≤ 9) (hA : A < 2 ^ (7 * k)) (h0 : 0 ≤ c) (h1 : c < 256) :
    numS (A : Int) k c = (((A + (c % 128).toNat * 2 ^ (7 * k)) % 18446744073709551616 : Nat) : Int) := by
  have hp : 2 ^ (7 * k) * 2 ^ (64 - 7 * k) = 18446744073709551616 := by
    rw [← Nat.pow_add, show 7 * k + (64 - 7 * k) = 64 by omega]
  have hp0 : 0 < 2 ^ (7 * k) := Nat.pow_pos (by decide)
  have hq0 : 1 < 2 ^ (64 - 7 * k) := Nat.one_lt_two_pow (by omega)
  have hle : 2 ^ (7 * k) ≤ 9223372036854775808 := by
    have : 2 ^ (7 * k) ≤ 2 ^ 63 := Nat.pow_le_pow_right (by decide) (by omega)
    exact this
  unfold numS
  rw [and127 c h0 h1]
  obtain ⟨d, hd⟩ : ∃ d : Nat, c % 128 = (d : Int) := ⟨(c % 128).toNat, by omega⟩
  have hd1 : d < 128 := by omega
  rw [hd, Int.toNat_natCast]
  rw [show IntKind.u64.wrap (d : Int) = (d : Int) from by rw [IntKind.wrap_u64]; omega]
  rw [show (2 : Int) ^ (7 * k) = ((2 ^ (7 * k) : Nat) : Int) from by simp]
  generalize hP : 2 ^ (7 * k) = P at *
  generalize hQ : 2 ^ (64 - 7 * k) = Q at *
  rw [show IntKind.u64.wrap ((d : Int) * (P : Int)) = ((d * P % 18446744073709551616 : Nat) : Int) from by rw [IntKind.wrap_u64]; simp]
  have e1 : d * P % 18446744073709551616 = P * (d % Q) := by
    rw [← hp, Nat.mul_comm d P, Nat.mul_mod_mul_left]
  rw [e1]
  have hdq : d % Q < Q := Nat.mod_lt _ (by omega)
  have h2 : P * (d % Q) + P ≤ 18446744073709551616 := by
    rw [← hp, ← Nat.mul_succ]; exact Nat.mul_le_mul_left _ hdq
  rw [or_nat _ _ (by omega) (by omega)]
  have e2 : A ||| P * (d % Q) = P * (d % Q) + A := by
    rw [Nat.or_comm, ← hP, Nat.two_pow_add_eq_or_of_lt (by omega)]
  rw [e2]
  have e3 : (A + d * P) % 18446744073709551616 = P * (d % Q) + A := by
    rw [Nat.add_mod, e1, Nat.mod_eq_of_lt (show A < 18446744073709551616 by omega), Nat.mod_eq_of_lt (by omega)]
    omega
  rw [e3]

/-- The number in parts. -/
def pv : List Int → Nat
  | [] => 0
  | c :: t => (c % 128).toNat + 128 * pv t
theorem pv_lt : ∀ l : List Int, pv l < 2 ^ (7 * l.length)
  | [] => by simp [pv]
  | c :: t => by
    have := pv_lt t
    have e : 2 ^ (7 * (c :: t).length) = 128 * 2 ^ (7 * t.length) := by
      rw [List.length_cons, show 7 * (t.length + 1) = 7 + 7 * t.length by omega, Nat.pow_add]
    have h : (c % 128).toNat < 128 := by omega
    unfold pv
    omega

/-- A whole number in parts: what reading it gives. -/
theorem numG_whole : ∀ (p : List Int) (c : Int) (t : List Int) (r A k : Nat), (∀ x ∈ p, 128 ≤ x ∧ x < 256) → 0 ≤ c → c < 128 → p.length < r → k + r ≤ 10 → A < 2 ^ (7 * k) →
    numG r (A : Int) k (p ++ c :: t) = ((((A + pv (p ++ [c]) * 2 ^ (7 * k)) % 18446744073709551616 : Nat) : Int), k + p.length + 1, decide (64 ≤ c), true, t, 0)
  | [], c, t, r, A, k, hp, h0, h1, hr, hk, hA => by
    obtain ⟨r, rfl⟩ : ∃ m, r = m + 1 := ⟨r - 1, by simp at hr; omega⟩
    simp only [List.nil_append, List.length_nil, Nat.add_zero]
    unfold numG
    rw [if_pos h1, numS_val A k c (by omega) hA h0 (by omega), and64 c h0 (by omega)]
    simp only [pv, Nat.mul_zero, Nat.add_zero]
    rw [show c % 128 = c by omega]
  | x :: p, c, t, r, A, k, hp, h0, h1, hr, hk, hA => by
    obtain ⟨r, rfl⟩ : ∃ m, r = m + 1 := ⟨r - 1, by simp at hr; omega⟩
    obtain ⟨hx0, hx1⟩ := hp x (by simp)
    simp only [List.length_cons] at hr
    simp only [List.cons_append, List.length_cons]
    conv => lhs; unfold numG
    rw [if_neg (by omega), numS_val A k x (by omega) hA (by omega) hx1]
    have hd : (x % 128).toNat < 128 := by omega
    have e7 : 2 ^ (7 * (k + 1)) = 128 * 2 ^ (7 * k) := by rw [show 7 * (k + 1) = 7 + 7 * k by omega, Nat.pow_add]
    have hlt : A + (x % 128).toNat * 2 ^ (7 * k) < 2 ^ (7 * (k + 1)) := by
      rw [e7]
      have : (x % 128).toNat * 2 ^ (7 * k) ≤ 127 * 2 ^ (7 * k) := Nat.mul_le_mul_right _ (by omega)
      omega
    have h63 : 2 ^ (7 * (k + 1)) ≤ 2 ^ 63 := Nat.pow_le_pow_right (by decide) (by omega)
    have h63' : (2 : Nat) ^ 63 < 18446744073709551616 := by decide
    rw [Nat.mod_eq_of_lt (show A + (x % 128).toNat * 2 ^ (7 * k) < 18446744073709551616 by omega)]
    rw [numG_whole p c t r _ (k + 1) (fun y hy => hp y (List.mem_cons_of_mem _ hy)) h0 h1 (by omega) (by omega) hlt]
    have e : A + (x % 128).toNat * 2 ^ (7 * k) + pv (p ++ [c]) * 2 ^ (7 * (k + 1)) = A + pv (x :: (p ++ [c])) * 2 ^ (7 * k) := by
      rw [e7, pv, Nat.add_mul]
      have : pv (p ++ [c]) * (128 * 2 ^ (7 * k)) = 128 * pv (p ++ [c]) * 2 ^ (7 * k) := by
        rw [← Nat.mul_assoc, Nat.mul_comm (pv (p ++ [c])) 128]
      omega
    rw [e, show k + 1 + p.length + 1 = k + (p.length + 1) + 1 by omega]

/-- More bytes than may be. -/
theorem numG_over : ∀ (p : List Int) (n : Int) (t : List Int) (k : Nat), (∀ x ∈ p, 128 ≤ x) → ∃ n', numG p.length n k (p ++ t) = (n', k + p.length, false, false, [], 11)
  | [], n, t, k, hp => ⟨n, by simp [numG]⟩
  | x :: p, n, t, k, hp => by
    obtain ⟨n', h⟩ := numG_over p (numS n k x) t (k + 1) (fun y hy => hp y (List.mem_cons_of_mem _ hy))
    refine ⟨n', ?_⟩
    have hx := hp x (by simp)
    simp only [List.cons_append, List.length_cons]
    conv => lhs; unfold numG
    rw [if_neg (by omega), h, show k + 1 + p.length = k + (p.length + 1) by omega]
/-- Fewer bytes than the number has. -/
theorem numG_short : ∀ (p : List Int) (n : Int) (r k : Nat), (∀ x ∈ p, 128 ≤ x) → p.length < r → ∃ n', numG r n k p = (n', k + p.length, false, false, [], 10)
  | [], n, r, k, hp, hr => by
    obtain ⟨r, rfl⟩ : ∃ m, r = m + 1 := ⟨r - 1, by simp at hr; omega⟩
    exact ⟨n, by simp [numG]⟩
  | x :: p, n, r, k, hp, hr => by
    simp only [List.length_cons] at hr
    obtain ⟨r, rfl⟩ : ∃ m, r = m + 1 := ⟨r - 1, by omega⟩
    obtain ⟨n', h⟩ := numG_short p (numS n k x) r (k + 1) (fun y hy => hp y (List.mem_cons_of_mem _ hy)) (by omega)
    refine ⟨n', ?_⟩
    have hx := hp x (by simp)
    conv => lhs; unfold numG
    rw [if_neg (by omega), h, List.length_cons, show k + 1 + p.length = k + (p.length + 1) by omega]
end Go.Proofs.Ytnpiicnhdpldaaa.Pure
