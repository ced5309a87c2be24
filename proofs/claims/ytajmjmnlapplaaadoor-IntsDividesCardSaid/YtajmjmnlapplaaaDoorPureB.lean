/-
  The plain law of the reference for package ints: its cutting, its bits one by one, its lists of bits, its quotients, over numbers.
-/
import Derived.Test.YtajmjmnlapplaaaDoorPIntsx19
import Derived.Test.YtajmjmnlapplaaaDoorPIntsx20
import Derived.Test.YtajmjmnlapplaaaDoorPIntsx24
import Derived.Test.YtajmjmnlapplaaaDoorPureA
namespace Go.Proofs.YtajmjmnlapplaaaDoor.Pure
set_option linter.unusedVariables false
set_option linter.unusedSimpArgs false
open Go.RowKit Go.Proofs.YtajmjmnlapplaaaDoor.PInts Go.Proofs.YtajmjmnlapplaaaDoorW.PrintWords Go.Proofs.YtajmjmnlapplaaaDoorW.PrintLast Go.Proofs.YtajmjmnlapplaaaDoorW.PrintMore

theorem wr_u (x : Int) (h0 : 0 ≤ x) (h1 : x < 18446744073709551616) : IntKind.u64.wrap x = x := IntWalk.u64_in x (by omega)
theorem wr_i (x : Int) (h0 : -9223372036854775808 ≤ x) (h1 : x < 9223372036854775808) : wrap64 x = x := by unfold wrap64; omega
theorem half (a : Int) (h0 : 0 ≤ a) (h1 : a < 18446744073709551616) : IntKind.u64.wrap (Int.tdiv a 2) = a / 2 := by
  rw [Int.tdiv_eq_ediv_of_nonneg h0]; exact wr_u _ (by omega) (by omega)

theorem rRight_yes (n : Int) (h : R n) : bodkinref02_Right.f n = some true := by
  rcases h with rfl | rfl | rfl | rfl <;> rfl
theorem rRight_no (n : Int) (h : ¬ R n) : bodkinref02_Right.f n = some false := by
  unfold R at h
  unfold bodkinref02_Right.f
  rw [if_neg (by omega), if_neg (by omega), if_neg (by omega)]
  congr 1
  rw [beq_eq_false_iff_ne]
  omega

/-- A loop that doubles: d rounds before its end. -/
theorem cut_loop (a n : Int) (d : Nat) : ∀ (k : Nat) (m i : Int), d < k → n - i = d → 0 < m → m * 2 ^ d < 18446744073709551616 → 0 ≤ i → n ≤ 64 → 0 ≤ a →
    bodkinref02_Cut.l0 k n a m i = some (a % (m * 2 ^ d)) := by
  induction d with
  | zero =>
    intro k m i hk hd hm hb hi hn ha
    obtain ⟨k, rfl⟩ : ∃ q, k = q + 1 := ⟨k - 1, by omega⟩
    simp only [bodkinref02_Cut.l0]
    rw [if_neg (by omega), if_neg (by omega), Int.tmod_eq_emod_of_nonneg ha]
    simp
  | succ d ih =>
    intro k m i hk hd hm hb hi hn ha
    obtain ⟨k, rfl⟩ : ∃ q, k = q + 1 := ⟨k - 1, by omega⟩
    have e : m * 2 ^ (d + 1) = m * 2 * 2 ^ d := by rw [Int.pow_succ]; rw [Int.mul_assoc, Int.mul_comm (2 ^ d) 2]
    have hp : (1 : Int) ≤ 2 ^ d := by have : (0 : Int) < 2 ^ d := Int.pow_pos (by decide); omega
    have hm2 : m * 2 ≤ m * 2 * 2 ^ d := by
      have := Int.mul_le_mul_of_nonneg_left hp (show (0 : Int) ≤ m * 2 by omega)
      omega
    simp only [bodkinref02_Cut.l0]
    rw [if_pos (by omega), wr_u (m * 2) (by omega) (by rw [e] at hb; omega), wr_i (i + 1) (by omega) (by omega), e]
    exact ih k (m * 2) (i + 1) (by omega) (by omega) (by omega) (by rw [← e]; exact hb) (by omega) hn ha
theorem rCut (k : Nat) (n a : Int) (hk : 100 ≤ k) (h : R n) (h0 : 0 ≤ a) (h1 : a < 18446744073709551616) : bodkinref02_Cut.f k n a = some (a % pw n) := by
  unfold bodkinref02_Cut.f
  rcases h with rfl | rfl | rfl | rfl
  · rw [if_neg (by decide)]; exact cut_loop a 8 8 k 1 0 (by omega) (by decide) (by decide) (by decide) (by decide) (by decide) h0
  · rw [if_neg (by decide)]; exact cut_loop a 16 16 k 1 0 (by omega) (by decide) (by decide) (by decide) (by decide) (by decide) h0
  · rw [if_neg (by decide)]; exact cut_loop a 32 32 k 1 0 (by omega) (by decide) (by decide) (by decide) (by decide) (by decide) h0
  · rw [if_pos rfl, pw64]; congr 1; omega

/-- The i-th bit. -/
def bitAt (a : Int) (i : Nat) : Int := a / 2 ^ i % 2
theorem bitAt_zero (a : Int) : bitAt a 0 = a % 2 := by simp [bitAt]
theorem bitAt_succ (a : Int) (i : Nat) : bitAt a (i + 1) = bitAt (a / 2) i := by
  unfold bitAt
  rw [Int.pow_succ, Int.mul_comm, ← Int.ediv_ediv_of_nonneg (by omega)]
theorem bitAt_range (a : Int) (i : Nat) : 0 ≤ bitAt a i ∧ bitAt a i ≤ 1 := by unfold bitAt; omega
theorem bit_loop (i : Int) (d : Nat) : ∀ (k : Nat) (a j : Int), d < k → i - j = d → 0 ≤ j → i ≤ 64 → 0 ≤ a → a < 18446744073709551616 →
    bodkinref02_bit.l0 k a i j = some (bitAt a d) := by
  induction d with
  | zero =>
    intro k a j hk hd hj hi h0 h1
    obtain ⟨k, rfl⟩ : ∃ q, k = q + 1 := ⟨k - 1, by omega⟩
    simp only [bodkinref02_bit.l0]
    rw [if_neg (by omega), Int.tmod_eq_emod_of_nonneg h0, bitAt_zero]
  | succ d ih =>
    intro k a j hk hd hj hi h0 h1
    obtain ⟨k, rfl⟩ : ∃ q, k = q + 1 := ⟨k - 1, by omega⟩
    simp only [bodkinref02_bit.l0]
    rw [if_pos (by omega), half a h0 h1, wr_i (j + 1) (by omega) (by omega), bitAt_succ]
    exact ih k (a / 2) (j + 1) (by omega) (by omega) (by omega) hi (by omega) (by omega)
theorem rBit (k : Nat) (a : Int) (i : Int) (hk : 100 ≤ k) (hi : 0 ≤ i) (hi2 : i ≤ 64) (h0 : 0 ≤ a) (h1 : a < 18446744073709551616) : bodkinref02_bit.f k a i = some (bitAt a i.toNat) :=
  bit_loop i i.toNat k a 0 (by omega) (by omega) (by omega) hi2 h0 h1

/-- The lowest d bits, the lowest first. -/
def bl : Nat → Int → List Int
  | 0, _ => []
  | d + 1, a => a % 2 :: bl d (a / 2)
theorem bl_length (d : Nat) : ∀ a, (bl d a).length = d := by
  induction d with
  | zero => intro a; rfl
  | succ d ih => intro a; simp [bl, ih]
theorem bl_get (d : Nat) : ∀ (a : Int) (i : Nat), i < d → (bl d a).getD i 0 = bitAt a i := by
  induction d with
  | zero => intro a i h; omega
  | succ d ih =>
    intro a i h
    cases i with
    | zero => simp [bl, bitAt_zero]
    | succ i => rw [bitAt_succ, ← ih (a / 2) i (by omega)]; simp [bl]
theorem list_loop (n : Int) (d : Nat) : ∀ (k : Nat) (a i : Int) (l : List Int), d < k → n - i = d → 0 ≤ i → n ≤ 64 → (l.length : Int) = i → 0 ≤ a → a < 18446744073709551616 →
    bodkinref02_list.l0 k n a l i = some (l ++ bl d a) := by
  induction d with
  | zero =>
    intro k a i l hk hd hi hn hl h0 h1
    obtain ⟨k, rfl⟩ : ∃ q, k = q + 1 := ⟨k - 1, by omega⟩
    simp only [bodkinref02_list.l0]
    rw [if_neg (by omega)]
    simp [bl]
  | succ d ih =>
    intro k a i l hk hd hi hn hl h0 h1
    obtain ⟨k, rfl⟩ : ∃ q, k = q + 1 := ⟨k - 1, by omega⟩
    simp only [bodkinref02_list.l0]
    rw [if_pos (by omega), if_pos (by omega), half a h0 h1, wr_i (i + 1) (by omega) (by omega), Int.tmod_eq_emod_of_nonneg h0,
      ih k (a / 2) (i + 1) _ (by omega) (by omega) (by omega) hn (by simp; omega) (by omega) (by omega)]
    simp [bl]
theorem rList (k : Nat) (n a : Int) (hk : 100 ≤ k) (h0n : 0 ≤ n) (hn : n ≤ 64) (h0 : 0 ≤ a) (h1 : a < 18446744073709551616) : bodkinref02_list.f k n a = some (bl n.toNat a) := by
  unfold bodkinref02_list.f
  rw [list_loop n n.toNat k a 0 [] (by omega) (by omega) (by omega) hn rfl h0 h1]
  rfl

/-- The number of bits, the lowest first. -/
def ov : List Int → Int
  | [] => 0
  | b :: t => b + 2 * ov t
theorem ov_range (l : List Int) : (∀ x ∈ l, 0 ≤ x ∧ x ≤ 1) → 0 ≤ ov l ∧ ov l < 2 ^ l.length := by
  induction l with
  | nil => intro _; simp [ov]
  | cons b t ih =>
    intro h
    have hb := h b (by simp)
    have ht := ih (fun x hx => h x (by simp [hx]))
    simp only [ov, List.length_cons, Int.pow_succ]
    omega
theorem two_mod (a p : Int) (hp : 0 < p) : a % 2 + 2 * (a / 2 % p) = a % (2 * p) := by
  have e := Int.mul_ediv_add_emod (a / 2) p
  have r0 := Int.emod_nonneg (a / 2) (show p ≠ 0 by omega)
  have r1 := Int.emod_lt_of_pos (a / 2) hp
  have h1 : a = (a % 2 + 2 * (a / 2 % p)) + 2 * p * (a / 2 / p) := by rw [Int.mul_assoc]; omega
  have h2 : (a % 2 + 2 * (a / 2 % p) + 2 * p * (a / 2 / p)) % (2 * p) = a % 2 + 2 * (a / 2 % p) := by
    rw [Int.add_mul_emod_self_left, Int.emod_eq_of_lt (by omega) (by omega)]
  exact h2.symm.trans (congrArg (· % (2 * p)) h1.symm)
theorem ov_bl (d : Nat) : ∀ a : Int, 0 ≤ a → ov (bl d a) = a % 2 ^ d := by
  induction d with
  | zero => intro a h; simp [bl, ov]
  | succ d ih =>
    intro a h
    simp only [bl, ov]
    rw [ih (a / 2) (by omega), Int.pow_succ, Int.mul_comm (2 ^ d) 2]
    have hp : (0 : Int) < 2 ^ d := Int.pow_pos (by decide)
    exact two_mod a (2 ^ d) hp
theorem ov_append (l m : List Int) : ov (l ++ m) = ov l + 2 ^ l.length * ov m := by
  induction l with
  | nil => simp [ov]
  | cons b t ih =>
    simp only [List.cons_append, ov, ih, List.length_cons, Int.pow_succ]
    rw [Int.mul_add, Int.mul_comm (2 ^ t.length) 2, Int.mul_assoc]
    omega
theorem ov_drop (l : List Int) (i : Nat) (h : i < l.length) : ov (l.drop i) = l.getD i 0 + 2 * ov (l.drop (i + 1)) := by
  rw [List.drop_eq_getElem_cons h]
  simp [ov, h]
/-- A list of bits is the bits of a number, if it is so at each place. -/
theorem eq_bl (d : Nat) : ∀ (l : List Int) (a : Int), l.length = d → (∀ i, i < d → l.getD i 0 = bitAt a i) → l = bl d a := by
  induction d with
  | zero => intro l a hl _; exact List.length_eq_zero_iff.1 hl
  | succ d ih =>
    intro l a hl h
    cases l with
    | nil => simp at hl
    | cons b t =>
      have h0 := h 0 (by omega)
      rw [bitAt_zero] at h0
      simp only [List.getD_cons_zero] at h0
      simp only [bl]
      rw [h0, ih t (a / 2) (by simpa using hl) (fun i hi => by have := h (i + 1) (by omega); rw [bitAt_succ] at this; simpa using this)]
theorem bl_bits (d : Nat) (a : Int) : ∀ x ∈ bl d a, 0 ≤ x ∧ x ≤ 1 := by
  induction d generalizing a with
  | zero => intro x hx; simp [bl] at hx
  | succ d ih =>
    intro x hx
    simp only [bl, List.mem_cons] at hx
    rcases hx with rfl | hx
    · omega
    · exact ih _ x hx

theorem of_loop (l : List Int) (hb : ∀ x ∈ l, 0 ≤ x ∧ x ≤ 1) (hl : l.length ≤ 64) (d : Nat) : ∀ (k : Nat) (n i : Int), d < k → i + 1 = d → d ≤ l.length → n = ov (l.drop d) →
    bodkinref02_of.l0 k l n i = some (ov l) := by
  induction d with
  | zero =>
    intro k n i hk hi hd hn
    obtain ⟨k, rfl⟩ : ∃ q, k = q + 1 := ⟨k - 1, by omega⟩
    simp only [bodkinref02_of.l0]
    rw [if_neg (by omega), hn]
    rfl
  | succ d ih =>
    intro k n i hk hi hd hn
    obtain ⟨k, rfl⟩ : ∃ q, k = q + 1 := ⟨k - 1, by omega⟩
    have e := ov_drop l d (by omega)
    have hr := ov_range (l.drop d) (fun x hx => hb x (List.mem_of_mem_drop hx))
    have hr2 := ov_range (l.drop (d + 1)) (fun x hx => hb x (List.mem_of_mem_drop hx))
    have hp : (2 : Int) ^ (l.drop d).length ≤ 2 ^ 64 := by exact_mod_cast Nat.pow_le_pow_right (n := 2) (by decide) (show (l.drop d).length ≤ 64 by rw [List.length_drop]; omega)
    have hrd : rd l i = l.getD d 0 := by unfold rd; congr 1; omega
    have hbit : 0 ≤ l.getD d 0 ∧ l.getD d 0 ≤ 1 := by
      have := hb (l[d]'(by omega)) (List.getElem_mem _)
      simpa [show d < l.length by omega] using this
    simp only [bodkinref02_of.l0]
    rw [if_pos (by omega), if_pos (by omega), if_pos (by omega), hrd, wr_u (n * 2) (by omega) (by omega), wr_u (n * 2 + l.getD d 0) (by omega) (by omega), wr_i (i - 1) (by omega) (by omega)]
    exact ih k _ (i - 1) (by omega) (by omega) (by omega) (by rw [e, hn]; omega)
theorem rOf (k : Nat) (l : List Int) (hk : 100 ≤ k) (hb : ∀ x ∈ l, 0 ≤ x ∧ x ≤ 1) (hl : l.length ≤ 64) : bodkinref02_of.f k l = some (ov l) := by
  unfold bodkinref02_of.f
  rw [wr_i _ (by omega) (by omega)]
  exact of_loop l hb hl l.length k 0 _ (by omega) (by omega) (by omega) (by simp [ov])

theorem rSigned (k : Nat) (n a : Int) (hk : 100 ≤ k) (h : R n) (h0 : 0 ≤ a) (h1 : a < 18446744073709551616) : bodkinref02_Signed.f k n a = some (sg n (a % pw n)) := by
  unfold bodkinref02_Signed.f
  have cb := cut_bounds n a
  have hp := pw_pos n
  rw [rRight_yes n h, rCut k n a hk h h0 h1]
  simp only [Option.bind_some, if_true]
  have hn : n ≤ 64 ∧ 8 ≤ n := by unfold R at h; omega
  rw [wr_i (n - 1) (by omega) (by omega), rBit k _ (n - 1) hk (by omega) (by omega) cb.1 (by omega)]
  simp only [Option.bind_some]
  have hu : 0 ≤ IntKind.u64.wrap (-(a % pw n)) ∧ IntKind.u64.wrap (-(a % pw n)) < 18446744073709551616 := by rw [IntKind.wrap_u64]; omega
  rw [rCut k n _ hk h hu.1 hu.2]
  simp only [Option.bind_some]
  generalize a % pw n = x at *
  unfold sg bitAt wrap64
  rw [IntKind.wrap_u64, IntKind.wrap_u64]
  rcases h with rfl | rfl | rfl | rfl
  · rw [pw8] at *
    simp only [show (8 - 1 : Int).toNat = 7 from rfl]
    split <;> split <;> (congr 1; omega)
  · rw [pw16] at *
    simp only [show (16 - 1 : Int).toNat = 15 from rfl]
    split <;> split <;> (congr 1; omega)
  · rw [pw32] at *
    simp only [show (32 - 1 : Int).toNat = 31 from rfl]
    split <;> split <;> (congr 1; omega)
  · rw [pw64] at *
    simp only [show (64 - 1 : Int).toNat = 63 from rfl]
    split <;> split <;> (congr 1; omega)
theorem rSigned_no (k : Nat) (n a : Int) (h : ¬ R n) : bodkinref02_Signed.f k n a = some 0 := by
  unfold bodkinref02_Signed.f
  rw [rRight_no n h]
  rfl
end Go.Proofs.YtajmjmnlapplaaaDoor.Pure
