/-
  The plain law of package ints: what its functions come to, over numbers.
  The plain law of the reference for package ints: its cutting, its bits one by one, its lists of bits, its quotients, over numbers.
  The plain law of ints.Bin: what any two come to, as one closed form 'binI', over numbers.
  The plain law of ints.Bin, on: quotients and rests, what is moved, what is held.
  The plain law of ints.Bin, on: what is held within its bounds; all operations together.
  The plain law of the reference for package ints, on: quotients and rests.
  The plain law of the reference for package ints, on: what is held within its bounds.
  The plain law of the reference for package ints, on: what is moved.
  Bits of numbers that are moved.
  The plain law of ints.Un: the size of a number, and its opposite.
-/
import Derived.Test.YtajmjmnlapplaaaDoorA1
import Derived.Laws.BitsAllLaws
import Derived.Laws.BitsLemmas
import Derived.Test.YtajmjmnlapplaaaDoorA2
namespace Go.Proofs.YtajmjmnlapplaaaDoor.Pure
set_option linter.unusedVariables false
set_option linter.unusedSimpArgs false
open Go.RowKit Go.Proofs.YtajmjmnlapplaaaDoor.PInts Go.Proofs.YtajmjmnlapplaaaDoorW.PrintWords Go.Proofs.YtajmjmnlapplaaaDoorW.PrintLast Go.Proofs.YtajmjmnlapplaaaDoorW.PrintMore

def R (n : Int) : Prop := n = 8 ∨ n = 16 ∨ n = 32 ∨ n = 64
def pw (n : Int) : Int := if n = 8 then 256 else if n = 16 then 65536 else if n = 32 then 4294967296 else 18446744073709551616
def sg (n x : Int) : Int := if x < pw n / 2 then x else x - pw n
theorem pw8 : pw 8 = 256 := by decide
theorem pw16 : pw 16 = 65536 := by decide
theorem pw32 : pw 32 = 4294967296 := by decide
theorem pw64 : pw 64 = 18446744073709551616 := by decide

theorem awake_ok : bodkinlaw02_awake.f 20 = some true := by decide +kernel

theorem right_yes (n : Int) (h : R n) : ints_right.f n = some true := by
  rcases h with rfl | rfl | rfl | rfl <;> rfl
theorem right_no (n : Int) (h : ¬ R n) : ints_right.f n = some false := by
  unfold R at h
  unfold ints_right.f
  rw [if_neg (by omega), if_neg (by omega), if_neg (by omega)]
  congr 1
  rw [beq_eq_false_iff_ne]
  omega
theorem mask_ok (n : Int) (h : R n) : ints_mask.f n = some (pw n - 1) := by
  rcases h with rfl | rfl | rfl | rfl <;> decide +kernel
theorem shl_u64 (x : Int) (k : Int) : shl .u64 x k = x * 2 ^ min k.toNat 64 % 18446744073709551616 := by unfold shl; rw [IntKind.wrap_u64]; rfl
theorem shr_any (i : IntKind) (x : Int) (k : Int) : shr i x k = x / 2 ^ min k.toNat i.bits := rfl
theorem signed_ok (n a : Int) (h : R n) (h0 : 0 ≤ a) (h1 : a < 18446744073709551616) : ints_Signed.f n a = some (sg n (a % pw n)) := by
  unfold ints_Signed.f
  rw [right_yes n h]
  simp only [Option.bind_some, if_true]
  rcases h with rfl | rfl | rfl | rfl
  · rw [show IntKind.u64.wrap (64 - IntKind.u64.wrap 8) = 56 from by decide +kernel, if_pos (by decide), shl_u64, shr_any, show min (56 : Int).toNat 64 = 56 from by decide, show min (56 : Int).toNat IntKind.i64.bits = 56 from by decide +kernel]
    unfold wrap64 sg
    rw [pw8]
    congr 1
    split <;> omega
  · rw [show IntKind.u64.wrap (64 - IntKind.u64.wrap 16) = 48 from by decide +kernel, if_pos (by decide), shl_u64, shr_any, show min (48 : Int).toNat 64 = 48 from by decide, show min (48 : Int).toNat IntKind.i64.bits = 48 from by decide +kernel]
    unfold wrap64 sg
    rw [pw16]
    congr 1
    split <;> omega
  · rw [show IntKind.u64.wrap (64 - IntKind.u64.wrap 32) = 32 from by decide +kernel, if_pos (by decide), shl_u64, shr_any, show min (32 : Int).toNat 64 = 32 from by decide, show min (32 : Int).toNat IntKind.i64.bits = 32 from by decide +kernel]
    unfold wrap64 sg
    rw [pw32]
    congr 1
    split <;> omega
  · rw [show IntKind.u64.wrap (64 - IntKind.u64.wrap 64) = 0 from by decide +kernel, if_pos (by decide), shl_u64, shr_any, show min (0 : Int).toNat 64 = 0 from by decide, show min (0 : Int).toNat IntKind.i64.bits = 0 from by decide +kernel]
    unfold wrap64 sg
    rw [pw64]
    congr 1
    split <;> omega
theorem signed_no (n a : Int) (h : ¬ R n) : ints_Signed.f n a = some 0 := by
  unfold ints_Signed.f
  rw [right_no n h]
  rfl
theorem and_mask (n a : Int) (h : R n) (h0 : 0 ≤ a) (h1 : a < 18446744073709551616) : Go.bits .and .u64 a (pw n - 1) = a % pw n := by
  have hk : ∀ m : Int, 0 ≤ m → m < 2 ^ 64 → IntKind.u64.wrap m = m := fun m a b => IntWalk.u64_in m (by omega)
  rcases h with rfl | rfl | rfl | rfl
  · exact bits_mask .u64 64 (by decide) hk 8 (by decide) a h0 (by omega)
  · exact bits_mask .u64 64 (by decide) hk 16 (by decide) a h0 (by omega)
  · exact bits_mask .u64 64 (by decide) hk 32 (by decide) a h0 (by omega)
  · exact bits_mask .u64 64 (by decide) hk 64 (by decide) a h0 (by omega)
theorem pw_pos (n : Int) : 256 ≤ pw n ∧ pw n ≤ 18446744073709551616 := by unfold pw; split <;> (try split) <;> (try split) <;> omega
theorem cut_bounds (n a : Int) : 0 ≤ a % pw n ∧ a % pw n < pw n := by
  have := pw_pos n
  exact ⟨Int.emod_nonneg _ (by omega), Int.emod_lt_of_pos _ (by omega)⟩
theorem cut_cut (n a : Int) : a % pw n % pw n = a % pw n := by
  have := cut_bounds n a
  exact Int.emod_eq_of_lt this.1 this.2
/-- How two stand, by the operation's number. -/
def relI (n op a b : Int) : Bool :=
  if op = 1 then a == b else if op = 2 then a != b else if op = 3 then decide (sg n a < sg n b) else if op = 4 then decide (a < b) else
  if op = 5 then decide (sg n a > sg n b) else if op = 6 then decide (a > b) else if op = 7 then decide (sg n a ≤ sg n b) else if op = 8 then decide (a ≤ b) else
  if op = 9 then decide (sg n a ≥ sg n b) else decide (a ≥ b)
theorem rel_yes (k : Nat) (n op a b : Int) (h : R n) (h1 : 1 ≤ op) (h2 : op ≤ 10) (a0 : 0 ≤ a) (a1 : a < 18446744073709551616) (b0 : 0 ≤ b) (b1 : b < 18446744073709551616) :
    ints_Rel.f (k + 1) n op a b = some (relI n op (a % pw n) (b % pw n), 0) := by
  have hp := pw_pos n
  have ca := cut_bounds n a
  have cb := cut_bounds n b
  unfold ints_Rel.f
  rw [right_yes n h]
  simp only [Option.bind_some, if_true]
  rw [if_neg (by omega), decide_eq_false (show ¬ op > 10 by omega)]
  simp only [ints_Rel.j0]
  rw [mask_ok n h]
  simp only [Option.bind_some, Bool.false_eq_true, if_false]
  rw [and_mask n a h a0 a1, and_mask n b h b0 b1, signed_ok n _ h ca.1 (by omega), signed_ok n _ h cb.1 (by omega), cut_cut, cut_cut]
  simp only [Option.bind_some]
  unfold relI
  split
  · rfl
  split
  · rfl
  split
  · rfl
  split
  · rfl
  split
  · rfl
  split
  · rfl
  split
  · rfl
  split
  · rfl
  split
  · rfl
  rfl
theorem rel_no (k : Nat) (n op a b : Int) (h : ¬ (R n ∧ 1 ≤ op ∧ op ≤ 10)) : ints_Rel.f (k + 1) n op a b = some (false, 1) := by
  unfold ints_Rel.f
  by_cases hR : R n
  · rw [right_yes n hR]
    simp only [Option.bind_some, if_true]
    by_cases h1 : op < 1
    · rw [if_pos h1]; simp [ints_Rel.j0]
    · rw [if_neg h1, decide_eq_true (show op > 10 from Int.not_le.1 fun h2 => h ⟨hR, by omega, h2⟩)]; simp [ints_Rel.j0]
  · rw [right_no n hR]
    simp [ints_Rel.j0]
end Go.Proofs.YtajmjmnlapplaaaDoor.Pure

namespace Go.Proofs.YtajmjmnlapplaaaDoor.Pure
set_option linter.unusedVariables false
set_option linter.unusedSimpArgs false
open Go.RowKit Go.Proofs.YtajmjmnlapplaaaDoor.PInts Go.Proofs.YtajmjmnlapplaaaDoorW.PrintWords Go.Proofs.YtajmjmnlapplaaaDoorW.PrintLast Go.Proofs.YtajmjmnlapplaaaDoorW.PrintMore

theorem wr_u (x : Int) (h0 : 0 ≤ x) (h1 : x < 18446744073709551616) : IntKind.u64.wrap x = x := IntWalk.u64_in x (by omega)
theorem wr_i (x : Int) (h0 : -9223372036854775808 ≤ x) (h1 : x < 9223372036854775808) : wrap64 x = x := by unfold wrap64; omega
theorem half (a : Int) (h0 : 0 ≤ a) (h1 : a < 18446744073709551616) : IntKind.u64.wrap (Int.tdiv a 2) = a / 2 := by
  rw [Int.tdiv_eq_ediv_of_nonneg h0]; exact wr_u _ (by omega) (by omega)

theorem rRight_yes (n : Int) (h : R n) : bodkinref02_Right.f n = some true := by
  rcases h with rfl | rfl | rfl | rfl <;> rfl
theorem rRight_no (n : Int) (h : ¬ R n) : bodkinref02_Right.f n = some false := by
  unfold R at h
  unfold bodkinref02_Right.f
  rw [if_neg (by omega), if_neg (by omega), if_neg (by omega)]
  congr 1
  rw [beq_eq_false_iff_ne]
  omega

/-- A loop that doubles: d rounds before its end. -/
theorem cut_loop (a n : Int) (d : Nat) : ∀ (k : Nat) (m i : Int), d < k → n - i = d → 0 < m → m * 2 ^ d < 18446744073709551616 → 0 ≤ i → n ≤ 64 → 0 ≤ a →
    bodkinref02_Cut.l0 k n a m i = some (a % (m * 2 ^ d)) := by
  induction d with
  | zero =>
    intro k m i hk hd hm hb hi hn ha
    obtain ⟨k, rfl⟩ : ∃ q, k = q + 1 := ⟨k - 1, by omega⟩
    simp only [bodkinref02_Cut.l0]
    rw [if_neg (by omega), if_neg (by omega), Int.tmod_eq_emod_of_nonneg ha]
    simp
  | succ d ih =>
    intro k m i hk hd hm hb hi hn ha
    obtain ⟨k, rfl⟩ : ∃ q, k = q + 1 := ⟨k - 1, by omega⟩
    have e : m * 2 ^ (d + 1) = m * 2 * 2 ^ d := by rw [Int.pow_succ]; rw [Int.mul_assoc, Int.mul_comm (2 ^ d) 2]
    have hp : (1 : Int) ≤ 2 ^ d := by have : (0 : Int) < 2 ^ d := Int.pow_pos (by decide); omega
    have hm2 : m * 2 ≤ m * 2 * 2 ^ d := by
      have := Int.mul_le_mul_of_nonneg_left hp (show (0 : Int) ≤ m * 2 by omega)
      omega
    simp only [bodkinref02_Cut.l0]
    rw [if_pos (by omega), wr_u (m * 2) (by omega) (by rw [e] at hb; omega), wr_i (i + 1) (by omega) (by omega), e]
    exact ih k (m * 2) (i + 1) (by omega) (by omega) (by omega) (by rw [← e]; exact hb) (by omega) hn ha
theorem rCut (k : Nat) (n a : Int) (hk : 100 ≤ k) (h : R n) (h0 : 0 ≤ a) (h1 : a < 18446744073709551616) : bodkinref02_Cut.f k n a = some (a % pw n) := by
  unfold bodkinref02_Cut.f
  rcases h with rfl | rfl | rfl | rfl
  · rw [if_neg (by decide)]; exact cut_loop a 8 8 k 1 0 (by omega) (by decide) (by decide) (by decide) (by decide) (by decide) h0
  · rw [if_neg (by decide)]; exact cut_loop a 16 16 k 1 0 (by omega) (by decide) (by decide) (by decide) (by decide) (by decide) h0
  · rw [if_neg (by decide)]; exact cut_loop a 32 32 k 1 0 (by omega) (by decide) (by decide) (by decide) (by decide) (by decide) h0
  · rw [if_pos rfl, pw64]; congr 1; omega

/-- The i-th bit. -/
def bitAt (a : Int) (i : Nat) : Int := a / 2 ^ i % 2
theorem bitAt_zero (a : Int) : bitAt a 0 = a % 2 := by simp [bitAt]
theorem bitAt_succ (a : Int) (i : Nat) : bitAt a (i + 1) = bitAt (a / 2) i := by
  unfold bitAt
  rw [Int.pow_succ, Int.mul_comm, ← Int.ediv_ediv_of_nonneg (by omega)]
theorem bitAt_range (a : Int) (i : Nat) : 0 ≤ bitAt a i ∧ bitAt a i ≤ 1 := by unfold bitAt; omega
theorem bit_loop (i : Int) (d : Nat) : ∀ (k : Nat) (a j : Int), d < k → i - j = d → 0 ≤ j → i ≤ 64 → 0 ≤ a → a < 18446744073709551616 →
    bodkinref02_bit.l0 k a i j = some (bitAt a d) := by
  induction d with
  | zero =>
    intro k a j hk hd hj hi h0 h1
    obtain ⟨k, rfl⟩ : ∃ q, k = q + 1 := ⟨k - 1, by omega⟩
    simp only [bodkinref02_bit.l0]
    rw [if_neg (by omega), Int.tmod_eq_emod_of_nonneg h0, bitAt_zero]
  | succ d ih =>
    intro k a j hk hd hj hi h0 h1
    obtain ⟨k, rfl⟩ : ∃ q, k = q + 1 := ⟨k - 1, by omega⟩
    simp only [bodkinref02_bit.l0]
    rw [if_pos (by omega), half a h0 h1, wr_i (j + 1) (by omega) (by omega), bitAt_succ]
    exact ih k (a / 2) (j + 1) (by omega) (by omega) (by omega) hi (by omega) (by omega)
theorem rBit (k : Nat) (a : Int) (i : Int) (hk : 100 ≤ k) (hi : 0 ≤ i) (hi2 : i ≤ 64) (h0 : 0 ≤ a) (h1 : a < 18446744073709551616) : bodkinref02_bit.f k a i = some (bitAt a i.toNat) :=
  bit_loop i i.toNat k a 0 (by omega) (by omega) (by omega) hi2 h0 h1

/-- The lowest d bits, the lowest first. -/
def bl : Nat → Int → List Int
  | 0, _ => []
  | d + 1, a => a % 2 :: bl d (a / 2)
theorem bl_length (d : Nat) : ∀ a, (bl d a).length = d := by
  induction d with
  | zero => intro a; rfl
  | succ d ih => intro a; simp [bl, ih]
theorem bl_get (d : Nat) : ∀ (a : Int) (i : Nat), i < d → (bl d a).getD i 0 = bitAt a i := by
  induction d with
  | zero => intro a i h; omega
  | succ d ih =>
    intro a i h
    cases i with
    | zero => simp [bl, bitAt_zero]
    | succ i => rw [bitAt_succ, ← ih (a / 2) i (by omega)]; simp [bl]
theorem list_loop (n : Int) (d : Nat) : ∀ (k : Nat) (a i : Int) (l : List Int), d < k → n - i = d → 0 ≤ i → n ≤ 64 → (l.length : Int) = i → 0 ≤ a → a < 18446744073709551616 →
    bodkinref02_list.l0 k n a l i = some (l ++ bl d a) := by
  induction d with
  | zero =>
    intro k a i l hk hd hi hn hl h0 h1
    obtain ⟨k, rfl⟩ : ∃ q, k = q + 1 := ⟨k - 1, by omega⟩
    simp only [bodkinref02_list.l0]
    rw [if_neg (by omega)]
    simp [bl]
  | succ d ih =>
    intro k a i l hk hd hi hn hl h0 h1
    obtain ⟨k, rfl⟩ : ∃ q, k = q + 1 := ⟨k - 1, by omega⟩
    simp only [bodkinref02_list.l0]
    rw [if_pos (by omega), if_pos (by omega), half a h0 h1, wr_i (i + 1) (by omega) (by omega), Int.tmod_eq_emod_of_nonneg h0,
      ih k (a / 2) (i + 1) _ (by omega) (by omega) (by omega) hn (by simp; omega) (by omega) (by omega)]
    simp [bl]
theorem rList (k : Nat) (n a : Int) (hk : 100 ≤ k) (h0n : 0 ≤ n) (hn : n ≤ 64) (h0 : 0 ≤ a) (h1 : a < 18446744073709551616) : bodkinref02_list.f k n a = some (bl n.toNat a) := by
  unfold bodkinref02_list.f
  rw [list_loop n n.toNat k a 0 [] (by omega) (by omega) (by omega) hn rfl h0 h1]
  rfl

/-- The number of bits, the lowest first. -/
def ov : List Int → Int
  | [] => 0
  | b :: t => b + 2 * ov t
theorem ov_range (l : List Int) : (∀ x ∈ l, 0 ≤ x ∧ x ≤ 1) → 0 ≤ ov l ∧ ov l < 2 ^ l.length := by
  induction l with
  | nil => intro _; simp [ov]
  | cons b t ih =>
    intro h
    have hb := h b (by simp)
    have ht := ih (fun x hx => h x (by simp [hx]))
    simp only [ov, List.length_cons, Int.pow_succ]
    omega
theorem two_mod (a p : Int) (hp : 0 < p) : a % 2 + 2 * (a / 2 % p) = a % (2 * p) := by
  have e := Int.mul_ediv_add_emod (a / 2) p
  have r0 := Int.emod_nonneg (a / 2) (show p ≠ 0 by omega)
  have r1 := Int.emod_lt_of_pos (a / 2) hp
  have h1 : a = (a % 2 + 2 * (a / 2 % p)) + 2 * p * (a / 2 / p) := by rw [Int.mul_assoc]; omega
  have h2 : (a % 2 + 2 * (a / 2 % p) + 2 * p * (a / 2 / p)) % (2 * p) = a % 2 + 2 * (a / 2 % p) := by
    rw [Int.add_mul_emod_self_left, Int.emod_eq_of_lt (by omega) (by omega)]
  exact h2.symm.trans (congrArg (· % (2 * p)) h1.symm)
theorem ov_bl (d : Nat) : ∀ a : Int, 0 ≤ a → ov (bl d a) = a % 2 ^ d := by
  induction d with
  | zero => intro a h; simp [bl, ov]
  | succ d ih =>
    intro a h
    simp only [bl, ov]
    rw [ih (a / 2) (by omega), Int.pow_succ, Int.mul_comm (2 ^ d) 2]
    have hp : (0 : Int) < 2 ^ d := Int.pow_pos (by decide)
    exact two_mod a (2 ^ d) hp
theorem ov_append (l m : List Int) : ov (l ++ m) = ov l + 2 ^ l.length * ov m := by
  induction l with
  | nil => simp [ov]
  | cons b t ih =>
    simp only [List.cons_append, ov, ih, List.length_cons, Int.pow_succ]
    rw [Int.mul_add, Int.mul_comm (2 ^ t.length) 2, Int.mul_assoc]
    omega
theorem ov_drop (l : List Int) (i : Nat) (h : i < l.length) : ov (l.drop i) = l.getD i 0 + 2 * ov (l.drop (i + 1)) := by
  rw [List.drop_eq_getElem_cons h]
  simp [ov, h]
/-- A list of bits is the bits of a number, if it is so at each place. -/
theorem eq_bl (d : Nat) : ∀ (l : List Int) (a : Int), l.length = d → (∀ i, i < d → l.getD i 0 = bitAt a i) → l = bl d a := by
  induction d with
  | zero => intro l a hl _; exact List.length_eq_zero_iff.1 hl
  | succ d ih =>
    intro l a hl h
    cases l with
    | nil => simp at hl
    | cons b t =>
      have h0 := h 0 (by omega)
      rw [bitAt_zero] at h0
      simp only [List.getD_cons_zero] at h0
      simp only [bl]
      rw [h0, ih t (a / 2) (by simpa using hl) (fun i hi => by have := h (i + 1) (by omega); rw [bitAt_succ] at this; simpa using this)]
theorem bl_bits (d : Nat) (a : Int) : ∀ x ∈ bl d a, 0 ≤ x ∧ x ≤ 1 := by
  induction d generalizing a with
  | zero => intro x hx; simp [bl] at hx
  | succ d ih =>
    intro x hx
    simp only [bl, List.mem_cons] at hx
    rcases hx with rfl | hx
    · omega
    · exact ih _ x hx

theorem of_loop (l : List Int) (hb : ∀ x ∈ l, 0 ≤ x ∧ x ≤ 1) (hl : l.length ≤ 64) (d : Nat) : ∀ (k : Nat) (n i : Int), d < k → i + 1 = d → d ≤ l.length → n = ov (l.drop d) →
    bodkinref02_of.l0 k l n i = some (ov l) := by
  induction d with
  | zero =>
    intro k n i hk hi hd hn
    obtain ⟨k, rfl⟩ : ∃ q, k = q + 1 := ⟨k - 1, by omega⟩
    simp only [bodkinref02_of.l0]
    rw [if_neg (by omega), hn]
    rfl
  | succ d ih =>
    intro k n i hk hi hd hn
    obtain ⟨k, rfl⟩ : ∃ q, k = q + 1 := ⟨k - 1, by omega⟩
    have e := ov_drop l d (by omega)
    have hr := ov_range (l.drop d) (fun x hx => hb x (List.mem_of_mem_drop hx))
    have hr2 := ov_range (l.drop (d + 1)) (fun x hx => hb x (List.mem_of_mem_drop hx))
    have hp : (2 : Int) ^ (l.drop d).length ≤ 2 ^ 64 := by exact_mod_cast Nat.pow_le_pow_right (n := 2) (by decide) (show (l.drop d).length ≤ 64 by rw [List.length_drop]; omega)
    have hrd : rd l i = l.getD d 0 := by unfold rd; congr 1; omega
    have hbit : 0 ≤ l.getD d 0 ∧ l.getD d 0 ≤ 1 := by
      have := hb (l[d]'(by omega)) (List.getElem_mem _)
      simpa [show d < l.length by omega] using this
    simp only [bodkinref02_of.l0]
    rw [if_pos (by omega), if_pos (by omega), if_pos (by omega), hrd, wr_u (n * 2) (by omega) (by omega), wr_u (n * 2 + l.getD d 0) (by omega) (by omega), wr_i (i - 1) (by omega) (by omega)]
    exact ih k _ (i - 1) (by omega) (by omega) (by omega) (by rw [e, hn]; omega)
theorem rOf (k : Nat) (l : List Int) (hk : 100 ≤ k) (hb : ∀ x ∈ l, 0 ≤ x ∧ x ≤ 1) (hl : l.length ≤ 64) : bodkinref02_of.f k l = some (ov l) := by
  unfold bodkinref02_of.f
  rw [wr_i _ (by omega) (by omega)]
  exact of_loop l hb hl l.length k 0 _ (by omega) (by omega) (by omega) (by simp [ov])

theorem rSigned (k : Nat) (n a : Int) (hk : 100 ≤ k) (h : R n) (h0 : 0 ≤ a) (h1 : a < 18446744073709551616) : bodkinref02_Signed.f k n a = some (sg n (a % pw n)) := by
  unfold bodkinref02_Signed.f
  have cb := cut_bounds n a
  have hp := pw_pos n
  rw [rRight_yes n h, rCut k n a hk h h0 h1]
  simp only [Option.bind_some, if_true]
  have hn : n ≤ 64 ∧ 8 ≤ n := by unfold R at h; omega
  rw [wr_i (n - 1) (by omega) (by omega), rBit k _ (n - 1) hk (by omega) (by omega) cb.1 (by omega)]
  simp only [Option.bind_some]
  have hu : 0 ≤ IntKind.u64.wrap (-(a % pw n)) ∧ IntKind.u64.wrap (-(a % pw n)) < 18446744073709551616 := by rw [IntKind.wrap_u64]; omega
  rw [rCut k n _ hk h hu.1 hu.2]
  simp only [Option.bind_some]
  generalize a % pw n = x at *
  unfold sg bitAt wrap64
  rw [IntKind.wrap_u64, IntKind.wrap_u64]
  rcases h with rfl | rfl | rfl | rfl
  · rw [pw8] at *
    simp only [show (8 - 1 : Int).toNat = 7 from rfl]
    split <;> split <;> (congr 1; omega)
  · rw [pw16] at *
    simp only [show (16 - 1 : Int).toNat = 15 from rfl]
    split <;> split <;> (congr 1; omega)
  · rw [pw32] at *
    simp only [show (32 - 1 : Int).toNat = 31 from rfl]
    split <;> split <;> (congr 1; omega)
  · rw [pw64] at *
    simp only [show (64 - 1 : Int).toNat = 63 from rfl]
    split <;> split <;> (congr 1; omega)
theorem rSigned_no (k : Nat) (n a : Int) (h : ¬ R n) : bodkinref02_Signed.f k n a = some 0 := by
  unfold bodkinref02_Signed.f
  rw [rRight_no n h]
  rfl
end Go.Proofs.YtajmjmnlapplaaaDoor.Pure

namespace Go.Proofs.YtajmjmnlapplaaaDoor.Pure
set_option linter.unusedVariables false
set_option linter.unusedSimpArgs false
open Go.RowKit Go.Proofs.YtajmjmnlapplaaaDoor.PInts Go.Proofs.YtajmjmnlapplaaaDoorW.PrintWords Go.Proofs.YtajmjmnlapplaaaDoorW.PrintLast Go.Proofs.YtajmjmnlapplaaaDoorW.PrintMore

def clampI (n x : Int) : Int := if x > pw n / 2 - 1 then pw n / 2 - 1 else if x < - (pw n / 2) then - (pw n / 2) else x
def rotI (n A : Int) (k : Int) : Int := A * 2 ^ k.toNat % pw n + A / 2 ^ (n - k).toNat
/-- What two come to: A and B are cut to n bits. -/
def binI (n op A B : Int) : Int × Int :=
  if op = 1 then ((A + B) % pw n, 0) else
  if op = 2 then ((A - B) % pw n, 0) else
  if op = 3 then (A * B % pw n, 0) else
  if op = 4 then (if B = 0 then (0, 41) else if sg n B = -1 ∧ A = pw n / 2 then (0, 42) else (Int.tdiv (sg n A) (sg n B) % pw n, 0)) else
  if op = 5 then (if B = 0 then (0, 41) else (A / B, 0)) else
  if op = 6 then (if B = 0 then (0, 41) else (Int.tmod (sg n A) (sg n B) % pw n, 0)) else
  if op = 7 then (if B = 0 then (0, 41) else (A % B, 0)) else
  if op = 8 then (((A.toNat &&& B.toNat : Nat) : Int), 0) else
  if op = 9 then (((A.toNat ||| B.toNat : Nat) : Int), 0) else
  if op = 10 then (((A.toNat ^^^ B.toNat : Nat) : Int), 0) else
  if op = 11 then (A * 2 ^ (B % n).toNat % pw n, 0) else
  if op = 12 then (sg n A / 2 ^ (B % n).toNat % pw n, 0) else
  if op = 13 then (A / 2 ^ (B % n).toNat, 0) else
  if op = 14 then (rotI n A (B % n), 0) else
  if op = 15 then (rotI n A ((n - B % n) % n), 0) else
  if op = 16 then (clampI n (sg n A + sg n B) % pw n, 0) else
  if op = 17 then (if A + B > pw n - 1 then pw n - 1 else A + B, 0) else
  if op = 18 then (clampI n (sg n A - sg n B) % pw n, 0) else
  if op = 19 then (if A < B then 0 else A - B, 0) else
  if op = 20 then (if sg n A < sg n B then A else B, 0) else
  if op = 21 then (if A < B then A else B, 0) else
  if op = 22 then (if sg n A < sg n B then B else A, 0) else
  if op = 23 then (if A < B then B else A, 0) else
  if op = 24 then ((A + B + 1) / 2, 0) else
  (if (sg n A * sg n B + 16384) / 32768 > 32767 then 32767 else (sg n A * sg n B + 16384) / 32768 % 65536, 0)

def Ok (n op : Int) : Prop := R n ∧ 1 ≤ op ∧ op ≤ 25 ∧ (op = 25 → n = 16)

theorem bin_no (k : Nat) (n op a b : Int) (h : ¬ Ok n op) : ints_Bin.f (k + 1) n op a b = some (0, 1) := by
  unfold ints_Bin.f
  by_cases hR : R n
  · rw [right_yes n hR]
    simp only [Option.bind_some, if_true]
    by_cases h1 : op < 1
    · rw [if_pos h1]; simp [ints_Bin.j0]
    rw [if_neg h1]
    by_cases h2 : op > 25
    · rw [if_pos h2]; simp [ints_Bin.j0]
    rw [if_neg h2]
    have h3 : op = 25 ∧ n ≠ 16 := by
      refine Classical.byContradiction fun h3 => h ⟨hR, by omega, by omega, fun h4 => Classical.byContradiction fun h5 => h3 ⟨h4, h5⟩⟩
    rw [if_pos h3.1]
    have : (n != 16) = true := by simp [h3.2]
    rw [this]; simp [ints_Bin.j0]
  · rw [right_no n hR]
    simp [ints_Bin.j0]

theorem bin_enter (k : Nat) (n op a b : Int) (h : Ok n op) (a0 : 0 ≤ a) (a1 : a < 18446744073709551616) (b0 : 0 ≤ b) (b1 : b < 18446744073709551616) :
    ints_Bin.f (k + 1) n op a b = ints_Bin.j1 k n op (a % pw n) (b % pw n) (pw n - 1) 0 (decide (4 ≤ op ∧ op ≤ 7)) := by
  obtain ⟨hR, h1, h2, h3⟩ := h
  unfold ints_Bin.f
  rw [right_yes n hR]
  simp only [Option.bind_some, if_true]
  rw [if_neg (by omega), if_neg (by omega)]
  have e : (if op = 25 then ints_Bin.j0 (k + 1) n op a b (n != 16) else ints_Bin.j0 (k + 1) n op a b false) = ints_Bin.j0 (k + 1) n op a b false := by
    split
    · rename_i h4; rw [h3 h4]; rfl
    · rfl
  rw [e]
  simp only [ints_Bin.j0, Bool.false_eq_true, if_false]
  rw [mask_ok n hR]
  simp only [Option.bind_some]
  rw [and_mask n a hR a0 a1, and_mask n b hR b0 b1]
  split
  · congr 1
    rw [Bool.eq_iff_iff]; simp; omega
  · congr 1
    rw [Bool.eq_iff_iff]; simp; omega

theorem bin_plain (k : Nat) (n op a b : Int) (h : Ok n op) (hop : op < 4 ∨ 8 ≤ op ∧ op ≤ 10) (a0 : 0 ≤ a) (a1 : a < 18446744073709551616) (b0 : 0 ≤ b) (b1 : b < 18446744073709551616) :
    ints_Bin.f (k + 3) n op a b = (ints_plain.f op (a % pw n) (b % pw n)).bind fun t => some (Go.bits .and .u64 t (pw n - 1), 0) := by
  rw [bin_enter (k + 2) n op a b h a0 a1 b0 b1, decide_eq_false (by omega)]
  simp only [ints_Bin.j1, Bool.false_eq_true, if_false]
  have e : (if op ≥ 11 then ints_Bin.j2 (k + 1) n op (a % pw n) (b % pw n) (pw n - 1) 0 (decide (op ≤ 15)) else ints_Bin.j2 (k + 1) n op (a % pw n) (b % pw n) (pw n - 1) 0 false) = ints_Bin.j2 (k + 1) n op (a % pw n) (b % pw n) (pw n - 1) 0 false := by
    rw [if_neg (by omega)]
  rw [e]
  simp only [ints_Bin.j2, Bool.false_eq_true, if_false]
  rw [if_neg (by omega)]
theorem bin_div (k : Nat) (n op a b : Int) (h : Ok n op) (hop : 4 ≤ op ∧ op ≤ 7) (a0 : 0 ≤ a) (a1 : a < 18446744073709551616) (b0 : 0 ≤ b) (b1 : b < 18446744073709551616) :
    ints_Bin.f (k + 3) n op a b = (ints_divided.f (k + 1) n op (a % pw n) (b % pw n)).bind fun t => some (Go.bits .and .u64 t.1 (pw n - 1), t.2) := by
  rw [bin_enter (k + 2) n op a b h a0 a1 b0 b1, decide_eq_true (by omega)]
  simp only [ints_Bin.j1, if_true]
theorem bin_mov (k : Nat) (n op a b : Int) (h : Ok n op) (hop : 11 ≤ op ∧ op ≤ 15) (a0 : 0 ≤ a) (a1 : a < 18446744073709551616) (b0 : 0 ≤ b) (b1 : b < 18446744073709551616) :
    ints_Bin.f (k + 3) n op a b = (ints_moved.f n op (a % pw n) (b % pw n % n)).bind fun t => some (Go.bits .and .u64 t (pw n - 1), 0) := by
  have hn : 8 ≤ n ∧ n ≤ 64 := by have := h.1; unfold R at this; omega
  rw [bin_enter (k + 2) n op a b h a0 a1 b0 b1, decide_eq_false (by omega)]
  simp only [ints_Bin.j1, Bool.false_eq_true, if_false]
  rw [if_pos (by omega), decide_eq_true (by omega)]
  simp only [ints_Bin.j2, if_true]
  rw [wr_u n (by omega) (by omega), if_neg (by omega), Int.tmod_eq_emod_of_nonneg (cut_bounds n b).1]
theorem bin_held (k : Nat) (n op a b : Int) (h : Ok n op) (hop : 16 ≤ op) (a0 : 0 ≤ a) (a1 : a < 18446744073709551616) (b0 : 0 ≤ b) (b1 : b < 18446744073709551616) :
    ints_Bin.f (k + 3) n op a b = (ints_held.f k n op (a % pw n) (b % pw n)).bind fun t => some (Go.bits .and .u64 t (pw n - 1), 0) := by
  rw [bin_enter (k + 2) n op a b h a0 a1 b0 b1, decide_eq_false (by omega)]
  simp only [ints_Bin.j1, Bool.false_eq_true, if_false]
  rw [if_pos (by omega), decide_eq_false (by omega)]
  simp only [ints_Bin.j2, Bool.false_eq_true, if_false]
  rw [if_pos (by omega)]

theorem pw_dvd (n : Int) (h : R n) : pw n ∣ 18446744073709551616 := by
  rcases h with rfl | rfl | rfl | rfl
  · exact ⟨72057594037927936, by decide⟩
  · exact ⟨281474976710656, by decide⟩
  · exact ⟨4294967296, by decide⟩
  · exact ⟨1, by decide⟩
theorem big_cut (n x : Int) (h : R n) : x % 18446744073709551616 % pw n = x % pw n := Int.emod_emod_of_dvd x (pw_dvd n h)
theorem wrap_cut (n x : Int) (h : R n) : Go.bits .and .u64 (IntKind.u64.wrap x) (pw n - 1) = x % pw n := by
  have hb : 0 ≤ IntKind.u64.wrap x ∧ IntKind.u64.wrap x < 18446744073709551616 := by rw [IntKind.wrap_u64]; omega
  rw [and_mask n _ h hb.1 hb.2, IntKind.wrap_u64, big_cut n x h]

theorem pw_two (n : Int) (h : R n) : ∃ d : Nat, d ≤ 64 ∧ pw n = ((2 ^ d : Nat) : Int) := by
  rcases h with rfl | rfl | rfl | rfl
  · exact ⟨8, by omega, by decide⟩
  · exact ⟨16, by omega, by decide⟩
  · exact ⟨32, by omega, by decide⟩
  · exact ⟨64, by omega, by decide⟩
theorem bits_cut (n : Int) (h : R n) (x : Nat) (hx : (x : Int) < pw n) : Go.bits .and .u64 (x : Int) (pw n - 1) = x := by
  have hp := pw_pos n
  rw [and_mask n _ h (by omega) (by omega)]
  exact Int.emod_eq_of_lt (by omega) hx
section
variable (k : Nat) (n a b : Int) (h : R n) (a0 : 0 ≤ a) (a1 : a < 18446744073709551616) (b0 : 0 ≤ b) (b1 : b < 18446744073709551616)
include h a0 a1 b0 b1
theorem op1 : ints_Bin.f (k + 3) n 1 a b = some (binI n 1 (a % pw n) (b % pw n)) := by
  rw [bin_plain k n 1 a b ⟨h, by omega, by omega, by omega⟩ (by omega) a0 a1 b0 b1]
  show some (Go.bits .and .u64 (IntKind.u64.wrap _) _, (0 : Int)) = _
  rw [wrap_cut n _ h]; rfl
theorem op2 : ints_Bin.f (k + 3) n 2 a b = some (binI n 2 (a % pw n) (b % pw n)) := by
  rw [bin_plain k n 2 a b ⟨h, by omega, by omega, by omega⟩ (by omega) a0 a1 b0 b1]
  show some (Go.bits .and .u64 (IntKind.u64.wrap (_ + IntKind.u64.wrap _)) _, (0 : Int)) = _
  rw [wrap_cut n _ h, IntKind.wrap_u64, ← big_cut n _ h, Int.add_emod_emod, big_cut n _ h]; rfl
theorem op3 : ints_Bin.f (k + 3) n 3 a b = some (binI n 3 (a % pw n) (b % pw n)) := by
  rw [bin_plain k n 3 a b ⟨h, by omega, by omega, by omega⟩ (by omega) a0 a1 b0 b1]
  show some (Go.bits .and .u64 (IntKind.u64.wrap _) _, (0 : Int)) = _
  rw [wrap_cut n _ h]; rfl
theorem op8 : ints_Bin.f (k + 3) n 8 a b = some (binI n 8 (a % pw n) (b % pw n)) := by
  rw [bin_plain k n 8 a b ⟨h, by omega, by omega, by omega⟩ (by omega) a0 a1 b0 b1]
  show some (Go.bits .and .u64 (Go.bits .and .u64 _ _) _, (0 : Int)) = _
  have ca := cut_bounds n a; have cb := cut_bounds n b; have hp := pw_pos n
  rw [u64_and _ _ ca.1 (by omega) cb.1 (by omega)]
  obtain ⟨d, hd, e⟩ := pw_two n h
  rw [bits_cut n h _ (by
    have := Nat.and_lt_two_pow (a % pw n).toNat (show (b % pw n).toNat < 2 ^ d by omega)
    omega)]
  rfl
theorem op9 : ints_Bin.f (k + 3) n 9 a b = some (binI n 9 (a % pw n) (b % pw n)) := by
  rw [bin_plain k n 9 a b ⟨h, by omega, by omega, by omega⟩ (by omega) a0 a1 b0 b1]
  show some (Go.bits .and .u64 (Go.bits .or .u64 _ _) _, (0 : Int)) = _
  have ca := cut_bounds n a; have cb := cut_bounds n b; have hp := pw_pos n
  rw [u64_or _ _ ca.1 (by omega) cb.1 (by omega)]
  obtain ⟨d, hd, e⟩ := pw_two n h
  rw [bits_cut n h _ (by
    have := Nat.or_lt_two_pow (show (a % pw n).toNat < 2 ^ d by omega) (show (b % pw n).toNat < 2 ^ d by omega)
    omega)]
  rfl
theorem op10 : ints_Bin.f (k + 3) n 10 a b = some (binI n 10 (a % pw n) (b % pw n)) := by
  rw [bin_plain k n 10 a b ⟨h, by omega, by omega, by omega⟩ (by omega) a0 a1 b0 b1]
  show some (Go.bits .and .u64 (Go.bits .xor .u64 _ _) _, (0 : Int)) = _
  have ca := cut_bounds n a; have cb := cut_bounds n b; have hp := pw_pos n
  rw [u64_xor _ _ ca.1 (by omega) cb.1 (by omega)]
  obtain ⟨d, hd, e⟩ := pw_two n h
  rw [bits_cut n h _ (by
    have := Nat.xor_lt_two_pow (show (a % pw n).toNat < 2 ^ d by omega) (show (b % pw n).toNat < 2 ^ d by omega)
    omega)]
  rfl
end
end Go.Proofs.YtajmjmnlapplaaaDoor.Pure

namespace Go.Proofs.YtajmjmnlapplaaaDoor.Pure
set_option linter.unusedVariables false
set_option linter.unusedSimpArgs false
open Go.RowKit Go.Proofs.YtajmjmnlapplaaaDoor.PInts Go.Proofs.YtajmjmnlapplaaaDoorW.PrintWords Go.Proofs.YtajmjmnlapplaaaDoorW.PrintLast Go.Proofs.YtajmjmnlapplaaaDoorW.PrintMore

theorem pw_pow (n : Int) (h : R n) : pw n = 2 ^ n.toNat := by
  rcases h with rfl | rfl | rfl | rfl <;> decide
theorem pw_even (n : Int) (h : R n) : pw n = 2 * (pw n / 2) ∧ 128 ≤ pw n / 2 ∧ pw n / 2 ≤ 9223372036854775808 := by
  rcases h with rfl | rfl | rfl | rfl <;> decide
theorem sg_range (n x : Int) (h : R n) (h0 : 0 ≤ x) (h1 : x < pw n) : - (pw n / 2) ≤ sg n x ∧ sg n x ≤ pw n / 2 - 1 ∧ sg n x % pw n = x := by
  have e := pw_even n h
  unfold sg
  split
  · exact ⟨by omega, by omega, Int.emod_eq_of_lt h0 h1⟩
  · refine ⟨by omega, by omega, ?_⟩
    rw [Int.sub_emod_right]
    exact Int.emod_eq_of_lt h0 h1
theorem wrap_cut2 (n x : Int) (h : R n) : IntKind.u64.wrap x % pw n = x % pw n := by rw [IntKind.wrap_u64, big_cut n x h]
theorem i64_cut (n x : Int) (h : R n) : wrap64 x % pw n = x % pw n := by
  unfold wrap64
  rw [Int.sub_emod, big_cut n _ h, ← Int.sub_emod]
  congr 1
  omega
theorem cut_and (n x : Int) (h : R n) (h0 : 0 ≤ x) (h1 : x < pw n) : Go.bits .and .u64 x (pw n - 1) = x := by
  have hp := pw_pos n
  rw [and_mask n x h h0 (by omega)]
  exact Int.emod_eq_of_lt h0 h1
theorem sg_zero (n x : Int) (h : R n) (h0 : 0 ≤ x) (h1 : x < pw n) : sg n x = 0 ↔ x = 0 := by
  have e := pw_even n h
  unfold sg
  constructor
  · split <;> omega
  · intro hx; subst hx; rw [if_pos (by omega)]
theorem tdiv_range (x y m : Int) (hx : - m ≤ x ∧ x ≤ m) : - m ≤ Int.tdiv x y ∧ Int.tdiv x y ≤ m := by
  have h1 : (Int.tdiv x y).natAbs ≤ x.natAbs := by rw [Int.natAbs_tdiv]; exact Nat.div_le_self _ _
  omega
theorem tmod_range (x y m : Int) (hx : - m ≤ x ∧ x ≤ m) : - m ≤ Int.tmod x y ∧ Int.tmod x y ≤ m := by
  have h1 : (Int.tmod x y).natAbs ≤ x.natAbs := by rw [Int.natAbs_tmod]; exact Nat.mod_le _ _
  omega
section
variable (k : Nat) (n a b : Int) (h : R n) (a0 : 0 ≤ a) (a1 : a < 18446744073709551616) (b0 : 0 ≤ b) (b1 : b < 18446744073709551616)
include h a0 a1 b0 b1
omit a0 a1 b0 b1 in
theorem div_enter (op : Int) : ints_divided.f (k + 1) n op (a % pw n) (b % pw n) = (if b % pw n = 0 then (some (0, 41)) else (if op = 5 then (some (IntKind.u64.wrap (Int.tdiv (a % pw n) (b % pw n)), 0)) else (if op = 7 then (some (Int.tmod (a % pw n) (b % pw n), 0)) else (if op = 6 then (ints_divided.j0 (k + 1) n op (a % pw n) (sg n (a % pw n)) (sg n (b % pw n)) (sg n (b % pw n) == (-1))) else (ints_divided.j0 (k + 1) n op (a % pw n) (sg n (a % pw n)) (sg n (b % pw n)) false))))) := by
  have ca := cut_bounds n a; have cb := cut_bounds n b; have hp := pw_pos n
  unfold ints_divided.f
  rw [signed_ok n _ h ca.1 (by omega), signed_ok n _ h cb.1 (by omega), cut_cut, cut_cut]
  simp only [Option.bind_some]
theorem op5 : ints_Bin.f (k + 3) n 5 a b = some (binI n 5 (a % pw n) (b % pw n)) := by
  have ca := cut_bounds n a; have cb := cut_bounds n b; have hp := pw_pos n
  rw [bin_div k n 5 a b ⟨h, by omega, by omega, by omega⟩ (by omega) a0 a1 b0 b1, div_enter k n a b h]
  show _ = some (if b % pw n = 0 then (0, 41) else (a % pw n / (b % pw n), 0))
  by_cases hb : b % pw n = 0
  · rw [if_pos hb, if_pos hb]
    show some (Go.bits .and .u64 0 _, (41 : Int)) = _
    rw [cut_and n 0 h (by omega) (by omega)]
  · rw [if_neg hb, if_neg hb, if_pos rfl, Int.tdiv_eq_ediv_of_nonneg ca.1]
    have hd := Int.ediv_nonneg ca.1 cb.1
    have hd2 := Int.ediv_le_self (b % pw n) ca.1
    rw [wr_u _ hd (by omega)]
    show some (Go.bits .and .u64 _ _, (0 : Int)) = _
    rw [cut_and n _ h hd (by omega)]
theorem op7 : ints_Bin.f (k + 3) n 7 a b = some (binI n 7 (a % pw n) (b % pw n)) := by
  have ca := cut_bounds n a; have cb := cut_bounds n b; have hp := pw_pos n
  rw [bin_div k n 7 a b ⟨h, by omega, by omega, by omega⟩ (by omega) a0 a1 b0 b1, div_enter k n a b h]
  show _ = some (if b % pw n = 0 then (0, 41) else (a % pw n % (b % pw n), 0))
  by_cases hb : b % pw n = 0
  · rw [if_pos hb, if_pos hb]
    show some (Go.bits .and .u64 0 _, (41 : Int)) = _
    rw [cut_and n 0 h (by omega) (by omega)]
  · rw [if_neg hb, if_neg hb, if_neg (by decide), if_pos rfl, Int.tmod_eq_emod_of_nonneg ca.1]
    have hd := Int.emod_nonneg (a % pw n) hb
    have hd2 := Int.emod_lt_of_pos (a % pw n) (show 0 < b % pw n by omega)
    show some (Go.bits .and .u64 _ _, (0 : Int)) = _
    rw [cut_and n _ h hd (by omega)]
theorem op6 : ints_Bin.f (k + 3) n 6 a b = some (binI n 6 (a % pw n) (b % pw n)) := by
  have ca := cut_bounds n a; have cb := cut_bounds n b; have hp := pw_pos n
  have sa := sg_range n _ h ca.1 ca.2; have sb := sg_range n _ h cb.1 cb.2; have pe := pw_even n h
  have hz := sg_zero n _ h cb.1 cb.2
  rw [bin_div k n 6 a b ⟨h, by omega, by omega, by omega⟩ (by omega) a0 a1 b0 b1, div_enter k n a b h]
  show _ = some (if b % pw n = 0 then (0, 41) else (Int.tmod (sg n (a % pw n)) (sg n (b % pw n)) % pw n, 0))
  by_cases hb : b % pw n = 0
  · rw [if_pos hb, if_pos hb]
    show some (Go.bits .and .u64 0 _, (41 : Int)) = _
    rw [cut_and n 0 h (by omega) (by omega)]
  · rw [if_neg hb, if_neg hb, if_neg (by decide), if_neg (by decide), if_pos rfl]
    simp only [ints_divided.j0]
    by_cases hm : sg n (b % pw n) = -1
    · rw [hm]
      simp only [BEq.rfl, if_true]
      rw [Int.tmod_neg, Int.tmod_one]
      show some (Go.bits .and .u64 0 _, (0 : Int)) = _
      rw [cut_and n 0 h (by omega) (by omega)]
      rfl
    · rw [show (sg n (b % pw n) == -1) = false from by simp [hm]]
      simp only [Bool.false_eq_true, if_false, if_true]
      rw [if_neg (fun e => hb (hz.1 e))]
      show some (Go.bits .and .u64 (IntKind.u64.wrap _) _, (0 : Int)) = _
      rw [wrap_cut n _ h]
theorem op4 : ints_Bin.f (k + 3) n 4 a b = some (binI n 4 (a % pw n) (b % pw n)) := by
  have ca := cut_bounds n a; have cb := cut_bounds n b; have hp := pw_pos n
  have sa := sg_range n _ h ca.1 ca.2; have sb := sg_range n _ h cb.1 cb.2; have pe := pw_even n h
  have hz := sg_zero n _ h cb.1 cb.2
  have hn : 8 ≤ n ∧ n ≤ 64 := by unfold R at h; omega
  rw [bin_div k n 4 a b ⟨h, by omega, by omega, by omega⟩ (by omega) a0 a1 b0 b1, div_enter k n a b h]
  show _ = some (if b % pw n = 0 then (0, 41) else if sg n (b % pw n) = -1 ∧ a % pw n = pw n / 2 then (0, 42) else (Int.tdiv (sg n (a % pw n)) (sg n (b % pw n)) % pw n, 0))
  by_cases hb : b % pw n = 0
  · rw [if_pos hb, if_pos hb]
    show some (Go.bits .and .u64 0 _, (41 : Int)) = _
    rw [cut_and n 0 h (by omega) (by omega)]
  · rw [if_neg hb, if_neg hb, if_neg (by decide), if_neg (by decide), if_neg (by decide)]
    have hs : shl .u64 1 (n - 1) = pw n / 2 := by
      rcases h with rfl | rfl | rfl | rfl <;> decide +kernel
    have last : (if sg n (b % pw n) = 0 then (none : Option (Int × Int)) else (some (IntKind.u64.wrap (wrap64 (Int.tdiv (sg n (a % pw n)) (sg n (b % pw n)))), 0))).bind (fun t => some (Go.bits .and .u64 t.1 (pw n - 1), t.2)) = some (Int.tdiv (sg n (a % pw n)) (sg n (b % pw n)) % pw n, 0) := by
      rw [if_neg (fun e => hb (hz.1 e))]
      show some (Go.bits .and .u64 (IntKind.u64.wrap _) _, (0 : Int)) = _
      rw [wrap_cut n _ h, i64_cut n _ h]
    simp only [ints_divided.j0, Bool.false_eq_true, if_false]
    rw [if_neg (by decide), wr_i (n - 1) (by omega) (by omega), hs]
    by_cases hm : sg n (b % pw n) = -1
    · rw [if_pos hm, if_pos (by omega)]
      by_cases hmin : a % pw n = pw n / 2
      · rw [if_pos hmin, if_pos ⟨hm, hmin⟩]
        show some (Go.bits .and .u64 0 _, (42 : Int)) = _
        rw [cut_and n 0 h (by omega) (by omega)]
      · rw [if_neg hmin]
        refine last.trans ?_
        rw [if_neg (fun e => hmin e.2)]
    · rw [if_neg hm]
      refine last.trans ?_
      rw [if_neg (fun e => hm e.1)]

omit a0 a1 b0 b1 in
theorem mov_bounds : 8 ≤ n ∧ n ≤ 64 ∧ 0 ≤ b % pw n % n ∧ b % pw n % n < n := by
  have hn : 8 ≤ n ∧ n ≤ 64 := by unfold R at h; omega
  exact ⟨hn.1, hn.2, Int.emod_nonneg _ (by omega), Int.emod_lt_of_pos _ (by omega)⟩
theorem op11 : ints_Bin.f (k + 3) n 11 a b = some (binI n 11 (a % pw n) (b % pw n)) := by
  have ca := cut_bounds n a; have cb := cut_bounds n b; have hp := pw_pos n
  have hm := mov_bounds n b h
  rw [bin_mov k n 11 a b ⟨h, by omega, by omega, by omega⟩ (by omega) a0 a1 b0 b1]
  show _ = some (a % pw n * 2 ^ (b % pw n % n).toNat % pw n, 0)
  unfold ints_moved.f
  rw [if_neg (by decide), if_neg (by decide), if_neg (by decide), if_neg (by decide), if_pos hm.2.2.1, shl_u64, show min (b % pw n % n).toNat 64 = (b % pw n % n).toNat from by omega]
  show some (Go.bits .and .u64 _ _, (0 : Int)) = _
  rw [and_mask n _ h (by omega) (by omega), big_cut n _ h]
theorem op12 : ints_Bin.f (k + 3) n 12 a b = some (binI n 12 (a % pw n) (b % pw n)) := by
  have ca := cut_bounds n a; have cb := cut_bounds n b; have hp := pw_pos n
  have hm := mov_bounds n b h
  rw [bin_mov k n 12 a b ⟨h, by omega, by omega, by omega⟩ (by omega) a0 a1 b0 b1]
  show _ = some (sg n (a % pw n) / 2 ^ (b % pw n % n).toNat % pw n, 0)
  unfold ints_moved.f
  rw [if_pos rfl, signed_ok n _ h ca.1 (by omega), cut_cut]
  simp only [Option.bind_some]
  rw [if_pos hm.2.2.1, shr_any, show min (b % pw n % n).toNat IntKind.i64.bits = (b % pw n % n).toNat from by show min _ 64 = _; omega]
  show some (Go.bits .and .u64 (IntKind.u64.wrap _) _, (0 : Int)) = _
  rw [wrap_cut n _ h]
theorem op13 : ints_Bin.f (k + 3) n 13 a b = some (binI n 13 (a % pw n) (b % pw n)) := by
  have ca := cut_bounds n a; have cb := cut_bounds n b; have hp := pw_pos n
  have hm := mov_bounds n b h
  rw [bin_mov k n 13 a b ⟨h, by omega, by omega, by omega⟩ (by omega) a0 a1 b0 b1]
  show _ = some (a % pw n / 2 ^ (b % pw n % n).toNat, 0)
  unfold ints_moved.f
  rw [if_neg (by decide), if_pos rfl, if_pos hm.2.2.1, shr_any, show min (b % pw n % n).toNat IntKind.u64.bits = (b % pw n % n).toNat from by show min _ 64 = _; omega]
  show some (Go.bits .and .u64 _ _, (0 : Int)) = _
  have hd := Int.ediv_nonneg (b := 2 ^ (b % pw n % n).toNat) ca.1 (Int.le_of_lt (Int.pow_pos (by decide)))
  have hd2 := Int.ediv_le_self (2 ^ (b % pw n % n).toNat) ca.1
  rw [cut_and n _ h hd (by omega)]
omit a0 a1 b0 b1 in
/-- What is moved round, as the code has it. -/
theorem rot_code (A c : Int) (hA0 : 0 ≤ A) (hA : A < pw n) (hc0 : 0 ≤ c) (hc : c < n) :
    Go.bits .and .u64 (Go.bits .or .u64 (shl .u64 A c) (shr .u64 A (n - c))) (pw n - 1) = rotI n A c := by
  have hn : 8 ≤ n ∧ n ≤ 64 := by unfold R at h; omega
  have hp := pw_pos n
  have e : (2 : Int) ^ c.toNat * 2 ^ (n - c).toNat = pw n := by
    rw [← Int.pow_add, show c.toNat + (n - c).toNat = n.toNat from by omega]
    exact (pw_pow n h).symm
  have e64 : (2 : Int) ^ c.toNat * 2 ^ (64 - c).toNat = 18446744073709551616 := by
    rw [← Int.pow_add, show c.toNat + (64 - c).toNat = 64 from by omega]
    decide
  have hp2 : (0 : Int) < 2 ^ c.toNat := Int.pow_pos (by decide)
  have hq : (0 : Int) < 2 ^ (n - c).toNat := Int.pow_pos (by decide)
  rw [shl_u64, shr_any, show min c.toNat 64 = c.toNat from by omega, show min (n - c).toNat IntKind.u64.bits = (n - c).toNat from by show min _ 64 = _; omega]
  unfold rotI
  have y0 : 0 ≤ A / 2 ^ (n - c).toNat := Int.ediv_nonneg hA0 (by omega)
  have y1 : A / 2 ^ (n - c).toNat < 2 ^ c.toNat := Int.ediv_lt_of_lt_mul hq (by rw [e]; exact hA)
  have x0 : A * 2 ^ c.toNat % 18446744073709551616 % 2 ^ c.toNat = 0 := by
    rw [Int.emod_emod_of_dvd _ ⟨_, e64.symm⟩]; exact Int.mul_emod_left _ _
  have z0 : A * 2 ^ c.toNat % pw n % 2 ^ c.toNat = 0 := by
    rw [Int.emod_emod_of_dvd _ ⟨_, e.symm⟩]; exact Int.mul_emod_left _ _
  have zr := cut_bounds n (A * 2 ^ c.toNat)
  have yb : A / 2 ^ (n - c).toNat < 18446744073709551616 := by
    have := Int.ediv_le_self (2 ^ (n - c).toNat) hA0; omega
  have hk : ∀ m : Int, 0 ≤ m → m < 2 ^ 64 → IntKind.u64.wrap m = m := fun m u v => IntWalk.u64_in m (by omega)
  have xr : 0 ≤ A * 2 ^ c.toNat % 18446744073709551616 ∧ A * 2 ^ c.toNat % 18446744073709551616 < 18446744073709551616 := by omega
  rw [bits_join .u64 64 (by decide) hk c.toNat _ _ xr.1 x0 (by omega) y0 y1 (by omega)]
  generalize hX : A * 2 ^ c.toNat % 18446744073709551616 = X at *
  have hXZ : X % pw n = A * 2 ^ c.toNat % pw n := by rw [← hX, big_cut n _ h]
  generalize hY : A / 2 ^ (n - c).toNat = Y at *
  have hs : X + Y < 18446744073709551616 := by
    have d := Int.mul_ediv_add_emod X (2 ^ c.toNat)
    rw [x0] at d
    have : X / 2 ^ c.toNat < 2 ^ (64 - c).toNat := Int.ediv_lt_of_lt_mul hp2 (by rw [Int.mul_comm, e64]; exact xr.2)
    have m := Int.mul_le_mul_of_nonneg_left (show X / 2 ^ c.toNat + 1 ≤ 2 ^ (64 - c).toNat by omega) (show (0 : Int) ≤ 2 ^ c.toNat by omega)
    rw [e64, Int.mul_add] at m
    omega
  rw [and_mask n _ h (by omega) hs, ← Int.emod_add_emod, hXZ]
  generalize A * 2 ^ c.toNat % pw n = Z at *
  have d := Int.mul_ediv_add_emod Z (2 ^ c.toNat)
  rw [z0] at d
  have : Z / 2 ^ c.toNat < 2 ^ (n - c).toNat := Int.ediv_lt_of_lt_mul hp2 (by rw [Int.mul_comm, e]; exact zr.2)
  have m := Int.mul_le_mul_of_nonneg_left (show Z / 2 ^ c.toNat + 1 ≤ 2 ^ (n - c).toNat by omega) (show (0 : Int) ≤ 2 ^ c.toNat by omega)
  rw [e, Int.mul_add] at m
  exact Int.emod_eq_of_lt (by omega) (by omega)
theorem op14 : ints_Bin.f (k + 3) n 14 a b = some (binI n 14 (a % pw n) (b % pw n)) := by
  have ca := cut_bounds n a; have cb := cut_bounds n b; have hp := pw_pos n
  have hm := mov_bounds n b h
  rw [bin_mov k n 14 a b ⟨h, by omega, by omega, by omega⟩ (by omega) a0 a1 b0 b1]
  show _ = some (rotI n (a % pw n) (b % pw n % n), 0)
  unfold ints_moved.f
  rw [if_neg (by decide), if_neg (by decide), if_neg (by decide), if_pos rfl, if_pos hm.2.2.1, wr_u n (by omega) (by omega), wr_u (n - b % pw n % n) (by omega) (by omega), if_pos (by omega)]
  show some (Go.bits .and .u64 _ _, (0 : Int)) = _
  rw [rot_code n h _ _ ca.1 ca.2 hm.2.2.1 hm.2.2.2]
theorem op15 : ints_Bin.f (k + 3) n 15 a b = some (binI n 15 (a % pw n) (b % pw n)) := by
  have ca := cut_bounds n a; have cb := cut_bounds n b; have hp := pw_pos n
  have hm := mov_bounds n b h
  have h0 := Int.emod_nonneg (n - b % pw n % n) (show n ≠ 0 by omega)
  have h1 := Int.emod_lt_of_pos (n - b % pw n % n) (show 0 < n by omega)
  rw [bin_mov k n 15 a b ⟨h, by omega, by omega, by omega⟩ (by omega) a0 a1 b0 b1]
  show _ = some (rotI n (a % pw n) ((n - b % pw n % n) % n), 0)
  unfold ints_moved.f
  rw [if_neg (by decide), if_neg (by decide), if_pos rfl, wr_u n (by omega) (by omega), if_neg (by omega), wr_u (n - b % pw n % n) (by omega) (by omega), Int.tmod_eq_emod_of_nonneg (by omega), if_pos h0,
    wr_u (n - (n - b % pw n % n) % n) (by omega) (by omega), if_pos (by omega)]
  show some (Go.bits .and .u64 _ _, (0 : Int)) = _
  rw [rot_code n h _ _ ca.1 ca.2 h0 h1]
end
end Go.Proofs.YtajmjmnlapplaaaDoor.Pure

namespace Go.Proofs.YtajmjmnlapplaaaDoor.Pure
set_option linter.unusedVariables false
set_option linter.unusedSimpArgs false
open Go.RowKit Go.Proofs.YtajmjmnlapplaaaDoor.PInts Go.Proofs.YtajmjmnlapplaaaDoorW.PrintWords Go.Proofs.YtajmjmnlapplaaaDoorW.PrintLast Go.Proofs.YtajmjmnlapplaaaDoorW.PrintMore

theorem kept_ok (k : Nat) (n x y : Int) (h : R n) (x0 : - (pw n / 2) ≤ x) (x1 : x ≤ pw n / 2 - 1) (y0 : - (pw n / 2) ≤ y) (y1 : y ≤ pw n / 2 - 1) :
    ints_kept.f (k + 1) x y (pw n / 2 - 1) = some (clampI n (x + y)) := by
  have e := pw_even n h
  unfold ints_kept.f clampI
  generalize pw n / 2 = M at *
  by_cases hy : y > 0
  · rw [if_pos hy, wr_i (M - 1 - y) (by omega) (by omega)]
    by_cases hx : x > M - 1 - y
    · rw [decide_eq_true hx, if_pos (by omega)]; simp [ints_kept.j0]
    · rw [decide_eq_false hx]
      simp only [ints_kept.j0, Bool.false_eq_true, if_false]
      rw [if_neg (by omega), if_neg (by omega), if_neg (by omega), wr_i (x + y) (by omega) (by omega)]
  · rw [if_neg hy]
    simp only [ints_kept.j0, Bool.false_eq_true, if_false]
    rw [wr_i (-(M - 1)) (by omega) (by omega), wr_i (-(M - 1) - 1) (by omega) (by omega)]
    by_cases hy2 : y < 0
    · rw [if_pos hy2, wr_i (-(M - 1) - 1 - y) (by omega) (by omega)]
      by_cases hx : x < -(M - 1) - 1 - y
      · rw [if_pos hx, if_neg (by omega), if_pos (by omega)]
        congr 1; omega
      · rw [if_neg hx, if_neg (by omega), if_neg (by omega), wr_i (x + y) (by omega) (by omega)]
    · rw [if_neg hy2, if_neg (by omega), if_neg (by omega), wr_i (x + y) (by omega) (by omega)]
theorem clamp_range (n x : Int) (h : R n) : - (pw n / 2) ≤ clampI n x ∧ clampI n x ≤ pw n / 2 - 1 := by
  have e := pw_even n h
  unfold clampI
  split <;> (try split) <;> omega
theorem clamp_twice (n x : Int) (h : R n) (x0 : - (pw n / 2) ≤ x) (x1 : x ≤ pw n / 2 - 1) : clampI n (clampI n (x + (pw n / 2 - 1)) + 1) = clampI n (x + pw n / 2) := by
  have e := pw_even n h
  unfold clampI
  generalize pw n / 2 = M at *
  repeat' split
  all_goals omega
theorem mul_bounds (x y : Int) (x0 : -32768 ≤ x) (x1 : x ≤ 32767) (y0 : -32768 ≤ y) (y1 : y ≤ 32767) : -1073741824 ≤ x * y ∧ x * y ≤ 1073741824 := by
  have h : (x * y).natAbs ≤ 32768 * 32768 := by rw [Int.natAbs_mul]; exact Nat.mul_le_mul (by omega) (by omega)
  omega
section
variable (k : Nat) (n a b : Int) (h : R n) (a0 : 0 ≤ a) (a1 : a < 18446744073709551616) (b0 : 0 ≤ b) (b1 : b < 18446744073709551616)
include h a0 a1 b0 b1
omit a0 a1 b0 b1 in
theorem most_ok : wrap64 ((pw n - 1) / 2) = pw n / 2 - 1 := by
  have e := pw_even n h
  rw [wr_i _ (by omega) (by omega)]; omega
omit a0 a1 b0 b1 in
theorem held_enter (op : Int) (h16 : 16 ≤ op) (h25 : op ≤ 25) : ints_held.f k n op (a % pw n) (b % pw n) =
    (if op = 19 then (some (IntKind.u64.wrap (a % pw n - (mn (a % pw n) (b % pw n))))) else (if op = 17 then (some (IntKind.u64.wrap (a % pw n + (mn (b % pw n) (IntKind.u64.wrap (pw n - 1 - a % pw n)))))) else (if op = 21 then (some (mn (a % pw n) (b % pw n))) else (if op = 23 then (some (mx (a % pw n) (b % pw n))) else (if op = 20 then (some (IntKind.u64.wrap (mn (sg n (a % pw n)) (sg n (b % pw n))))) else (if op = 22 then (some (IntKind.u64.wrap (mx (sg n (a % pw n)) (sg n (b % pw n))))) else
    (if op = 24 then (some (IntKind.u64.wrap ((IntKind.u64.wrap ((IntKind.u64.wrap (Int.tdiv (a % pw n) 2)) + (IntKind.u64.wrap (Int.tdiv (b % pw n) 2)))) + (IntKind.u64.wrap (Int.tdiv (IntKind.u64.wrap ((IntKind.u64.wrap ((Go.bits .and .u64 (a % pw n) 1) + (Go.bits .and .u64 (b % pw n) 1))) + 1)) 2))))) else (if op = 25 then (some (IntKind.u64.wrap (mn ((wrap64 ((wrap64 (sg n (a % pw n) * sg n (b % pw n))) + 16384)) / 32768) (pw n / 2 - 1)))) else
    (if op = 18 then (if sg n (b % pw n) = (wrap64 ((wrap64 (-(pw n / 2 - 1))) - 1)) then ((ints_kept.f k (sg n (a % pw n)) (pw n / 2 - 1) (pw n / 2 - 1)).bind fun t109 => ((ints_kept.f k t109 1 (pw n / 2 - 1)).bind fun t110 => (some (IntKind.u64.wrap (t110))))) else ((ints_kept.f k (sg n (a % pw n)) (wrap64 (-sg n (b % pw n))) (pw n / 2 - 1)).bind fun t111 => (some (IntKind.u64.wrap (t111))))) else ((ints_kept.f k (sg n (a % pw n)) (sg n (b % pw n)) (pw n / 2 - 1)).bind fun t112 => (some (IntKind.u64.wrap (t112))))))))))))) := by
  have ca := cut_bounds n a; have cb := cut_bounds n b; have hp := pw_pos n
  unfold ints_held.f
  rw [signed_ok n _ h ca.1 (by omega), signed_ok n _ h cb.1 (by omega), cut_cut, cut_cut, mask_ok n h]
  simp only [Option.bind_some]
  rw [most_ok n h]
theorem op19 : ints_Bin.f (k + 3) n 19 a b = some (binI n 19 (a % pw n) (b % pw n)) := by
  have ca := cut_bounds n a; have cb := cut_bounds n b; have hp := pw_pos n
  rw [bin_held k n 19 a b ⟨h, by omega, by omega, by omega⟩ (by omega) a0 a1 b0 b1, held_enter k n a b h 19 (by omega) (by omega), if_pos rfl]
  show some (Go.bits .and .u64 _ _, (0 : Int)) = some (if a % pw n < b % pw n then 0 else a % pw n - b % pw n, 0)
  rw [wrap_cut n _ h]
  congr 2
  unfold mn
  split <;> split <;> first | omega | exact Int.emod_eq_of_lt (by omega) (by omega) | (rw [Int.sub_self, Int.zero_emod] <;> omega)
theorem op17 : ints_Bin.f (k + 3) n 17 a b = some (binI n 17 (a % pw n) (b % pw n)) := by
  have ca := cut_bounds n a; have cb := cut_bounds n b; have hp := pw_pos n
  rw [bin_held k n 17 a b ⟨h, by omega, by omega, by omega⟩ (by omega) a0 a1 b0 b1, held_enter k n a b h 17 (by omega) (by omega), if_neg (by decide), if_pos rfl]
  show some (Go.bits .and .u64 _ _, (0 : Int)) = some (if a % pw n + b % pw n > pw n - 1 then pw n - 1 else a % pw n + b % pw n, 0)
  rw [wrap_cut n _ h, wr_u (pw n - 1 - a % pw n) (by omega) (by omega)]
  congr 2
  unfold mn
  split <;> split <;> first | omega | exact Int.emod_eq_of_lt (by omega) (by omega) | (rw [show a % pw n + (pw n - 1 - a % pw n) = pw n - 1 from by omega]; exact Int.emod_eq_of_lt (by omega) (by omega))
theorem op21 : ints_Bin.f (k + 3) n 21 a b = some (binI n 21 (a % pw n) (b % pw n)) := by
  have ca := cut_bounds n a; have cb := cut_bounds n b; have hp := pw_pos n
  rw [bin_held k n 21 a b ⟨h, by omega, by omega, by omega⟩ (by omega) a0 a1 b0 b1, held_enter k n a b h 21 (by omega) (by omega), if_neg (by decide), if_neg (by decide), if_pos rfl]
  show some (Go.bits .and .u64 _ _, (0 : Int)) = some (if a % pw n < b % pw n then a % pw n else b % pw n, 0)
  unfold mn
  congr 2
  split <;> split <;> first | (rw [cut_and n _ h (by omega) (by omega)]; try omega) | omega
theorem op23 : ints_Bin.f (k + 3) n 23 a b = some (binI n 23 (a % pw n) (b % pw n)) := by
  have ca := cut_bounds n a; have cb := cut_bounds n b; have hp := pw_pos n
  rw [bin_held k n 23 a b ⟨h, by omega, by omega, by omega⟩ (by omega) a0 a1 b0 b1, held_enter k n a b h 23 (by omega) (by omega), if_neg (by decide), if_neg (by decide), if_neg (by decide), if_pos rfl]
  show some (Go.bits .and .u64 _ _, (0 : Int)) = some (if a % pw n < b % pw n then b % pw n else a % pw n, 0)
  unfold mx
  congr 2
  split <;> (rw [cut_and n _ h (by omega) (by omega)])
theorem op20 : ints_Bin.f (k + 3) n 20 a b = some (binI n 20 (a % pw n) (b % pw n)) := by
  have ca := cut_bounds n a; have cb := cut_bounds n b; have hp := pw_pos n
  have sa := sg_range n _ h ca.1 ca.2; have sb := sg_range n _ h cb.1 cb.2
  rw [bin_held k n 20 a b ⟨h, by omega, by omega, by omega⟩ (by omega) a0 a1 b0 b1, held_enter k n a b h 20 (by omega) (by omega), if_neg (by decide), if_neg (by decide), if_neg (by decide), if_neg (by decide), if_pos rfl]
  show some (Go.bits .and .u64 _ _, (0 : Int)) = some (if sg n (a % pw n) < sg n (b % pw n) then a % pw n else b % pw n, 0)
  rw [wrap_cut n _ h]
  unfold mn
  congr 2
  by_cases h1 : sg n (b % pw n) < sg n (a % pw n)
  · rw [if_pos h1, if_neg (by omega), sb.2.2]
  · rw [if_neg h1]
    by_cases h2 : sg n (a % pw n) < sg n (b % pw n)
    · rw [if_pos h2, sa.2.2]
    · rw [if_neg h2, show sg n (a % pw n) = sg n (b % pw n) from by omega, sb.2.2]
theorem op22 : ints_Bin.f (k + 3) n 22 a b = some (binI n 22 (a % pw n) (b % pw n)) := by
  have ca := cut_bounds n a; have cb := cut_bounds n b; have hp := pw_pos n
  have sa := sg_range n _ h ca.1 ca.2; have sb := sg_range n _ h cb.1 cb.2
  rw [bin_held k n 22 a b ⟨h, by omega, by omega, by omega⟩ (by omega) a0 a1 b0 b1, held_enter k n a b h 22 (by omega) (by omega), if_neg (by decide), if_neg (by decide), if_neg (by decide), if_neg (by decide), if_neg (by decide), if_pos rfl]
  show some (Go.bits .and .u64 _ _, (0 : Int)) = some (if sg n (a % pw n) < sg n (b % pw n) then b % pw n else a % pw n, 0)
  rw [wrap_cut n _ h]
  unfold mx
  congr 2
  split
  · exact sb.2.2
  · exact sa.2.2
theorem op24 : ints_Bin.f (k + 3) n 24 a b = some (binI n 24 (a % pw n) (b % pw n)) := by
  have ca := cut_bounds n a; have cb := cut_bounds n b; have hp := pw_pos n
  rw [bin_held k n 24 a b ⟨h, by omega, by omega, by omega⟩ (by omega) a0 a1 b0 b1, held_enter k n a b h 24 (by omega) (by omega), if_neg (by decide), if_neg (by decide), if_neg (by decide), if_neg (by decide), if_neg (by decide), if_neg (by decide), if_pos rfl]
  show some (Go.bits .and .u64 _ _, (0 : Int)) = some ((a % pw n + b % pw n + 1) / 2, 0)
  have hk : ∀ m : Int, 0 ≤ m → m < 2 ^ 64 → IntKind.u64.wrap m = m := fun m u v => IntWalk.u64_in m (by omega)
  have one : ∀ x : Int, 0 ≤ x → x < 18446744073709551616 → Go.bits .and .u64 x 1 = x % 2 := fun x u v => bits_mask .u64 64 (by decide) hk 1 (by decide) x u (by omega)
  rw [one _ ca.1 (by omega), one _ cb.1 (by omega)]
  generalize a % pw n = A at *
  generalize b % pw n = B at *
  rw [half A (by omega) (by omega), half B (by omega) (by omega), wr_u (A % 2 + B % 2) (by omega) (by omega), half (IntKind.u64.wrap (A % 2 + B % 2 + 1)) (by rw [wr_u] <;> omega) (by rw [wr_u] <;> omega), wr_u (A % 2 + B % 2 + 1) (by omega) (by omega), wr_u (A / 2 + B / 2) (by omega) (by omega), wrap_cut n _ h]
  congr 2
  rw [Int.emod_eq_of_lt (by omega) (by omega)]
  omega
theorem op25 (h16 : n = 16) : ints_Bin.f (k + 3) n 25 a b = some (binI n 25 (a % pw n) (b % pw n)) := by
  have ca := cut_bounds n a; have cb := cut_bounds n b; have hp := pw_pos n
  have sa := sg_range n _ h ca.1 ca.2; have sb := sg_range n _ h cb.1 cb.2
  rw [bin_held k n 25 a b ⟨h, by omega, by omega, by omega⟩ (by omega) a0 a1 b0 b1, held_enter k n a b h 25 (by omega) (by omega), if_neg (by decide), if_neg (by decide), if_neg (by decide), if_neg (by decide), if_neg (by decide), if_neg (by decide), if_neg (by decide), if_pos rfl]
  show some (Go.bits .and .u64 _ _, (0 : Int)) = some (if (sg n (a % pw n) * sg n (b % pw n) + 16384) / 32768 > 32767 then 32767 else (sg n (a % pw n) * sg n (b % pw n) + 16384) / 32768 % 65536, 0)
  rw [wrap_cut n _ h]
  subst h16
  rw [pw16] at sa sb ⊢
  have m := mul_bounds _ _ sa.1 (by omega) sb.1 (by omega)
  generalize sg 16 (a % 65536) * sg 16 (b % 65536) = p at *
  rw [wr_i p (by omega) (by omega), wr_i (p + 16384) (by omega) (by omega)]
  congr 2
  unfold mn
  split <;> split <;> omega
theorem op16 : ints_Bin.f (k + 4) n 16 a b = some (binI n 16 (a % pw n) (b % pw n)) := by
  have ca := cut_bounds n a; have cb := cut_bounds n b; have hp := pw_pos n
  have sa := sg_range n _ h ca.1 ca.2; have sb := sg_range n _ h cb.1 cb.2
  rw [show k + 4 = (k + 1) + 3 from rfl, bin_held (k + 1) n 16 a b ⟨h, by omega, by omega, by omega⟩ (by omega) a0 a1 b0 b1, held_enter (k + 1) n a b h 16 (by omega) (by omega), if_neg (by decide), if_neg (by decide), if_neg (by decide), if_neg (by decide), if_neg (by decide), if_neg (by decide), if_neg (by decide), if_neg (by decide), if_neg (by decide),
    kept_ok k n _ _ h sa.1 sa.2.1 sb.1 sb.2.1]
  show some (Go.bits .and .u64 (IntKind.u64.wrap _) _, (0 : Int)) = _
  rw [wrap_cut n _ h]
  rfl
theorem op18 : ints_Bin.f (k + 4) n 18 a b = some (binI n 18 (a % pw n) (b % pw n)) := by
  have ca := cut_bounds n a; have cb := cut_bounds n b; have hp := pw_pos n; have pe := pw_even n h
  have sa := sg_range n _ h ca.1 ca.2; have sb := sg_range n _ h cb.1 cb.2
  rw [show k + 4 = (k + 1) + 3 from rfl, bin_held (k + 1) n 18 a b ⟨h, by omega, by omega, by omega⟩ (by omega) a0 a1 b0 b1, held_enter (k + 1) n a b h 18 (by omega) (by omega), if_neg (by decide), if_neg (by decide), if_neg (by decide), if_neg (by decide), if_neg (by decide), if_neg (by decide), if_neg (by decide), if_neg (by decide), if_pos rfl,
    wr_i (-(pw n / 2 - 1)) (by omega) (by omega), wr_i (-(pw n / 2 - 1) - 1) (by omega) (by omega)]
  show _ = some (clampI n (sg n (a % pw n) - sg n (b % pw n)) % pw n, 0)
  by_cases hy : sg n (b % pw n) = -(pw n / 2 - 1) - 1
  · rw [if_pos hy, kept_ok k n _ _ h sa.1 sa.2.1 (by omega) (by omega)]
    simp only [Option.bind_some]
    have cr := clamp_range n (sg n (a % pw n) + (pw n / 2 - 1)) h
    rw [kept_ok k n _ 1 h cr.1 cr.2 (by omega) (by omega), clamp_twice n _ h sa.1 sa.2.1, show sg n (a % pw n) - sg n (b % pw n) = sg n (a % pw n) + pw n / 2 from by omega]
    show some (Go.bits .and .u64 (IntKind.u64.wrap _) _, (0 : Int)) = _
    rw [wrap_cut n _ h]
  · rw [if_neg hy, wr_i (-sg n (b % pw n)) (by omega) (by omega), kept_ok k n _ _ h sa.1 sa.2.1 (by omega) (by omega), show sg n (a % pw n) + -sg n (b % pw n) = sg n (a % pw n) - sg n (b % pw n) from by omega]
    show some (Go.bits .and .u64 (IntKind.u64.wrap _) _, (0 : Int)) = _
    rw [wrap_cut n _ h]
end

/-- WHAT ANY TWO COME TO. -/
theorem bin_yes (k : Nat) (n op a b : Int) (h : Ok n op) (a0 : 0 ≤ a) (a1 : a < 18446744073709551616) (b0 : 0 ≤ b) (b1 : b < 18446744073709551616) (hk : 4 ≤ k) :
    ints_Bin.f k n op a b = some (binI n op (a % pw n) (b % pw n)) := by
  obtain ⟨k, rfl⟩ : ∃ m, k = m + 4 := ⟨k - 4, by omega⟩
  obtain ⟨hR, h1, h2, h3⟩ := h
  have : op = 1 ∨ op = 2 ∨ op = 3 ∨ op = 4 ∨ op = 5 ∨ op = 6 ∨ op = 7 ∨ op = 8 ∨ op = 9 ∨ op = 10 ∨ op = 11 ∨ op = 12 ∨ op = 13 ∨ op = 14 ∨ op = 15 ∨ op = 16 ∨ op = 17 ∨ op = 18 ∨ op = 19 ∨ op = 20 ∨ op = 21 ∨ op = 22 ∨ op = 23 ∨ op = 24 ∨ op = 25 := by omega
  rcases this with rfl | rfl | rfl | rfl | rfl | rfl | rfl | rfl | rfl | rfl | rfl | rfl | rfl | rfl | rfl | rfl | rfl | rfl | rfl | rfl | rfl | rfl | rfl | rfl | rfl
  · exact op1 (k + 1) n a b hR a0 a1 b0 b1
  · exact op2 (k + 1) n a b hR a0 a1 b0 b1
  · exact op3 (k + 1) n a b hR a0 a1 b0 b1
  · exact op4 (k + 1) n a b hR a0 a1 b0 b1
  · exact op5 (k + 1) n a b hR a0 a1 b0 b1
  · exact op6 (k + 1) n a b hR a0 a1 b0 b1
  · exact op7 (k + 1) n a b hR a0 a1 b0 b1
  · exact op8 (k + 1) n a b hR a0 a1 b0 b1
  · exact op9 (k + 1) n a b hR a0 a1 b0 b1
  · exact op10 (k + 1) n a b hR a0 a1 b0 b1
  · exact op11 (k + 1) n a b hR a0 a1 b0 b1
  · exact op12 (k + 1) n a b hR a0 a1 b0 b1
  · exact op13 (k + 1) n a b hR a0 a1 b0 b1
  · exact op14 (k + 1) n a b hR a0 a1 b0 b1
  · exact op15 (k + 1) n a b hR a0 a1 b0 b1
  · exact op16 k n a b hR a0 a1 b0 b1
  · exact op17 (k + 1) n a b hR a0 a1 b0 b1
  · exact op18 k n a b hR a0 a1 b0 b1
  · exact op19 (k + 1) n a b hR a0 a1 b0 b1
  · exact op20 (k + 1) n a b hR a0 a1 b0 b1
  · exact op21 (k + 1) n a b hR a0 a1 b0 b1
  · exact op22 (k + 1) n a b hR a0 a1 b0 b1
  · exact op23 (k + 1) n a b hR a0 a1 b0 b1
  · exact op24 (k + 1) n a b hR a0 a1 b0 b1
  · exact op25 (k + 1) n a b hR a0 a1 b0 b1 (h3 rfl)
end Go.Proofs.YtajmjmnlapplaaaDoor.Pure

namespace Go.Proofs.YtajmjmnlapplaaaDoor.Pure
set_option linter.unusedVariables false
set_option linter.unusedSimpArgs false
open Go.RowKit Go.Proofs.YtajmjmnlapplaaaDoor.PInts Go.Proofs.YtajmjmnlapplaaaDoorW.PrintWords Go.Proofs.YtajmjmnlapplaaaDoorW.PrintLast Go.Proofs.YtajmjmnlapplaaaDoorW.PrintMore

theorem up_one (a : Int) (d : Nat) : a / 2 ^ d = 2 * (a / 2 ^ (d + 1)) + bitAt a d := by
  unfold bitAt
  rw [Int.pow_succ, ← Int.ediv_ediv_of_nonneg (Int.le_of_lt (Int.pow_pos (by decide)))]
  omega
theorem quo_loop (a b : Int) (a0 : 0 ≤ a) (a1 : a < 18446744073709551616) (b0 : 0 < b) (b1 : b < 18446744073709551616) (d : Nat) :
    ∀ (k : Nat) (q r i : Int), d < k → i + 1 = d → d ≤ 64 → a / 2 ^ d = q * b + r → 0 ≤ r → r < b → 0 ≤ q → bodkinref02_quo.l0 k b q r (bl 64 a) i = some (a / b, a % b) := by
  induction d with
  | zero =>
    intro k q r i hk hi hd he r0 r1 q0
    obtain ⟨k, rfl⟩ : ∃ m, k = m + 1 := ⟨k - 1, by omega⟩
    simp only [bodkinref02_quo.l0]
    rw [if_neg (by omega)]
    have := (Int.ediv_emod_unique (a := a) (b := b) (r := r) (q := q) b0).2 ⟨by simp at he; rw [he, Int.mul_comm q b]; omega, r0, r1⟩
    rw [this.1, this.2]
  | succ d ih =>
    intro k q r i hk hi hd he r0 r1 q0
    obtain ⟨k, rfl⟩ : ∃ m, k = m + 1 := ⟨k - 1, by omega⟩
    have hu := up_one a d
    have hbr := bitAt_range a d
    have hrd : rd (bl 64 a) i = bitAt a d := by
      unfold rd
      rw [show i.toNat = d from by omega]
      exact bl_get 64 a d (by omega)
    have hpd : (0 : Int) < 2 ^ d := Int.pow_pos (by decide)
    have hle : a / 2 ^ d ≤ a := Int.ediv_le_self _ a0
    have e1 : (q * 2 + 1) * b = 2 * (q * b) + b := by rw [Int.add_mul, Int.mul_comm q 2, Int.mul_assoc]; omega
    have e2 : q * 2 * b = 2 * (q * b) := by rw [Int.mul_comm q 2, Int.mul_assoc]
    have hqb : q ≤ q * b := by have := Int.mul_le_mul_of_nonneg_left (show (1 : Int) ≤ b by omega) q0; omega
    simp only [bodkinref02_quo.l0]
    rw [if_pos (by omega), if_pos (by omega), bl_length, if_pos (by omega), hrd, wr_i (i - 1) (by omega) (by omega)]
    by_cases hb : 2 * r + bitAt a d ≥ b
    · have hq1 : (q * 2 + 1) * b + (2 * r + bitAt a d - b) = a / 2 ^ d := by rw [hu, he, e1]; omega
      have hq2 : q * 2 + 1 ≤ (q * 2 + 1) * b := by have := Int.mul_le_mul_of_nonneg_left (show (1 : Int) ≤ b by omega) (show (0 : Int) ≤ q * 2 + 1 by omega); omega
      have nxt := ih k (q * 2 + 1) (2 * r + bitAt a d - b) (i - 1) (by omega) (by omega) (by omega) hq1.symm (by omega) (by omega) (by omega)
      have hw : IntKind.u64.wrap (IntKind.u64.wrap (IntKind.u64.wrap (r * 2) + bitAt a d) - b) = 2 * r + bitAt a d - b := by
        rw [IntKind.wrap_u64, IntKind.wrap_u64, IntKind.wrap_u64]; omega
      rw [wr_u (q * 2) (by omega) (by omega), wr_u (q * 2 + 1) (by omega) (by omega), hw]
      by_cases ho : r ≥ 9223372036854775808
      · rw [if_pos ho]; exact nxt
      · rw [if_neg ho, wr_u (r * 2) (by omega) (by omega), wr_u (r * 2 + bitAt a d) (by omega) (by omega), if_pos (by omega)]; exact nxt
    · have hq1 : (q * 2) * b + (2 * r + bitAt a d) = a / 2 ^ d := by rw [hu, he, e2]; omega
      have nxt := ih k (q * 2) (2 * r + bitAt a d) (i - 1) (by omega) (by omega) (by omega) hq1.symm (by omega) (by omega) (by omega)
      rw [if_neg (by omega), wr_u (r * 2) (by omega) (by omega), wr_u (r * 2 + bitAt a d) (by omega) (by omega), if_neg (by omega), wr_u (q * 2) (by omega) (by omega), show r * 2 + bitAt a d = 2 * r + bitAt a d from by omega]
      exact nxt
theorem rQuo (k : Nat) (a b : Int) (hk : 100 ≤ k) (a0 : 0 ≤ a) (a1 : a < 18446744073709551616) (b0 : 0 < b) (b1 : b < 18446744073709551616) : bodkinref02_quo.f k a b = some (a / b, a % b) := by
  unfold bodkinref02_quo.f
  rw [rList k 64 a hk (by omega) (by omega) a0 a1]
  exact quo_loop a b a0 a1 b0 b1 64 k 0 0 63 (by omega) (by omega) (by omega) (by
    rw [Int.zero_mul]
    exact Int.ediv_eq_zero_of_lt a0 a1) (by omega) b0 (by omega)
theorem rSize (x : Int) (x0 : -9223372036854775808 ≤ x) (x1 : x < 9223372036854775808) : bodkinref02_size.f x = some (x.natAbs : Int) := by
  unfold bodkinref02_size.f
  split
  · congr 1
    rw [IntKind.wrap_u64, IntKind.wrap_u64]
    unfold wrap64
    omega
  · congr 1
    rw [wr_u x (by omega) (by omega)]
    omega
theorem tmod_size (x y : Int) : Int.tmod x y = if x < 0 then - ((x.natAbs : Int) % (y.natAbs : Int)) else (x.natAbs : Int) % (y.natAbs : Int) := by
  have key : ∀ z : Int, 0 ≤ z → Int.tmod z y = (z.natAbs : Int) % (y.natAbs : Int) := by
    intro z hz
    rw [Int.tmod_eq_emod_of_nonneg hz, show (z.natAbs : Int) = z from by omega]
    rcases Int.le_total 0 y with hy | hy
    · rw [show (y.natAbs : Int) = y from by omega]
    · rw [show (y.natAbs : Int) = -y from by omega, Int.emod_neg]
  split
  · have := key (-x) (by omega)
    rw [Int.neg_tmod, Int.natAbs_neg] at this
    omega
  · exact key x (by omega)
theorem tdiv_size (x y : Int) : Int.tdiv x y = if (decide (x < 0) != decide (y < 0)) = true then - ((x.natAbs : Int) / (y.natAbs : Int)) else (x.natAbs : Int) / (y.natAbs : Int) := by
  have key : ∀ z v : Int, 0 ≤ z → 0 ≤ v → Int.tdiv z v = (z.natAbs : Int) / (v.natAbs : Int) := by
    intro z v hz hv
    rw [Int.tdiv_eq_ediv_of_nonneg hz]
    congr 1 <;> omega
  by_cases hx : x < 0 <;> by_cases hy : y < 0
  · rw [decide_eq_true hx, decide_eq_true hy]
    have := key (-x) (-y) (by omega) (by omega)
    rw [Int.neg_tdiv_neg, Int.natAbs_neg, Int.natAbs_neg] at this
    simpa using this
  · rw [decide_eq_true hx, decide_eq_false hy]
    have := key (-x) y (by omega) (by omega)
    rw [Int.neg_tdiv, Int.natAbs_neg] at this
    simp; omega
  · rw [decide_eq_false hx, decide_eq_true hy]
    have := key x (-y) (by omega) (by omega)
    rw [Int.tdiv_neg, Int.natAbs_neg] at this
    simp; omega
  · rw [decide_eq_false hx, decide_eq_false hy]
    have := key x y (by omega) (by omega)
    simpa using this
theorem top_bit (n q : Int) (h : R n) (q0 : 0 ≤ q) (q1 : q < pw n) : bitAt q (n - 1).toNat = if q < pw n / 2 then 0 else 1 := by
  unfold bitAt
  rcases h with rfl | rfl | rfl | rfl
  · rw [pw8] at *; simp only [show (8 - 1 : Int).toNat = 7 from rfl]; split <;> omega
  · rw [pw16] at *; simp only [show (16 - 1 : Int).toNat = 15 from rfl]; split <;> omega
  · rw [pw32] at *; simp only [show (32 - 1 : Int).toNat = 31 from rfl]; split <;> omega
  · rw [pw64] at *; simp only [show (64 - 1 : Int).toNat = 63 from rfl]; split <;> omega

theorem rDivided (k : Nat) (n op A B : Int) (hk : 100 ≤ k) (h : R n) (hop : 4 ≤ op ∧ op ≤ 7) (A0 : 0 ≤ A) (A1 : A < pw n) (B0 : 0 ≤ B) (B1 : B < pw n) :
    bodkinref02_divided.f (k + 1) n op A B (sg n A) (sg n B) = some (binI n op A B) := by
  have hp := pw_pos n; have pe := pw_even n h
  have sa := sg_range n A h A0 A1; have sb := sg_range n B h B0 B1
  have hz := sg_zero n B h B0 B1
  have hn : n ≤ 64 ∧ 8 ≤ n := by unfold R at h; omega
  unfold bodkinref02_divided.f
  have hop2 : op = 4 ∨ op = 5 ∨ op = 6 ∨ op = 7 := by omega
  by_cases hB : B = 0
  · rw [if_pos hB]
    rcases hop2 with rfl | rfl | rfl | rfl <;> simp [binI, hB]
  rw [if_neg hB]
  have sx := rSize (sg n A) (by omega) (by omega)
  have sy := rSize (sg n B) (by omega) (by omega)
  have qs := rQuo k ((sg n A).natAbs : Int) ((sg n B).natAbs : Int) hk (by omega) (by omega) (by have : sg n B ≠ 0 := fun e => hB (hz.1 e); omega) (by omega)
  rcases hop2 with rfl | rfl | rfl | rfl
  · rw [if_neg (by decide), show ((4 : Int) == 7) = false from rfl]
    simp only [bodkinref02_divided.j0, Bool.false_eq_true, if_false]
    rw [sx, sy]
    simp only [Option.bind_some]
    rw [qs]
    simp only [Option.bind_some]
    rw [if_neg (by decide)]
    show _ = some (if B = 0 then (0, 41) else if sg n B = -1 ∧ A = pw n / 2 then (0, 42) else (Int.tdiv (sg n A) (sg n B) % pw n, 0))
    rw [if_neg hB, tdiv_size]
    have q0 : 0 ≤ ((sg n A).natAbs : Int) / ((sg n B).natAbs : Int) := Int.ediv_nonneg (by omega) (by omega)
    have q1 : ((sg n A).natAbs : Int) / ((sg n B).natAbs : Int) ≤ ((sg n A).natAbs : Int) := Int.ediv_le_self _ (by omega)
    have hmin : sg n A = - (pw n / 2) ↔ A = pw n / 2 := by
      unfold sg; constructor
      · split <;> omega
      · intro e; rw [if_neg (by omega)]; omega
    by_cases hs : (decide (sg n A < 0) != decide (sg n B < 0)) = true
    · rw [if_pos hs, if_pos hs, if_neg (by
        rintro ⟨e1, e2⟩
        rw [hmin.2 e2, e1, decide_eq_true (by omega), decide_eq_true (by omega)] at hs
        simp at hs)]
      have hu : 0 ≤ IntKind.u64.wrap (-(((sg n A).natAbs : Int) / ((sg n B).natAbs : Int))) ∧ IntKind.u64.wrap (-(((sg n A).natAbs : Int) / ((sg n B).natAbs : Int))) < 18446744073709551616 := by rw [IntKind.wrap_u64]; omega
      rw [rCut k n _ hk h hu.1 hu.2]
      simp only [Option.bind_some]
      rw [wrap_cut2 n _ h]
    · rw [if_neg hs, if_neg hs, wr_i (n - 1) (by omega) (by omega), rBit k _ (n - 1) hk (by omega) (by omega) q0 (by omega), top_bit n _ h q0 (by omega)]
      simp only [Option.bind_some]
      by_cases hq : ((sg n A).natAbs : Int) / ((sg n B).natAbs : Int) < pw n / 2
      · rw [if_pos hq, if_neg (by decide), if_neg (by
          rintro ⟨e1, e2⟩
          rw [hmin.2 e2, e1] at hq
          simp at hq
          omega), Int.emod_eq_of_lt q0 (by omega)]
      · rw [if_neg hq, if_pos rfl]
        have e1 : ((sg n A).natAbs : Int) = pw n / 2 := by omega
        have e2 : ((sg n B).natAbs : Int) = 1 := by
          refine Classical.byContradiction fun hne => ?_
          have h2 : (2 : Int) ≤ ((sg n B).natAbs : Int) := by have : sg n B ≠ 0 := fun e => hB (hz.1 e); omega
          have hlt : ((sg n A).natAbs : Int) / ((sg n B).natAbs : Int) < ((sg n A).natAbs : Int) := by
            apply Int.ediv_lt_of_lt_mul (by omega)
            have := Int.mul_le_mul_of_nonneg_left h2 (show (0 : Int) ≤ ((sg n A).natAbs : Int) by omega)
            omega
          omega
        have hA : sg n A = - (pw n / 2) := by omega
        have hBm : sg n B = -1 := by
          rw [hA, decide_eq_true (by omega)] at hs
          simp at hs
          omega
        rw [if_pos ⟨hBm, hmin.1 hA⟩]
  · rw [if_pos rfl]
    simp only [bodkinref02_divided.j0, if_true]
    rw [rQuo k A B hk A0 (by omega) (by omega) (by omega)]
    simp [binI, hB]
  · rw [if_neg (by decide), show ((6 : Int) == 7) = false from rfl]
    simp only [bodkinref02_divided.j0, Bool.false_eq_true, if_false]
    rw [sx, sy]
    simp only [Option.bind_some]
    rw [qs]
    simp only [Option.bind_some]
    rw [if_pos True.intro]
    show _ = some (if B = 0 then (0, 41) else (Int.tmod (sg n A) (sg n B) % pw n, 0))
    rw [if_neg hB, tmod_size]
    have r0 : 0 ≤ ((sg n A).natAbs : Int) % ((sg n B).natAbs : Int) := Int.emod_nonneg _ (by have : sg n B ≠ 0 := fun e => hB (hz.1 e); omega)
    have r1 : ((sg n A).natAbs : Int) % ((sg n B).natAbs : Int) < ((sg n B).natAbs : Int) := Int.emod_lt_of_pos _ (by have : sg n B ≠ 0 := fun e => hB (hz.1 e); omega)
    split
    · have hu : 0 ≤ IntKind.u64.wrap (-(((sg n A).natAbs : Int) % ((sg n B).natAbs : Int))) ∧ IntKind.u64.wrap (-(((sg n A).natAbs : Int) % ((sg n B).natAbs : Int))) < 18446744073709551616 := by rw [IntKind.wrap_u64]; omega
      rw [rCut k n _ hk h hu.1 hu.2]
      simp only [Option.bind_some]
      rw [wrap_cut2 n _ h]
    · rw [rCut k n _ hk h r0 (by omega)]
      rfl
  · rw [if_neg (by decide), show ((7 : Int) == 7) = true from rfl]
    simp only [bodkinref02_divided.j0, if_true]
    rw [rQuo k A B hk A0 (by omega) (by omega) (by omega)]
    simp [binI, hB]
end Go.Proofs.YtajmjmnlapplaaaDoor.Pure

namespace Go.Proofs.YtajmjmnlapplaaaDoor.Pure
set_option linter.unusedVariables false
set_option linter.unusedSimpArgs false
open Go.RowKit Go.Proofs.YtajmjmnlapplaaaDoor.PInts Go.Proofs.YtajmjmnlapplaaaDoorW.PrintWords Go.Proofs.YtajmjmnlapplaaaDoorW.PrintLast Go.Proofs.YtajmjmnlapplaaaDoorW.PrintMore

theorem rWithin (k : Nat) (n x y : Int) (less : Bool) (h : R n) (x0 : - (pw n / 2) ≤ x) (x1 : x ≤ pw n / 2 - 1) (y0 : - (pw n / 2) ≤ y) (y1 : y ≤ pw n / 2 - 1) :
    bodkinref02_within.f (k + 1) x y (pw n / 2 - 1) less = some (if less = true then clampI n (x - y) else clampI n (x + y)) := by
  have e := pw_even n h
  unfold bodkinref02_within.f clampI
  generalize pw n / 2 = M at *
  rw [wr_i (-(M - 1)) (by omega) (by omega), wr_i (-(M - 1) - 1) (by omega) (by omega)]
  cases less
  · simp only [Bool.false_eq_true, if_false]
    by_cases hy : y > 0
    · rw [if_pos hy, wr_i (M - 1 - y) (by omega) (by omega)]
      by_cases hx : x > M - 1 - y
      · rw [decide_eq_true hx, if_pos (by omega)]; simp [bodkinref02_within.j1]
      · rw [decide_eq_false hx]
        simp only [bodkinref02_within.j1, Bool.false_eq_true, if_false]
        rw [if_neg (by omega), if_neg (by omega), if_neg (by omega), wr_i (x + y) (by omega) (by omega)]
    · rw [if_neg hy]
      simp only [bodkinref02_within.j1, Bool.false_eq_true, if_false]
      by_cases hy2 : y < 0
      · rw [if_pos hy2, wr_i (-(M - 1) - 1 - y) (by omega) (by omega)]
        by_cases hx : x < -(M - 1) - 1 - y
        · rw [if_pos hx, if_neg (by omega), if_pos (by omega)]
          congr 1; omega
        · rw [if_neg hx, if_neg (by omega), if_neg (by omega), wr_i (x + y) (by omega) (by omega)]
      · rw [if_neg hy2, if_neg (by omega), if_neg (by omega), wr_i (x + y) (by omega) (by omega)]
  · simp only [if_true]
    by_cases hy : y > 0
    · rw [if_pos hy, wr_i (-(M - 1) - 1 + y) (by omega) (by omega)]
      by_cases hx : x < -(M - 1) - 1 + y
      · rw [decide_eq_true hx, if_neg (by omega), if_pos (by omega)]
        simp only [bodkinref02_within.j0, if_true]
        congr 1; omega
      · rw [decide_eq_false hx]
        simp only [bodkinref02_within.j0, Bool.false_eq_true, if_false]
        rw [if_neg (by omega), if_neg (by omega), if_neg (by omega), wr_i (x - y) (by omega) (by omega)]
    · rw [if_neg hy]
      simp only [bodkinref02_within.j0, Bool.false_eq_true, if_false]
      by_cases hy2 : y < 0
      · rw [if_pos hy2, wr_i (M - 1 + y) (by omega) (by omega)]
        by_cases hx : x > M - 1 + y
        · rw [if_pos hx, if_pos (by omega)]
        · rw [if_neg hx, if_neg (by omega), if_neg (by omega), wr_i (x - y) (by omega) (by omega)]
      · rw [if_neg hy2, if_neg (by omega), if_neg (by omega), wr_i (x - y) (by omega) (by omega)]

section
variable (k : Nat) (n A B : Int) (hk : 100 ≤ k) (h : R n) (A0 : 0 ≤ A) (A1 : A < pw n) (B0 : 0 ≤ B) (B1 : B < pw n)
include hk h A0 A1 B0 B1
omit A0 A1 B0 B1 in
theorem all_ok : bodkinref02_Cut.f k n 18446744073709551615 = some (pw n - 1) := by
  rw [rCut k n _ hk h (by decide) (by decide)]
  rcases h with rfl | rfl | rfl | rfl <;> decide
omit A0 A1 B0 B1 in
theorem rHeld_enter (op : Int) : bodkinref02_held.f (k + 3) n op A B (sg n A) (sg n B) = bodkinref02_held.j0 (k + 3) n op A B (sg n A) (sg n B) (pw n / 2 - 1) op (decide (op = 16 ∨ op = 18)) := by
  have pe := pw_even n h
  unfold bodkinref02_held.f
  rw [all_ok (k + 3) n (by omega) h]
  simp only [Option.bind_some]
  have e : wrap64 (IntKind.u64.wrap (Int.tdiv (pw n - 1) 2)) = pw n / 2 - 1 := by
    rw [half _ (by omega) (by omega), wr_i _ (by omega) (by omega)]; omega
  rw [e]
  by_cases h1 : op = 16
  · subst h1; rfl
  · rw [if_neg h1]
    congr 1
    rw [Bool.eq_iff_iff]; simp [h1]
theorem rHeld_sat (op : Int) (hop : op = 16 ∨ op = 18) : bodkinref02_held.f (k + 3) n op A B (sg n A) (sg n B) = some (binI n op A B).1 := by
  have hp := pw_pos n; have pe := pw_even n h
  have sa := sg_range n A h A0 A1; have sb := sg_range n B h B0 B1
  rw [rHeld_enter k n A B hk h, decide_eq_true hop]
  simp only [bodkinref02_held.j0, if_true]
  rw [show k + 2 = (k + 1) + 1 from rfl, rWithin (k + 1) n _ _ _ h sa.1 sa.2.1 sb.1 sb.2.1]
  simp only [Option.bind_some]
  have hc : ∀ z : Int, (bodkinref02_Cut.f (k + 1 + 1) n (IntKind.u64.wrap z)) = some (z % pw n) := by
    intro z
    have hu : 0 ≤ IntKind.u64.wrap z ∧ IntKind.u64.wrap z < 18446744073709551616 := by rw [IntKind.wrap_u64]; omega
    rw [rCut (k + 1 + 1) n _ (by omega) h hu.1 hu.2, wrap_cut2 n _ h]
  rw [hc]
  rcases hop with rfl | rfl <;> rfl
theorem rHeld_rest (op : Int) (hop : op = 17 ∨ op = 19 ∨ op = 20 ∨ op = 21 ∨ op = 22 ∨ op = 23 ∨ op = 24) : bodkinref02_held.f (k + 3) n op A B (sg n A) (sg n B) = some (binI n op A B).1 := by
  have hp := pw_pos n; have pe := pw_even n h
  have sa := sg_range n A h A0 A1; have sb := sg_range n B h B0 B1
  rw [rHeld_enter k n A B hk h]
  rcases hop with rfl | rfl | rfl | rfl | rfl | rfl | rfl
  · rw [decide_eq_false (by decide)]
    simp only [bodkinref02_held.j0, Bool.false_eq_true, if_false, if_true]
    rw [all_ok (k + 2) n (by omega) h]
    simp only [Option.bind_some]
    rw [wr_u (pw n - 1 - B) (by omega) (by omega)]
    show _ = some (if A + B > pw n - 1 then pw n - 1 else A + B)
    by_cases hc : A > pw n - 1 - B
    · rw [if_pos hc, if_pos (by omega)]
    · rw [if_neg hc, if_neg (by omega), wr_u (A + B) (by omega) (by omega)]
  · rw [decide_eq_false (by decide)]
    simp only [bodkinref02_held.j0, Bool.false_eq_true, if_false, if_true]
    show _ = some (if A < B then 0 else A - B)
    rw [if_neg (by decide)]
    split
    · rfl
    · rw [wr_u (A - B) (by omega) (by omega)]
  · rw [decide_eq_false (by decide)]
    simp only [bodkinref02_held.j0, Bool.false_eq_true, if_false, if_true]
    rw [if_neg (by decide), if_neg (by decide)]
    simp only [bodkinref02_held.j1]
    show _ = some (if sg n A < sg n B then A else B)
    by_cases hc : sg n A < sg n B
    · simp [hc]
    · simp [hc]
  · rw [decide_eq_false (by decide)]
    simp only [bodkinref02_held.j0, Bool.false_eq_true, if_false, if_true]
    rw [if_neg (by decide), if_neg (by decide), if_neg (by decide), show ((21 : Int) == 22) = false from rfl]
    simp only [bodkinref02_held.j1, Bool.false_eq_true, if_false, if_true]
    simp only [bodkinref02_held.j2]
    show _ = some (if A < B then A else B)
    by_cases hc : A < B
    · simp [hc]
    · simp [hc]
  · rw [decide_eq_false (by decide)]
    simp only [bodkinref02_held.j0, Bool.false_eq_true, if_false, if_true]
    rw [if_neg (by decide), if_neg (by decide), if_neg (by decide), show ((22 : Int) == 22) = true from rfl]
    simp only [bodkinref02_held.j1]
    show _ = some (if sg n A < sg n B then B else A)
    by_cases hc : sg n A < sg n B
    · simp [hc]
    · simp [hc]
  · rw [decide_eq_false (by decide)]
    simp only [bodkinref02_held.j0, Bool.false_eq_true, if_false, if_true]
    rw [if_neg (by decide), if_neg (by decide), if_neg (by decide), show ((23 : Int) == 22) = false from rfl]
    simp only [bodkinref02_held.j1, Bool.false_eq_true, if_false, if_true]
    rw [if_neg (by decide), show ((23 : Int) == 23) = true from rfl]
    simp only [bodkinref02_held.j2]
    show _ = some (if A < B then B else A)
    by_cases hc : A < B
    · simp [hc]
    · simp [hc]
  · rw [decide_eq_false (by decide)]
    simp only [bodkinref02_held.j0, Bool.false_eq_true, if_false, if_true]
    rw [if_neg (by decide), if_neg (by decide), if_neg (by decide), show ((24 : Int) == 22) = false from rfl]
    simp only [bodkinref02_held.j1, Bool.false_eq_true, if_false, if_true]
    rw [if_neg (by decide), show ((24 : Int) == 23) = false from rfl]
    simp only [bodkinref02_held.j2, Bool.false_eq_true, if_false, if_true]
    show _ = some ((A + B + 1) / 2)
    rw [Int.tmod_eq_emod_of_nonneg A0, Int.tmod_eq_emod_of_nonneg B0, half A (by omega) (by omega), half B (by omega) (by omega), wr_u (A % 2 + B % 2) (by omega) (by omega), half (IntKind.u64.wrap (A % 2 + B % 2 + 1)) (by rw [wr_u] <;> omega) (by rw [wr_u] <;> omega), wr_u (A % 2 + B % 2 + 1) (by omega) (by omega), wr_u (A / 2 + B / 2) (by omega) (by omega), wr_u _ (by omega) (by omega)]
    congr 1
    omega
theorem rHeld_q15 (h16 : n = 16) : bodkinref02_held.f (k + 4) n 25 A B (sg n A) (sg n B) = some (binI n 25 A B).1 := by
  have hp := pw_pos n; have pe := pw_even n h
  have sa := sg_range n A h A0 A1; have sb := sg_range n B h B0 B1
  rw [show k + 4 = (k + 1) + 3 from rfl, rHeld_enter (k + 1) n A B (by omega) h]
  rw [decide_eq_false (by decide)]
  simp only [bodkinref02_held.j0, Bool.false_eq_true, if_false, if_true]
  rw [if_neg (by decide), if_neg (by decide), if_neg (by decide), show ((25 : Int) == 22) = false from rfl]
  simp only [bodkinref02_held.j1, Bool.false_eq_true, if_false, if_true]
  rw [if_neg (by decide), show ((25 : Int) == 23) = false from rfl]
  simp only [bodkinref02_held.j2, Bool.false_eq_true, if_false, if_true]
  rw [if_neg (by decide)]
  show _ = some (if (sg n A * sg n B + 16384) / 32768 > 32767 then 32767 else (sg n A * sg n B + 16384) / 32768 % 65536)
  subst h16
  rw [pw16] at sa sb ⊢
  have m := mul_bounds _ _ sa.1 (by omega) sb.1 (by omega)
  generalize sg 16 A * sg 16 B = p at *
  rw [wr_i p (by omega) (by omega), wr_i (p + 16384) (by omega) (by omega)]
  have hc : ∀ z : Int, (bodkinref02_Cut.f k 16 (IntKind.u64.wrap z)) = some (z % 65536) := by
    intro z
    have hu : 0 ≤ IntKind.u64.wrap z ∧ IntKind.u64.wrap z < 18446744073709551616 := by rw [IntKind.wrap_u64]; omega
    rw [rCut k 16 _ (by omega) (by unfold R; omega) hu.1 hu.2, wrap_cut2 16 _ (by unfold R; omega), pw16]
  have hj : ∀ z : Int, bodkinref02_held.j3 (k + 1) 16 (65536 / 2 - 1) z = some (if z > 32767 then 32767 else z % 65536) := by
    intro z
    simp only [bodkinref02_held.j3]
    rw [hc, hc]
    simp only [Option.bind_some]
    split
    · rw [if_pos (by omega)]; rfl
    · rw [if_neg (by omega)]
  have q1 : Int.tmod (p + 16384) 32768 < 0 → wrap64 (wrap64 (Int.tdiv (p + 16384) 32768) - 1) = (p + 16384) / 32768 := by
    intro hm
    have e1 := Int.mul_tdiv_add_tmod (p + 16384) 32768
    have e2 : -32768 < Int.tmod (p + 16384) 32768 := by
      have := Int.lt_tmod_of_pos (p + 16384) (show (0 : Int) < 32768 by decide)
      omega
    rw [wr_i (Int.tdiv (p + 16384) 32768) (by omega) (by omega), wr_i _ (by omega) (by omega)]
    omega
  have q2 : ¬ Int.tmod (p + 16384) 32768 < 0 → wrap64 (Int.tdiv (p + 16384) 32768) = (p + 16384) / 32768 := by
    intro hm
    have e1 := Int.mul_tdiv_add_tmod (p + 16384) 32768
    have e2 : Int.tmod (p + 16384) 32768 < 32768 := Int.tmod_lt_of_pos _ (by decide)
    rw [wr_i _ (by omega) (by omega)]
    omega
  split
  · rename_i hm
    rw [q1 hm]; exact hj _
  · rename_i hm
    rw [q2 hm]; exact hj _
end
end Go.Proofs.YtajmjmnlapplaaaDoor.Pure

namespace Go.Proofs.YtajmjmnlapplaaaDoor.Pure
set_option linter.unusedVariables false
set_option linter.unusedSimpArgs false
open Go.RowKit Go.Proofs.YtajmjmnlapplaaaDoor.PInts Go.Proofs.YtajmjmnlapplaaaDoorW.PrintWords Go.Proofs.YtajmjmnlapplaaaDoorW.PrintLast Go.Proofs.YtajmjmnlapplaaaDoorW.PrintMore

/-- The bit that comes to place i. -/
def src (n op K : Int) (A : Int) (i : Nat) : Int :=
  if op = 14 then bitAt A ((i - K + n) % n).toNat else
  if op = 15 then bitAt A ((i + K + n) % n).toNat else
  if op = 12 then bitAt A (if i + K ≥ n then n - 1 else i + K).toNat else
  if op = 13 then (if i + K < n then bitAt A (i + K).toNat else 0) else
  (if i - K ≥ 0 then bitAt A (i - K).toNat else 0)
def srcs (n op K A : Int) : Nat → List Int
  | 0 => []
  | i + 1 => srcs n op K A i ++ [src n op K A i]
theorem srcs_length (n op K A : Int) (i : Nat) : (srcs n op K A i).length = i := by
  induction i with
  | zero => rfl
  | succ i ih => simp [srcs, ih]
theorem src_range (n op K A : Int) (i : Nat) : 0 ≤ src n op K A i ∧ src n op K A i ≤ 1 := by
  unfold src
  repeat' split
  all_goals first | exact bitAt_range _ _ | omega
theorem srcs_get (n op K A : Int) (m : Nat) : ∀ i, i < m → (srcs n op K A m).getD i 0 = src n op K A i := by
  induction m with
  | zero => intro i h; omega
  | succ m ih =>
    intro i h
    simp only [srcs]
    by_cases hm : i = m
    · subst hm
      rw [List.getD_eq_getElem?_getD, List.getElem?_append_right (by rw [srcs_length]; omega)]
      simp [srcs_length]
    · rw [List.getD_eq_getElem?_getD, List.getElem?_append_left (by rw [srcs_length]; omega), ← List.getD_eq_getElem?_getD]
      exact ih i (by omega)
theorem set_next (l : List Int) (m : Nat) (v : Int) (i : Nat) (hi : l.length = i) (hm : 0 < m) : (l ++ List.replicate m 0).set i v = (l ++ [v]) ++ List.replicate (m - 1) 0 := by
  obtain ⟨m, rfl⟩ : ∃ q, m = q + 1 := ⟨m - 1, by omega⟩
  subst hi
  simp [List.replicate_succ, List.set_append]
theorem keep_next (l : List Int) (m : Nat) (hm : 0 < m) : l ++ List.replicate m 0 = (l ++ [0]) ++ List.replicate (m - 1) 0 := by
  obtain ⟨m, rfl⟩ : ∃ q, m = q + 1 := ⟨m - 1, by omega⟩
  simp [List.replicate_succ]

theorem moved_loop (n op K A : Int) (hn : 8 ≤ n ∧ n ≤ 64) (hop : 11 ≤ op ∧ op ≤ 15) (hK : 0 ≤ K ∧ K < n) (d : Nat) : ∀ (k : Nat) (i : Int), 0 ≤ i → n - i = d → 5 * d + 200 < k →
    bodkinref02_moved.l0 k n op K (bl n.toNat A) (srcs n op K A i.toNat ++ List.replicate d 0) i = some (ov (srcs n op K A n.toNat)) := by
  induction d with
  | zero =>
    intro k i hi hd hk
    obtain ⟨k, rfl⟩ : ∃ q, k = q + 1 := ⟨k - 1, by omega⟩
    obtain rfl : i = n := by omega
    simp only [bodkinref02_moved.l0]
    rw [if_neg (by omega)]
    simp only [List.replicate_zero, List.append_nil]
    rw [rOf k _ (by omega) (fun x hx => by
      obtain ⟨j, hj, e⟩ := List.getElem_of_mem hx
      have := srcs_get i op K A i.toNat j (by rw [srcs_length] at hj; exact hj)
      rw [List.getD_eq_getElem?_getD, List.getElem?_eq_getElem hj] at this
      simp at this
      rw [← e, this]
      exact src_range _ _ _ _ _) (by rw [srcs_length]; omega)]
    rfl
  | succ d ih =>
    intro k i hi hd hk
    obtain ⟨k, rfl⟩ : ∃ q, k = q + 4 := ⟨k - 4, by omega⟩
    have hlen : (srcs n op K A i.toNat ++ List.replicate (d + 1) 0).length = n.toNat := by rw [List.length_append, srcs_length, List.length_replicate]; omega
    have hset : ∀ v, v = src n op K A i.toNat → (srcs n op K A i.toNat ++ List.replicate (d + 1) 0).set i.toNat v = srcs n op K A (i + 1).toNat ++ List.replicate d 0 := by
      intro v hv
      rw [set_next _ (d + 1) v i.toNat (srcs_length _ _ _ _ _) (by omega), hv, show (i + 1).toNat = i.toNat + 1 from by omega]
      rfl
    have hkeep : 0 = src n op K A i.toNat → srcs n op K A i.toNat ++ List.replicate (d + 1) 0 = srcs n op K A (i + 1).toNat ++ List.replicate d 0 := by
      intro hv
      rw [keep_next _ (d + 1) (by omega), show (i + 1).toNat = i.toNat + 1 from by omega]
      simp only [srcs]
      rw [← hv]
      rfl
    have hrd : ∀ j : Int, 0 ≤ j → j < n → rd (bl n.toNat A) j = bitAt A j.toNat := by
      intro j j0 j1
      exact bl_get n.toNat A j.toNat (by omega)
    have hw1 : wrap64 (i + 1) = i + 1 := wr_i _ (by omega) (by omega)
    have nx := fun k hk => ih k (i + 1) (by omega) (by omega) hk
    rw [show k + 4 = (k + 3) + 1 from rfl]
    conv => lhs; unfold bodkinref02_moved.l0
    rw [if_pos (by omega), wr_i (i - K) (by omega) (by omega)]
    have hbl : (bl n.toNat A).length = n.toNat := bl_length _ _
    have hop2 : op = 11 ∨ op = 12 ∨ op = 13 ∨ op = 14 ∨ op = 15 := by omega
    rcases hop2 with rfl | rfl | rfl | rfl | rfl
    · rw [if_neg (by decide), if_neg (by decide), show ((11 : Int) == 15) = false from rfl]
      simp only [bodkinref02_moved.j1, Bool.false_eq_true, if_false]
      simp only [bodkinref02_moved.j2]
      rw [if_neg (by omega), if_neg (by decide), show ((11 : Int) == 15) = false from rfl]
      simp only [bodkinref02_moved.j3, Bool.false_eq_true, if_false]
      rw [if_neg (by decide)]
      by_cases hc : i - K ≥ 0
      · rw [if_pos hc, if_pos (by omega), if_pos hc, if_pos (by omega), if_pos (by omega), if_pos (by omega), hw1, hrd _ (by omega) (by omega), hset _ (by
          unfold src
          rw [if_neg (by decide), if_neg (by decide), if_neg (by decide), if_neg (by decide), show (i.toNat : Int) = i from by omega, if_pos hc])]
        exact nx k (by omega)
      · rw [if_neg hc, hw1, hkeep (by
          unfold src
          rw [if_neg (by decide), if_neg (by decide), if_neg (by decide), if_neg (by decide), show (i.toNat : Int) = i from by omega, if_neg hc])]
        exact nx k (by omega)
    · rw [if_pos (by first | exact True.intro | rfl)]
      simp only [bodkinref02_moved.j1, if_true]
      rw [wr_i (i + K) (by omega) (by omega)]
      simp only [bodkinref02_moved.j2]
      rw [if_neg (by omega), if_neg (by decide), show ((12 : Int) == 15) = false from rfl]
      simp only [bodkinref02_moved.j3, Bool.false_eq_true, if_false]
      rw [if_pos (by first | exact True.intro | rfl), wr_i (n - 1) (by omega) (by omega)]
      by_cases hc : i + K ≥ n
      · rw [if_pos hc, if_pos (by omega), if_pos (by omega), if_pos (by omega), if_pos (by omega), hw1, hrd _ (by omega) (by omega), hset _ (by
          unfold src
          rw [if_neg (by decide), if_neg (by decide), if_pos rfl, show (i.toNat : Int) = i from by omega, if_pos hc])]
        exact nx k (by omega)
      · rw [if_neg hc, if_pos (by omega), if_pos (by omega), if_pos (by omega), if_pos (by omega), hw1, hrd _ (by omega) (by omega), hset _ (by
          unfold src
          rw [if_neg (by decide), if_neg (by decide), if_pos rfl, show (i.toNat : Int) = i from by omega, if_neg hc])]
        exact nx k (by omega)
    · rw [if_neg (by decide), if_pos (by first | exact True.intro | rfl)]
      simp only [bodkinref02_moved.j1, if_true]
      rw [wr_i (i + K) (by omega) (by omega)]
      simp only [bodkinref02_moved.j2]
      rw [if_neg (by omega), if_neg (by decide), show ((13 : Int) == 15) = false from rfl]
      simp only [bodkinref02_moved.j3, Bool.false_eq_true, if_false]
      rw [if_neg (by decide)]
      by_cases hc : i + K < n
      · rw [if_pos (by omega), if_pos hc, if_pos (by omega), if_pos (by omega), if_pos (by omega), if_pos (by omega), hw1, hrd _ (by omega) (by omega), hset _ (by
          unfold src
          rw [if_neg (by decide), if_neg (by decide), if_neg (by decide), if_pos rfl, show (i.toNat : Int) = i from by omega, if_pos hc])]
        exact nx k (by omega)
      · rw [if_pos (by omega), if_neg hc, hw1, hkeep (by
          unfold src
          rw [if_neg (by decide), if_neg (by decide), if_neg (by decide), if_pos rfl, show (i.toNat : Int) = i from by omega, if_neg hc])]
        exact nx k (by omega)
    · rw [if_neg (by decide), if_neg (by decide), show ((14 : Int) == 15) = false from rfl]
      simp only [bodkinref02_moved.j1, Bool.false_eq_true, if_false]
      simp only [bodkinref02_moved.j2]
      rw [if_neg (by omega), if_pos (by first | exact True.intro | rfl), show ((14 : Int) == 14) = true from rfl, wr_i (i - K + n) (by omega) (by omega), Int.tmod_eq_emod_of_nonneg (by omega)]
      have m0 := Int.emod_nonneg (i - K + n) (show n ≠ 0 by omega)
      have m1 := Int.emod_lt_of_pos (i - K + n) (show 0 < n by omega)
      simp only [bodkinref02_moved.j3, if_true]
      rw [if_pos (by omega), if_pos (by omega), if_pos (by omega), if_pos (by omega), hw1, hrd _ (by omega) (by omega), hset _ (by
          unfold src
          rw [if_pos rfl, show (i.toNat : Int) = i from by omega])]
      exact nx k (by omega)
    · rw [if_neg (by decide), if_neg (by decide), show ((15 : Int) == 15) = true from rfl]
      simp only [bodkinref02_moved.j1, if_true]
      rw [wr_i (i + K) (by omega) (by omega)]
      simp only [bodkinref02_moved.j2]
      rw [if_neg (by omega), if_neg (by decide), show ((15 : Int) == 15) = true from rfl, wr_i (i + K + n) (by omega) (by omega), Int.tmod_eq_emod_of_nonneg (by omega)]
      have m0 := Int.emod_nonneg (i + K + n) (show n ≠ 0 by omega)
      have m1 := Int.emod_lt_of_pos (i + K + n) (show 0 < n by omega)
      simp only [bodkinref02_moved.j3, if_true]
      rw [if_pos (by omega), if_pos (by omega), if_pos (by omega), if_pos (by omega), hw1, hrd _ (by omega) (by omega), hset _ (by
          unfold src
          rw [if_neg (by decide), if_pos rfl, show (i.toNat : Int) = i from by omega])]
      exact nx k (by omega)
theorem moved_srcs (n op K A : Int) (h : R n) (hop : 11 ≤ op ∧ op ≤ 15) (hK : 0 ≤ K ∧ K < n) (A0 : 0 ≤ A) (A1 : A < pw n) :
    bodkinref02_moved.f 1000 n op A K = some (ov (srcs n op K A n.toNat)) := by
  have hp := pw_pos n
  have hn : 8 ≤ n ∧ n ≤ 64 := by unfold R at h; omega
  unfold bodkinref02_moved.f
  rw [rList 1000 n A (by omega) (by omega) hn.2 A0 (by omega)]
  simp only [Option.bind_some]
  rw [if_pos (by omega), if_pos (by omega)]
  exact moved_loop n op K A hn hop hK n.toNat 1000 0 (by omega) (by omega) (by omega)
end Go.Proofs.YtajmjmnlapplaaaDoor.Pure

namespace Go.Proofs.YtajmjmnlapplaaaDoor.Pure
set_option linter.unusedVariables false
set_option linter.unusedSimpArgs false
open Go.RowKit Go.Proofs.YtajmjmnlapplaaaDoor.PInts Go.Proofs.YtajmjmnlapplaaaDoorW.PrintWords Go.Proofs.YtajmjmnlapplaaaDoorW.PrintLast Go.Proofs.YtajmjmnlapplaaaDoorW.PrintMore

theorem two_pos (k : Nat) : (0 : Int) < 2 ^ k := Int.pow_pos (by decide)
theorem bit_add_mul (x t : Int) (i m : Nat) (h : i < m) : bitAt (x + 2 ^ m * t) i = bitAt x i := by
  unfold bitAt
  have e : (2 : Int) ^ m = 2 ^ i * (2 * 2 ^ (m - i - 1)) := by
    rw [← Int.mul_assoc, ← Int.pow_succ, ← Int.pow_add]; congr 1; omega
  rw [e, Int.mul_assoc, Int.add_mul_ediv_left _ _ (Int.ne_of_gt (two_pos i)), Int.mul_assoc]
  omega
theorem bit_mod (x : Int) (i m : Nat) (h : i < m) : bitAt (x % 2 ^ m) i = bitAt x i := by
  have e := Int.mul_ediv_add_emod x (2 ^ m)
  have := bit_add_mul (x % 2 ^ m) (x / 2 ^ m) i m h
  rw [show x % 2 ^ m + 2 ^ m * (x / 2 ^ m) = x from by omega] at this
  exact this.symm
theorem bit_shr (x : Int) (K i : Nat) : bitAt (x / 2 ^ K) i = bitAt x (K + i) := by
  unfold bitAt
  rw [Int.ediv_ediv_of_nonneg (Int.le_of_lt (two_pos K)), ← Int.pow_add]
theorem bit_shl_low (x : Int) (K i : Nat) (h : i < K) : bitAt (x * 2 ^ K) i = 0 := by
  have := bit_add_mul 0 x i K h
  rw [Int.zero_add, Int.mul_comm] at this
  rw [this]
  simp [bitAt]
theorem bit_shl_high (x : Int) (K i : Nat) (h : K ≤ i) : bitAt (x * 2 ^ K) i = bitAt x (i - K) := by
  have := bit_shr (x * 2 ^ K) K (i - K)
  rw [Int.mul_ediv_cancel _ (Int.ne_of_gt (two_pos K)), show K + (i - K) = i from by omega] at this
  exact this.symm
theorem bit_high (x : Int) (m i : Nat) (h0 : 0 ≤ x) (h1 : x < 2 ^ m) (h : m ≤ i) : bitAt x i = 0 := by
  unfold bitAt
  have : (2 : Int) ^ m ≤ 2 ^ i := by exact_mod_cast Nat.pow_le_pow_right (n := 2) (by decide) h
  rw [Int.ediv_eq_zero_of_lt h0 (by omega)]
  rfl
theorem bit_neg (x : Int) (m i : Nat) (h0 : - 2 ^ m ≤ x) (h1 : x < 0) (h : m ≤ i) : bitAt x i = 1 := by
  unfold bitAt
  have : (2 : Int) ^ m ≤ 2 ^ i := by exact_mod_cast Nat.pow_le_pow_right (n := 2) (by decide) h
  have e : x / 2 ^ i = -1 := by
    have := (Int.ediv_emod_unique (a := x) (b := 2 ^ i) (r := x + 2 ^ i) (q := -1) (two_pos i)).2 ⟨by omega, by omega, by omega⟩
    exact this.1
  rw [e]
  rfl
theorem ov_srcs (n op K A X : Int) (h : R n) (hX0 : 0 ≤ X) (hX1 : X < pw n) (hb : ∀ i : Nat, (i : Int) < n → src n op K A i = bitAt X i) : ov (srcs n op K A n.toNat) = X := by
  have hn : 8 ≤ n ∧ n ≤ 64 := by unfold R at h; omega
  have e : srcs n op K A n.toNat = bl n.toNat X := eq_bl n.toNat _ X (srcs_length _ _ _ _ _) (fun i hi => by rw [srcs_get n op K A n.toNat i hi]; exact hb i (by omega))
  rw [e, ov_bl _ _ hX0, ← pw_pow n h]
  exact Int.emod_eq_of_lt hX0 hX1

section
variable (n K A : Int) (h : R n) (hK : 0 ≤ K ∧ K < n) (A0 : 0 ≤ A) (A1 : A < pw n)
include h hK A0 A1
omit A0 A1 in
theorem ov11 : ov (srcs n 11 K A n.toNat) = A * 2 ^ K.toNat % pw n := by
  have hn : 8 ≤ n ∧ n ≤ 64 := by unfold R at h; omega
  have c := cut_bounds n (A * 2 ^ K.toNat)
  refine ov_srcs n 11 K A _ h c.1 c.2 (fun i hi => ?_)
  rw [pw_pow n h, bit_mod _ _ _ (by omega)]
  unfold src
  rw [if_neg (by decide), if_neg (by decide), if_neg (by decide), if_neg (by decide)]
  by_cases hc : (i : Int) - K ≥ 0
  · rw [if_pos hc, bit_shl_high _ _ _ (by omega)]; congr 1; omega
  · rw [if_neg hc, bit_shl_low _ _ _ (by omega)]
theorem ov13 : ov (srcs n 13 K A n.toNat) = A / 2 ^ K.toNat := by
  have hn : 8 ≤ n ∧ n ≤ 64 := by unfold R at h; omega
  have q0 := Int.ediv_nonneg A0 (Int.le_of_lt (two_pos K.toNat))
  have q1 := Int.ediv_le_self (2 ^ K.toNat) A0
  refine ov_srcs n 13 K A _ h q0 (by omega) (fun i hi => ?_)
  rw [bit_shr]
  unfold src
  rw [if_neg (by decide), if_neg (by decide), if_neg (by decide), if_pos rfl]
  by_cases hc : (i : Int) + K < n
  · rw [if_pos hc]; congr 1; omega
  · rw [if_neg hc, bit_high A n.toNat _ A0 (by rw [← pw_pow n h]; exact A1) (by omega)]
omit hK in
theorem bit_sg (j : Nat) (hj : (j : Int) < n) : bitAt (sg n A) j = bitAt A j := by
  have hn : 8 ≤ n ∧ n ≤ 64 := by unfold R at h; omega
  have s := sg_range n A h A0 A1
  rw [← bit_mod (sg n A) j n.toNat (by omega), ← pw_pow n h, s.2.2]
theorem bit_sign (j : Nat) (hj : n - 1 ≤ (j : Int)) : bitAt (sg n A) j = bitAt (sg n A) (n - 1).toNat := by
  have hn : 8 ≤ n ∧ n ≤ 64 := by unfold R at h; omega
  have s := sg_range n A h A0 A1
  have e : pw n / 2 = 2 ^ (n - 1).toNat := by rcases h with rfl | rfl | rfl | rfl <;> decide
  by_cases hs : sg n A < 0
  · rw [bit_neg _ (n - 1).toNat j (by omega) hs (by omega), bit_neg _ (n - 1).toNat _ (by omega) hs (by omega)]
  · rw [bit_high _ (n - 1).toNat j (by omega) (by omega) (by omega), bit_high _ (n - 1).toNat _ (by omega) (by omega) (by omega)]
theorem ov12 : ov (srcs n 12 K A n.toNat) = sg n A / 2 ^ K.toNat % pw n := by
  have hn : 8 ≤ n ∧ n ≤ 64 := by unfold R at h; omega
  have c := cut_bounds n (sg n A / 2 ^ K.toNat)
  refine ov_srcs n 12 K A _ h c.1 c.2 (fun i hi => ?_)
  rw [pw_pow n h, bit_mod _ _ _ (by omega), bit_shr]
  unfold src
  rw [if_neg (by decide), if_neg (by decide), if_pos rfl]
  by_cases hc : (i : Int) + K ≥ n
  · rw [if_pos hc, bit_sign n K A h hK A0 A1 (K.toNat + i) (by omega), bit_sg n A h A0 A1 (n - 1).toNat (by omega)]
  · rw [if_neg hc, bit_sg n A h A0 A1 (K.toNat + i) (by omega)]; congr 1; omega
theorem rot_range : 0 ≤ rotI n A K ∧ rotI n A K < pw n ∧ rotI n A K % 2 ^ K.toNat = A / 2 ^ (n - K).toNat ∧ ∀ i : Nat, K ≤ (i : Int) → (i : Int) < n → bitAt (rotI n A K) i = bitAt (A * 2 ^ K.toNat) i := by
  have hn : 8 ≤ n ∧ n ≤ 64 := by unfold R at h; omega
  have e : (2 : Int) ^ K.toNat * 2 ^ (n - K).toNat = pw n := by
    rw [← Int.pow_add, show K.toNat + (n - K).toNat = n.toNat from by omega]
    exact (pw_pow n h).symm
  have y0 : 0 ≤ A / 2 ^ (n - K).toNat := Int.ediv_nonneg A0 (Int.le_of_lt (two_pos _))
  have y1 : A / 2 ^ (n - K).toNat < 2 ^ K.toNat := Int.ediv_lt_of_lt_mul (two_pos _) (by rw [e]; exact A1)
  have z0 : A * 2 ^ K.toNat % pw n % 2 ^ K.toNat = 0 := by
    rw [Int.emod_emod_of_dvd _ ⟨_, e.symm⟩]; exact Int.mul_emod_left _ _
  have zr := cut_bounds n (A * 2 ^ K.toNat)
  have zb : ∀ i : Nat, (i : Int) < n → bitAt (A * 2 ^ K.toNat % pw n) i = bitAt (A * 2 ^ K.toNat) i := fun i hi => by
    rw [pw_pow n h, bit_mod _ _ _ (by omega)]
  unfold rotI
  generalize A / 2 ^ (n - K).toNat = Y at *
  generalize A * 2 ^ K.toNat % pw n = Z at *
  have d := Int.mul_ediv_add_emod Z (2 ^ K.toNat)
  rw [z0] at d
  have hp2 := two_pos K.toNat
  have lt : Z / 2 ^ K.toNat < 2 ^ (n - K).toNat := Int.ediv_lt_of_lt_mul hp2 (by rw [Int.mul_comm, e]; exact zr.2)
  have m := Int.mul_le_mul_of_nonneg_left (show Z / 2 ^ K.toNat + 1 ≤ 2 ^ (n - K).toNat by omega) (show (0 : Int) ≤ 2 ^ K.toNat by omega)
  rw [e, Int.mul_add] at m
  refine ⟨by omega, by omega, ?_, fun i h1 h2 => ?_⟩
  · rw [Int.add_emod, z0, Int.zero_add, Int.emod_emod]
    exact Int.emod_eq_of_lt y0 y1
  · rw [← zb i h2]
    have b1 := bit_shr (Z + Y) K.toNat (i - K.toNat)
    have b2 := bit_shr Z K.toNat (i - K.toNat)
    rw [show K.toNat + (i - K.toNat) = i from by omega] at b1 b2
    rw [← b1, ← b2]
    congr 1
    have dz : Z = 2 ^ K.toNat * (Z / 2 ^ K.toNat) := by omega
    have : Z + Y = Y + 2 ^ K.toNat * (Z / 2 ^ K.toNat) := by omega
    rw [this, Int.add_mul_ediv_left _ _ (Int.ne_of_gt hp2), Int.ediv_eq_zero_of_lt y0 y1, Int.zero_add]
theorem rot_bits (i : Nat) (hi : (i : Int) < n) : bitAt (rotI n A K) i = bitAt A (((i : Int) - K + n) % n).toNat := by
  have hn : 8 ≤ n ∧ n ≤ 64 := by unfold R at h; omega
  have r := rot_range n K A h hK A0 A1
  by_cases hc : K ≤ (i : Int)
  · rw [r.2.2.2 i hc hi, bit_shl_high _ _ _ (by omega), Int.add_emod_right, Int.emod_eq_of_lt (by omega) (by omega)]; congr 1; omega
  · rw [← bit_mod _ i K.toNat (by omega), r.2.2.1, bit_shr, Int.emod_eq_of_lt (by omega) (by omega)]; congr 1; omega
theorem ov14 : ov (srcs n 14 K A n.toNat) = rotI n A K := by
  have r := rot_range n K A h hK A0 A1
  refine ov_srcs n 14 K A _ h r.1 r.2.1 (fun i hi => ?_)
  rw [rot_bits n K A h hK A0 A1 i hi]
  unfold src
  rw [if_pos rfl]
theorem ov15 : ov (srcs n 15 K A n.toNat) = rotI n A ((n - K) % n) := by
  have hn : 8 ≤ n ∧ n ≤ 64 := by unfold R at h; omega
  have k0 := Int.emod_nonneg (n - K) (show n ≠ 0 by omega)
  have k1 := Int.emod_lt_of_pos (n - K) (show 0 < n by omega)
  have r := rot_range n _ A h ⟨k0, k1⟩ A0 A1
  refine ov_srcs n 15 K A _ h r.1 r.2.1 (fun i hi => ?_)
  rw [rot_bits n _ A h ⟨k0, k1⟩ A0 A1 i hi]
  unfold src
  rw [if_neg (by decide), if_pos rfl]
  congr 2
  by_cases hz : K = 0
  · subst hz
    rw [show n - 0 = n from by omega, Int.emod_self, show (i : Int) + 0 = i - 0 from by omega]
  · rw [Int.emod_eq_of_lt (show 0 ≤ n - K by omega) (by omega), show (i : Int) - (n - K) + n = i + K from by omega, Int.add_emod_right]
end
theorem rMoved (n op A B : Int) (h : R n) (hop : 11 ≤ op ∧ op ≤ 15) (A0 : 0 ≤ A) (A1 : A < pw n) (B0 : 0 ≤ B) (B1 : B < pw n) :
    bodkinref02_moved.f 1000 n op A (B % n) = some (binI n op A B).1 := by
  have hn : 8 ≤ n ∧ n ≤ 64 := by unfold R at h; omega
  have hK : 0 ≤ B % n ∧ B % n < n := ⟨Int.emod_nonneg _ (by omega), Int.emod_lt_of_pos _ (by omega)⟩
  rw [moved_srcs n op (B % n) A h hop hK A0 A1]
  have : op = 11 ∨ op = 12 ∨ op = 13 ∨ op = 14 ∨ op = 15 := by omega
  rcases this with rfl | rfl | rfl | rfl | rfl
  · rw [ov11 n _ A h hK]; rfl
  · rw [ov12 n _ A h hK A0 A1]; rfl
  · rw [ov13 n _ A h hK A0 A1]; rfl
  · rw [ov14 n _ A h hK A0 A1]; rfl
  · rw [ov15 n _ A h hK A0 A1]; rfl
end Go.Proofs.YtajmjmnlapplaaaDoor.Pure

namespace Go.Proofs.YtajmjmnlapplaaaDoor.Pure
set_option linter.unusedVariables false
set_option linter.unusedSimpArgs false
open Go.RowKit Go.Proofs.YtajmjmnlapplaaaDoor.PInts Go.Proofs.YtajmjmnlapplaaaDoorW.PrintWords Go.Proofs.YtajmjmnlapplaaaDoorW.PrintLast Go.Proofs.YtajmjmnlapplaaaDoorW.PrintMore

theorem un_no (k : Nat) (n op a : Int) (h : ¬ (R n ∧ 1 ≤ op ∧ op ≤ 8)) : ints_Un.f (k + 1) n op a = some (0, 1) := by
  unfold ints_Un.f
  by_cases hR : R n
  · rw [right_yes n hR]
    simp only [Option.bind_some, if_true]
    by_cases h1 : op < 1
    · rw [if_pos h1]; simp [ints_Un.j0]
    · rw [if_neg h1, decide_eq_true (show op > 8 from Int.not_le.1 fun h2 => h ⟨hR, by omega, h2⟩)]; simp [ints_Un.j0]
  · rw [right_no n hR]
    simp [ints_Un.j0]
theorem sg_cut (n z : Int) (h : R n) (h0 : - (pw n / 2) ≤ z) (h1 : z ≤ pw n / 2 - 1) : sg n (z % pw n) = z := by
  have e := pw_even n h
  unfold sg
  by_cases hz : 0 ≤ z
  · rw [Int.emod_eq_of_lt hz (by omega), if_pos (by omega)]
  · have : z % pw n = z + pw n := by
      rw [← Int.add_emod_right]; exact Int.emod_eq_of_lt (by omega) (by omega)
    rw [this, if_neg (by omega)]; omega
section
variable (k : Nat) (n a : Int) (h : R n) (a0 : 0 ≤ a) (a1 : a < 18446744073709551616)
include h a0 a1
theorem un_abs : ints_Un.f (k + 1) n 7 a = some (if sg n (a % pw n) ≥ 0 then a % pw n else (- (a % pw n)) % pw n, 0) := by
  have ca := cut_bounds n a; have hp := pw_pos n
  unfold ints_Un.f
  rw [right_yes n h]
  simp only [Option.bind_some, if_true]
  rw [if_neg (by decide), show decide ((7 : Int) > 8) = false from rfl]
  simp only [ints_Un.j0]
  rw [mask_ok n h]
  simp only [Option.bind_some, Bool.false_eq_true, if_false]
  rw [if_neg (by decide), if_neg (by decide), if_neg (by decide), if_pos True.intro, and_mask n a h a0 a1, signed_ok n _ h ca.1 (by omega), cut_cut]
  simp only [Option.bind_some]
  rw [wrap_cut n _ h]
  split <;> rfl
theorem un_neg : ints_Un.f (k + 1) n 8 a = some ((- (a % pw n)) % pw n, 0) := by
  have ca := cut_bounds n a; have hp := pw_pos n
  unfold ints_Un.f
  rw [right_yes n h]
  simp only [Option.bind_some, if_true]
  rw [if_neg (by decide), show decide ((8 : Int) > 8) = false from rfl]
  simp only [ints_Un.j0]
  rw [mask_ok n h]
  simp only [Option.bind_some, Bool.false_eq_true, if_false]
  rw [if_neg (by decide), if_neg (by decide), if_neg (by decide), if_neg (by decide), if_pos True.intro, and_mask n a h a0 a1]
  rw [wrap_cut n _ h]
end
theorem awake_at (k : Nat) (h : 20 ≤ k) : bodkinlaw02_awake.f k = some true := at_rounds (bodkinlaw02_awake.mono) h awake_ok
end Go.Proofs.YtajmjmnlapplaaaDoor.Pure
