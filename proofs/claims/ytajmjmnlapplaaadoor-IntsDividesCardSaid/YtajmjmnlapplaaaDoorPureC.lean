/-
  The plain law of ints.Bin: what any two come to, as one closed form 'binI', over numbers.
-/
import Derived.Test.YtajmjmnlapplaaaDoorPIntsx9
import Derived.Test.YtajmjmnlapplaaaDoorPureB
namespace Go.Proofs.YtajmjmnlapplaaaDoor.Pure
set_option linter.unusedVariables false
set_option linter.unusedSimpArgs false
open Go.RowKit Go.Proofs.YtajmjmnlapplaaaDoor.PInts Go.Proofs.YtajmjmnlapplaaaDoorW.PrintWords Go.Proofs.YtajmjmnlapplaaaDoorW.PrintLast Go.Proofs.YtajmjmnlapplaaaDoorW.PrintMore

def clampI (n x : Int) : Int := if x > pw n / 2 - 1 then pw n / 2 - 1 else if x < - (pw n / 2) then - (pw n / 2) else x
def rotI (n A : Int) (k : Int) : Int := A * 2 ^ k.toNat % pw n + A / 2 ^ (n - k).toNat
/-- What two come to: A and B are cut to n bits. -/
def binI (n op A B : Int) : Int × Int :=
  if op = 1 then ((A + B) % pw n, 0) else
  if op = 2 then ((A - B) % pw n, 0) else
  if op = 3 then (A * B % pw n, 0) else
  if op = 4 then (if B = 0 then (0, 41) else if sg n B = -1 ∧ A = pw n / 2 then (0, 42) else (Int.tdiv (sg n A) (sg n B) % pw n, 0)) else
  if op = 5 then (if B = 0 then (0, 41) else (A / B, 0)) else
  if op = 6 then (if B = 0 then (0, 41) else (Int.tmod (sg n A) (sg n B) % pw n, 0)) else
  if op = 7 then (if B = 0 then (0, 41) else (A % B, 0)) else
  if op = 8 then (((A.toNat &&& B.toNat : Nat) : Int), 0) else
  if op = 9 then (((A.toNat ||| B.toNat : Nat) : Int), 0) else
  if op = 10 then (((A.toNat ^^^ B.toNat : Nat) : Int), 0) else
  if op = 11 then (A * 2 ^ (B % n).toNat % pw n, 0) else
  if op = 12 then (sg n A / 2 ^ (B % n).toNat % pw n, 0) else
  if op = 13 then (A / 2 ^ (B % n).toNat, 0) else
  if op = 14 then (rotI n A (B % n), 0) else
  if op = 15 then (rotI n A ((n - B % n) % n), 0) else
  if op = 16 then (clampI n (sg n A + sg n B) % pw n, 0) else
  if op = 17 then (if A + B > pw n - 1 then pw n - 1 else A + B, 0) else
  if op = 18 then (clampI n (sg n A - sg n B) % pw n, 0) else
  if op = 19 then (if A < B then 0 else A - B, 0) else
  if op = 20 then (if sg n A < sg n B then A else B, 0) else
  if op = 21 then (if A < B then A else B, 0) else
  if op = 22 then (if sg n A < sg n B then B else A, 0) else
  if op = 23 then (if A < B then B else A, 0) else
  if op = 24 then ((A + B + 1) / 2, 0) else
  (if (sg n A * sg n B + 16384) / 32768 > 32767 then 32767 else (sg n A * sg n B + 16384) / 32768 % 65536, 0)

def Ok (n op : Int) : Prop := R n ∧ 1 ≤ op ∧ op ≤ 25 ∧ (op = 25 → n = 16)

theorem bin_no (k : Nat) (n op a b : Int) (h : ¬ Ok n op) : ints_Bin.f (k + 1) n op a b = some (0, 1) := by
  unfold ints_Bin.f
  by_cases hR : R n
  · rw [right_yes n hR]
    simp only [Option.bind_some, if_true]
    by_cases h1 : op < 1
    · rw [if_pos h1]; simp [ints_Bin.j0]
    rw [if_neg h1]
    by_cases h2 : op > 25
    · rw [if_pos h2]; simp [ints_Bin.j0]
    rw [if_neg h2]
    have h3 : op = 25 ∧ n ≠ 16 := by
      refine Classical.byContradiction fun h3 => h ⟨hR, by omega, by omega, fun h4 => Classical.byContradiction fun h5 => h3 ⟨h4, h5⟩⟩
    rw [if_pos h3.1]
    have : (n != 16) = true := by simp [h3.2]
    rw [this]; simp [ints_Bin.j0]
  · rw [right_no n hR]
    simp [ints_Bin.j0]

theorem bin_enter (k : Nat) (n op a b : Int) (h : Ok n op) (a0 : 0 ≤ a) (a1 : a < 18446744073709551616) (b0 : 0 ≤ b) (b1 : b < 18446744073709551616) :
    ints_Bin.f (k + 1) n op a b = ints_Bin.j1 k n op (a % pw n) (b % pw n) (pw n - 1) 0 (decide (4 ≤ op ∧ op ≤ 7)) := by
  obtain ⟨hR, h1, h2, h3⟩ := h
  unfold ints_Bin.f
  rw [right_yes n hR]
  simp only [Option.bind_some, if_true]
  rw [if_neg (by omega), if_neg (by omega)]
  have e : (if op = 25 then ints_Bin.j0 (k + 1) n op a b (n != 16) else ints_Bin.j0 (k + 1) n op a b false) = ints_Bin.j0 (k + 1) n op a b false := by
    split
    · rename_i h4; rw [h3 h4]; rfl
    · rfl
  rw [e]
  simp only [ints_Bin.j0, Bool.false_eq_true, if_false]
  rw [mask_ok n hR]
  simp only [Option.bind_some]
  rw [and_mask n a hR a0 a1, and_mask n b hR b0 b1]
  split
  · congr 1
    rw [Bool.eq_iff_iff]; simp; omega
  · congr 1
    rw [Bool.eq_iff_iff]; simp; omega

theorem bin_plain (k : Nat) (n op a b : Int) (h : Ok n op) (hop : op < 4 ∨ 8 ≤ op ∧ op ≤ 10) (a0 : 0 ≤ a) (a1 : a < 18446744073709551616) (b0 : 0 ≤ b) (b1 : b < 18446744073709551616) :
    ints_Bin.f (k + 3) n op a b = (ints_plain.f op (a % pw n) (b % pw n)).bind fun t => some (Go.bits .and .u64 t (pw n - 1), 0) := by
  rw [bin_enter (k + 2) n op a b h a0 a1 b0 b1, decide_eq_false (by omega)]
  simp only [ints_Bin.j1, Bool.false_eq_true, if_false]
  have e : (if op ≥ 11 then ints_Bin.j2 (k + 1) n op (a % pw n) (b % pw n) (pw n - 1) 0 (decide (op ≤ 15)) else ints_Bin.j2 (k + 1) n op (a % pw n) (b % pw n) (pw n - 1) 0 false) = ints_Bin.j2 (k + 1) n op (a % pw n) (b % pw n) (pw n - 1) 0 false := by
    rw [if_neg (by omega)]
  rw [e]
  simp only [ints_Bin.j2, Bool.false_eq_true, if_false]
  rw [if_neg (by omega)]
theorem bin_div (k : Nat) (n op a b : Int) (h : Ok n op) (hop : 4 ≤ op ∧ op ≤ 7) (a0 : 0 ≤ a) (a1 : a < 18446744073709551616) (b0 : 0 ≤ b) (b1 : b < 18446744073709551616) :
    ints_Bin.f (k + 3) n op a b = (ints_divided.f (k + 1) n op (a % pw n) (b % pw n)).bind fun t => some (Go.bits .and .u64 t.1 (pw n - 1), t.2) := by
  rw [bin_enter (k + 2) n op a b h a0 a1 b0 b1, decide_eq_true (by omega)]
  simp only [ints_Bin.j1, if_true]
theorem bin_mov (k : Nat) (n op a b : Int) (h : Ok n op) (hop : 11 ≤ op ∧ op ≤ 15) (a0 : 0 ≤ a) (a1 : a < 18446744073709551616) (b0 : 0 ≤ b) (b1 : b < 18446744073709551616) :
    ints_Bin.f (k + 3) n op a b = (ints_moved.f n op (a % pw n) (b % pw n % n)).bind fun t => some (Go.bits .and .u64 t (pw n - 1), 0) := by
  have hn : 8 ≤ n ∧ n ≤ 64 := by have := h.1; unfold R at this; omega
  rw [bin_enter (k + 2) n op a b h a0 a1 b0 b1, decide_eq_false (by omega)]
  simp only [ints_Bin.j1, Bool.false_eq_true, if_false]
  rw [if_pos (by omega), decide_eq_true (by omega)]
  simp only [ints_Bin.j2, if_true]
  rw [wr_u n (by omega) (by omega), if_neg (by omega), Int.tmod_eq_emod_of_nonneg (cut_bounds n b).1]
theorem bin_held (k : Nat) (n op a b : Int) (h : Ok n op) (hop : 16 ≤ op) (a0 : 0 ≤ a) (a1 : a < 18446744073709551616) (b0 : 0 ≤ b) (b1 : b < 18446744073709551616) :
    ints_Bin.f (k + 3) n op a b = (ints_held.f k n op (a % pw n) (b % pw n)).bind fun t => some (Go.bits .and .u64 t (pw n - 1), 0) := by
  rw [bin_enter (k + 2) n op a b h a0 a1 b0 b1, decide_eq_false (by omega)]
  simp only [ints_Bin.j1, Bool.false_eq_true, if_false]
  rw [if_pos (by omega), decide_eq_false (by omega)]
  simp only [ints_Bin.j2, Bool.false_eq_true, if_false]
  rw [if_pos (by omega)]

theorem pw_dvd (n : Int) (h : R n) : pw n ∣ 18446744073709551616 := by
  rcases h with rfl | rfl | rfl | rfl
  · exact ⟨72057594037927936, by decide⟩
  · exact ⟨281474976710656, by decide⟩
  · exact ⟨4294967296, by decide⟩
  · exact ⟨1, by decide⟩
theorem big_cut (n x : Int) (h : R n) : x % 18446744073709551616 % pw n = x % pw n := Int.emod_emod_of_dvd x (pw_dvd n h)
theorem wrap_cut (n x : Int) (h : R n) : Go.bits .and .u64 (IntKind.u64.wrap x) (pw n - 1) = x % pw n := by
  have hb : 0 ≤ IntKind.u64.wrap x ∧ IntKind.u64.wrap x < 18446744073709551616 := by rw [IntKind.wrap_u64]; omega
  rw [and_mask n _ h hb.1 hb.2, IntKind.wrap_u64, big_cut n x h]

theorem pw_two (n : Int) (h : R n) : ∃ d : Nat, d ≤ 64 ∧ pw n = ((2 ^ d : Nat) : Int) := by
  rcases h with rfl | rfl | rfl | rfl
  · exact ⟨8, by omega, by decide⟩
  · exact ⟨16, by omega, by decide⟩
  · exact ⟨32, by omega, by decide⟩
  · exact ⟨64, by omega, by decide⟩
theorem bits_cut (n : Int) (h : R n) (x : Nat) (hx : (x : Int) < pw n) : Go.bits .and .u64 (x : Int) (pw n - 1) = x := by
  have hp := pw_pos n
  rw [and_mask n _ h (by omega) (by omega)]
  exact Int.emod_eq_of_lt (by omega) hx
section
variable (k : Nat) (n a b : Int) (h : R n) (a0 : 0 ≤ a) (a1 : a < 18446744073709551616) (b0 : 0 ≤ b) (b1 : b < 18446744073709551616)
include h a0 a1 b0 b1
theorem op1 : ints_Bin.f (k + 3) n 1 a b = some (binI n 1 (a % pw n) (b % pw n)) := by
  rw [bin_plain k n 1 a b ⟨h, by omega, by omega, by omega⟩ (by omega) a0 a1 b0 b1]
  show some (Go.bits .and .u64 (IntKind.u64.wrap _) _, (0 : Int)) = _
  rw [wrap_cut n _ h]; rfl
theorem op2 : ints_Bin.f (k + 3) n 2 a b = some (binI n 2 (a % pw n) (b % pw n)) := by
  rw [bin_plain k n 2 a b ⟨h, by omega, by omega, by omega⟩ (by omega) a0 a1 b0 b1]
  show some (Go.bits .and .u64 (IntKind.u64.wrap (_ + IntKind.u64.wrap _)) _, (0 : Int)) = _
  rw [wrap_cut n _ h, IntKind.wrap_u64, ← big_cut n _ h, Int.add_emod_emod, big_cut n _ h]; rfl
theorem op3 : ints_Bin.f (k + 3) n 3 a b = some (binI n 3 (a % pw n) (b % pw n)) := by
  rw [bin_plain k n 3 a b ⟨h, by omega, by omega, by omega⟩ (by omega) a0 a1 b0 b1]
  show some (Go.bits .and .u64 (IntKind.u64.wrap _) _, (0 : Int)) = _
  rw [wrap_cut n _ h]; rfl
theorem op8 : ints_Bin.f (k + 3) n 8 a b = some (binI n 8 (a % pw n) (b % pw n)) := by
  rw [bin_plain k n 8 a b ⟨h, by omega, by omega, by omega⟩ (by omega) a0 a1 b0 b1]
  show some (Go.bits .and .u64 (Go.bits .and .u64 _ _) _, (0 : Int)) = _
  have ca := cut_bounds n a; have cb := cut_bounds n b; have hp := pw_pos n
  rw [u64_and _ _ ca.1 (by omega) cb.1 (by omega)]
  obtain ⟨d, hd, e⟩ := pw_two n h
  rw [bits_cut n h _ (by
    have := Nat.and_lt_two_pow (a % pw n).toNat (show (b % pw n).toNat < 2 ^ d by omega)
    omega)]
  rfl
theorem op9 : ints_Bin.f (k + 3) n 9 a b = some (binI n 9 (a % pw n) (b % pw n)) := by
  rw [bin_plain k n 9 a b ⟨h, by omega, by omega, by omega⟩ (by omega) a0 a1 b0 b1]
  show some (Go.bits .and .u64 (Go.bits .or .u64 _ _) _, (0 : Int)) = _
  have ca := cut_bounds n a; have cb := cut_bounds n b; have hp := pw_pos n
  rw [u64_or _ _ ca.1 (by omega) cb.1 (by omega)]
  obtain ⟨d, hd, e⟩ := pw_two n h
  rw [bits_cut n h _ (by
    have := Nat.or_lt_two_pow (show (a % pw n).toNat < 2 ^ d by omega) (show (b % pw n).toNat < 2 ^ d by omega)
    omega)]
  rfl
theorem op10 : ints_Bin.f (k + 3) n 10 a b = some (binI n 10 (a % pw n) (b % pw n)) := by
  rw [bin_plain k n 10 a b ⟨h, by omega, by omega, by omega⟩ (by omega) a0 a1 b0 b1]
  show some (Go.bits .and .u64 (Go.bits .xor .u64 _ _) _, (0 : Int)) = _
  have ca := cut_bounds n a; have cb := cut_bounds n b; have hp := pw_pos n
  rw [u64_xor _ _ ca.1 (by omega) cb.1 (by omega)]
  obtain ⟨d, hd, e⟩ := pw_two n h
  rw [bits_cut n h _ (by
    have := Nat.xor_lt_two_pow (show (a % pw n).toNat < 2 ^ d by omega) (show (b % pw n).toNat < 2 ^ d by omega)
    omega)]
  rfl
end
end Go.Proofs.YtajmjmnlapplaaaDoor.Pure
