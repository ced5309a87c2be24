/-
  math/bits' count of bits is the sum of the bits; a number that is moved round has as many.
-/
import Derived.Test.YtajmjmnlapplaaaDoorPop
import Derived.Laws.BitsAllLaws
namespace Go.Proofs.YtajmjmnlapplaaaDoor.Pure
set_option linter.unusedVariables false
set_option linter.unusedSimpArgs false
open Go.RowKit Go.Proofs.YtajmjmnlapplaaaDoor.PInts Go.Proofs.YtajmjmnlapplaaaDoorW.PrintWords Go.Proofs.YtajmjmnlapplaaaDoorW.PrintLast

theorem bs_le (c : Nat) (g : Nat → Nat) (hg : ∀ b, b < 256 → g b ≤ c) (k : Nat) : ∀ x, 255 * bs k g x + c ≤ c * 256 ^ k := by
  induction k with
  | zero => intro x; simp [bs]
  | succ k ih =>
    intro x
    have h1 := ih (x / 256)
    have h2 := hg (x % 256) (by omega)
    simp only [bs]
    rw [Nat.pow_succ, ← Nat.mul_assoc]
    omega
theorem f12_le : ∀ b : Fin 256, f2 (f1 b.val) ≤ 68 := by decide +kernel
theorem bs1_lt (x : Nat) : bs 8 f1 x < 18446744073709551616 := by
  have := bs_le 255 f1 (fun b hb => by have := f1_lt ⟨b, hb⟩; simp only at this; omega) 8 x
  simp only [Nat.reducePow, Nat.reduceMul] at this
  omega
theorem bs2_lt (x : Nat) : bs 8 (fun b => f2 (f1 b)) x < 4919131752989213765 := by
  have := bs_le 68 (fun b => f2 (f1 b)) (fun b hb => f12_le ⟨b, hb⟩) 8 x
  simp only [Nat.reducePow, Nat.reduceMul] at this
  omega
theorem bs3_lt (x : Nat) : bs 8 (pc 8) x < 1000000000000000000 := by
  have := bs_le 8 (pc 8) (fun b hb => pc_le 8 b) 8 x
  simp only [Nat.reducePow, Nat.reduceMul] at this
  omega
theorem c1 (X : Nat) (h : X < 18446744073709551616) : IntKind.u64.wrap (Go.bits .and .u64 ((X : Int) / 2) 6148914691236517205 + Go.bits .and .u64 (X : Int) 6148914691236517205) = ((bs 8 f1 X : Nat) : Int) := by
  have e1 : ((X : Int) / 2) = ((X / 2 : Nat) : Int) := by omega
  have e2 : (6148914691236517205 : Int) = ((rep 8 85 : Nat) : Int) := by decide
  have := bs1_lt X
  rw [e1, e2, u64_and_nat _ _ (by omega) (by decide), u64_and_nat _ _ h (by decide), ← Int.natCast_add, s1 8 X, wr_u _ (by omega) (by omega)]
theorem c2 (X : Nat) : IntKind.u64.wrap (Go.bits .and .u64 (((bs 8 f1 X : Nat) : Int) / 4) 3689348814741910323 + Go.bits .and .u64 ((bs 8 f1 X : Nat) : Int) 3689348814741910323) = ((bs 8 (fun b => f2 (f1 b)) X : Nat) : Int) := by
  have e1 : (((bs 8 f1 X : Nat) : Int) / 4) = ((bs 8 f1 X / 4 : Nat) : Int) := by omega
  have e2 : (3689348814741910323 : Int) = ((rep 8 51 : Nat) : Int) := by decide
  have h := bs1_lt X
  have := bs2_lt X
  rw [e1, e2, u64_and_nat _ _ (by omega) (by decide), u64_and_nat _ _ h (by decide), ← Int.natCast_add, s2 8 X, wr_u _ (by omega) (by omega)]
theorem c3 (X : Nat) : Go.bits .and .u64 (IntKind.u64.wrap (((bs 8 (fun b => f2 (f1 b)) X : Nat) : Int) / 16 + ((bs 8 (fun b => f2 (f1 b)) X : Nat) : Int))) 1085102592571150095 = ((bs 8 (pc 8) X : Nat) : Int) := by
  have e2 : (1085102592571150095 : Int) = ((rep 8 15 : Nat) : Int) := by decide
  have h := bs2_lt X
  have e3 := s3 8 X
  rw [bs_pc] at e3
  generalize bs 8 (fun b => f2 (f1 b)) X = Z at *
  have e1 : (Z : Int) / 16 + (Z : Int) = ((Z / 16 + Z : Nat) : Int) := by omega
  rw [wr_u _ (by omega) (by omega), e1, e2, u64_and_nat _ _ (by omega) (by decide), e3]
theorem u64_nat (Y : Nat) : IntKind.u64.wrap (Y : Int) = ((Y % 18446744073709551616 : Nat) : Int) := by rw [IntKind.wrap_u64]; omega
theorem low7 (Y : Nat) (h : Y < 18446744073709551616) : Go.bits .and .i64 (wrap64 (Y : Int)) 127 = ((Y % 128 : Nat) : Int) := by
  have e : BitVec.ofInt 64 (wrap64 (Y : Int)) = BitVec.ofNat 64 Y := by
    apply BitVec.eq_of_toNat_eq
    rw [BitVec.toNat_ofInt, BitVec.toNat_ofNat]
    unfold wrap64
    omega
  show IntKind.i64.wrap ((BitVec.ofInt 64 (wrap64 (Y : Int)) &&& BitVec.ofInt 64 ((127 : Nat) : Int)).toNat : Int) = _
  rw [e, BitVec.toNat_and, ofInt_u64 127 (by decide), BitVec.toNat_ofNat, nat_mask7]
  rw [IntKind.wrap_i64]
  omega
theorem ones (X : Nat) (h : X < 18446744073709551616) : bits_OnesCount64.f (X : Int) = some ((pc 64 X : Nat) : Int) := by
  unfold bits_OnesCount64.f
  rw [c1 X h, c2 X, c3 X]
  have f := fold8 X h _ _ _ rfl rfl rfl
  generalize bs 8 (pc 8) X = S at *
  rw [show (S : Int) + (S : Int) / 256 = ((S + S / 256 : Nat) : Int) from by omega, u64_nat]
  generalize (S + S / 256) % 18446744073709551616 = y4 at *
  rw [show (y4 : Int) + (y4 : Int) / 65536 = ((y4 + y4 / 65536 : Nat) : Int) from by omega, u64_nat]
  generalize (y4 + y4 / 65536) % 18446744073709551616 = y5 at *
  rw [show (y5 : Int) + (y5 : Int) / 4294967296 = ((y5 + y5 / 4294967296 : Nat) : Int) from by omega, u64_nat, low7 _ (by omega), f]
theorem pc_zero (d : Nat) : pc d 0 = 0 := by
  induction d with
  | zero => rfl
  | succ d ih => simp [pc, ih]
theorem pc_wide (m d x : Nat) (h : x < 2 ^ m) : pc (m + d) x = pc m x := by
  have := pc_split m d x 0 h
  rw [Nat.mul_zero, Nat.add_zero, pc_zero] at this
  exact this
/-- A number of d + e bits, moved round by e. -/
def ro (d e A : Nat) : Nat := A * 2 ^ e % 2 ^ (d + e) + A / 2 ^ d
theorem ro_eq (d e A : Nat) : ro d e A = A / 2 ^ d + 2 ^ e * (A % 2 ^ d) := by
  unfold ro
  rw [Nat.pow_add, Nat.mul_mod_mul_right, Nat.mul_comm (A % 2 ^ d), Nat.add_comm]
theorem hi_lt (d e A : Nat) (h : A < 2 ^ (d + e)) : A / 2 ^ d < 2 ^ e := by
  rw [Nat.pow_add] at h
  exact Nat.div_lt_of_lt_mul h
theorem ro_lt (d e A : Nat) (h : A < 2 ^ (d + e)) : ro d e A < 2 ^ (e + d) := by
  have h1 := hi_lt d e A h
  have h2 : A % 2 ^ d < 2 ^ d := Nat.mod_lt _ (Nat.two_pow_pos d)
  rw [ro_eq, Nat.pow_add]
  have := Nat.mul_le_mul_left (2 ^ e) (show A % 2 ^ d + 1 ≤ 2 ^ d from h2)
  rw [Nat.mul_add, Nat.mul_one] at this
  omega
theorem ro_back (d e A : Nat) (h : A < 2 ^ (d + e)) : ro e d (ro d e A) = A := by
  have h1 := hi_lt d e A h
  rw [ro_eq e d, ro_eq d e, Nat.add_mul_div_left _ _ (Nat.two_pow_pos e), Nat.add_mul_mod_self_left, Nat.div_eq_of_lt h1, Nat.mod_eq_of_lt h1, Nat.zero_add]
  exact Nat.mod_add_div A (2 ^ d)
theorem ro_pc (d e A : Nat) (h : A < 2 ^ (d + e)) : pc (d + e) (ro d e A) = pc (d + e) A := by
  have h1 := hi_lt d e A h
  have h2 := pc_split d e (A % 2 ^ d) (A / 2 ^ d) (Nat.mod_lt _ (Nat.two_pow_pos d))
  rw [Nat.mod_add_div] at h2
  rw [h2, ro_eq, Nat.add_comm d e, pc_split e d _ _ h1, Nat.add_comm]
end Go.Proofs.YtajmjmnlapplaaaDoor.Pure
