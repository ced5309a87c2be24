/-
  The program's Convert, in closed form. No condition but that a word is one.
-/
import Derived.Test.YtonofklhapfdpaaCa
import Derived.Test.YtonofklhapfdpaaPureConvHeld
namespace Go.Proofs.Ytonofklhapfdpaa.Pure
set_option linter.unusedVariables false
set_option linter.unusedSimpArgs false
open Go.RowKit Go.Proofs.Ytonofklhapfdpaa.PConv Go.Proofs.Ytonofklhapfdpaa.Fl Go.Proofs.YtonofklhapfdpaaW.PrintWords Go.Proofs.YtonofklhapfdpaaW.PrintLast

/-- An integer of so many bits, with its sign. -/
def sgnOf (n : Int) (a : Nat) : Int := if n = 32 then (if a < 2147483648 then (a : Int) else (a : Int) - 4294967296) else (if a < 9223372036854775808 then (a : Int) else (a : Int) - 18446744073709551616)
def convF (fr dst : Int) (signed : Bool) (a : Nat) : Nat :=
  if signed = true ∧ sgnOf fr (wOf fr a) < 0 then (fmtOf dst).nearest true (sgnOf fr (wOf fr a)).natAbs 0 else (fmtOf dst).nearest false (wOf fr a) 0
theorem w_lt {n : Int} (h : Rt n) (a : Nat) (ha : a < 18446744073709551616) : (n = 32 → wOf n a < 4294967296) ∧ wOf n a < 18446744073709551616 := by
  unfold wOf
  rcases h with rfl | rfl
  · rw [if_pos rfl]; omega
  · rw [if_neg (by decide)]; omega
theorem shr_i64 (x : Int) (d : Nat) (hd : d ≤ 64) : shr .i64 x (d : Int) = x / (2 ^ d : Nat) := by
  unfold shr
  rw [show min (d : Int).toNat IntKind.i64.bits = d from by rw [Int.toNat_natCast]; exact Nat.min_eq_left hd]
  rw [Int.natCast_pow]; rfl
theorem c_Signed (n : Int) (h : Rt n) (A : Nat) (h32 : n = 32 → A < 4294967296) (h64 : A < 18446744073709551616) : ints_Signed.f n A = some (sgnOf n A) := by
  unfold ints_Signed.f ints_right.f sgnOf
  rcases h with rfl | rfl
  · rw [if_neg (by decide), if_neg (by decide), if_pos rfl]
    simp only [Option.bind_some]
    have e : IntKind.u64.wrap (64 - IntKind.u64.wrap 32) = ((32 : Nat) : Int) := by decide
    have hA := h32 rfl
    rw [if_pos True.intro, e, if_pos (by decide), shl_nat A 32 (by omega) (by decide), shr_i64 _ 32 (by decide), if_pos True.intro]
    congr 1
    have hp : (2 : Nat) ^ 32 = 4294967296 := by decide
    rw [hp]
    unfold wrap64
    split <;> omega
  · rw [if_neg (by decide), if_neg (by decide), if_neg (by decide)]
    simp only [Option.bind_some]
    have e : IntKind.u64.wrap (64 - IntKind.u64.wrap 64) = ((0 : Nat) : Int) := by decide
    rw [if_pos (by decide), e, if_pos (by decide), shl_nat A 0 (by omega) (by decide), shr_i64 _ 0 (by decide), if_neg (by decide)]
    congr 1
    have hp : (2 : Nat) ^ 0 = 1 := by decide
    rw [hp]
    unfold wrap64
    split <;> omega
theorem nearest_two (f : Ieee.Format) (neg : Bool) (m : Nat) : f.nearest neg (2 * m + (false : Bool).toNat) (0 - 1) = f.nearest neg m 0 := by
  have h := nearest_scale f neg m 1 (-1)
  rw [show m * 2 ^ 1 = 2 * m + (false : Bool).toNat from by simp; omega] at h
  exact h
theorem c_Round0 (n : Int) (h : Rt n) (neg : Bool) (m : Nat) (hm : m < 18446744073709551616) (k : Nat) (hk : 4 ≤ k) : floats_Round.f k n neg m 0 false = some ((((fmtOf n).nearest neg m 0 : Nat) : Int), 0) := by
  rw [c_Round n neg m hm 0 false k hk]
  unfold roundF
  rw [if_neg (fun x => x.elim (fun y => by rcases h with rfl | rfl <;> omega) (fun y => by cases y.1)), nearest_two]
theorem and32c (a : Nat) (ha : a < 18446744073709551616) : Go.bits .and .u64 (a : Int) 4294967295 = ((a % 4294967296 : Nat) : Int) := by
  have := and_mask a 32 ha (by decide)
  rwa [show ((2 ^ 32 : Nat) : Int) - 1 = 4294967295 from by decide, show (2 : Nat) ^ 32 = 4294967296 from by decide] at this
theorem c_Convert (fr dst : Int) (hf : Rt fr) (ht : Rt dst) (signed : Bool) (a : Nat) (ha : a < 18446744073709551616) (k : Nat) (hk : 6 ≤ k) : conv_Convert.f k fr dst signed a = some (((convF fr dst signed a : Nat) : Int), 0) := by
  obtain ⟨k, rfl⟩ : ∃ j, k = j + 2 := ⟨k - 2, by omega⟩
  have hw := w_lt hf a ha
  have j1 : conv_Convert.j1 (k + 1) fr dst signed (wOf fr a : Nat) false = some (((convF fr dst signed a : Nat) : Int), 0) := by
    simp only [conv_Convert.j1]
    rw [c_Signed fr hf (wOf fr a) hw.1 hw.2]
    simp only [Option.bind_some]
    unfold convF
    cases signed
    · rw [if_neg Bool.false_ne_true, if_neg (fun x => by cases x.1), c_Round0 dst ht false _ hw.2 k (by omega)]
      simp only [Option.bind_some]
    · rw [if_pos rfl]
      by_cases hs : sgnOf fr (wOf fr a) < 0
      · have hb : -9223372036854775808 ≤ sgnOf fr (wOf fr a) := by unfold sgnOf; split <;> split <;> omega
        have e : IntKind.u64.wrap (-(IntKind.u64.wrap (sgnOf fr (wOf fr a)))) = ((sgnOf fr (wOf fr a)).natAbs : Int) := by
          rw [IntKind.wrap_u64, IntKind.wrap_u64]; omega
        rw [if_pos hs, if_pos ⟨rfl, hs⟩, e, c_Round0 dst ht true _ (by omega) k (by omega)]
        simp only [Option.bind_some]
      · rw [if_neg hs, if_neg (fun x => hs x.2), c_Round0 dst ht false _ hw.2 k (by omega)]
        simp only [Option.bind_some]
  unfold conv_Convert.f
  rw [right_y fr hf, right_y dst ht]
  simp only [Option.bind_some]
  rw [if_pos True.intro]
  simp only [conv_Convert.j0, Bool.not_true]
  rw [if_neg Bool.false_ne_true]
  by_cases h : fr = 32
  · rw [if_pos h, and32c a ha]
    have e : wOf fr a = a % 4294967296 := by unfold wOf; rw [if_pos h]; omega
    rw [← e]; exact j1
  · rw [if_neg h]
    have e : wOf fr a = a := by unfold wOf; rw [if_neg h]; omega
    rw [e] at j1; exact j1
theorem c_ConvertBad (fr dst : Int) (h : ¬ (Rt fr ∧ Rt dst)) (signed : Bool) (a : Int) (k : Nat) (hk : 1 ≤ k) : conv_Convert.f k fr dst signed a = some (0, 1) := by
  obtain ⟨k, rfl⟩ : ∃ j, k = j + 1 := ⟨k - 1, by omega⟩
  unfold conv_Convert.f
  by_cases hf : Rt fr
  · rw [right_y fr hf, right_n dst (fun x => h ⟨hf, x⟩)]
    simp only [Option.bind_some]
    rw [if_pos True.intro]
    simp only [conv_Convert.j0, Bool.not_false]
    rw [if_pos True.intro]
  · rw [right_n fr hf]
    simp only [Option.bind_some]
    rw [if_neg Bool.false_ne_true]
    simp only [conv_Convert.j0]
    rw [if_pos True.intro]
end Go.Proofs.Ytonofklhapfdpaa.Pure
