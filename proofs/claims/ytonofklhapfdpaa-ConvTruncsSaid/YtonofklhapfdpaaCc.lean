/-
  The walks of the reference's Cut, bit, Right, Signed at 32 and 64 bits (conv). No condition but that a word is one.
-/
import Derived.Test.YtonofklhapfdpaaCb
import Derived.Lib.Hide
namespace Go.Proofs.Ytonofklhapfdpaa.Pure
set_option linter.unusedVariables false
set_option linter.unusedSimpArgs false
open Go.RowKit Go.Proofs.Ytonofklhapfdpaa.PConv Go.Proofs.Ytonofklhapfdpaa.Fl Go.Proofs.YtonofklhapfdpaaW.PrintWords Go.Proofs.YtonofklhapfdpaaW.PrintLast

def CutR (i m : Value) : Prop := ∃ k M : Nat, i = .int .i64 k ∧ m = .int .u64 M ∧ k ≤ 32 ∧ M = 2 ^ k
theorem two_le {k : Nat} (h : k ≤ 32) : 2 ^ k ≤ 4294967296 := by
  have := Nat.pow_le_pow_right (show 0 < 2 by decide) h
  exact this
set_option maxRecDepth 100000 in
theorem cut32 (a : Nat) (w : World) : Calls Try.prog 36 #[.int .i64 32, .int .u64 (a : Int)] w fun e w' => e = .returned (.int .u64 ((a % 4294967296 : Nat) : Int)) ∧ w = w' := by
  go_enter Try.func36, Try.ntmps36
  go_wp2
  go_loop [5, 6] (fun m i => CutR i m) (fun _ i => 32 - (intOf i).toNat)
  case atStart => exact ⟨0, 1, rfl, rfl, by decide, rfl⟩
  case round =>
    obtain ⟨k, M, rfl, rfl, hk, hM⟩ := hrel
    have hm := two_le hk
    rw [← hM] at hm
    have HM := Lib.hid hM
    clear hM
    by_cases hlt : (k : Int) < 32
    · have hp : IntKind.u64.wrap ((M : Int) * 2) = ((M * 2 : Nat) : Int) := by rw [IntKind.wrap_u64]; omega
      go_wp2
      go_round
      case rel => exact ⟨k + 1, M * 2, by go_num, by go_num, by omega, by rw [HM.out, Nat.pow_succ]⟩
      case measure => simp [intOf]; omega
    · obtain rfl : k = 32 := by omega
      have hM2 : M = 4294967296 := HM.out
      subst hM2
      clear hlt
      go_wp2
      go_ret
      exact ⟨rfl, rfl⟩
theorem cut64 (a : Nat) (w : World) : Calls Try.prog 36 #[.int .i64 64, .int .u64 (a : Int)] w fun e w' => e = .returned (.int .u64 (a : Int)) ∧ w = w' := by
  go_enter Try.func36, Try.ntmps36
  go_wp2
  go_ret
  exact ⟨rfl, rfl⟩
def BitR (n : Nat) (a : Nat) (x i : Value) : Prop := ∃ k X : Nat, i = .int .i64 k ∧ x = .int .u64 X ∧ k ≤ n ∧ X = a / 2 ^ k
set_option maxRecDepth 100000 in
theorem bit_c (a n : Nat) (ha : a < 18446744073709551616) (hn : n ≤ 64) (w : World) : Calls Try.prog 50 #[.int .u64 (a : Int), .int .i64 (n : Int)] w fun e w' => e = .returned (.int .u64 ((a / 2 ^ n % 2 : Nat) : Int)) ∧ w = w' := by
  obtain ⟨R, hR⟩ : ∃ R, R = a / 2 ^ n % 2 := ⟨_, rfl⟩
  have HR := Lib.hid hR
  have HA := Lib.hid ha
  rw [← hR]
  clear hR ha
  go_enter Try.func50, Try.ntmps50
  go_wp2
  go_loop [0, 5] (BitR n a) (fun _ i => n - (intOf i).toNat)
  case atStart => exact ⟨0, a, rfl, rfl, Nat.zero_le _, by simp⟩
  case round =>
    obtain ⟨k, X, rfl, rfl, hk, hX⟩ := hrel
    have HX := Lib.hid hX
    have hXa : X ≤ a := by rw [hX]; exact Nat.div_le_self _ _
    have hq : IntKind.u64.wrap ((X : Int) / 2) = ((X / 2 : Nat) : Int) := by have := HA.out; rw [IntKind.wrap_u64]; omega
    clear hX
    by_cases hlt : (k : Int) < (n : Int)
    · go_wp2
      go_round
      case rel => exact ⟨k + 1, X / 2, by go_num, by go_num, by omega, by rw [HX.out, Nat.div_div_eq_div_mul, Nat.pow_succ]⟩
      case measure => simp [intOf]; omega
    · obtain rfl : k = n := by omega
      clear hlt
      go_wp2
      go_ret
      exact ⟨by rw [HR.out, ← HX.out]; simp, rfl⟩
theorem rightR_c (n : Int) (h : Rt n) (w : World) : Calls Try.prog 49 #[.int .i64 n] w fun e w' => e = .returned (.bool true) ∧ w = w' := by
  rcases h with rfl | rfl
  · go_enter Try.func49, Try.ntmps49
    go_wp2
    go_ret
    exact ⟨rfl, rfl⟩
  · go_enter Try.func49, Try.ntmps49
    go_wp2
    go_ret
    exact ⟨rfl, rfl⟩
def SgQ (r : Int) (w : World) (e : Ending) (w' : World) : Prop := e = .returned (.int .i64 r) ∧ w = w'
set_option maxRecDepth 100000 in
theorem signed32 (a : Nat) (ha : a < 4294967296) (w : World) : Calls Try.prog 37 #[.int .i64 32, .int .u64 (a : Int)] w (SgQ (sgnOf 32 a) w) := by
  have hc : (a % 4294967296 : Nat) = a := by omega
  have hcut := cut32 a
  rw [hc] at hcut
  have HC := Lib.hid hcut
  have hA : (a : Int) ≤ 4294967295 := by omega
  by_cases hs : a < 2147483648
  · have hb : a / 2 ^ 31 % 2 = 0 := by have : (2 : Nat) ^ 31 = 2147483648 := by decide
                                       rw [this]; omega
    have hbit := bit_c a 31 (by omega) (by decide)
    rw [hb] at hbit
    simp only [Int.natCast_one, Int.natCast_zero] at hbit
    have HB := Lib.hid hbit
    have he : sgnOf 32 a = (a : Int) := by unfold sgnOf; rw [if_pos rfl, if_pos hs]
    rw [he]
    have hw : IntKind.i64.wrap (a : Int) = (a : Int) := by rw [IntKind.wrap_i64]; omega
    clear hc hcut hb hbit he hs
    go_enter Try.func37, Try.ntmps37
    go_wp2_with (first | (go_at_call 49; refine (rightR_c 32 (.inl rfl) _).mono ?_; rintro e w1 ⟨rfl, rfl⟩) | (go_at_call 36; refine (HC.out _).mono ?_; rintro e w1 ⟨rfl, rfl⟩) | (go_at_call 50; refine (HB.out _).mono ?_; rintro e w1 ⟨rfl, rfl⟩))
    go_ret
    exact ⟨rfl, rfl⟩
  · have hb : a / 2 ^ 31 % 2 = 1 := by have : (2 : Nat) ^ 31 = 2147483648 := by decide
                                       rw [this]; omega
    have hbit := bit_c a 31 (by omega) (by decide)
    rw [hb] at hbit
    simp only [Int.natCast_one, Int.natCast_zero] at hbit
    have HB := Lib.hid hbit
    obtain ⟨x, hx⟩ : ∃ x : Nat, x = 18446744073709551616 - a := ⟨_, rfl⟩
    have h0 : IntKind.u64.wrap (0 - (a : Int)) = (x : Int) := by rw [IntKind.wrap_u64]; omega
    have h0' : IntKind.u64.wrap (-(a : Int)) = (x : Int) := by rw [IntKind.wrap_u64]; omega
    obtain ⟨y, hy⟩ : ∃ y : Nat, y = x % 4294967296 := ⟨_, rfl⟩
    have hcut2 := cut32 x
    rw [← hy] at hcut2
    have HC2 := Lib.hid hcut2
    have hy2 : (y : Int) = 4294967296 - (a : Int) := by omega
    have h1 : IntKind.u64.wrap ((y : Int) - 1) = (y : Int) - 1 := by rw [IntKind.wrap_u64]; omega
    have h2 : IntKind.i64.wrap ((y : Int) - 1) = (y : Int) - 1 := by rw [IntKind.wrap_i64]; omega
    have h3 : IntKind.i64.wrap (-((y : Int) - 1)) = -((y : Int) - 1) := by rw [IntKind.wrap_i64]; omega
    have h4 : IntKind.i64.wrap (-((y : Int) - 1) - 1) = -((y : Int) - 1) - 1 := by rw [IntKind.wrap_i64]; omega
    have hyb : 1 ≤ (y : Int) ∧ (y : Int) ≤ 2147483648 := by omega
    have HE : Hid (sgnOf 32 a = -((y : Int) - 1) - 1) := Lib.hid (by unfold sgnOf; rw [if_pos rfl, if_neg hs]; omega)
    clear hc hcut hb hbit hcut2 hy hx hy2
    go_enter Try.func37, Try.ntmps37
    go_wp2_with (first | (go_at_call 49; refine (rightR_c 32 (.inl rfl) _).mono ?_; rintro e w1 ⟨rfl, rfl⟩) | (go_at_call 36; ((with_reducible refine (HC.out _).mono ?_)); rintro e w1 ⟨rfl, rfl⟩) | (go_at_call 36; ((with_reducible refine (HC2.out _).mono ?_)); rintro e w1 ⟨rfl, rfl⟩) | (go_at_call 50; refine (HB.out _).mono ?_; rintro e w1 ⟨rfl, rfl⟩))
    go_ret
    exact ⟨by rw [HE.out]; rfl, rfl⟩
set_option maxRecDepth 100000 in
theorem signed64 (a : Nat) (ha : a < 18446744073709551616) (w : World) : Calls Try.prog 37 #[.int .i64 64, .int .u64 (a : Int)] w (SgQ (sgnOf 64 a) w) := by
  have HC := Lib.hid (cut64 a)
  by_cases hs : a < 9223372036854775808
  · have hb : a / 2 ^ 63 % 2 = 0 := by have : (2 : Nat) ^ 63 = 9223372036854775808 := by decide
                                       rw [this]; omega
    have hbit := bit_c a 63 ha (by decide)
    rw [hb] at hbit
    simp only [Int.natCast_one, Int.natCast_zero] at hbit
    have HB := Lib.hid hbit
    have HE : Hid (sgnOf 64 a = (a : Int)) := Lib.hid (by unfold sgnOf; rw [if_neg (by decide), if_pos hs])
    have hw : IntKind.i64.wrap (a : Int) = (a : Int) := by rw [IntKind.wrap_i64]; omega
    clear hb hbit hs ha
    go_enter Try.func37, Try.ntmps37
    go_wp2_with (first | (go_at_call 49; refine (rightR_c 64 (.inr rfl) _).mono ?_; rintro e w1 ⟨rfl, rfl⟩) | (go_at_call 36; refine (HC.out _).mono ?_; rintro e w1 ⟨rfl, rfl⟩) | (go_at_call 50; refine (HB.out _).mono ?_; rintro e w1 ⟨rfl, rfl⟩))
    go_ret
    exact ⟨by rw [HE.out]; rfl, rfl⟩
  · have hb : a / 2 ^ 63 % 2 = 1 := by have : (2 : Nat) ^ 63 = 9223372036854775808 := by decide
                                       rw [this]; omega
    have hbit := bit_c a 63 ha (by decide)
    rw [hb] at hbit
    simp only [Int.natCast_one, Int.natCast_zero] at hbit
    have HB := Lib.hid hbit
    obtain ⟨x, hx⟩ : ∃ x : Nat, x = 18446744073709551616 - a := ⟨_, rfl⟩
    have h0 : IntKind.u64.wrap (0 - (a : Int)) = (x : Int) := by rw [IntKind.wrap_u64]; omega
    have h0' : IntKind.u64.wrap (-(a : Int)) = (x : Int) := by rw [IntKind.wrap_u64]; omega
    have HC2 := Lib.hid (cut64 x)
    obtain ⟨z, hz⟩ : ∃ z : Int, z = (x : Int) - 1 := ⟨_, rfl⟩
    have h1 : IntKind.u64.wrap ((x : Int) - 1) = z := by rw [IntKind.wrap_u64]; omega
    have h2 : IntKind.i64.wrap z = z := by rw [IntKind.wrap_i64]; omega
    have h3 : IntKind.i64.wrap (-z) = -z := by rw [IntKind.wrap_i64]; omega
    have h4 : IntKind.i64.wrap (-z - 1) = -z - 1 := by rw [IntKind.wrap_i64]; omega
    have HE : Hid (sgnOf 64 a = -z - 1) := Lib.hid (by unfold sgnOf; rw [if_neg (by decide), if_neg hs]; omega)
    clear hb hbit hx hz hs ha
    go_enter Try.func37, Try.ntmps37
    go_wp2_with (first | (go_at_call 49; refine (rightR_c 64 (.inr rfl) _).mono ?_; rintro e w1 ⟨rfl, rfl⟩) | (go_at_call 36; ((with_reducible refine (HC.out _).mono ?_)); rintro e w1 ⟨rfl, rfl⟩) | (go_at_call 36; ((with_reducible refine (HC2.out _).mono ?_)); rintro e w1 ⟨rfl, rfl⟩) | (go_at_call 50; refine (HB.out _).mono ?_; rintro e w1 ⟨rfl, rfl⟩))
    go_ret
    exact ⟨by rw [HE.out]; rfl, rfl⟩
end Go.Proofs.Ytonofklhapfdpaa.Pure
