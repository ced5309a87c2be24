/-
  The reference's Trunc answers as truncF: what the cases of the walk need. Plain law.
-/
import Derived.Test.YtonofklhapfdpaaCk
namespace Go.Proofs.Ytonofklhapfdpaa.Pure
set_option linter.unusedVariables false
set_option linter.unusedSimpArgs false
open Go.RowKit Go.Proofs.Ytonofklhapfdpaa.PConv Go.Proofs.Ytonofklhapfdpaa.Fl Go.Proofs.Ytonofklhapfdpaa.Ref Go.Proofs.YtonofklhapfdpaaW.PrintWords Go.Proofs.YtonofklhapfdpaaW.PrintLast
open Ieee (Datum)

def xOf (fr : Int) (a : Int) : Nat := if fr = 32 then wd (s32 a) else a.toNat
theorem val_x {fr a : Int} {x : Nat} (h : rungOf (fmtOf fr) (wOf fr a) ≤ (fmtOf fr).infRung) (hf : Rt fr) (hv : Val fr a x) : x = xOf fr a := by
  unfold Val at hv
  unfold xOf
  rcases hf with rfl | rfl
  · rw [if_pos rfl] at hv ⊢; exact hv.1 h
  · rw [if_neg (by decide)] at hv ⊢; exact hv
theorem x_val {fr a : Int} (h : rungOf (fmtOf fr) (wOf fr a) ≤ (fmtOf fr).infRung) (hf : Rt fr) : Val fr a (xOf fr a) := by
  unfold Val xOf
  rcases hf with rfl | rfl
  · rw [if_pos rfl, if_pos rfl]; exact ⟨fun _ => rfl, fun y => absurd h (by have : Ieee.single.infRung < rungOf Ieee.single (s32 a) := y; exact Nat.not_le.2 y)⟩
  · rw [if_neg (by decide), if_neg (by decide)]

/-- Comparisons with a whole number. -/
theorem lt_T {v c A B : Nat} {s t β : Bool} (hv : IsT v s A) (hc : IsT c t B) (h : β = decide (sg s A < sg t B)) : (FloatKind.f64.format.order v c == some Ordering.lt) = β := by
  rw [show FloatKind.f64.format.order v c = _ from order_T hv hc, h]
  show (some (if sg s A < sg t B then Ordering.lt else if sg s A = sg t B then .eq else .gt) == some Ordering.lt) = _
  by_cases x : sg s A < sg t B
  · rw [if_pos x, decide_eq_true x]; rfl
  · rw [if_neg x, decide_eq_false x]; split <;> rfl
theorem ge_T {v c A B : Nat} {s t β : Bool} (hv : IsT v s A) (hc : IsT c t B) (h : β = decide (sg t B ≤ sg s A)) : (FloatKind.f64.format.order v c == some Ordering.gt || FloatKind.f64.format.order v c == some Ordering.eq) = β := by
  rw [show FloatKind.f64.format.order v c = _ from order_T hv hc, h]
  show (some (if sg s A < sg t B then Ordering.lt else if sg s A = sg t B then .eq else .gt) == some Ordering.gt || some (if sg s A < sg t B then Ordering.lt else if sg s A = sg t B then .eq else .gt) == some Ordering.eq) = _
  by_cases x : sg s A < sg t B
  · rw [if_pos x, decide_eq_false (by omega)]; rfl
  · rw [if_neg x, decide_eq_true (by omega)]; split <;> rfl
theorem lt_I {v c B : Nat} {s t : Bool} (hv : Ieee.double.read v = .infinity s) (hc : IsT c t B) : (FloatKind.f64.format.order v c == some Ordering.lt) = s := by
  obtain ⟨m, k, p, l, h1, _⟩ := hc.out
  show (Datum.order (Ieee.double.read v) (Ieee.double.read c) == some Ordering.lt) = s
  rw [hv, h1]; cases s <;> rfl
theorem ge_I {v c B : Nat} {s t : Bool} (hv : Ieee.double.read v = .infinity s) (hc : IsT c t B) : (FloatKind.f64.format.order v c == some Ordering.gt || FloatKind.f64.format.order v c == some Ordering.eq) = !s := by
  obtain ⟨m, k, p, l, h1, _⟩ := hc.out
  show (Datum.order (Ieee.double.read v) (Ieee.double.read c) == some Ordering.gt || Datum.order (Ieee.double.read v) (Ieee.double.read c) == some Ordering.eq) = !s
  rw [hv, h1]; cases s <;> rfl
theorem i_v {v T : Nat} {s : Bool} (hv : IsT v s T) (h1 : -9223372036854775808 ≤ sg s T) (h2 : sg s T ≤ 9223372036854775807) (w : World) : (convert 51 2 (.float .f64 v)).run Try.prog w = .ok (.int .i64 (sg s T)) w := by
  refine run_convert_float_int w 51 2 .f64 .i64 v _ (by rw [Try.underlying51]; rfl) Try.underlying2 ?_
  unfold floatToIntVal
  rw [toInt_T hv]
  have e : IntKind.i64.min ≤ sg s T ∧ sg s T ≤ IntKind.i64.max := ⟨h1, h2⟩
  simp only
  rw [if_pos e]
theorem k63 : IsT 4890909195324358656 false 9223372036854775808 := t_one _ _ 63 11 (by decide +kernel) (by decide)
theorem k31 : IsT 4746794007248502784 false 2147483648 := t_one _ _ 31 (-21) (by decide +kernel) (by decide)
theorem k64 : IsT 4895412794951729152 false 18446744073709551616 := t_one _ _ 64 12 (by decide +kernel) (by decide)
theorem k32 : IsT 4751297606875873280 false 4294967296 := t_one _ _ 32 (-20) (by decide +kernel) (by decide)
theorem m63k : IsT 14114281232179134464 true 9223372036854775808 := t_one _ _ 63 11 (by decide +kernel) (by decide)
theorem m31k : IsT 13970166044103278592 true 2147483648 := t_one _ _ 31 (-21) (by decide +kernel) (by decide)

theorem sub_T {v M : Nat} (hv : IsT v false (M * 2 ^ 11)) (h1 : 4503599627370496 ≤ M) (h2 : M < 9007199254740992) : ∃ y, Ieee.double.sub v 4890909195324358656 = some y ∧ IsT y false ((M - 4503599627370496) * 2 ^ 11) := by
  obtain ⟨m, k, p, l, e1, e2, e3⟩ := hv.out
  refine ⟨Ieee.double.nearest false (M - 4503599627370496) 11, ?_, t_near false _ 11 (by omega) (by decide)⟩
  have ec : (Ieee.double.read 4890909195324358656).opposite = .number true 4503599627370496 11 := by decide +kernel
  unfold Ieee.Format.sub
  rw [ec, e1]
  have hA : (m * 2 ^ k) <<< (l - min l 11).toNat = M * 2 ^ (11 - min l 11).toNat := by
    rw [Nat.shiftLeft_eq, Nat.mul_assoc, ← Nat.pow_add]
    by_cases c : min l 11 < 0
    · have a1 : k + (l - min l 11).toNat = p + (-min l 11).toNat := by omega
      have a2 : (11 - min l 11).toNat = 11 + (-min l 11).toNat := by omega
      rw [a1, a2, Nat.pow_add, Nat.pow_add, ← Nat.mul_assoc, ← Nat.mul_assoc, e3]
    · have a1 : k + (l - min l 11).toNat + (min l 11).toNat = p := by omega
      have a2 : (11 - min l 11).toNat + (min l 11).toNat = 11 := by omega
      refine Nat.eq_of_mul_eq_mul_right (Nat.two_pow_pos (min l 11).toNat) ?_
      rw [Nat.mul_assoc, Nat.mul_assoc, ← Nat.pow_add, ← Nat.pow_add, a1, a2, e3]
  unfold Datum.sum
  simp only
  unfold Ieee.signed
  rw [if_neg Bool.false_ne_true, if_pos rfl, hA, Nat.shiftLeft_eq]
  generalize hB : (11 - min l 11).toNat = B
  have hP := Nat.two_pow_pos B
  have hle : 4503599627370496 * 2 ^ B ≤ M * 2 ^ B := Nat.mul_le_mul_right _ h1
  have ht : ((M * 2 ^ B : Nat) : Int) + -((4503599627370496 * 2 ^ B : Nat) : Int) = (((M - 4503599627370496) * 2 ^ B : Nat) : Int) := by
    rw [Nat.sub_mul]; omega
  rw [ht]
  have hs : (if (((M - 4503599627370496) * 2 ^ B : Nat) : Int) = 0 then false && true else decide ((((M - 4503599627370496) * 2 ^ B : Nat) : Int) < 0)) = false := by
    split
    · rfl
    · exact decide_eq_false (by omega)
  rw [hs]
  show some (Ieee.double.nearest false (((M - 4503599627370496) * 2 ^ B : Nat) : Int).natAbs (min l 11)) = _
  rw [Int.natAbs_natCast, nearest_scale]
  congr 2
  omega
end Go.Proofs.Ytonofklhapfdpaa.Pure
