/-
  Walks of the reference's small functions over Go's own floats: bits as floats and back, and a float of 32 bits as one of 64. No condition but that a word is one.
-/
import Derived.Test.YtonofklhapfdpaaGiven
import Derived.Test.YtonofklhapfdpaaFl
import Derived.WalkLawsBesides
import Derived.Laws.Externs
import Derived.Lib.Hide
namespace Go.Proofs.Ytonofklhapfdpaa.Ref
set_option linter.unusedVariables false
set_option linter.unusedSimpArgs false
open Go.RowKit Go.Proofs.YtonofklhapfdpaaW.PrintWords Go.Proofs.Ytonofklhapfdpaa.Fl

theorem x71 (n : Int) (w : World) : (callFunc 54 #[.int .u32 n]).run Try.prog w = .ok (.value (.float .f32 n.toNat)) w := by
  rw [run_callFunc_extern Try.func54 (by kernel_rfl) (by kernel_rfl) (by kernel_rfl) (e := Extern.MathFloatBits.float32frombits) (by kernel_rfl)]; rfl
theorem x80 (n : Int) (w : World) : (callFunc 55 #[.int .u64 n]).run Try.prog w = .ok (.value (.float .f64 n.toNat)) w := by
  rw [run_callFunc_extern Try.func55 (by kernel_rfl) (by kernel_rfl) (by kernel_rfl) (e := Extern.MathFloatBits.float64frombits) (by kernel_rfl)]; rfl
theorem x72 (b : Nat) (w : World) : (callFunc 52 #[.float .f32 b]).run Try.prog w = .ok (.value (.int .u32 b)) w := by
  rw [run_callFunc_extern Try.func52 (by kernel_rfl) (by kernel_rfl) (by kernel_rfl) (e := Extern.MathFloatBits.float32bits) (by kernel_rfl)]; rfl
theorem x70 (b : Nat) (w : World) : (callFunc 53 #[.float .f64 b]).run Try.prog w = .ok (.value (.int .u64 b)) w := by
  rw [run_callFunc_extern Try.func53 (by kernel_rfl) (by kernel_rfl) (by kernel_rfl) (e := Extern.MathFloatBits.float64bits) (by kernel_rfl)]; rfl

/-- A word of 32 bits, as a number of so many. -/
def s32 (a : Int) : Nat := (a % 4294967296).toNat

theorem F32 (a : Int) (w : World) :
    Calls Try.prog 40 #[.int .u64 a] w fun e w' => e = .returned (.float .f32 (s32 a)) ∧ w' = w := by
  have hx := fun n => x71 n
  go_enter Try.func40, Try.ntmps40
  go_wp2
  go_ret
  exact ⟨rfl, rfl⟩
theorem F64 (a : Int) (w : World) :
    Calls Try.prog 41 #[.int .u64 a] w fun e w' => e = .returned (.float .f64 a.toNat) ∧ w' = w := by
  have hx := fun n => x80 n
  go_enter Try.func41, Try.ntmps41
  go_wp2
  go_ret
  exact ⟨rfl, rfl⟩

/-- A conversion to 64 bits: the value, or of a NaN a NaN of the tape's. -/
theorem run_wide (b : Nat) (h : rungOf Ieee.single b ≤ Ieee.single.infRung) (w : World) : (convert 57 51 (.float .f32 b)).run Try.prog w = .ok (.float .f64 (wd b)) w := by
  refine run_convert_float_float w 57 51 .f32 .f64 b (wd b) (by rw [Try.underlying57]; rfl) Try.underlying51 ?_
  unfold floatToFloatBits
  rw [if_neg (by decide)]
  by_cases c : rungOf Ieee.single b = Ieee.single.infRung
  · rw [show FloatKind.f32.decode b = .infinity (negOf Ieee.single b) from read_inf Ieee.single b bin_single c]
    have : wd b = Ieee.double.word (negOf Ieee.single b) Ieee.double.infRung := by
      unfold wd; rw [read_inf Ieee.single b bin_single c]; rfl
    rw [this]; rfl
  · obtain ⟨k, q, a1, a2, a3, _⟩ := wd_fin b (by omega)
    have hr := read_num Ieee.single b (by omega)
    rw [show FloatKind.f32.decode b = .number (negOf Ieee.single b) (magOf Ieee.single (rungOf Ieee.single b)) (Ieee.single.leastPlace + (plOf Ieee.single (rungOf Ieee.single b) : Nat)) from hr]
    have e : FloatKind.f64.encode (.number (negOf Ieee.single b) (magOf Ieee.single (rungOf Ieee.single b)) (Ieee.single.leastPlace + (plOf Ieee.single (rungOf Ieee.single b) : Nat))) = wd b := by
      unfold wd; rw [hr]; rfl
    simp only [e]
    rw [show FloatKind.f64.decode (wd b) = _ from a2]
    rfl

/-- The NaN that the tape gives. -/
def nanC (w : World) (b : Nat) : Nat := Question.cut (.nanConv .f64 b) (w.tape w.drawn (.nanConv .f64 b))
theorem nan64 (t : Nat) : Ieee.double.infRung < rungOf Ieee.double ((t % 2) * 2 ^ 63 + 0x7ff0000000000000 + 1 + (t / 2) % (2 ^ 52 - 1)) := by
  unfold rungOf
  rw [d_inf, d_sgn]
  have h1 : t % 2 < 2 := Nat.mod_lt _ (by decide)
  have h2 : t / 2 % (2 ^ 52 - 1) < 2 ^ 52 - 1 := Nat.mod_lt _ (by decide)
  generalize t % 2 = u at *
  generalize t / 2 % (2 ^ 52 - 1) = v at *
  omega
theorem nan32 (t : Nat) : Ieee.single.infRung < rungOf Ieee.single ((t % 2) * 2 ^ 31 + 0x7f800000 + 1 + (t / 2) % (2 ^ 23 - 1)) := by
  unfold rungOf
  rw [s_inf, s_sgn]
  have h1 : t % 2 < 2 := Nat.mod_lt _ (by decide)
  have h2 : t / 2 % (2 ^ 23 - 1) < 2 ^ 23 - 1 := Nat.mod_lt _ (by decide)
  generalize t % 2 = u at *
  generalize t / 2 % (2 ^ 23 - 1) = v at *
  omega
theorem run_wide_nan (b : Nat) (h : Ieee.single.infRung < rungOf Ieee.single b) (w : World) : (convert 57 51 (.float .f32 b)).run Try.prog w = .ok (.float .f64 (nanC w b)) w.drew := by
  have hd : FloatKind.f32.decode b = .nan (negOf Ieee.single b) (rungOf Ieee.single b - Ieee.single.infRung) := read_nan Ieee.single b bin_single h
  have hs : Try.prog.underlying 57 = some (.float .f32) := Try.underlying57
  simp [convert, run_underlying hs, run_underlying Try.underlying51, Conv.floatToFloat, hd]
  rfl

/-- What the bits of a float come to, as one of 64. -/
def Val (n a : Int) (x : Nat) : Prop :=
  if n = 32 then (rungOf Ieee.single (s32 a) ≤ Ieee.single.infRung → x = wd (s32 a)) ∧ (Ieee.single.infRung < rungOf Ieee.single (s32 a) → Ieee.double.infRung < rungOf Ieee.double x)
  else x = a.toNat
structure ValQ (n a : Int) (w : World) (e : Ending) (w' : World) : Prop where mk :: (out : ∃ x k, e = .returned (.float .f64 x) ∧ w' = w.drewN k ∧ Val n a x)

theorem value (n a : Int) (w : World) : Calls Try.prog 32 #[.int .i64 n, .int .u64 a] w (ValQ n a w) := by
  by_cases c : n = 32
  · subst c
    by_cases h : rungOf Ieee.single (s32 a) ≤ Ieee.single.infRung
    · have hc := fun w => run_wide (s32 a) h w
      have V : Hid (Val 32 a (wd (s32 a))) := Lib.hid (by unfold Val; rw [if_pos rfl]; exact ⟨fun _ => rfl, fun x => by omega⟩)
      clear h
      go_enter Try.func32, Try.ntmps32
      go_wp2_with (go_at_call 40; refine (F32 _ _).mono ?_; rintro e w' ⟨rfl, rfl⟩)
      go_ret
      exact ⟨_, 0, rfl, rfl, V.out⟩
    · have hc := fun w => run_wide_nan (s32 a) (by omega) w
      have V : Hid (∀ w : World, Val 32 a (nanC w (s32 a))) := Lib.hid (by
        intro w; unfold Val; rw [if_pos rfl]; exact ⟨fun x => by omega, fun _ => nan64 _⟩)
      clear h
      go_enter Try.func32, Try.ntmps32
      go_wp2_with (go_at_call 40; refine (F32 _ _).mono ?_; rintro e w' ⟨rfl, rfl⟩)
      go_ret
      exact ⟨_, 1, rfl, rfl, V.out _⟩
  · have V : Hid (Val n a a.toNat) := Lib.hid (by unfold Val; rw [if_neg c])
    have c1 : (n == 32) = false := beq_eq_false_iff_ne.2 c
    go_enter Try.func32, Try.ntmps32
    go_wp2_with (go_at_call 41; refine (F64 _ _).mono ?_; rintro e w' ⟨rfl, rfl⟩)
    go_ret
    exact ⟨_, 0, rfl, rfl, V.out⟩

/-- The bits of a float. -/
theorem B64_num (b : Nat) (h : Ieee.double.order b b = some .eq) (w : World) : Calls Try.prog 39 #[.float .f64 b] w fun e w' => e = .returned (.int .u64 b) ∧ w' = w := by
  have hc : (FloatKind.f64.format.order b b != some Ordering.eq) = false := by rw [show FloatKind.f64.format.order b b = some .eq from h]; rfl
  have hx := fun b => x70 b
  clear h
  go_enter Try.func39, Try.ntmps39
  go_wp2_with fail
  go_ret
  exact ⟨rfl, rfl⟩
theorem B32_num (b : Nat) (h : Ieee.single.order b b = some .eq) (hb : b < 4294967296) (w : World) : Calls Try.prog 38 #[.float .f32 b] w fun e w' => e = .returned (.int .u64 b) ∧ w' = w := by
  have hc : (FloatKind.f32.format.order b b != some Ordering.eq) = false := by rw [show FloatKind.f32.format.order b b = some .eq from h]; rfl
  have hx := fun b => x72 b
  clear h
  go_enter Try.func38, Try.ntmps38
  go_wp2_with fail
  go_ret
  exact ⟨rfl, rfl⟩
theorem B64_nan (b : Nat) (h : Ieee.double.order b b = none) (w : World) : Calls Try.prog 39 #[.float .f64 b] w fun e w' => e = .returned (.int .u64 9221120237041090560) ∧ w' = w := by
  have hc : (FloatKind.f64.format.order b b != some Ordering.eq) = true := by rw [show FloatKind.f64.format.order b b = none from h]; rfl
  clear h
  go_enter Try.func39, Try.ntmps39
  go_wp2
  go_ret
  exact ⟨rfl, rfl⟩
theorem B32_nan (b : Nat) (h : Ieee.single.order b b = none) (w : World) : Calls Try.prog 38 #[.float .f32 b] w fun e w' => e = .returned (.int .u64 2143289344) ∧ w' = w := by
  have hc : (FloatKind.f32.format.order b b != some Ordering.eq) = true := by rw [show FloatKind.f32.format.order b b = none from h]; rfl
  clear h
  go_enter Try.func38, Try.ntmps38
  go_wp2
  go_ret
  exact ⟨rfl, rfl⟩
end Go.Proofs.Ytonofklhapfdpaa.Ref

