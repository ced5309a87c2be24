/-
  The walk of the reference's Trunc.
-/
import Derived.Test.YtonofklhapfdpaaCj
import Derived.Test.YtonofklhapfdpaaCd
namespace Go.Proofs.Ytonofklhapfdpaa.Pure
set_option linter.unusedVariables false
set_option linter.unusedSimpArgs false
open Go.RowKit Go.Proofs.Ytonofklhapfdpaa.PConv Go.Proofs.Ytonofklhapfdpaa.Fl Go.Proofs.Ytonofklhapfdpaa.Ref Go.Proofs.YtonofklhapfdpaaW.PrintWords Go.Proofs.YtonofklhapfdpaaW.PrintLast
open Ieee (Datum)

theorem value4 (n a : Int) (w : World) : Calls Try.prog 42 #[.int .i64 n, .int .u64 a] w (ValQ n a w) := by
  by_cases c : n = 32
  · subst c
    by_cases h : rungOf Ieee.single (s32 a) ≤ Ieee.single.infRung
    · have hc := fun w => run_wide (s32 a) h w
      have V : Hid (Val 32 a (wd (s32 a))) := Lib.hid (by unfold Val; rw [if_pos rfl]; exact ⟨fun _ => rfl, fun x => by omega⟩)
      clear h
      go_enter Try.func42, Try.ntmps42
      go_wp2_with (go_at_call 40; refine (F32 _ _).mono ?_; rintro e w' ⟨rfl, rfl⟩)
      go_ret
      exact ⟨_, 0, rfl, rfl, V.out⟩
    · have hc := fun w => run_wide_nan (s32 a) (by omega) w
      have V : Hid (∀ w : World, Val 32 a (nanC w (s32 a))) := Lib.hid (by
        intro w; unfold Val; rw [if_pos rfl]; exact ⟨fun x => by omega, fun _ => nan64 _⟩)
      clear h
      go_enter Try.func42, Try.ntmps42
      go_wp2_with (go_at_call 40; refine (F32 _ _).mono ?_; rintro e w' ⟨rfl, rfl⟩)
      go_ret
      exact ⟨_, 1, rfl, rfl, V.out _⟩
  · have V : Hid (Val n a a.toNat) := Lib.hid (by unfold Val; rw [if_neg c])
    have c1 : (n == 32) = false := beq_eq_false_iff_ne.2 c
    go_enter Try.func42, Try.ntmps42
    go_wp2_with (go_at_call 41; refine (F64 _ _).mono ?_; rintro e w' ⟨rfl, rfl⟩)
    go_ret
    exact ⟨_, 0, rfl, rfl, V.out⟩

structure TrQ (r : Int × Int) (w : World) (e : Ending) (w' : World) : Prop where mk :: (out : e = .returned (.tuple #[.int .u64 r.1, .int .i64 r.2]) ∧ Drawn0 w w')
theorem order_self_num (x : Nat) (h : rungOf Ieee.double x ≤ Ieee.double.infRung) : (FloatKind.f64.format.order x x != some Ordering.eq) = false := by
  rw [show FloatKind.f64.format.order x x = some .eq from order_self Ieee.double x bin_double h]; rfl
theorem order_self_nan (x : Nat) (h : Ieee.double.infRung < rungOf Ieee.double x) : (FloatKind.f64.format.order x x != some Ordering.eq) = true := by
  rw [show FloatKind.f64.format.order x x = none from order_nan Ieee.double x x bin_double (.inl h)]; rfl

theorem tr_nan (fr t : Int) (hf : Rt fr) (ht : Rt t) (s b : Bool) (a : Nat) (hn : (fmtOf fr).infRung < rungOf (fmtOf fr) (wOf fr a)) (w : World) :
    Calls Try.prog 20 #[.int .i64 fr, .int .i64 t, .bool s, .bool b, .int .u64 (a : Int)] w (TrQ (0, if b = true then 0 else 43) w) := by
  have HN := Lib.hid hn
  clear hn
  rcases hf with rfl | rfl <;> rcases ht with rfl | rfl <;> cases b
  all_goals
    go_enter Try.func20, Try.ntmps20
    go_wp2_with (go_at_call 42; refine (value4 _ _ _).mono ?_; rintro e w1 ⟨x, k, rfl, rfl, hv⟩; have N := order_self_nan x (val_nan hv HN.out))
    go_ret2
    exact ⟨rfl, drawn_n rfl⟩

theorem m64 (t : TypeId) (w : World) : (binOp .mul t (.float .f64 4611686018427387904) (.float .f64 4890909195324358656)).run Try.prog w = .ok (.float .f64 4895412794951729152) w :=
  run_float_arith w .mul t .f64 _ _ _ (by decide +kernel)
theorem m32 (t : TypeId) (w : World) : (binOp .mul t (.float .f64 4611686018427387904) (.float .f64 4746794007248502784)).run Try.prog w = .ok (.float .f64 4751297606875873280) w :=
  run_float_arith w .mul t .f64 _ _ _ (by decide +kernel)

end Go.Proofs.Ytonofklhapfdpaa.Pure
