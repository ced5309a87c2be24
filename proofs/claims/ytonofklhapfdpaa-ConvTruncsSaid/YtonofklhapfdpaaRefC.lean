/-
  Walks of the reference's Kind, worked and Rel, as closed forms. No condition but that a word is one.
-/
import Derived.Test.YtonofklhapfdpaaRefB
import Derived.Test.YtonofklhapfdpaaPConvx2
namespace Go.Proofs.Ytonofklhapfdpaa.Ref
set_option linter.unusedVariables false
set_option linter.unusedSimpArgs false
open Go.RowKit Go.Proofs.YtonofklhapfdpaaW.PrintWords Go.Proofs.Ytonofklhapfdpaa.Fl

theorem ret_i {k : IntKind} {a b : Int} (h : a = b) : Ending.returned (.int k a) = .returned (.int k b) := by rw [h]
theorem drawn_n {w w' : World} {k : Nat} (h : w' = w.drewN k) : Drawn0 w w' := ⟨⟨k, h⟩⟩

theorem kind_wrong (n a : Int) (w : World) (h : n ≠ 32) (h' : n ≠ 64) : Calls Try.prog 14 #[.int .i64 n, .int .u64 a] w fun e w' => e = .returned (.int .i64 0) ∧ Drawn0 w w' := by
  have c1 : (n == 32) = false := beq_eq_false_iff_ne.2 h
  have c2 : (n == 64) = false := beq_eq_false_iff_ne.2 h'
  have c3 : (n != 32) = true := bne_iff_ne.2 h
  have c4 : (n != 64) = true := bne_iff_ne.2 h'
  go_enter Try.func14, Try.ntmps14
  go_wp2_with fail
  go_ret
  exact ⟨rfl, Drawn0.refl _⟩

/-- The tests of a size that is right, as the walk asks them. -/
def SizeB (n : Int) : Prop := (n != 32) = false ∨ ((n != 32) = true ∧ (n != 64) = false)
theorem sizeB {n : Int} (h : n = 32 ∨ n = 64) : SizeB n := by
  rcases h with rfl | rfl
  · exact .inl rfl
  · exact .inr ⟨rfl, rfl⟩
theorem kind_right (n a : Int) (w : World) (h : n = 32 ∨ n = 64) : Calls Try.prog 14 #[.int .i64 n, .int .u64 a] w fun e w' => e = .returned (.int .i64 (kindF n a)) ∧ Drawn0 w w' := by
  have K := Lib.hid (show kindF n a = if rungOf (fmtOf n) (wOf n a) = 0 then 1 else if nanW (fmtOf n) (wOf n a) then 4 else if rungOf (fmtOf n) (wOf n a) = (fmtOf n).infRung then 3 else 2 from by
    unfold kindF; rw [if_neg (by omega)])
  have c := sizeB h
  clear h
  unfold SizeB at c
  rcases c with c1 | ⟨c1, c2⟩
  all_goals
    go_enter Try.func14, Try.ntmps14
    go_wp2_with fail
    refine (value _ _ _).mono ?_
    rintro e w' ⟨x, k, rfl, rfl, hv⟩
    have z := val_zero hv
    by_cases c0 : rungOf (fmtOf n) (wOf n a) = 0
    · rw [decide_eq_true c0] at z
      have Z : (FloatKind.f64.format.order x 0 == some Ordering.eq) = true := z
      have C0 := Lib.hid c0
      clear c0 z hv
      go_wp2_with fail
      go_ret
      exact ⟨by rw [K.out, if_pos C0.out]; rfl, drawn_n rfl⟩
    · rw [decide_eq_false c0] at z
      have Z : (FloatKind.f64.format.order x 0 == some Ordering.eq) = false := z
      by_cases cn : (fmtOf n).infRung < rungOf (fmtOf n) (wOf n a)
      · have hn := order_nan Ieee.double x x bin_double (.inl (val_nan hv cn))
        have N : (FloatKind.f64.format.order x x != some Ordering.eq) = true := by rw [show FloatKind.f64.format.order x x = none from hn]; rfl
        have C0 := Lib.hid c0; have CN := Lib.hid cn
        clear c0 z hv hn cn
        go_wp2_with fail
        go_ret
        exact ⟨by rw [K.out, if_neg C0.out, if_pos (by unfold nanW; exact decide_eq_true CN.out)]; rfl, drawn_n rfl⟩
      · obtain ⟨_, v1, v2, v3⟩ := val_num hv (by omega)
        have hn := order_self Ieee.double x bin_double v1
        have N : (FloatKind.f64.format.order x x != some Ordering.eq) = false := by rw [show FloatKind.f64.format.order x x = some .eq from hn]; rfl
        by_cases ci : rungOf (fmtOf n) (wOf n a) = (fmtOf n).infRung
        · have hs : floatBits .sub .f64 x x = none := by
            have r := read_inf Ieee.double x bin_double (v3.2 ci)
            show Ieee.double.sub x x = none
            unfold Ieee.Format.sub
            rw [r]
            cases negOf Ieee.double x <;> rfl
          have S := fun t w => run_float_nan .sub (by decide) t .f64 x x hs w
          have M : ∀ w : World, (FloatKind.f64.format.order (nanB w .f64 x x) 0 != some Ordering.eq) = true := by
            intro w
            rw [show FloatKind.f64.format.order (nanB w .f64 x x) 0 = none from order_nan Ieee.double _ _ bin_double (.inl (nanB_64 w x x))]; rfl
          have C0 := Lib.hid c0; have CN := Lib.hid cn; have CI := Lib.hid ci
          clear c0 z hv hn cn ci v1 v2 v3 hs
          go_wp2_with fail
          go_ret
          exact ⟨by rw [K.out, if_neg C0.out, if_neg (by unfold nanW; rw [decide_eq_false CN.out]; decide), if_pos CI.out]; rfl, drawn_n rfl⟩
        · have hs : ∃ r, floatBits .sub .f64 x x = some r ∧ Ieee.double.order r 0 = some .eq := by
            have hlt : rungOf Ieee.double x < Ieee.double.infRung := by
              have := mt v3.1 ci; omega
            have r := read_num Ieee.double x hlt
            refine ⟨Ieee.double.word false 0, ?_, by decide +kernel⟩
            show Ieee.double.sub x x = _
            unfold Ieee.Format.sub
            rw [r]
            simp only [Ieee.Datum.opposite, Ieee.Datum.sum, Option.map_some]
            refine congrArg some ?_
            have e : ∀ u, Ieee.signed (negOf Ieee.double x) (magOf Ieee.double (rungOf Ieee.double x)) u + Ieee.signed (!negOf Ieee.double x) (magOf Ieee.double (rungOf Ieee.double x)) u = 0 := by
              intro u; unfold Ieee.signed; cases negOf Ieee.double x <;> simp <;> omega
            rw [e, if_pos rfl]
            unfold Ieee.Format.write
            rw [show (0 : Int).natAbs = 0 from rfl, show (negOf Ieee.double x && !negOf Ieee.double x) = false from by cases negOf Ieee.double x <;> rfl]
            exact nearest_zero ..
          obtain ⟨r, hs, hr⟩ := hs
          have S := fun t w => run_float_arith (P := Try.prog) w .sub t .f64 x x r hs
          have M : (FloatKind.f64.format.order r 0 != some Ordering.eq) = false := by
            rw [show FloatKind.f64.format.order r 0 = some .eq from hr]; rfl
          have C0 := Lib.hid c0; have CN := Lib.hid cn; have CI := Lib.hid ci
          clear c0 z hv hn cn ci v1 v2 v3 hs hr
          go_wp2_with fail
          go_ret
          exact ⟨by rw [K.out, if_neg C0.out, if_neg (by unfold nanW; rw [decide_eq_false CN.out]; decide), if_neg CI.out]; rfl, drawn_n rfl⟩

/-- A float behind an operation: its bits, or a NaN where there is no answer. -/
structure ArQ (k : FloatKind) (o : Option Nat) (w : World) (e : Ending) (w' : World) : Prop where mk ::
  (out : ∃ r d, e = .returned (.float k r) ∧ w' = w.drewN d ∧ (∀ v, o = some v → r = v) ∧ (o = none → k.format.infRung < rungOf k.format r))

def opOf (op : Int) : BinOp := if op = 1 then .add else if op = 2 then .sub else if op = 3 then .mul else .quo
theorem canon_c (n : Int) (w : World) (h : n = 32 ∨ n = 64) : Calls Try.prog 51 #[.int .i64 n] w fun e w' => e = .returned (.int .u64 (canon n)) ∧ w' = w := by
  rcases h with rfl | rfl
  all_goals
    go_enter Try.func51, Try.ntmps51
    go_wp2
    go_ret
    exact ⟨rfl, rfl⟩
end Go.Proofs.Ytonofklhapfdpaa.Ref

