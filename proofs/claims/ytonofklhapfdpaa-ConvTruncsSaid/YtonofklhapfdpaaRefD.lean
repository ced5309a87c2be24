/-
  Walks of the reference's Un and Rel, as closed forms. No condition but that a word is one.
-/
import Derived.Test.YtonofklhapfdpaaRefC
namespace Go.Proofs.Ytonofklhapfdpaa.Ref
set_option linter.unusedVariables false
set_option linter.unusedSimpArgs false
open Go.RowKit Go.Proofs.YtonofklhapfdpaaW.PrintWords Go.Proofs.Ytonofklhapfdpaa.Fl

theorem tI_num (name : String) (way : Ieee.Toward) (x : Nat) (d : Ieee.Datum) (h : FloatKind.f64.decode x = d) (hd : d.isNaN = false) (w : World) :
    (Extern.MathFloor.toIntegral name way #[.float .f64 x]).run Try.prog w = .ok (.float .f64 (Ieee.double.write (d.integral way))) w := by
  show Sem.run Try.prog (match FloatKind.f64.decode x with | .nan s t => _ | d => _) w = _
  rw [h]
  cases d <;> first | rfl | (cases hd; done)
theorem xInt (f : FuncId) (fn : Func) (name : String) (way : Ieee.Toward) (hf : Try.prog.funcs[f]? = some fn) (hname : (fn.name == "runtime.NumGoroutine") = false)
    (hb : fn.body.isNone = true) (hn : Extern.findNext fn = none) (he : Extern.find fn = some (Extern.MathFloor.toIntegral name way)) (x : Nat) (h : rungOf Ieee.double x ≤ Ieee.double.infRung) (w : World) :
    (callFunc f #[.float .f64 x]).run Try.prog w = .ok (.value (.float .f64 (Ieee.double.write ((Ieee.double.read x).integral way)))) w := by
  have hd : (Ieee.double.read x).isNaN = false := by
    by_cases c : rungOf Ieee.double x = Ieee.double.infRung
    · rw [read_inf _ x bin_double c]; rfl
    · rw [read_num _ x (by omega)]; rfl
  rw [run_callFunc_extern hf hname hb hn he, tI_num name way x _ rfl hd]
  rfl
/-- The NaN that a NaN is cut to. -/
def nanI (w : World) (x : Nat) : Nat := if w.tape w.drawn (.extern "math.Floor,Ceil,Trunc,RoundToEven.signallingNaN kept" 2) % 2 == 1 then x else Ieee.double.write (.nan (negOf Ieee.double x) (Ieee.double.quiet (rungOf Ieee.double x - Ieee.double.infRung)))
theorem nanI_nan (w : World) (x : Nat) (h : Ieee.double.infRung < rungOf Ieee.double x) : Ieee.double.infRung < rungOf Ieee.double (nanI w x) := by
  unfold nanI
  split
  · exact h
  · show Ieee.double.infRung < rungOf Ieee.double (Ieee.double.word _ (Ieee.double.infRung + (Ieee.double.quiet (rungOf Ieee.double x - Ieee.double.infRung)) % Ieee.double.binade))
    have hq : 0 < Ieee.double.quiet (rungOf Ieee.double x - Ieee.double.infRung) % Ieee.double.binade := by
      have hlt : rungOf Ieee.double x - Ieee.double.infRung < 2 ^ 52 := by
        have : rungOf Ieee.double x < Ieee.double.signWeight := Nat.mod_lt _ (by decide +kernel)
        rw [d_sgn] at this; rw [d_inf]; omega
      have h1 : Ieee.double.quiet (rungOf Ieee.double x - Ieee.double.infRung) < 2 ^ 52 := Nat.or_lt_two_pow hlt (by decide)
      have h2 : 2 ^ 51 ≤ Ieee.double.quiet (rungOf Ieee.double x - Ieee.double.infRung) := Nat.right_le_or
      rw [d_bin, Nat.mod_eq_of_lt h1]
      omega
    have hm : Ieee.double.quiet (rungOf Ieee.double x - Ieee.double.infRung) % Ieee.double.binade < Ieee.double.binade := Nat.mod_lt _ (by decide +kernel)
    generalize Ieee.double.quiet (rungOf Ieee.double x - Ieee.double.infRung) % Ieee.double.binade = q at *
    have := inf_lt Ieee.double
    unfold rungOf Ieee.Format.word
    split
    · rw [Nat.add_mod_left, Nat.mod_eq_of_lt (by omega)]; omega
    · rw [Nat.mod_eq_of_lt (by omega)]; omega
theorem tI_nan (name : String) (way : Ieee.Toward) (x : Nat) (h : Ieee.double.infRung < rungOf Ieee.double x) (w : World) :
    ∃ r d, (Extern.MathFloor.toIntegral name way #[.float .f64 x]).run Try.prog w = .ok (.float .f64 r) (w.drewN d) ∧ Ieee.double.infRung < rungOf Ieee.double r := by
  have e : FloatKind.f64.decode x = .nan (negOf Ieee.double x) (rungOf Ieee.double x - Ieee.double.infRung) := read_nan _ x bin_double h
  by_cases q : FloatKind.f64.format.quiet (rungOf Ieee.double x - Ieee.double.infRung) = rungOf Ieee.double x - Ieee.double.infRung
  · refine ⟨x, 0, ?_, h⟩
    show Sem.run Try.prog (match FloatKind.f64.decode x with | .nan s t => _ | d => _) w = _
    rw [e]
    simp only
    rw [if_pos q]; rfl
  · refine ⟨nanI w x, 1, ?_, nanI_nan w x h⟩
    show Sem.run Try.prog (match FloatKind.f64.decode x with | .nan s t => _ | d => _) w = _
    rw [e]
    simp only
    rw [if_neg q]; rfl
theorem xNan (f : FuncId) (fn : Func) (name : String) (way : Ieee.Toward) (hf : Try.prog.funcs[f]? = some fn) (hname : (fn.name == "runtime.NumGoroutine") = false)
    (hb : fn.body.isNone = true) (hn : Extern.findNext fn = none) (he : Extern.find fn = some (Extern.MathFloor.toIntegral name way)) (x : Nat) (h : Ieee.double.infRung < rungOf Ieee.double x) (w : World) :
    ∃ r d, (callFunc f #[.float .f64 x]).run Try.prog w = .ok (.value (.float .f64 r)) (w.drewN d) ∧ Ieee.double.infRung < rungOf Ieee.double r := by
  obtain ⟨r, d, h1, h2⟩ := tI_nan name way x h w
  refine ⟨r, d, ?_, h2⟩
  rw [run_callFunc_extern hf hname hb hn he, h1]
  rfl
theorem sq_run (x : Nat) (w : World) : (Extern.MathSqrt.sqrt #[.float .f64 x]).run Try.prog w = match Ieee.double.sqrt x with | some r => .ok (.float .f64 r) w | none => .ok (.float .f64 (nanB w .f64 x x)) w.drew := by
  show Sem.run Try.prog (match FloatKind.f64.format.sqrt x with | some r => _ | none => _) w = _
  cases h : Ieee.double.sqrt x with
  | some r => rw [show FloatKind.f64.format.sqrt x = some r from h]; rfl
  | none => rw [show FloatKind.f64.format.sqrt x = none from h]; rfl

/-- What one comes to, at an operation of math's own. -/
def mfun (op : Int) (x : Nat) : Option Nat :=
  if Ieee.double.infRung < rungOf Ieee.double x then none else if op = 3 then Ieee.double.sqrt x else some (Ieee.double.write ((Ieee.double.read x).integral (wayOf op)))
theorem mfun_int (op : Int) (x : Nat) (h : op ≠ 3) (hx : rungOf Ieee.double x ≤ Ieee.double.infRung) : mfun op x = some (Ieee.double.write ((Ieee.double.read x).integral (wayOf op))) := by
  unfold mfun; rw [if_neg (by omega), if_neg h]
theorem mfun_nan (op : Int) (x : Nat) (hx : Ieee.double.infRung < rungOf Ieee.double x) : mfun op x = none := by
  unfold mfun; rw [if_pos hx]

theorem m_trunc (x : Nat) (w : World) : Calls Try.prog 43 #[.float .f64 x] w (ArQ .f64 (mfun 6 x) w) := by
  by_cases h : rungOf Ieee.double x ≤ Ieee.double.infRung
  · have hx := fun w => xInt 56 _ "math.archTrunc" .zero Try.func56 (by kernel_rfl) (by kernel_rfl) (by kernel_rfl) (by kernel_rfl) x h w
    have M := Lib.hid (mfun_int 6 x (by decide) h)
    clear h
    go_enter Try.func43, Try.ntmps43
    go_wp2
    go_ret
    exact ⟨⟨_, 0, rfl, rfl, (fun v h => by rw [M.out] at h; exact Option.some.inj h), (fun h => by rw [M.out] at h; cases h)⟩⟩
  · obtain ⟨r, d, hx, hr⟩ := xNan 56 _ "math.archTrunc" .zero Try.func56 (by kernel_rfl) (by kernel_rfl) (by kernel_rfl) (by kernel_rfl) x (by omega) w
    have M := Lib.hid (mfun_nan 6 x (by omega))
    have HR := Lib.hid hr
    clear h hr
    go_enter Try.func43, Try.ntmps43
    go_wp2
    go_ret
    exact ⟨⟨_, d, rfl, rfl, (fun v h => by rw [M.out] at h; cases h), (fun h => HR.out)⟩⟩
end Go.Proofs.Ytonofklhapfdpaa.Ref

