-- Written by the kit's print.py for this claim, called with several roots by this session's own script (print-roots.sh)
import Derived.Test.YtajmjmnlapplaaaDoorPIntsx0
import Derived.Test.YtajmjmnlapplaaaDoorPIntsx16
import Derived.Test.YtajmjmnlapplaaaDoorPIntsx17
import Derived.Test.YtajmjmnlapplaaaDoorPIntsx18
namespace Go.Proofs.YtajmjmnlapplaaaDoor.PInts
open Go.RowKit Go.Proofs.YtajmjmnlapplaaaDoorW.PrintWords Go.Proofs.YtajmjmnlapplaaaDoorW.PrintLast Go.Proofs.YtajmjmnlapplaaaDoorW.PrintMore
attribute [local go_sem] max2_int min2_int max_two min_two max_three min_three max_four min_four   -- for this text's walks alone
set_option linter.unusedVariables false
set_option linter.unusedSimpArgs false

/-! ### bodkinref02_Signed: function 23 -/
def bodkinref02_Signed.f (k : Nat) (a0 : Int) (a1 : Int) : Option (Int) := (bodkinref02_Right.f a0).bind fun t143 => (if t143 = true then ((bodkinref02_Cut.f k a0 a1).bind fun t144 => ((bodkinref02_bit.f k t144 (wrap64 (a0 - 1))).bind fun t145 => (if t145 = 1 then ((bodkinref02_Cut.f k a0 (IntKind.u64.wrap (-t144))).bind fun t146 => (some (wrap64 ((wrap64 (-(wrap64 (IntKind.u64.wrap (t146 - 1))))) - 1)))) else (some (wrap64 (t144)))))) else (some 0))
theorem bodkinref02_Signed.mono : ∀ a0 a1 k, LeO (bodkinref02_Signed.f k a0 a1) (bodkinref02_Signed.f (k + 1) a0 a1) := by
  intro a0 a1 k
  unfold bodkinref02_Signed.f
  repeat' first
      | (with_reducible exact bodkinref02_Cut.mono _ _ _)
      | (with_reducible exact bodkinref02_bit.mono _ _ _)
      | (with_reducible exact LeO.refl _)
      | (with_reducible exact LeO.none _)
      | (with_reducible refine LeO.ite ?_ ?_)
      | (with_reducible refine LeO.bind ?_ (fun _ => ?_))
      | exact bodkinref02_Cut.mono _ _ _
      | exact bodkinref02_bit.mono _ _ _
      | exact LeO.none _
      | refine LeO.ite ?_ ?_
      | refine LeO.bind ?_ (fun _ => ?_)
set_option maxHeartbeats 8000000 in
set_option maxRecDepth 100000 in
theorem bodkinref02_Signed.calls (k : Nat) (a0 : Int) (a1 : Int) (r : Int) (w : World) (h : bodkinref02_Signed.f k a0 a1 = some r) :
    Calls Tryd.prog 23 #[.int .i64 a0, .int .u64 a1] w fun e w' => e = .returned (.int .i64 r) ∧ Drawn0 w w' := by
  have H : ((bodkinref02_Right.f a0).bind fun t143 => (if t143 = true then ((bodkinref02_Cut.f k a0 a1).bind fun t144 => ((bodkinref02_bit.f k t144 (wrap64 (a0 - 1))).bind fun t145 => (if t145 = 1 then ((bodkinref02_Cut.f k a0 (IntKind.u64.wrap (-t144))).bind fun t146 => (some (wrap64 ((wrap64 (-(wrap64 (IntKind.u64.wrap (t146 - 1))))) - 1)))) else (some (wrap64 (t144)))))) else (some 0))) = some r := h
  clear h
  replace H := Option.bind_eq_some_iff.mp H
  obtain ⟨t143, A30, H⟩ := H
  replace H : (if t143 = true then ((bodkinref02_Cut.f k a0 a1).bind fun t144 => ((bodkinref02_bit.f k t144 (wrap64 (a0 - 1))).bind fun t145 => (if t145 = 1 then ((bodkinref02_Cut.f k a0 (IntKind.u64.wrap (-t144))).bind fun t146 => (some (wrap64 ((wrap64 (-(wrap64 (IntKind.u64.wrap (t146 - 1))))) - 1)))) else (some (wrap64 (t144)))))) else (some 0)) = some r := H
  have A3 := Aside0.mk A30
  clear A30
  by_cases c4 : t143 = true
  · subst c4
    have H1 : ((bodkinref02_Cut.f k a0 a1).bind fun t144 => ((bodkinref02_bit.f k t144 (wrap64 (a0 - 1))).bind fun t145 => (if t145 = 1 then ((bodkinref02_Cut.f k a0 (IntKind.u64.wrap (-t144))).bind fun t146 => (some (wrap64 ((wrap64 (-(wrap64 (IntKind.u64.wrap (t146 - 1))))) - 1)))) else (some (wrap64 (t144)))))) = some r := by rw [if_pos rfl] at H; exact H
    clear H
    have H := H1
    clear H1
    replace H := Option.bind_eq_some_iff.mp H
    obtain ⟨t144, A50, H⟩ := H
    replace H : ((bodkinref02_bit.f k t144 (wrap64 (a0 - 1))).bind fun t145 => (if t145 = 1 then ((bodkinref02_Cut.f k a0 (IntKind.u64.wrap (-t144))).bind fun t146 => (some (wrap64 ((wrap64 (-(wrap64 (IntKind.u64.wrap (t146 - 1))))) - 1)))) else (some (wrap64 (t144))))) = some r := H
    have A5 := Aside0.mk A50
    clear A50
    replace H := Option.bind_eq_some_iff.mp H
    obtain ⟨t145, A60, H⟩ := H
    replace H : (if t145 = 1 then ((bodkinref02_Cut.f k a0 (IntKind.u64.wrap (-t144))).bind fun t146 => (some (wrap64 ((wrap64 (-(wrap64 (IntKind.u64.wrap (t146 - 1))))) - 1)))) else (some (wrap64 (t144)))) = some r := H
    have A6 := Aside0.mk A60
    clear A60
    by_cases c7 : t145 = 1
    · rw [if_pos c7] at H
      have c7b0 : (t145 == 1) = true := beq_iff_eq.mpr c7
      have c7b1 : (t145 != 1) = false := bne_eq_false_iff_eq.mpr c7
      clear c7
      replace H := Option.bind_eq_some_iff.mp H
      obtain ⟨t146, A80, H⟩ := H
      replace H : (some (wrap64 ((wrap64 (-(wrap64 (IntKind.u64.wrap (t146 - 1))))) - 1))) = some r := H
      have A8 := Aside0.mk A80
      clear A80
      obtain rfl := Option.some.inj H
      go_enter Tryd.func23, Tryd.ntmps23
      go_wp2_with (first | ((with_reducible refine gate_callee (f := 31) rfl ?_); refine goesL_ (some 8) rfl rfl Tryd.func31 (by kernel_rfl) rfl #[.int .i64 a0] rfl (by (try simp only [List.map_toArray, List.map_cons, List.map_nil]); first | done | rfl | (simp only [List.length_drop, List.length_take]; rfl)) ?_; (with_reducible refine (bodkinref02_Right.calls a0 true _ A3.out).mono ?_); rintro e w' ⟨rfl, ⟨nd, rfl⟩⟩; refine ⟨_, rfl, ?_⟩) | ((with_reducible refine gate_callee (f := 24) rfl ?_); refine goesL_ (some 13) rfl rfl Tryd.func24 (by kernel_rfl) rfl #[.int .i64 a0, .int .u64 a1] rfl (by (try simp only [List.map_toArray, List.map_cons, List.map_nil]); first | done | rfl | (simp only [List.length_drop, List.length_take]; rfl)) ?_; (with_reducible refine (bodkinref02_Cut.calls k a0 a1 t144 _ A5.out).mono ?_); rintro e w' ⟨rfl, ⟨nd, rfl⟩⟩; refine ⟨_, rfl, ?_⟩) | ((with_reducible refine gate_callee (f := 32) rfl ?_); refine goesL_ (some 17) rfl rfl Tryd.func32 (by kernel_rfl) rfl #[.int .u64 t144, .int .i64 (wrap64 (a0 - 1))] rfl (by (try simp only [List.map_toArray, List.map_cons, List.map_nil]); first | done | rfl | (simp only [List.length_drop, List.length_take]; rfl)) ?_; (with_reducible refine (bodkinref02_bit.calls k t144 (wrap64 (a0 - 1)) t145 _ A6.out).mono ?_); rintro e w' ⟨rfl, ⟨nd, rfl⟩⟩; refine ⟨_, rfl, ?_⟩) | ((with_reducible refine gate_callee (f := 24) rfl ?_); refine goesL_ (some 22) rfl rfl Tryd.func24 (by kernel_rfl) rfl #[.int .i64 a0, .int .u64 (IntKind.u64.wrap (-t144))] rfl (by (try simp only [List.map_toArray, List.map_cons, List.map_nil]); first | done | rfl | (simp only [List.length_drop, List.length_take]; rfl)) ?_; (with_reducible refine (bodkinref02_Cut.calls k a0 (IntKind.u64.wrap (-t144)) t146 _ A8.out).mono ?_); rintro e w' ⟨rfl, ⟨nd, rfl⟩⟩; refine ⟨_, rfl, ?_⟩))
      go_ret
      exact ⟨by first | rfl | (simp; done) | (simp [*]; done), by repeat (first | exact Drawn0.refl _ | apply Drawn0.step)⟩
    · rw [if_neg c7] at H
      have c7b0 : (t145 == 1) = false := beq_eq_false_iff_ne.mpr c7
      have c7b1 : (t145 != 1) = true := bne_iff_ne.mpr c7
      obtain rfl := Option.some.inj H
      go_enter Tryd.func23, Tryd.ntmps23
      go_wp2_with (first | ((with_reducible refine gate_callee (f := 31) rfl ?_); refine goesL_ (some 8) rfl rfl Tryd.func31 (by kernel_rfl) rfl #[.int .i64 a0] rfl (by (try simp only [List.map_toArray, List.map_cons, List.map_nil]); first | done | rfl | (simp only [List.length_drop, List.length_take]; rfl)) ?_; (with_reducible refine (bodkinref02_Right.calls a0 true _ A3.out).mono ?_); rintro e w' ⟨rfl, ⟨nd, rfl⟩⟩; refine ⟨_, rfl, ?_⟩) | ((with_reducible refine gate_callee (f := 24) rfl ?_); refine goesL_ (some 13) rfl rfl Tryd.func24 (by kernel_rfl) rfl #[.int .i64 a0, .int .u64 a1] rfl (by (try simp only [List.map_toArray, List.map_cons, List.map_nil]); first | done | rfl | (simp only [List.length_drop, List.length_take]; rfl)) ?_; (with_reducible refine (bodkinref02_Cut.calls k a0 a1 t144 _ A5.out).mono ?_); rintro e w' ⟨rfl, ⟨nd, rfl⟩⟩; refine ⟨_, rfl, ?_⟩) | ((with_reducible refine gate_callee (f := 32) rfl ?_); refine goesL_ (some 17) rfl rfl Tryd.func32 (by kernel_rfl) rfl #[.int .u64 t144, .int .i64 (wrap64 (a0 - 1))] rfl (by (try simp only [List.map_toArray, List.map_cons, List.map_nil]); first | done | rfl | (simp only [List.length_drop, List.length_take]; rfl)) ?_; (with_reducible refine (bodkinref02_bit.calls k t144 (wrap64 (a0 - 1)) t145 _ A6.out).mono ?_); rintro e w' ⟨rfl, ⟨nd, rfl⟩⟩; refine ⟨_, rfl, ?_⟩))
      go_ret
      exact ⟨by first | rfl | (simp; done) | (simp [*]; done), by repeat (first | exact Drawn0.refl _ | apply Drawn0.step)⟩
  · replace c4 := Bool.eq_false_iff.mpr c4
    subst c4
    have H1 : (some 0) = some r := by rw [if_neg (show ¬ (false = true) by decide)] at H; exact H
    clear H
    have H := H1
    clear H1
    obtain rfl := Option.some.inj H
    go_enter Tryd.func23, Tryd.ntmps23
    go_wp2_with (first | ((with_reducible refine gate_callee (f := 31) rfl ?_); refine goesL_ (some 8) rfl rfl Tryd.func31 (by kernel_rfl) rfl #[.int .i64 a0] rfl (by (try simp only [List.map_toArray, List.map_cons, List.map_nil]); first | done | rfl | (simp only [List.length_drop, List.length_take]; rfl)) ?_; (with_reducible refine (bodkinref02_Right.calls a0 false _ A3.out).mono ?_); rintro e w' ⟨rfl, ⟨nd, rfl⟩⟩; refine ⟨_, rfl, ?_⟩))
    go_ret
    exact ⟨by first | rfl | (simp; done) | (simp [*]; done), by repeat (first | exact Drawn0.refl _ | apply Drawn0.step)⟩

end Go.Proofs.YtajmjmnlapplaaaDoor.PInts
