/-
  Texts that the kit's print.py has written for this claim (called by this session's own script), put together.
-/
import Derived.Test.YtajmjmnlapplaaaDoorA1
namespace Go.Proofs.YtajmjmnlapplaaaDoor.PInts
open Go.RowKit Go.Proofs.YtajmjmnlapplaaaDoorW.PrintWords Go.Proofs.YtajmjmnlapplaaaDoorW.PrintLast Go.Proofs.YtajmjmnlapplaaaDoorW.PrintMore
attribute [local go_sem] max2_int min2_int max_two min_two max_three min_three max_four min_four   -- for this text's walks alone
set_option linter.unusedVariables false
set_option linter.unusedSimpArgs false

/-! ### bodkinref02_Cut: function 24 -/
def bodkinref02_Cut.l0 : Nat → Int → Int → Int → Int → Option (Int)
  | 0, _, _, _, _ => none
  | k + 1, x0, x1, x5, x6 => if x6 < x0 then (bodkinref02_Cut.l0 k x0 x1 (IntKind.u64.wrap (x5 * 2)) (wrap64 (x6 + 1))) else (if x5 = 0 then (none) else (some (Int.tmod x1 x5)))
def bodkinref02_Cut.f (k : Nat) (a0 : Int) (a1 : Int) : Option (Int) := if a0 = 64 then (some a1) else (bodkinref02_Cut.l0 k a0 a1 1 0)
theorem bodkinref02_Cut.mono_l : ∀ k, (∀ y0 y1 y2 y3, LeO (bodkinref02_Cut.l0 k y0 y1 y2 y3) (bodkinref02_Cut.l0 (k + 1) y0 y1 y2 y3)) := by
  intro k
  induction k with
  | zero => exact fun _ _ _ _ r h => by simp [bodkinref02_Cut.l0] at h
  | succ k ih =>
    have ih0 := ih
    · intro y0 y1 y2 y3
      unfold bodkinref02_Cut.l0
      repeat' first
      | (with_reducible exact ih0 _ _ _ _)
      | (with_reducible exact LeO.refl _)
      | (with_reducible exact LeO.none _)
      | (with_reducible refine LeO.ite ?_ ?_)
      | (with_reducible refine LeO.bind ?_ (fun _ => ?_))
      | exact ih0 _ _ _ _
      | exact LeO.none _
      | refine LeO.ite ?_ ?_
      | refine LeO.bind ?_ (fun _ => ?_)
theorem bodkinref02_Cut.mono : ∀ a0 a1 k, LeO (bodkinref02_Cut.f k a0 a1) (bodkinref02_Cut.f (k + 1) a0 a1) := by
  intro a0 a1 k
  have ih0 := bodkinref02_Cut.mono_l k
  unfold bodkinref02_Cut.f
  repeat' first
      | (with_reducible exact ih0 _ _ _ _)
      | (with_reducible exact LeO.refl _)
      | (with_reducible exact LeO.none _)
      | (with_reducible refine LeO.ite ?_ ?_)
      | (with_reducible refine LeO.bind ?_ (fun _ => ?_))
      | exact ih0 _ _ _ _
      | exact LeO.none _
      | refine LeO.ite ?_ ?_
      | refine LeO.bind ?_ (fun _ => ?_)
set_option maxHeartbeats 8000000 in
set_option maxRecDepth 100000 in
theorem bodkinref02_Cut.calls (k : Nat) (a0 : Int) (a1 : Int) (r : Int) (w : World) (h : bodkinref02_Cut.f k a0 a1 = some r) :
    Calls Tryd.prog 24 #[.int .i64 a0, .int .u64 a1] w fun e w' => e = .returned (.int .u64 r) ∧ Drawn0 w w' := by
  have H : (if a0 = 64 then (some a1) else (bodkinref02_Cut.l0 k a0 a1 1 0)) = some r := h
  clear h
  by_cases c3 : a0 = 64
  · rw [if_pos c3] at H
    have c3b0 : (a0 == 64) = true := beq_iff_eq.mpr c3
    have c3b1 : (a0 != 64) = false := bne_eq_false_iff_eq.mpr c3
    clear c3
    obtain rfl := Option.some.inj H
    go_enter Tryd.func24, Tryd.ntmps24
    go_wp2
    go_ret
    exact ⟨by first | rfl | (simp; done) | (simp [*]; done), by repeat (first | exact Drawn0.refl _ | apply Drawn0.step)⟩
  · rw [if_neg c3] at H
    have c3b0 : (a0 == 64) = false := beq_eq_false_iff_ne.mpr c3
    have c3b1 : (a0 != 64) = true := bne_iff_ne.mpr c3
    have H' := Aside0.mk H
    clear H
    go_enter Tryd.func24, Tryd.ntmps24
    go_wp2
    go_loopg [5, 6] k (fun kq v5 v6 w' => ∃ (x5_1 : Int) (x6_1 : Int), v5 = .int .u64 x5_1 ∧ v6 = .int .i64 x6_1 ∧ Aside0 (bodkinref02_Cut.l0 kq a0 a1 x5_1 x6_1 = some r) ∧ Aside0 (kq ≤ k) ∧ Drawn0 w w')
    case atStart => exact ⟨(1), (0), (by first | rfl | (simp; done) | (simp [*]; done)), (by first | rfl | (simp; done) | (simp [*]; done)), H', ⟨Nat.le_refl _⟩, by repeat (first | exact Drawn0.refl _ | apply Drawn0.step)⟩
    case round =>
      clear H'
      try clear c2
      try clear p2
      try clear c3
      try clear c3b0
      try clear c3b1
      obtain ⟨x5_1, x6_1, rfl, rfl, HA, HK1, ⟨m1, rfl⟩⟩ := hrel
      cases gk with
      | zero => exact absurd HA.out (by simp [bodkinref02_Cut.l0])
      | succ k1 =>
        have H := HA.out
        clear HA
        simp only [bodkinref02_Cut.l0] at H
        by_cases c4 : x6_1 < a0
        · rw [if_pos c4] at H
          have c4b0 : decide (x6_1 < a0) = true := decide_eq_true c4
          clear c4
          have H' := Aside0.mk H
          clear H
          go_wp2
          go_roundg k1
          case measure => have := HK1.out; omega
          case rel => exact ⟨(IntKind.u64.wrap (x5_1 * 2)), (wrap64 (x6_1 + 1)), (by first | rfl | (simp; done) | (simp [*]; done)), (by first | rfl | (simp; done) | (simp [*]; done)), H', ⟨by have := HK1.out; omega⟩, by repeat (first | exact Drawn0.refl _ | apply Drawn0.step)⟩
        · rw [if_neg c4] at H
          have c4b0 : decide (x6_1 < a0) = false := decide_eq_false c4
          clear c4
          by_cases c5 : x5_1 = 0
          · rw [if_pos c5] at H
            exact absurd H (by simp)
          · rw [if_neg c5] at H
            have c5b0 : (x5_1 == 0) = false := beq_eq_false_iff_ne.mpr c5
            have c5b1 : (x5_1 != 0) = true := bne_iff_ne.mpr c5
            obtain rfl := Option.some.inj H
            go_wp2
            go_ret
            exact ⟨by first | rfl | (simp; done) | (simp [*]; done), by repeat (first | exact Drawn0.refl _ | apply Drawn0.step)⟩

end Go.Proofs.YtajmjmnlapplaaaDoor.PInts

namespace Go.Proofs.YtajmjmnlapplaaaDoor.PInts
open Go.RowKit Go.Proofs.YtajmjmnlapplaaaDoorW.PrintWords Go.Proofs.YtajmjmnlapplaaaDoorW.PrintLast Go.Proofs.YtajmjmnlapplaaaDoorW.PrintMore
attribute [local go_sem] max2_int min2_int max_two min_two max_three min_three max_four min_four   -- for this text's walks alone
set_option linter.unusedVariables false
set_option linter.unusedSimpArgs false

/-! ### bodkinref02_Right: function 31 -/
def bodkinref02_Right.f (a0 : Int) : Option (Bool) := if a0 = 8 then (some true) else (if a0 = 16 then (some true) else (if a0 = 32 then (some true) else (some (a0 == 64))))
set_option maxHeartbeats 8000000 in
set_option maxRecDepth 100000 in
theorem bodkinref02_Right.calls (a0 : Int) (r : Bool) (w : World) (h : bodkinref02_Right.f a0 = some r) :
    Calls Tryd.prog 31 #[.int .i64 a0] w fun e w' => e = .returned (.bool r) ∧ Drawn0 w w' := by
  have H : (if a0 = 8 then (some true) else (if a0 = 16 then (some true) else (if a0 = 32 then (some true) else (some (a0 == 64))))) = some r := h
  clear h
  by_cases c2 : a0 = 8
  · rw [if_pos c2] at H
    have c2b0 : (a0 == 8) = true := beq_iff_eq.mpr c2
    have c2b1 : (a0 != 8) = false := bne_eq_false_iff_eq.mpr c2
    clear c2
    obtain rfl := Option.some.inj H
    go_enter Tryd.func31, Tryd.ntmps31
    go_wp2
    go_ret
    exact ⟨by first | rfl | (simp; done) | (simp [*]; done), by repeat (first | exact Drawn0.refl _ | apply Drawn0.step)⟩
  · rw [if_neg c2] at H
    have c2b0 : (a0 == 8) = false := beq_eq_false_iff_ne.mpr c2
    have c2b1 : (a0 != 8) = true := bne_iff_ne.mpr c2
    by_cases c3 : a0 = 16
    · rw [if_pos c3] at H
      have c3b0 : (a0 == 16) = true := beq_iff_eq.mpr c3
      have c3b1 : (a0 != 16) = false := bne_eq_false_iff_eq.mpr c3
      clear c3
      obtain rfl := Option.some.inj H
      go_enter Tryd.func31, Tryd.ntmps31
      go_wp2
      go_ret
      exact ⟨by first | rfl | (simp; done) | (simp [*]; done), by repeat (first | exact Drawn0.refl _ | apply Drawn0.step)⟩
    · rw [if_neg c3] at H
      have c3b0 : (a0 == 16) = false := beq_eq_false_iff_ne.mpr c3
      have c3b1 : (a0 != 16) = true := bne_iff_ne.mpr c3
      by_cases c4 : a0 = 32
      · rw [if_pos c4] at H
        have c4b0 : (a0 == 32) = true := beq_iff_eq.mpr c4
        have c4b1 : (a0 != 32) = false := bne_eq_false_iff_eq.mpr c4
        clear c4
        obtain rfl := Option.some.inj H
        go_enter Tryd.func31, Tryd.ntmps31
        go_wp2
        go_ret
        exact ⟨by first | rfl | (simp; done) | (simp [*]; done), by repeat (first | exact Drawn0.refl _ | apply Drawn0.step)⟩
      · rw [if_neg c4] at H
        have c4b0 : (a0 == 32) = false := beq_eq_false_iff_ne.mpr c4
        have c4b1 : (a0 != 32) = true := bne_iff_ne.mpr c4
        obtain rfl := Option.some.inj H
        go_enter Tryd.func31, Tryd.ntmps31
        go_wp2
        go_ret
        exact ⟨by first | rfl | (simp; done) | (simp [*]; done), by repeat (first | exact Drawn0.refl _ | apply Drawn0.step)⟩

end Go.Proofs.YtajmjmnlapplaaaDoor.PInts

namespace Go.Proofs.YtajmjmnlapplaaaDoor.PInts
open Go.RowKit Go.Proofs.YtajmjmnlapplaaaDoorW.PrintWords Go.Proofs.YtajmjmnlapplaaaDoorW.PrintLast Go.Proofs.YtajmjmnlapplaaaDoorW.PrintMore
attribute [local go_sem] max2_int min2_int max_two min_two max_three min_three max_four min_four   -- for this text's walks alone
set_option linter.unusedVariables false
set_option linter.unusedSimpArgs false

/-! ### bodkinref02_bit: function 32 -/
def bodkinref02_bit.l0 : Nat → Int → Int → Int → Option (Int)
  | 0, _, _, _ => none
  | k + 1, x0, x1, x5 => if x5 < x1 then (bodkinref02_bit.l0 k (IntKind.u64.wrap (Int.tdiv x0 2)) x1 (wrap64 (x5 + 1))) else (some (Int.tmod x0 2))
def bodkinref02_bit.f (k : Nat) (a0 : Int) (a1 : Int) : Option (Int) := bodkinref02_bit.l0 k a0 a1 0
theorem bodkinref02_bit.mono_l : ∀ k, (∀ y0 y1 y2, LeO (bodkinref02_bit.l0 k y0 y1 y2) (bodkinref02_bit.l0 (k + 1) y0 y1 y2)) := by
  intro k
  induction k with
  | zero => exact fun _ _ _ r h => by simp [bodkinref02_bit.l0] at h
  | succ k ih =>
    have ih0 := ih
    · intro y0 y1 y2
      unfold bodkinref02_bit.l0
      repeat' first
      | (with_reducible exact ih0 _ _ _)
      | (with_reducible exact LeO.refl _)
      | (with_reducible exact LeO.none _)
      | (with_reducible refine LeO.ite ?_ ?_)
      | (with_reducible refine LeO.bind ?_ (fun _ => ?_))
      | exact ih0 _ _ _
      | exact LeO.none _
      | refine LeO.ite ?_ ?_
      | refine LeO.bind ?_ (fun _ => ?_)
theorem bodkinref02_bit.mono : ∀ a0 a1 k, LeO (bodkinref02_bit.f k a0 a1) (bodkinref02_bit.f (k + 1) a0 a1) := by
  intro a0 a1 k
  have ih0 := bodkinref02_bit.mono_l k
  unfold bodkinref02_bit.f
  repeat' first
      | (with_reducible exact ih0 _ _ _)
      | (with_reducible exact LeO.refl _)
      | (with_reducible exact LeO.none _)
      | (with_reducible refine LeO.ite ?_ ?_)
      | (with_reducible refine LeO.bind ?_ (fun _ => ?_))
      | exact ih0 _ _ _
      | exact LeO.none _
      | refine LeO.ite ?_ ?_
      | refine LeO.bind ?_ (fun _ => ?_)
set_option maxHeartbeats 8000000 in
set_option maxRecDepth 100000 in
theorem bodkinref02_bit.calls (k : Nat) (a0 : Int) (a1 : Int) (r : Int) (w : World) (h : bodkinref02_bit.f k a0 a1 = some r) :
    Calls Tryd.prog 32 #[.int .u64 a0, .int .i64 a1] w fun e w' => e = .returned (.int .u64 r) ∧ Drawn0 w w' := by
  have H : (bodkinref02_bit.l0 k a0 a1 0) = some r := h
  clear h
  have H' := Aside0.mk H
  clear H
  go_enter Tryd.func32, Tryd.ntmps32
  go_wp2
  go_loopg [0, 5] k (fun kq v0 v5 w' => ∃ (x0_1 : Int) (x5_1 : Int), v0 = .int .u64 x0_1 ∧ v5 = .int .i64 x5_1 ∧ Aside0 (bodkinref02_bit.l0 kq x0_1 a1 x5_1 = some r) ∧ Aside0 (kq ≤ k) ∧ Drawn0 w w')
  case atStart => exact ⟨(a0), (0), (by first | rfl | (simp; done) | (simp [*]; done)), (by first | rfl | (simp; done) | (simp [*]; done)), H', ⟨Nat.le_refl _⟩, by repeat (first | exact Drawn0.refl _ | apply Drawn0.step)⟩
  case round =>
    clear H'
    try clear p2
    obtain ⟨x0_1, x5_1, rfl, rfl, HA, HK1, ⟨m1, rfl⟩⟩ := hrel
    cases gk with
    | zero => exact absurd HA.out (by simp [bodkinref02_bit.l0])
    | succ k1 =>
      have H := HA.out
      clear HA
      simp only [bodkinref02_bit.l0] at H
      by_cases c3 : x5_1 < a1
      · rw [if_pos c3] at H
        have c3b0 : decide (x5_1 < a1) = true := decide_eq_true c3
        clear c3
        have H' := Aside0.mk H
        clear H
        go_wp2
        go_roundg k1
        case measure => have := HK1.out; omega
        case rel => exact ⟨(IntKind.u64.wrap (Int.tdiv x0_1 2)), (wrap64 (x5_1 + 1)), (by first | rfl | (simp; done) | (simp [*]; done)), (by first | rfl | (simp; done) | (simp [*]; done)), H', ⟨by have := HK1.out; omega⟩, by repeat (first | exact Drawn0.refl _ | apply Drawn0.step)⟩
      · rw [if_neg c3] at H
        have c3b0 : decide (x5_1 < a1) = false := decide_eq_false c3
        clear c3
        obtain rfl := Option.some.inj H
        go_wp2
        go_ret
        exact ⟨by first | rfl | (simp; done) | (simp [*]; done), by repeat (first | exact Drawn0.refl _ | apply Drawn0.step)⟩

end Go.Proofs.YtajmjmnlapplaaaDoor.PInts

namespace Go.Proofs.YtajmjmnlapplaaaDoor.PInts
open Go.RowKit Go.Proofs.YtajmjmnlapplaaaDoorW.PrintWords Go.Proofs.YtajmjmnlapplaaaDoorW.PrintLast Go.Proofs.YtajmjmnlapplaaaDoorW.PrintMore
attribute [local go_sem] max2_int min2_int max_two min_two max_three min_three max_four min_four   -- for this text's walks alone
set_option linter.unusedVariables false
set_option linter.unusedSimpArgs false

/-! ### bodkinref02_Signed: function 23 -/
def bodkinref02_Signed.f (k : Nat) (a0 : Int) (a1 : Int) : Option (Int) := (bodkinref02_Right.f a0).bind fun t143 => (if t143 = true then ((bodkinref02_Cut.f k a0 a1).bind fun t144 => ((bodkinref02_bit.f k t144 (wrap64 (a0 - 1))).bind fun t145 => (if t145 = 1 then ((bodkinref02_Cut.f k a0 (IntKind.u64.wrap (-t144))).bind fun t146 => (some (wrap64 ((wrap64 (-(wrap64 (IntKind.u64.wrap (t146 - 1))))) - 1)))) else (some (wrap64 (t144)))))) else (some 0))
theorem bodkinref02_Signed.mono : ∀ a0 a1 k, LeO (bodkinref02_Signed.f k a0 a1) (bodkinref02_Signed.f (k + 1) a0 a1) := by
  intro a0 a1 k
  unfold bodkinref02_Signed.f
  repeat' first
      | (with_reducible exact bodkinref02_Cut.mono _ _ _)
      | (with_reducible exact bodkinref02_bit.mono _ _ _)
      | (with_reducible exact LeO.refl _)
      | (with_reducible exact LeO.none _)
      | (with_reducible refine LeO.ite ?_ ?_)
      | (with_reducible refine LeO.bind ?_ (fun _ => ?_))
      | exact bodkinref02_Cut.mono _ _ _
      | exact bodkinref02_bit.mono _ _ _
      | exact LeO.none _
      | refine LeO.ite ?_ ?_
      | refine LeO.bind ?_ (fun _ => ?_)
set_option maxHeartbeats 8000000 in
set_option maxRecDepth 100000 in
theorem bodkinref02_Signed.calls (k : Nat) (a0 : Int) (a1 : Int) (r : Int) (w : World) (h : bodkinref02_Signed.f k a0 a1 = some r) :
    Calls Tryd.prog 23 #[.int .i64 a0, .int .u64 a1] w fun e w' => e = .returned (.int .i64 r) ∧ Drawn0 w w' := by
  have H : ((bodkinref02_Right.f a0).bind fun t143 => (if t143 = true then ((bodkinref02_Cut.f k a0 a1).bind fun t144 => ((bodkinref02_bit.f k t144 (wrap64 (a0 - 1))).bind fun t145 => (if t145 = 1 then ((bodkinref02_Cut.f k a0 (IntKind.u64.wrap (-t144))).bind fun t146 => (some (wrap64 ((wrap64 (-(wrap64 (IntKind.u64.wrap (t146 - 1))))) - 1)))) else (some (wrap64 (t144)))))) else (some 0))) = some r := h
  clear h
  replace H := Option.bind_eq_some_iff.mp H
  obtain ⟨t143, A30, H⟩ := H
  replace H : (if t143 = true then ((bodkinref02_Cut.f k a0 a1).bind fun t144 => ((bodkinref02_bit.f k t144 (wrap64 (a0 - 1))).bind fun t145 => (if t145 = 1 then ((bodkinref02_Cut.f k a0 (IntKind.u64.wrap (-t144))).bind fun t146 => (some (wrap64 ((wrap64 (-(wrap64 (IntKind.u64.wrap (t146 - 1))))) - 1)))) else (some (wrap64 (t144)))))) else (some 0)) = some r := H
  have A3 := Aside0.mk A30
  clear A30
  by_cases c4 : t143 = true
  · subst c4
    have H1 : ((bodkinref02_Cut.f k a0 a1).bind fun t144 => ((bodkinref02_bit.f k t144 (wrap64 (a0 - 1))).bind fun t145 => (if t145 = 1 then ((bodkinref02_Cut.f k a0 (IntKind.u64.wrap (-t144))).bind fun t146 => (some (wrap64 ((wrap64 (-(wrap64 (IntKind.u64.wrap (t146 - 1))))) - 1)))) else (some (wrap64 (t144)))))) = some r := by rw [if_pos rfl] at H; exact H
    clear H
    have H := H1
    clear H1
    replace H := Option.bind_eq_some_iff.mp H
    obtain ⟨t144, A50, H⟩ := H
    replace H : ((bodkinref02_bit.f k t144 (wrap64 (a0 - 1))).bind fun t145 => (if t145 = 1 then ((bodkinref02_Cut.f k a0 (IntKind.u64.wrap (-t144))).bind fun t146 => (some (wrap64 ((wrap64 (-(wrap64 (IntKind.u64.wrap (t146 - 1))))) - 1)))) else (some (wrap64 (t144))))) = some r := H
    have A5 := Aside0.mk A50
    clear A50
    replace H := Option.bind_eq_some_iff.mp H
    obtain ⟨t145, A60, H⟩ := H
    replace H : (if t145 = 1 then ((bodkinref02_Cut.f k a0 (IntKind.u64.wrap (-t144))).bind fun t146 => (some (wrap64 ((wrap64 (-(wrap64 (IntKind.u64.wrap (t146 - 1))))) - 1)))) else (some (wrap64 (t144)))) = some r := H
    have A6 := Aside0.mk A60
    clear A60
    by_cases c7 : t145 = 1
    · rw [if_pos c7] at H
      have c7b0 : (t145 == 1) = true := beq_iff_eq.mpr c7
      have c7b1 : (t145 != 1) = false := bne_eq_false_iff_eq.mpr c7
      clear c7
      replace H := Option.bind_eq_some_iff.mp H
      obtain ⟨t146, A80, H⟩ := H
      replace H : (some (wrap64 ((wrap64 (-(wrap64 (IntKind.u64.wrap (t146 - 1))))) - 1))) = some r := H
      have A8 := Aside0.mk A80
      clear A80
      obtain rfl := Option.some.inj H
      go_enter Tryd.func23, Tryd.ntmps23
      go_wp2_with (first | ((with_reducible refine gate_callee (f := 31) rfl ?_); refine goesL_ (some 8) rfl rfl Tryd.func31 (by kernel_rfl) rfl #[.int .i64 a0] rfl (by (try simp only [List.map_toArray, List.map_cons, List.map_nil]); first | done | rfl | (simp only [List.length_drop, List.length_take]; rfl)) ?_; (with_reducible refine (bodkinref02_Right.calls a0 true _ A3.out).mono ?_); rintro e w' ⟨rfl, ⟨nd, rfl⟩⟩; refine ⟨_, rfl, ?_⟩) | ((with_reducible refine gate_callee (f := 24) rfl ?_); refine goesL_ (some 13) rfl rfl Tryd.func24 (by kernel_rfl) rfl #[.int .i64 a0, .int .u64 a1] rfl (by (try simp only [List.map_toArray, List.map_cons, List.map_nil]); first | done | rfl | (simp only [List.length_drop, List.length_take]; rfl)) ?_; (with_reducible refine (bodkinref02_Cut.calls k a0 a1 t144 _ A5.out).mono ?_); rintro e w' ⟨rfl, ⟨nd, rfl⟩⟩; refine ⟨_, rfl, ?_⟩) | ((with_reducible refine gate_callee (f := 32) rfl ?_); refine goesL_ (some 17) rfl rfl Tryd.func32 (by kernel_rfl) rfl #[.int .u64 t144, .int .i64 (wrap64 (a0 - 1))] rfl (by (try simp only [List.map_toArray, List.map_cons, List.map_nil]); first | done | rfl | (simp only [List.length_drop, List.length_take]; rfl)) ?_; (with_reducible refine (bodkinref02_bit.calls k t144 (wrap64 (a0 - 1)) t145 _ A6.out).mono ?_); rintro e w' ⟨rfl, ⟨nd, rfl⟩⟩; refine ⟨_, rfl, ?_⟩) | ((with_reducible refine gate_callee (f := 24) rfl ?_); refine goesL_ (some 22) rfl rfl Tryd.func24 (by kernel_rfl) rfl #[.int .i64 a0, .int .u64 (IntKind.u64.wrap (-t144))] rfl (by (try simp only [List.map_toArray, List.map_cons, List.map_nil]); first | done | rfl | (simp only [List.length_drop, List.length_take]; rfl)) ?_; (with_reducible refine (bodkinref02_Cut.calls k a0 (IntKind.u64.wrap (-t144)) t146 _ A8.out).mono ?_); rintro e w' ⟨rfl, ⟨nd, rfl⟩⟩; refine ⟨_, rfl, ?_⟩))
      go_ret
      exact ⟨by first | rfl | (simp; done) | (simp [*]; done), by repeat (first | exact Drawn0.refl _ | apply Drawn0.step)⟩
    · rw [if_neg c7] at H
      have c7b0 : (t145 == 1) = false := beq_eq_false_iff_ne.mpr c7
      have c7b1 : (t145 != 1) = true := bne_iff_ne.mpr c7
      obtain rfl := Option.some.inj H
      go_enter Tryd.func23, Tryd.ntmps23
      go_wp2_with (first | ((with_reducible refine gate_callee (f := 31) rfl ?_); refine goesL_ (some 8) rfl rfl Tryd.func31 (by kernel_rfl) rfl #[.int .i64 a0] rfl (by (try simp only [List.map_toArray, List.map_cons, List.map_nil]); first | done | rfl | (simp only [List.length_drop, List.length_take]; rfl)) ?_; (with_reducible refine (bodkinref02_Right.calls a0 true _ A3.out).mono ?_); rintro e w' ⟨rfl, ⟨nd, rfl⟩⟩; refine ⟨_, rfl, ?_⟩) | ((with_reducible refine gate_callee (f := 24) rfl ?_); refine goesL_ (some 13) rfl rfl Tryd.func24 (by kernel_rfl) rfl #[.int .i64 a0, .int .u64 a1] rfl (by (try simp only [List.map_toArray, List.map_cons, List.map_nil]); first | done | rfl | (simp only [List.length_drop, List.length_take]; rfl)) ?_; (with_reducible refine (bodkinref02_Cut.calls k a0 a1 t144 _ A5.out).mono ?_); rintro e w' ⟨rfl, ⟨nd, rfl⟩⟩; refine ⟨_, rfl, ?_⟩) | ((with_reducible refine gate_callee (f := 32) rfl ?_); refine goesL_ (some 17) rfl rfl Tryd.func32 (by kernel_rfl) rfl #[.int .u64 t144, .int .i64 (wrap64 (a0 - 1))] rfl (by (try simp only [List.map_toArray, List.map_cons, List.map_nil]); first | done | rfl | (simp only [List.length_drop, List.length_take]; rfl)) ?_; (with_reducible refine (bodkinref02_bit.calls k t144 (wrap64 (a0 - 1)) t145 _ A6.out).mono ?_); rintro e w' ⟨rfl, ⟨nd, rfl⟩⟩; refine ⟨_, rfl, ?_⟩))
      go_ret
      exact ⟨by first | rfl | (simp; done) | (simp [*]; done), by repeat (first | exact Drawn0.refl _ | apply Drawn0.step)⟩
  · replace c4 := Bool.eq_false_iff.mpr c4
    subst c4
    have H1 : (some 0) = some r := by rw [if_neg (show ¬ (false = true) by decide)] at H; exact H
    clear H
    have H := H1
    clear H1
    obtain rfl := Option.some.inj H
    go_enter Tryd.func23, Tryd.ntmps23
    go_wp2_with (first | ((with_reducible refine gate_callee (f := 31) rfl ?_); refine goesL_ (some 8) rfl rfl Tryd.func31 (by kernel_rfl) rfl #[.int .i64 a0] rfl (by (try simp only [List.map_toArray, List.map_cons, List.map_nil]); first | done | rfl | (simp only [List.length_drop, List.length_take]; rfl)) ?_; (with_reducible refine (bodkinref02_Right.calls a0 false _ A3.out).mono ?_); rintro e w' ⟨rfl, ⟨nd, rfl⟩⟩; refine ⟨_, rfl, ?_⟩))
    go_ret
    exact ⟨by first | rfl | (simp; done) | (simp [*]; done), by repeat (first | exact Drawn0.refl _ | apply Drawn0.step)⟩

end Go.Proofs.YtajmjmnlapplaaaDoor.PInts

namespace Go.Proofs.YtajmjmnlapplaaaDoor.PInts
open Go.RowKit Go.Proofs.YtajmjmnlapplaaaDoorW.PrintWords Go.Proofs.YtajmjmnlapplaaaDoorW.PrintLast Go.Proofs.YtajmjmnlapplaaaDoorW.PrintMore
attribute [local go_sem] max2_int min2_int max_two min_two max_three min_three max_four min_four   -- for this text's walks alone
set_option linter.unusedVariables false
set_option linter.unusedSimpArgs false

/-! ### bodkinref02_list: function 34 -/
def bodkinref02_list.l0 : Nat → Int → Int → List Int → Int → Option (List Int)
  | 0, _, _, _, _ => none
  | k + 1, x0, x1, x5, x6 => if x6 < x0 then (if x5.length < 17592186044416 then (bodkinref02_list.l0 k x0 (IntKind.u64.wrap (Int.tdiv x1 2)) (x5 ++ [Int.tmod x1 2]) (wrap64 (x6 + 1))) else (none)) else (some x5)
def bodkinref02_list.f (k : Nat) (a0 : Int) (a1 : Int) : Option (List Int) := bodkinref02_list.l0 k a0 a1 ([] : List Int) 0
theorem bodkinref02_list.mono_l : ∀ k, (∀ y0 y1 y2 y3, LeO (bodkinref02_list.l0 k y0 y1 y2 y3) (bodkinref02_list.l0 (k + 1) y0 y1 y2 y3)) := by
  intro k
  induction k with
  | zero => exact fun _ _ _ _ r h => by simp [bodkinref02_list.l0] at h
  | succ k ih =>
    have ih0 := ih
    · intro y0 y1 y2 y3
      unfold bodkinref02_list.l0
      repeat' first
      | (with_reducible exact ih0 _ _ _ _)
      | (with_reducible exact LeO.refl _)
      | (with_reducible exact LeO.none _)
      | (with_reducible refine LeO.ite ?_ ?_)
      | (with_reducible refine LeO.bind ?_ (fun _ => ?_))
      | exact ih0 _ _ _ _
      | exact LeO.none _
      | refine LeO.ite ?_ ?_
      | refine LeO.bind ?_ (fun _ => ?_)
theorem bodkinref02_list.mono : ∀ a0 a1 k, LeO (bodkinref02_list.f k a0 a1) (bodkinref02_list.f (k + 1) a0 a1) := by
  intro a0 a1 k
  have ih0 := bodkinref02_list.mono_l k
  unfold bodkinref02_list.f
  repeat' first
      | (with_reducible exact ih0 _ _ _ _)
      | (with_reducible exact LeO.refl _)
      | (with_reducible exact LeO.none _)
      | (with_reducible refine LeO.ite ?_ ?_)
      | (with_reducible refine LeO.bind ?_ (fun _ => ?_))
      | exact ih0 _ _ _ _
      | exact LeO.none _
      | refine LeO.ite ?_ ?_
      | refine LeO.bind ?_ (fun _ => ?_)
set_option maxHeartbeats 8000000 in
set_option maxRecDepth 100000 in
theorem bodkinref02_list.calls (k : Nat) (a0 : Int) (a1 : Int) (r : List Int) (w : World) (h : bodkinref02_list.f k a0 a1 = some r) :
    Calls Tryd.prog 34 #[.int .i64 a0, .int .u64 a1] w fun e w' => ∃ v0_ : Value, e = .returned (v0_) ∧ Kd.R (Kd.int .u64) 22 w' w.heap.size (fun _ => True) v0_ r ∧ Below w.heap.size w w' := by
  have HB := Aside0.mk (Below.refl w.heap.size w)
  have H : (bodkinref02_list.l0 k a0 a1 ([] : List Int) 0) = some r := h
  clear h
  have H' := Aside0.mk H
  clear H
  go_enter Tryd.func34, Tryd.ntmps34
  go_wp2
  go_loopg [1, 5, 6] k (fun kq v1 v5 v6 w' => ∃ (x1_1 : Int) (x5_1 : List Int) (x6_1 : Int), v1 = .int .u64 x1_1 ∧ v6 = .int .i64 x6_1 ∧ Aside0 (bodkinref02_list.l0 kq a0 x1_1 x5_1 x6_1 = some r) ∧ Aside0 (kq ≤ k) ∧ Aside0 (Kd.R (Kd.int .u64) 22 w' w.heap.size (fun _ => True) v5 x5_1) ∧ Aside0 (Below w.heap.size w w'))
  case atStart => exact ⟨(a1), (([] : List Int)), (0), (by first | rfl | (simp; done) | (simp [*]; done)), (by first | rfl | (simp; done) | (simp [*]; done)), H', ⟨Nat.le_refl _⟩, ⟨by first | exact Kd.R_nil _ _ _ _ _ | exact Kd.N_nil _ _ _ _ _ | exact Kd.V_nil _ _ _ _ _ | exact Kd.Q_nil _ _ _ _ _ | exact Kd.S_nil _ _ _ _ _⟩, ⟨by repeat (first | (with_reducible first | exact HB.out | apply below_alloc | apply pw_below_drewN | apply below_drew1) | exact HB.out)⟩⟩
  case round =>
    clear H'
    try clear p2
    obtain ⟨x1_1, x5_1, x6_1, rfl, rfl, HA, HK1, HO_5, HB⟩ := hrel
    cases gk with
    | zero => exact absurd HA.out (by simp [bodkinref02_list.l0])
    | succ k1 =>
      have H := HA.out
      clear HA
      simp only [bodkinref02_list.l0] at H
      by_cases c3 : x6_1 < a0
      · rw [if_pos c3] at H
        have c3b0 : decide (x6_1 < a0) = true := decide_eq_true c3
        clear c3
        by_cases c4 : x5_1.length < 17592186044416
        · rw [if_pos c4] at H
          have LMc4 := Aside0.mk c4
          clear c4
          obtain ⟨y147, hy147⟩ : ∃ y_ : List Int, y_ = (x5_1 ++ [Int.tmod x1_1 2]) := ⟨_, rfl⟩
          replace H : (bodkinref02_list.l0 k1 a0 (IntKind.u64.wrap (Int.tdiv x1_1 2)) y147 (wrap64 (x6_1 + 1))) = some r := by first | (rw [hy147]; with_reducible exact H) | (have H2_ := (Option.bind_some _ _).symm.trans H; rw [hy147]; with_reducible exact H2_) | (have H2_ := (Option.bind_some _ _).symm.trans H; with_reducible exact H2_) | with_reducible exact H | (rw [hy147]; exact H) | exact H
          have Ny147 := Aside0.mk hy147
          clear hy147
          have H' := Aside0.mk H
          clear H
          go_wp2_with (first | ((with_reducible refine gate_builtin (b := .append) (xs := #[.tmp 12, .tmp 15]) rfl ?_); at_builtin; refine Kd.R_append (Kd.int .u64) (w0 := w) w.heap.size rfl (.tmp 12) (.tmp 15) 41 22 (.int .u64 0) 8 rfl Tryd.underlying41 info22 rfl (by decide) (by omega) u5 x5_1 (Int.tmod x1_1 2) [.int .u64 (Int.tmod x1_1 2)] (fun _ => True) (fun _ => False) rfl rfl ?aP (fun _ hk => hk.elim) ?aF ?aO ?aB ?aS ?aL ?_; (case aP => exact rfl); (case aB => exact (by repeat (first | (with_reducible first | exact HB.out | apply below_alloc | apply pw_below_drewN | apply below_drew1) | exact HB.out))); (case aF => exact (fun _ _ => trivial)); (case aO => exact (by (with_reducible repeat (first | apply Kd.R_alloc | apply Kd.R_drewN | apply Kd.R_drew)); exact HO_5.out)); (case aS => exact (below_size (by repeat (first | (with_reducible first | exact HB.out | apply below_alloc | apply pw_below_drewN | apply below_drew1) | exact HB.out)))); (case aL => have := LMc4.out; omega); intro v148 w5 ho hb hg hat; rw [← Ny147.out] at ho; have n0_ := Aside0.mk (hb); have n1_ := Aside0.mk (ho); clear HB; clear HO_5; have HB := n0_; have HO149 := n1_; clear n0_ n1_; clear ho hb hg hat))
          go_roundg k1
          case measure => have := HK1.out; omega
          case rel => exact ⟨(IntKind.u64.wrap (Int.tdiv x1_1 2)), (y147), (wrap64 (x6_1 + 1)), (by first | rfl | (simp; done) | (simp [*]; done)), (by first | rfl | (simp; done) | (simp [*]; done)), H', ⟨by have := HK1.out; omega⟩, ⟨by (with_reducible repeat (first | apply Kd.R_alloc | apply Kd.R_drewN | apply Kd.R_drew)); exact HO149.out⟩, ⟨by repeat (first | (with_reducible first | exact HB.out | apply below_alloc | apply pw_below_drewN | apply below_drew1) | exact HB.out)⟩⟩
        · rw [if_neg c4] at H
          exact absurd H (by simp)
      · rw [if_neg c3] at H
        have c3b0 : decide (x6_1 < a0) = false := decide_eq_false c3
        clear c3
        obtain rfl := Option.some.inj H
        go_wp2
        go_ret
        exact ⟨_, by first | rfl | (simp [errW_none, errW_some] <;> rfl) | (simp [*, errW_none, errW_some] <;> rfl), by (with_reducible repeat (first | apply Kd.R_alloc | apply Kd.R_drewN | apply Kd.R_drew)); exact HO_5.out, by repeat (first | (with_reducible first | exact HB.out | apply below_alloc | apply pw_below_drewN | apply below_drew1) | exact HB.out)⟩

end Go.Proofs.YtajmjmnlapplaaaDoor.PInts

namespace Go.Proofs.YtajmjmnlapplaaaDoor.PInts
open Go.RowKit Go.Proofs.YtajmjmnlapplaaaDoorW.PrintWords Go.Proofs.YtajmjmnlapplaaaDoorW.PrintLast Go.Proofs.YtajmjmnlapplaaaDoorW.PrintMore
attribute [local go_sem] max2_int min2_int max_two min_two max_three min_three max_four min_four   -- for this text's walks alone
set_option linter.unusedVariables false
set_option linter.unusedSimpArgs false

/-! ### bodkinref02_quo: function 42 -/
def bodkinref02_quo.l0 : Nat → Int → Int → Int → List Int → Int → Option (Int × Int)
  | 0, _, _, _, _, _ => none
  | k + 1, x1, x6, x7, x8, x9 => if x9 ≥ 0 then (if 0 ≤ x9 then (if x9 < (x8.length : Int) then (if x7 ≥ 9223372036854775808 then (bodkinref02_quo.l0 k x1 (IntKind.u64.wrap ((IntKind.u64.wrap (x6 * 2)) + 1)) (IntKind.u64.wrap ((IntKind.u64.wrap ((IntKind.u64.wrap (x7 * 2)) + (rd x8 x9))) - x1)) x8 (wrap64 (x9 - 1))) else (if (IntKind.u64.wrap ((IntKind.u64.wrap (x7 * 2)) + (rd x8 x9))) ≥ x1 then (bodkinref02_quo.l0 k x1 (IntKind.u64.wrap ((IntKind.u64.wrap (x6 * 2)) + 1)) (IntKind.u64.wrap ((IntKind.u64.wrap ((IntKind.u64.wrap (x7 * 2)) + (rd x8 x9))) - x1)) x8 (wrap64 (x9 - 1))) else (bodkinref02_quo.l0 k x1 (IntKind.u64.wrap (x6 * 2)) (IntKind.u64.wrap ((IntKind.u64.wrap (x7 * 2)) + (rd x8 x9))) x8 (wrap64 (x9 - 1))))) else (none)) else (none)) else (some (x6, x7))
def bodkinref02_quo.f (k : Nat) (a0 : Int) (a1 : Int) : Option (Int × Int) := (bodkinref02_list.f k 64 a0).bind fun t150 => (bodkinref02_quo.l0 k a1 0 0 t150 63)
theorem bodkinref02_quo.mono_l : ∀ k, (∀ y0 y1 y2 y3 y4, LeO (bodkinref02_quo.l0 k y0 y1 y2 y3 y4) (bodkinref02_quo.l0 (k + 1) y0 y1 y2 y3 y4)) := by
  intro k
  induction k with
  | zero => exact fun _ _ _ _ _ r h => by simp [bodkinref02_quo.l0] at h
  | succ k ih =>
    have ih0 := ih
    · intro y0 y1 y2 y3 y4
      unfold bodkinref02_quo.l0
      repeat' first
      | (with_reducible exact ih0 _ _ _ _ _)
      | (with_reducible exact bodkinref02_list.mono _ _ _)
      | (with_reducible exact LeO.refl _)
      | (with_reducible exact LeO.none _)
      | (with_reducible refine LeO.ite ?_ ?_)
      | (with_reducible refine LeO.bind ?_ (fun _ => ?_))
      | exact ih0 _ _ _ _ _
      | exact bodkinref02_list.mono _ _ _
      | exact LeO.none _
      | refine LeO.ite ?_ ?_
      | refine LeO.bind ?_ (fun _ => ?_)
theorem bodkinref02_quo.mono : ∀ a0 a1 k, LeO (bodkinref02_quo.f k a0 a1) (bodkinref02_quo.f (k + 1) a0 a1) := by
  intro a0 a1 k
  have ih0 := bodkinref02_quo.mono_l k
  unfold bodkinref02_quo.f
  repeat' first
      | (with_reducible exact ih0 _ _ _ _ _)
      | (with_reducible exact bodkinref02_list.mono _ _ _)
      | (with_reducible exact LeO.refl _)
      | (with_reducible exact LeO.none _)
      | (with_reducible refine LeO.ite ?_ ?_)
      | (with_reducible refine LeO.bind ?_ (fun _ => ?_))
      | exact ih0 _ _ _ _ _
      | exact bodkinref02_list.mono _ _ _
      | exact LeO.none _
      | refine LeO.ite ?_ ?_
      | refine LeO.bind ?_ (fun _ => ?_)
set_option maxHeartbeats 8000000 in
set_option maxRecDepth 100000 in
theorem bodkinref02_quo.calls (k : Nat) (a0 : Int) (a1 : Int) (r1 : Int) (r2 : Int) (w : World) (h : bodkinref02_quo.f k a0 a1 = some (r1, r2)) :
    Calls Tryd.prog 42 #[.int .u64 a0, .int .u64 a1] w fun e w' => e = .returned (.tuple #[.int .u64 r1, .int .u64 r2]) ∧ Below w.heap.size w w' := by
  have HB := Aside0.mk (Below.refl w.heap.size w)
  have H : ((bodkinref02_list.f k 64 a0).bind fun t150 => (bodkinref02_quo.l0 k a1 0 0 t150 63)) = some (r1, r2) := h
  clear h
  replace H := Option.bind_eq_some_iff.mp H
  obtain ⟨t150, A30, H⟩ := H
  replace H : (bodkinref02_quo.l0 k a1 0 0 t150 63) = some (r1, r2) := H
  have A3 := Aside0.mk A30
  clear A30
  have H' := Aside0.mk H
  clear H
  go_enter Tryd.func42, Tryd.ntmps42
  go_wp2_with (first | ((with_reducible refine gate_callee (f := 34) rfl ?_); refine goesL_ (some 12) rfl rfl Tryd.func34 (by kernel_rfl) rfl #[.int .i64 64, .int .u64 a0] rfl (by (try simp only [List.map_toArray, List.map_cons, List.map_nil]); first | done | rfl | (simp only [List.length_drop, List.length_take]; rfl)) ?_; (with_reducible refine (bodkinref02_list.calls k 64 a0 t150 _ A3.out).mono ?_); rintro e w4 ⟨v151, rfl, ho0, hb⟩; refine ⟨_, rfl, ?_⟩; have n0_ := Aside0.mk (Kd.R_lower ho0 (below_size (by repeat (first | (with_reducible first | exact HB.out | apply below_alloc | apply pw_below_drewN | apply below_drew1) | exact HB.out)))); have n1_ := Aside0.mk (below_step (by repeat (first | (with_reducible first | exact HB.out | apply below_alloc | apply pw_below_drewN | apply below_drew1) | exact HB.out)) hb); clear HB; have HO152 := n0_; have HB := n1_; clear n0_ n1_; (try clear hb); (try clear hb2); (try clear hk); (try clear hi); (try clear ho0)))
  go_loopg [6, 7, 9] k (fun kq v6 v7 v9 w' => ∃ (x6_1 : Int) (x7_1 : Int) (x9_1 : Int), v6 = .int .u64 x6_1 ∧ v7 = .int .u64 x7_1 ∧ v9 = .int .i64 x9_1 ∧ Aside0 (bodkinref02_quo.l0 kq a1 x6_1 x7_1 t150 x9_1 = some (r1, r2)) ∧ Aside0 (kq ≤ k) ∧ Aside0 (Kd.R (Kd.int .u64) 22 w' w.heap.size (fun _ => True) v151 t150) ∧ Aside0 (Below w.heap.size w w'))
  case atStart => exact ⟨(0), (0), (63), (by first | rfl | (simp; done) | (simp [*]; done)), (by first | rfl | (simp; done) | (simp [*]; done)), (by first | rfl | (simp; done) | (simp [*]; done)), H', ⟨Nat.le_refl _⟩, ⟨by (with_reducible repeat (first | apply Kd.R_alloc | apply Kd.R_drewN | apply Kd.R_drew)); exact HO152.out⟩, ⟨by repeat (first | (with_reducible first | exact HB.out | apply below_alloc | apply pw_below_drewN | apply below_drew1) | exact HB.out)⟩⟩
  case round =>
    clear H'
    try clear p2
    try clear c3
    try clear c4
    obtain ⟨x6_1, x7_1, x9_1, rfl, rfl, rfl, HA, HK1, HO_8, HB⟩ := hrel
    cases gk with
    | zero => exact absurd HA.out (by simp [bodkinref02_quo.l0])
    | succ k1 =>
      have H := HA.out
      clear HA
      simp only [bodkinref02_quo.l0] at H
      by_cases c5 : x9_1 ≥ 0
      · rw [if_pos c5] at H
        have c5b0 : decide (0 ≤ x9_1) = true := decide_eq_true c5
        clear c5
        by_cases c6 : 0 ≤ x9_1
        · rw [if_pos c6] at H
          have c6b0 : decide (0 ≤ x9_1) = true := decide_eq_true c6
          clear c6
          by_cases c7 : x9_1 < (t150.length : Int)
          · rw [if_pos c7] at H
            have c7b0 : decide (x9_1 < (t150.length : Int)) = true := decide_eq_true c7
            clear c7
            by_cases c8 : x7_1 ≥ 9223372036854775808
            · rw [if_pos c8] at H
              have c8b0 : decide (9223372036854775808 ≤ x7_1) = true := decide_eq_true c8
              clear c8
              have H' := Aside0.mk H
              clear H
              obtain ⟨Ao9, co9, eo9⟩ := Kd.R_slice HO_8.out
              subst eo9
              have p153 : 0 ≤ (x9_1 : Int) := of_decide_eq_true (by first | (with_reducible assumption) | assumption)
              have q153 : x9_1 < (t150.length : Int) := of_decide_eq_true (by first | (with_reducible assumption) | assumption)
              obtain ⟨ad153, e153, hx153_0⟩ := Kd.at_int (Kd.R_reads' HO_8.out).2.2 x9_1 p153 q153
              cases e153
              replace p153 := eq_true p153
              replace q153 := eq_true q153
              go_wp2
              go_roundg k1
              case measure => have := HK1.out; omega
              case rel => exact ⟨(IntKind.u64.wrap ((IntKind.u64.wrap (x6_1 * 2)) + 1)), (IntKind.u64.wrap ((IntKind.u64.wrap ((IntKind.u64.wrap (x7_1 * 2)) + (rd t150 x9_1))) - a1)), (wrap64 (x9_1 - 1)), (by first | rfl | (simp; done) | (simp [*]; done)), (by first | rfl | (simp; done) | (simp [*]; done)), (by first | rfl | (simp; done) | (simp [*]; done)), H', ⟨by have := HK1.out; omega⟩, ⟨by (with_reducible repeat (first | apply Kd.R_alloc | apply Kd.R_drewN | apply Kd.R_drew)); exact HO_8.out⟩, ⟨by repeat (first | (with_reducible first | exact HB.out | apply below_alloc | apply pw_below_drewN | apply below_drew1) | exact HB.out)⟩⟩
            · rw [if_neg c8] at H
              have c8b0 : decide (9223372036854775808 ≤ x7_1) = false := decide_eq_false c8
              clear c8
              by_cases c10 : (IntKind.u64.wrap ((IntKind.u64.wrap (x7_1 * 2)) + (rd t150 x9_1))) ≥ a1
              · rw [if_pos c10] at H
                have c10b0 : decide (a1 ≤ (IntKind.u64.wrap ((IntKind.u64.wrap (x7_1 * 2)) + (rd t150 x9_1)))) = true := decide_eq_true c10
                clear c10
                have H' := Aside0.mk H
                clear H
                obtain ⟨Ao11, co11, eo11⟩ := Kd.R_slice HO_8.out
                subst eo11
                have p153 : 0 ≤ (x9_1 : Int) := of_decide_eq_true (by first | (with_reducible assumption) | assumption)
                have q153 : x9_1 < (t150.length : Int) := of_decide_eq_true (by first | (with_reducible assumption) | assumption)
                obtain ⟨ad153, e153, hx153_0⟩ := Kd.at_int (Kd.R_reads' HO_8.out).2.2 x9_1 p153 q153
                cases e153
                replace p153 := eq_true p153
                replace q153 := eq_true q153
                go_wp2
                go_roundg k1
                case measure => have := HK1.out; omega
                case rel => exact ⟨(IntKind.u64.wrap ((IntKind.u64.wrap (x6_1 * 2)) + 1)), (IntKind.u64.wrap ((IntKind.u64.wrap ((IntKind.u64.wrap (x7_1 * 2)) + (rd t150 x9_1))) - a1)), (wrap64 (x9_1 - 1)), (by first | rfl | (simp; done) | (simp [*]; done)), (by first | rfl | (simp; done) | (simp [*]; done)), (by first | rfl | (simp; done) | (simp [*]; done)), H', ⟨by have := HK1.out; omega⟩, ⟨by (with_reducible repeat (first | apply Kd.R_alloc | apply Kd.R_drewN | apply Kd.R_drew)); exact HO_8.out⟩, ⟨by repeat (first | (with_reducible first | exact HB.out | apply below_alloc | apply pw_below_drewN | apply below_drew1) | exact HB.out)⟩⟩
              · rw [if_neg c10] at H
                have c10b0 : decide (a1 ≤ (IntKind.u64.wrap ((IntKind.u64.wrap (x7_1 * 2)) + (rd t150 x9_1)))) = false := decide_eq_false c10
                clear c10
                have H' := Aside0.mk H
                clear H
                obtain ⟨Ao12, co12, eo12⟩ := Kd.R_slice HO_8.out
                subst eo12
                have p153 : 0 ≤ (x9_1 : Int) := of_decide_eq_true (by first | (with_reducible assumption) | assumption)
                have q153 : x9_1 < (t150.length : Int) := of_decide_eq_true (by first | (with_reducible assumption) | assumption)
                obtain ⟨ad153, e153, hx153_0⟩ := Kd.at_int (Kd.R_reads' HO_8.out).2.2 x9_1 p153 q153
                cases e153
                replace p153 := eq_true p153
                replace q153 := eq_true q153
                go_wp2
                go_roundg k1
                case measure => have := HK1.out; omega
                case rel => exact ⟨(IntKind.u64.wrap (x6_1 * 2)), (IntKind.u64.wrap ((IntKind.u64.wrap (x7_1 * 2)) + (rd t150 x9_1))), (wrap64 (x9_1 - 1)), (by first | rfl | (simp; done) | (simp [*]; done)), (by first | rfl | (simp; done) | (simp [*]; done)), (by first | rfl | (simp; done) | (simp [*]; done)), H', ⟨by have := HK1.out; omega⟩, ⟨by (with_reducible repeat (first | apply Kd.R_alloc | apply Kd.R_drewN | apply Kd.R_drew)); exact HO_8.out⟩, ⟨by repeat (first | (with_reducible first | exact HB.out | apply below_alloc | apply pw_below_drewN | apply below_drew1) | exact HB.out)⟩⟩
          · rw [if_neg c7] at H
            exact absurd H (by simp)
        · rw [if_neg c6] at H
          exact absurd H (by simp)
      · rw [if_neg c5] at H
        have c5b0 : decide (0 ≤ x9_1) = false := decide_eq_false c5
        clear c5
        simp only [Option.some.injEq, Prod.mk.injEq] at H
        obtain ⟨rfl, rfl⟩ := H
        go_wp2
        go_ret2
        exact ⟨by first | rfl | (simp [errW_none, errW_some] <;> rfl) | (simp [*, errW_none, errW_some] <;> rfl), by repeat (first | (with_reducible first | exact HB.out | apply below_alloc | apply pw_below_drewN | apply below_drew1) | exact HB.out)⟩

end Go.Proofs.YtajmjmnlapplaaaDoor.PInts

namespace Go.Proofs.YtajmjmnlapplaaaDoor.PInts
open Go.RowKit Go.Proofs.YtajmjmnlapplaaaDoorW.PrintWords Go.Proofs.YtajmjmnlapplaaaDoorW.PrintLast Go.Proofs.YtajmjmnlapplaaaDoorW.PrintMore
attribute [local go_sem] max2_int min2_int max_two min_two max_three min_three max_four min_four   -- for this text's walks alone
set_option linter.unusedVariables false
set_option linter.unusedSimpArgs false

/-! ### bodkinref02_size: function 43 -/
def bodkinref02_size.f (a0 : Int) : Option (Int) := if a0 < 0 then (some (IntKind.u64.wrap ((IntKind.u64.wrap (wrap64 (-(wrap64 (a0 + 1))))) + 1))) else (some (IntKind.u64.wrap (a0)))
set_option maxHeartbeats 8000000 in
set_option maxRecDepth 100000 in
theorem bodkinref02_size.calls (a0 : Int) (r : Int) (w : World) (h : bodkinref02_size.f a0 = some r) :
    Calls Tryd.prog 43 #[.int .i64 a0] w fun e w' => e = .returned (.int .u64 r) ∧ Drawn0 w w' := by
  have H : (if a0 < 0 then (some (IntKind.u64.wrap ((IntKind.u64.wrap (wrap64 (-(wrap64 (a0 + 1))))) + 1))) else (some (IntKind.u64.wrap (a0)))) = some r := h
  clear h
  by_cases c2 : a0 < 0
  · rw [if_pos c2] at H
    have c2b0 : decide (a0 < 0) = true := decide_eq_true c2
    clear c2
    obtain rfl := Option.some.inj H
    go_enter Tryd.func43, Tryd.ntmps43
    go_wp2
    go_ret
    exact ⟨by first | rfl | (simp; done) | (simp [*]; done), by repeat (first | exact Drawn0.refl _ | apply Drawn0.step)⟩
  · rw [if_neg c2] at H
    have c2b0 : decide (a0 < 0) = false := decide_eq_false c2
    clear c2
    obtain rfl := Option.some.inj H
    go_enter Tryd.func43, Tryd.ntmps43
    go_wp2
    go_ret
    exact ⟨by first | rfl | (simp; done) | (simp [*]; done), by repeat (first | exact Drawn0.refl _ | apply Drawn0.step)⟩

end Go.Proofs.YtajmjmnlapplaaaDoor.PInts

namespace Go.Proofs.YtajmjmnlapplaaaDoor.PInts
open Go.RowKit Go.Proofs.YtajmjmnlapplaaaDoorW.PrintWords Go.Proofs.YtajmjmnlapplaaaDoorW.PrintLast Go.Proofs.YtajmjmnlapplaaaDoorW.PrintMore
attribute [local go_sem] max2_int min2_int max_two min_two max_three min_three max_four min_four   -- for this text's walks alone
set_option linter.unusedVariables false
set_option linter.unusedSimpArgs false

/-! ### bodkinref02_divided: function 33 -/
def bodkinref02_divided.j0 : Nat → Int → Int → Int → Int → Int → Int → Bool → Option (Int × Int)
  | 0, _, _, _, _, _, _, _ => none
  | k + 1, x0, x1, x2, x3, x4, x5, x25 => if x25 = true then ((bodkinref02_quo.f k x2 x3).bind fun bt154 => (if x1 = 5 then (some (bt154.1, 0)) else (some (bt154.2, 0)))) else ((bodkinref02_size.f x4).bind fun t156 => ((bodkinref02_size.f x5).bind fun t157 => ((bodkinref02_quo.f k t156 t157).bind fun bt158 => (if x1 = 6 then (if x4 < 0 then ((bodkinref02_Cut.f k x0 (IntKind.u64.wrap (-bt158.2))).bind fun t160 => (some (t160, 0))) else ((bodkinref02_Cut.f k x0 bt158.2).bind fun t161 => (some (t161, 0)))) else (if ((decide (x4 < 0)) != (decide (x5 < 0))) = true then ((bodkinref02_Cut.f k x0 (IntKind.u64.wrap (-bt158.1))).bind fun t162 => (some (t162, 0))) else ((bodkinref02_bit.f k bt158.1 (wrap64 (x0 - 1))).bind fun t163 => (if t163 = 1 then (some (0, 42)) else (some (bt158.1, 0)))))))))
def bodkinref02_divided.f (k : Nat) (a0 : Int) (a1 : Int) (a2 : Int) (a3 : Int) (a4 : Int) (a5 : Int) : Option (Int × Int) := if a3 = 0 then (some (0, 41)) else (if a1 = 5 then (bodkinref02_divided.j0 k a0 a1 a2 a3 a4 a5 true) else (bodkinref02_divided.j0 k a0 a1 a2 a3 a4 a5 (a1 == 7)))
theorem bodkinref02_divided.mono_l : ∀ k, (∀ y0 y1 y2 y3 y4 y5 y6, LeO (bodkinref02_divided.j0 k y0 y1 y2 y3 y4 y5 y6) (bodkinref02_divided.j0 (k + 1) y0 y1 y2 y3 y4 y5 y6)) := by
  intro k
  induction k with
  | zero => exact fun _ _ _ _ _ _ _ r h => by simp [bodkinref02_divided.j0] at h
  | succ k ih =>
    have ih0 := ih
    · intro y0 y1 y2 y3 y4 y5 y6
      unfold bodkinref02_divided.j0
      repeat' first
      | (with_reducible exact ih0 _ _ _ _ _ _ _)
      | (with_reducible exact bodkinref02_Cut.mono _ _ _)
      | (with_reducible exact bodkinref02_bit.mono _ _ _)
      | (with_reducible exact bodkinref02_quo.mono _ _ _)
      | (with_reducible exact LeO.refl _)
      | (with_reducible exact LeO.none _)
      | (with_reducible refine LeO.ite ?_ ?_)
      | (with_reducible refine LeO.bind ?_ (fun _ => ?_))
      | exact ih0 _ _ _ _ _ _ _
      | exact bodkinref02_Cut.mono _ _ _
      | exact bodkinref02_bit.mono _ _ _
      | exact bodkinref02_quo.mono _ _ _
      | exact LeO.none _
      | refine LeO.ite ?_ ?_
      | refine LeO.bind ?_ (fun _ => ?_)
theorem bodkinref02_divided.mono : ∀ a0 a1 a2 a3 a4 a5 k, LeO (bodkinref02_divided.f k a0 a1 a2 a3 a4 a5) (bodkinref02_divided.f (k + 1) a0 a1 a2 a3 a4 a5) := by
  intro a0 a1 a2 a3 a4 a5 k
  have ih0 := bodkinref02_divided.mono_l k
  unfold bodkinref02_divided.f
  repeat' first
      | (with_reducible exact ih0 _ _ _ _ _ _ _)
      | (with_reducible exact bodkinref02_Cut.mono _ _ _)
      | (with_reducible exact bodkinref02_bit.mono _ _ _)
      | (with_reducible exact bodkinref02_quo.mono _ _ _)
      | (with_reducible exact LeO.refl _)
      | (with_reducible exact LeO.none _)
      | (with_reducible refine LeO.ite ?_ ?_)
      | (with_reducible refine LeO.bind ?_ (fun _ => ?_))
      | exact ih0 _ _ _ _ _ _ _
      | exact bodkinref02_Cut.mono _ _ _
      | exact bodkinref02_bit.mono _ _ _
      | exact bodkinref02_quo.mono _ _ _
      | exact LeO.none _
      | refine LeO.ite ?_ ?_
      | refine LeO.bind ?_ (fun _ => ?_)
set_option maxHeartbeats 8000000 in
set_option maxRecDepth 100000 in
theorem bodkinref02_divided.calls (k : Nat) (a0 : Int) (a1 : Int) (a2 : Int) (a3 : Int) (a4 : Int) (a5 : Int) (r1 : Int) (r2 : Int) (w : World) (h : bodkinref02_divided.f k a0 a1 a2 a3 a4 a5 = some (r1, r2)) :
    Calls Tryd.prog 33 #[.int .i64 a0, .int .i64 a1, .int .u64 a2, .int .u64 a3, .int .i64 a4, .int .i64 a5] w fun e w' => e = .returned (.tuple #[.int .u64 r1, .int .i64 r2]) ∧ Below w.heap.size w w' := by
  have HB := Aside0.mk (Below.refl w.heap.size w)
  have H : (if a3 = 0 then (some (0, 41)) else (if a1 = 5 then (bodkinref02_divided.j0 k a0 a1 a2 a3 a4 a5 true) else (bodkinref02_divided.j0 k a0 a1 a2 a3 a4 a5 (a1 == 7)))) = some (r1, r2) := h
  clear h
  by_cases c7 : a3 = 0
  · rw [if_pos c7] at H
    have c7b0 : (a3 == 0) = true := beq_iff_eq.mpr c7
    have c7b1 : (a3 != 0) = false := bne_eq_false_iff_eq.mpr c7
    clear c7
    simp only [Option.some.injEq, Prod.mk.injEq] at H
    obtain ⟨rfl, rfl⟩ := H
    go_enter Tryd.func33, Tryd.ntmps33
    go_wp2
    go_ret2
    exact ⟨by first | rfl | (simp [errW_none, errW_some] <;> rfl) | (simp [*, errW_none, errW_some] <;> rfl), by repeat (first | (with_reducible first | exact HB.out | apply below_alloc | apply pw_below_drewN | apply below_drew1) | exact HB.out)⟩
  · rw [if_neg c7] at H
    have c7b0 : (a3 == 0) = false := beq_eq_false_iff_ne.mpr c7
    have c7b1 : (a3 != 0) = true := bne_iff_ne.mpr c7
    have HC8 := Aside0.mk H
    clear H
    go_enter Tryd.func33, Tryd.ntmps33
    go_upto_region 3 with (fail)
    go_cut [25] (fun v25 wc => ∃ (kq : Nat) (x25_7 : Bool), v25 = .bool x25_7 ∧ Aside0 (bodkinref02_divided.j0 kq a0 a1 a2 a3 a4 a5 x25_7 = some (r1, r2)) ∧ Aside0 (kq ≤ k) ∧ Aside0 (Below w.heap.size w wc))
    case first =>
      have H := HC8.out
      clear HC8
      by_cases c9 : a1 = 5
      · rw [if_pos c9] at H
        have c9b0 : (a1 == 5) = true := beq_iff_eq.mpr c9
        have c9b1 : (a1 != 5) = false := bne_eq_false_iff_eq.mpr c9
        clear c9
        (first | rw [c9b0] | (simp only [i64_w, i32_w]; rw [c9b0]) | skip)
        have H' := Aside0.mk H
        clear H
        go_wp2
        go_meet
        case rel => exact ⟨_, (true), (by first | rfl | (simp; done) | (simp [*]; done)), H', ⟨by first | omega | exact Nat.le_refl _⟩, ⟨by repeat (first | (with_reducible first | exact HB.out | apply below_alloc | apply pw_below_drewN | apply below_drew1) | exact HB.out)⟩⟩
      · rw [if_neg c9] at H
        have c9b0 : (a1 == 5) = false := beq_eq_false_iff_ne.mpr c9
        have c9b1 : (a1 != 5) = true := bne_iff_ne.mpr c9
        (first | rw [c9b0] | (simp only [i64_w, i32_w]; rw [c9b0]) | skip)
        have H' := Aside0.mk H
        clear H
        go_wp2
        go_meet
        case rel => exact ⟨_, ((a1 == 7)), (by first | rfl | (simp; done) | (simp [*]; done)), H', ⟨by first | omega | exact Nat.le_refl _⟩, ⟨by repeat (first | (with_reducible first | exact HB.out | apply below_alloc | apply pw_below_drewN | apply below_drew1) | exact HB.out)⟩⟩
    case rest =>
      clear HC8
      try clear p2
      try clear c3
      try clear c7
      try clear c7b0
      try clear c7b1
      try clear c9
      try clear c9b0
      try clear c9b1
      obtain ⟨kq, x25_7, rfl, HA, HJ7, HB⟩ := hcut
      cases kq with
      | zero => exact absurd HA.out (by simp [bodkinref02_divided.j0])
      | succ kj7 =>
        have H := HA.out
        clear HA
        simp only [bodkinref02_divided.j0] at H
        by_cases c10 : x25_7 = true
        · subst c10
          have H1 : ((bodkinref02_quo.f kj7 a2 a3).bind fun bt154 => (if a1 = 5 then (some (bt154.1, 0)) else (some (bt154.2, 0)))) = some (r1, r2) := by rw [if_pos rfl] at H; exact H
          clear H
          have H := H1
          clear H1
          replace H := Option.bind_eq_some_iff.mp H
          obtain ⟨⟨t154, t155⟩, A110, H⟩ := H
          replace H : (if a1 = 5 then (some (t154, 0)) else (some (t155, 0))) = some (r1, r2) := H
          have A11 := Aside0.mk A110
          clear A110
          by_cases c12 : a1 = 5
          · rw [if_pos c12] at H
            have c12b0 : (a1 == 5) = true := beq_iff_eq.mpr c12
            have c12b1 : (a1 != 5) = false := bne_eq_false_iff_eq.mpr c12
            clear c12
            simp only [Option.some.injEq, Prod.mk.injEq] at H
            obtain ⟨rfl, rfl⟩ := H
            go_wp2_with (first | ((with_reducible refine gate_callee (f := 42) rfl ?_); refine goesL_ (some 29) rfl rfl Tryd.func42 (by kernel_rfl) rfl #[.int .u64 a2, .int .u64 a3] rfl (by (try simp only [List.map_toArray, List.map_cons, List.map_nil]); first | done | rfl | (simp only [List.length_drop, List.length_take]; rfl)) ?_; (with_reducible refine (bodkinref02_quo.calls kj7 a2 a3 t154 t155 _ A11.out).mono ?_); rintro e w13 ⟨rfl, hb⟩; refine ⟨_, rfl, ?_⟩; have n0_ := Aside0.mk (below_step (by repeat (first | (with_reducible first | exact HB.out | apply below_alloc | apply pw_below_drewN | apply below_drew1) | exact HB.out)) hb); clear HB; have HB := n0_; clear n0_; (try clear hb); (try clear hb2); (try clear hk); (try clear hi)))
            go_ret2
            exact ⟨by first | rfl | (simp [errW_none, errW_some] <;> rfl) | (simp [*, errW_none, errW_some] <;> rfl), by repeat (first | (with_reducible first | exact HB.out | apply below_alloc | apply pw_below_drewN | apply below_drew1) | exact HB.out)⟩
          · rw [if_neg c12] at H
            have c12b0 : (a1 == 5) = false := beq_eq_false_iff_ne.mpr c12
            have c12b1 : (a1 != 5) = true := bne_iff_ne.mpr c12
            simp only [Option.some.injEq, Prod.mk.injEq] at H
            obtain ⟨rfl, rfl⟩ := H
            go_wp2_with (first | ((with_reducible refine gate_callee (f := 42) rfl ?_); refine goesL_ (some 29) rfl rfl Tryd.func42 (by kernel_rfl) rfl #[.int .u64 a2, .int .u64 a3] rfl (by (try simp only [List.map_toArray, List.map_cons, List.map_nil]); first | done | rfl | (simp only [List.length_drop, List.length_take]; rfl)) ?_; (with_reducible refine (bodkinref02_quo.calls kj7 a2 a3 t154 t155 _ A11.out).mono ?_); rintro e w14 ⟨rfl, hb⟩; refine ⟨_, rfl, ?_⟩; have n0_ := Aside0.mk (below_step (by repeat (first | (with_reducible first | exact HB.out | apply below_alloc | apply pw_below_drewN | apply below_drew1) | exact HB.out)) hb); clear HB; have HB := n0_; clear n0_; (try clear hb); (try clear hb2); (try clear hk); (try clear hi)))
            go_ret2
            exact ⟨by first | rfl | (simp [errW_none, errW_some] <;> rfl) | (simp [*, errW_none, errW_some] <;> rfl), by repeat (first | (with_reducible first | exact HB.out | apply below_alloc | apply pw_below_drewN | apply below_drew1) | exact HB.out)⟩
        · replace c10 := Bool.eq_false_iff.mpr c10
          subst c10
          have H1 : ((bodkinref02_size.f a4).bind fun t156 => ((bodkinref02_size.f a5).bind fun t157 => ((bodkinref02_quo.f kj7 t156 t157).bind fun bt158 => (if a1 = 6 then (if a4 < 0 then ((bodkinref02_Cut.f kj7 a0 (IntKind.u64.wrap (-bt158.2))).bind fun t160 => (some (t160, 0))) else ((bodkinref02_Cut.f kj7 a0 bt158.2).bind fun t161 => (some (t161, 0)))) else (if ((decide (a4 < 0)) != (decide (a5 < 0))) = true then ((bodkinref02_Cut.f kj7 a0 (IntKind.u64.wrap (-bt158.1))).bind fun t162 => (some (t162, 0))) else ((bodkinref02_bit.f kj7 bt158.1 (wrap64 (a0 - 1))).bind fun t163 => (if t163 = 1 then (some (0, 42)) else (some (bt158.1, 0))))))))) = some (r1, r2) := by rw [if_neg (show ¬ (false = true) by decide)] at H; exact H
          clear H
          have H := H1
          clear H1
          replace H := Option.bind_eq_some_iff.mp H
          obtain ⟨t156, A150, H⟩ := H
          replace H : ((bodkinref02_size.f a5).bind fun t157 => ((bodkinref02_quo.f kj7 t156 t157).bind fun bt158 => (if a1 = 6 then (if a4 < 0 then ((bodkinref02_Cut.f kj7 a0 (IntKind.u64.wrap (-bt158.2))).bind fun t160 => (some (t160, 0))) else ((bodkinref02_Cut.f kj7 a0 bt158.2).bind fun t161 => (some (t161, 0)))) else (if ((decide (a4 < 0)) != (decide (a5 < 0))) = true then ((bodkinref02_Cut.f kj7 a0 (IntKind.u64.wrap (-bt158.1))).bind fun t162 => (some (t162, 0))) else ((bodkinref02_bit.f kj7 bt158.1 (wrap64 (a0 - 1))).bind fun t163 => (if t163 = 1 then (some (0, 42)) else (some (bt158.1, 0)))))))) = some (r1, r2) := H
          have A15 := Aside0.mk A150
          clear A150
          replace H := Option.bind_eq_some_iff.mp H
          obtain ⟨t157, A160, H⟩ := H
          replace H : ((bodkinref02_quo.f kj7 t156 t157).bind fun bt158 => (if a1 = 6 then (if a4 < 0 then ((bodkinref02_Cut.f kj7 a0 (IntKind.u64.wrap (-bt158.2))).bind fun t160 => (some (t160, 0))) else ((bodkinref02_Cut.f kj7 a0 bt158.2).bind fun t161 => (some (t161, 0)))) else (if ((decide (a4 < 0)) != (decide (a5 < 0))) = true then ((bodkinref02_Cut.f kj7 a0 (IntKind.u64.wrap (-bt158.1))).bind fun t162 => (some (t162, 0))) else ((bodkinref02_bit.f kj7 bt158.1 (wrap64 (a0 - 1))).bind fun t163 => (if t163 = 1 then (some (0, 42)) else (some (bt158.1, 0))))))) = some (r1, r2) := H
          have A16 := Aside0.mk A160
          clear A160
          replace H := Option.bind_eq_some_iff.mp H
          obtain ⟨⟨t158, t159⟩, A170, H⟩ := H
          replace H : (if a1 = 6 then (if a4 < 0 then ((bodkinref02_Cut.f kj7 a0 (IntKind.u64.wrap (-t159))).bind fun t160 => (some (t160, 0))) else ((bodkinref02_Cut.f kj7 a0 t159).bind fun t161 => (some (t161, 0)))) else (if ((decide (a4 < 0)) != (decide (a5 < 0))) = true then ((bodkinref02_Cut.f kj7 a0 (IntKind.u64.wrap (-t158))).bind fun t162 => (some (t162, 0))) else ((bodkinref02_bit.f kj7 t158 (wrap64 (a0 - 1))).bind fun t163 => (if t163 = 1 then (some (0, 42)) else (some (t158, 0)))))) = some (r1, r2) := H
          have A17 := Aside0.mk A170
          clear A170
          by_cases c18 : a1 = 6
          · rw [if_pos c18] at H
            have c18b0 : (a1 == 6) = true := beq_iff_eq.mpr c18
            have c18b1 : (a1 != 6) = false := bne_eq_false_iff_eq.mpr c18
            clear c18
            by_cases c19 : a4 < 0
            · rw [if_pos c19] at H
              have c19b0 : decide (a4 < 0) = true := decide_eq_true c19
              clear c19
              replace H := Option.bind_eq_some_iff.mp H
              obtain ⟨t160, A200, H⟩ := H
              replace H : (some (t160, 0)) = some (r1, r2) := H
              have A20 := Aside0.mk A200
              clear A200
              simp only [Option.some.injEq, Prod.mk.injEq] at H
              obtain ⟨rfl, rfl⟩ := H
              go_wp2_with (first | ((with_reducible refine gate_callee (f := 43) rfl ?_); refine goesL_ (some 38) rfl rfl Tryd.func43 (by kernel_rfl) rfl #[.int .i64 a4] rfl (by (try simp only [List.map_toArray, List.map_cons, List.map_nil]); first | done | rfl | (simp only [List.length_drop, List.length_take]; rfl)) ?_; (with_reducible refine (bodkinref02_size.calls a4 t156 _ A15.out).mono ?_); rintro e w' ⟨rfl, ⟨nd, rfl⟩⟩; refine ⟨_, rfl, ?_⟩) | ((with_reducible refine gate_callee (f := 43) rfl ?_); refine goesL_ (some 40) rfl rfl Tryd.func43 (by kernel_rfl) rfl #[.int .i64 a5] rfl (by (try simp only [List.map_toArray, List.map_cons, List.map_nil]); first | done | rfl | (simp only [List.length_drop, List.length_take]; rfl)) ?_; (with_reducible refine (bodkinref02_size.calls a5 t157 _ A16.out).mono ?_); rintro e w' ⟨rfl, ⟨nd, rfl⟩⟩; refine ⟨_, rfl, ?_⟩) | ((with_reducible refine gate_callee (f := 42) rfl ?_); refine goesL_ (some 41) rfl rfl Tryd.func42 (by kernel_rfl) rfl #[.int .u64 t156, .int .u64 t157] rfl (by (try simp only [List.map_toArray, List.map_cons, List.map_nil]); first | done | rfl | (simp only [List.length_drop, List.length_take]; rfl)) ?_; (with_reducible refine (bodkinref02_quo.calls kj7 t156 t157 t158 t159 _ A17.out).mono ?_); rintro e w21 ⟨rfl, hb⟩; refine ⟨_, rfl, ?_⟩; have n0_ := Aside0.mk (below_step (by repeat (first | (with_reducible first | exact HB.out | apply below_alloc | apply pw_below_drewN | apply below_drew1) | exact HB.out)) hb); clear HB; have HB := n0_; clear n0_; (try clear hb); (try clear hb2); (try clear hk); (try clear hi)) | ((with_reducible refine gate_callee (f := 24) rfl ?_); refine goesL_ (some 52) rfl rfl Tryd.func24 (by kernel_rfl) rfl #[.int .i64 a0, .int .u64 (IntKind.u64.wrap (-t159))] rfl (by (try simp only [List.map_toArray, List.map_cons, List.map_nil]); first | done | rfl | (simp only [List.length_drop, List.length_take]; rfl)) ?_; (with_reducible refine (bodkinref02_Cut.calls kj7 a0 (IntKind.u64.wrap (-t159)) t160 _ A20.out).mono ?_); rintro e w' ⟨rfl, ⟨nd, rfl⟩⟩; refine ⟨_, rfl, ?_⟩))
              go_ret2
              exact ⟨by first | rfl | (simp [errW_none, errW_some] <;> rfl) | (simp [*, errW_none, errW_some] <;> rfl), by repeat (first | (with_reducible first | exact HB.out | apply below_alloc | apply pw_below_drewN | apply below_drew1) | exact HB.out)⟩
            · rw [if_neg c19] at H
              have c19b0 : decide (a4 < 0) = false := decide_eq_false c19
              clear c19
              replace H := Option.bind_eq_some_iff.mp H
              obtain ⟨t161, A220, H⟩ := H
              replace H : (some (t161, 0)) = some (r1, r2) := H
              have A22 := Aside0.mk A220
              clear A220
              simp only [Option.some.injEq, Prod.mk.injEq] at H
              obtain ⟨rfl, rfl⟩ := H
              go_wp2_with (first | ((with_reducible refine gate_callee (f := 43) rfl ?_); refine goesL_ (some 38) rfl rfl Tryd.func43 (by kernel_rfl) rfl #[.int .i64 a4] rfl (by (try simp only [List.map_toArray, List.map_cons, List.map_nil]); first | done | rfl | (simp only [List.length_drop, List.length_take]; rfl)) ?_; (with_reducible refine (bodkinref02_size.calls a4 t156 _ A15.out).mono ?_); rintro e w' ⟨rfl, ⟨nd, rfl⟩⟩; refine ⟨_, rfl, ?_⟩) | ((with_reducible refine gate_callee (f := 43) rfl ?_); refine goesL_ (some 40) rfl rfl Tryd.func43 (by kernel_rfl) rfl #[.int .i64 a5] rfl (by (try simp only [List.map_toArray, List.map_cons, List.map_nil]); first | done | rfl | (simp only [List.length_drop, List.length_take]; rfl)) ?_; (with_reducible refine (bodkinref02_size.calls a5 t157 _ A16.out).mono ?_); rintro e w' ⟨rfl, ⟨nd, rfl⟩⟩; refine ⟨_, rfl, ?_⟩) | ((with_reducible refine gate_callee (f := 42) rfl ?_); refine goesL_ (some 41) rfl rfl Tryd.func42 (by kernel_rfl) rfl #[.int .u64 t156, .int .u64 t157] rfl (by (try simp only [List.map_toArray, List.map_cons, List.map_nil]); first | done | rfl | (simp only [List.length_drop, List.length_take]; rfl)) ?_; (with_reducible refine (bodkinref02_quo.calls kj7 t156 t157 t158 t159 _ A17.out).mono ?_); rintro e w23 ⟨rfl, hb⟩; refine ⟨_, rfl, ?_⟩; have n0_ := Aside0.mk (below_step (by repeat (first | (with_reducible first | exact HB.out | apply below_alloc | apply pw_below_drewN | apply below_drew1) | exact HB.out)) hb); clear HB; have HB := n0_; clear n0_; (try clear hb); (try clear hb2); (try clear hk); (try clear hi)) | ((with_reducible refine gate_callee (f := 24) rfl ?_); refine goesL_ (some 52) rfl rfl Tryd.func24 (by kernel_rfl) rfl #[.int .i64 a0, .int .u64 t159] rfl (by (try simp only [List.map_toArray, List.map_cons, List.map_nil]); first | done | rfl | (simp only [List.length_drop, List.length_take]; rfl)) ?_; (with_reducible refine (bodkinref02_Cut.calls kj7 a0 t159 t161 _ A22.out).mono ?_); rintro e w' ⟨rfl, ⟨nd, rfl⟩⟩; refine ⟨_, rfl, ?_⟩))
              go_ret2
              exact ⟨by first | rfl | (simp [errW_none, errW_some] <;> rfl) | (simp [*, errW_none, errW_some] <;> rfl), by repeat (first | (with_reducible first | exact HB.out | apply below_alloc | apply pw_below_drewN | apply below_drew1) | exact HB.out)⟩
          · rw [if_neg c18] at H
            have c18b0 : (a1 == 6) = false := beq_eq_false_iff_ne.mpr c18
            have c18b1 : (a1 != 6) = true := bne_iff_ne.mpr c18
            by_cases c24 : ((decide (a4 < 0)) != (decide (a5 < 0))) = true
            · rw [if_pos c24] at H
              have c24b0 : ((decide (a4 < 0)) != (decide (a5 < 0))) = true := c24
              (try (have c24b1 : decide ((decide (a4 < 0)) = (decide (a5 < 0))) = false := by simpa using c24))
              (try (have c24b2 : ((decide (a4 < 0)) == (decide (a5 < 0))) = false := by simpa using c24))
              (try (have c24b3 : ¬ ((decide (a4 < 0)) = (decide (a5 < 0))) := by simpa using c24))
              clear c24
              replace H := Option.bind_eq_some_iff.mp H
              obtain ⟨t162, A250, H⟩ := H
              replace H : (some (t162, 0)) = some (r1, r2) := H
              have A25 := Aside0.mk A250
              clear A250
              simp only [Option.some.injEq, Prod.mk.injEq] at H
              obtain ⟨rfl, rfl⟩ := H
              go_wp2_with (first | ((with_reducible refine gate_callee (f := 43) rfl ?_); refine goesL_ (some 38) rfl rfl Tryd.func43 (by kernel_rfl) rfl #[.int .i64 a4] rfl (by (try simp only [List.map_toArray, List.map_cons, List.map_nil]); first | done | rfl | (simp only [List.length_drop, List.length_take]; rfl)) ?_; (with_reducible refine (bodkinref02_size.calls a4 t156 _ A15.out).mono ?_); rintro e w' ⟨rfl, ⟨nd, rfl⟩⟩; refine ⟨_, rfl, ?_⟩) | ((with_reducible refine gate_callee (f := 43) rfl ?_); refine goesL_ (some 40) rfl rfl Tryd.func43 (by kernel_rfl) rfl #[.int .i64 a5] rfl (by (try simp only [List.map_toArray, List.map_cons, List.map_nil]); first | done | rfl | (simp only [List.length_drop, List.length_take]; rfl)) ?_; (with_reducible refine (bodkinref02_size.calls a5 t157 _ A16.out).mono ?_); rintro e w' ⟨rfl, ⟨nd, rfl⟩⟩; refine ⟨_, rfl, ?_⟩) | ((with_reducible refine gate_callee (f := 42) rfl ?_); refine goesL_ (some 41) rfl rfl Tryd.func42 (by kernel_rfl) rfl #[.int .u64 t156, .int .u64 t157] rfl (by (try simp only [List.map_toArray, List.map_cons, List.map_nil]); first | done | rfl | (simp only [List.length_drop, List.length_take]; rfl)) ?_; (with_reducible refine (bodkinref02_quo.calls kj7 t156 t157 t158 t159 _ A17.out).mono ?_); rintro e w26 ⟨rfl, hb⟩; refine ⟨_, rfl, ?_⟩; have n0_ := Aside0.mk (below_step (by repeat (first | (with_reducible first | exact HB.out | apply below_alloc | apply pw_below_drewN | apply below_drew1) | exact HB.out)) hb); clear HB; have HB := n0_; clear n0_; (try clear hb); (try clear hb2); (try clear hk); (try clear hi)) | ((with_reducible refine gate_callee (f := 24) rfl ?_); refine goesL_ (some 61) rfl rfl Tryd.func24 (by kernel_rfl) rfl #[.int .i64 a0, .int .u64 (IntKind.u64.wrap (-t158))] rfl (by (try simp only [List.map_toArray, List.map_cons, List.map_nil]); first | done | rfl | (simp only [List.length_drop, List.length_take]; rfl)) ?_; (with_reducible refine (bodkinref02_Cut.calls kj7 a0 (IntKind.u64.wrap (-t158)) t162 _ A25.out).mono ?_); rintro e w' ⟨rfl, ⟨nd, rfl⟩⟩; refine ⟨_, rfl, ?_⟩))
              go_ret2
              exact ⟨by first | rfl | (simp [errW_none, errW_some] <;> rfl) | (simp [*, errW_none, errW_some] <;> rfl), by repeat (first | (with_reducible first | exact HB.out | apply below_alloc | apply pw_below_drewN | apply below_drew1) | exact HB.out)⟩
            · rw [if_neg c24] at H
              have c24b0 : ((decide (a4 < 0)) != (decide (a5 < 0))) = false := by simpa using c24
              (try (have c24b1 : decide ((decide (a4 < 0)) = (decide (a5 < 0))) = true := by simpa using c24))
              (try (have c24b2 : ((decide (a4 < 0)) == (decide (a5 < 0))) = true := by simpa using c24))
              clear c24
              replace H := Option.bind_eq_some_iff.mp H
              obtain ⟨t163, A270, H⟩ := H
              replace H : (if t163 = 1 then (some (0, 42)) else (some (t158, 0))) = some (r1, r2) := H
              have A27 := Aside0.mk A270
              clear A270
              by_cases c28 : t163 = 1
              · rw [if_pos c28] at H
                have c28b0 : (t163 == 1) = true := beq_iff_eq.mpr c28
                have c28b1 : (t163 != 1) = false := bne_eq_false_iff_eq.mpr c28
                clear c28
                simp only [Option.some.injEq, Prod.mk.injEq] at H
                obtain ⟨rfl, rfl⟩ := H
                go_wp2_with (first | ((with_reducible refine gate_callee (f := 43) rfl ?_); refine goesL_ (some 38) rfl rfl Tryd.func43 (by kernel_rfl) rfl #[.int .i64 a4] rfl (by (try simp only [List.map_toArray, List.map_cons, List.map_nil]); first | done | rfl | (simp only [List.length_drop, List.length_take]; rfl)) ?_; (with_reducible refine (bodkinref02_size.calls a4 t156 _ A15.out).mono ?_); rintro e w' ⟨rfl, ⟨nd, rfl⟩⟩; refine ⟨_, rfl, ?_⟩) | ((with_reducible refine gate_callee (f := 43) rfl ?_); refine goesL_ (some 40) rfl rfl Tryd.func43 (by kernel_rfl) rfl #[.int .i64 a5] rfl (by (try simp only [List.map_toArray, List.map_cons, List.map_nil]); first | done | rfl | (simp only [List.length_drop, List.length_take]; rfl)) ?_; (with_reducible refine (bodkinref02_size.calls a5 t157 _ A16.out).mono ?_); rintro e w' ⟨rfl, ⟨nd, rfl⟩⟩; refine ⟨_, rfl, ?_⟩) | ((with_reducible refine gate_callee (f := 42) rfl ?_); refine goesL_ (some 41) rfl rfl Tryd.func42 (by kernel_rfl) rfl #[.int .u64 t156, .int .u64 t157] rfl (by (try simp only [List.map_toArray, List.map_cons, List.map_nil]); first | done | rfl | (simp only [List.length_drop, List.length_take]; rfl)) ?_; (with_reducible refine (bodkinref02_quo.calls kj7 t156 t157 t158 t159 _ A17.out).mono ?_); rintro e w29 ⟨rfl, hb⟩; refine ⟨_, rfl, ?_⟩; have n0_ := Aside0.mk (below_step (by repeat (first | (with_reducible first | exact HB.out | apply below_alloc | apply pw_below_drewN | apply below_drew1) | exact HB.out)) hb); clear HB; have HB := n0_; clear n0_; (try clear hb); (try clear hb2); (try clear hk); (try clear hi)) | ((with_reducible refine gate_callee (f := 32) rfl ?_); refine goesL_ (some 65) rfl rfl Tryd.func32 (by kernel_rfl) rfl #[.int .u64 t158, .int .i64 (wrap64 (a0 - 1))] rfl (by (try simp only [List.map_toArray, List.map_cons, List.map_nil]); first | done | rfl | (simp only [List.length_drop, List.length_take]; rfl)) ?_; (with_reducible refine (bodkinref02_bit.calls kj7 t158 (wrap64 (a0 - 1)) t163 _ A27.out).mono ?_); rintro e w' ⟨rfl, ⟨nd, rfl⟩⟩; refine ⟨_, rfl, ?_⟩))
                go_ret2
                exact ⟨by first | rfl | (simp [errW_none, errW_some] <;> rfl) | (simp [*, errW_none, errW_some] <;> rfl), by repeat (first | (with_reducible first | exact HB.out | apply below_alloc | apply pw_below_drewN | apply below_drew1) | exact HB.out)⟩
              · rw [if_neg c28] at H
                have c28b0 : (t163 == 1) = false := beq_eq_false_iff_ne.mpr c28
                have c28b1 : (t163 != 1) = true := bne_iff_ne.mpr c28
                simp only [Option.some.injEq, Prod.mk.injEq] at H
                obtain ⟨rfl, rfl⟩ := H
                go_wp2_with (first | ((with_reducible refine gate_callee (f := 43) rfl ?_); refine goesL_ (some 38) rfl rfl Tryd.func43 (by kernel_rfl) rfl #[.int .i64 a4] rfl (by (try simp only [List.map_toArray, List.map_cons, List.map_nil]); first | done | rfl | (simp only [List.length_drop, List.length_take]; rfl)) ?_; (with_reducible refine (bodkinref02_size.calls a4 t156 _ A15.out).mono ?_); rintro e w' ⟨rfl, ⟨nd, rfl⟩⟩; refine ⟨_, rfl, ?_⟩) | ((with_reducible refine gate_callee (f := 43) rfl ?_); refine goesL_ (some 40) rfl rfl Tryd.func43 (by kernel_rfl) rfl #[.int .i64 a5] rfl (by (try simp only [List.map_toArray, List.map_cons, List.map_nil]); first | done | rfl | (simp only [List.length_drop, List.length_take]; rfl)) ?_; (with_reducible refine (bodkinref02_size.calls a5 t157 _ A16.out).mono ?_); rintro e w' ⟨rfl, ⟨nd, rfl⟩⟩; refine ⟨_, rfl, ?_⟩) | ((with_reducible refine gate_callee (f := 42) rfl ?_); refine goesL_ (some 41) rfl rfl Tryd.func42 (by kernel_rfl) rfl #[.int .u64 t156, .int .u64 t157] rfl (by (try simp only [List.map_toArray, List.map_cons, List.map_nil]); first | done | rfl | (simp only [List.length_drop, List.length_take]; rfl)) ?_; (with_reducible refine (bodkinref02_quo.calls kj7 t156 t157 t158 t159 _ A17.out).mono ?_); rintro e w30 ⟨rfl, hb⟩; refine ⟨_, rfl, ?_⟩; have n0_ := Aside0.mk (below_step (by repeat (first | (with_reducible first | exact HB.out | apply below_alloc | apply pw_below_drewN | apply below_drew1) | exact HB.out)) hb); clear HB; have HB := n0_; clear n0_; (try clear hb); (try clear hb2); (try clear hk); (try clear hi)) | ((with_reducible refine gate_callee (f := 32) rfl ?_); refine goesL_ (some 65) rfl rfl Tryd.func32 (by kernel_rfl) rfl #[.int .u64 t158, .int .i64 (wrap64 (a0 - 1))] rfl (by (try simp only [List.map_toArray, List.map_cons, List.map_nil]); first | done | rfl | (simp only [List.length_drop, List.length_take]; rfl)) ?_; (with_reducible refine (bodkinref02_bit.calls kj7 t158 (wrap64 (a0 - 1)) t163 _ A27.out).mono ?_); rintro e w' ⟨rfl, ⟨nd, rfl⟩⟩; refine ⟨_, rfl, ?_⟩))
                go_ret2
                exact ⟨by first | rfl | (simp [errW_none, errW_some] <;> rfl) | (simp [*, errW_none, errW_some] <;> rfl), by repeat (first | (with_reducible first | exact HB.out | apply below_alloc | apply pw_below_drewN | apply below_drew1) | exact HB.out)⟩

end Go.Proofs.YtajmjmnlapplaaaDoor.PInts

namespace Go.Proofs.YtajmjmnlapplaaaDoor.PInts
open Go.RowKit Go.Proofs.YtajmjmnlapplaaaDoorW.PrintWords Go.Proofs.YtajmjmnlapplaaaDoorW.PrintLast Go.Proofs.YtajmjmnlapplaaaDoorW.PrintMore
attribute [local go_sem] max2_int min2_int max_two min_two max_three min_three max_four min_four   -- for this text's walks alone
set_option linter.unusedVariables false
set_option linter.unusedSimpArgs false

/-! ### bodkinref02_of: function 35 -/
def bodkinref02_of.l0 : Nat → List Int → Int → Int → Option (Int)
  | 0, _, _, _ => none
  | k + 1, x0, x3, x4 => if x4 ≥ 0 then (if 0 ≤ x4 then (if x4 < (x0.length : Int) then (bodkinref02_of.l0 k x0 (IntKind.u64.wrap ((IntKind.u64.wrap (x3 * 2)) + (rd x0 x4))) (wrap64 (x4 - 1))) else (none)) else (none)) else (some x3)
def bodkinref02_of.f (k : Nat) (l0 : List Int) : Option (Int) := bodkinref02_of.l0 k l0 0 (wrap64 ((l0.length : Int) - 1))
theorem bodkinref02_of.mono_l : ∀ k, (∀ y0 y1 y2, LeO (bodkinref02_of.l0 k y0 y1 y2) (bodkinref02_of.l0 (k + 1) y0 y1 y2)) := by
  intro k
  induction k with
  | zero => exact fun _ _ _ r h => by simp [bodkinref02_of.l0] at h
  | succ k ih =>
    have ih0 := ih
    · intro y0 y1 y2
      unfold bodkinref02_of.l0
      repeat' first
      | (with_reducible exact ih0 _ _ _)
      | (with_reducible exact LeO.refl _)
      | (with_reducible exact LeO.none _)
      | (with_reducible refine LeO.ite ?_ ?_)
      | (with_reducible refine LeO.bind ?_ (fun _ => ?_))
      | exact ih0 _ _ _
      | exact LeO.none _
      | refine LeO.ite ?_ ?_
      | refine LeO.bind ?_ (fun _ => ?_)
theorem bodkinref02_of.mono : ∀ a0 k, LeO (bodkinref02_of.f k a0) (bodkinref02_of.f (k + 1) a0) := by
  intro a0 k
  have ih0 := bodkinref02_of.mono_l k
  unfold bodkinref02_of.f
  repeat' first
      | (with_reducible exact ih0 _ _ _)
      | (with_reducible exact LeO.refl _)
      | (with_reducible exact LeO.none _)
      | (with_reducible refine LeO.ite ?_ ?_)
      | (with_reducible refine LeO.bind ?_ (fun _ => ?_))
      | exact ih0 _ _ _
      | exact LeO.none _
      | refine LeO.ite ?_ ?_
      | refine LeO.bind ?_ (fun _ => ?_)
set_option maxHeartbeats 8000000 in
set_option maxRecDepth 100000 in
theorem bodkinref02_of.calls (k : Nat) (A0 : Option Addr) (c0 : Nat) (l0 : List Int) (r : Int) (w : World) (hr0 : Kd.C (Kd.int .u64) w A0 l0.length l0) (hc0 : l0.length ≤ c0) (h : bodkinref02_of.f k l0 = some r) :
    Calls Tryd.prog 35 #[.slice A0 l0.length c0] w fun e w' => e = .returned (.int .u64 r) ∧ Drawn0 w w' := by
  have HR0 := Aside0.mk hr0
  have HC0 := Aside0.mk hc0
  clear hr0 hc0
  have H : (bodkinref02_of.l0 k l0 0 (wrap64 ((l0.length : Int) - 1))) = some r := h
  clear h
  have H' := Aside0.mk H
  clear H
  go_enter Tryd.func35, Tryd.ntmps35
  go_wp2
  go_loopg [3, 4] k (fun kq v3 v4 w' => ∃ (x3_1 : Int) (x4_1 : Int), v3 = .int .u64 x3_1 ∧ v4 = .int .i64 x4_1 ∧ Aside0 (bodkinref02_of.l0 kq l0 x3_1 x4_1 = some r) ∧ Aside0 (kq ≤ k) ∧ Drawn0 w w')
  case atStart => exact ⟨(0), (wrap64 ((l0.length : Int) - 1)), (by first | rfl | (simp; done) | (simp [*]; done)), (by first | rfl | (simp; done) | (simp [*]; done)), H', ⟨Nat.le_refl _⟩, by repeat (first | exact Drawn0.refl _ | apply Drawn0.step)⟩
  case round =>
    clear H'
    obtain ⟨x3_1, x4_1, rfl, rfl, HA, HK1, ⟨m1, rfl⟩⟩ := hrel
    cases gk with
    | zero => exact absurd HA.out (by simp [bodkinref02_of.l0])
    | succ k1 =>
      have H := HA.out
      clear HA
      simp only [bodkinref02_of.l0] at H
      by_cases c2 : x4_1 ≥ 0
      · rw [if_pos c2] at H
        have c2b0 : decide (0 ≤ x4_1) = true := decide_eq_true c2
        clear c2
        by_cases c3 : 0 ≤ x4_1
        · rw [if_pos c3] at H
          have c3b0 : decide (0 ≤ x4_1) = true := decide_eq_true c3
          clear c3
          by_cases c4 : x4_1 < (l0.length : Int)
          · rw [if_pos c4] at H
            have c4b0 : decide (x4_1 < (l0.length : Int)) = true := decide_eq_true c4
            clear c4
            have H' := Aside0.mk H
            clear H
            have p164 : 0 ≤ (x4_1 : Int) := of_decide_eq_true (by first | (with_reducible assumption) | assumption)
            have q164 : x4_1 < (l0.length : Int) := of_decide_eq_true (by first | (with_reducible assumption) | assumption)
            obtain ⟨ad164, e164, hx164_0⟩ := Kd.at_int HR0.out x4_1 p164 q164
            cases e164
            replace p164 := eq_true p164
            replace q164 := eq_true q164
            go_wp2
            go_roundg k1
            case measure => have := HK1.out; omega
            case rel => exact ⟨(IntKind.u64.wrap ((IntKind.u64.wrap (x3_1 * 2)) + (rd l0 x4_1))), (wrap64 (x4_1 - 1)), (by first | rfl | (simp; done) | (simp [*]; done)), (by first | rfl | (simp; done) | (simp [*]; done)), H', ⟨by have := HK1.out; omega⟩, by repeat (first | exact Drawn0.refl _ | apply Drawn0.step)⟩
          · rw [if_neg c4] at H
            exact absurd H (by simp)
        · rw [if_neg c3] at H
          exact absurd H (by simp)
      · rw [if_neg c2] at H
        have c2b0 : decide (0 ≤ x4_1) = false := decide_eq_false c2
        clear c2
        obtain rfl := Option.some.inj H
        go_wp2
        go_ret
        exact ⟨by first | rfl | (simp; done) | (simp [*]; done), by repeat (first | exact Drawn0.refl _ | apply Drawn0.step)⟩

end Go.Proofs.YtajmjmnlapplaaaDoor.PInts

namespace Go.Proofs.YtajmjmnlapplaaaDoor.PInts
open Go.RowKit Go.Proofs.YtajmjmnlapplaaaDoorW.PrintWords Go.Proofs.YtajmjmnlapplaaaDoorW.PrintLast Go.Proofs.YtajmjmnlapplaaaDoorW.PrintMore
attribute [local go_sem] max2_int min2_int max_two min_two max_three min_three max_four min_four   -- for this text's walks alone
set_option linter.unusedVariables false
set_option linter.unusedSimpArgs false

/-! ### bodkinref02_moved: function 36 -/
mutual
def bodkinref02_moved.l0 : Nat → Int → Int → Int → List Int → List Int → Int → Option (Int)
  | 0, _, _, _, _, _, _ => none
  | k + 1, x0, x1, x3, x9, x10, x11 => if x11 < x0 then (if x1 = 12 then (bodkinref02_moved.j1 k x0 x1 x3 x9 x10 x11 (wrap64 (x11 - x3)) true) else (if x1 = 13 then (bodkinref02_moved.j1 k x0 x1 x3 x9 x10 x11 (wrap64 (x11 - x3)) true) else (bodkinref02_moved.j1 k x0 x1 x3 x9 x10 x11 (wrap64 (x11 - x3)) (x1 == 15)))) else ((bodkinref02_of.f k x10).bind fun t171 => (some t171))
def bodkinref02_moved.j1 : Nat → Int → Int → Int → List Int → List Int → Int → Int → Bool → Option (Int)
  | 0, _, _, _, _, _, _, _, _ => none
  | k + 1, x0, x1, x3, x9, x10, x11, x12, x36 => if x36 = true then (bodkinref02_moved.j2 k x0 x1 x3 x9 x10 x11 (wrap64 (x11 + x3))) else (bodkinref02_moved.j2 k x0 x1 x3 x9 x10 x11 x12)
def bodkinref02_moved.j2 : Nat → Int → Int → Int → List Int → List Int → Int → Int → Option (Int)
  | 0, _, _, _, _, _, _, _ => none
  | k + 1, x0, x1, x3, x9, x10, x11, x12 => if x0 = 0 then (none) else (if x1 = 14 then (bodkinref02_moved.j3 k x0 x1 x3 x9 x10 x11 x12 (Int.tmod (wrap64 (x12 + x0)) x0) x1 (x1 == 14)) else (bodkinref02_moved.j3 k x0 x1 x3 x9 x10 x11 x12 (Int.tmod (wrap64 (x12 + x0)) x0) x1 (x1 == 15)))
def bodkinref02_moved.j3 : Nat → Int → Int → Int → List Int → List Int → Int → Int → Int → Int → Bool → Option (Int)
  | 0, _, _, _, _, _, _, _, _, _, _ => none
  | k + 1, x0, x1, x3, x9, x10, x11, x12, x13, x45, x60 => if x60 = true then (if 0 ≤ x13 then (if x13 < (x9.length : Int) then (if 0 ≤ x11 then (if x11 < (x10.length : Int) then (bodkinref02_moved.l0 k x0 x1 x3 x9 (x10.set (x11 : Int).toNat (rd x9 x13)) (wrap64 (x11 + 1))) else (none)) else (none)) else (none)) else (none)) else (if x45 = 12 then (if x12 ≥ x0 then (if 0 ≤ (wrap64 (x0 - 1)) then (if (wrap64 (x0 - 1)) < (x9.length : Int) then (if 0 ≤ x11 then (if x11 < (x10.length : Int) then (bodkinref02_moved.l0 k x0 x1 x3 x9 (x10.set (x11 : Int).toNat (rd x9 (wrap64 (x0 - 1)))) (wrap64 (x11 + 1))) else (none)) else (none)) else (none)) else (none)) else (if 0 ≤ x12 then (if x12 < (x9.length : Int) then (if 0 ≤ x11 then (if x11 < (x10.length : Int) then (bodkinref02_moved.l0 k x0 x1 x3 x9 (x10.set (x11 : Int).toNat (rd x9 x12)) (wrap64 (x11 + 1))) else (none)) else (none)) else (none)) else (none))) else (if x12 ≥ 0 then (if x12 < x0 then (if 0 ≤ x12 then (if x12 < (x9.length : Int) then (if 0 ≤ x11 then (if x11 < (x10.length : Int) then (bodkinref02_moved.l0 k x0 x1 x3 x9 (x10.set (x11 : Int).toNat (rd x9 x12)) (wrap64 (x11 + 1))) else (none)) else (none)) else (none)) else (none)) else (bodkinref02_moved.l0 k x0 x1 x3 x9 x10 (wrap64 (x11 + 1)))) else (bodkinref02_moved.l0 k x0 x1 x3 x9 x10 (wrap64 (x11 + 1)))))
end
def bodkinref02_moved.f (k : Nat) (a0 : Int) (a1 : Int) (a2 : Int) (a3 : Int) : Option (Int) := (bodkinref02_list.f k a0 a2).bind fun t165 => (if 0 ≤ a0 then (if (a0 : Int).toNat ≤ 35184372088832 then (bodkinref02_moved.l0 k a0 a1 a3 t165 (List.replicate (a0 : Int).toNat 0) 0) else (none)) else (none))
theorem bodkinref02_moved.mono_l : ∀ k, (∀ y0 y1 y2 y3 y4 y5, LeO (bodkinref02_moved.l0 k y0 y1 y2 y3 y4 y5) (bodkinref02_moved.l0 (k + 1) y0 y1 y2 y3 y4 y5)) ∧ (∀ y0 y1 y2 y3 y4 y5 y6 y7, LeO (bodkinref02_moved.j1 k y0 y1 y2 y3 y4 y5 y6 y7) (bodkinref02_moved.j1 (k + 1) y0 y1 y2 y3 y4 y5 y6 y7)) ∧ (∀ y0 y1 y2 y3 y4 y5 y6, LeO (bodkinref02_moved.j2 k y0 y1 y2 y3 y4 y5 y6) (bodkinref02_moved.j2 (k + 1) y0 y1 y2 y3 y4 y5 y6)) ∧ (∀ y0 y1 y2 y3 y4 y5 y6 y7 y8 y9, LeO (bodkinref02_moved.j3 k y0 y1 y2 y3 y4 y5 y6 y7 y8 y9) (bodkinref02_moved.j3 (k + 1) y0 y1 y2 y3 y4 y5 y6 y7 y8 y9)) := by
  intro k
  induction k with
  | zero => exact ⟨fun _ _ _ _ _ _ r h => by simp [bodkinref02_moved.l0] at h, fun _ _ _ _ _ _ _ _ r h => by simp [bodkinref02_moved.j1] at h, fun _ _ _ _ _ _ _ r h => by simp [bodkinref02_moved.j2] at h, fun _ _ _ _ _ _ _ _ _ _ r h => by simp [bodkinref02_moved.j3] at h⟩
  | succ k ih =>
    obtain ⟨ih0, ih1, ih2, ih3⟩ := ih
    refine ⟨?_, ?_, ?_, ?_⟩
    · intro y0 y1 y2 y3 y4 y5
      unfold bodkinref02_moved.l0
      repeat' first
      | (with_reducible exact ih0 _ _ _ _ _ _)
      | (with_reducible exact ih1 _ _ _ _ _ _ _ _)
      | (with_reducible exact ih2 _ _ _ _ _ _ _)
      | (with_reducible exact ih3 _ _ _ _ _ _ _ _ _ _)
      | (with_reducible exact bodkinref02_list.mono _ _ _)
      | (with_reducible exact bodkinref02_of.mono _ _)
      | (with_reducible exact LeO.refl _)
      | (with_reducible exact LeO.none _)
      | (with_reducible refine LeO.ite ?_ ?_)
      | (with_reducible refine LeO.bind ?_ (fun _ => ?_))
      | exact ih0 _ _ _ _ _ _
      | exact ih1 _ _ _ _ _ _ _ _
      | exact ih2 _ _ _ _ _ _ _
      | exact ih3 _ _ _ _ _ _ _ _ _ _
      | exact bodkinref02_list.mono _ _ _
      | exact bodkinref02_of.mono _ _
      | exact LeO.none _
      | refine LeO.ite ?_ ?_
      | refine LeO.bind ?_ (fun _ => ?_)
    · intro y0 y1 y2 y3 y4 y5 y6 y7
      unfold bodkinref02_moved.j1
      repeat' first
      | (with_reducible exact ih0 _ _ _ _ _ _)
      | (with_reducible exact ih1 _ _ _ _ _ _ _ _)
      | (with_reducible exact ih2 _ _ _ _ _ _ _)
      | (with_reducible exact ih3 _ _ _ _ _ _ _ _ _ _)
      | (with_reducible exact bodkinref02_list.mono _ _ _)
      | (with_reducible exact bodkinref02_of.mono _ _)
      | (with_reducible exact LeO.refl _)
      | (with_reducible exact LeO.none _)
      | (with_reducible refine LeO.ite ?_ ?_)
      | (with_reducible refine LeO.bind ?_ (fun _ => ?_))
      | exact ih0 _ _ _ _ _ _
      | exact ih1 _ _ _ _ _ _ _ _
      | exact ih2 _ _ _ _ _ _ _
      | exact ih3 _ _ _ _ _ _ _ _ _ _
      | exact bodkinref02_list.mono _ _ _
      | exact bodkinref02_of.mono _ _
      | exact LeO.none _
      | refine LeO.ite ?_ ?_
      | refine LeO.bind ?_ (fun _ => ?_)
    · intro y0 y1 y2 y3 y4 y5 y6
      unfold bodkinref02_moved.j2
      repeat' first
      | (with_reducible exact ih0 _ _ _ _ _ _)
      | (with_reducible exact ih1 _ _ _ _ _ _ _ _)
      | (with_reducible exact ih2 _ _ _ _ _ _ _)
      | (with_reducible exact ih3 _ _ _ _ _ _ _ _ _ _)
      | (with_reducible exact bodkinref02_list.mono _ _ _)
      | (with_reducible exact bodkinref02_of.mono _ _)
      | (with_reducible exact LeO.refl _)
      | (with_reducible exact LeO.none _)
      | (with_reducible refine LeO.ite ?_ ?_)
      | (with_reducible refine LeO.bind ?_ (fun _ => ?_))
      | exact ih0 _ _ _ _ _ _
      | exact ih1 _ _ _ _ _ _ _ _
      | exact ih2 _ _ _ _ _ _ _
      | exact ih3 _ _ _ _ _ _ _ _ _ _
      | exact bodkinref02_list.mono _ _ _
      | exact bodkinref02_of.mono _ _
      | exact LeO.none _
      | refine LeO.ite ?_ ?_
      | refine LeO.bind ?_ (fun _ => ?_)
    · intro y0 y1 y2 y3 y4 y5 y6 y7 y8 y9
      unfold bodkinref02_moved.j3
      repeat' first
      | (with_reducible exact ih0 _ _ _ _ _ _)
      | (with_reducible exact ih1 _ _ _ _ _ _ _ _)
      | (with_reducible exact ih2 _ _ _ _ _ _ _)
      | (with_reducible exact ih3 _ _ _ _ _ _ _ _ _ _)
      | (with_reducible exact bodkinref02_list.mono _ _ _)
      | (with_reducible exact bodkinref02_of.mono _ _)
      | (with_reducible exact LeO.refl _)
      | (with_reducible exact LeO.none _)
      | (with_reducible refine LeO.ite ?_ ?_)
      | (with_reducible refine LeO.bind ?_ (fun _ => ?_))
      | exact ih0 _ _ _ _ _ _
      | exact ih1 _ _ _ _ _ _ _ _
      | exact ih2 _ _ _ _ _ _ _
      | exact ih3 _ _ _ _ _ _ _ _ _ _
      | exact bodkinref02_list.mono _ _ _
      | exact bodkinref02_of.mono _ _
      | exact LeO.none _
      | refine LeO.ite ?_ ?_
      | refine LeO.bind ?_ (fun _ => ?_)
theorem bodkinref02_moved.mono : ∀ a0 a1 a2 a3 k, LeO (bodkinref02_moved.f k a0 a1 a2 a3) (bodkinref02_moved.f (k + 1) a0 a1 a2 a3) := by
  intro a0 a1 a2 a3 k
  obtain ⟨ih0, ih1, ih2, ih3⟩ := bodkinref02_moved.mono_l k
  unfold bodkinref02_moved.f
  repeat' first
      | (with_reducible exact ih0 _ _ _ _ _ _)
      | (with_reducible exact ih1 _ _ _ _ _ _ _ _)
      | (with_reducible exact ih2 _ _ _ _ _ _ _)
      | (with_reducible exact ih3 _ _ _ _ _ _ _ _ _ _)
      | (with_reducible exact bodkinref02_list.mono _ _ _)
      | (with_reducible exact bodkinref02_of.mono _ _)
      | (with_reducible exact LeO.refl _)
      | (with_reducible exact LeO.none _)
      | (with_reducible refine LeO.ite ?_ ?_)
      | (with_reducible refine LeO.bind ?_ (fun _ => ?_))
      | exact ih0 _ _ _ _ _ _
      | exact ih1 _ _ _ _ _ _ _ _
      | exact ih2 _ _ _ _ _ _ _
      | exact ih3 _ _ _ _ _ _ _ _ _ _
      | exact bodkinref02_list.mono _ _ _
      | exact bodkinref02_of.mono _ _
      | exact LeO.none _
      | refine LeO.ite ?_ ?_
      | refine LeO.bind ?_ (fun _ => ?_)
set_option maxHeartbeats 8000000 in
set_option maxRecDepth 100000 in
theorem bodkinref02_moved.calls (k : Nat) (a0 : Int) (a1 : Int) (a2 : Int) (a3 : Int) (r : Int) (w : World) (h : bodkinref02_moved.f k a0 a1 a2 a3 = some r) :
    Calls Tryd.prog 36 #[.int .i64 a0, .int .i64 a1, .int .u64 a2, .int .i64 a3] w fun e w' => e = .returned (.int .u64 r) ∧ Below w.heap.size w w' := by
  have HB := Aside0.mk (Below.refl w.heap.size w)
  have H : ((bodkinref02_list.f k a0 a2).bind fun t165 => (if 0 ≤ a0 then (if (a0 : Int).toNat ≤ 35184372088832 then (bodkinref02_moved.l0 k a0 a1 a3 t165 (List.replicate (a0 : Int).toNat 0) 0) else (none)) else (none))) = some r := h
  clear h
  replace H := Option.bind_eq_some_iff.mp H
  obtain ⟨t165, A50, H⟩ := H
  replace H : (if 0 ≤ a0 then (if (a0 : Int).toNat ≤ 35184372088832 then (bodkinref02_moved.l0 k a0 a1 a3 t165 (List.replicate (a0 : Int).toNat 0) 0) else (none)) else (none)) = some r := H
  have A5 := Aside0.mk A50
  clear A50
  by_cases c6 : 0 ≤ a0
  · rw [if_pos c6] at H
    have c6b0 := eq_true c6
    have c6b1 : decide (0 ≤ a0) = true := decide_eq_true c6
    clear c6
    by_cases c7 : (a0 : Int).toNat ≤ 35184372088832
    · rw [if_pos c7] at H
      have c7b0 := eq_true c7
      have c7b1 : decide ((a0 : Int).toNat ≤ 35184372088832) = true := decide_eq_true c7
      clear c7
      obtain ⟨y168, hy168⟩ : ∃ y_ : List Int, y_ = (List.replicate (a0 : Int).toNat 0) := ⟨_, rfl⟩
      replace H : (bodkinref02_moved.l0 k a0 a1 a3 t165 y168 0) = some r := by first | (rw [hy168]; with_reducible exact H) | (have H2_ := (Option.bind_some _ _).symm.trans H; rw [hy168]; with_reducible exact H2_) | (have H2_ := (Option.bind_some _ _).symm.trans H; with_reducible exact H2_) | with_reducible exact H | (rw [hy168]; exact H) | exact H
      have Ny168 := Aside0.mk hy168
      clear hy168
      have H' := Aside0.mk H
      clear H
      go_enter Tryd.func36, Tryd.ntmps36
      go_wp2_with (first | ((with_reducible refine gate_callee (f := 34) rfl ?_); refine goesL_ (some 16) rfl rfl Tryd.func34 (by kernel_rfl) rfl #[.int .i64 a0, .int .u64 a2] rfl (by (try simp only [List.map_toArray, List.map_cons, List.map_nil]); first | done | rfl | (simp only [List.length_drop, List.length_take]; rfl)) ?_; (with_reducible refine (bodkinref02_list.calls k a0 a2 t165 _ A5.out).mono ?_); rintro e w8 ⟨v166, rfl, ho0, hb⟩; refine ⟨_, rfl, ?_⟩; have n0_ := Aside0.mk (Kd.R_lower ho0 (below_size (by repeat (first | (with_reducible first | exact HB.out | apply below_alloc | apply pw_below_drewN | apply below_drew1) | exact HB.out)))); have n1_ := Aside0.mk (below_step (by repeat (first | (with_reducible first | exact HB.out | apply below_alloc | apply pw_below_drewN | apply below_drew1) | exact HB.out)) hb); clear HB; have HO167 := n0_; have HB := n1_; clear n0_ n1_; (try clear hb); (try clear hb2); (try clear hk); (try clear hi); (try clear ho0)) | ((with_reducible refine gate_dst (N := 18) rfl ?_); refine Kd.R_make (Kd.int .u64) _ 22 rfl (N := 18) rfl 41 _ _ rfl a0 rfl rfl Tryd.underlying41 (.int .u64 0) 8 info22 rfl (by decide) (by omega) 0 (ok := fun _ => True) (okp := fun _ => True) rfl (fun _ hk => hk) trivial (of_decide_eq_true (by first | (with_reducible assumption) | assumption)) (Nat.le_trans (Nat.mul_le_mul_right _ (of_decide_eq_true (by first | (with_reducible assumption) | assumption) : a0.toNat ≤ 35184372088832)) (by omega)) (Below.refl _ _) (Nat.le_refl _) ?_; intro v169 w9 ho10 hb hg_ hnew_; clear hg_ hnew_; (first | rw [← Ny168.out] at ho10 | (simp only [Int.reduceToNat] at ho10; rw [← Ny168.out] at ho10)); have n0_ := Aside0.mk (Kd.R_elder' (by (with_reducible repeat (first | apply Kd.R_alloc | apply Kd.R_drewN | apply Kd.R_drew)); exact HO167.out) (Kd.R_base ho10) hb); have n1_ := Aside0.mk (Kd.R_lower (Kd.R_new' ho10 (Kd.R_lt (by (with_reducible repeat (first | apply Kd.R_alloc | apply Kd.R_drewN | apply Kd.R_drew)); exact HO167.out))) (below_size (by repeat (first | (with_reducible first | exact HB.out | apply below_alloc | apply pw_below_drewN | apply below_drew1) | exact HB.out)))); have n2_ := Aside0.mk (below_step (by repeat (first | (with_reducible first | exact HB.out | apply below_alloc | apply pw_below_drewN | apply below_drew1) | exact HB.out)) hb); clear HO167; clear HB; have HO167 := n0_; have HO170 := n1_; have HB := n2_; clear n0_ n1_ n2_; clear hb ho10))
      go_loopg [11] k (fun kq v11 w' => ∃ (x10_1 : List Int) (x11_1 : Int), v11 = .int .i64 x11_1 ∧ Aside0 (bodkinref02_moved.l0 kq a0 a1 a3 t165 x10_1 x11_1 = some r) ∧ Aside0 (kq ≤ k) ∧ Aside0 (Kd.R (Kd.int .u64) 22 w' w.heap.size (fun k_ => some k_ ≠ (v169 : Value).ownBlock) v166 t165) ∧ Aside0 (Kd.R (Kd.int .u64) 22 w' w.heap.size (fun k_ => some k_ ≠ (v166 : Value).ownBlock) v169 x10_1) ∧ Aside0 (Below w.heap.size w w'))
      case atStart => exact ⟨(y168), (0), (by first | rfl | (simp; done) | (simp [*]; done)), H', ⟨Nat.le_refl _⟩, ⟨by (with_reducible repeat (first | apply Kd.R_alloc | apply Kd.R_drewN | apply Kd.R_drew)); exact Kd.R_mono HO167.out (fun _ hk => hk.2)⟩, ⟨by (with_reducible repeat (first | apply Kd.R_alloc | apply Kd.R_drewN | apply Kd.R_drew)); exact Kd.R_mono HO170.out (fun _ hk => hk.2)⟩, ⟨by repeat (first | (with_reducible first | exact HB.out | apply below_alloc | apply pw_below_drewN | apply below_drew1) | exact HB.out)⟩⟩
      case round =>
        clear H'
        try clear p2
        try clear c3
        try clear c6
        try clear c6b0
        try clear c6b1
        try clear c7
        try clear c7b0
        try clear c7b1
        obtain ⟨x10_1, x11_1, rfl, HA, HK1, HO_9, HO_10, HB⟩ := hrel
        cases gk with
        | zero => exact absurd HA.out (by simp [bodkinref02_moved.l0])
        | succ k1 =>
          have H := HA.out
          clear HA
          simp only [bodkinref02_moved.l0] at H
          by_cases c11 : x11_1 < a0
          · rw [if_pos c11] at H
            have c11b0 : decide (x11_1 < a0) = true := decide_eq_true c11
            clear c11
            have HC12 := Aside0.mk H
            clear H
            go_upto_region 7 with (fail)
            go_cut [36] (fun v36 wc => ∃ (kq : Nat) (x36_11 : Bool), v36 = .bool x36_11 ∧ Aside0 (bodkinref02_moved.j1 kq a0 a1 a3 t165 x10_1 x11_1 (wrap64 (x11_1 - a3)) x36_11 = some r) ∧ Aside0 (kq ≤ k1) ∧ Aside0 (Kd.R (Kd.int .u64) 22 wc w.heap.size (fun k_ => some k_ ≠ (v169 : Value).ownBlock) v166 t165) ∧ Aside0 (Kd.R (Kd.int .u64) 22 wc w.heap.size (fun k_ => some k_ ≠ (v166 : Value).ownBlock) v169 x10_1) ∧ Aside0 (Below w.heap.size w wc))
            case first =>
              have H := HC12.out
              clear HC12
              by_cases c13 : a1 = 12
              · rw [if_pos c13] at H
                have c13b0 : (a1 == 12) = true := beq_iff_eq.mpr c13
                have c13b1 : (a1 != 12) = false := bne_eq_false_iff_eq.mpr c13
                clear c13
                (first | rw [c13b0] | (simp only [i64_w, i32_w]; rw [c13b0]) | skip)
                have H' := Aside0.mk H
                clear H
                go_wp2
                go_meet
                case rel => exact ⟨_, (true), (by first | rfl | (simp; done) | (simp [*]; done)), H', ⟨by have := HK1.out; first | omega | exact Nat.le_refl _⟩, ⟨by (with_reducible repeat (first | apply Kd.R_alloc | apply Kd.R_drewN | apply Kd.R_drew)); exact HO_9.out⟩, ⟨by (with_reducible repeat (first | apply Kd.R_alloc | apply Kd.R_drewN | apply Kd.R_drew)); exact HO_10.out⟩, ⟨by repeat (first | (with_reducible first | exact HB.out | apply below_alloc | apply pw_below_drewN | apply below_drew1) | exact HB.out)⟩⟩
              · rw [if_neg c13] at H
                have c13b0 : (a1 == 12) = false := beq_eq_false_iff_ne.mpr c13
                have c13b1 : (a1 != 12) = true := bne_iff_ne.mpr c13
                (first | rw [c13b0] | (simp only [i64_w, i32_w]; rw [c13b0]) | skip)
                by_cases c14 : a1 = 13
                · rw [if_pos c14] at H
                  have c14b0 : (a1 == 13) = true := beq_iff_eq.mpr c14
                  have c14b1 : (a1 != 13) = false := bne_eq_false_iff_eq.mpr c14
                  clear c14
                  have H' := Aside0.mk H
                  clear H
                  go_wp2
                  go_meet
                  case rel => exact ⟨_, (true), (by first | rfl | (simp; done) | (simp [*]; done)), H', ⟨by have := HK1.out; first | omega | exact Nat.le_refl _⟩, ⟨by (with_reducible repeat (first | apply Kd.R_alloc | apply Kd.R_drewN | apply Kd.R_drew)); exact HO_9.out⟩, ⟨by (with_reducible repeat (first | apply Kd.R_alloc | apply Kd.R_drewN | apply Kd.R_drew)); exact HO_10.out⟩, ⟨by repeat (first | (with_reducible first | exact HB.out | apply below_alloc | apply pw_below_drewN | apply below_drew1) | exact HB.out)⟩⟩
                · rw [if_neg c14] at H
                  have c14b0 : (a1 == 13) = false := beq_eq_false_iff_ne.mpr c14
                  have c14b1 : (a1 != 13) = true := bne_iff_ne.mpr c14
                  have H' := Aside0.mk H
                  clear H
                  go_wp2
                  go_meet
                  case rel => exact ⟨_, ((a1 == 15)), (by first | rfl | (simp; done) | (simp [*]; done)), H', ⟨by have := HK1.out; first | omega | exact Nat.le_refl _⟩, ⟨by (with_reducible repeat (first | apply Kd.R_alloc | apply Kd.R_drewN | apply Kd.R_drew)); exact HO_9.out⟩, ⟨by (with_reducible repeat (first | apply Kd.R_alloc | apply Kd.R_drewN | apply Kd.R_drew)); exact HO_10.out⟩, ⟨by repeat (first | (with_reducible first | exact HB.out | apply below_alloc | apply pw_below_drewN | apply below_drew1) | exact HB.out)⟩⟩
            case rest =>
              clear HC12
              try clear c1
              try clear p2
              try clear c3
              try clear c6
              try clear c6b0
              try clear c6b1
              try clear p6
              try clear c7
              try clear c7b0
              try clear c7b1
              try clear c11
              try clear c11b0
              try clear c13
              try clear c13b0
              try clear c13b1
              try clear c14
              try clear c14b0
              try clear c14b1
              try clear p2
              obtain ⟨kq, x36_11, rfl, HA, HJ11, HO_9, HO_10, HB⟩ := hcut
              cases kq with
              | zero => exact absurd HA.out (by simp [bodkinref02_moved.j1])
              | succ kj11 =>
                have H := HA.out
                clear HA
                simp only [bodkinref02_moved.j1] at H
                have HC15 := Aside0.mk H
                clear H
                go_upto_if 36 with (fail)
                go_cut [12] (fun v12 wc => ∃ (kq : Nat) (x12_14 : Int), v12 = .int .i64 x12_14 ∧ Aside0 (bodkinref02_moved.j2 kq a0 a1 a3 t165 x10_1 x11_1 x12_14 = some r) ∧ Aside0 (kq ≤ kj11) ∧ Aside0 (Kd.R (Kd.int .u64) 22 wc w.heap.size (fun k_ => some k_ ≠ (v169 : Value).ownBlock) v166 t165) ∧ Aside0 (Kd.R (Kd.int .u64) 22 wc w.heap.size (fun k_ => some k_ ≠ (v166 : Value).ownBlock) v169 x10_1) ∧ Aside0 (Below w.heap.size w wc))
                case first =>
                  have H := HC15.out
                  clear HC15
                  by_cases c16 : x36_11 = true
                  · subst c16
                    have H1 : (bodkinref02_moved.j2 kj11 a0 a1 a3 t165 x10_1 x11_1 (wrap64 (x11_1 + a3))) = some r := by rw [if_pos rfl] at H; exact H
                    clear H
                    have H := H1
                    clear H1
                    have H' := Aside0.mk H
                    clear H
                    go_wp2
                    go_meet
                    case rel => exact ⟨_, (wrap64 (x11_1 + a3)), (by first | rfl | (simp; done) | (simp [*]; done)), H', ⟨by have := HK1.out; have := HJ11.out; first | omega | exact Nat.le_refl _⟩, ⟨by (with_reducible repeat (first | apply Kd.R_alloc | apply Kd.R_drewN | apply Kd.R_drew)); exact HO_9.out⟩, ⟨by (with_reducible repeat (first | apply Kd.R_alloc | apply Kd.R_drewN | apply Kd.R_drew)); exact HO_10.out⟩, ⟨by repeat (first | (with_reducible first | exact HB.out | apply below_alloc | apply pw_below_drewN | apply below_drew1) | exact HB.out)⟩⟩
                  · replace c16 := Bool.eq_false_iff.mpr c16
                    subst c16
                    have H1 : (bodkinref02_moved.j2 kj11 a0 a1 a3 t165 x10_1 x11_1 (wrap64 (x11_1 - a3))) = some r := by rw [if_neg (show ¬ (false = true) by decide)] at H; exact H
                    clear H
                    have H := H1
                    clear H1
                    have H' := Aside0.mk H
                    clear H
                    go_wp2
                    go_meet
                    case rel => exact ⟨_, ((wrap64 (x11_1 - a3))), (by first | rfl | (simp; done) | (simp [*]; done)), H', ⟨by have := HK1.out; have := HJ11.out; first | omega | exact Nat.le_refl _⟩, ⟨by (with_reducible repeat (first | apply Kd.R_alloc | apply Kd.R_drewN | apply Kd.R_drew)); exact HO_9.out⟩, ⟨by (with_reducible repeat (first | apply Kd.R_alloc | apply Kd.R_drewN | apply Kd.R_drew)); exact HO_10.out⟩, ⟨by repeat (first | (with_reducible first | exact HB.out | apply below_alloc | apply pw_below_drewN | apply below_drew1) | exact HB.out)⟩⟩
                case rest =>
                  clear HC15
                  try clear c1
                  try clear p2
                  try clear c3
                  try clear c6
                  try clear c6b0
                  try clear c6b1
                  try clear p6
                  try clear c7
                  try clear c7b0
                  try clear c7b1
                  try clear c11
                  try clear c11b0
                  try clear c13
                  try clear c13b0
                  try clear c13b1
                  try clear c14
                  try clear c14b0
                  try clear c14b1
                  try clear c16
                  try clear p2
                  try clear p6
                  obtain ⟨kq, x12_14, rfl, HA, HJ14, HO_9, HO_10, HB⟩ := hcut
                  cases kq with
                  | zero => exact absurd HA.out (by simp [bodkinref02_moved.j2])
                  | succ kj14 =>
                    have H := HA.out
                    clear HA
                    simp only [bodkinref02_moved.j2] at H
                    by_cases c17 : a0 = 0
                    · rw [if_pos c17] at H
                      exact absurd H (by simp)
                    · rw [if_neg c17] at H
                      have c17b0 : (a0 == 0) = false := beq_eq_false_iff_ne.mpr c17
                      have c17b1 : (a0 != 0) = true := bne_iff_ne.mpr c17
                      have HC18 := Aside0.mk H
                      clear H
                      go_upto_if 60 with (fail)
                      go_cut [60] (fun v60 wc => ∃ (kq : Nat) (x60_17 : Bool), v60 = .bool x60_17 ∧ Aside0 (bodkinref02_moved.j3 kq a0 a1 a3 t165 x10_1 x11_1 x12_14 (Int.tmod (wrap64 (x12_14 + a0)) a0) a1 x60_17 = some r) ∧ Aside0 (kq ≤ kj14) ∧ Aside0 (Kd.R (Kd.int .u64) 22 wc w.heap.size (fun k_ => some k_ ≠ (v169 : Value).ownBlock) v166 t165) ∧ Aside0 (Kd.R (Kd.int .u64) 22 wc w.heap.size (fun k_ => some k_ ≠ (v166 : Value).ownBlock) v169 x10_1) ∧ Aside0 (Below w.heap.size w wc))
                      case first =>
                        have H := HC18.out
                        clear HC18
                        by_cases c19 : a1 = 14
                        · rw [if_pos c19] at H
                          have c19b0 : (a1 == 14) = true := beq_iff_eq.mpr c19
                          have c19b1 : (a1 != 14) = false := bne_eq_false_iff_eq.mpr c19
                          clear c19
                          (first | rw [c19b0] | (simp only [i64_w, i32_w]; rw [c19b0]) | skip)
                          have H' := Aside0.mk H
                          clear H
                          go_wp2
                          go_meet
                          case rel => exact ⟨_, ((a1 == 14)), (by first | rfl | (simp; done) | (simp [*]; done)), H', ⟨by have := HK1.out; have := HJ11.out; have := HJ14.out; first | omega | exact Nat.le_refl _⟩, ⟨by (with_reducible repeat (first | apply Kd.R_alloc | apply Kd.R_drewN | apply Kd.R_drew)); exact HO_9.out⟩, ⟨by (with_reducible repeat (first | apply Kd.R_alloc | apply Kd.R_drewN | apply Kd.R_drew)); exact HO_10.out⟩, ⟨by repeat (first | (with_reducible first | exact HB.out | apply below_alloc | apply pw_below_drewN | apply below_drew1) | exact HB.out)⟩⟩
                        · rw [if_neg c19] at H
                          have c19b0 : (a1 == 14) = false := beq_eq_false_iff_ne.mpr c19
                          have c19b1 : (a1 != 14) = true := bne_iff_ne.mpr c19
                          (first | rw [c19b0] | (simp only [i64_w, i32_w]; rw [c19b0]) | skip)
                          have H' := Aside0.mk H
                          clear H
                          go_wp2
                          go_meet
                          case rel => exact ⟨_, ((a1 == 15)), (by first | rfl | (simp; done) | (simp [*]; done)), H', ⟨by have := HK1.out; have := HJ11.out; have := HJ14.out; first | omega | exact Nat.le_refl _⟩, ⟨by (with_reducible repeat (first | apply Kd.R_alloc | apply Kd.R_drewN | apply Kd.R_drew)); exact HO_9.out⟩, ⟨by (with_reducible repeat (first | apply Kd.R_alloc | apply Kd.R_drewN | apply Kd.R_drew)); exact HO_10.out⟩, ⟨by repeat (first | (with_reducible first | exact HB.out | apply below_alloc | apply pw_below_drewN | apply below_drew1) | exact HB.out)⟩⟩
                      case rest =>
                        clear HC18
                        try clear c1
                        try clear p2
                        try clear c3
                        try clear c6
                        try clear c6b0
                        try clear c6b1
                        try clear p6
                        try clear c7
                        try clear c7b0
                        try clear c7b1
                        try clear c11
                        try clear c11b0
                        try clear c13
                        try clear c13b0
                        try clear c13b1
                        try clear c14
                        try clear c14b0
                        try clear c14b1
                        try clear c16
                        try clear c17
                        try clear c17b0
                        try clear c17b1
                        try clear c19
                        try clear c19b0
                        try clear c19b1
                        try clear p2
                        try clear p6
                        obtain ⟨kq, x60_17, rfl, HA, HJ17, HO_9, HO_10, HB⟩ := hcut
                        cases kq with
                        | zero => exact absurd HA.out (by simp [bodkinref02_moved.j3])
                        | succ kj17 =>
                          have H := HA.out
                          clear HA
                          simp only [bodkinref02_moved.j3] at H
                          by_cases c20 : x60_17 = true
                          · subst c20
                            have H1 : (if 0 ≤ (Int.tmod (wrap64 (x12_14 + a0)) a0) then (if (Int.tmod (wrap64 (x12_14 + a0)) a0) < (t165.length : Int) then (if 0 ≤ x11_1 then (if x11_1 < (x10_1.length : Int) then (bodkinref02_moved.l0 kj17 a0 a1 a3 t165 (x10_1.set (x11_1 : Int).toNat (rd t165 (Int.tmod (wrap64 (x12_14 + a0)) a0))) (wrap64 (x11_1 + 1))) else (none)) else (none)) else (none)) else (none)) = some r := by rw [if_pos rfl] at H; exact H
                            clear H
                            have H := H1
                            clear H1
                            obtain ⟨ji21, hji21⟩ : ∃ j_ : Int, (Int.tmod (wrap64 (x12_14 + a0)) a0) = j_ := ⟨_, rfl⟩
                            replace H : (if 0 ≤ (ji21) then (if (ji21) < (t165.length : Int) then (if 0 ≤ x11_1 then (if x11_1 < (x10_1.length : Int) then (bodkinref02_moved.l0 kj17 a0 a1 a3 t165 (x10_1.set (x11_1 : Int).toNat (rd t165 (ji21))) (wrap64 (x11_1 + 1))) else (none)) else (none)) else (none)) else (none)) = some r := by first | (rw [hji21] at H; exact H) | (simp only [hji21] at H ⊢; exact H)
                            by_cases c22 : 0 ≤ (ji21)
                            · rw [if_pos c22] at H
                              have c22b0 : decide (0 ≤ (ji21)) = true := decide_eq_true c22
                              clear c22
                              by_cases c23 : (ji21) < (t165.length : Int)
                              · rw [if_pos c23] at H
                                have c23b0 : decide ((ji21) < (t165.length : Int)) = true := decide_eq_true c23
                                clear c23
                                by_cases c24 : 0 ≤ x11_1
                                · rw [if_pos c24] at H
                                  have c24b0 : decide (0 ≤ x11_1) = true := decide_eq_true c24
                                  clear c24
                                  by_cases c25 : x11_1 < (x10_1.length : Int)
                                  · rw [if_pos c25] at H
                                    have c25b0 : decide (x11_1 < (x10_1.length : Int)) = true := decide_eq_true c25
                                    clear c25
                                    obtain ⟨y173, hy173⟩ : ∃ y_ : List Int, y_ = (x10_1.set (x11_1 : Int).toNat (rd t165 (ji21))) := ⟨_, rfl⟩
                                    replace H : (bodkinref02_moved.l0 kj17 a0 a1 a3 t165 y173 (wrap64 (x11_1 + 1))) = some r := by first | (rw [hy173]; with_reducible exact H) | (have H2_ := (Option.bind_some _ _).symm.trans H; rw [hy173]; with_reducible exact H2_) | (have H2_ := (Option.bind_some _ _).symm.trans H; with_reducible exact H2_) | with_reducible exact H | (rw [hy173]; exact H) | exact H
                                    have Ny173 := Aside0.mk hy173
                                    clear hy173
                                    have H' := Aside0.mk H
                                    clear H
                                    obtain ⟨Ao27, co27, eo27⟩ := Kd.R_slice HO_9.out
                                    subst eo27
                                    have p172 : 0 ≤ ((ji21) : Int) := of_decide_eq_true (by first | (with_reducible assumption) | assumption)
                                    have q172 : (ji21) < (t165.length : Int) := of_decide_eq_true (by first | (with_reducible assumption) | assumption)
                                    obtain ⟨ad172, e172, hx172_0⟩ := Kd.at_int (Kd.R_reads' HO_9.out).2.2 (ji21) p172 q172
                                    cases e172
                                    replace p172 := eq_true p172
                                    replace q172 := eq_true q172
                                    have p26 : 0 ≤ (x11_1 : Int) := of_decide_eq_true (by first | (with_reducible assumption) | assumption)
                                    have q26 : (x11_1 : Int) < ((x10_1.length : Int) : Int) := of_decide_eq_true (by first | (with_reducible assumption) | assumption)
                                    obtain ⟨go26, co26, eo26, gb26, gl26, cl26, HG26⟩ := Kd.R_form HO_10.out (by omega)
                                    (first | cases eo26 | (injection eo26 with ea_ en_ ec_; (first | subst ea_ | (injection ea_ with ea_; subst ea_)); subst ec_; clear en_))
                                    have GB26 := Aside0.mk gb26
                                    have GG26 := Aside0.mk HG26
                                    clear gb26 gl26 HG26
                                    obtain ⟨hx26_0, hf26_0⟩ := Kd.R_celln 0 HO_10.out (x11_1 : Int) p26 q26
                                    replace p26 := eq_true p26
                                    replace q26 := eq_true q26
                                    have HP28 := Kd.R_putg HO_10.out (x11_1 : Int) (rd t165 (ji21))
                                    go_wp2_with (first | ((with_reducible refine gate_store (t := 22) (p := 69) rfl ?_); refine store_event (t := 22) (p := 69) (v := ?vo_w29) (w1 := (wc.setCell ⟨go26, (x11_1 : Int).toNat, none⟩ (.int .u64 (rd t165 (ji21))))) ?hg ?ho ?hn ?hr ?_; (case ho => rfl); (case hg => rfl); (case hn => rfl); (case hr => first | (go_simp; done) | (go_simp; rfl)); intro w29 hw; have hg : wc.grownBy w29 (some go26) := (by rw [hw]; exact HP28.2); have hp_ : Kd.R (Kd.int .u64) 22 w29 w.heap.size (fun k_ => some k_ ≠ (.slice (some ad172) t165.length co27 : Value).ownBlock) (.slice (some ⟨go26, 0, none⟩) x10_1.length co26) y173 := (by rw [hw, Ny173.out]; exact HP28.1); clear HP28; have n0_ := Aside0.mk (Kd.R_after (v := (.slice (some ⟨go26, 0, none⟩) x10_1.length co26)) (v1 := (.slice (some ⟨go26, 0, none⟩) x10_1.length co26)) (ok := (fun _ => True)) (by (with_reducible repeat (first | apply Kd.R_alloc | apply Kd.R_drewN | apply Kd.R_drew)); exact Kd.R_mono HO_9.out (fun _ hk => ⟨trivial, hk⟩)) hg (.inl rfl)); have n1_ := Aside0.mk (hp_); have n2_ := Aside0.mk ((by rw [hw]; exact below_set (HB.out) GB26.out : Below w.heap.size w w29)); clear HO_9; clear HO_10; clear HB; have HO_9 := n0_; have HO_10 := n1_; have HB := n2_; clear n0_ n1_ n2_; clear hg hw hp_))
                                    go_roundg kj17
                                    case measure => have := HK1.out; have := HJ11.out; have := HJ14.out; have := HJ17.out; omega
                                    case rel => exact ⟨(y173), (wrap64 (x11_1 + 1)), (by first | rfl | (simp; done) | (simp [*]; done)), H', ⟨by have := HK1.out; have := HJ11.out; have := HJ14.out; have := HJ17.out; omega⟩, ⟨by (with_reducible repeat (first | apply Kd.R_alloc | apply Kd.R_drewN | apply Kd.R_drew)); exact Kd.R_mono HO_9.out (fun _ hk => hk.2)⟩, ⟨by (with_reducible repeat (first | apply Kd.R_alloc | apply Kd.R_drewN | apply Kd.R_drew)); exact HO_10.out⟩, ⟨by repeat (first | (with_reducible first | exact HB.out | apply below_alloc | apply pw_below_drewN | apply below_drew1) | exact HB.out)⟩⟩
                                  · rw [if_neg c25] at H
                                    exact absurd H (by simp)
                                · rw [if_neg c24] at H
                                  exact absurd H (by simp)
                              · rw [if_neg c23] at H
                                exact absurd H (by simp)
                            · rw [if_neg c22] at H
                              exact absurd H (by simp)
                          · replace c20 := Bool.eq_false_iff.mpr c20
                            subst c20
                            have H1 : (if a1 = 12 then (if x12_14 ≥ a0 then (if 0 ≤ (wrap64 (a0 - 1)) then (if (wrap64 (a0 - 1)) < (t165.length : Int) then (if 0 ≤ x11_1 then (if x11_1 < (x10_1.length : Int) then (bodkinref02_moved.l0 kj17 a0 a1 a3 t165 (x10_1.set (x11_1 : Int).toNat (rd t165 (wrap64 (a0 - 1)))) (wrap64 (x11_1 + 1))) else (none)) else (none)) else (none)) else (none)) else (if 0 ≤ x12_14 then (if x12_14 < (t165.length : Int) then (if 0 ≤ x11_1 then (if x11_1 < (x10_1.length : Int) then (bodkinref02_moved.l0 kj17 a0 a1 a3 t165 (x10_1.set (x11_1 : Int).toNat (rd t165 x12_14)) (wrap64 (x11_1 + 1))) else (none)) else (none)) else (none)) else (none))) else (if x12_14 ≥ 0 then (if x12_14 < a0 then (if 0 ≤ x12_14 then (if x12_14 < (t165.length : Int) then (if 0 ≤ x11_1 then (if x11_1 < (x10_1.length : Int) then (bodkinref02_moved.l0 kj17 a0 a1 a3 t165 (x10_1.set (x11_1 : Int).toNat (rd t165 x12_14)) (wrap64 (x11_1 + 1))) else (none)) else (none)) else (none)) else (none)) else (bodkinref02_moved.l0 kj17 a0 a1 a3 t165 x10_1 (wrap64 (x11_1 + 1)))) else (bodkinref02_moved.l0 kj17 a0 a1 a3 t165 x10_1 (wrap64 (x11_1 + 1))))) = some r := by rw [if_neg (show ¬ (false = true) by decide)] at H; exact H
                            clear H
                            have H := H1
                            clear H1
                            by_cases c30 : a1 = 12
                            · rw [if_pos c30] at H
                              have c30b0 : (a1 == 12) = true := beq_iff_eq.mpr c30
                              have c30b1 : (a1 != 12) = false := bne_eq_false_iff_eq.mpr c30
                              clear c30
                              by_cases c31 : x12_14 ≥ a0
                              · rw [if_pos c31] at H
                                have c31b0 : decide (a0 ≤ x12_14) = true := decide_eq_true c31
                                clear c31
                                obtain ⟨ji32, hji32⟩ : ∃ j_ : Int, (wrap64 (a0 - 1)) = j_ := ⟨_, rfl⟩
                                replace H : (if 0 ≤ (ji32) then (if (ji32) < (t165.length : Int) then (if 0 ≤ x11_1 then (if x11_1 < (x10_1.length : Int) then (bodkinref02_moved.l0 kj17 a0 a1 a3 t165 (x10_1.set (x11_1 : Int).toNat (rd t165 (ji32))) (wrap64 (x11_1 + 1))) else (none)) else (none)) else (none)) else (none)) = some r := by first | (rw [hji32] at H; exact H) | (simp only [hji32] at H ⊢; exact H)
                                have hji32w : (IntKind.i64.wrap (a0 - 1)) = ji32 := (i64_w _).trans hji32
                                by_cases c33 : 0 ≤ (ji32)
                                · rw [if_pos c33] at H
                                  have c33b0 : decide (0 ≤ (ji32)) = true := decide_eq_true c33
                                  clear c33
                                  by_cases c34 : (ji32) < (t165.length : Int)
                                  · rw [if_pos c34] at H
                                    have c34b0 : decide ((ji32) < (t165.length : Int)) = true := decide_eq_true c34
                                    clear c34
                                    by_cases c35 : 0 ≤ x11_1
                                    · rw [if_pos c35] at H
                                      have c35b0 : decide (0 ≤ x11_1) = true := decide_eq_true c35
                                      clear c35
                                      by_cases c36 : x11_1 < (x10_1.length : Int)
                                      · rw [if_pos c36] at H
                                        have c36b0 : decide (x11_1 < (x10_1.length : Int)) = true := decide_eq_true c36
                                        clear c36
                                        obtain ⟨y175, hy175⟩ : ∃ y_ : List Int, y_ = (x10_1.set (x11_1 : Int).toNat (rd t165 (ji32))) := ⟨_, rfl⟩
                                        replace H : (bodkinref02_moved.l0 kj17 a0 a1 a3 t165 y175 (wrap64 (x11_1 + 1))) = some r := by first | (rw [hy175]; with_reducible exact H) | (have H2_ := (Option.bind_some _ _).symm.trans H; rw [hy175]; with_reducible exact H2_) | (have H2_ := (Option.bind_some _ _).symm.trans H; with_reducible exact H2_) | with_reducible exact H | (rw [hy175]; exact H) | exact H
                                        have Ny175 := Aside0.mk hy175
                                        clear hy175
                                        have H' := Aside0.mk H
                                        clear H
                                        obtain ⟨Ao38, co38, eo38⟩ := Kd.R_slice HO_9.out
                                        subst eo38
                                        have p174 : 0 ≤ ((ji32) : Int) := of_decide_eq_true (by first | (with_reducible assumption) | assumption)
                                        have q174 : (ji32) < (t165.length : Int) := of_decide_eq_true (by first | (with_reducible assumption) | assumption)
                                        obtain ⟨ad174, e174, hx174_0⟩ := Kd.at_int (Kd.R_reads' HO_9.out).2.2 (ji32) p174 q174
                                        cases e174
                                        replace p174 := eq_true p174
                                        replace q174 := eq_true q174
                                        have p37 : 0 ≤ (x11_1 : Int) := of_decide_eq_true (by first | (with_reducible assumption) | assumption)
                                        have q37 : (x11_1 : Int) < ((x10_1.length : Int) : Int) := of_decide_eq_true (by first | (with_reducible assumption) | assumption)
                                        obtain ⟨go37, co37, eo37, gb37, gl37, cl37, HG37⟩ := Kd.R_form HO_10.out (by omega)
                                        (first | cases eo37 | (injection eo37 with ea_ en_ ec_; (first | subst ea_ | (injection ea_ with ea_; subst ea_)); subst ec_; clear en_))
                                        have GB37 := Aside0.mk gb37
                                        have GG37 := Aside0.mk HG37
                                        clear gb37 gl37 HG37
                                        obtain ⟨hx37_0, hf37_0⟩ := Kd.R_celln 0 HO_10.out (x11_1 : Int) p37 q37
                                        replace p37 := eq_true p37
                                        replace q37 := eq_true q37
                                        have HP39 := Kd.R_putg HO_10.out (x11_1 : Int) (rd t165 (ji32))
                                        go_wp2_with (first | ((with_reducible refine gate_store (t := 22) (p := 83) rfl ?_); refine store_event (t := 22) (p := 83) (v := ?vo_w40) (w1 := (wc.setCell ⟨go37, (x11_1 : Int).toNat, none⟩ (.int .u64 (rd t165 (ji32))))) ?hg ?ho ?hn ?hr ?_; (case ho => rfl); (case hg => rfl); (case hn => rfl); (case hr => first | (go_simp; done) | (go_simp; rfl)); intro w40 hw; have hg : wc.grownBy w40 (some go37) := (by rw [hw]; exact HP39.2); have hp_ : Kd.R (Kd.int .u64) 22 w40 w.heap.size (fun k_ => some k_ ≠ (.slice (some ad174) t165.length co38 : Value).ownBlock) (.slice (some ⟨go37, 0, none⟩) x10_1.length co37) y175 := (by rw [hw, Ny175.out]; exact HP39.1); clear HP39; have n0_ := Aside0.mk (Kd.R_after (v := (.slice (some ⟨go37, 0, none⟩) x10_1.length co37)) (v1 := (.slice (some ⟨go37, 0, none⟩) x10_1.length co37)) (ok := (fun _ => True)) (by (with_reducible repeat (first | apply Kd.R_alloc | apply Kd.R_drewN | apply Kd.R_drew)); exact Kd.R_mono HO_9.out (fun _ hk => ⟨trivial, hk⟩)) hg (.inl rfl)); have n1_ := Aside0.mk (hp_); have n2_ := Aside0.mk ((by rw [hw]; exact below_set (HB.out) GB37.out : Below w.heap.size w w40)); clear HO_9; clear HO_10; clear HB; have HO_9 := n0_; have HO_10 := n1_; have HB := n2_; clear n0_ n1_ n2_; clear hg hw hp_))
                                        go_roundg kj17
                                        case measure => have := HK1.out; have := HJ11.out; have := HJ14.out; have := HJ17.out; omega
                                        case rel => exact ⟨(y175), (wrap64 (x11_1 + 1)), (by first | rfl | (simp; done) | (simp [*]; done)), H', ⟨by have := HK1.out; have := HJ11.out; have := HJ14.out; have := HJ17.out; omega⟩, ⟨by (with_reducible repeat (first | apply Kd.R_alloc | apply Kd.R_drewN | apply Kd.R_drew)); exact Kd.R_mono HO_9.out (fun _ hk => hk.2)⟩, ⟨by (with_reducible repeat (first | apply Kd.R_alloc | apply Kd.R_drewN | apply Kd.R_drew)); exact HO_10.out⟩, ⟨by repeat (first | (with_reducible first | exact HB.out | apply below_alloc | apply pw_below_drewN | apply below_drew1) | exact HB.out)⟩⟩
                                      · rw [if_neg c36] at H
                                        exact absurd H (by simp)
                                    · rw [if_neg c35] at H
                                      exact absurd H (by simp)
                                  · rw [if_neg c34] at H
                                    exact absurd H (by simp)
                                · rw [if_neg c33] at H
                                  exact absurd H (by simp)
                              · rw [if_neg c31] at H
                                have c31b0 : decide (a0 ≤ x12_14) = false := decide_eq_false c31
                                clear c31
                                by_cases c41 : 0 ≤ x12_14
                                · rw [if_pos c41] at H
                                  have c41b0 : decide (0 ≤ x12_14) = true := decide_eq_true c41
                                  clear c41
                                  by_cases c42 : x12_14 < (t165.length : Int)
                                  · rw [if_pos c42] at H
                                    have c42b0 : decide (x12_14 < (t165.length : Int)) = true := decide_eq_true c42
                                    clear c42
                                    by_cases c43 : 0 ≤ x11_1
                                    · rw [if_pos c43] at H
                                      have c43b0 : decide (0 ≤ x11_1) = true := decide_eq_true c43
                                      clear c43
                                      by_cases c44 : x11_1 < (x10_1.length : Int)
                                      · rw [if_pos c44] at H
                                        have c44b0 : decide (x11_1 < (x10_1.length : Int)) = true := decide_eq_true c44
                                        clear c44
                                        obtain ⟨y177, hy177⟩ : ∃ y_ : List Int, y_ = (x10_1.set (x11_1 : Int).toNat (rd t165 x12_14)) := ⟨_, rfl⟩
                                        replace H : (bodkinref02_moved.l0 kj17 a0 a1 a3 t165 y177 (wrap64 (x11_1 + 1))) = some r := by first | (rw [hy177]; with_reducible exact H) | (have H2_ := (Option.bind_some _ _).symm.trans H; rw [hy177]; with_reducible exact H2_) | (have H2_ := (Option.bind_some _ _).symm.trans H; with_reducible exact H2_) | with_reducible exact H | (rw [hy177]; exact H) | exact H
                                        have Ny177 := Aside0.mk hy177
                                        clear hy177
                                        have H' := Aside0.mk H
                                        clear H
                                        obtain ⟨Ao46, co46, eo46⟩ := Kd.R_slice HO_9.out
                                        subst eo46
                                        have p176 : 0 ≤ (x12_14 : Int) := of_decide_eq_true (by first | (with_reducible assumption) | assumption)
                                        have q176 : x12_14 < (t165.length : Int) := of_decide_eq_true (by first | (with_reducible assumption) | assumption)
                                        obtain ⟨ad176, e176, hx176_0⟩ := Kd.at_int (Kd.R_reads' HO_9.out).2.2 x12_14 p176 q176
                                        cases e176
                                        replace p176 := eq_true p176
                                        replace q176 := eq_true q176
                                        have p45 : 0 ≤ (x11_1 : Int) := of_decide_eq_true (by first | (with_reducible assumption) | assumption)
                                        have q45 : (x11_1 : Int) < ((x10_1.length : Int) : Int) := of_decide_eq_true (by first | (with_reducible assumption) | assumption)
                                        obtain ⟨go45, co45, eo45, gb45, gl45, cl45, HG45⟩ := Kd.R_form HO_10.out (by omega)
                                        (first | cases eo45 | (injection eo45 with ea_ en_ ec_; (first | subst ea_ | (injection ea_ with ea_; subst ea_)); subst ec_; clear en_))
                                        have GB45 := Aside0.mk gb45
                                        have GG45 := Aside0.mk HG45
                                        clear gb45 gl45 HG45
                                        obtain ⟨hx45_0, hf45_0⟩ := Kd.R_celln 0 HO_10.out (x11_1 : Int) p45 q45
                                        replace p45 := eq_true p45
                                        replace q45 := eq_true q45
                                        have HP47 := Kd.R_putg HO_10.out (x11_1 : Int) (rd t165 x12_14)
                                        go_wp2_with (first | ((with_reducible refine gate_store (t := 22) (p := 83) rfl ?_); refine store_event (t := 22) (p := 83) (v := ?vo_w48) (w1 := (wc.setCell ⟨go45, (x11_1 : Int).toNat, none⟩ (.int .u64 (rd t165 x12_14)))) ?hg ?ho ?hn ?hr ?_; (case ho => rfl); (case hg => rfl); (case hn => rfl); (case hr => first | (go_simp; done) | (go_simp; rfl)); intro w48 hw; have hg : wc.grownBy w48 (some go45) := (by rw [hw]; exact HP47.2); have hp_ : Kd.R (Kd.int .u64) 22 w48 w.heap.size (fun k_ => some k_ ≠ (.slice (some ad176) t165.length co46 : Value).ownBlock) (.slice (some ⟨go45, 0, none⟩) x10_1.length co45) y177 := (by rw [hw, Ny177.out]; exact HP47.1); clear HP47; have n0_ := Aside0.mk (Kd.R_after (v := (.slice (some ⟨go45, 0, none⟩) x10_1.length co45)) (v1 := (.slice (some ⟨go45, 0, none⟩) x10_1.length co45)) (ok := (fun _ => True)) (by (with_reducible repeat (first | apply Kd.R_alloc | apply Kd.R_drewN | apply Kd.R_drew)); exact Kd.R_mono HO_9.out (fun _ hk => ⟨trivial, hk⟩)) hg (.inl rfl)); have n1_ := Aside0.mk (hp_); have n2_ := Aside0.mk ((by rw [hw]; exact below_set (HB.out) GB45.out : Below w.heap.size w w48)); clear HO_9; clear HO_10; clear HB; have HO_9 := n0_; have HO_10 := n1_; have HB := n2_; clear n0_ n1_ n2_; clear hg hw hp_))
                                        go_roundg kj17
                                        case measure => have := HK1.out; have := HJ11.out; have := HJ14.out; have := HJ17.out; omega
                                        case rel => exact ⟨(y177), (wrap64 (x11_1 + 1)), (by first | rfl | (simp; done) | (simp [*]; done)), H', ⟨by have := HK1.out; have := HJ11.out; have := HJ14.out; have := HJ17.out; omega⟩, ⟨by (with_reducible repeat (first | apply Kd.R_alloc | apply Kd.R_drewN | apply Kd.R_drew)); exact Kd.R_mono HO_9.out (fun _ hk => hk.2)⟩, ⟨by (with_reducible repeat (first | apply Kd.R_alloc | apply Kd.R_drewN | apply Kd.R_drew)); exact HO_10.out⟩, ⟨by repeat (first | (with_reducible first | exact HB.out | apply below_alloc | apply pw_below_drewN | apply below_drew1) | exact HB.out)⟩⟩
                                      · rw [if_neg c44] at H
                                        exact absurd H (by simp)
                                    · rw [if_neg c43] at H
                                      exact absurd H (by simp)
                                  · rw [if_neg c42] at H
                                    exact absurd H (by simp)
                                · rw [if_neg c41] at H
                                  exact absurd H (by simp)
                            · rw [if_neg c30] at H
                              have c30b0 : (a1 == 12) = false := beq_eq_false_iff_ne.mpr c30
                              have c30b1 : (a1 != 12) = true := bne_iff_ne.mpr c30
                              by_cases c49 : x12_14 ≥ 0
                              · rw [if_pos c49] at H
                                have c49b0 : decide (0 ≤ x12_14) = true := decide_eq_true c49
                                clear c49
                                by_cases c50 : x12_14 < a0
                                · rw [if_pos c50] at H
                                  have c50b0 : decide (x12_14 < a0) = true := decide_eq_true c50
                                  clear c50
                                  by_cases c51 : 0 ≤ x12_14
                                  · rw [if_pos c51] at H
                                    have c51b0 : decide (0 ≤ x12_14) = true := decide_eq_true c51
                                    clear c51
                                    by_cases c52 : x12_14 < (t165.length : Int)
                                    · rw [if_pos c52] at H
                                      have c52b0 : decide (x12_14 < (t165.length : Int)) = true := decide_eq_true c52
                                      clear c52
                                      by_cases c53 : 0 ≤ x11_1
                                      · rw [if_pos c53] at H
                                        have c53b0 : decide (0 ≤ x11_1) = true := decide_eq_true c53
                                        clear c53
                                        by_cases c54 : x11_1 < (x10_1.length : Int)
                                        · rw [if_pos c54] at H
                                          have c54b0 : decide (x11_1 < (x10_1.length : Int)) = true := decide_eq_true c54
                                          clear c54
                                          obtain ⟨y179, hy179⟩ : ∃ y_ : List Int, y_ = (x10_1.set (x11_1 : Int).toNat (rd t165 x12_14)) := ⟨_, rfl⟩
                                          replace H : (bodkinref02_moved.l0 kj17 a0 a1 a3 t165 y179 (wrap64 (x11_1 + 1))) = some r := by first | (rw [hy179]; with_reducible exact H) | (have H2_ := (Option.bind_some _ _).symm.trans H; rw [hy179]; with_reducible exact H2_) | (have H2_ := (Option.bind_some _ _).symm.trans H; with_reducible exact H2_) | with_reducible exact H | (rw [hy179]; exact H) | exact H
                                          have Ny179 := Aside0.mk hy179
                                          clear hy179
                                          have H' := Aside0.mk H
                                          clear H
                                          obtain ⟨Ao56, co56, eo56⟩ := Kd.R_slice HO_9.out
                                          subst eo56
                                          have p178 : 0 ≤ (x12_14 : Int) := of_decide_eq_true (by first | (with_reducible assumption) | assumption)
                                          have q178 : x12_14 < (t165.length : Int) := of_decide_eq_true (by first | (with_reducible assumption) | assumption)
                                          obtain ⟨ad178, e178, hx178_0⟩ := Kd.at_int (Kd.R_reads' HO_9.out).2.2 x12_14 p178 q178
                                          cases e178
                                          replace p178 := eq_true p178
                                          replace q178 := eq_true q178
                                          have p55 : 0 ≤ (x11_1 : Int) := of_decide_eq_true (by first | (with_reducible assumption) | assumption)
                                          have q55 : (x11_1 : Int) < ((x10_1.length : Int) : Int) := of_decide_eq_true (by first | (with_reducible assumption) | assumption)
                                          obtain ⟨go55, co55, eo55, gb55, gl55, cl55, HG55⟩ := Kd.R_form HO_10.out (by omega)
                                          (first | cases eo55 | (injection eo55 with ea_ en_ ec_; (first | subst ea_ | (injection ea_ with ea_; subst ea_)); subst ec_; clear en_))
                                          have GB55 := Aside0.mk gb55
                                          have GG55 := Aside0.mk HG55
                                          clear gb55 gl55 HG55
                                          obtain ⟨hx55_0, hf55_0⟩ := Kd.R_celln 0 HO_10.out (x11_1 : Int) p55 q55
                                          replace p55 := eq_true p55
                                          replace q55 := eq_true q55
                                          have HP57 := Kd.R_putg HO_10.out (x11_1 : Int) (rd t165 x12_14)
                                          go_wp2_with (first | ((with_reducible refine gate_store (t := 22) (p := 59) rfl ?_); refine store_event (t := 22) (p := 59) (v := ?vo_w58) (w1 := (wc.setCell ⟨go55, (x11_1 : Int).toNat, none⟩ (.int .u64 (rd t165 x12_14)))) ?hg ?ho ?hn ?hr ?_; (case ho => rfl); (case hg => rfl); (case hn => rfl); (case hr => first | (go_simp; done) | (go_simp; rfl)); intro w58 hw; have hg : wc.grownBy w58 (some go55) := (by rw [hw]; exact HP57.2); have hp_ : Kd.R (Kd.int .u64) 22 w58 w.heap.size (fun k_ => some k_ ≠ (.slice (some ad178) t165.length co56 : Value).ownBlock) (.slice (some ⟨go55, 0, none⟩) x10_1.length co55) y179 := (by rw [hw, Ny179.out]; exact HP57.1); clear HP57; have n0_ := Aside0.mk (Kd.R_after (v := (.slice (some ⟨go55, 0, none⟩) x10_1.length co55)) (v1 := (.slice (some ⟨go55, 0, none⟩) x10_1.length co55)) (ok := (fun _ => True)) (by (with_reducible repeat (first | apply Kd.R_alloc | apply Kd.R_drewN | apply Kd.R_drew)); exact Kd.R_mono HO_9.out (fun _ hk => ⟨trivial, hk⟩)) hg (.inl rfl)); have n1_ := Aside0.mk (hp_); have n2_ := Aside0.mk ((by rw [hw]; exact below_set (HB.out) GB55.out : Below w.heap.size w w58)); clear HO_9; clear HO_10; clear HB; have HO_9 := n0_; have HO_10 := n1_; have HB := n2_; clear n0_ n1_ n2_; clear hg hw hp_))
                                          go_roundg kj17
                                          case measure => have := HK1.out; have := HJ11.out; have := HJ14.out; have := HJ17.out; omega
                                          case rel => exact ⟨(y179), (wrap64 (x11_1 + 1)), (by first | rfl | (simp; done) | (simp [*]; done)), H', ⟨by have := HK1.out; have := HJ11.out; have := HJ14.out; have := HJ17.out; omega⟩, ⟨by (with_reducible repeat (first | apply Kd.R_alloc | apply Kd.R_drewN | apply Kd.R_drew)); exact Kd.R_mono HO_9.out (fun _ hk => hk.2)⟩, ⟨by (with_reducible repeat (first | apply Kd.R_alloc | apply Kd.R_drewN | apply Kd.R_drew)); exact HO_10.out⟩, ⟨by repeat (first | (with_reducible first | exact HB.out | apply below_alloc | apply pw_below_drewN | apply below_drew1) | exact HB.out)⟩⟩
                                        · rw [if_neg c54] at H
                                          exact absurd H (by simp)
                                      · rw [if_neg c53] at H
                                        exact absurd H (by simp)
                                    · rw [if_neg c52] at H
                                      exact absurd H (by simp)
                                  · rw [if_neg c51] at H
                                    exact absurd H (by simp)
                                · rw [if_neg c50] at H
                                  have c50b0 : decide (x12_14 < a0) = false := decide_eq_false c50
                                  clear c50
                                  have H' := Aside0.mk H
                                  clear H
                                  go_wp2
                                  go_roundg kj17
                                  case measure => have := HK1.out; have := HJ11.out; have := HJ14.out; have := HJ17.out; omega
                                  case rel => exact ⟨(x10_1), (wrap64 (x11_1 + 1)), (by first | rfl | (simp; done) | (simp [*]; done)), H', ⟨by have := HK1.out; have := HJ11.out; have := HJ14.out; have := HJ17.out; omega⟩, ⟨by (with_reducible repeat (first | apply Kd.R_alloc | apply Kd.R_drewN | apply Kd.R_drew)); exact HO_9.out⟩, ⟨by (with_reducible repeat (first | apply Kd.R_alloc | apply Kd.R_drewN | apply Kd.R_drew)); exact HO_10.out⟩, ⟨by repeat (first | (with_reducible first | exact HB.out | apply below_alloc | apply pw_below_drewN | apply below_drew1) | exact HB.out)⟩⟩
                              · rw [if_neg c49] at H
                                have c49b0 : decide (0 ≤ x12_14) = false := decide_eq_false c49
                                clear c49
                                have H' := Aside0.mk H
                                clear H
                                go_wp2
                                go_roundg kj17
                                case measure => have := HK1.out; have := HJ11.out; have := HJ14.out; have := HJ17.out; omega
                                case rel => exact ⟨(x10_1), (wrap64 (x11_1 + 1)), (by first | rfl | (simp; done) | (simp [*]; done)), H', ⟨by have := HK1.out; have := HJ11.out; have := HJ14.out; have := HJ17.out; omega⟩, ⟨by (with_reducible repeat (first | apply Kd.R_alloc | apply Kd.R_drewN | apply Kd.R_drew)); exact HO_9.out⟩, ⟨by (with_reducible repeat (first | apply Kd.R_alloc | apply Kd.R_drewN | apply Kd.R_drew)); exact HO_10.out⟩, ⟨by repeat (first | (with_reducible first | exact HB.out | apply below_alloc | apply pw_below_drewN | apply below_drew1) | exact HB.out)⟩⟩
          · rw [if_neg c11] at H
            have c11b0 : decide (x11_1 < a0) = false := decide_eq_false c11
            clear c11
            replace H := Option.bind_eq_some_iff.mp H
            obtain ⟨t171, A590, H⟩ := H
            replace H : (some t171) = some r := H
            have A59 := Aside0.mk A590
            clear A590
            obtain rfl := Option.some.inj H
            obtain ⟨Ao60, co60, eo60⟩ := Kd.R_slice HO_10.out
            subst eo60
            go_wp2_with (first | ((with_reducible refine gate_callee (f := 35) rfl ?_); refine goesL_ (some 85) rfl rfl Tryd.func35 (by kernel_rfl) rfl #[.slice Ao60 x10_1.length co60] rfl (by (try simp only [List.map_toArray, List.map_cons, List.map_nil]); first | done | rfl | (simp only [List.length_drop, List.length_take]; rfl)) ?_; (with_reducible refine (bodkinref02_of.calls k1 _ _ x10_1 t171 _ ?side1 ?side2 A59.out).mono ?_); (case side1 => repeat (first | exact (Kd.R_reads' HO_10.out).2.2 | (with_reducible refine Kd.C_alloc ?_ _) | (with_reducible refine Kd.C_drewN ?_ _) | (with_reducible refine Kd.C_drew ?_))); (case side2 => exact (Kd.R_reads' HO_10.out).2.1); rintro e w' ⟨rfl, ⟨nd, rfl⟩⟩; refine ⟨_, rfl, ?_⟩))
            go_ret
            exact ⟨by first | rfl | (simp [errW_none, errW_some] <;> rfl) | (simp [*, errW_none, errW_some] <;> rfl), by repeat (first | (with_reducible first | exact HB.out | apply below_alloc | apply pw_below_drewN | apply below_drew1) | exact HB.out)⟩
    · rw [if_neg c7] at H
      exact absurd H (by simp)
  · rw [if_neg c6] at H
    exact absurd H (by simp)

end Go.Proofs.YtajmjmnlapplaaaDoor.PInts

namespace Go.Proofs.YtajmjmnlapplaaaDoor.PInts
open Go.RowKit Go.Proofs.YtajmjmnlapplaaaDoorW.PrintWords Go.Proofs.YtajmjmnlapplaaaDoorW.PrintLast Go.Proofs.YtajmjmnlapplaaaDoorW.PrintMore
attribute [local go_sem] max2_int min2_int max_two min_two max_three min_three max_four min_four   -- for this text's walks alone
set_option linter.unusedVariables false
set_option linter.unusedSimpArgs false

/-! ### bodkinref02_within: function 44 -/
mutual
def bodkinref02_within.j0 : Nat → Int → Int → Int → Int → Bool → Option (Int)
  | 0, _, _, _, _, _ => none
  | k + 1, x0, x1, x2, x9, x22 => if x22 = true then (some x9) else (if x1 < 0 then (if x0 > (wrap64 (x2 + x1)) then (some x2) else (some (wrap64 (x0 - x1)))) else (some (wrap64 (x0 - x1))))
def bodkinref02_within.j1 : Nat → Int → Int → Int → Int → Bool → Option (Int)
  | 0, _, _, _, _, _ => none
  | k + 1, x0, x1, x2, x9, x45 => if x45 = true then (some x2) else (if x1 < 0 then (if x0 < (wrap64 (x9 - x1)) then (some x9) else (some (wrap64 (x0 + x1)))) else (some (wrap64 (x0 + x1))))
end
def bodkinref02_within.f (k : Nat) (a0 : Int) (a1 : Int) (a2 : Int) (a3 : Bool) : Option (Int) := if a3 = true then (if a1 > 0 then (bodkinref02_within.j0 k a0 a1 a2 (wrap64 ((wrap64 (-a2)) - 1)) (decide (a0 < (wrap64 ((wrap64 ((wrap64 (-a2)) - 1)) + a1))))) else (bodkinref02_within.j0 k a0 a1 a2 (wrap64 ((wrap64 (-a2)) - 1)) false)) else (if a1 > 0 then (bodkinref02_within.j1 k a0 a1 a2 (wrap64 ((wrap64 (-a2)) - 1)) (decide (a0 > (wrap64 (a2 - a1))))) else (bodkinref02_within.j1 k a0 a1 a2 (wrap64 ((wrap64 (-a2)) - 1)) false))
theorem bodkinref02_within.mono_l : ∀ k, (∀ y0 y1 y2 y3 y4, LeO (bodkinref02_within.j0 k y0 y1 y2 y3 y4) (bodkinref02_within.j0 (k + 1) y0 y1 y2 y3 y4)) ∧ (∀ y0 y1 y2 y3 y4, LeO (bodkinref02_within.j1 k y0 y1 y2 y3 y4) (bodkinref02_within.j1 (k + 1) y0 y1 y2 y3 y4)) := by
  intro k
  induction k with
  | zero => exact ⟨fun _ _ _ _ _ r h => by simp [bodkinref02_within.j0] at h, fun _ _ _ _ _ r h => by simp [bodkinref02_within.j1] at h⟩
  | succ k ih =>
    obtain ⟨ih0, ih1⟩ := ih
    refine ⟨?_, ?_⟩
    · intro y0 y1 y2 y3 y4
      unfold bodkinref02_within.j0
      repeat' first
      | (with_reducible exact ih0 _ _ _ _ _)
      | (with_reducible exact ih1 _ _ _ _ _)
      | (with_reducible exact LeO.refl _)
      | (with_reducible exact LeO.none _)
      | (with_reducible refine LeO.ite ?_ ?_)
      | (with_reducible refine LeO.bind ?_ (fun _ => ?_))
      | exact ih0 _ _ _ _ _
      | exact ih1 _ _ _ _ _
      | exact LeO.none _
      | refine LeO.ite ?_ ?_
      | refine LeO.bind ?_ (fun _ => ?_)
    · intro y0 y1 y2 y3 y4
      unfold bodkinref02_within.j1
      repeat' first
      | (with_reducible exact ih0 _ _ _ _ _)
      | (with_reducible exact ih1 _ _ _ _ _)
      | (with_reducible exact LeO.refl _)
      | (with_reducible exact LeO.none _)
      | (with_reducible refine LeO.ite ?_ ?_)
      | (with_reducible refine LeO.bind ?_ (fun _ => ?_))
      | exact ih0 _ _ _ _ _
      | exact ih1 _ _ _ _ _
      | exact LeO.none _
      | refine LeO.ite ?_ ?_
      | refine LeO.bind ?_ (fun _ => ?_)
theorem bodkinref02_within.mono : ∀ a0 a1 a2 a3 k, LeO (bodkinref02_within.f k a0 a1 a2 a3) (bodkinref02_within.f (k + 1) a0 a1 a2 a3) := by
  intro a0 a1 a2 a3 k
  obtain ⟨ih0, ih1⟩ := bodkinref02_within.mono_l k
  unfold bodkinref02_within.f
  repeat' first
      | (with_reducible exact ih0 _ _ _ _ _)
      | (with_reducible exact ih1 _ _ _ _ _)
      | (with_reducible exact LeO.refl _)
      | (with_reducible exact LeO.none _)
      | (with_reducible refine LeO.ite ?_ ?_)
      | (with_reducible refine LeO.bind ?_ (fun _ => ?_))
      | exact ih0 _ _ _ _ _
      | exact ih1 _ _ _ _ _
      | exact LeO.none _
      | refine LeO.ite ?_ ?_
      | refine LeO.bind ?_ (fun _ => ?_)
set_option maxHeartbeats 8000000 in
set_option maxRecDepth 100000 in
theorem bodkinref02_within.calls (k : Nat) (a0 : Int) (a1 : Int) (a2 : Int) (a3 : Bool) (r : Int) (w : World) (h : bodkinref02_within.f k a0 a1 a2 a3 = some r) :
    Calls Tryd.prog 44 #[.int .i64 a0, .int .i64 a1, .int .i64 a2, .bool a3] w fun e w' => e = .returned (.int .i64 r) ∧ Drawn0 w w' := by
  have H : (if a3 = true then (if a1 > 0 then (bodkinref02_within.j0 k a0 a1 a2 (wrap64 ((wrap64 (-a2)) - 1)) (decide (a0 < (wrap64 ((wrap64 ((wrap64 (-a2)) - 1)) + a1))))) else (bodkinref02_within.j0 k a0 a1 a2 (wrap64 ((wrap64 (-a2)) - 1)) false)) else (if a1 > 0 then (bodkinref02_within.j1 k a0 a1 a2 (wrap64 ((wrap64 (-a2)) - 1)) (decide (a0 > (wrap64 (a2 - a1))))) else (bodkinref02_within.j1 k a0 a1 a2 (wrap64 ((wrap64 (-a2)) - 1)) false))) = some r := h
  clear h
  by_cases c5 : a3 = true
  · subst c5
    have H1 : (if a1 > 0 then (bodkinref02_within.j0 k a0 a1 a2 (wrap64 ((wrap64 (-a2)) - 1)) (decide (a0 < (wrap64 ((wrap64 ((wrap64 (-a2)) - 1)) + a1))))) else (bodkinref02_within.j0 k a0 a1 a2 (wrap64 ((wrap64 (-a2)) - 1)) false)) = some r := by rw [if_pos rfl] at H; exact H
    clear H
    have H := H1
    clear H1
    have HC6 := Aside0.mk H
    clear H
    go_enter Tryd.func44, Tryd.ntmps44
    go_upto_region 3 with (fail)
    go_cut [22] (fun v22 wc => ∃ (kq : Nat) (x22_5 : Bool), v22 = .bool x22_5 ∧ Aside0 (bodkinref02_within.j0 kq a0 a1 a2 (wrap64 ((wrap64 (-a2)) - 1)) x22_5 = some r) ∧ Aside0 (kq ≤ k) ∧ Drawn0 w wc)
    case first =>
      have H := HC6.out
      clear HC6
      by_cases c7 : a1 > 0
      · rw [if_pos c7] at H
        have c7b0 : decide (0 < a1) = true := decide_eq_true c7
        clear c7
        (first | rw [c7b0] | (simp only [i64_w, i32_w]; rw [c7b0]) | skip)
        have H' := Aside0.mk H
        clear H
        go_wp2
        go_meet
        case rel => exact ⟨_, (decide (a0 < (wrap64 ((wrap64 ((wrap64 (-a2)) - 1)) + a1)))), (by first | rfl | (simp; done) | (simp [*]; done)), H', ⟨by first | omega | exact Nat.le_refl _⟩, by repeat (first | exact Drawn0.refl _ | apply Drawn0.step)⟩
      · rw [if_neg c7] at H
        have c7b0 : decide (0 < a1) = false := decide_eq_false c7
        clear c7
        (first | rw [c7b0] | (simp only [i64_w, i32_w]; rw [c7b0]) | skip)
        have H' := Aside0.mk H
        clear H
        go_wp2
        go_meet
        case rel => exact ⟨_, (false), (by first | rfl | (simp; done) | (simp [*]; done)), H', ⟨by first | omega | exact Nat.le_refl _⟩, by repeat (first | exact Drawn0.refl _ | apply Drawn0.step)⟩
    case rest =>
      clear HC6
      try clear p2
      try clear c4
      try clear c5
      try clear p6
      try clear c7
      try clear c7b0
      obtain ⟨kq, x22_5, rfl, HA, HJ5, ⟨mc5, rfl⟩⟩ := hcut
      cases kq with
      | zero => exact absurd HA.out (by simp [bodkinref02_within.j0])
      | succ kj5 =>
        have H := HA.out
        clear HA
        simp only [bodkinref02_within.j0] at H
        by_cases c8 : x22_5 = true
        · subst c8
          have H1 : (some (wrap64 ((wrap64 (-a2)) - 1))) = some r := by rw [if_pos rfl] at H; exact H
          clear H
          have H := H1
          clear H1
          obtain rfl := Option.some.inj H
          go_wp2
          go_ret
          exact ⟨by first | rfl | (simp; done) | (simp [*]; done), by repeat (first | exact Drawn0.refl _ | apply Drawn0.step)⟩
        · replace c8 := Bool.eq_false_iff.mpr c8
          subst c8
          have H1 : (if a1 < 0 then (if a0 > (wrap64 (a2 + a1)) then (some a2) else (some (wrap64 (a0 - a1)))) else (some (wrap64 (a0 - a1)))) = some r := by rw [if_neg (show ¬ (false = true) by decide)] at H; exact H
          clear H
          have H := H1
          clear H1
          by_cases c9 : a1 < 0
          · rw [if_pos c9] at H
            have c9b0 : decide (a1 < 0) = true := decide_eq_true c9
            clear c9
            by_cases c10 : a0 > (wrap64 (a2 + a1))
            · rw [if_pos c10] at H
              have c10b0 : decide ((wrap64 (a2 + a1)) < a0) = true := decide_eq_true c10
              clear c10
              obtain rfl := Option.some.inj H
              go_wp2
              go_ret
              exact ⟨by first | rfl | (simp; done) | (simp [*]; done), by repeat (first | exact Drawn0.refl _ | apply Drawn0.step)⟩
            · rw [if_neg c10] at H
              have c10b0 : decide ((wrap64 (a2 + a1)) < a0) = false := decide_eq_false c10
              clear c10
              obtain rfl := Option.some.inj H
              go_wp2
              go_ret
              exact ⟨by first | rfl | (simp; done) | (simp [*]; done), by repeat (first | exact Drawn0.refl _ | apply Drawn0.step)⟩
          · rw [if_neg c9] at H
            have c9b0 : decide (a1 < 0) = false := decide_eq_false c9
            clear c9
            obtain rfl := Option.some.inj H
            go_wp2
            go_ret
            exact ⟨by first | rfl | (simp; done) | (simp [*]; done), by repeat (first | exact Drawn0.refl _ | apply Drawn0.step)⟩
  · replace c5 := Bool.eq_false_iff.mpr c5
    subst c5
    have H1 : (if a1 > 0 then (bodkinref02_within.j1 k a0 a1 a2 (wrap64 ((wrap64 (-a2)) - 1)) (decide (a0 > (wrap64 (a2 - a1))))) else (bodkinref02_within.j1 k a0 a1 a2 (wrap64 ((wrap64 (-a2)) - 1)) false)) = some r := by rw [if_neg (show ¬ (false = true) by decide)] at H; exact H
    clear H
    have H := H1
    clear H1
    have HC11 := Aside0.mk H
    clear H
    go_enter Tryd.func44, Tryd.ntmps44
    go_upto_region 8 with (fail)
    go_cut [45] (fun v45 wc => ∃ (kq : Nat) (x45_10 : Bool), v45 = .bool x45_10 ∧ Aside0 (bodkinref02_within.j1 kq a0 a1 a2 (wrap64 ((wrap64 (-a2)) - 1)) x45_10 = some r) ∧ Aside0 (kq ≤ k) ∧ Drawn0 w wc)
    case first =>
      have H := HC11.out
      clear HC11
      by_cases c12 : a1 > 0
      · rw [if_pos c12] at H
        have c12b0 : decide (0 < a1) = true := decide_eq_true c12
        clear c12
        (first | rw [c12b0] | (simp only [i64_w, i32_w]; rw [c12b0]) | skip)
        have H' := Aside0.mk H
        clear H
        go_wp2
        go_meet
        case rel => exact ⟨_, (decide (a0 > (wrap64 (a2 - a1)))), (by first | rfl | (simp; done) | (simp [*]; done)), H', ⟨by first | omega | exact Nat.le_refl _⟩, by repeat (first | exact Drawn0.refl _ | apply Drawn0.step)⟩
      · rw [if_neg c12] at H
        have c12b0 : decide (0 < a1) = false := decide_eq_false c12
        clear c12
        (first | rw [c12b0] | (simp only [i64_w, i32_w]; rw [c12b0]) | skip)
        have H' := Aside0.mk H
        clear H
        go_wp2
        go_meet
        case rel => exact ⟨_, (false), (by first | rfl | (simp; done) | (simp [*]; done)), H', ⟨by first | omega | exact Nat.le_refl _⟩, by repeat (first | exact Drawn0.refl _ | apply Drawn0.step)⟩
    case rest =>
      clear HC11
      try clear c1
      try clear p2
      try clear c4
      try clear c5
      try clear p6
      try clear c7
      try clear c7b0
      try clear c8
      try clear c9
      try clear c9b0
      try clear c10
      try clear c10b0
      try clear c12
      try clear c12b0
      try clear p2
      try clear p6
      obtain ⟨kq, x45_10, rfl, HA, HJ10, ⟨mc10, rfl⟩⟩ := hcut
      cases kq with
      | zero => exact absurd HA.out (by simp [bodkinref02_within.j1])
      | succ kj10 =>
        have H := HA.out
        clear HA
        simp only [bodkinref02_within.j1] at H
        by_cases c13 : x45_10 = true
        · subst c13
          have H1 : (some a2) = some r := by rw [if_pos rfl] at H; exact H
          clear H
          have H := H1
          clear H1
          obtain rfl := Option.some.inj H
          go_wp2
          go_ret
          exact ⟨by first | rfl | (simp; done) | (simp [*]; done), by repeat (first | exact Drawn0.refl _ | apply Drawn0.step)⟩
        · replace c13 := Bool.eq_false_iff.mpr c13
          subst c13
          have H1 : (if a1 < 0 then (if a0 < (wrap64 ((wrap64 ((wrap64 (-a2)) - 1)) - a1)) then (some (wrap64 ((wrap64 (-a2)) - 1))) else (some (wrap64 (a0 + a1)))) else (some (wrap64 (a0 + a1)))) = some r := by rw [if_neg (show ¬ (false = true) by decide)] at H; exact H
          clear H
          have H := H1
          clear H1
          by_cases c14 : a1 < 0
          · rw [if_pos c14] at H
            have c14b0 : decide (a1 < 0) = true := decide_eq_true c14
            clear c14
            by_cases c15 : a0 < (wrap64 ((wrap64 ((wrap64 (-a2)) - 1)) - a1))
            · rw [if_pos c15] at H
              have c15b0 : decide (a0 < (wrap64 ((wrap64 ((wrap64 (-a2)) - 1)) - a1))) = true := decide_eq_true c15
              clear c15
              obtain rfl := Option.some.inj H
              go_wp2
              go_ret
              exact ⟨by first | rfl | (simp; done) | (simp [*]; done), by repeat (first | exact Drawn0.refl _ | apply Drawn0.step)⟩
            · rw [if_neg c15] at H
              have c15b0 : decide (a0 < (wrap64 ((wrap64 ((wrap64 (-a2)) - 1)) - a1))) = false := decide_eq_false c15
              clear c15
              obtain rfl := Option.some.inj H
              go_wp2
              go_ret
              exact ⟨by first | rfl | (simp; done) | (simp [*]; done), by repeat (first | exact Drawn0.refl _ | apply Drawn0.step)⟩
          · rw [if_neg c14] at H
            have c14b0 : decide (a1 < 0) = false := decide_eq_false c14
            clear c14
            obtain rfl := Option.some.inj H
            go_wp2
            go_ret
            exact ⟨by first | rfl | (simp; done) | (simp [*]; done), by repeat (first | exact Drawn0.refl _ | apply Drawn0.step)⟩

end Go.Proofs.YtajmjmnlapplaaaDoor.PInts

namespace Go.Proofs.YtajmjmnlapplaaaDoor.PInts
open Go.RowKit Go.Proofs.YtajmjmnlapplaaaDoorW.PrintWords Go.Proofs.YtajmjmnlapplaaaDoorW.PrintLast Go.Proofs.YtajmjmnlapplaaaDoorW.PrintMore
attribute [local go_sem] max2_int min2_int max_two min_two max_three min_three max_four min_four   -- for this text's walks alone
set_option linter.unusedVariables false
set_option linter.unusedSimpArgs false

/-! ### bodkinref02_held: function 37 -/
mutual
def bodkinref02_held.j0 : Nat → Int → Int → Int → Int → Int → Int → Int → Int → Bool → Option (Int)
  | 0, _, _, _, _, _, _, _, _, _ => none
  | k + 1, x0, x1, x2, x3, x4, x5, x13, x20, x21 => if x21 = true then ((bodkinref02_within.f k x4 x5 x13 (x1 == 18)).bind fun t181 => ((bodkinref02_Cut.f k x0 (IntKind.u64.wrap (t181))).bind fun t182 => (some t182))) else (if x20 = 17 then ((bodkinref02_Cut.f k x0 18446744073709551615).bind fun t183 => (if x2 > (IntKind.u64.wrap (t183 - x3)) then ((bodkinref02_Cut.f k x0 18446744073709551615).bind fun t184 => (some t184)) else (some (IntKind.u64.wrap (x2 + x3))))) else (if x20 = 19 then (if x2 < x3 then (some 0) else (some (IntKind.u64.wrap (x2 - x3)))) else (if x20 = 20 then (bodkinref02_held.j1 k x0 x1 x2 x3 x4 x5 x13 x20 (x20 == 20)) else (bodkinref02_held.j1 k x0 x1 x2 x3 x4 x5 x13 x20 (x20 == 22)))))
def bodkinref02_held.j1 : Nat → Int → Int → Int → Int → Int → Int → Int → Int → Bool → Option (Int)
  | 0, _, _, _, _, _, _, _, _, _ => none
  | k + 1, x0, x1, x2, x3, x4, x5, x13, x20, x54 => if x54 = true then (if ((decide (x4 < x5)) == (x1 == 20)) = true then (some x2) else (some x3)) else (if x20 = 21 then (bodkinref02_held.j2 k x0 x1 x2 x3 x4 x5 x13 x20 (x20 == 21)) else (bodkinref02_held.j2 k x0 x1 x2 x3 x4 x5 x13 x20 (x20 == 23)))
def bodkinref02_held.j2 : Nat → Int → Int → Int → Int → Int → Int → Int → Int → Bool → Option (Int)
  | 0, _, _, _, _, _, _, _, _, _ => none
  | k + 1, x0, x1, x2, x3, x4, x5, x13, x20, x65 => if x65 = true then (if ((decide (x2 < x3)) == (x1 == 21)) = true then (some x2) else (some x3)) else (if x20 = 24 then (some (IntKind.u64.wrap ((IntKind.u64.wrap ((IntKind.u64.wrap (Int.tdiv x2 2)) + (IntKind.u64.wrap (Int.tdiv x3 2)))) + (IntKind.u64.wrap (Int.tdiv (IntKind.u64.wrap ((IntKind.u64.wrap ((Int.tmod x2 2) + (Int.tmod x3 2))) + 1)) 2))))) else (if (Int.tmod (wrap64 ((wrap64 (x4 * x5)) + 16384)) 32768) < 0 then (bodkinref02_held.j3 k x0 x13 (wrap64 ((wrap64 (Int.tdiv (wrap64 ((wrap64 (x4 * x5)) + 16384)) 32768)) - 1))) else (bodkinref02_held.j3 k x0 x13 (wrap64 (Int.tdiv (wrap64 ((wrap64 (x4 * x5)) + 16384)) 32768)))))
def bodkinref02_held.j3 : Nat → Int → Int → Int → Option (Int)
  | 0, _, _, _ => none
  | k + 1, x0, x13, x15 => if x15 > x13 then ((bodkinref02_Cut.f k x0 (IntKind.u64.wrap (x13))).bind fun t185 => (some t185)) else ((bodkinref02_Cut.f k x0 (IntKind.u64.wrap (x15))).bind fun t186 => (some t186))
end
def bodkinref02_held.f (k : Nat) (a0 : Int) (a1 : Int) (a2 : Int) (a3 : Int) (a4 : Int) (a5 : Int) : Option (Int) := (bodkinref02_Cut.f k a0 18446744073709551615).bind fun t180 => (if a1 = 16 then (bodkinref02_held.j0 k a0 a1 a2 a3 a4 a5 (wrap64 (IntKind.u64.wrap (Int.tdiv t180 2))) a1 (a1 == 16)) else (bodkinref02_held.j0 k a0 a1 a2 a3 a4 a5 (wrap64 (IntKind.u64.wrap (Int.tdiv t180 2))) a1 (a1 == 18)))
theorem bodkinref02_held.mono_l : ∀ k, (∀ y0 y1 y2 y3 y4 y5 y6 y7 y8, LeO (bodkinref02_held.j0 k y0 y1 y2 y3 y4 y5 y6 y7 y8) (bodkinref02_held.j0 (k + 1) y0 y1 y2 y3 y4 y5 y6 y7 y8)) ∧ (∀ y0 y1 y2 y3 y4 y5 y6 y7 y8, LeO (bodkinref02_held.j1 k y0 y1 y2 y3 y4 y5 y6 y7 y8) (bodkinref02_held.j1 (k + 1) y0 y1 y2 y3 y4 y5 y6 y7 y8)) ∧ (∀ y0 y1 y2 y3 y4 y5 y6 y7 y8, LeO (bodkinref02_held.j2 k y0 y1 y2 y3 y4 y5 y6 y7 y8) (bodkinref02_held.j2 (k + 1) y0 y1 y2 y3 y4 y5 y6 y7 y8)) ∧ (∀ y0 y1 y2, LeO (bodkinref02_held.j3 k y0 y1 y2) (bodkinref02_held.j3 (k + 1) y0 y1 y2)) := by
  intro k
  induction k with
  | zero => exact ⟨fun _ _ _ _ _ _ _ _ _ r h => by simp [bodkinref02_held.j0] at h, fun _ _ _ _ _ _ _ _ _ r h => by simp [bodkinref02_held.j1] at h, fun _ _ _ _ _ _ _ _ _ r h => by simp [bodkinref02_held.j2] at h, fun _ _ _ r h => by simp [bodkinref02_held.j3] at h⟩
  | succ k ih =>
    obtain ⟨ih0, ih1, ih2, ih3⟩ := ih
    refine ⟨?_, ?_, ?_, ?_⟩
    · intro y0 y1 y2 y3 y4 y5 y6 y7 y8
      unfold bodkinref02_held.j0
      repeat' first
      | (with_reducible exact ih0 _ _ _ _ _ _ _ _ _)
      | (with_reducible exact ih1 _ _ _ _ _ _ _ _ _)
      | (with_reducible exact ih2 _ _ _ _ _ _ _ _ _)
      | (with_reducible exact ih3 _ _ _)
      | (with_reducible exact bodkinref02_Cut.mono _ _ _)
      | (with_reducible exact bodkinref02_within.mono _ _ _ _ _)
      | (with_reducible exact LeO.refl _)
      | (with_reducible exact LeO.none _)
      | (with_reducible refine LeO.ite ?_ ?_)
      | (with_reducible refine LeO.bind ?_ (fun _ => ?_))
      | exact ih0 _ _ _ _ _ _ _ _ _
      | exact ih1 _ _ _ _ _ _ _ _ _
      | exact ih2 _ _ _ _ _ _ _ _ _
      | exact ih3 _ _ _
      | exact bodkinref02_Cut.mono _ _ _
      | exact bodkinref02_within.mono _ _ _ _ _
      | exact LeO.none _
      | refine LeO.ite ?_ ?_
      | refine LeO.bind ?_ (fun _ => ?_)
    · intro y0 y1 y2 y3 y4 y5 y6 y7 y8
      unfold bodkinref02_held.j1
      repeat' first
      | (with_reducible exact ih0 _ _ _ _ _ _ _ _ _)
      | (with_reducible exact ih1 _ _ _ _ _ _ _ _ _)
      | (with_reducible exact ih2 _ _ _ _ _ _ _ _ _)
      | (with_reducible exact ih3 _ _ _)
      | (with_reducible exact bodkinref02_Cut.mono _ _ _)
      | (with_reducible exact bodkinref02_within.mono _ _ _ _ _)
      | (with_reducible exact LeO.refl _)
      | (with_reducible exact LeO.none _)
      | (with_reducible refine LeO.ite ?_ ?_)
      | (with_reducible refine LeO.bind ?_ (fun _ => ?_))
      | exact ih0 _ _ _ _ _ _ _ _ _
      | exact ih1 _ _ _ _ _ _ _ _ _
      | exact ih2 _ _ _ _ _ _ _ _ _
      | exact ih3 _ _ _
      | exact bodkinref02_Cut.mono _ _ _
      | exact bodkinref02_within.mono _ _ _ _ _
      | exact LeO.none _
      | refine LeO.ite ?_ ?_
      | refine LeO.bind ?_ (fun _ => ?_)
    · intro y0 y1 y2 y3 y4 y5 y6 y7 y8
      unfold bodkinref02_held.j2
      repeat' first
      | (with_reducible exact ih0 _ _ _ _ _ _ _ _ _)
      | (with_reducible exact ih1 _ _ _ _ _ _ _ _ _)
      | (with_reducible exact ih2 _ _ _ _ _ _ _ _ _)
      | (with_reducible exact ih3 _ _ _)
      | (with_reducible exact bodkinref02_Cut.mono _ _ _)
      | (with_reducible exact bodkinref02_within.mono _ _ _ _ _)
      | (with_reducible exact LeO.refl _)
      | (with_reducible exact LeO.none _)
      | (with_reducible refine LeO.ite ?_ ?_)
      | (with_reducible refine LeO.bind ?_ (fun _ => ?_))
      | exact ih0 _ _ _ _ _ _ _ _ _
      | exact ih1 _ _ _ _ _ _ _ _ _
      | exact ih2 _ _ _ _ _ _ _ _ _
      | exact ih3 _ _ _
      | exact bodkinref02_Cut.mono _ _ _
      | exact bodkinref02_within.mono _ _ _ _ _
      | exact LeO.none _
      | refine LeO.ite ?_ ?_
      | refine LeO.bind ?_ (fun _ => ?_)
    · intro y0 y1 y2
      unfold bodkinref02_held.j3
      repeat' first
      | (with_reducible exact ih0 _ _ _ _ _ _ _ _ _)
      | (with_reducible exact ih1 _ _ _ _ _ _ _ _ _)
      | (with_reducible exact ih2 _ _ _ _ _ _ _ _ _)
      | (with_reducible exact ih3 _ _ _)
      | (with_reducible exact bodkinref02_Cut.mono _ _ _)
      | (with_reducible exact bodkinref02_within.mono _ _ _ _ _)
      | (with_reducible exact LeO.refl _)
      | (with_reducible exact LeO.none _)
      | (with_reducible refine LeO.ite ?_ ?_)
      | (with_reducible refine LeO.bind ?_ (fun _ => ?_))
      | exact ih0 _ _ _ _ _ _ _ _ _
      | exact ih1 _ _ _ _ _ _ _ _ _
      | exact ih2 _ _ _ _ _ _ _ _ _
      | exact ih3 _ _ _
      | exact bodkinref02_Cut.mono _ _ _
      | exact bodkinref02_within.mono _ _ _ _ _
      | exact LeO.none _
      | refine LeO.ite ?_ ?_
      | refine LeO.bind ?_ (fun _ => ?_)
theorem bodkinref02_held.mono : ∀ a0 a1 a2 a3 a4 a5 k, LeO (bodkinref02_held.f k a0 a1 a2 a3 a4 a5) (bodkinref02_held.f (k + 1) a0 a1 a2 a3 a4 a5) := by
  intro a0 a1 a2 a3 a4 a5 k
  obtain ⟨ih0, ih1, ih2, ih3⟩ := bodkinref02_held.mono_l k
  unfold bodkinref02_held.f
  repeat' first
      | (with_reducible exact ih0 _ _ _ _ _ _ _ _ _)
      | (with_reducible exact ih1 _ _ _ _ _ _ _ _ _)
      | (with_reducible exact ih2 _ _ _ _ _ _ _ _ _)
      | (with_reducible exact ih3 _ _ _)
      | (with_reducible exact bodkinref02_Cut.mono _ _ _)
      | (with_reducible exact bodkinref02_within.mono _ _ _ _ _)
      | (with_reducible exact LeO.refl _)
      | (with_reducible exact LeO.none _)
      | (with_reducible refine LeO.ite ?_ ?_)
      | (with_reducible refine LeO.bind ?_ (fun _ => ?_))
      | exact ih0 _ _ _ _ _ _ _ _ _
      | exact ih1 _ _ _ _ _ _ _ _ _
      | exact ih2 _ _ _ _ _ _ _ _ _
      | exact ih3 _ _ _
      | exact bodkinref02_Cut.mono _ _ _
      | exact bodkinref02_within.mono _ _ _ _ _
      | exact LeO.none _
      | refine LeO.ite ?_ ?_
      | refine LeO.bind ?_ (fun _ => ?_)
set_option maxHeartbeats 8000000 in
set_option maxRecDepth 100000 in
theorem bodkinref02_held.calls (k : Nat) (a0 : Int) (a1 : Int) (a2 : Int) (a3 : Int) (a4 : Int) (a5 : Int) (r : Int) (w : World) (h : bodkinref02_held.f k a0 a1 a2 a3 a4 a5 = some r) :
    Calls Tryd.prog 37 #[.int .i64 a0, .int .i64 a1, .int .u64 a2, .int .u64 a3, .int .i64 a4, .int .i64 a5] w fun e w' => e = .returned (.int .u64 r) ∧ Drawn0 w w' := by
  have H : ((bodkinref02_Cut.f k a0 18446744073709551615).bind fun t180 => (if a1 = 16 then (bodkinref02_held.j0 k a0 a1 a2 a3 a4 a5 (wrap64 (IntKind.u64.wrap (Int.tdiv t180 2))) a1 (a1 == 16)) else (bodkinref02_held.j0 k a0 a1 a2 a3 a4 a5 (wrap64 (IntKind.u64.wrap (Int.tdiv t180 2))) a1 (a1 == 18)))) = some r := h
  clear h
  replace H := Option.bind_eq_some_iff.mp H
  obtain ⟨t180, A70, H⟩ := H
  replace H : (if a1 = 16 then (bodkinref02_held.j0 k a0 a1 a2 a3 a4 a5 (wrap64 (IntKind.u64.wrap (Int.tdiv t180 2))) a1 (a1 == 16)) else (bodkinref02_held.j0 k a0 a1 a2 a3 a4 a5 (wrap64 (IntKind.u64.wrap (Int.tdiv t180 2))) a1 (a1 == 18))) = some r := H
  have A7 := Aside0.mk A70
  clear A70
  have HC8 := Aside0.mk H
  clear H
  go_enter Tryd.func37, Tryd.ntmps37
  go_upto_if 21 with (first | ((with_reducible refine gate_callee (f := 24) rfl ?_); refine goesL_ (some 17) rfl rfl Tryd.func24 (by kernel_rfl) rfl #[.int .i64 a0, .int .u64 18446744073709551615] rfl (by (try simp only [List.map_toArray, List.map_cons, List.map_nil]); first | done | rfl | (simp only [List.length_drop, List.length_take]; rfl)) ?_; (with_reducible refine (bodkinref02_Cut.calls k a0 18446744073709551615 t180 _ A7.out).mono ?_); rintro e w' ⟨rfl, ⟨nd, rfl⟩⟩; refine ⟨_, rfl, ?_⟩))
  (try simp only [Act.put, List.setIfInBounds_toArray, List.set_cons_zero, List.set_cons_succ])
  go_cut [21] (fun v21 wc => ∃ (kq : Nat) (x21_7 : Bool), v21 = .bool x21_7 ∧ Aside0 (bodkinref02_held.j0 kq a0 a1 a2 a3 a4 a5 (wrap64 (IntKind.u64.wrap (Int.tdiv t180 2))) a1 x21_7 = some r) ∧ Aside0 (kq ≤ k) ∧ Drawn0 w wc)
  case first =>
    have H := HC8.out
    clear HC8
    by_cases c9 : a1 = 16
    · rw [if_pos c9] at H
      have c9b0 : (a1 == 16) = true := beq_iff_eq.mpr c9
      have c9b1 : (a1 != 16) = false := bne_eq_false_iff_eq.mpr c9
      clear c9
      (first | rw [c9b0] | (simp only [i64_w, i32_w]; rw [c9b0]) | skip)
      have H' := Aside0.mk H
      clear H
      go_wp2
      go_meet
      case rel => exact ⟨_, ((a1 == 16)), (by first | rfl | (simp; done) | (simp [*]; done)), H', ⟨by first | omega | exact Nat.le_refl _⟩, by repeat (first | exact Drawn0.refl _ | apply Drawn0.step)⟩
    · rw [if_neg c9] at H
      have c9b0 : (a1 == 16) = false := beq_eq_false_iff_ne.mpr c9
      have c9b1 : (a1 != 16) = true := bne_iff_ne.mpr c9
      (first | rw [c9b0] | (simp only [i64_w, i32_w]; rw [c9b0]) | skip)
      have H' := Aside0.mk H
      clear H
      go_wp2
      go_meet
      case rel => exact ⟨_, ((a1 == 18)), (by first | rfl | (simp; done) | (simp [*]; done)), H', ⟨by first | omega | exact Nat.le_refl _⟩, by repeat (first | exact Drawn0.refl _ | apply Drawn0.step)⟩
  case rest =>
    clear HC8
    try clear c2
    try clear p2
    try clear c3
    try clear p6
    try clear c9
    try clear c9b0
    try clear c9b1
    obtain ⟨kq, x21_7, rfl, HA, HJ7, ⟨mc7, rfl⟩⟩ := hcut
    cases kq with
    | zero => exact absurd HA.out (by simp [bodkinref02_held.j0])
    | succ kj7 =>
      have H := HA.out
      clear HA
      simp only [bodkinref02_held.j0] at H
      by_cases c10 : x21_7 = true
      · subst c10
        have H1 : ((bodkinref02_within.f kj7 a4 a5 (wrap64 (IntKind.u64.wrap (Int.tdiv t180 2))) (a1 == 18)).bind fun t181 => ((bodkinref02_Cut.f kj7 a0 (IntKind.u64.wrap (t181))).bind fun t182 => (some t182))) = some r := by rw [if_pos rfl] at H; exact H
        clear H
        have H := H1
        clear H1
        replace H := Option.bind_eq_some_iff.mp H
        obtain ⟨t181, A110, H⟩ := H
        replace H : ((bodkinref02_Cut.f kj7 a0 (IntKind.u64.wrap (t181))).bind fun t182 => (some t182)) = some r := H
        have A11 := Aside0.mk A110
        clear A110
        replace H := Option.bind_eq_some_iff.mp H
        obtain ⟨t182, A120, H⟩ := H
        replace H : (some t182) = some r := H
        have A12 := Aside0.mk A120
        clear A120
        obtain rfl := Option.some.inj H
        go_wp2_with (first | ((with_reducible refine gate_callee (f := 44) rfl ?_); refine goesL_ (some 30) rfl rfl Tryd.func44 (by kernel_rfl) rfl #[.int .i64 a4, .int .i64 a5, .int .i64 (wrap64 (IntKind.u64.wrap (Int.tdiv t180 2))), .bool (a1 == 18)] rfl (by (try simp only [List.map_toArray, List.map_cons, List.map_nil]); first | done | rfl | (simp only [List.length_drop, List.length_take]; rfl)) ?_; (with_reducible refine (bodkinref02_within.calls kj7 a4 a5 (wrap64 (IntKind.u64.wrap (Int.tdiv t180 2))) (a1 == 18) t181 _ A11.out).mono ?_); rintro e w' ⟨rfl, ⟨nd, rfl⟩⟩; refine ⟨_, rfl, ?_⟩) | ((with_reducible refine gate_callee (f := 24) rfl ?_); refine goesL_ (some 32) rfl rfl Tryd.func24 (by kernel_rfl) rfl #[.int .i64 a0, .int .u64 (IntKind.u64.wrap (t181))] rfl (by (try simp only [List.map_toArray, List.map_cons, List.map_nil]); first | done | rfl | (simp only [List.length_drop, List.length_take]; rfl)) ?_; (with_reducible refine (bodkinref02_Cut.calls kj7 a0 (IntKind.u64.wrap (t181)) t182 _ A12.out).mono ?_); rintro e w' ⟨rfl, ⟨nd, rfl⟩⟩; refine ⟨_, rfl, ?_⟩))
        go_ret
        exact ⟨by first | rfl | (simp; done) | (simp [*]; done), by repeat (first | exact Drawn0.refl _ | apply Drawn0.step)⟩
      · replace c10 := Bool.eq_false_iff.mpr c10
        subst c10
        have H1 : (if a1 = 17 then ((bodkinref02_Cut.f kj7 a0 18446744073709551615).bind fun t183 => (if a2 > (IntKind.u64.wrap (t183 - a3)) then ((bodkinref02_Cut.f kj7 a0 18446744073709551615).bind fun t184 => (some t184)) else (some (IntKind.u64.wrap (a2 + a3))))) else (if a1 = 19 then (if a2 < a3 then (some 0) else (some (IntKind.u64.wrap (a2 - a3)))) else (if a1 = 20 then (bodkinref02_held.j1 kj7 a0 a1 a2 a3 a4 a5 (wrap64 (IntKind.u64.wrap (Int.tdiv t180 2))) a1 (a1 == 20)) else (bodkinref02_held.j1 kj7 a0 a1 a2 a3 a4 a5 (wrap64 (IntKind.u64.wrap (Int.tdiv t180 2))) a1 (a1 == 22))))) = some r := by rw [if_neg (show ¬ (false = true) by decide)] at H; exact H
        clear H
        have H := H1
        clear H1
        by_cases c13 : a1 = 17
        · rw [if_pos c13] at H
          have c13b0 : (a1 == 17) = true := beq_iff_eq.mpr c13
          have c13b1 : (a1 != 17) = false := bne_eq_false_iff_eq.mpr c13
          clear c13
          replace H := Option.bind_eq_some_iff.mp H
          obtain ⟨t183, A140, H⟩ := H
          replace H : (if a2 > (IntKind.u64.wrap (t183 - a3)) then ((bodkinref02_Cut.f kj7 a0 18446744073709551615).bind fun t184 => (some t184)) else (some (IntKind.u64.wrap (a2 + a3)))) = some r := H
          have A14 := Aside0.mk A140
          clear A140
          by_cases c15 : a2 > (IntKind.u64.wrap (t183 - a3))
          · rw [if_pos c15] at H
            have c15b0 : decide ((IntKind.u64.wrap (t183 - a3)) < a2) = true := decide_eq_true c15
            clear c15
            replace H := Option.bind_eq_some_iff.mp H
            obtain ⟨t184, A160, H⟩ := H
            replace H : (some t184) = some r := H
            have A16 := Aside0.mk A160
            clear A160
            obtain rfl := Option.some.inj H
            go_wp2_with (first | ((with_reducible refine gate_callee (f := 24) rfl ?_); refine goesL_ (some 37) rfl rfl Tryd.func24 (by kernel_rfl) rfl #[.int .i64 a0, .int .u64 18446744073709551615] rfl (by (try simp only [List.map_toArray, List.map_cons, List.map_nil]); first | done | rfl | (simp only [List.length_drop, List.length_take]; rfl)) ?_; (with_reducible refine (bodkinref02_Cut.calls kj7 a0 18446744073709551615 t183 _ A14.out).mono ?_); rintro e w' ⟨rfl, ⟨nd, rfl⟩⟩; refine ⟨_, rfl, ?_⟩) | ((with_reducible refine gate_callee (f := 24) rfl ?_); refine goesL_ (some 42) rfl rfl Tryd.func24 (by kernel_rfl) rfl #[.int .i64 a0, .int .u64 18446744073709551615] rfl (by (try simp only [List.map_toArray, List.map_cons, List.map_nil]); first | done | rfl | (simp only [List.length_drop, List.length_take]; rfl)) ?_; (with_reducible refine (bodkinref02_Cut.calls kj7 a0 18446744073709551615 t184 _ A16.out).mono ?_); rintro e w' ⟨rfl, ⟨nd, rfl⟩⟩; refine ⟨_, rfl, ?_⟩))
            go_ret
            exact ⟨by first | rfl | (simp; done) | (simp [*]; done), by repeat (first | exact Drawn0.refl _ | apply Drawn0.step)⟩
          · rw [if_neg c15] at H
            have c15b0 : decide ((IntKind.u64.wrap (t183 - a3)) < a2) = false := decide_eq_false c15
            clear c15
            obtain rfl := Option.some.inj H
            go_wp2_with (first | ((with_reducible refine gate_callee (f := 24) rfl ?_); refine goesL_ (some 37) rfl rfl Tryd.func24 (by kernel_rfl) rfl #[.int .i64 a0, .int .u64 18446744073709551615] rfl (by (try simp only [List.map_toArray, List.map_cons, List.map_nil]); first | done | rfl | (simp only [List.length_drop, List.length_take]; rfl)) ?_; (with_reducible refine (bodkinref02_Cut.calls kj7 a0 18446744073709551615 t183 _ A14.out).mono ?_); rintro e w' ⟨rfl, ⟨nd, rfl⟩⟩; refine ⟨_, rfl, ?_⟩))
            go_ret
            exact ⟨by first | rfl | (simp; done) | (simp [*]; done), by repeat (first | exact Drawn0.refl _ | apply Drawn0.step)⟩
        · rw [if_neg c13] at H
          have c13b0 : (a1 == 17) = false := beq_eq_false_iff_ne.mpr c13
          have c13b1 : (a1 != 17) = true := bne_iff_ne.mpr c13
          by_cases c17 : a1 = 19
          · rw [if_pos c17] at H
            have c17b0 : (a1 == 19) = true := beq_iff_eq.mpr c17
            have c17b1 : (a1 != 19) = false := bne_eq_false_iff_eq.mpr c17
            clear c17
            by_cases c18 : a2 < a3
            · rw [if_pos c18] at H
              have c18b0 : decide (a2 < a3) = true := decide_eq_true c18
              clear c18
              obtain rfl := Option.some.inj H
              go_wp2
              go_ret
              exact ⟨by first | rfl | (simp; done) | (simp [*]; done), by repeat (first | exact Drawn0.refl _ | apply Drawn0.step)⟩
            · rw [if_neg c18] at H
              have c18b0 : decide (a2 < a3) = false := decide_eq_false c18
              clear c18
              obtain rfl := Option.some.inj H
              go_wp2
              go_ret
              exact ⟨by first | rfl | (simp; done) | (simp [*]; done), by repeat (first | exact Drawn0.refl _ | apply Drawn0.step)⟩
          · rw [if_neg c17] at H
            have c17b0 : (a1 == 19) = false := beq_eq_false_iff_ne.mpr c17
            have c17b1 : (a1 != 19) = true := bne_iff_ne.mpr c17
            have HC19 := Aside0.mk H
            clear H
            go_upto_if 54 with (fail)
            go_cut [54] (fun v54 wc => ∃ (kq : Nat) (x54_18 : Bool), v54 = .bool x54_18 ∧ Aside0 (bodkinref02_held.j1 kq a0 a1 a2 a3 a4 a5 (wrap64 (IntKind.u64.wrap (Int.tdiv t180 2))) a1 x54_18 = some r) ∧ Aside0 (kq ≤ kj7) ∧ Drawn0 w wc)
            case first =>
              have H := HC19.out
              clear HC19
              by_cases c20 : a1 = 20
              · rw [if_pos c20] at H
                have c20b0 : (a1 == 20) = true := beq_iff_eq.mpr c20
                have c20b1 : (a1 != 20) = false := bne_eq_false_iff_eq.mpr c20
                clear c20
                (first | rw [c20b0] | (simp only [i64_w, i32_w]; rw [c20b0]) | skip)
                have H' := Aside0.mk H
                clear H
                go_wp2
                go_meet
                case rel => exact ⟨_, ((a1 == 20)), (by first | rfl | (simp; done) | (simp [*]; done)), H', ⟨by have := HJ7.out; first | omega | exact Nat.le_refl _⟩, by repeat (first | exact Drawn0.refl _ | apply Drawn0.step)⟩
              · rw [if_neg c20] at H
                have c20b0 : (a1 == 20) = false := beq_eq_false_iff_ne.mpr c20
                have c20b1 : (a1 != 20) = true := bne_iff_ne.mpr c20
                (first | rw [c20b0] | (simp only [i64_w, i32_w]; rw [c20b0]) | skip)
                have H' := Aside0.mk H
                clear H
                go_wp2
                go_meet
                case rel => exact ⟨_, ((a1 == 22)), (by first | rfl | (simp; done) | (simp [*]; done)), H', ⟨by have := HJ7.out; first | omega | exact Nat.le_refl _⟩, by repeat (first | exact Drawn0.refl _ | apply Drawn0.step)⟩
            case rest =>
              clear HC19
              try clear c1
              try clear c2
              try clear p2
              try clear c3
              try clear c4
              try clear p6
              try clear c7
              try clear c9
              try clear c9b0
              try clear c9b1
              try clear c10
              try clear c13
              try clear c13b0
              try clear c13b1
              try clear c15
              try clear c15b0
              try clear c17
              try clear c17b0
              try clear c17b1
              try clear c18
              try clear c18b0
              try clear c20
              try clear c20b0
              try clear c20b1
              try clear p2
              try clear p6
              obtain ⟨kq, x54_18, rfl, HA, HJ18, ⟨mc18, rfl⟩⟩ := hcut
              cases kq with
              | zero => exact absurd HA.out (by simp [bodkinref02_held.j1])
              | succ kj18 =>
                have H := HA.out
                clear HA
                simp only [bodkinref02_held.j1] at H
                by_cases c21 : x54_18 = true
                · subst c21
                  have H1 : (if ((decide (a4 < a5)) == (a1 == 20)) = true then (some a2) else (some a3)) = some r := by rw [if_pos rfl] at H; exact H
                  clear H
                  have H := H1
                  clear H1
                  by_cases c22 : ((decide (a4 < a5)) == (a1 == 20)) = true
                  · rw [if_pos c22] at H
                    have c22b0 : ((decide (a4 < a5)) == (a1 == 20)) = true := c22
                    (try (have c22b1 : decide ((decide (a4 < a5)) = (a1 == 20)) = true := by simpa using c22))
                    (try (have c22b2 : ((decide (a4 < a5)) == (a1 == 20)) = true := by simpa using c22))
                    clear c22
                    obtain rfl := Option.some.inj H
                    go_wp2
                    go_ret
                    exact ⟨by first | rfl | (simp; done) | (simp [*]; done), by repeat (first | exact Drawn0.refl _ | apply Drawn0.step)⟩
                  · rw [if_neg c22] at H
                    have c22b0 : ((decide (a4 < a5)) == (a1 == 20)) = false := by simpa using c22
                    (try (have c22b1 : decide ((decide (a4 < a5)) = (a1 == 20)) = false := by simpa using c22))
                    (try (have c22b2 : ((decide (a4 < a5)) == (a1 == 20)) = false := by simpa using c22))
                    (try (have c22b3 : ¬ ((decide (a4 < a5)) = (a1 == 20)) := by simpa using c22))
                    clear c22
                    obtain rfl := Option.some.inj H
                    go_wp2
                    go_ret
                    exact ⟨by first | rfl | (simp; done) | (simp [*]; done), by repeat (first | exact Drawn0.refl _ | apply Drawn0.step)⟩
                · replace c21 := Bool.eq_false_iff.mpr c21
                  subst c21
                  have H1 : (if a1 = 21 then (bodkinref02_held.j2 kj18 a0 a1 a2 a3 a4 a5 (wrap64 (IntKind.u64.wrap (Int.tdiv t180 2))) a1 (a1 == 21)) else (bodkinref02_held.j2 kj18 a0 a1 a2 a3 a4 a5 (wrap64 (IntKind.u64.wrap (Int.tdiv t180 2))) a1 (a1 == 23))) = some r := by rw [if_neg (show ¬ (false = true) by decide)] at H; exact H
                  clear H
                  have H := H1
                  clear H1
                  have HC23 := Aside0.mk H
                  clear H
                  go_upto_if 65 with (fail)
                  go_cut [65] (fun v65 wc => ∃ (kq : Nat) (x65_22 : Bool), v65 = .bool x65_22 ∧ Aside0 (bodkinref02_held.j2 kq a0 a1 a2 a3 a4 a5 (wrap64 (IntKind.u64.wrap (Int.tdiv t180 2))) a1 x65_22 = some r) ∧ Aside0 (kq ≤ kj18) ∧ Drawn0 w wc)
                  case first =>
                    have H := HC23.out
                    clear HC23
                    by_cases c24 : a1 = 21
                    · rw [if_pos c24] at H
                      have c24b0 : (a1 == 21) = true := beq_iff_eq.mpr c24
                      have c24b1 : (a1 != 21) = false := bne_eq_false_iff_eq.mpr c24
                      clear c24
                      (first | rw [c24b0] | (simp only [i64_w, i32_w]; rw [c24b0]) | skip)
                      have H' := Aside0.mk H
                      clear H
                      go_wp2
                      go_meet
                      case rel => exact ⟨_, ((a1 == 21)), (by first | rfl | (simp; done) | (simp [*]; done)), H', ⟨by have := HJ7.out; have := HJ18.out; first | omega | exact Nat.le_refl _⟩, by repeat (first | exact Drawn0.refl _ | apply Drawn0.step)⟩
                    · rw [if_neg c24] at H
                      have c24b0 : (a1 == 21) = false := beq_eq_false_iff_ne.mpr c24
                      have c24b1 : (a1 != 21) = true := bne_iff_ne.mpr c24
                      (first | rw [c24b0] | (simp only [i64_w, i32_w]; rw [c24b0]) | skip)
                      have H' := Aside0.mk H
                      clear H
                      go_wp2
                      go_meet
                      case rel => exact ⟨_, ((a1 == 23)), (by first | rfl | (simp; done) | (simp [*]; done)), H', ⟨by have := HJ7.out; have := HJ18.out; first | omega | exact Nat.le_refl _⟩, by repeat (first | exact Drawn0.refl _ | apply Drawn0.step)⟩
                  case rest =>
                    clear HC23
                    try clear c1
                    try clear c2
                    try clear p2
                    try clear c3
                    try clear c4
                    try clear p6
                    try clear c7
                    try clear c9
                    try clear c9b0
                    try clear c9b1
                    try clear c10
                    try clear c13
                    try clear c13b0
                    try clear c13b1
                    try clear c15
                    try clear c15b0
                    try clear c17
                    try clear c17b0
                    try clear c17b1
                    try clear c18
                    try clear c18b0
                    try clear c20
                    try clear c20b0
                    try clear c20b1
                    try clear c21
                    try clear c22
                    try clear c22b0
                    try clear c22b1
                    try clear c22b2
                    try clear c24
                    try clear c24b0
                    try clear c24b1
                    try clear p2
                    try clear p6
                    obtain ⟨kq, x65_22, rfl, HA, HJ22, ⟨mc22, rfl⟩⟩ := hcut
                    cases kq with
                    | zero => exact absurd HA.out (by simp [bodkinref02_held.j2])
                    | succ kj22 =>
                      have H := HA.out
                      clear HA
                      simp only [bodkinref02_held.j2] at H
                      by_cases c25 : x65_22 = true
                      · subst c25
                        have H1 : (if ((decide (a2 < a3)) == (a1 == 21)) = true then (some a2) else (some a3)) = some r := by rw [if_pos rfl] at H; exact H
                        clear H
                        have H := H1
                        clear H1
                        by_cases c26 : ((decide (a2 < a3)) == (a1 == 21)) = true
                        · rw [if_pos c26] at H
                          have c26b0 : ((decide (a2 < a3)) == (a1 == 21)) = true := c26
                          (try (have c26b1 : decide ((decide (a2 < a3)) = (a1 == 21)) = true := by simpa using c26))
                          (try (have c26b2 : ((decide (a2 < a3)) == (a1 == 21)) = true := by simpa using c26))
                          clear c26
                          obtain rfl := Option.some.inj H
                          go_wp2
                          go_ret
                          exact ⟨by first | rfl | (simp; done) | (simp [*]; done), by repeat (first | exact Drawn0.refl _ | apply Drawn0.step)⟩
                        · rw [if_neg c26] at H
                          have c26b0 : ((decide (a2 < a3)) == (a1 == 21)) = false := by simpa using c26
                          (try (have c26b1 : decide ((decide (a2 < a3)) = (a1 == 21)) = false := by simpa using c26))
                          (try (have c26b2 : ((decide (a2 < a3)) == (a1 == 21)) = false := by simpa using c26))
                          (try (have c26b3 : ¬ ((decide (a2 < a3)) = (a1 == 21)) := by simpa using c26))
                          clear c26
                          obtain rfl := Option.some.inj H
                          go_wp2
                          go_ret
                          exact ⟨by first | rfl | (simp; done) | (simp [*]; done), by repeat (first | exact Drawn0.refl _ | apply Drawn0.step)⟩
                      · replace c25 := Bool.eq_false_iff.mpr c25
                        subst c25
                        have H1 : (if a1 = 24 then (some (IntKind.u64.wrap ((IntKind.u64.wrap ((IntKind.u64.wrap (Int.tdiv a2 2)) + (IntKind.u64.wrap (Int.tdiv a3 2)))) + (IntKind.u64.wrap (Int.tdiv (IntKind.u64.wrap ((IntKind.u64.wrap ((Int.tmod a2 2) + (Int.tmod a3 2))) + 1)) 2))))) else (if (Int.tmod (wrap64 ((wrap64 (a4 * a5)) + 16384)) 32768) < 0 then (bodkinref02_held.j3 kj22 a0 (wrap64 (IntKind.u64.wrap (Int.tdiv t180 2))) (wrap64 ((wrap64 (Int.tdiv (wrap64 ((wrap64 (a4 * a5)) + 16384)) 32768)) - 1))) else (bodkinref02_held.j3 kj22 a0 (wrap64 (IntKind.u64.wrap (Int.tdiv t180 2))) (wrap64 (Int.tdiv (wrap64 ((wrap64 (a4 * a5)) + 16384)) 32768))))) = some r := by rw [if_neg (show ¬ (false = true) by decide)] at H; exact H
                        clear H
                        have H := H1
                        clear H1
                        by_cases c27 : a1 = 24
                        · rw [if_pos c27] at H
                          have c27b0 : (a1 == 24) = true := beq_iff_eq.mpr c27
                          have c27b1 : (a1 != 24) = false := bne_eq_false_iff_eq.mpr c27
                          clear c27
                          obtain rfl := Option.some.inj H
                          go_wp2
                          go_ret
                          exact ⟨by first | rfl | (simp; done) | (simp [*]; done), by repeat (first | exact Drawn0.refl _ | apply Drawn0.step)⟩
                        · rw [if_neg c27] at H
                          have c27b0 : (a1 == 24) = false := beq_eq_false_iff_ne.mpr c27
                          have c27b1 : (a1 != 24) = true := bne_iff_ne.mpr c27
                          have HC28 := Aside0.mk H
                          clear H
                          go_upto_if 99 with (fail)
                          go_cut [15] (fun v15 wc => ∃ (kq : Nat) (x15_27 : Int), v15 = .int .i64 x15_27 ∧ Aside0 (bodkinref02_held.j3 kq a0 (wrap64 (IntKind.u64.wrap (Int.tdiv t180 2))) x15_27 = some r) ∧ Aside0 (kq ≤ kj22) ∧ Drawn0 w wc)
                          case first =>
                            have H := HC28.out
                            clear HC28
                            by_cases c29 : (Int.tmod (wrap64 ((wrap64 (a4 * a5)) + 16384)) 32768) < 0
                            · rw [if_pos c29] at H
                              have c29b0 : decide ((Int.tmod (wrap64 ((wrap64 (a4 * a5)) + 16384)) 32768) < 0) = true := decide_eq_true c29
                              clear c29
                              (first | rw [c29b0] | (simp only [i64_w, i32_w]; rw [c29b0]) | skip)
                              have H' := Aside0.mk H
                              clear H
                              go_wp2
                              go_meet
                              case rel => exact ⟨_, (wrap64 ((wrap64 (Int.tdiv (wrap64 ((wrap64 (a4 * a5)) + 16384)) 32768)) - 1)), (by first | rfl | (simp; done) | (simp [*]; done)), H', ⟨by have := HJ7.out; have := HJ18.out; have := HJ22.out; first | omega | exact Nat.le_refl _⟩, by repeat (first | exact Drawn0.refl _ | apply Drawn0.step)⟩
                            · rw [if_neg c29] at H
                              have c29b0 : decide ((Int.tmod (wrap64 ((wrap64 (a4 * a5)) + 16384)) 32768) < 0) = false := decide_eq_false c29
                              clear c29
                              (first | rw [c29b0] | (simp only [i64_w, i32_w]; rw [c29b0]) | skip)
                              have H' := Aside0.mk H
                              clear H
                              go_wp2
                              go_meet
                              case rel => exact ⟨_, (wrap64 (Int.tdiv (wrap64 ((wrap64 (a4 * a5)) + 16384)) 32768)), (by first | rfl | (simp; done) | (simp [*]; done)), H', ⟨by have := HJ7.out; have := HJ18.out; have := HJ22.out; first | omega | exact Nat.le_refl _⟩, by repeat (first | exact Drawn0.refl _ | apply Drawn0.step)⟩
                          case rest =>
                            clear HC28
                            try clear c1
                            try clear c2
                            try clear p2
                            try clear c3
                            try clear c4
                            try clear p6
                            try clear c7
                            try clear c9
                            try clear c9b0
                            try clear c9b1
                            try clear c10
                            try clear c13
                            try clear c13b0
                            try clear c13b1
                            try clear c15
                            try clear c15b0
                            try clear c17
                            try clear c17b0
                            try clear c17b1
                            try clear c18
                            try clear c18b0
                            try clear c20
                            try clear c20b0
                            try clear c20b1
                            try clear c21
                            try clear c22
                            try clear c22b0
                            try clear c22b1
                            try clear c22b2
                            try clear c24
                            try clear c24b0
                            try clear c24b1
                            try clear c25
                            try clear c26
                            try clear c26b0
                            try clear c26b1
                            try clear c26b2
                            try clear c27
                            try clear c27b0
                            try clear c27b1
                            try clear c29
                            try clear c29b0
                            try clear p2
                            try clear p6
                            obtain ⟨kq, x15_27, rfl, HA, HJ27, ⟨mc27, rfl⟩⟩ := hcut
                            cases kq with
                            | zero => exact absurd HA.out (by simp [bodkinref02_held.j3])
                            | succ kj27 =>
                              have H := HA.out
                              clear HA
                              simp only [bodkinref02_held.j3] at H
                              by_cases c30 : x15_27 > (wrap64 (IntKind.u64.wrap (Int.tdiv t180 2)))
                              · rw [if_pos c30] at H
                                have c30b0 : decide ((wrap64 (IntKind.u64.wrap (Int.tdiv t180 2))) < x15_27) = true := decide_eq_true c30
                                clear c30
                                replace H := Option.bind_eq_some_iff.mp H
                                obtain ⟨t185, A310, H⟩ := H
                                replace H : (some t185) = some r := H
                                have A31 := Aside0.mk A310
                                clear A310
                                obtain rfl := Option.some.inj H
                                go_wp2_with (first | ((with_reducible refine gate_callee (f := 24) rfl ?_); refine goesL_ (some 109) rfl rfl Tryd.func24 (by kernel_rfl) rfl #[.int .i64 a0, .int .u64 (IntKind.u64.wrap ((wrap64 (IntKind.u64.wrap (Int.tdiv t180 2)))))] rfl (by (try simp only [List.map_toArray, List.map_cons, List.map_nil]); first | done | rfl | (simp only [List.length_drop, List.length_take]; rfl)) ?_; (with_reducible refine (bodkinref02_Cut.calls kj27 a0 (IntKind.u64.wrap ((wrap64 (IntKind.u64.wrap (Int.tdiv t180 2))))) t185 _ A31.out).mono ?_); rintro e w' ⟨rfl, ⟨nd, rfl⟩⟩; refine ⟨_, rfl, ?_⟩))
                                go_ret
                                exact ⟨by first | rfl | (simp; done) | (simp [*]; done), by repeat (first | exact Drawn0.refl _ | apply Drawn0.step)⟩
                              · rw [if_neg c30] at H
                                have c30b0 : decide ((wrap64 (IntKind.u64.wrap (Int.tdiv t180 2))) < x15_27) = false := decide_eq_false c30
                                clear c30
                                replace H := Option.bind_eq_some_iff.mp H
                                obtain ⟨t186, A320, H⟩ := H
                                replace H : (some t186) = some r := H
                                have A32 := Aside0.mk A320
                                clear A320
                                obtain rfl := Option.some.inj H
                                go_wp2_with (first | ((with_reducible refine gate_callee (f := 24) rfl ?_); refine goesL_ (some 109) rfl rfl Tryd.func24 (by kernel_rfl) rfl #[.int .i64 a0, .int .u64 (IntKind.u64.wrap (x15_27))] rfl (by (try simp only [List.map_toArray, List.map_cons, List.map_nil]); first | done | rfl | (simp only [List.length_drop, List.length_take]; rfl)) ?_; (with_reducible refine (bodkinref02_Cut.calls kj27 a0 (IntKind.u64.wrap (x15_27)) t186 _ A32.out).mono ?_); rintro e w' ⟨rfl, ⟨nd, rfl⟩⟩; refine ⟨_, rfl, ?_⟩))
                                go_ret
                                exact ⟨by first | rfl | (simp; done) | (simp [*]; done), by repeat (first | exact Drawn0.refl _ | apply Drawn0.step)⟩

end Go.Proofs.YtajmjmnlapplaaaDoor.PInts
