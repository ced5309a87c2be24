/-
  The walks of the reference's row, number and Int of chapter 8. Condition: the text is no longer than 1000000 bytes.
  The walk of the reference's Int of chapter 8: it says what the program's Int says. Condition: the text is no longer than 1000000 bytes.
  Walks of the reference's small functions over Go's own floats: bits as floats and back, and a float of 32 bits as one of 64. No condition but that a word is one.
  What a float's bits say of how it stands; walks of the reference's Kind, of what is worked, of Rel. No condition but that a word is one.
  Walks of the reference's Kind, worked and Rel, as closed forms. No condition but that a word is one.
  The reference's hex digits, numbers and signed integers of chapter 8 in closed form, and the walk of its ShowInt. No condition but that a word is one.
  The walk of the reference's ShowFloat of chapter 8. No condition but that a word is one.
-/
import Derived.Maps.AppendAt
import Derived.Deep.RegionWith
import Derived.WalkLawsBesides
import Derived.Laws.Externs
import Derived.Lib.Hide
import Derived.Test.YtjecdciabpjgcaaGreatDoorZw0
import Derived.Test.YtjecdciabpjgcaaGreatDoorZw1
import Derived.Test.YtjecdciabpjgcaaGreatDoorZw2
import Derived.Test.YtjecdciabpjgcaaGreatDoorZw3
import Derived.Test.YtjecdciabpjgcaaGreatDoorZw4
import Derived.Test.YtjecdciabpjgcaaGreatDoorZw5
import Derived.Test.YtjecdciabpjgcaaGreatDoorZw6
import Derived.Test.YtjecdciabpjgcaaGreatDoorZw7
import Derived.Test.YtjecdciabpjgcaaGreatDoorZw8
import Derived.Test.YtjecdciabpjgcaaGreatDoorZw9
namespace Go.Proofs.YtjecdciabpjgcaaGreatDoor.PLz
open Go.RowKit Go.Proofs.YtjecdciabpjgcaaGreatDoorW.PrintWords Go.Proofs.YtjecdciabpjgcaaGreatDoorW.PrintLast Go.Proofs.YtjecdciabpjgcaaGreatDoorW.PrintMore
attribute [local go_sem] max2_int min2_int max_two min_two max_three min_three max_four min_four
set_option linter.unusedVariables false
set_option linter.unusedSimpArgs false
def bodkinref02_Signed.f (k : Nat) (a0 : Int) (a1 : Int) : Option (Int) := (bodkinref02_Right.f a0).bind fun t155 => (if t155 = true then ((bodkinref02_Cut.f k a0 a1).bind fun t156 => ((bodkinref02_bit.f k t156 (wrap64 (a0 - 1))).bind fun t157 => (if t157 = 1 then ((bodkinref02_Cut.f k a0 (IntKind.u64.wrap (-t156))).bind fun t158 => (some (wrap64 ((wrap64 (-(wrap64 (IntKind.u64.wrap (t158 - 1))))) - 1)))) else (some (wrap64 (t156)))))) else (some 0))
theorem bodkinref02_Signed.mono : ∀ a0 a1 k, LeO (bodkinref02_Signed.f k a0 a1) (bodkinref02_Signed.f (k + 1) a0 a1) := by
  intro a0 a1 k
  unfold bodkinref02_Signed.f
  repeat' first
      | (with_reducible exact bodkinref02_Cut.mono _ _ _)
      | (with_reducible exact bodkinref02_bit.mono _ _ _)
      | (with_reducible exact LeO.refl _)
      | (with_reducible exact LeO.none _)
      | (with_reducible refine LeO.ite ?_ ?_)
      | (with_reducible refine LeO.bind ?_ (fun _ => ?_))
      | exact bodkinref02_Cut.mono _ _ _
      | exact bodkinref02_bit.mono _ _ _
      | exact LeO.none _
      | refine LeO.ite ?_ ?_
      | refine LeO.bind ?_ (fun _ => ?_)
set_option maxHeartbeats 8000000 in
set_option maxRecDepth 100000 in
theorem bodkinref02_Signed.calls (k : Nat) (a0 : Int) (a1 : Int) (r : Int) (w : World) (h : bodkinref02_Signed.f k a0 a1 = some r) :
    Calls Tryz.prog 42 #[.int .i64 a0, .int .u64 a1] w fun e w' => e = .returned (.int .i64 r) ∧ Drawn0 w w' := by
  have H : ((bodkinref02_Right.f a0).bind fun t155 => (if t155 = true then ((bodkinref02_Cut.f k a0 a1).bind fun t156 => ((bodkinref02_bit.f k t156 (wrap64 (a0 - 1))).bind fun t157 => (if t157 = 1 then ((bodkinref02_Cut.f k a0 (IntKind.u64.wrap (-t156))).bind fun t158 => (some (wrap64 ((wrap64 (-(wrap64 (IntKind.u64.wrap (t158 - 1))))) - 1)))) else (some (wrap64 (t156)))))) else (some 0))) = some r := h
  clear h
  replace H := Option.bind_eq_some_iff.mp H
  obtain ⟨t155, A30, H⟩ := H
  replace H : (if t155 = true then ((bodkinref02_Cut.f k a0 a1).bind fun t156 => ((bodkinref02_bit.f k t156 (wrap64 (a0 - 1))).bind fun t157 => (if t157 = 1 then ((bodkinref02_Cut.f k a0 (IntKind.u64.wrap (-t156))).bind fun t158 => (some (wrap64 ((wrap64 (-(wrap64 (IntKind.u64.wrap (t158 - 1))))) - 1)))) else (some (wrap64 (t156)))))) else (some 0)) = some r := H
  have A3 := Aside0.mk A30
  clear A30
  by_cases c4 : t155 = true
  · subst c4
    have H1 : ((bodkinref02_Cut.f k a0 a1).bind fun t156 => ((bodkinref02_bit.f k t156 (wrap64 (a0 - 1))).bind fun t157 => (if t157 = 1 then ((bodkinref02_Cut.f k a0 (IntKind.u64.wrap (-t156))).bind fun t158 => (some (wrap64 ((wrap64 (-(wrap64 (IntKind.u64.wrap (t158 - 1))))) - 1)))) else (some (wrap64 (t156)))))) = some r := by rw [if_pos rfl] at H; exact H
    clear H
    have H := H1
    clear H1
    replace H := Option.bind_eq_some_iff.mp H
    obtain ⟨t156, A50, H⟩ := H
    replace H : ((bodkinref02_bit.f k t156 (wrap64 (a0 - 1))).bind fun t157 => (if t157 = 1 then ((bodkinref02_Cut.f k a0 (IntKind.u64.wrap (-t156))).bind fun t158 => (some (wrap64 ((wrap64 (-(wrap64 (IntKind.u64.wrap (t158 - 1))))) - 1)))) else (some (wrap64 (t156))))) = some r := H
    have A5 := Aside0.mk A50
    clear A50
    replace H := Option.bind_eq_some_iff.mp H
    obtain ⟨t157, A60, H⟩ := H
    replace H : (if t157 = 1 then ((bodkinref02_Cut.f k a0 (IntKind.u64.wrap (-t156))).bind fun t158 => (some (wrap64 ((wrap64 (-(wrap64 (IntKind.u64.wrap (t158 - 1))))) - 1)))) else (some (wrap64 (t156)))) = some r := H
    have A6 := Aside0.mk A60
    clear A60
    by_cases c7 : t157 = 1
    · rw [if_pos c7] at H
      have c7b0 : (t157 == 1) = true := beq_iff_eq.mpr c7
      have c7b1 : (t157 != 1) = false := bne_eq_false_iff_eq.mpr c7
      clear c7
      replace H := Option.bind_eq_some_iff.mp H
      obtain ⟨t158, A80, H⟩ := H
      replace H : (some (wrap64 ((wrap64 (-(wrap64 (IntKind.u64.wrap (t158 - 1))))) - 1))) = some r := H
      have A8 := Aside0.mk A80
      clear A80
      obtain rfl := Option.some.inj H
      go_enter Tryz.func42, Tryz.ntmps42
      go_wp2_with (first | ((with_reducible refine gate_callee (f := 26) rfl ?_); refine goesL_ (some 8) rfl rfl Tryz.func26 (by kernel_rfl) rfl #[.int .i64 a0] rfl (by (try simp only [List.map_toArray, List.map_cons, List.map_nil]); first | done | rfl | (simp only [List.length_drop, List.length_take]; rfl)) ?_; (with_reducible refine (bodkinref02_Right.calls a0 true _ A3.out).mono ?_); rintro e w' ⟨rfl, ⟨nd, rfl⟩⟩; refine ⟨_, rfl, ?_⟩) | ((with_reducible refine gate_callee (f := 31) rfl ?_); refine goesL_ (some 13) rfl rfl Tryz.func31 (by kernel_rfl) rfl #[.int .i64 a0, .int .u64 a1] rfl (by (try simp only [List.map_toArray, List.map_cons, List.map_nil]); first | done | rfl | (simp only [List.length_drop, List.length_take]; rfl)) ?_; (with_reducible refine (bodkinref02_Cut.calls k a0 a1 t156 _ A5.out).mono ?_); rintro e w' ⟨rfl, ⟨nd, rfl⟩⟩; refine ⟨_, rfl, ?_⟩) | ((with_reducible refine gate_callee (f := 79) rfl ?_); refine goesL_ (some 17) rfl rfl Tryz.func79 (by kernel_rfl) rfl #[.int .u64 t156, .int .i64 (wrap64 (a0 - 1))] rfl (by (try simp only [List.map_toArray, List.map_cons, List.map_nil]); first | done | rfl | (simp only [List.length_drop, List.length_take]; rfl)) ?_; (with_reducible refine (bodkinref02_bit.calls k t156 (wrap64 (a0 - 1)) t157 _ A6.out).mono ?_); rintro e w' ⟨rfl, ⟨nd, rfl⟩⟩; refine ⟨_, rfl, ?_⟩) | ((with_reducible refine gate_callee (f := 31) rfl ?_); refine goesL_ (some 22) rfl rfl Tryz.func31 (by kernel_rfl) rfl #[.int .i64 a0, .int .u64 (IntKind.u64.wrap (-t156))] rfl (by (try simp only [List.map_toArray, List.map_cons, List.map_nil]); first | done | rfl | (simp only [List.length_drop, List.length_take]; rfl)) ?_; (with_reducible refine (bodkinref02_Cut.calls k a0 (IntKind.u64.wrap (-t156)) t158 _ A8.out).mono ?_); rintro e w' ⟨rfl, ⟨nd, rfl⟩⟩; refine ⟨_, rfl, ?_⟩))
      go_ret
      exact ⟨by first | rfl | (simp; done) | (simp [*]; done), by repeat (first | exact Drawn0.refl _ | apply Drawn0.step)⟩
    · rw [if_neg c7] at H
      have c7b0 : (t157 == 1) = false := beq_eq_false_iff_ne.mpr c7
      have c7b1 : (t157 != 1) = true := bne_iff_ne.mpr c7
      obtain rfl := Option.some.inj H
      go_enter Tryz.func42, Tryz.ntmps42
      go_wp2_with (first | ((with_reducible refine gate_callee (f := 26) rfl ?_); refine goesL_ (some 8) rfl rfl Tryz.func26 (by kernel_rfl) rfl #[.int .i64 a0] rfl (by (try simp only [List.map_toArray, List.map_cons, List.map_nil]); first | done | rfl | (simp only [List.length_drop, List.length_take]; rfl)) ?_; (with_reducible refine (bodkinref02_Right.calls a0 true _ A3.out).mono ?_); rintro e w' ⟨rfl, ⟨nd, rfl⟩⟩; refine ⟨_, rfl, ?_⟩) | ((with_reducible refine gate_callee (f := 31) rfl ?_); refine goesL_ (some 13) rfl rfl Tryz.func31 (by kernel_rfl) rfl #[.int .i64 a0, .int .u64 a1] rfl (by (try simp only [List.map_toArray, List.map_cons, List.map_nil]); first | done | rfl | (simp only [List.length_drop, List.length_take]; rfl)) ?_; (with_reducible refine (bodkinref02_Cut.calls k a0 a1 t156 _ A5.out).mono ?_); rintro e w' ⟨rfl, ⟨nd, rfl⟩⟩; refine ⟨_, rfl, ?_⟩) | ((with_reducible refine gate_callee (f := 79) rfl ?_); refine goesL_ (some 17) rfl rfl Tryz.func79 (by kernel_rfl) rfl #[.int .u64 t156, .int .i64 (wrap64 (a0 - 1))] rfl (by (try simp only [List.map_toArray, List.map_cons, List.map_nil]); first | done | rfl | (simp only [List.length_drop, List.length_take]; rfl)) ?_; (with_reducible refine (bodkinref02_bit.calls k t156 (wrap64 (a0 - 1)) t157 _ A6.out).mono ?_); rintro e w' ⟨rfl, ⟨nd, rfl⟩⟩; refine ⟨_, rfl, ?_⟩))
      go_ret
      exact ⟨by first | rfl | (simp; done) | (simp [*]; done), by repeat (first | exact Drawn0.refl _ | apply Drawn0.step)⟩
  · replace c4 := Bool.eq_false_iff.mpr c4
    subst c4
    have H1 : (some 0) = some r := by rw [if_neg (show ¬ (false = true) by decide)] at H; exact H
    clear H
    have H := H1
    clear H1
    obtain rfl := Option.some.inj H
    go_enter Tryz.func42, Tryz.ntmps42
    go_wp2_with (first | ((with_reducible refine gate_callee (f := 26) rfl ?_); refine goesL_ (some 8) rfl rfl Tryz.func26 (by kernel_rfl) rfl #[.int .i64 a0] rfl (by (try simp only [List.map_toArray, List.map_cons, List.map_nil]); first | done | rfl | (simp only [List.length_drop, List.length_take]; rfl)) ?_; (with_reducible refine (bodkinref02_Right.calls a0 false _ A3.out).mono ?_); rintro e w' ⟨rfl, ⟨nd, rfl⟩⟩; refine ⟨_, rfl, ?_⟩))
    go_ret
    exact ⟨by first | rfl | (simp; done) | (simp [*]; done), by repeat (first | exact Drawn0.refl _ | apply Drawn0.step)⟩
mutual
def bodkinref08_digit.j0 : Nat → Int → Bool → Bool → Option (Int)
  | 0, _, _, _ => none
  | k + 1, x0, x1, x10 => if x10 = true then (some (wrap64 ((wrap64 (x0)) - 48))) else (if x1 = true then (if x0 ≥ 97 then (bodkinref08_digit.j1 k x0 x1 (decide (x0 ≤ 102))) else (bodkinref08_digit.j1 k x0 x1 false)) else (bodkinref08_digit.j1 k x0 x1 false))
def bodkinref08_digit.j1 : Nat → Int → Bool → Bool → Option (Int)
  | 0, _, _, _ => none
  | k + 1, x0, x1, x22 => if x22 = true then (some (wrap64 ((wrap64 (x0)) - 87))) else (if x1 = true then (if x0 ≥ 65 then (if x0 ≤ 70 then (some (wrap64 ((wrap64 (x0)) - 55))) else (some (-1))) else (some (-1))) else (some (-1)))
end
def bodkinref08_digit.f (k : Nat) (a0 : Int) (a1 : Bool) : Option (Int) := if a0 ≥ 48 then (bodkinref08_digit.j0 k a0 a1 (decide (a0 ≤ 57))) else (bodkinref08_digit.j0 k a0 a1 false)
theorem bodkinref08_digit.mono_l : ∀ k, (∀ y0 y1 y2, LeO (bodkinref08_digit.j0 k y0 y1 y2) (bodkinref08_digit.j0 (k + 1) y0 y1 y2)) ∧ (∀ y0 y1 y2, LeO (bodkinref08_digit.j1 k y0 y1 y2) (bodkinref08_digit.j1 (k + 1) y0 y1 y2)) := by
  intro k
  induction k with
  | zero => exact ⟨fun _ _ _ r h => by simp [bodkinref08_digit.j0] at h, fun _ _ _ r h => by simp [bodkinref08_digit.j1] at h⟩
  | succ k ih =>
    obtain ⟨ih0, ih1⟩ := ih
    refine ⟨?_, ?_⟩
    · intro y0 y1 y2
      unfold bodkinref08_digit.j0
      repeat' first
      | (with_reducible exact ih0 _ _ _)
      | (with_reducible exact ih1 _ _ _)
      | (with_reducible exact LeO.refl _)
      | (with_reducible exact LeO.none _)
      | (with_reducible refine LeO.ite ?_ ?_)
      | (with_reducible refine LeO.bind ?_ (fun _ => ?_))
      | exact ih0 _ _ _
      | exact ih1 _ _ _
      | exact LeO.none _
      | refine LeO.ite ?_ ?_
      | refine LeO.bind ?_ (fun _ => ?_)
    · intro y0 y1 y2
      unfold bodkinref08_digit.j1
      repeat' first
      | (with_reducible exact ih0 _ _ _)
      | (with_reducible exact ih1 _ _ _)
      | (with_reducible exact LeO.refl _)
      | (with_reducible exact LeO.none _)
      | (with_reducible refine LeO.ite ?_ ?_)
      | (with_reducible refine LeO.bind ?_ (fun _ => ?_))
      | exact ih0 _ _ _
      | exact ih1 _ _ _
      | exact LeO.none _
      | refine LeO.ite ?_ ?_
      | refine LeO.bind ?_ (fun _ => ?_)
theorem bodkinref08_digit.mono : ∀ a0 a1 k, LeO (bodkinref08_digit.f k a0 a1) (bodkinref08_digit.f (k + 1) a0 a1) := by
  intro a0 a1 k
  obtain ⟨ih0, ih1⟩ := bodkinref08_digit.mono_l k
  unfold bodkinref08_digit.f
  repeat' first
      | (with_reducible exact ih0 _ _ _)
      | (with_reducible exact ih1 _ _ _)
      | (with_reducible exact LeO.refl _)
      | (with_reducible exact LeO.none _)
      | (with_reducible refine LeO.ite ?_ ?_)
      | (with_reducible refine LeO.bind ?_ (fun _ => ?_))
      | exact ih0 _ _ _
      | exact ih1 _ _ _
      | exact LeO.none _
      | refine LeO.ite ?_ ?_
      | refine LeO.bind ?_ (fun _ => ?_)
def bodkinref08_signed.j0 : Nat → ByteArray → Bool → Option (Bool × ByteArray)
  | 0, _, _ => none
  | k + 1, x0, x11 => if x11 = true then (if 1 ≤ (x0.size : Int) then (some (true, x0.extract 1 x0.size)) else (none)) else (if (x0.size : Int) > 0 then (if 0 < (x0.size : Int) then (if (bt x0 0) = 43 then (if 1 ≤ (x0.size : Int) then (some (false, x0.extract 1 x0.size)) else (none)) else (some (false, x0))) else (none)) else (some (false, x0)))
def bodkinref08_signed.f (k : Nat) (a0 : ByteArray) : Option (Bool × ByteArray) := if (a0.size : Int) > 0 then (if 0 < (a0.size : Int) then (bodkinref08_signed.j0 k a0 ((bt a0 0) == 45)) else (none)) else (bodkinref08_signed.j0 k a0 false)
theorem bodkinref08_signed.mono_l : ∀ k, (∀ y0 y1, LeO (bodkinref08_signed.j0 k y0 y1) (bodkinref08_signed.j0 (k + 1) y0 y1)) := by
  intro k
  induction k with
  | zero => exact fun _ _ r h => by simp [bodkinref08_signed.j0] at h
  | succ k ih =>
    have ih0 := ih
    · intro y0 y1
      unfold bodkinref08_signed.j0
      repeat' first
      | (with_reducible exact ih0 _ _)
      | (with_reducible exact LeO.refl _)
      | (with_reducible exact LeO.none _)
      | (with_reducible refine LeO.ite ?_ ?_)
      | (with_reducible refine LeO.bind ?_ (fun _ => ?_))
      | exact ih0 _ _
      | exact LeO.none _
      | refine LeO.ite ?_ ?_
      | refine LeO.bind ?_ (fun _ => ?_)
theorem bodkinref08_signed.mono : ∀ a0 k, LeO (bodkinref08_signed.f k a0) (bodkinref08_signed.f (k + 1) a0) := by
  intro a0 k
  have ih0 := bodkinref08_signed.mono_l k
  unfold bodkinref08_signed.f
  repeat' first
      | (with_reducible exact ih0 _ _)
      | (with_reducible exact LeO.refl _)
      | (with_reducible exact LeO.none _)
      | (with_reducible refine LeO.ite ?_ ?_)
      | (with_reducible refine LeO.bind ?_ (fun _ => ?_))
      | exact ih0 _ _
      | exact LeO.none _
      | refine LeO.ite ?_ ?_
      | refine LeO.bind ?_ (fun _ => ?_)
def bodkinref08_hexed.f (a0 : ByteArray) : Option (Bool × ByteArray) := if (a0.size : Int) > 1 then (if 0 ≤ 2 then (if 2 ≤ (a0.size : Int) then (if (a0.extract 0 2).toList = ([48, 120] : List UInt8) then (some (true, a0.extract 2 a0.size)) else (some (false, a0))) else (none)) else (none)) else (some (false, a0))
def bodkinref08_number.l0 : Nat → ByteArray → Int → Int → Int → Option (Int × Bool)
  | 0, _, _, _, _ => none
  | k + 1, x0, x1, x6, x7 => if x7 < (x0.size : Int) then (if 0 ≤ x7 then ((bodkinref08_digit.f k (bt x0 x7) true).bind fun t159 => (if x1 = 0 then (none) else (if x6 > (IntKind.u64.wrap (Int.tdiv (IntKind.u64.wrap (18446744073709551615 - (IntKind.u64.wrap (t159)))) x1)) then (some (0, false)) else (bodkinref08_number.l0 k x0 x1 (IntKind.u64.wrap ((IntKind.u64.wrap (x6 * x1)) + (IntKind.u64.wrap (t159)))) (wrap64 (x7 + 1)))))) else (none)) else (some (x6, true))
def bodkinref08_number.f (k : Nat) (a0 : ByteArray) (a1 : Int) : Option (Int × Bool) := bodkinref08_number.l0 k a0 a1 0 0
theorem bodkinref08_number.mono_l : ∀ k, (∀ y0 y1 y2 y3, LeO (bodkinref08_number.l0 k y0 y1 y2 y3) (bodkinref08_number.l0 (k + 1) y0 y1 y2 y3)) := by
  intro k
  induction k with
  | zero => exact fun _ _ _ _ r h => by simp [bodkinref08_number.l0] at h
  | succ k ih =>
    have ih0 := ih
    · intro y0 y1 y2 y3
      unfold bodkinref08_number.l0
      repeat' first
      | (with_reducible exact ih0 _ _ _ _)
      | (with_reducible exact bodkinref08_digit.mono _ _ _)
      | (with_reducible exact LeO.refl _)
      | (with_reducible exact LeO.none _)
      | (with_reducible refine LeO.ite ?_ ?_)
      | (with_reducible refine LeO.bind ?_ (fun _ => ?_))
      | exact ih0 _ _ _ _
      | exact bodkinref08_digit.mono _ _ _
      | exact LeO.none _
      | refine LeO.ite ?_ ?_
      | refine LeO.bind ?_ (fun _ => ?_)
theorem bodkinref08_number.mono : ∀ a0 a1 k, LeO (bodkinref08_number.f k a0 a1) (bodkinref08_number.f (k + 1) a0 a1) := by
  intro a0 a1 k
  have ih0 := bodkinref08_number.mono_l k
  unfold bodkinref08_number.f
  repeat' first
      | (with_reducible exact ih0 _ _ _ _)
      | (with_reducible exact bodkinref08_digit.mono _ _ _)
      | (with_reducible exact LeO.refl _)
      | (with_reducible exact LeO.none _)
      | (with_reducible refine LeO.ite ?_ ?_)
      | (with_reducible refine LeO.bind ?_ (fun _ => ?_))
      | exact ih0 _ _ _ _
      | exact bodkinref08_digit.mono _ _ _
      | exact LeO.none _
      | refine LeO.ite ?_ ?_
      | refine LeO.bind ?_ (fun _ => ?_)
def bodkinref08_fraction.f (a0 : Int) : Option (Int) := if a0 = 32 then (some 23) else (some 52)
def bodkinref08_hexOf.f : Nat → Int → Option (ByteArray)
  | 0, _ => none
  | k + 1, a0 => if a0 < 16 then (if 0 ≤ a0 then (if a0 ≤ (IntKind.u64.wrap (a0 + 1)) then (if (IntKind.u64.wrap (a0 + 1)) ≤ 16 then (some ((⟨#[48, 49, 50, 51, 52, 53, 54, 55, 56, 57, 97, 98, 99, 100, 101, 102]⟩ : ByteArray).extract (a0 : Int).toNat ((IntKind.u64.wrap (a0 + 1)) : Int).toNat)) else (none)) else (none)) else (none)) else ((bodkinref08_hexOf.f k (IntKind.u64.wrap (Int.tdiv a0 16))).bind fun t160 => ((bodkinref08_hexOf.f k (Int.tmod a0 16)).bind fun t161 => (if t160.size + t161.size ≤ 9223372036854775807 then (some (t160 ++ t161)) else (none))))
theorem bodkinref08_hexOf.mono_l : ∀ k, (∀ y0, LeO (bodkinref08_hexOf.f k y0) (bodkinref08_hexOf.f (k + 1) y0)) := by
  intro k
  induction k with
  | zero => exact fun _ r h => by simp [bodkinref08_hexOf.f] at h
  | succ k ih =>
    have ih0 := ih
    · intro y0
      unfold bodkinref08_hexOf.f
      repeat' first
      | (with_reducible exact ih0 _)
      | (with_reducible exact LeO.refl _)
      | (with_reducible exact LeO.none _)
      | (with_reducible refine LeO.ite ?_ ?_)
      | (with_reducible refine LeO.bind ?_ (fun _ => ?_))
      | exact ih0 _
      | exact LeO.none _
      | refine LeO.ite ?_ ?_
      | refine LeO.bind ?_ (fun _ => ?_)
theorem bodkinref08_hexOf.mono : ∀ a0 k, LeO (bodkinref08_hexOf.f k a0) (bodkinref08_hexOf.f (k + 1) a0) := by
  intro a0 k
  have ih0 := bodkinref08_hexOf.mono_l k
  exact ih0 a0
set_option maxHeartbeats 8000000 in
set_option maxRecDepth 100000 in
theorem bodkinref08_hexOf.calls (k : Nat) : ∀ (a0 : Int) (r : ByteArray) (w : World) (h : bodkinref08_hexOf.f k a0 = some r),
    Calls Tryz.prog 46 #[.int .u64 a0] w fun e w' => e = .returned (.string r) ∧ Drawn0 w w' := by
  induction k using Nat.strongRecOn with
  | _ k ih =>
  intro a0 r w h
  cases k with
  | zero => exact absurd h (by simp [bodkinref08_hexOf.f])
  | succ k =>
  simp only [bodkinref08_hexOf.f] at h
  have H : (if a0 < 16 then (if 0 ≤ a0 then (if a0 ≤ (IntKind.u64.wrap (a0 + 1)) then (if (IntKind.u64.wrap (a0 + 1)) ≤ 16 then (some ((⟨#[48, 49, 50, 51, 52, 53, 54, 55, 56, 57, 97, 98, 99, 100, 101, 102]⟩ : ByteArray).extract (a0 : Int).toNat ((IntKind.u64.wrap (a0 + 1)) : Int).toNat)) else (none)) else (none)) else (none)) else ((bodkinref08_hexOf.f k (IntKind.u64.wrap (Int.tdiv a0 16))).bind fun t160 => ((bodkinref08_hexOf.f k (Int.tmod a0 16)).bind fun t161 => (if t160.size + t161.size ≤ 9223372036854775807 then (some (t160 ++ t161)) else (none))))) = some r := h
  clear h
  by_cases c2 : a0 < 16
  · rw [if_pos c2] at H
    have c2b0 : decide (a0 < 16) = true := decide_eq_true c2
    clear c2
    by_cases c3 : 0 ≤ a0
    · rw [if_pos c3] at H
      have c3b0 := eq_true c3
      have c3b1 : decide (0 ≤ a0) = true := decide_eq_true c3
      clear c3
      by_cases c4 : a0 ≤ (IntKind.u64.wrap (a0 + 1))
      · rw [if_pos c4] at H
        have c4b0 := eq_true c4
        have c4b1 : decide (a0 ≤ (IntKind.u64.wrap (a0 + 1))) = true := decide_eq_true c4
        by_cases c5 : (IntKind.u64.wrap (a0 + 1)) ≤ 16
        · rw [if_pos c5] at H
          have c5b0 := eq_true c5
          have c5b1 : decide ((IntKind.u64.wrap (a0 + 1)) ≤ 16) = true := decide_eq_true c5
          obtain rfl := Option.some.inj H
          go_enter Tryz.func46, Tryz.ntmps46
          go_wp2
          go_ret
          exact ⟨by first | rfl | (simp; done) | (simp [*]; done), by repeat (first | exact Drawn0.refl _ | apply Drawn0.step)⟩
        · rw [if_neg c5] at H
          exact absurd H (by simp)
      · rw [if_neg c4] at H
        exact absurd H (by simp)
    · rw [if_neg c3] at H
      exact absurd H (by simp)
  · rw [if_neg c2] at H
    have c2b0 : decide (a0 < 16) = false := decide_eq_false c2
    clear c2
    replace H := Option.bind_eq_some_iff.mp H
    obtain ⟨t160, A60, H⟩ := H
    replace H : ((bodkinref08_hexOf.f k (Int.tmod a0 16)).bind fun t161 => (if t160.size + t161.size ≤ 9223372036854775807 then (some (t160 ++ t161)) else (none))) = some r := H
    have A6 := Aside0.mk A60
    clear A60
    replace H := Option.bind_eq_some_iff.mp H
    obtain ⟨t161, A70, H⟩ := H
    replace H : (if t160.size + t161.size ≤ 9223372036854775807 then (some (t160 ++ t161)) else (none)) = some r := H
    have A7 := Aside0.mk A70
    clear A70
    by_cases c8 : t160.size + t161.size ≤ 9223372036854775807
    · rw [if_pos c8] at H
      have c8b0 := eq_true c8
      have c8b1 : decide (t160.size + t161.size ≤ 9223372036854775807) = true := decide_eq_true c8
      try have c8b2 : (9223372036854775807 < t160.size + t161.size) = False := eq_false (Nat.not_lt.2 c8)
      obtain rfl := Option.some.inj H
      go_enter Tryz.func46, Tryz.ntmps46
      go_wp2_with (first | ((with_reducible refine gate_callee (f := 46) rfl ?_); refine goesL_ (some 11) rfl rfl Tryz.func46 (by kernel_rfl) rfl #[.int .u64 (IntKind.u64.wrap (Int.tdiv a0 16))] rfl (by (try simp only [List.map_toArray, List.map_cons, List.map_nil]); first | done | rfl | (simp only [List.length_drop, List.length_take]; rfl)) ?_; (with_reducible refine (ih k (by omega) (IntKind.u64.wrap (Int.tdiv a0 16)) t160 _ A6.out).mono ?_); rintro e w' ⟨rfl, ⟨nd, rfl⟩⟩; refine ⟨_, rfl, ?_⟩) | ((with_reducible refine gate_callee (f := 46) rfl ?_); refine goesL_ (some 14) rfl rfl Tryz.func46 (by kernel_rfl) rfl #[.int .u64 (Int.tmod a0 16)] rfl (by (try simp only [List.map_toArray, List.map_cons, List.map_nil]); first | done | rfl | (simp only [List.length_drop, List.length_take]; rfl)) ?_; (with_reducible refine (ih k (by omega) (Int.tmod a0 16) t161 _ A7.out).mono ?_); rintro e w' ⟨rfl, ⟨nd, rfl⟩⟩; refine ⟨_, rfl, ?_⟩))
      go_ret
      exact ⟨by first | rfl | (simp; done) | (simp [*]; done), by repeat (first | exact Drawn0.refl _ | apply Drawn0.step)⟩
    · rw [if_neg c8] at H
      exact absurd H (by simp)
end Go.Proofs.YtjecdciabpjgcaaGreatDoor.PLz
namespace Go.Proofs.YtjecdciabpjgcaaGreatDoor.Lz
set_option linter.unusedVariables false
set_option linter.unusedSimpArgs false
open Go.RowKit Go.Proofs.YtjecdciabpjgcaaGreatDoorW.PrintWords Go.Proofs.YtjecdciabpjgcaaGreatDoor.Lx Go.Proofs.YtjecdciabpjgcaaGreatDoor.PLz
structure RrQ (w : World) (r : List UInt8 × List UInt8) (e : Ending) (w' : World) : Prop where mk ::
  (out : e = .returned (.tuple #[.string ⟨r.1.toArray⟩, .string ⟨r.2.toArray⟩, .bool (!r.1.isEmpty)]) ∧ Below w.heap.size w w')
theorem RrQ.fin {w w' : World} {out : List UInt8} {s : ByteArray} {i : Nat} {R : List UInt8 × List UInt8} (h : (out, s.data.toList.drop i) = R) (hb : Below w.heap.size w w') : RrQ w R (.returned (.tuple #[.string ⟨out.toArray⟩, .string (s.extract i s.size), .bool (decide (0 < out.length))])) w' := by
  subst h
  refine ⟨?_, hb⟩
  have e1 : s.extract i s.size = ⟨(s.data.toList.drop i).toArray⟩ := by
    rw [Lib.extract_eq, List.take_of_length_le (by rw [List.length_drop, len_data]; omega)]
  have e2 : (decide (0 < out.length)) = !out.isEmpty := by cases out <;> simp
  rw [e1, e2]
end Go.Proofs.YtjecdciabpjgcaaGreatDoor.Lz
namespace Go.Proofs.YtjecdciabpjgcaaGreatDoor.Lz
set_option linter.unusedVariables false
set_option linter.unusedSimpArgs false
open Go.RowKit Go.Proofs.YtjecdciabpjgcaaGreatDoorW.PrintWords Go.Proofs.YtjecdciabpjgcaaGreatDoor.Lx Go.Proofs.YtjecdciabpjgcaaGreatDoor.PLz
def numR (o : Option Nat) : Int × Bool := match o with | none => (0, false) | some m => ((m : Int), true)
/-- The reference's cutting: what is left by 2^n. -/
theorem refCut_l (n : Nat) (hn : n ≤ 32) (a : Nat) : ∀ (d i k : Nat), i + d = n → d + 1 ≤ k → bodkinref02_Cut.l0 k (n : Int) (a : Int) ((2 ^ i : Nat) : Int) (i : Int) = some ((a % 2 ^ n : Nat) : Int) := by
  intro d
  induction d with
  | zero =>
    intro i k hi hk
    obtain ⟨k, rfl⟩ : ∃ j, k = j + 1 := ⟨k - 1, by omega⟩
    unfold bodkinref02_Cut.l0
    have : 0 < 2 ^ i := Nat.two_pow_pos _
    have hin : i = n := by omega
    rw [if_neg (by omega), if_neg (by omega), hin, ← Int.ofNat_tmod]
  | succ d ih =>
    intro i k hi hk
    obtain ⟨k, rfl⟩ : ∃ j, k = j + 1 := ⟨k - 1, by omega⟩
    unfold bodkinref02_Cut.l0
    have hp : 2 ^ i ≤ 2 ^ 32 := Nat.pow_le_pow_right (by decide) (by omega)
    have e32 : (2 : Nat) ^ 32 = 4294967296 := by decide
    have w1 : IntKind.u64.wrap (((2 ^ i : Nat) : Int) * 2) = ((2 ^ (i + 1) : Nat) : Int) := by rw [Nat.pow_succ, IntKind.wrap_u64]; omega
    have w2 : wrap64 ((i : Int) + 1) = ((i + 1 : Nat) : Int) := by unfold wrap64; omega
    rw [if_pos (by omega), w1, w2]
    exact ih (i + 1) k (by omega) (by omega)
theorem refCut (n : Nat) (hn : n = 8 ∨ n = 16 ∨ n = 32 ∨ n = 64) (a : Nat) (ha : a < 18446744073709551616) (k : Nat) (hk : 40 ≤ k) : bodkinref02_Cut.f k (n : Int) (a : Int) = some ((a % 2 ^ n : Nat) : Int) := by
  unfold bodkinref02_Cut.f
  by_cases h : n = 64
  · subst h
    rw [if_pos (by rfl), show (2 : Nat) ^ 64 = 18446744073709551616 from by decide, Nat.mod_eq_of_lt ha]
  · rw [if_neg (by omega)]
    have := refCut_l n (by omega) a n 0 k (by omega) (by omega)
    rw [Nat.pow_zero] at this
    exact this
theorem refCut_c (n : Nat) (hn : n = 8 ∨ n = 16 ∨ n = 32 ∨ n = 64) (a : Nat) (ha : a < 18446744073709551616) (w : World) :
    Calls Tryz.prog 31 #[.int .i64 (n : Int), .int .u64 (a : Int)] w fun e w' => e = .returned (.int .u64 ((a % 2 ^ n : Nat) : Int)) ∧ Drawn0 w w' :=
  bodkinref02_Cut.calls 40 _ _ _ w (refCut n hn a ha 40 (Nat.le_refl _))
theorem refRight_c (n : Int) (r : Bool) (h : right n = r) (w : World) : Calls Tryz.prog 26 #[.int .i64 n] w fun e w' => e = .returned (.bool r) ∧ Drawn0 w w' :=
  bodkinref02_Right.calls n r w (by
    unfold bodkinref02_Right.f
    rw [← h]
    unfold right
    by_cases h1 : n = 8
    · rw [if_pos h1, h1]; rfl
    · rw [if_neg h1]
      by_cases h2 : n = 16
      · rw [if_pos h2, h2]; rfl
      · rw [if_neg h2]
        by_cases h3 : n = 32
        · rw [if_pos h3, h3]; rfl
        · rw [if_neg h3]
          have q1 : (n == 8) = false := by simpa using h1
          have q2 : (n == 16) = false := by simpa using h2
          have q3 : (n == 32) = false := by simpa using h3
          rw [q1, q2, q3]
          rfl)
theorem str_ne (r : List UInt8) : ((⟨r.toArray⟩ : ByteArray).toList == []) = r.isEmpty := by
  rw [Go.ByteArray.toList_eq, arr_self]
  cases r <;> rfl
theorem cut_neg (k n : Nat) (hk : k = 8 ∨ k = 16 ∨ k = 32 ∨ k = 64) (hn : n ≤ 2 ^ k - 1) : (18446744073709551616 - n) % 18446744073709551616 % 2 ^ k = (2 ^ k - 1 + 1 - n) % (2 ^ k - 1 + 1) := by
  rcases hk with rfl | rfl | rfl | rfl
  · have e : (2 : Nat) ^ 8 = 256 := by decide
    rw [e] at hn ⊢; omega
  · have e : (2 : Nat) ^ 16 = 65536 := by decide
    rw [e] at hn ⊢; omega
  · have e : (2 : Nat) ^ 32 = 4294967296 := by decide
    rw [e] at hn ⊢; omega
  · have e : (2 : Nat) ^ 64 = 18446744073709551616 := by decide
    rw [e] at hn ⊢; omega
end Go.Proofs.YtjecdciabpjgcaaGreatDoor.Lz
namespace Go.Proofs.YtjecdciabpjgcaaGreatDoor.PLz
open Go.RowKit Go.Proofs.YtjecdciabpjgcaaGreatDoorW.PrintWords Go.Proofs.YtjecdciabpjgcaaGreatDoorW.PrintLast Go.Proofs.YtjecdciabpjgcaaGreatDoorW.PrintMore
attribute [local go_sem] max2_int min2_int max_two min_two max_three min_three max_four min_four
set_option linter.unusedVariables false
set_option linter.unusedSimpArgs false
def bodkinref08_small.f : Nat → Int → Option (ByteArray)
  | 0, _ => none
  | k + 1, a0 => if a0 < 10 then (if 0 ≤ a0 then (if a0 ≤ (IntKind.u64.wrap (a0 + 1)) then (if (IntKind.u64.wrap (a0 + 1)) ≤ 10 then (some ((⟨#[48, 49, 50, 51, 52, 53, 54, 55, 56, 57]⟩ : ByteArray).extract (a0 : Int).toNat ((IntKind.u64.wrap (a0 + 1)) : Int).toNat)) else (none)) else (none)) else (none)) else ((bodkinref08_small.f k (IntKind.u64.wrap (Int.tdiv a0 10))).bind fun t162 => ((bodkinref08_small.f k (Int.tmod a0 10)).bind fun t163 => (if t162.size + t163.size ≤ 9223372036854775807 then (some (t162 ++ t163)) else (none))))
theorem bodkinref08_small.mono_l : ∀ k, (∀ y0, LeO (bodkinref08_small.f k y0) (bodkinref08_small.f (k + 1) y0)) := by
  intro k
  induction k with
  | zero => exact fun _ r h => by simp [bodkinref08_small.f] at h
  | succ k ih =>
    have ih0 := ih
    · intro y0
      unfold bodkinref08_small.f
      repeat' first
      | (with_reducible exact ih0 _)
      | (with_reducible exact LeO.refl _)
      | (with_reducible exact LeO.none _)
      | (with_reducible refine LeO.ite ?_ ?_)
      | (with_reducible refine LeO.bind ?_ (fun _ => ?_))
      | exact ih0 _
      | exact LeO.none _
      | refine LeO.ite ?_ ?_
      | refine LeO.bind ?_ (fun _ => ?_)
theorem bodkinref08_small.mono : ∀ a0 k, LeO (bodkinref08_small.f k a0) (bodkinref08_small.f (k + 1) a0) := by
  intro a0 k
  have ih0 := bodkinref08_small.mono_l k
  exact ih0 a0
set_option maxHeartbeats 8000000 in
set_option maxRecDepth 100000 in
theorem bodkinref08_small.calls (k : Nat) : ∀ (a0 : Int) (r : ByteArray) (w : World) (h : bodkinref08_small.f k a0 = some r),
    Calls Tryz.prog 78 #[.int .u64 a0] w fun e w' => e = .returned (.string r) ∧ Drawn0 w w' := by
  induction k using Nat.strongRecOn with
  | _ k ih =>
  intro a0 r w h
  cases k with
  | zero => exact absurd h (by simp [bodkinref08_small.f])
  | succ k =>
  simp only [bodkinref08_small.f] at h
  have H : (if a0 < 10 then (if 0 ≤ a0 then (if a0 ≤ (IntKind.u64.wrap (a0 + 1)) then (if (IntKind.u64.wrap (a0 + 1)) ≤ 10 then (some ((⟨#[48, 49, 50, 51, 52, 53, 54, 55, 56, 57]⟩ : ByteArray).extract (a0 : Int).toNat ((IntKind.u64.wrap (a0 + 1)) : Int).toNat)) else (none)) else (none)) else (none)) else ((bodkinref08_small.f k (IntKind.u64.wrap (Int.tdiv a0 10))).bind fun t162 => ((bodkinref08_small.f k (Int.tmod a0 10)).bind fun t163 => (if t162.size + t163.size ≤ 9223372036854775807 then (some (t162 ++ t163)) else (none))))) = some r := h
  clear h
  by_cases c2 : a0 < 10
  · rw [if_pos c2] at H
    have c2b0 : decide (a0 < 10) = true := decide_eq_true c2
    clear c2
    by_cases c3 : 0 ≤ a0
    · rw [if_pos c3] at H
      have c3b0 := eq_true c3
      have c3b1 : decide (0 ≤ a0) = true := decide_eq_true c3
      clear c3
      by_cases c4 : a0 ≤ (IntKind.u64.wrap (a0 + 1))
      · rw [if_pos c4] at H
        have c4b0 := eq_true c4
        have c4b1 : decide (a0 ≤ (IntKind.u64.wrap (a0 + 1))) = true := decide_eq_true c4
        by_cases c5 : (IntKind.u64.wrap (a0 + 1)) ≤ 10
        · rw [if_pos c5] at H
          have c5b0 := eq_true c5
          have c5b1 : decide ((IntKind.u64.wrap (a0 + 1)) ≤ 10) = true := decide_eq_true c5
          obtain rfl := Option.some.inj H
          go_enter Tryz.func78, Tryz.ntmps78
          go_wp2
          go_ret
          exact ⟨by first | rfl | (simp; done) | (simp [*]; done), by repeat (first | exact Drawn0.refl _ | apply Drawn0.step)⟩
        · rw [if_neg c5] at H
          exact absurd H (by simp)
      · rw [if_neg c4] at H
        exact absurd H (by simp)
    · rw [if_neg c3] at H
      exact absurd H (by simp)
  · rw [if_neg c2] at H
    have c2b0 : decide (a0 < 10) = false := decide_eq_false c2
    clear c2
    replace H := Option.bind_eq_some_iff.mp H
    obtain ⟨t162, A60, H⟩ := H
    replace H : ((bodkinref08_small.f k (Int.tmod a0 10)).bind fun t163 => (if t162.size + t163.size ≤ 9223372036854775807 then (some (t162 ++ t163)) else (none))) = some r := H
    have A6 := Aside0.mk A60
    clear A60
    replace H := Option.bind_eq_some_iff.mp H
    obtain ⟨t163, A70, H⟩ := H
    replace H : (if t162.size + t163.size ≤ 9223372036854775807 then (some (t162 ++ t163)) else (none)) = some r := H
    have A7 := Aside0.mk A70
    clear A70
    by_cases c8 : t162.size + t163.size ≤ 9223372036854775807
    · rw [if_pos c8] at H
      have c8b0 := eq_true c8
      have c8b1 : decide (t162.size + t163.size ≤ 9223372036854775807) = true := decide_eq_true c8
      try have c8b2 : (9223372036854775807 < t162.size + t163.size) = False := eq_false (Nat.not_lt.2 c8)
      obtain rfl := Option.some.inj H
      go_enter Tryz.func78, Tryz.ntmps78
      go_wp2_with (first | ((with_reducible refine gate_callee (f := 78) rfl ?_); refine goesL_ (some 11) rfl rfl Tryz.func78 (by kernel_rfl) rfl #[.int .u64 (IntKind.u64.wrap (Int.tdiv a0 10))] rfl (by (try simp only [List.map_toArray, List.map_cons, List.map_nil]); first | done | rfl | (simp only [List.length_drop, List.length_take]; rfl)) ?_; (with_reducible refine (ih k (by omega) (IntKind.u64.wrap (Int.tdiv a0 10)) t162 _ A6.out).mono ?_); rintro e w' ⟨rfl, ⟨nd, rfl⟩⟩; refine ⟨_, rfl, ?_⟩) | ((with_reducible refine gate_callee (f := 78) rfl ?_); refine goesL_ (some 14) rfl rfl Tryz.func78 (by kernel_rfl) rfl #[.int .u64 (Int.tmod a0 10)] rfl (by (try simp only [List.map_toArray, List.map_cons, List.map_nil]); first | done | rfl | (simp only [List.length_drop, List.length_take]; rfl)) ?_; (with_reducible refine (ih k (by omega) (Int.tmod a0 10) t163 _ A7.out).mono ?_); rintro e w' ⟨rfl, ⟨nd, rfl⟩⟩; refine ⟨_, rfl, ?_⟩))
      go_ret
      exact ⟨by first | rfl | (simp; done) | (simp [*]; done), by repeat (first | exact Drawn0.refl _ | apply Drawn0.step)⟩
    · rw [if_neg c8] at H
      exact absurd H (by simp)
def bodkinref08_Number.f (k : Nat) (a0 : Int) : Option (ByteArray) := if a0 < 0 then ((bodkinref08_small.f k (IntKind.u64.wrap ((IntKind.u64.wrap (wrap64 (-(wrap64 (a0 + 1))))) + 1))).bind fun t164 => (if 1 + t164.size ≤ 9223372036854775807 then (some ((⟨#[45]⟩ : ByteArray) ++ t164)) else (none))) else ((bodkinref08_small.f k (IntKind.u64.wrap (a0))).bind fun t165 => (some t165))
theorem bodkinref08_Number.mono : ∀ a0 k, LeO (bodkinref08_Number.f k a0) (bodkinref08_Number.f (k + 1) a0) := by
  intro a0 k
  unfold bodkinref08_Number.f
  repeat' first
      | (with_reducible exact bodkinref08_small.mono _ _)
      | (with_reducible exact LeO.refl _)
      | (with_reducible exact LeO.none _)
      | (with_reducible refine LeO.ite ?_ ?_)
      | (with_reducible refine LeO.bind ?_ (fun _ => ?_))
      | exact bodkinref08_small.mono _ _
      | exact LeO.none _
      | refine LeO.ite ?_ ?_
      | refine LeO.bind ?_ (fun _ => ?_)
set_option maxHeartbeats 8000000 in
set_option maxRecDepth 100000 in
theorem bodkinref08_Number.calls (k : Nat) (a0 : Int) (r : ByteArray) (w : World) (h : bodkinref08_Number.f k a0 = some r) :
    Calls Tryz.prog 41 #[.int .i64 a0] w fun e w' => e = .returned (.string r) ∧ Drawn0 w w' := by
  have H : (if a0 < 0 then ((bodkinref08_small.f k (IntKind.u64.wrap ((IntKind.u64.wrap (wrap64 (-(wrap64 (a0 + 1))))) + 1))).bind fun t164 => (if 1 + t164.size ≤ 9223372036854775807 then (some ((⟨#[45]⟩ : ByteArray) ++ t164)) else (none))) else ((bodkinref08_small.f k (IntKind.u64.wrap (a0))).bind fun t165 => (some t165))) = some r := h
  clear h
  by_cases c2 : a0 < 0
  · rw [if_pos c2] at H
    have c2b0 : decide (a0 < 0) = true := decide_eq_true c2
    clear c2
    replace H := Option.bind_eq_some_iff.mp H
    obtain ⟨t164, A30, H⟩ := H
    replace H : (if 1 + t164.size ≤ 9223372036854775807 then (some ((⟨#[45]⟩ : ByteArray) ++ t164)) else (none)) = some r := H
    have A3 := Aside0.mk A30
    clear A30
    by_cases c4 : 1 + t164.size ≤ 9223372036854775807
    · rw [if_pos c4] at H
      have c4b0 := eq_true c4
      have c4b1 : decide (1 + t164.size ≤ 9223372036854775807) = true := decide_eq_true c4
      try have c4b2 : (9223372036854775807 < 1 + t164.size) = False := eq_false (Nat.not_lt.2 c4)
      obtain rfl := Option.some.inj H
      go_enter Tryz.func41, Tryz.ntmps41
      go_wp2_with (first | ((with_reducible refine gate_callee (f := 78) rfl ?_); refine goesL_ (some 10) rfl rfl Tryz.func78 (by kernel_rfl) rfl #[.int .u64 (IntKind.u64.wrap ((IntKind.u64.wrap (wrap64 (-(wrap64 (a0 + 1))))) + 1))] rfl (by (try simp only [List.map_toArray, List.map_cons, List.map_nil]); first | done | rfl | (simp only [List.length_drop, List.length_take]; rfl)) ?_; (with_reducible refine (bodkinref08_small.calls k (IntKind.u64.wrap ((IntKind.u64.wrap (wrap64 (-(wrap64 (a0 + 1))))) + 1)) t164 _ A3.out).mono ?_); rintro e w' ⟨rfl, ⟨nd, rfl⟩⟩; refine ⟨_, rfl, ?_⟩))
      go_ret
      exact ⟨by first | rfl | (simp; done) | (simp [*]; done), by repeat (first | exact Drawn0.refl _ | apply Drawn0.step)⟩
    · rw [if_neg c4] at H
      exact absurd H (by simp)
  · rw [if_neg c2] at H
    have c2b0 : decide (a0 < 0) = false := decide_eq_false c2
    clear c2
    replace H := Option.bind_eq_some_iff.mp H
    obtain ⟨t165, A50, H⟩ := H
    replace H : (some t165) = some r := H
    have A5 := Aside0.mk A50
    clear A50
    obtain rfl := Option.some.inj H
    go_enter Tryz.func41, Tryz.ntmps41
    go_wp2_with (first | ((with_reducible refine gate_callee (f := 78) rfl ?_); refine goesL_ (some 14) rfl rfl Tryz.func78 (by kernel_rfl) rfl #[.int .u64 (IntKind.u64.wrap (a0))] rfl (by (try simp only [List.map_toArray, List.map_cons, List.map_nil]); first | done | rfl | (simp only [List.length_drop, List.length_take]; rfl)) ?_; (with_reducible refine (bodkinref08_small.calls k (IntKind.u64.wrap (a0)) t165 _ A5.out).mono ?_); rintro e w' ⟨rfl, ⟨nd, rfl⟩⟩; refine ⟨_, rfl, ?_⟩))
    go_ret
    exact ⟨by first | rfl | (simp; done) | (simp [*]; done), by repeat (first | exact Drawn0.refl _ | apply Drawn0.step)⟩
def literal_value.f (a0 : Int) : Option (Int) := if a0 ≤ 57 then (some (IntKind.u64.wrap (wrap32 (a0 - 48)))) else (if a0 ≤ 70 then (some (IntKind.u64.wrap (wrap32 ((wrap32 (a0 - 65)) + 10)))) else (some (IntKind.u64.wrap (wrap32 ((wrap32 (a0 - 97)) + 10)))))
def bits_LeadingZeros64.f (a0 : Int) : Option (Int) := (bits_Len64.f a0).bind fun t166 => (some (wrap64 (64 - t166)))
def literal_long_bits.f (l0 : List Int) : Option (Int) := if (l0.length : Int) = 0 then (some 0) else (if 0 ≤ (wrap64 ((l0.length : Int) - 1)) then (if (wrap64 ((l0.length : Int) - 1)) < (l0.length : Int) then ((bits_LeadingZeros64.f (rd l0 (wrap64 ((l0.length : Int) - 1)))).bind fun t168 => (some (wrap64 ((wrap64 (64 * (l0.length : Int))) - t168)))) else (none)) else (none))
def literal_long_below.l0 : Nat → List Int → List Int → Int → Option (Bool)
  | 0, _, _, _ => none
  | k + 1, x0, x1, x5 => if x5 ≥ 0 then (if 0 ≤ x5 then (if x5 < (x0.length : Int) then (if x5 < (x1.length : Int) then (if (rd x0 x5) = (rd x1 x5) then (literal_long_below.l0 k x0 x1 (wrap64 (x5 - 1))) else (some (decide ((rd x0 x5) < (rd x1 x5))))) else (none)) else (none)) else (none)) else (some false)
def literal_long_below.f (k : Nat) (l0 : List Int) (l1 : List Int) : Option (Bool) := if (l0.length : Int) = (l1.length : Int) then (literal_long_below.l0 k l0 l1 (wrap64 ((l0.length : Int) - 1))) else (some (decide ((l0.length : Int) < (l1.length : Int))))
theorem literal_long_below.mono_l : ∀ k, (∀ y0 y1 y2, LeO (literal_long_below.l0 k y0 y1 y2) (literal_long_below.l0 (k + 1) y0 y1 y2)) := by
  intro k
  induction k with
  | zero => exact fun _ _ _ r h => by simp [literal_long_below.l0] at h
  | succ k ih =>
    have ih0 := ih
    · intro y0 y1 y2
      unfold literal_long_below.l0
      repeat' first
      | (with_reducible exact ih0 _ _ _)
      | (with_reducible exact LeO.refl _)
      | (with_reducible exact LeO.none _)
      | (with_reducible refine LeO.ite ?_ ?_)
      | (with_reducible refine LeO.bind ?_ (fun _ => ?_))
      | exact ih0 _ _ _
      | exact LeO.none _
      | refine LeO.ite ?_ ?_
      | refine LeO.bind ?_ (fun _ => ?_)
theorem literal_long_below.mono : ∀ a0 a1 k, LeO (literal_long_below.f k a0 a1) (literal_long_below.f (k + 1) a0 a1) := by
  intro a0 a1 k
  have ih0 := literal_long_below.mono_l k
  unfold literal_long_below.f
  repeat' first
      | (with_reducible exact ih0 _ _ _)
      | (with_reducible exact LeO.refl _)
      | (with_reducible exact LeO.none _)
      | (with_reducible refine LeO.ite ?_ ?_)
      | (with_reducible refine LeO.bind ?_ (fun _ => ?_))
      | exact ih0 _ _ _
      | exact LeO.none _
      | refine LeO.ite ?_ ?_
      | refine LeO.bind ?_ (fun _ => ?_)
/-- THE ONE PURE STATEMENT of literal_long_below: yours. -/
def literal_long_below.Pure : Prop := ∀ (l0 : List Int) (l1 : List Int), l0.length ≤ maxLen → l0.length * 8 ≤ 140737488351232 → (∀ x ∈ l0, (Lit.int .u64 x).wf = true) → l1.length ≤ maxLen → l1.length * 8 ≤ 140737488351232 → (∀ x ∈ l1, (Lit.int .u64 x).wf = true) → ∃ k, literal_long_below.f k l0 l1 = some true
-- NOT PRINTED: function 136 (literal_long_cut)
-- NOT PRINTED: function 103 (literal_long_left)
mutual
def lanes_Split.j0 : Nat → Int → Bool → Int → Int → Int → Bool → Option (List Int)
  | 0, _, _, _, _, _, _ => none
  | k + 1, x0, x22, x182000, x182001, x182002, x182003 => if x22 = true then (some ([] : List Int)) else ((some (([x182001, x182002] : List Int) : List Int)).bind fun y182 => (lanes_Split.l0 k x0 ([] : List Int) y182 (y182.length : Int) 0))
def lanes_Split.l0 : Nat → Int → List Int → List Int → Int → Int → Option (List Int)
  | 0, _, _, _, _, _ => none
  | k + 1, x0, x5, x27, x28, x29 => if x29 < x28 then (if 0 ≤ x29 then (if x29 < (x27.length : Int) then (lanes_Split.l1 k x0 x5 (rd x27 x29) 0 x27 x28 x29) else (none)) else (none)) else (some x5)
def lanes_Split.l1 : Nat → Int → List Int → Int → Int → List Int → Int → Int → Option (List Int)
  | 0, _, _, _, _, _, _, _ => none
  | k + 1, x0, x5, x7, x8, x27, x28, x29 => if x8 < 64 then (if 0 ≤ (IntKind.u64.wrap (x8)) then (if 0 ≤ (IntKind.u64.wrap (wrap64 (64 - x0))) then (if x5.length < 17592186044416 then (lanes_Split.l1 k x0 (x5 ++ [Go.bits .and .u64 (shr .u64 x7 (IntKind.u64.wrap (x8))) (shr .u64 18446744073709551615 (IntKind.u64.wrap (wrap64 (64 - x0))))]) x7 (wrap64 (x8 + x0)) x27 x28 x29) else (none)) else (none)) else (none)) else (lanes_Split.l0 k x0 x5 x27 x28 (wrap64 (x29 + 1)))
end
def lanes_Split.f (k : Nat) (a0 : Int) (a1_0 : Int) (a1_1 : Int) (a1_2 : Int) (a1_3 : Bool) : Option (List Int) := if a0 = 8 then (lanes_Split.j0 k a0 false a1_0 a1_1 a1_2 a1_3) else (if a0 = 16 then (lanes_Split.j0 k a0 false a1_0 a1_1 a1_2 a1_3) else (if a0 = 32 then (lanes_Split.j0 k a0 false a1_0 a1_1 a1_2 a1_3) else (lanes_Split.j0 k a0 (a0 != 64) a1_0 a1_1 a1_2 a1_3)))
theorem lanes_Split.mono_l : ∀ k, (∀ y0 y1 y2 y3 y4 y5, LeO (lanes_Split.j0 k y0 y1 y2 y3 y4 y5) (lanes_Split.j0 (k + 1) y0 y1 y2 y3 y4 y5)) ∧ (∀ y0 y1 y2 y3 y4, LeO (lanes_Split.l0 k y0 y1 y2 y3 y4) (lanes_Split.l0 (k + 1) y0 y1 y2 y3 y4)) ∧ (∀ y0 y1 y2 y3 y4 y5 y6, LeO (lanes_Split.l1 k y0 y1 y2 y3 y4 y5 y6) (lanes_Split.l1 (k + 1) y0 y1 y2 y3 y4 y5 y6)) := by
  intro k
  induction k with
  | zero => exact ⟨fun _ _ _ _ _ _ r h => by simp [lanes_Split.j0] at h, fun _ _ _ _ _ r h => by simp [lanes_Split.l0] at h, fun _ _ _ _ _ _ _ r h => by simp [lanes_Split.l1] at h⟩
  | succ k ih =>
    obtain ⟨ih0, ih1, ih2⟩ := ih
    refine ⟨?_, ?_, ?_⟩
    · intro y0 y1 y2 y3 y4 y5
      unfold lanes_Split.j0
      repeat' first
      | (with_reducible exact ih0 _ _ _ _ _ _)
      | (with_reducible exact ih1 _ _ _ _ _)
      | (with_reducible exact ih2 _ _ _ _ _ _ _)
      | (with_reducible exact LeO.refl _)
      | (with_reducible exact LeO.none _)
      | (with_reducible refine LeO.ite ?_ ?_)
      | (with_reducible refine LeO.bind ?_ (fun _ => ?_))
      | exact ih0 _ _ _ _ _ _
      | exact ih1 _ _ _ _ _
      | exact ih2 _ _ _ _ _ _ _
      | exact LeO.none _
      | refine LeO.ite ?_ ?_
      | refine LeO.bind ?_ (fun _ => ?_)
    · intro y0 y1 y2 y3 y4
      unfold lanes_Split.l0
      repeat' first
      | (with_reducible exact ih0 _ _ _ _ _ _)
      | (with_reducible exact ih1 _ _ _ _ _)
      | (with_reducible exact ih2 _ _ _ _ _ _ _)
      | (with_reducible exact LeO.refl _)
      | (with_reducible exact LeO.none _)
      | (with_reducible refine LeO.ite ?_ ?_)
      | (with_reducible refine LeO.bind ?_ (fun _ => ?_))
      | exact ih0 _ _ _ _ _ _
      | exact ih1 _ _ _ _ _
      | exact ih2 _ _ _ _ _ _ _
      | exact LeO.none _
      | refine LeO.ite ?_ ?_
      | refine LeO.bind ?_ (fun _ => ?_)
    · intro y0 y1 y2 y3 y4 y5 y6
      unfold lanes_Split.l1
      repeat' first
      | (with_reducible exact ih0 _ _ _ _ _ _)
      | (with_reducible exact ih1 _ _ _ _ _)
      | (with_reducible exact ih2 _ _ _ _ _ _ _)
      | (with_reducible exact LeO.refl _)
      | (with_reducible exact LeO.none _)
      | (with_reducible refine LeO.ite ?_ ?_)
      | (with_reducible refine LeO.bind ?_ (fun _ => ?_))
      | exact ih0 _ _ _ _ _ _
      | exact ih1 _ _ _ _ _
      | exact ih2 _ _ _ _ _ _ _
      | exact LeO.none _
      | refine LeO.ite ?_ ?_
      | refine LeO.bind ?_ (fun _ => ?_)
theorem lanes_Split.mono : ∀ a0 a1 a2 a3 a4 k, LeO (lanes_Split.f k a0 a1 a2 a3 a4) (lanes_Split.f (k + 1) a0 a1 a2 a3 a4) := by
  intro a0 a1 a2 a3 a4 k
  obtain ⟨ih0, ih1, ih2⟩ := lanes_Split.mono_l k
  unfold lanes_Split.f
  repeat' first
      | (with_reducible exact ih0 _ _ _ _ _ _)
      | (with_reducible exact ih1 _ _ _ _ _)
      | (with_reducible exact ih2 _ _ _ _ _ _ _)
      | (with_reducible exact LeO.refl _)
      | (with_reducible exact LeO.none _)
      | (with_reducible refine LeO.ite ?_ ?_)
      | (with_reducible refine LeO.bind ?_ (fun _ => ?_))
      | exact ih0 _ _ _ _ _ _
      | exact ih1 _ _ _ _ _
      | exact ih2 _ _ _ _ _ _ _
      | exact LeO.none _
      | refine LeO.ite ?_ ?_
      | refine LeO.bind ?_ (fun _ => ?_)
end Go.Proofs.YtjecdciabpjgcaaGreatDoor.PLz
namespace Go.Proofs.YtjecdciabpjgcaaGreatDoor.Ref
set_option linter.unusedVariables false
set_option linter.unusedSimpArgs false
open Go.RowKit Go.Proofs.YtjecdciabpjgcaaGreatDoorW.PrintWords Go.Proofs.YtjecdciabpjgcaaGreatDoor.Fl
theorem x71 (n : Int) (w : World) : (callFunc 143 #[.int .u32 n]).run Tryz.prog w = .ok (.value (.float .f32 n.toNat)) w := by
  rw [run_callFunc_extern Tryz.func143 (by kernel_rfl) (by kernel_rfl) (by kernel_rfl) (e := Extern.MathFloatBits.float32frombits) (by kernel_rfl)]; rfl
theorem x80 (n : Int) (w : World) : (callFunc 144 #[.int .u64 n]).run Tryz.prog w = .ok (.value (.float .f64 n.toNat)) w := by
  rw [run_callFunc_extern Tryz.func144 (by kernel_rfl) (by kernel_rfl) (by kernel_rfl) (e := Extern.MathFloatBits.float64frombits) (by kernel_rfl)]; rfl
/-- A word of 32 bits, as a number of so many. -/
def s32 (a : Int) : Nat := (a % 4294967296).toNat
theorem F32 (a : Int) (w : World) :
    Calls Tryz.prog 113 #[.int .u64 a] w fun e w' => e = .returned (.float .f32 (s32 a)) ∧ w' = w := by
  have hx := fun n => x71 n
  go_enter Tryz.func113, Tryz.ntmps113
  go_wp2
  go_ret
  exact ⟨rfl, rfl⟩
theorem F64 (a : Int) (w : World) :
    Calls Tryz.prog 114 #[.int .u64 a] w fun e w' => e = .returned (.float .f64 a.toNat) ∧ w' = w := by
  have hx := fun n => x80 n
  go_enter Tryz.func114, Tryz.ntmps114
  go_wp2
  go_ret
  exact ⟨rfl, rfl⟩
/-- A conversion to 64 bits: the value, or of a NaN a NaN of the tape's. -/
theorem run_wide (b : Nat) (h : rungOf Ieee.single b ≤ Ieee.single.infRung) (w : World) : (convert 133 104 (.float .f32 b)).run Tryz.prog w = .ok (.float .f64 (wd b)) w := by
  refine run_convert_float_float w 133 104 .f32 .f64 b (wd b) (by rw [Tryz.underlying133]; rfl) Tryz.underlying104 ?_
  unfold floatToFloatBits
  rw [if_neg (by decide)]
  by_cases c : rungOf Ieee.single b = Ieee.single.infRung
  · rw [show FloatKind.f32.decode b = .infinity (negOf Ieee.single b) from read_inf Ieee.single b bin_single c]
    have : wd b = Ieee.double.word (negOf Ieee.single b) Ieee.double.infRung := by
      unfold wd; rw [read_inf Ieee.single b bin_single c]; rfl
    rw [this]; rfl
  · obtain ⟨k, q, a1, a2, a3, _⟩ := wd_fin b (by omega)
    have hr := read_num Ieee.single b (by omega)
    rw [show FloatKind.f32.decode b = .number (negOf Ieee.single b) (magOf Ieee.single (rungOf Ieee.single b)) (Ieee.single.leastPlace + (plOf Ieee.single (rungOf Ieee.single b) : Nat)) from hr]
    have e : FloatKind.f64.encode (.number (negOf Ieee.single b) (magOf Ieee.single (rungOf Ieee.single b)) (Ieee.single.leastPlace + (plOf Ieee.single (rungOf Ieee.single b) : Nat))) = wd b := by
      unfold wd; rw [hr]; rfl
    simp only [e]
    rw [show FloatKind.f64.decode (wd b) = _ from a2]
    rfl
/-- The NaN that the tape gives. -/
def nanC (w : World) (b : Nat) : Nat := Question.cut (.nanConv .f64 b) (w.tape w.drawn (.nanConv .f64 b))
theorem nan64 (t : Nat) : Ieee.double.infRung < rungOf Ieee.double ((t % 2) * 2 ^ 63 + 0x7ff0000000000000 + 1 + (t / 2) % (2 ^ 52 - 1)) := by
  unfold rungOf
  rw [d_inf, d_sgn]
  have h1 : t % 2 < 2 := Nat.mod_lt _ (by decide)
  have h2 : t / 2 % (2 ^ 52 - 1) < 2 ^ 52 - 1 := Nat.mod_lt _ (by decide)
  generalize t % 2 = u at *
  generalize t / 2 % (2 ^ 52 - 1) = v at *
  omega
theorem run_wide_nan (b : Nat) (h : Ieee.single.infRung < rungOf Ieee.single b) (w : World) : (convert 133 104 (.float .f32 b)).run Tryz.prog w = .ok (.float .f64 (nanC w b)) w.drew := by
  have hd : FloatKind.f32.decode b = .nan (negOf Ieee.single b) (rungOf Ieee.single b - Ieee.single.infRung) := read_nan Ieee.single b bin_single h
  have hs : Tryz.prog.underlying 133 = some (.float .f32) := Tryz.underlying133
  simp [convert, run_underlying hs, run_underlying Tryz.underlying104, Conv.floatToFloat, hd]
  rfl
/-- What the bits of a float come to, as one of 64. -/
def Val (n a : Int) (x : Nat) : Prop :=
  if n = 32 then (rungOf Ieee.single (s32 a) ≤ Ieee.single.infRung → x = wd (s32 a)) ∧ (Ieee.single.infRung < rungOf Ieee.single (s32 a) → Ieee.double.infRung < rungOf Ieee.double x)
  else x = a.toNat
structure ValQ (n a : Int) (w : World) (e : Ending) (w' : World) : Prop where mk :: (out : ∃ x k, e = .returned (.float .f64 x) ∧ w' = w.drewN k ∧ Val n a x)
theorem value (n a : Int) (w : World) : Calls Tryz.prog 80 #[.int .i64 n, .int .u64 a] w (ValQ n a w) := by
  by_cases c : n = 32
  · subst c
    by_cases h : rungOf Ieee.single (s32 a) ≤ Ieee.single.infRung
    · have hc := fun w => run_wide (s32 a) h w
      have V : Hid (Val 32 a (wd (s32 a))) := Lib.hid (by unfold Val; rw [if_pos rfl]; exact ⟨fun _ => rfl, fun x => by omega⟩)
      clear h
      go_enter Tryz.func80, Tryz.ntmps80
      go_wp2_with (go_at_call 113; refine (F32 _ _).mono ?_; rintro e w' ⟨rfl, rfl⟩)
      go_ret
      exact ⟨_, 0, rfl, rfl, V.out⟩
    · have hc := fun w => run_wide_nan (s32 a) (by omega) w
      have V : Hid (∀ w : World, Val 32 a (nanC w (s32 a))) := Lib.hid (by
        intro w; unfold Val; rw [if_pos rfl]; exact ⟨fun x => by omega, fun _ => nan64 _⟩)
      clear h
      go_enter Tryz.func80, Tryz.ntmps80
      go_wp2_with (go_at_call 113; refine (F32 _ _).mono ?_; rintro e w' ⟨rfl, rfl⟩)
      go_ret
      exact ⟨_, 1, rfl, rfl, V.out _⟩
  · have V : Hid (Val n a a.toNat) := Lib.hid (by unfold Val; rw [if_neg c])
    have c1 : (n == 32) = false := beq_eq_false_iff_ne.2 c
    go_enter Tryz.func80, Tryz.ntmps80
    go_wp2_with (go_at_call 114; refine (F64 _ _).mono ?_; rintro e w' ⟨rfl, rfl⟩)
    go_ret
    exact ⟨_, 0, rfl, rfl, V.out⟩
end Go.Proofs.YtjecdciabpjgcaaGreatDoor.Ref
namespace Go.Proofs.YtjecdciabpjgcaaGreatDoor.Ref
set_option linter.unusedVariables false
set_option linter.unusedSimpArgs false
open Go.RowKit Go.Proofs.YtjecdciabpjgcaaGreatDoorW.PrintWords Go.Proofs.YtjecdciabpjgcaaGreatDoor.Fl
theorem w64 (n a : Int) (h : n ≠ 32) : fmtOf n = Ieee.double ∧ wOf n a = a.toNat := by unfold fmtOf wOf; rw [if_neg h, if_neg h]; exact ⟨rfl, rfl⟩
theorem w32 (a : Int) : fmtOf 32 = Ieee.single ∧ wOf 32 a = s32 a := ⟨rfl, rfl⟩
theorem val_nan {n a : Int} {x : Nat} (hv : Val n a x) (h : (fmtOf n).infRung < rungOf (fmtOf n) (wOf n a)) : Ieee.double.infRung < rungOf Ieee.double x := by
  unfold Val at hv
  by_cases c : n = 32
  · subst c; rw [if_pos rfl] at hv; exact hv.2 h
  · rw [if_neg c] at hv; subst hv
    rw [(w64 n a c).1, (w64 n a c).2] at h; exact h
theorem val_num {n a : Int} {x : Nat} (hv : Val n a x) (h : rungOf (fmtOf n) (wOf n a) ≤ (fmtOf n).infRung) : (n = 32 → x = wd (s32 a)) ∧ rungOf Ieee.double x ≤ Ieee.double.infRung ∧
    (rungOf Ieee.double x = 0 ↔ rungOf (fmtOf n) (wOf n a) = 0) ∧ (rungOf Ieee.double x = Ieee.double.infRung ↔ rungOf (fmtOf n) (wOf n a) = (fmtOf n).infRung) := by
  unfold Val at hv
  by_cases c : n = 32
  · subst c; rw [if_pos rfl] at hv
    have h' : rungOf Ieee.single (s32 a) ≤ Ieee.single.infRung := h
    rw [(w32 a).1, (w32 a).2]
    have e := hv.1 h'
    refine ⟨fun _ => e, ?_⟩
    rw [e]
    by_cases ci : rungOf Ieee.single (s32 a) = Ieee.single.infRung
    · have := wd_inf (s32 a) ci
      refine ⟨by omega, ?_, ?_⟩
      · rw [this.2.1, ci]; exact ⟨fun x => absurd x (by decide +kernel), fun x => absurd x (by decide +kernel)⟩
      · exact ⟨fun _ => ci, fun _ => this.2.1⟩
    · obtain ⟨k, q, a1, a2, a3, a4, a5⟩ := wd_fin (s32 a) (by omega)
      exact ⟨by omega, a4, by omega, by omega⟩
  · rw [if_neg c] at hv; subst hv
    rw [(w64 n a c).1, (w64 n a c).2] at h ⊢
    exact ⟨fun e => absurd e c, h, Iff.rfl, Iff.rfl⟩
theorem key_zero : Fl.keyOf Ieee.double 0 = 0 := by decide +kernel
theorem rung_zero : rungOf Ieee.double 0 = 0 := by decide +kernel
/-- Is a float nought? -/
theorem val_zero {n a : Int} {x : Nat} (hx : Val n a x) : (Ieee.double.order x 0 == some .eq) = decide (rungOf (fmtOf n) (wOf n a) = 0) := by
  by_cases ha : rungOf (fmtOf n) (wOf n a) ≤ (fmtOf n).infRung
  · obtain ⟨_, h1, h2, _⟩ := val_num hx ha
    rw [order_key Ieee.double x 0 bin_double h1 (by rw [rung_zero]; decide +kernel), key_zero]
    have cmp : ∀ a b : Int, compare a b = if a < b then .lt else if a = b then .eq else .gt := fun a b => rfl
    rw [cmp]
    by_cases z : rungOf (fmtOf n) (wOf n a) = 0
    · rw [decide_eq_true z]
      have : Fl.keyOf Ieee.double x = 0 := by unfold Fl.keyOf; rw [h2.2 z]; split <;> rfl
      rw [this]; rfl
    · rw [decide_eq_false z]
      have : rungOf Ieee.double x ≠ 0 := fun e => z (h2.1 e)
      have : Fl.keyOf Ieee.double x ≠ 0 := by unfold Fl.keyOf; split <;> omega
      rw [if_neg this]
      by_cases l : Fl.keyOf Ieee.double x < 0
      · rw [if_pos l]; rfl
      · rw [if_neg l]; rfl
  · rw [order_nan Ieee.double _ _ bin_double (.inl (val_nan hx (by omega)))]
    have : rungOf (fmtOf n) (wOf n a) ≠ 0 := by omega
    rw [decide_eq_false this]; rfl
theorem order_self (f : Ieee.Format) (w : Nat) (hi : f.binade ≤ f.infRung) (h : rungOf f w ≤ f.infRung) : f.order w w = some .eq := by
  rw [order_key f w w hi h h]
  have cmp : ∀ a b : Int, compare a b = if a < b then .lt else if a = b then .eq else .gt := fun a b => rfl
  rw [cmp, if_neg (by omega), if_pos rfl]
/-- The NaN that the tape gives behind an operation that has no answer. -/
def nanB (w : World) (k : FloatKind) (x y : Nat) : Nat := Question.cut (.nanBits k x y) (w.tape w.drawn (.nanBits k x y))
theorem run_float_nan (op : BinOp) (ho : op = .add ∨ op = .sub ∨ op = .mul ∨ op = .quo) (t : TypeId) (k : FloatKind) (x y : Nat) (h : floatBits op k x y = none) (w : World) :
    (binOp op t (.float k x) (.float k y)).run Tryz.prog w = .ok (.float k (nanB w k x y)) w.drew := by
  unfold floatBits at h
  rcases ho with rfl | rfl | rfl | rfl <;> simp only at h <;> simp [binOp, Op.floatArith, h] <;> rfl
theorem nanB_64 (w : World) (x y : Nat) : Ieee.double.infRung < rungOf Ieee.double (nanB w .f64 x y) := nan64 _
end Go.Proofs.YtjecdciabpjgcaaGreatDoor.Ref
namespace Go.Proofs.YtjecdciabpjgcaaGreatDoor.Ref
set_option linter.unusedVariables false
set_option linter.unusedSimpArgs false
open Go.RowKit Go.Proofs.YtjecdciabpjgcaaGreatDoorW.PrintWords Go.Proofs.YtjecdciabpjgcaaGreatDoor.Fl
theorem drawn_n {w w' : World} {k : Nat} (h : w' = w.drewN k) : Drawn0 w w' := ⟨⟨k, h⟩⟩
theorem kind_wrong (n a : Int) (w : World) (h : n ≠ 32) (h' : n ≠ 64) : Calls Tryz.prog 43 #[.int .i64 n, .int .u64 a] w fun e w' => e = .returned (.int .i64 0) ∧ Drawn0 w w' := by
  have c1 : (n == 32) = false := beq_eq_false_iff_ne.2 h
  have c2 : (n == 64) = false := beq_eq_false_iff_ne.2 h'
  have c3 : (n != 32) = true := bne_iff_ne.2 h
  have c4 : (n != 64) = true := bne_iff_ne.2 h'
  go_enter Tryz.func43, Tryz.ntmps43
  go_wp2_with fail
  go_ret
  exact ⟨rfl, Drawn0.refl _⟩
/-- The tests of a size that is right, as the walk asks them. -/
def SizeB (n : Int) : Prop := (n != 32) = false ∨ ((n != 32) = true ∧ (n != 64) = false)
theorem sizeB {n : Int} (h : n = 32 ∨ n = 64) : SizeB n := by
  rcases h with rfl | rfl
  · exact .inl rfl
  · exact .inr ⟨rfl, rfl⟩
theorem kind_right (n a : Int) (w : World) (h : n = 32 ∨ n = 64) : Calls Tryz.prog 43 #[.int .i64 n, .int .u64 a] w fun e w' => e = .returned (.int .i64 (kindF n a)) ∧ Drawn0 w w' := by
  have K := Lib.hid (show kindF n a = if rungOf (fmtOf n) (wOf n a) = 0 then 1 else if nanW (fmtOf n) (wOf n a) then 4 else if rungOf (fmtOf n) (wOf n a) = (fmtOf n).infRung then 3 else 2 from by
    unfold kindF; rw [if_neg (by omega)])
  have c := sizeB h
  clear h
  unfold SizeB at c
  rcases c with c1 | ⟨c1, c2⟩
  all_goals
    go_enter Tryz.func43, Tryz.ntmps43
    go_wp2_with fail
    refine (value _ _ _).mono ?_
    rintro e w' ⟨x, k, rfl, rfl, hv⟩
    have z := val_zero hv
    by_cases c0 : rungOf (fmtOf n) (wOf n a) = 0
    · rw [decide_eq_true c0] at z
      have Z : (FloatKind.f64.format.order x 0 == some Ordering.eq) = true := z
      have C0 := Lib.hid c0
      clear c0 z hv
      go_wp2_with fail
      go_ret
      exact ⟨by rw [K.out, if_pos C0.out]; rfl, drawn_n rfl⟩
    · rw [decide_eq_false c0] at z
      have Z : (FloatKind.f64.format.order x 0 == some Ordering.eq) = false := z
      by_cases cn : (fmtOf n).infRung < rungOf (fmtOf n) (wOf n a)
      · have hn := order_nan Ieee.double x x bin_double (.inl (val_nan hv cn))
        have N : (FloatKind.f64.format.order x x != some Ordering.eq) = true := by rw [show FloatKind.f64.format.order x x = none from hn]; rfl
        have C0 := Lib.hid c0; have CN := Lib.hid cn
        clear c0 z hv hn cn
        go_wp2_with fail
        go_ret
        exact ⟨by rw [K.out, if_neg C0.out, if_pos (by unfold nanW; exact decide_eq_true CN.out)]; rfl, drawn_n rfl⟩
      · obtain ⟨_, v1, v2, v3⟩ := val_num hv (by omega)
        have hn := order_self Ieee.double x bin_double v1
        have N : (FloatKind.f64.format.order x x != some Ordering.eq) = false := by rw [show FloatKind.f64.format.order x x = some .eq from hn]; rfl
        by_cases ci : rungOf (fmtOf n) (wOf n a) = (fmtOf n).infRung
        · have hs : floatBits .sub .f64 x x = none := by
            have r := read_inf Ieee.double x bin_double (v3.2 ci)
            show Ieee.double.sub x x = none
            unfold Ieee.Format.sub
            rw [r]
            cases negOf Ieee.double x <;> rfl
          have S := fun t w => run_float_nan .sub (by decide) t .f64 x x hs w
          have M : ∀ w : World, (FloatKind.f64.format.order (nanB w .f64 x x) 0 != some Ordering.eq) = true := by
            intro w
            rw [show FloatKind.f64.format.order (nanB w .f64 x x) 0 = none from order_nan Ieee.double _ _ bin_double (.inl (nanB_64 w x x))]; rfl
          have C0 := Lib.hid c0; have CN := Lib.hid cn; have CI := Lib.hid ci
          clear c0 z hv hn cn ci v1 v2 v3 hs
          go_wp2_with fail
          go_ret
          exact ⟨by rw [K.out, if_neg C0.out, if_neg (by unfold nanW; rw [decide_eq_false CN.out]; decide), if_pos CI.out]; rfl, drawn_n rfl⟩
        · have hs : ∃ r, floatBits .sub .f64 x x = some r ∧ Ieee.double.order r 0 = some .eq := by
            have hlt : rungOf Ieee.double x < Ieee.double.infRung := by
              have := mt v3.1 ci; omega
            have r := read_num Ieee.double x hlt
            refine ⟨Ieee.double.word false 0, ?_, by decide +kernel⟩
            show Ieee.double.sub x x = _
            unfold Ieee.Format.sub
            rw [r]
            simp only [Ieee.Datum.opposite, Ieee.Datum.sum, Option.map_some]
            refine congrArg some ?_
            have e : ∀ u, Ieee.signed (negOf Ieee.double x) (magOf Ieee.double (rungOf Ieee.double x)) u + Ieee.signed (!negOf Ieee.double x) (magOf Ieee.double (rungOf Ieee.double x)) u = 0 := by
              intro u; unfold Ieee.signed; cases negOf Ieee.double x <;> simp <;> omega
            rw [e, if_pos rfl]
            unfold Ieee.Format.write
            rw [show (0 : Int).natAbs = 0 from rfl, show (negOf Ieee.double x && !negOf Ieee.double x) = false from by cases negOf Ieee.double x <;> rfl]
            exact nearest_zero ..
          obtain ⟨r, hs, hr⟩ := hs
          have S := fun t w => run_float_arith (P := Tryz.prog) w .sub t .f64 x x r hs
          have M : (FloatKind.f64.format.order r 0 != some Ordering.eq) = false := by
            rw [show FloatKind.f64.format.order r 0 = some .eq from hr]; rfl
          have C0 := Lib.hid c0; have CN := Lib.hid cn; have CI := Lib.hid ci
          clear c0 z hv hn cn ci v1 v2 v3 hs hr
          go_wp2_with fail
          go_ret
          exact ⟨by rw [K.out, if_neg C0.out, if_neg (by unfold nanW; rw [decide_eq_false CN.out]; decide), if_neg CI.out]; rfl, drawn_n rfl⟩
theorem canon_c (n : Int) (w : World) (h : n = 32 ∨ n = 64) : Calls Tryz.prog 45 #[.int .i64 n] w fun e w' => e = .returned (.int .u64 (canon n)) ∧ w' = w := by
  rcases h with rfl | rfl
  all_goals
    go_enter Tryz.func45, Tryz.ntmps45
    go_wp2
    go_ret
    exact ⟨rfl, rfl⟩
end Go.Proofs.YtjecdciabpjgcaaGreatDoor.Ref
namespace Go.Proofs.YtjecdciabpjgcaaGreatDoor.Lz
set_option linter.unusedVariables false
set_option linter.unusedSimpArgs false
open Go.RowKit Go.Proofs.YtjecdciabpjgcaaGreatDoorW.PrintWords Go.Proofs.YtjecdciabpjgcaaGreatDoor.Lx Go.Proofs.YtjecdciabpjgcaaGreatDoor.PLz
theorem hx1_all : ((List.range 16).all fun d => decide ((⟨#[48, 49, 50, 51, 52, 53, 54, 55, 56, 57, 97, 98, 99, 100, 101, 102]⟩ : ByteArray).extract d (d + 1) = ⟨#[hxd d]⟩)) = true := by decide +kernel
theorem hx1 (d : Nat) (h : d < 16) : (⟨#[48, 49, 50, 51, 52, 53, 54, 55, 56, 57, 97, 98, 99, 100, 101, 102]⟩ : ByteArray).extract d (d + 1) = ⟨[hxd d].toArray⟩ :=
  of_decide_eq_true (List.all_eq_true.1 hx1_all d (List.mem_range.2 h))
theorem dc1_all : ((List.range 10).all fun d => decide ((⟨#[48, 49, 50, 51, 52, 53, 54, 55, 56, 57]⟩ : ByteArray).extract d (d + 1) = ⟨#[UInt8.ofNat (48 + d)]⟩)) = true := by decide +kernel
theorem dc1 (d : Nat) (h : d < 10) : (⟨#[48, 49, 50, 51, 52, 53, 54, 55, 56, 57]⟩ : ByteArray).extract d (d + 1) = ⟨[UInt8.ofNat (48 + d)].toArray⟩ :=
  of_decide_eq_true (List.all_eq_true.1 dc1_all d (List.mem_range.2 h))
theorem refHex : ∀ (k n : Nat), 1 ≤ k → k ≤ 20 → n < 16 ^ k → n < 18446744073709551616 → bodkinref08_hexOf.f k (n : Int) = some ⟨(hexT n).toArray⟩
  | 0, n, h, _, _, _ => by omega
  | k + 1, n, _, hk, hn, hl => by
    unfold bodkinref08_hexOf.f
    by_cases h : n < 16
    · have w1 : IntKind.u64.wrap ((n : Int) + 1) = ((n + 1 : Nat) : Int) := by rw [IntKind.wrap_u64]; omega
      rw [if_pos (by omega), if_pos (by omega), w1, if_pos (by omega), if_pos (by omega), Int.toNat_natCast, Int.toNat_natCast, hx1 n h, hexT_lt n h]
    · have hk1 : 1 ≤ k := by
        rcases Nat.eq_zero_or_pos k with rfl | h0
        · simp at hn; omega
        · exact h0
      have w1 : IntKind.u64.wrap (Int.tdiv (n : Int) 16) = ((n / 16 : Nat) : Int) := by
        rw [show Int.tdiv (n : Int) 16 = ((n / 16 : Nat) : Int) from rfl, IntKind.wrap_u64]; omega
      have w2 : Int.tmod (n : Int) 16 = ((n % 16 : Nat) : Int) := rfl
      have hp : 16 ≤ 16 ^ k := by
        have : 16 ^ 1 ≤ 16 ^ k := Nat.pow_le_pow_right (by omega) hk1
        omega
      have h16 := Nat.mod_lt n (show 0 < 16 by omega)
      rw [if_neg (by omega), w1, w2, refHex k (n / 16) hk1 (by omega) (by rw [Nat.pow_succ] at hn; exact Nat.div_lt_of_lt_mul (by omega)) (by omega), Option.bind_some,
        refHex k (n % 16) hk1 (by omega) (by omega) (by omega), Option.bind_some]
      have l1 := hexT_len 16 (n / 16) (by have : (16 : Nat) ^ 16 = 18446744073709551616 := by decide
                                          omega) (by omega)
      rw [hexT_ge n (by omega), hexT_lt (n % 16) h16, if_pos (by rw [size_arr, size_arr]; simp; omega)]
      exact congrArg some (ba_app1 _ _)
theorem decT_len : ∀ (k n : Nat), n < 10 ^ k → 1 ≤ k → (Lib.decDigits n).length ≤ k
  | 0, n, _, h => by omega
  | k + 1, n, h, _ => by
    by_cases h10 : n < 10
    · rw [decT_lt n h10]; simp
    · have hk : 1 ≤ k := by
        rcases Nat.eq_zero_or_pos k with rfl | h0
        · simp at h; omega
        · exact h0
      have := decT_len k (n / 10) (by rw [Nat.pow_succ] at h; exact Nat.div_lt_of_lt_mul (by omega)) hk
      rw [decT_ge n h10, List.length_append, List.length_singleton]
      omega
theorem refSmall : ∀ (k n : Nat), 1 ≤ k → k ≤ 30 → n < 10 ^ k → n < 18446744073709551616 → bodkinref08_small.f k (n : Int) = some ⟨(Lib.decDigits n).toArray⟩
  | 0, n, h, _, _, _ => by omega
  | k + 1, n, _, hk, hn, hl => by
    unfold bodkinref08_small.f
    by_cases h : n < 10
    · have w1 : IntKind.u64.wrap ((n : Int) + 1) = ((n + 1 : Nat) : Int) := by rw [IntKind.wrap_u64]; omega
      rw [if_pos (by omega), if_pos (by omega), w1, if_pos (by omega), if_pos (by omega), Int.toNat_natCast, Int.toNat_natCast, dc1 n h, decT_lt n h]
    · have hk1 : 1 ≤ k := by
        rcases Nat.eq_zero_or_pos k with rfl | h0
        · simp at hn; omega
        · exact h0
      have w1 : IntKind.u64.wrap (Int.tdiv (n : Int) 10) = ((n / 10 : Nat) : Int) := by
        rw [show Int.tdiv (n : Int) 10 = ((n / 10 : Nat) : Int) from rfl, IntKind.wrap_u64]; omega
      have w2 : Int.tmod (n : Int) 10 = ((n % 10 : Nat) : Int) := rfl
      have hp : 10 ≤ 10 ^ k := by
        have : 10 ^ 1 ≤ 10 ^ k := Nat.pow_le_pow_right (by omega) hk1
        omega
      have h16 := Nat.mod_lt n (show 0 < 10 by omega)
      rw [if_neg (by omega), w1, w2, refSmall k (n / 10) hk1 (by omega) (by rw [Nat.pow_succ] at hn; exact Nat.div_lt_of_lt_mul (by omega)) (by omega), Option.bind_some,
        refSmall k (n % 10) hk1 (by omega) (by omega) (by omega), Option.bind_some]
      have l1 := decT_len 20 (n / 10) (by have : (10 : Nat) ^ 20 = 100000000000000000000 := by decide
                                          omega) (by omega)
      rw [decT_ge n h, decT_lt (n % 10) h16, if_pos (by rw [size_arr, size_arr]; simp; omega)]
      exact congrArg some (ba_app1 _ _)
theorem refNumber (n : Int) (h1 : -9223372036854775808 ≤ n) (h2 : n ≤ 9223372036854775807) : bodkinref08_Number.f 20 n = some ⟨(Lib.itoa n).toArray⟩ := by
  have e20 : (10 : Nat) ^ 20 = 100000000000000000000 := by decide
  unfold bodkinref08_Number.f Lib.itoa
  by_cases h : n < 0
  · have w1 : IntKind.u64.wrap ((IntKind.u64.wrap (wrap64 (-(wrap64 (n + 1))))) + 1) = (n.natAbs : Int) := by
      have a1 : wrap64 (n + 1) = n + 1 := by unfold wrap64; omega
      have a2 : wrap64 (-(n + 1)) = -(n + 1) := by unfold wrap64; omega
      rw [a1, a2, IntKind.wrap_u64, IntKind.wrap_u64]
      omega
    have l1 := decT_len 20 n.natAbs (by rw [e20]; omega) (by omega)
    rw [if_pos h, if_pos h, w1, refSmall 20 n.natAbs (by omega) (by omega) (by rw [e20]; omega) (by omega), Option.bind_some, if_pos (by rw [size_arr]; omega)]
    exact congrArg some (ba_app1 [45] _)
  · have w1 : IntKind.u64.wrap n = (n.toNat : Int) := by rw [IntKind.wrap_u64]; omega
    rw [if_neg h, if_neg h, w1, refSmall 20 n.toNat (by omega) (by omega) (by rw [e20]; omega) (by omega), Option.bind_some]
theorem p16 : (16 : Nat) ^ 16 = 18446744073709551616 := by decide
theorem refHex_c (n : Nat) (h : n < 18446744073709551616) (w : World) : Calls Tryz.prog 46 #[.int .u64 (n : Int)] w fun e w' => e = .returned (.string ⟨(hexT n).toArray⟩) ∧ Drawn0 w w' :=
  bodkinref08_hexOf.calls 16 (n : Int) _ w (refHex 16 n (by omega) (by omega) (by rw [p16]; exact h) h)
theorem refNumber_c (n : Int) (h : -9223372036854775808 ≤ n ∧ n ≤ 9223372036854775807) (w : World) : Calls Tryz.prog 41 #[.int .i64 n] w fun e w' => e = .returned (.string ⟨(Lib.itoa n).toArray⟩) ∧ Drawn0 w w' :=
  bodkinref08_Number.calls 20 n _ w (refNumber n h.1 h.2)
theorem refBit_l (n : Nat) (hn : n ≤ 64) : ∀ (d i a k : Nat), i + d = n → d + 1 ≤ k → a < 18446744073709551616 → bodkinref02_bit.l0 k (a : Int) (n : Int) (i : Int) = some ((a / 2 ^ d % 2 : Nat) : Int) := by
  intro d
  induction d with
  | zero =>
    intro i a k hi hk ha
    obtain ⟨k, rfl⟩ : ∃ j, k = j + 1 := ⟨k - 1, by omega⟩
    unfold bodkinref02_bit.l0
    rw [if_neg (by omega), Nat.pow_zero, Nat.div_one]
    rfl
  | succ d ih =>
    intro i a k hi hk ha
    obtain ⟨k, rfl⟩ : ∃ j, k = j + 1 := ⟨k - 1, by omega⟩
    unfold bodkinref02_bit.l0
    have w1 : IntKind.u64.wrap (Int.tdiv (a : Int) 2) = ((a / 2 : Nat) : Int) := by
      rw [show Int.tdiv (a : Int) 2 = ((a / 2 : Nat) : Int) from rfl, IntKind.wrap_u64]; omega
    have w2 : wrap64 ((i : Int) + 1) = ((i + 1 : Nat) : Int) := by unfold wrap64; omega
    rw [if_pos (by omega), w1, w2, ih (i + 1) (a / 2) k (by omega) (by omega) (by omega), Nat.div_div_eq_div_mul, Nat.pow_succ, Nat.mul_comm 2]
theorem refBit (a n : Nat) (hn : n ≤ 64) (ha : a < 18446744073709551616) (k : Nat) (hk : 66 ≤ k) : bodkinref02_bit.f k (a : Int) (n : Int) = some ((a / 2 ^ n % 2 : Nat) : Int) :=
  refBit_l n hn n 0 a k (by omega) (by omega) ha
theorem refSgn (k v : Nat) (hk : k = 8 ∨ k = 16 ∨ k = 32 ∨ k = 64) (hv : v < 18446744073709551616) : bodkinref02_Signed.f 70 (k : Int) (v : Int) = some (sgnB k v) := by
  have hr : bodkinref02_Right.f (k : Int) = some true := by rcases hk with rfl | rfl | rfl | rfl <;> rfl
  have hlt := Nat.mod_lt v (Nat.two_pow_pos k)
  have hpk : 2 ^ k ≤ 18446744073709551616 := by rcases hk with rfl | rfl | rfl | rfl <;> decide
  have e : (2 : Nat) ^ k = 2 * 2 ^ (k - 1) := by rw [← Nat.pow_succ', show (k - 1).succ = k by omega]
  have hw : wrap64 ((k : Int) - 1) = ((k - 1 : Nat) : Int) := by unfold wrap64; omega
  unfold bodkinref02_Signed.f sgnB
  rw [hr]
  simp only [Option.bind_some, if_true]
  rw [refCut k hk v hv 70 (by omega)]
  simp only [Option.bind_some]
  rw [hw, refBit _ (k - 1) (by omega) (by omega) 70 (by omega)]
  simp only [Option.bind_some]
  have hneg : ∀ x : Nat, x < 2 ^ k → 0 < x → bodkinref02_Cut.f 70 (k : Int) (IntKind.u64.wrap (-(x : Int))) = some ((2 ^ k - x : Nat) : Int) := by
    intro x hx h0
    have w : IntKind.u64.wrap (-(x : Int)) = ((18446744073709551616 - x : Nat) : Int) := by rw [IntKind.wrap_u64]; omega
    rw [w, refCut k hk _ (by omega) 70 (by omega)]
    have := cut_neg k x hk (by omega)
    rw [Nat.mod_eq_of_lt (show 18446744073709551616 - x < 18446744073709551616 by omega)] at this
    rw [this, show 2 ^ k - 1 + 1 = 2 ^ k by omega, Nat.mod_eq_of_lt (by omega)]
  generalize hV : v % 2 ^ k = V at *
  have hp : 0 < 2 ^ (k - 1) := Nat.two_pow_pos _
  have hpl : 2 ^ (k - 1) ≤ 9223372036854775808 := by omega
  by_cases h : V < 2 ^ (k - 1)
  · rw [if_pos h, Nat.div_eq_of_lt h, if_neg (by decide)]
    have : wrap64 (V : Int) = (V : Int) := by unfold wrap64; omega
    rw [this]
  · have hd : V / 2 ^ (k - 1) = 1 := by
      have h1 : V / 2 ^ (k - 1) < 2 := (Nat.div_lt_iff_lt_mul hp).2 (by omega)
      have h2 : 1 ≤ V / 2 ^ (k - 1) := (Nat.le_div_iff_mul_le hp).2 (by omega)
      omega
    rw [if_neg h, hd, if_pos (by decide), hneg V hlt (by omega)]
    simp only [Option.bind_some]
    congr 1
    have a1 : IntKind.u64.wrap (((2 ^ k - V : Nat) : Int) - 1) = ((2 ^ k - V : Nat) : Int) - 1 := by rw [IntKind.wrap_u64]; omega
    have a2 : wrap64 (((2 ^ k - V : Nat) : Int) - 1) = ((2 ^ k - V : Nat) : Int) - 1 := by unfold wrap64; omega
    have a3 : wrap64 (-(((2 ^ k - V : Nat) : Int) - 1)) = -(((2 ^ k - V : Nat) : Int) - 1) := by unfold wrap64; omega
    rw [a1, a2, a3]
    unfold wrap64
    omega
theorem refSgn_c (k v : Nat) (hk : k = 8 ∨ k = 16 ∨ k = 32 ∨ k = 64) (hv : v < 18446744073709551616) (w : World) : Calls Tryz.prog 42 #[.int .i64 (k : Int), .int .u64 (v : Int)] w fun e w' => e = .returned (.int .i64 (sgnB k v)) ∧ Drawn0 w w' :=
  bodkinref02_Signed.calls 70 _ _ _ w (refSgn k v hk hv)
set_option maxRecDepth 1000000 in
set_option maxHeartbeats 4000000 in
theorem refShowInt_c (bits : Int) (v : Nat) (hv : v < 18446744073709551616) (w : World) :
    Calls Tryz.prog 15 #[.int .i64 bits, .int .u64 v] w fun e w' => e = .returned (.string ⟨(showI bits v).toArray⟩) ∧ Below w.heap.size w w' := by
  by_cases hr : rightB bits
  · have hS : showI bits v = Lib.itoa (sgnB bits.toNat v) := if_pos hr
    obtain ⟨k, hk, rfl⟩ : ∃ k : Nat, (k = 8 ∨ k = 16 ∨ k = 32 ∨ k = 64) ∧ bits = (k : Int) := ⟨bits.toNat, by unfold rightB at hr; omega, by unfold rightB at hr; omega⟩
    rw [Int.toNat_natCast] at hS
    have hrt : right (k : Int) = true := by rcases hk with rfl | rfl | rfl | rfl <;> decide
    have HRI := Lib.hid (fun w => refRight_c (k : Int) true hrt w)
    have HSG := Lib.hid (fun w => refSgn_c k v hk hv w)
    have HNU := Lib.hid (fun w => refNumber_c (sgnB k v) (sgn_range k v hk) w)
    rw [hS]
    generalize sgnB k v = z at *
    clear hS hr hk hrt
    go_enter Tryz.func15, Tryz.ntmps15
    go_wp2_with (first | (go_at_call 26; refine (HRI.out _).mono ?_; rintro e w1 ⟨rfl, hd⟩; have HB1 := Lib.hid hd.below; clear hd) | (go_at_call 42; refine (HSG.out _).mono ?_; rintro e w2 ⟨rfl, hd⟩; have HB2 := Lib.hid (below_step HB1.out hd.below); clear hd) | (go_at_call 41; refine (HNU.out _).mono ?_; rintro e w3 ⟨rfl, hd⟩; have HB3 := Lib.hid (below_step HB2.out hd.below); clear hd))
    go_ret
    exact ⟨rfl, HB3.out⟩
  · have hS : showI bits v = [] := if_neg hr
    have hrt : right bits = false := by
      unfold rightB at hr
      unfold right
      simp only [not_or] at hr
      obtain ⟨e1, e2, e3, e4⟩ := hr
      simp [e1, e2, e3, e4]
    have HRI := Lib.hid (fun w => refRight_c bits false hrt w)
    rw [hS]
    clear hS hr hrt
    go_enter Tryz.func15, Tryz.ntmps15
    go_wp2_with (go_at_call 26; refine (HRI.out _).mono ?_; rintro e w1 ⟨rfl, hd⟩; have HB1 := Lib.hid hd.below; clear hd)
    go_ret
    exact ⟨rfl, HB1.out⟩
end Go.Proofs.YtjecdciabpjgcaaGreatDoor.Lz
namespace Go.Proofs.YtjecdciabpjgcaaGreatDoor.Lz
set_option linter.unusedVariables false
set_option linter.unusedSimpArgs false
open Go.RowKit Go.Proofs.YtjecdciabpjgcaaGreatDoorW.PrintWords Go.Proofs.YtjecdciabpjgcaaGreatDoor.Lx Go.Proofs.YtjecdciabpjgcaaGreatDoor.PLz
theorem refC3_32 (A : Nat) (hA : A < 4294967296) (w : World) : Calls Tryz.prog 81 #[.int .i64 32, .int .u64 (A : Int)] w fun e w' => e = .returned (.int .u64 (A : Int)) ∧ w = w' := by
  have hc : (A : Int) % 4294967296 = (A : Int) := by omega
  go_enter Tryz.func81, Tryz.ntmps81
  go_wp2
  go_ret
  exact ⟨by simp [hc], rfl⟩
theorem refC3_64 (A : Nat) (hA : A < 18446744073709551616) (w : World) : Calls Tryz.prog 81 #[.int .i64 64, .int .u64 (A : Int)] w fun e w' => e = .returned (.int .u64 (A : Int)) ∧ w = w' := by
  go_enter Tryz.func81, Tryz.ntmps81
  go_wp2
  go_ret
  exact ⟨rfl, rfl⟩
theorem refS3_32 (w : World) : Calls Tryz.prog 82 #[.int .i64 32] w fun e w' => e = .returned (.int .u64 2147483648) ∧ w = w' := by
  go_enter Tryz.func82, Tryz.ntmps82
  go_wp2
  go_ret
  exact ⟨rfl, rfl⟩
theorem refS3_64 (w : World) : Calls Tryz.prog 82 #[.int .i64 64] w fun e w' => e = .returned (.int .u64 9223372036854775808) ∧ w = w' := by
  go_enter Tryz.func82, Tryz.ntmps82
  go_wp2
  go_ret
  exact ⟨rfl, rfl⟩
/-- The parts of a plain number's word, in numbers. -/
theorem partsN_32 (A : Nat) (hA : A < 2147483648) (hk : Fl.kindF 32 (A : Int) = 2) :
    Pure.partsF 32 A = if A / 8388608 = 0 then (false, ((A % 8388608 : Nat) : Int), -149, 0) else (false, ((A % 8388608 + 8388608 : Nat) : Int), -149 + ((A / 8388608 : Nat) : Int) - 1, 0) := by
  have hw : Fl.wOf 32 (A : Int) = A := by unfold Fl.wOf; (first | rw [if_pos rfl] | rw [if_neg (by decide)]); omega
  have hf : Fl.fmtOf 32 = Ieee.single := rfl
  unfold Pure.partsF
  rw [if_pos (.inr hk), hf, hw]
  have hng : Fl.negOf Ieee.single A = false := by unfold Fl.negOf; rw [Fl.s_sgn, Nat.div_eq_of_lt hA]; rfl
  have hr : Fl.rungOf Ieee.single A = A := by unfold Fl.rungOf; rw [Fl.s_sgn]; exact Nat.mod_eq_of_lt hA
  rw [hng, hr]
  unfold Fl.magOf Fl.plOf
  rw [Fl.s_bin, Fl.s_least]
  by_cases h : A < 8388608
  · have h2 : A / 8388608 = 0 := Nat.div_eq_of_lt h
    rw [if_pos h, if_pos h2, h2, Nat.mod_eq_of_lt h]
    rfl
  · have h2 : ¬ A / 8388608 = 0 := by omega
    rw [if_neg h, if_neg h2]
    refine Prod.ext rfl (Prod.ext ?_ (Prod.ext ?_ rfl))
    · show ((8388608 + A % 8388608 : Nat) : Int) = ((A % 8388608 + 8388608 : Nat) : Int)
      omega
    · show (-149 : Int) + ((A / 8388608 - 1 : Nat) : Int) = (-149 : Int) + ((A / 8388608 : Nat) : Int) - 1
      omega
set_option maxRecDepth 1000000 in
set_option maxHeartbeats 4000000 in
theorem refParts_32 (A : Nat) (hA : A < 2147483648) (hi : A < 2139095040) (hk : Fl.kindF 32 (A : Int) = 2) (M : Nat) (E : Int) (hM : Pure.partsF 32 A = (false, (M : Int), E, 0)) (w : World) :
    Calls Tryz.prog 47 #[.int .i64 32, .int .u64 (A : Int)] w fun e w' => e = .returned (.tuple #[.bool false, .int .u64 (M : Int), .int .i64 E, .int .i64 0]) ∧ Below w.heap.size w w' := by
  rw [partsN_32 A hA hk] at hM
  have HK := Lib.hid (fun w => Ref.kind_right 32 (A : Int) w (by decide))
  rw [hk] at HK
  have hm : (A : Int) % 2147483648 = (A : Int) := by omega
  have hsg : (A : Int) < 2147483648 := by omega
  have h64 : (A : Int) % 4294967296 = (A : Int) ∨ True := .inr trivial
  by_cases hx : A / 8388608 = 0
  · rw [if_pos hx] at hM
    obtain ⟨h1, h2⟩ := Prod.mk.inj (Prod.mk.inj hM).2
    have h3 := (Prod.mk.inj h2).1
    have hxI : ((A : Int) / 8388608 == 0) = true := by simp only [beq_iff_eq]; omega
    have hM' : (A : Int) % 8388608 = (M : Int) := by rw [← h1]; omega
    subst h3
    clear hM h1 h2 hx hk hA hi
    have hc : (A : Int) % 4294967296 = (A : Int) := by omega
    clear h64
    go_enter Tryz.func47, Tryz.ntmps47
    go_wp2_with (first | (go_at_call 43; refine (HK.out _).mono ?_; rintro e w1 ⟨rfl, hd⟩; have HB := Lib.hid hd.below; clear hd) | (go_at_call 81; refine (refC3_32 A (by omega) _).mono ?_; rintro e w2 ⟨rfl, rfl⟩) | (go_at_call 82; refine (refS3_32 _).mono ?_; rintro e w3 ⟨rfl, rfl⟩))
    refine bodyPost_ret (results_list (rs := [.tmp 4, .tmp 5, .tmp 6, .tmp 7]) rfl (by simp) (.tmp (.tmp (.tmp (.tmp .nil))))) rfl ?_
    exact ⟨by simp [hsg, hM'], HB.out⟩
  · rw [if_neg hx] at hM
    obtain ⟨h1, h2⟩ := Prod.mk.inj (Prod.mk.inj hM).2
    have h3 := (Prod.mk.inj h2).1
    have hxI : ((A : Int) / 8388608 == 0) = false := by simp only [beq_eq_false_iff_ne, ne_eq]; omega
    obtain ⟨X, hX⟩ : ∃ X : Nat, A / 8388608 = X := ⟨_, rfl⟩
    have hXI : (A : Int) / 8388608 = (X : Int) := by omega
    have hXl : X < 2048 := by omega
    have hXI0 : ((X : Int) == 0) = false := by simp only [beq_eq_false_iff_ne, ne_eq]; omega
    obtain ⟨F, hF⟩ : ∃ F : Nat, A % 8388608 = F := ⟨_, rfl⟩
    have hFI : (A : Int) % 8388608 = (F : Int) := by omega
    have hFl : F < 8388608 := by omega
    rw [hF] at h1
    rw [hX] at h3
    have hs1 : IntKind.u64.wrap ((F : Int) + 8388608) = (M : Int) := by rw [IntKind.wrap_u64]; omega
    have hs2 : (F : Int) + 8388608 = (M : Int) := by omega
    have hs3 : (-149 : Int) + (X : Int) - 1 = E := h3
    clear hM h1 h2 h3 hx hk hA hi hX hF hxI
    have hc : (A : Int) % 4294967296 = (A : Int) := by omega
    clear h64
    go_enter Tryz.func47, Tryz.ntmps47
    go_wp2_with (first | (go_at_call 43; refine (HK.out _).mono ?_; rintro e w1 ⟨rfl, hd⟩; have HB := Lib.hid hd.below; clear hd) | (go_at_call 81; refine (refC3_32 A (by omega) _).mono ?_; rintro e w2 ⟨rfl, rfl⟩) | (go_at_call 82; refine (refS3_32 _).mono ?_; rintro e w3 ⟨rfl, rfl⟩))
    refine bodyPost_ret (results_list (rs := [.tmp 4, .tmp 5, .tmp 6, .tmp 7]) rfl (by simp) (.tmp (.tmp (.tmp (.tmp .nil))))) rfl ?_
    exact ⟨by simp [hs3, hs2, hsg], HB.out⟩
/-- The parts of a plain number's word, in numbers. -/
theorem partsN_64 (A : Nat) (hA : A < 9223372036854775808) (hk : Fl.kindF 64 (A : Int) = 2) :
    Pure.partsF 64 A = if A / 4503599627370496 = 0 then (false, ((A % 4503599627370496 : Nat) : Int), -1074, 0) else (false, ((A % 4503599627370496 + 4503599627370496 : Nat) : Int), -1074 + ((A / 4503599627370496 : Nat) : Int) - 1, 0) := by
  have hw : Fl.wOf 64 (A : Int) = A := by unfold Fl.wOf; (first | rw [if_pos rfl] | rw [if_neg (by decide)]); omega
  have hf : Fl.fmtOf 64 = Ieee.double := rfl
  unfold Pure.partsF
  rw [if_pos (.inr hk), hf, hw]
  have hng : Fl.negOf Ieee.double A = false := by unfold Fl.negOf; rw [Fl.d_sgn, Nat.div_eq_of_lt hA]; rfl
  have hr : Fl.rungOf Ieee.double A = A := by unfold Fl.rungOf; rw [Fl.d_sgn]; exact Nat.mod_eq_of_lt hA
  rw [hng, hr]
  unfold Fl.magOf Fl.plOf
  rw [Fl.d_bin, Fl.d_least]
  by_cases h : A < 4503599627370496
  · have h2 : A / 4503599627370496 = 0 := Nat.div_eq_of_lt h
    rw [if_pos h, if_pos h2, h2, Nat.mod_eq_of_lt h]
    rfl
  · have h2 : ¬ A / 4503599627370496 = 0 := by omega
    rw [if_neg h, if_neg h2]
    refine Prod.ext rfl (Prod.ext ?_ (Prod.ext ?_ rfl))
    · show ((4503599627370496 + A % 4503599627370496 : Nat) : Int) = ((A % 4503599627370496 + 4503599627370496 : Nat) : Int)
      omega
    · show (-1074 : Int) + ((A / 4503599627370496 - 1 : Nat) : Int) = (-1074 : Int) + ((A / 4503599627370496 : Nat) : Int) - 1
      omega
set_option maxRecDepth 1000000 in
set_option maxHeartbeats 4000000 in
theorem refParts_64 (A : Nat) (hA : A < 9223372036854775808) (hi : A < 9218868437227405312) (hk : Fl.kindF 64 (A : Int) = 2) (M : Nat) (E : Int) (hM : Pure.partsF 64 A = (false, (M : Int), E, 0)) (w : World) :
    Calls Tryz.prog 47 #[.int .i64 64, .int .u64 (A : Int)] w fun e w' => e = .returned (.tuple #[.bool false, .int .u64 (M : Int), .int .i64 E, .int .i64 0]) ∧ Below w.heap.size w w' := by
  rw [partsN_64 A hA hk] at hM
  have HK := Lib.hid (fun w => Ref.kind_right 64 (A : Int) w (by decide))
  rw [hk] at HK
  have hm : (A : Int) % 9223372036854775808 = (A : Int) := by omega
  have hsg : (A : Int) < 9223372036854775808 := by omega
  have h64 : (A : Int) % 4294967296 = (A : Int) ∨ True := .inr trivial
  by_cases hx : A / 4503599627370496 = 0
  · rw [if_pos hx] at hM
    obtain ⟨h1, h2⟩ := Prod.mk.inj (Prod.mk.inj hM).2
    have h3 := (Prod.mk.inj h2).1
    have hxI : ((A : Int) / 4503599627370496 == 0) = true := by simp only [beq_iff_eq]; omega
    have hM' : (A : Int) % 4503599627370496 = (M : Int) := by rw [← h1]; omega
    subst h3
    clear hM h1 h2 hx hk hA hi
    skip
    clear h64
    go_enter Tryz.func47, Tryz.ntmps47
    go_wp2_with (first | (go_at_call 43; refine (HK.out _).mono ?_; rintro e w1 ⟨rfl, hd⟩; have HB := Lib.hid hd.below; clear hd) | (go_at_call 81; refine (refC3_64 A (by omega) _).mono ?_; rintro e w2 ⟨rfl, rfl⟩) | (go_at_call 82; refine (refS3_64 _).mono ?_; rintro e w3 ⟨rfl, rfl⟩))
    refine bodyPost_ret (results_list (rs := [.tmp 4, .tmp 5, .tmp 6, .tmp 7]) rfl (by simp) (.tmp (.tmp (.tmp (.tmp .nil))))) rfl ?_
    exact ⟨by simp [hsg, hM'], HB.out⟩
  · rw [if_neg hx] at hM
    obtain ⟨h1, h2⟩ := Prod.mk.inj (Prod.mk.inj hM).2
    have h3 := (Prod.mk.inj h2).1
    have hxI : ((A : Int) / 4503599627370496 == 0) = false := by simp only [beq_eq_false_iff_ne, ne_eq]; omega
    obtain ⟨X, hX⟩ : ∃ X : Nat, A / 4503599627370496 = X := ⟨_, rfl⟩
    have hXI : (A : Int) / 4503599627370496 = (X : Int) := by omega
    have hXl : X < 2048 := by omega
    have hXI0 : ((X : Int) == 0) = false := by simp only [beq_eq_false_iff_ne, ne_eq]; omega
    obtain ⟨F, hF⟩ : ∃ F : Nat, A % 4503599627370496 = F := ⟨_, rfl⟩
    have hFI : (A : Int) % 4503599627370496 = (F : Int) := by omega
    have hFl : F < 4503599627370496 := by omega
    rw [hF] at h1
    rw [hX] at h3
    have hs1 : IntKind.u64.wrap ((F : Int) + 4503599627370496) = (M : Int) := by rw [IntKind.wrap_u64]; omega
    have hs2 : (F : Int) + 4503599627370496 = (M : Int) := by omega
    have hs3 : (-1074 : Int) + (X : Int) - 1 = E := h3
    clear hM h1 h2 h3 hx hk hA hi hX hF hxI
    skip
    clear h64
    go_enter Tryz.func47, Tryz.ntmps47
    go_wp2_with (first | (go_at_call 43; refine (HK.out _).mono ?_; rintro e w1 ⟨rfl, hd⟩; have HB := Lib.hid hd.below; clear hd) | (go_at_call 81; refine (refC3_64 A (by omega) _).mono ?_; rintro e w2 ⟨rfl, rfl⟩) | (go_at_call 82; refine (refS3_64 _).mono ?_; rintro e w3 ⟨rfl, rfl⟩))
    refine bodyPost_ret (results_list (rs := [.tmp 4, .tmp 5, .tmp 6, .tmp 7]) rfl (by simp) (.tmp (.tmp (.tmp (.tmp .nil))))) rfl ?_
    exact ⟨by simp [hs3, hs2, hsg], HB.out⟩
end Go.Proofs.YtjecdciabpjgcaaGreatDoor.Lz
