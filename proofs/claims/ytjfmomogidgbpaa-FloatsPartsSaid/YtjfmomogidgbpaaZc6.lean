/-
  The program's small functions over formats, in closed form: signs, sizes, parts. No condition but that a word is one.
  The program's rounding, in closed form: the float nearest to a number times a power of 2, and perhaps a little more. No condition but the code's own.
  The program's parts, jamming, order and sum, in closed form. No condition but that a word is one.
  The program's product and quotient, in closed form: the whole products and quotients of math/bits, and what is rounded of them. No condition but that a word is one.
  The program's Bin, in closed form. No condition but that a word is one.
  The reference's own rounding, step by step, rounds as IEEE 754 asks. No condition but those that it tells a wrong question by.
  The reference's own rounding answers as IEEE 754's nearest does.
  The plain law of FloatsRounds: any number, told by sign, size, place and what is left over, is rounded as the reference rounds it, or refused as it refuses. No condition.
  Walks of the reference's small functions over Go's own floats: bits as floats and back, and a float of 32 bits as one of 64. No condition but that a word is one.
  What a float's bits say of how it stands; walks of the reference's Kind, of what is worked, of Rel. No condition but that a word is one.
  Walks of the reference's Kind, worked and Rel, as closed forms. No condition but that a word is one.
  What one comes to, at an operation of math's own, cut to 32 bits; the walk of the reference's Un. No condition but that a word is one.
  The contracts of the reference's Kind, Bin, Un and Rel, as closed forms, in the form in which the kit's print uses a function's contract.
  The program's Kind, Canonical and Rel, in closed form. No condition but that a word is one.
  The program's Un, in closed form: the root by pairs of bits, the whole number, the rest. No condition but that a word is one.
  The plain law of FloatsParts: the parts of any float are the reference's, and what is parted is rounded to what it was. No condition.
-/
import Derived.OpenShut
import Derived.WalkLawsBesides
import Derived.Laws.Externs
import Derived.Lib.Hide
import Derived.Test.YtjfmomogidgbpaaProg
import Derived.Below
import Derived.Deep.Draws
import Derived.Deep.AppendLies
import Derived.Maps.AppendAt
import Derived.OwnWalk
import Derived.Laws.BytesArg
import Derived.Laws.MakeOwn
import Derived.Laws.OwnMore
import Derived.Deep.OwnRows
import Derived.Tactics
import Derived.Lib.ConvBytes
import Derived.Laws.Slices
import Derived.WalkKit
import Derived.KernelRfl
import Derived.RowKit3
import Derived.Deep.LoopGhost
import Derived.Deep.QuietTactic
import Derived.BigQuiet
import Derived.WideLaws
import Derived.Deep.DeepCutAuto
import Derived.Deep.CutBlock
import Derived.Deep.RegionHeld3
import Derived.Laws.Rows
import Derived.Lib.AppendStr
import Derived.ArgAppend
import Derived.Laws.IdiomCopy
import Derived.OrdersHeld
import Derived.Laws.BitsLemmas
import Derived.RowKit
import Derived.Test.YtjfmomogidgbpaaZc0
import Derived.Test.YtjfmomogidgbpaaZc1
import Derived.Test.YtjfmomogidgbpaaZc2
import Derived.Test.YtjfmomogidgbpaaZc3
import Derived.Test.YtjfmomogidgbpaaZc4
import Derived.Test.YtjfmomogidgbpaaZc5
namespace Go.Proofs.Ytjfmomogidgbpaa.PFl
open Go.RowKit Go.Proofs.YtjfmomogidgbpaaW.PrintWords Go.Proofs.YtjfmomogidgbpaaW.PrintLast Go.Proofs.YtjfmomogidgbpaaW.PrintMore
attribute [local go_sem] max2_int min2_int max_two min_two max_three min_three max_four min_four
set_option linter.unusedVariables false
set_option linter.unusedSimpArgs false
mutual
def br_near.j0 : Nat → Int → Int → Int → Int → Int → Int → Option (Int)
  | 0, _, _, _, _, _, _ => none
  | k + 1, x0, x1, x3, x4, x5, x13 => br_near.l0 k x0 x1 x3 x4 x5 x13
def br_near.l0 : Nat → Int → Int → Int → Int → Int → Int → Option (Int)
  | 0, _, _, _, _, _, _ => none
  | k + 1, x0, x1, x3, x4, x5, x13 => if 0 ≤ (IntKind.u64.wrap (x3)) then (if x0 ≥ (shl .u64 2 (IntKind.u64.wrap (x3))) then (br_near.j2 k x0 x1 x3 x4 x5 x13 true) else (br_near.j2 k x0 x1 x3 x4 x5 x13 (decide (x1 < x4)))) else (none)
def br_near.j2 : Nat → Int → Int → Int → Int → Int → Int → Bool → Option (Int)
  | 0, _, _, _, _, _, _, _ => none
  | k + 1, x0, x1, x3, x4, x5, x13, x31 => if x31 = true then (if (wrap64 (Int.tmod x0 2)) = 1 then (br_near.j3 k (IntKind.u64.wrap (Int.tdiv x0 2)) (wrap64 (x1 + 1)) x3 x4 x5 x13 (wrap64 (Int.tmod x0 2)) (x13 == 0)) else (br_near.j3 k (IntKind.u64.wrap (Int.tdiv x0 2)) (wrap64 (x1 + 1)) x3 x4 x5 x13 (wrap64 (Int.tmod x0 2)) false)) else (if x13 = 3 then (br_near.j4 k x0 x1 x3 x4 x5 true) else (if x13 = 2 then (br_near.j4 k x0 x1 x3 x4 x5 ((Int.tmod x0 2) == 1)) else (br_near.j4 k x0 x1 x3 x4 x5 false)))
def br_near.j3 : Nat → Int → Int → Int → Int → Int → Int → Int → Bool → Option (Int)
  | 0, _, _, _, _, _, _, _, _ => none
  | k + 1, x0, x1, x3, x4, x5, x13, x14, x44 => if x44 = true then (if x0 = 0 then (if x1 < (wrap64 (x4 - 1)) then (some 0) else (br_near.l0 k x0 x1 x3 x4 x5 2)) else (br_near.l0 k x0 x1 x3 x4 x5 2)) else (if x14 = 1 then (if x0 = 0 then (if x1 < (wrap64 (x4 - 1)) then (some 0) else (br_near.l0 k x0 x1 x3 x4 x5 3)) else (br_near.l0 k x0 x1 x3 x4 x5 3)) else (if x13 > 1 then (if x0 = 0 then (if x1 < (wrap64 (x4 - 1)) then (some 0) else (br_near.l0 k x0 x1 x3 x4 x5 1)) else (br_near.l0 k x0 x1 x3 x4 x5 1)) else (if x0 = 0 then (if x1 < (wrap64 (x4 - 1)) then (some 0) else (br_near.l0 k x0 x1 x3 x4 x5 x13)) else (br_near.l0 k x0 x1 x3 x4 x5 x13))))
def br_near.j4 : Nat → Int → Int → Int → Int → Int → Bool → Option (Int)
  | 0, _, _, _, _, _, _ => none
  | k + 1, x0, x1, x3, x4, x5, x67 => if x67 = true then (br_near.j5 k (IntKind.u64.wrap (x0 + 1)) x1 x3 x4 x5) else (br_near.j5 k x0 x1 x3 x4 x5)
def br_near.j5 : Nat → Int → Int → Int → Int → Int → Option (Int)
  | 0, _, _, _, _, _ => none
  | k + 1, x0, x1, x3, x4, x5 => br_near.l1 k x0 x1 x3 x4 x5
def br_near.j7 : Nat → Int → Int → Int → Int → Int → Option (Int)
  | 0, _, _, _, _, _ => none
  | k + 1, x0, x1, x3, x4, x5 => if 0 ≤ (IntKind.u64.wrap (x3)) then (if x0 ≥ (shl .u64 2 (IntKind.u64.wrap (x3))) then (br_near.j8 k (IntKind.u64.wrap (Int.tdiv x0 2)) (wrap64 (x1 + 1)) x3 x4 x5) else (br_near.j8 k x0 x1 x3 x4 x5)) else (none)
def br_near.j8 : Nat → Int → Int → Int → Int → Int → Option (Int)
  | 0, _, _, _, _, _ => none
  | k + 1, x0, x1, x3, x4, x5 => if 0 ≤ (IntKind.u64.wrap (x3)) then (if x0 < (shl .u64 1 (IntKind.u64.wrap (x3))) then (some x0) else (if (wrap64 (x1 - x4)) > 3000 then (some x5) else (if (IntKind.u64.wrap ((shl .u64 (IntKind.u64.wrap (wrap64 (x1 - x4))) (IntKind.u64.wrap (x3))) + x0)) > x5 then (some x5) else (some (IntKind.u64.wrap ((shl .u64 (IntKind.u64.wrap (wrap64 (x1 - x4))) (IntKind.u64.wrap (x3))) + x0)))))) else (none)
def br_near.l1 : Nat → Int → Int → Int → Int → Int → Option (Int)
  | 0, _, _, _, _, _ => none
  | k + 1, x0, x1, x3, x4, x5 => if 0 ≤ (IntKind.u64.wrap (x3)) then (if x0 < (shl .u64 1 (IntKind.u64.wrap (x3))) then (if x1 > x4 then (br_near.l1 k (IntKind.u64.wrap (x0 * 2)) (wrap64 (x1 - 1)) x3 x4 x5) else (br_near.j7 k x0 x1 x3 x4 x5)) else (br_near.j7 k x0 x1 x3 x4 x5)) else (none)
end
def br_near.f (k : Nat) (a0 : Int) (a1 : Int) (a2 : Bool) (a3 : Int) (a4 : Int) (a5 : Int) : Option (Int) := if a1 > 3000 then (some a5) else (if a1 < (-3000) then (some 0) else (if a2 = true then (br_near.j0 k a0 a1 a3 a4 a5 1) else (br_near.j0 k a0 a1 a3 a4 a5 0)))
theorem br_near.mono_l : ∀ k, (∀ y0 y1 y2 y3 y4 y5, LeO (br_near.j0 k y0 y1 y2 y3 y4 y5) (br_near.j0 (k + 1) y0 y1 y2 y3 y4 y5)) ∧ (∀ y0 y1 y2 y3 y4 y5, LeO (br_near.l0 k y0 y1 y2 y3 y4 y5) (br_near.l0 (k + 1) y0 y1 y2 y3 y4 y5)) ∧ (∀ y0 y1 y2 y3 y4 y5 y6, LeO (br_near.j2 k y0 y1 y2 y3 y4 y5 y6) (br_near.j2 (k + 1) y0 y1 y2 y3 y4 y5 y6)) ∧ (∀ y0 y1 y2 y3 y4 y5 y6 y7, LeO (br_near.j3 k y0 y1 y2 y3 y4 y5 y6 y7) (br_near.j3 (k + 1) y0 y1 y2 y3 y4 y5 y6 y7)) ∧ (∀ y0 y1 y2 y3 y4 y5, LeO (br_near.j4 k y0 y1 y2 y3 y4 y5) (br_near.j4 (k + 1) y0 y1 y2 y3 y4 y5)) ∧ (∀ y0 y1 y2 y3 y4, LeO (br_near.j5 k y0 y1 y2 y3 y4) (br_near.j5 (k + 1) y0 y1 y2 y3 y4)) ∧ (∀ y0 y1 y2 y3 y4, LeO (br_near.j7 k y0 y1 y2 y3 y4) (br_near.j7 (k + 1) y0 y1 y2 y3 y4)) ∧ (∀ y0 y1 y2 y3 y4, LeO (br_near.j8 k y0 y1 y2 y3 y4) (br_near.j8 (k + 1) y0 y1 y2 y3 y4)) ∧ (∀ y0 y1 y2 y3 y4, LeO (br_near.l1 k y0 y1 y2 y3 y4) (br_near.l1 (k + 1) y0 y1 y2 y3 y4)) := by
  intro k
  induction k with
  | zero => exact ⟨fun _ _ _ _ _ _ r h => by simp [br_near.j0] at h, fun _ _ _ _ _ _ r h => by simp [br_near.l0] at h, fun _ _ _ _ _ _ _ r h => by simp [br_near.j2] at h, fun _ _ _ _ _ _ _ _ r h => by simp [br_near.j3] at h, fun _ _ _ _ _ _ r h => by simp [br_near.j4] at h, fun _ _ _ _ _ r h => by simp [br_near.j5] at h, fun _ _ _ _ _ r h => by simp [br_near.j7] at h, fun _ _ _ _ _ r h => by simp [br_near.j8] at h, fun _ _ _ _ _ r h => by simp [br_near.l1] at h⟩
  | succ k ih =>
    obtain ⟨ih0, ih1, ih2, ih3, ih4, ih5, ih6, ih7, ih8⟩ := ih
    refine ⟨?_, ?_, ?_, ?_, ?_, ?_, ?_, ?_, ?_⟩
    · intro y0 y1 y2 y3 y4 y5
      unfold br_near.j0
      repeat' first
      | (with_reducible exact ih0 _ _ _ _ _ _)
      | (with_reducible exact ih1 _ _ _ _ _ _)
      | (with_reducible exact ih2 _ _ _ _ _ _ _)
      | (with_reducible exact ih3 _ _ _ _ _ _ _ _)
      | (with_reducible exact ih4 _ _ _ _ _ _)
      | (with_reducible exact ih5 _ _ _ _ _)
      | (with_reducible exact ih6 _ _ _ _ _)
      | (with_reducible exact ih7 _ _ _ _ _)
      | (with_reducible exact ih8 _ _ _ _ _)
      | (with_reducible exact LeO.refl _)
      | (with_reducible exact LeO.none _)
      | (with_reducible refine LeO.ite ?_ ?_)
      | (with_reducible refine LeO.bind ?_ (fun _ => ?_))
      | exact ih0 _ _ _ _ _ _
      | exact ih1 _ _ _ _ _ _
      | exact ih2 _ _ _ _ _ _ _
      | exact ih3 _ _ _ _ _ _ _ _
      | exact ih4 _ _ _ _ _ _
      | exact ih5 _ _ _ _ _
      | exact ih6 _ _ _ _ _
      | exact ih7 _ _ _ _ _
      | exact ih8 _ _ _ _ _
      | exact LeO.none _
      | refine LeO.ite ?_ ?_
      | refine LeO.bind ?_ (fun _ => ?_)
    · intro y0 y1 y2 y3 y4 y5
      unfold br_near.l0
      repeat' first
      | (with_reducible exact ih0 _ _ _ _ _ _)
      | (with_reducible exact ih1 _ _ _ _ _ _)
      | (with_reducible exact ih2 _ _ _ _ _ _ _)
      | (with_reducible exact ih3 _ _ _ _ _ _ _ _)
      | (with_reducible exact ih4 _ _ _ _ _ _)
      | (with_reducible exact ih5 _ _ _ _ _)
      | (with_reducible exact ih6 _ _ _ _ _)
      | (with_reducible exact ih7 _ _ _ _ _)
      | (with_reducible exact ih8 _ _ _ _ _)
      | (with_reducible exact LeO.refl _)
      | (with_reducible exact LeO.none _)
      | (with_reducible refine LeO.ite ?_ ?_)
      | (with_reducible refine LeO.bind ?_ (fun _ => ?_))
      | exact ih0 _ _ _ _ _ _
      | exact ih1 _ _ _ _ _ _
      | exact ih2 _ _ _ _ _ _ _
      | exact ih3 _ _ _ _ _ _ _ _
      | exact ih4 _ _ _ _ _ _
      | exact ih5 _ _ _ _ _
      | exact ih6 _ _ _ _ _
      | exact ih7 _ _ _ _ _
      | exact ih8 _ _ _ _ _
      | exact LeO.none _
      | refine LeO.ite ?_ ?_
      | refine LeO.bind ?_ (fun _ => ?_)
    · intro y0 y1 y2 y3 y4 y5 y6
      unfold br_near.j2
      repeat' first
      | (with_reducible exact ih0 _ _ _ _ _ _)
      | (with_reducible exact ih1 _ _ _ _ _ _)
      | (with_reducible exact ih2 _ _ _ _ _ _ _)
      | (with_reducible exact ih3 _ _ _ _ _ _ _ _)
      | (with_reducible exact ih4 _ _ _ _ _ _)
      | (with_reducible exact ih5 _ _ _ _ _)
      | (with_reducible exact ih6 _ _ _ _ _)
      | (with_reducible exact ih7 _ _ _ _ _)
      | (with_reducible exact ih8 _ _ _ _ _)
      | (with_reducible exact LeO.refl _)
      | (with_reducible exact LeO.none _)
      | (with_reducible refine LeO.ite ?_ ?_)
      | (with_reducible refine LeO.bind ?_ (fun _ => ?_))
      | exact ih0 _ _ _ _ _ _
      | exact ih1 _ _ _ _ _ _
      | exact ih2 _ _ _ _ _ _ _
      | exact ih3 _ _ _ _ _ _ _ _
      | exact ih4 _ _ _ _ _ _
      | exact ih5 _ _ _ _ _
      | exact ih6 _ _ _ _ _
      | exact ih7 _ _ _ _ _
      | exact ih8 _ _ _ _ _
      | exact LeO.none _
      | refine LeO.ite ?_ ?_
      | refine LeO.bind ?_ (fun _ => ?_)
    · intro y0 y1 y2 y3 y4 y5 y6 y7
      unfold br_near.j3
      repeat' first
      | (with_reducible exact ih0 _ _ _ _ _ _)
      | (with_reducible exact ih1 _ _ _ _ _ _)
      | (with_reducible exact ih2 _ _ _ _ _ _ _)
      | (with_reducible exact ih3 _ _ _ _ _ _ _ _)
      | (with_reducible exact ih4 _ _ _ _ _ _)
      | (with_reducible exact ih5 _ _ _ _ _)
      | (with_reducible exact ih6 _ _ _ _ _)
      | (with_reducible exact ih7 _ _ _ _ _)
      | (with_reducible exact ih8 _ _ _ _ _)
      | (with_reducible exact LeO.refl _)
      | (with_reducible exact LeO.none _)
      | (with_reducible refine LeO.ite ?_ ?_)
      | (with_reducible refine LeO.bind ?_ (fun _ => ?_))
      | exact ih0 _ _ _ _ _ _
      | exact ih1 _ _ _ _ _ _
      | exact ih2 _ _ _ _ _ _ _
      | exact ih3 _ _ _ _ _ _ _ _
      | exact ih4 _ _ _ _ _ _
      | exact ih5 _ _ _ _ _
      | exact ih6 _ _ _ _ _
      | exact ih7 _ _ _ _ _
      | exact ih8 _ _ _ _ _
      | exact LeO.none _
      | refine LeO.ite ?_ ?_
      | refine LeO.bind ?_ (fun _ => ?_)
    · intro y0 y1 y2 y3 y4 y5
      unfold br_near.j4
      repeat' first
      | (with_reducible exact ih0 _ _ _ _ _ _)
      | (with_reducible exact ih1 _ _ _ _ _ _)
      | (with_reducible exact ih2 _ _ _ _ _ _ _)
      | (with_reducible exact ih3 _ _ _ _ _ _ _ _)
      | (with_reducible exact ih4 _ _ _ _ _ _)
      | (with_reducible exact ih5 _ _ _ _ _)
      | (with_reducible exact ih6 _ _ _ _ _)
      | (with_reducible exact ih7 _ _ _ _ _)
      | (with_reducible exact ih8 _ _ _ _ _)
      | (with_reducible exact LeO.refl _)
      | (with_reducible exact LeO.none _)
      | (with_reducible refine LeO.ite ?_ ?_)
      | (with_reducible refine LeO.bind ?_ (fun _ => ?_))
      | exact ih0 _ _ _ _ _ _
      | exact ih1 _ _ _ _ _ _
      | exact ih2 _ _ _ _ _ _ _
      | exact ih3 _ _ _ _ _ _ _ _
      | exact ih4 _ _ _ _ _ _
      | exact ih5 _ _ _ _ _
      | exact ih6 _ _ _ _ _
      | exact ih7 _ _ _ _ _
      | exact ih8 _ _ _ _ _
      | exact LeO.none _
      | refine LeO.ite ?_ ?_
      | refine LeO.bind ?_ (fun _ => ?_)
    · intro y0 y1 y2 y3 y4
      unfold br_near.j5
      repeat' first
      | (with_reducible exact ih0 _ _ _ _ _ _)
      | (with_reducible exact ih1 _ _ _ _ _ _)
      | (with_reducible exact ih2 _ _ _ _ _ _ _)
      | (with_reducible exact ih3 _ _ _ _ _ _ _ _)
      | (with_reducible exact ih4 _ _ _ _ _ _)
      | (with_reducible exact ih5 _ _ _ _ _)
      | (with_reducible exact ih6 _ _ _ _ _)
      | (with_reducible exact ih7 _ _ _ _ _)
      | (with_reducible exact ih8 _ _ _ _ _)
      | (with_reducible exact LeO.refl _)
      | (with_reducible exact LeO.none _)
      | (with_reducible refine LeO.ite ?_ ?_)
      | (with_reducible refine LeO.bind ?_ (fun _ => ?_))
      | exact ih0 _ _ _ _ _ _
      | exact ih1 _ _ _ _ _ _
      | exact ih2 _ _ _ _ _ _ _
      | exact ih3 _ _ _ _ _ _ _ _
      | exact ih4 _ _ _ _ _ _
      | exact ih5 _ _ _ _ _
      | exact ih6 _ _ _ _ _
      | exact ih7 _ _ _ _ _
      | exact ih8 _ _ _ _ _
      | exact LeO.none _
      | refine LeO.ite ?_ ?_
      | refine LeO.bind ?_ (fun _ => ?_)
    · intro y0 y1 y2 y3 y4
      unfold br_near.j7
      repeat' first
      | (with_reducible exact ih0 _ _ _ _ _ _)
      | (with_reducible exact ih1 _ _ _ _ _ _)
      | (with_reducible exact ih2 _ _ _ _ _ _ _)
      | (with_reducible exact ih3 _ _ _ _ _ _ _ _)
      | (with_reducible exact ih4 _ _ _ _ _ _)
      | (with_reducible exact ih5 _ _ _ _ _)
      | (with_reducible exact ih6 _ _ _ _ _)
      | (with_reducible exact ih7 _ _ _ _ _)
      | (with_reducible exact ih8 _ _ _ _ _)
      | (with_reducible exact LeO.refl _)
      | (with_reducible exact LeO.none _)
      | (with_reducible refine LeO.ite ?_ ?_)
      | (with_reducible refine LeO.bind ?_ (fun _ => ?_))
      | exact ih0 _ _ _ _ _ _
      | exact ih1 _ _ _ _ _ _
      | exact ih2 _ _ _ _ _ _ _
      | exact ih3 _ _ _ _ _ _ _ _
      | exact ih4 _ _ _ _ _ _
      | exact ih5 _ _ _ _ _
      | exact ih6 _ _ _ _ _
      | exact ih7 _ _ _ _ _
      | exact ih8 _ _ _ _ _
      | exact LeO.none _
      | refine LeO.ite ?_ ?_
      | refine LeO.bind ?_ (fun _ => ?_)
    · intro y0 y1 y2 y3 y4
      unfold br_near.j8
      repeat' first
      | (with_reducible exact ih0 _ _ _ _ _ _)
      | (with_reducible exact ih1 _ _ _ _ _ _)
      | (with_reducible exact ih2 _ _ _ _ _ _ _)
      | (with_reducible exact ih3 _ _ _ _ _ _ _ _)
      | (with_reducible exact ih4 _ _ _ _ _ _)
      | (with_reducible exact ih5 _ _ _ _ _)
      | (with_reducible exact ih6 _ _ _ _ _)
      | (with_reducible exact ih7 _ _ _ _ _)
      | (with_reducible exact ih8 _ _ _ _ _)
      | (with_reducible exact LeO.refl _)
      | (with_reducible exact LeO.none _)
      | (with_reducible refine LeO.ite ?_ ?_)
      | (with_reducible refine LeO.bind ?_ (fun _ => ?_))
      | exact ih0 _ _ _ _ _ _
      | exact ih1 _ _ _ _ _ _
      | exact ih2 _ _ _ _ _ _ _
      | exact ih3 _ _ _ _ _ _ _ _
      | exact ih4 _ _ _ _ _ _
      | exact ih5 _ _ _ _ _
      | exact ih6 _ _ _ _ _
      | exact ih7 _ _ _ _ _
      | exact ih8 _ _ _ _ _
      | exact LeO.none _
      | refine LeO.ite ?_ ?_
      | refine LeO.bind ?_ (fun _ => ?_)
    · intro y0 y1 y2 y3 y4
      unfold br_near.l1
      repeat' first
      | (with_reducible exact ih0 _ _ _ _ _ _)
      | (with_reducible exact ih1 _ _ _ _ _ _)
      | (with_reducible exact ih2 _ _ _ _ _ _ _)
      | (with_reducible exact ih3 _ _ _ _ _ _ _ _)
      | (with_reducible exact ih4 _ _ _ _ _ _)
      | (with_reducible exact ih5 _ _ _ _ _)
      | (with_reducible exact ih6 _ _ _ _ _)
      | (with_reducible exact ih7 _ _ _ _ _)
      | (with_reducible exact ih8 _ _ _ _ _)
      | (with_reducible exact LeO.refl _)
      | (with_reducible exact LeO.none _)
      | (with_reducible refine LeO.ite ?_ ?_)
      | (with_reducible refine LeO.bind ?_ (fun _ => ?_))
      | exact ih0 _ _ _ _ _ _
      | exact ih1 _ _ _ _ _ _
      | exact ih2 _ _ _ _ _ _ _
      | exact ih3 _ _ _ _ _ _ _ _
      | exact ih4 _ _ _ _ _ _
      | exact ih5 _ _ _ _ _
      | exact ih6 _ _ _ _ _
      | exact ih7 _ _ _ _ _
      | exact ih8 _ _ _ _ _
      | exact LeO.none _
      | refine LeO.ite ?_ ?_
      | refine LeO.bind ?_ (fun _ => ?_)
theorem br_near.mono : ∀ a0 a1 a2 a3 a4 a5 k, LeO (br_near.f k a0 a1 a2 a3 a4 a5) (br_near.f (k + 1) a0 a1 a2 a3 a4 a5) := by
  intro a0 a1 a2 a3 a4 a5 k
  obtain ⟨ih0, ih1, ih2, ih3, ih4, ih5, ih6, ih7, ih8⟩ := br_near.mono_l k
  unfold br_near.f
  repeat' first
      | (with_reducible exact ih0 _ _ _ _ _ _)
      | (with_reducible exact ih1 _ _ _ _ _ _)
      | (with_reducible exact ih2 _ _ _ _ _ _ _)
      | (with_reducible exact ih3 _ _ _ _ _ _ _ _)
      | (with_reducible exact ih4 _ _ _ _ _ _)
      | (with_reducible exact ih5 _ _ _ _ _)
      | (with_reducible exact ih6 _ _ _ _ _)
      | (with_reducible exact ih7 _ _ _ _ _)
      | (with_reducible exact ih8 _ _ _ _ _)
      | (with_reducible exact LeO.refl _)
      | (with_reducible exact LeO.none _)
      | (with_reducible refine LeO.ite ?_ ?_)
      | (with_reducible refine LeO.bind ?_ (fun _ => ?_))
      | exact ih0 _ _ _ _ _ _
      | exact ih1 _ _ _ _ _ _
      | exact ih2 _ _ _ _ _ _ _
      | exact ih3 _ _ _ _ _ _ _ _
      | exact ih4 _ _ _ _ _ _
      | exact ih5 _ _ _ _ _
      | exact ih6 _ _ _ _ _
      | exact ih7 _ _ _ _ _
      | exact ih8 _ _ _ _ _
      | exact LeO.none _
      | refine LeO.ite ?_ ?_
      | refine LeO.bind ?_ (fun _ => ?_)
set_option maxHeartbeats 8000000 in
set_option maxRecDepth 100000 in
theorem br_near.calls (k : Nat) (a0 : Int) (a1 : Int) (a2 : Bool) (a3 : Int) (a4 : Int) (a5 : Int) (r : Int) (w : World) (h : br_near.f k a0 a1 a2 a3 a4 a5 = some r) :
    Calls Try.prog 34 #[.int .u64 a0, .int .i64 a1, .bool a2, .int .i64 a3, .int .i64 a4, .int .u64 a5] w fun e w' => e = .returned (.int .u64 r) ∧ Drawn0 w w' := by
  have H : (if a1 > 3000 then (some a5) else (if a1 < (-3000) then (some 0) else (if a2 = true then (br_near.j0 k a0 a1 a3 a4 a5 1) else (br_near.j0 k a0 a1 a3 a4 a5 0)))) = some r := h
  clear h
  by_cases c7 : a1 > 3000
  · rw [if_pos c7] at H
    have c7b0 : decide (3000 < a1) = true := decide_eq_true c7
    clear c7
    obtain rfl := Option.some.inj H
    go_enter Try.func34, Try.ntmps34
    go_wp2
    go_ret
    exact ⟨by first | rfl | (simp; done) | (simp [*]; done), by repeat (first | exact Drawn0.refl _ | apply Drawn0.step)⟩
  · rw [if_neg c7] at H
    have c7b0 : decide (3000 < a1) = false := decide_eq_false c7
    clear c7
    by_cases c8 : a1 < (-3000)
    · rw [if_pos c8] at H
      have c8b0 : decide (a1 < (-3000)) = true := decide_eq_true c8
      clear c8
      obtain rfl := Option.some.inj H
      go_enter Try.func34, Try.ntmps34
      go_wp2
      go_ret
      exact ⟨by first | rfl | (simp; done) | (simp [*]; done), by repeat (first | exact Drawn0.refl _ | apply Drawn0.step)⟩
    · rw [if_neg c8] at H
      have c8b0 : decide (a1 < (-3000)) = false := decide_eq_false c8
      clear c8
      have HC9 := As0.mk H
      clear H
      go_enter Try.func34, Try.ntmps34
      go_upto_if 21 with (fail)
      go_cut [13] (fun v13 wc => ∃ (kq : Nat) (x13_8 : Int), v13 = .int .i64 x13_8 ∧ As0 (br_near.j0 kq a0 a1 a3 a4 a5 x13_8 = some r) ∧ As0 (kq ≤ k) ∧ Drawn0 w wc)
      case first =>
        have H := HC9.out
        clear HC9
        by_cases c10 : a2 = true
        · subst c10
          have H1 : (br_near.j0 k a0 a1 a3 a4 a5 1) = some r := by rw [if_pos rfl] at H; exact H
          clear H
          have H := H1
          clear H1
          have H' := As0.mk H
          clear H
          go_wp2
          go_meet
          case rel => exact ⟨_, (1), (by first | rfl | (simp; done) | (simp [*]; done)), H', ⟨by first | omega | exact Nat.le_refl _⟩, by repeat (first | exact Drawn0.refl _ | apply Drawn0.step)⟩
        · replace c10 := Bool.eq_false_iff.mpr c10
          subst c10
          have H1 : (br_near.j0 k a0 a1 a3 a4 a5 0) = some r := by rw [if_neg (show ¬ (false = true) by decide)] at H; exact H
          clear H
          have H := H1
          clear H1
          have H' := As0.mk H
          clear H
          go_wp2
          go_meet
          case rel => exact ⟨_, (0), (by first | rfl | (simp; done) | (simp [*]; done)), H', ⟨by first | omega | exact Nat.le_refl _⟩, by repeat (first | exact Drawn0.refl _ | apply Drawn0.step)⟩
      case rest =>
        clear HC9
        try clear c1
        try clear p2
        try clear c3
        try clear c7
        try clear c7b0
        try clear c8
        try clear c8b0
        try clear c10
        obtain ⟨kq, x13_8, rfl, HA, HJ8, ⟨mc8, rfl⟩⟩ := hcut
        cases kq with
        | zero => exact absurd HA.out (by simp [br_near.j0])
        | succ kj8 =>
          have H := HA.out
          clear HA
          simp only [br_near.j0] at H
          have H' := As0.mk H
          clear H
          go_wp2
          go_loopg [0, 1, 13] kj8 (fun kq v0 v1 v13 w' => ∃ (x0_2 : Int) (x1_2 : Int) (x13_2 : Int), v0 = .int .u64 x0_2 ∧ v1 = .int .i64 x1_2 ∧ v13 = .int .i64 x13_2 ∧ As0 (br_near.l0 kq x0_2 x1_2 a3 a4 a5 x13_2 = some r) ∧ As0 (kq ≤ kj8) ∧ Drawn0 w w')
          case atStart => exact ⟨(a0), (a1), (x13_8), (by first | rfl | (simp; done) | (simp [*]; done)), (by first | rfl | (simp; done) | (simp [*]; done)), (by first | rfl | (simp; done) | (simp [*]; done)), H', ⟨Nat.le_refl _⟩, by repeat (first | exact Drawn0.refl _ | apply Drawn0.step)⟩
          case round =>
            clear H'
            try clear c1
            try clear p2
            try clear c3
            try clear c7
            try clear c7b0
            try clear c8
            try clear c8b0
            try clear c10
            try clear p2
            obtain ⟨x0_2, x1_2, x13_2, rfl, rfl, rfl, HA, HK2, ⟨m2, rfl⟩⟩ := hrel
            cases gk with
            | zero => exact absurd HA.out (by simp [br_near.l0])
            | succ k2 =>
              have H := HA.out
              clear HA
              simp only [br_near.l0] at H
              have HC11 := As0.mk H
              clear H
              go_upto_region 8 with (fail)
              go_cut [31] (fun v31 wc => ∃ (kq : Nat) (x31_10 : Bool), v31 = .bool x31_10 ∧ As0 (br_near.j2 kq x0_2 x1_2 a3 a4 a5 x13_2 x31_10 = some r) ∧ As0 (kq ≤ k2) ∧ Drawn0 w wc)
              case first =>
                have H := HC11.out
                clear HC11
                obtain ⟨ji12, hji12⟩ : ∃ j_ : Int, (IntKind.u64.wrap (a3)) = j_ := ⟨_, rfl⟩
                replace H : (if 0 ≤ (ji12) then (if x0_2 ≥ (shl .u64 2 (ji12)) then (br_near.j2 k2 x0_2 x1_2 a3 a4 a5 x13_2 true) else (br_near.j2 k2 x0_2 x1_2 a3 a4 a5 x13_2 (decide (x1_2 < a4)))) else (none)) = some r := by first | (rw [hji12] at H; exact H) | (simp only [hji12] at H ⊢; exact H)
                by_cases c13 : 0 ≤ (ji12)
                · rw [if_pos c13] at H
                  have c13b0 := eq_true c13
                  have c13b1 : decide (0 ≤ (ji12)) = true := decide_eq_true c13
                  clear c13
                  obtain ⟨ji14, hji14⟩ : ∃ j_ : Int, (shl .u64 2 (ji12)) = j_ := ⟨_, rfl⟩
                  replace H : (if x0_2 ≥ (ji14) then (br_near.j2 k2 x0_2 x1_2 a3 a4 a5 x13_2 true) else (br_near.j2 k2 x0_2 x1_2 a3 a4 a5 x13_2 (decide (x1_2 < a4)))) = some r := by first | (rw [hji14] at H; exact H) | (simp only [hji14] at H ⊢; exact H)
                  have hji14_ : (IntKind.u64.wrap (2 * 2 ^ min (ji12).toNat 64)) = ji14 := hji14
                  have hji14z : (ji12) ≤ 64 → (IntKind.u64.wrap (2 * 2 ^ (ji12).toNat)) = ji14 := shl_small hji14
                  by_cases c15 : x0_2 ≥ (ji14)
                  · rw [if_pos c15] at H
                    have c15b0 : decide ((ji14) ≤ x0_2) = true := decide_eq_true c15
                    clear c15
                    (first | rw [c15b0] | (simp only [i64_w, i32_w]; rw [c15b0]) | skip)
                    have H' := As0.mk H
                    clear H
                    go_wp2
                    go_meet
                    case rel => exact ⟨_, (true), (by first | rfl | (simp; done) | (simp [*]; done)), H', ⟨by have := HJ8.out; have := HK2.out; first | omega | exact Nat.le_refl _⟩, by repeat (first | exact Drawn0.refl _ | apply Drawn0.step)⟩
                  · rw [if_neg c15] at H
                    have c15b0 : decide ((ji14) ≤ x0_2) = false := decide_eq_false c15
                    clear c15
                    (first | rw [c15b0] | (simp only [i64_w, i32_w]; rw [c15b0]) | skip)
                    have H' := As0.mk H
                    clear H
                    go_wp2
                    go_meet
                    case rel => exact ⟨_, (decide (x1_2 < a4)), (by first | rfl | (simp; done) | (simp [*]; done)), H', ⟨by have := HJ8.out; have := HK2.out; first | omega | exact Nat.le_refl _⟩, by repeat (first | exact Drawn0.refl _ | apply Drawn0.step)⟩
                · rw [if_neg c13] at H
                  exact absurd H (by simp)
              case rest =>
                clear HC11
                try clear c1
                try clear p2
                try clear c3
                try clear c7
                try clear c7b0
                try clear c8
                try clear c8b0
                try clear c10
                try clear c13
                try clear c13b0
                try clear c13b1
                try clear c15
                try clear c15b0
                try clear p2
                obtain ⟨kq, x31_10, rfl, HA, HJ10, ⟨mc10, rfl⟩⟩ := hcut
                cases kq with
                | zero => exact absurd HA.out (by simp [br_near.j2])
                | succ kj10 =>
                  have H := HA.out
                  clear HA
                  simp only [br_near.j2] at H
                  by_cases c16 : x31_10 = true
                  · subst c16
                    have H1 : (if (wrap64 (Int.tmod x0_2 2)) = 1 then (br_near.j3 kj10 (IntKind.u64.wrap (Int.tdiv x0_2 2)) (wrap64 (x1_2 + 1)) a3 a4 a5 x13_2 (wrap64 (Int.tmod x0_2 2)) (x13_2 == 0)) else (br_near.j3 kj10 (IntKind.u64.wrap (Int.tdiv x0_2 2)) (wrap64 (x1_2 + 1)) a3 a4 a5 x13_2 (wrap64 (Int.tmod x0_2 2)) false)) = some r := by rw [if_pos rfl] at H; exact H
                    clear H
                    have H := H1
                    clear H1
                    have HC17 := As0.mk H
                    clear H
                    go_upto_region 12 with (fail)
                    go_cut [44] (fun v44 wc => ∃ (kq : Nat) (x44_16 : Bool), v44 = .bool x44_16 ∧ As0 (br_near.j3 kq (IntKind.u64.wrap (Int.tdiv x0_2 2)) (wrap64 (x1_2 + 1)) a3 a4 a5 x13_2 (wrap64 (Int.tmod x0_2 2)) x44_16 = some r) ∧ As0 (kq ≤ kj10) ∧ Drawn0 w wc)
                    case first =>
                      have H := HC17.out
                      clear HC17
                      by_cases c18 : (wrap64 (Int.tmod x0_2 2)) = 1
                      · rw [if_pos c18] at H
                        have c18b0 : ((wrap64 (Int.tmod x0_2 2)) == 1) = true := beq_iff_eq.mpr c18
                        have c18b1 : ((wrap64 (Int.tmod x0_2 2)) != 1) = false := bne_eq_false_iff_eq.mpr c18
                        clear c18
                        (first | rw [c18b0] | (simp only [i64_w, i32_w]; rw [c18b0]) | skip)
                        have H' := As0.mk H
                        clear H
                        go_wp2
                        go_meet
                        case rel => exact ⟨_, ((x13_2 == 0)), (by first | rfl | (simp; done) | (simp [*]; done)), H', ⟨by have := HJ8.out; have := HK2.out; have := HJ10.out; first | omega | exact Nat.le_refl _⟩, by repeat (first | exact Drawn0.refl _ | apply Drawn0.step)⟩
                      · rw [if_neg c18] at H
                        have c18b0 : ((wrap64 (Int.tmod x0_2 2)) == 1) = false := beq_eq_false_iff_ne.mpr c18
                        have c18b1 : ((wrap64 (Int.tmod x0_2 2)) != 1) = true := bne_iff_ne.mpr c18
                        (first | rw [c18b0] | (simp only [i64_w, i32_w]; rw [c18b0]) | skip)
                        have H' := As0.mk H
                        clear H
                        go_wp2
                        go_meet
                        case rel => exact ⟨_, (false), (by first | rfl | (simp; done) | (simp [*]; done)), H', ⟨by have := HJ8.out; have := HK2.out; have := HJ10.out; first | omega | exact Nat.le_refl _⟩, by repeat (first | exact Drawn0.refl _ | apply Drawn0.step)⟩
                    case rest =>
                      clear HC17
                      try clear c1
                      try clear p2
                      try clear c3
                      try clear p6
                      try clear c7
                      try clear c7b0
                      try clear c8
                      try clear c8b0
                      try clear c10
                      try clear c13
                      try clear c13b0
                      try clear c13b1
                      try clear c15
                      try clear c15b0
                      try clear c16
                      try clear c18
                      try clear c18b0
                      try clear c18b1
                      try clear p2
                      obtain ⟨kq, x44_16, rfl, HA, HJ16, ⟨mc16, rfl⟩⟩ := hcut
                      cases kq with
                      | zero => exact absurd HA.out (by simp [br_near.j3])
                      | succ kj16 =>
                        have H := HA.out
                        clear HA
                        simp only [br_near.j3] at H
                        by_cases c19 : x44_16 = true
                        · subst c19
                          have H1 : (if (IntKind.u64.wrap (Int.tdiv x0_2 2)) = 0 then (if (wrap64 (x1_2 + 1)) < (wrap64 (a4 - 1)) then (some 0) else (br_near.l0 kj16 (IntKind.u64.wrap (Int.tdiv x0_2 2)) (wrap64 (x1_2 + 1)) a3 a4 a5 2)) else (br_near.l0 kj16 (IntKind.u64.wrap (Int.tdiv x0_2 2)) (wrap64 (x1_2 + 1)) a3 a4 a5 2)) = some r := by rw [if_pos rfl] at H; exact H
                          clear H
                          have H := H1
                          clear H1
                          by_cases c20 : (IntKind.u64.wrap (Int.tdiv x0_2 2)) = 0
                          · rw [if_pos c20] at H
                            have c20b0 : ((IntKind.u64.wrap (Int.tdiv x0_2 2)) == 0) = true := beq_iff_eq.mpr c20
                            have c20b1 : ((IntKind.u64.wrap (Int.tdiv x0_2 2)) != 0) = false := bne_eq_false_iff_eq.mpr c20
                            clear c20
                            by_cases c21 : (wrap64 (x1_2 + 1)) < (wrap64 (a4 - 1))
                            · rw [if_pos c21] at H
                              have c21b0 : decide ((wrap64 (x1_2 + 1)) < (wrap64 (a4 - 1))) = true := decide_eq_true c21
                              clear c21
                              obtain rfl := Option.some.inj H
                              go_wp2
                              go_ret
                              exact ⟨by first | rfl | (simp; done) | (simp [*]; done), by repeat (first | exact Drawn0.refl _ | apply Drawn0.step)⟩
                            · rw [if_neg c21] at H
                              have c21b0 : decide ((wrap64 (x1_2 + 1)) < (wrap64 (a4 - 1))) = false := decide_eq_false c21
                              clear c21
                              have H' := As0.mk H
                              clear H
                              go_wp2
                              go_roundg kj16
                              case measure => have := HJ8.out; have := HK2.out; have := HJ10.out; have := HJ16.out; omega
                              case rel => exact ⟨((IntKind.u64.wrap (Int.tdiv x0_2 2))), ((wrap64 (x1_2 + 1))), (2), (by first | rfl | (simp; done) | (simp [*]; done)), (by first | rfl | (simp; done) | (simp [*]; done)), (by first | rfl | (simp; done) | (simp [*]; done)), H', ⟨by have := HJ8.out; have := HK2.out; have := HJ10.out; have := HJ16.out; omega⟩, by repeat (first | exact Drawn0.refl _ | apply Drawn0.step)⟩
                          · rw [if_neg c20] at H
                            have c20b0 : ((IntKind.u64.wrap (Int.tdiv x0_2 2)) == 0) = false := beq_eq_false_iff_ne.mpr c20
                            have c20b1 : ((IntKind.u64.wrap (Int.tdiv x0_2 2)) != 0) = true := bne_iff_ne.mpr c20
                            have H' := As0.mk H
                            clear H
                            go_wp2
                            go_roundg kj16
                            case measure => have := HJ8.out; have := HK2.out; have := HJ10.out; have := HJ16.out; omega
                            case rel => exact ⟨((IntKind.u64.wrap (Int.tdiv x0_2 2))), ((wrap64 (x1_2 + 1))), (2), (by first | rfl | (simp; done) | (simp [*]; done)), (by first | rfl | (simp; done) | (simp [*]; done)), (by first | rfl | (simp; done) | (simp [*]; done)), H', ⟨by have := HJ8.out; have := HK2.out; have := HJ10.out; have := HJ16.out; omega⟩, by repeat (first | exact Drawn0.refl _ | apply Drawn0.step)⟩
                        · replace c19 := Bool.eq_false_iff.mpr c19
                          subst c19
                          have H1 : (if (wrap64 (Int.tmod x0_2 2)) = 1 then (if (IntKind.u64.wrap (Int.tdiv x0_2 2)) = 0 then (if (wrap64 (x1_2 + 1)) < (wrap64 (a4 - 1)) then (some 0) else (br_near.l0 kj16 (IntKind.u64.wrap (Int.tdiv x0_2 2)) (wrap64 (x1_2 + 1)) a3 a4 a5 3)) else (br_near.l0 kj16 (IntKind.u64.wrap (Int.tdiv x0_2 2)) (wrap64 (x1_2 + 1)) a3 a4 a5 3)) else (if x13_2 > 1 then (if (IntKind.u64.wrap (Int.tdiv x0_2 2)) = 0 then (if (wrap64 (x1_2 + 1)) < (wrap64 (a4 - 1)) then (some 0) else (br_near.l0 kj16 (IntKind.u64.wrap (Int.tdiv x0_2 2)) (wrap64 (x1_2 + 1)) a3 a4 a5 1)) else (br_near.l0 kj16 (IntKind.u64.wrap (Int.tdiv x0_2 2)) (wrap64 (x1_2 + 1)) a3 a4 a5 1)) else (if (IntKind.u64.wrap (Int.tdiv x0_2 2)) = 0 then (if (wrap64 (x1_2 + 1)) < (wrap64 (a4 - 1)) then (some 0) else (br_near.l0 kj16 (IntKind.u64.wrap (Int.tdiv x0_2 2)) (wrap64 (x1_2 + 1)) a3 a4 a5 x13_2)) else (br_near.l0 kj16 (IntKind.u64.wrap (Int.tdiv x0_2 2)) (wrap64 (x1_2 + 1)) a3 a4 a5 x13_2)))) = some r := by rw [if_neg (show ¬ (false = true) by decide)] at H; exact H
                          clear H
                          have H := H1
                          clear H1
                          by_cases c22 : (wrap64 (Int.tmod x0_2 2)) = 1
                          · rw [if_pos c22] at H
                            have c22b0 : ((wrap64 (Int.tmod x0_2 2)) == 1) = true := beq_iff_eq.mpr c22
                            have c22b1 : ((wrap64 (Int.tmod x0_2 2)) != 1) = false := bne_eq_false_iff_eq.mpr c22
                            clear c22
                            by_cases c23 : (IntKind.u64.wrap (Int.tdiv x0_2 2)) = 0
                            · rw [if_pos c23] at H
                              have c23b0 : ((IntKind.u64.wrap (Int.tdiv x0_2 2)) == 0) = true := beq_iff_eq.mpr c23
                              have c23b1 : ((IntKind.u64.wrap (Int.tdiv x0_2 2)) != 0) = false := bne_eq_false_iff_eq.mpr c23
                              clear c23
                              by_cases c24 : (wrap64 (x1_2 + 1)) < (wrap64 (a4 - 1))
                              · rw [if_pos c24] at H
                                have c24b0 : decide ((wrap64 (x1_2 + 1)) < (wrap64 (a4 - 1))) = true := decide_eq_true c24
                                clear c24
                                obtain rfl := Option.some.inj H
                                go_wp2
                                go_ret
                                exact ⟨by first | rfl | (simp; done) | (simp [*]; done), by repeat (first | exact Drawn0.refl _ | apply Drawn0.step)⟩
                              · rw [if_neg c24] at H
                                have c24b0 : decide ((wrap64 (x1_2 + 1)) < (wrap64 (a4 - 1))) = false := decide_eq_false c24
                                clear c24
                                have H' := As0.mk H
                                clear H
                                go_wp2
                                go_roundg kj16
                                case measure => have := HJ8.out; have := HK2.out; have := HJ10.out; have := HJ16.out; omega
                                case rel => exact ⟨((IntKind.u64.wrap (Int.tdiv x0_2 2))), ((wrap64 (x1_2 + 1))), (3), (by first | rfl | (simp; done) | (simp [*]; done)), (by first | rfl | (simp; done) | (simp [*]; done)), (by first | rfl | (simp; done) | (simp [*]; done)), H', ⟨by have := HJ8.out; have := HK2.out; have := HJ10.out; have := HJ16.out; omega⟩, by repeat (first | exact Drawn0.refl _ | apply Drawn0.step)⟩
                            · rw [if_neg c23] at H
                              have c23b0 : ((IntKind.u64.wrap (Int.tdiv x0_2 2)) == 0) = false := beq_eq_false_iff_ne.mpr c23
                              have c23b1 : ((IntKind.u64.wrap (Int.tdiv x0_2 2)) != 0) = true := bne_iff_ne.mpr c23
                              have H' := As0.mk H
                              clear H
                              go_wp2
                              go_roundg kj16
                              case measure => have := HJ8.out; have := HK2.out; have := HJ10.out; have := HJ16.out; omega
                              case rel => exact ⟨((IntKind.u64.wrap (Int.tdiv x0_2 2))), ((wrap64 (x1_2 + 1))), (3), (by first | rfl | (simp; done) | (simp [*]; done)), (by first | rfl | (simp; done) | (simp [*]; done)), (by first | rfl | (simp; done) | (simp [*]; done)), H', ⟨by have := HJ8.out; have := HK2.out; have := HJ10.out; have := HJ16.out; omega⟩, by repeat (first | exact Drawn0.refl _ | apply Drawn0.step)⟩
                          · rw [if_neg c22] at H
                            have c22b0 : ((wrap64 (Int.tmod x0_2 2)) == 1) = false := beq_eq_false_iff_ne.mpr c22
                            have c22b1 : ((wrap64 (Int.tmod x0_2 2)) != 1) = true := bne_iff_ne.mpr c22
                            by_cases c25 : x13_2 > 1
                            · rw [if_pos c25] at H
                              have c25b0 : decide (1 < x13_2) = true := decide_eq_true c25
                              clear c25
                              by_cases c26 : (IntKind.u64.wrap (Int.tdiv x0_2 2)) = 0
                              · rw [if_pos c26] at H
                                have c26b0 : ((IntKind.u64.wrap (Int.tdiv x0_2 2)) == 0) = true := beq_iff_eq.mpr c26
                                have c26b1 : ((IntKind.u64.wrap (Int.tdiv x0_2 2)) != 0) = false := bne_eq_false_iff_eq.mpr c26
                                clear c26
                                by_cases c27 : (wrap64 (x1_2 + 1)) < (wrap64 (a4 - 1))
                                · rw [if_pos c27] at H
                                  have c27b0 : decide ((wrap64 (x1_2 + 1)) < (wrap64 (a4 - 1))) = true := decide_eq_true c27
                                  clear c27
                                  obtain rfl := Option.some.inj H
                                  go_wp2
                                  go_ret
                                  exact ⟨by first | rfl | (simp; done) | (simp [*]; done), by repeat (first | exact Drawn0.refl _ | apply Drawn0.step)⟩
                                · rw [if_neg c27] at H
                                  have c27b0 : decide ((wrap64 (x1_2 + 1)) < (wrap64 (a4 - 1))) = false := decide_eq_false c27
                                  clear c27
                                  have H' := As0.mk H
                                  clear H
                                  go_wp2
                                  go_roundg kj16
                                  case measure => have := HJ8.out; have := HK2.out; have := HJ10.out; have := HJ16.out; omega
                                  case rel => exact ⟨((IntKind.u64.wrap (Int.tdiv x0_2 2))), ((wrap64 (x1_2 + 1))), (1), (by first | rfl | (simp; done) | (simp [*]; done)), (by first | rfl | (simp; done) | (simp [*]; done)), (by first | rfl | (simp; done) | (simp [*]; done)), H', ⟨by have := HJ8.out; have := HK2.out; have := HJ10.out; have := HJ16.out; omega⟩, by repeat (first | exact Drawn0.refl _ | apply Drawn0.step)⟩
                              · rw [if_neg c26] at H
                                have c26b0 : ((IntKind.u64.wrap (Int.tdiv x0_2 2)) == 0) = false := beq_eq_false_iff_ne.mpr c26
                                have c26b1 : ((IntKind.u64.wrap (Int.tdiv x0_2 2)) != 0) = true := bne_iff_ne.mpr c26
                                have H' := As0.mk H
                                clear H
                                go_wp2
                                go_roundg kj16
                                case measure => have := HJ8.out; have := HK2.out; have := HJ10.out; have := HJ16.out; omega
                                case rel => exact ⟨((IntKind.u64.wrap (Int.tdiv x0_2 2))), ((wrap64 (x1_2 + 1))), (1), (by first | rfl | (simp; done) | (simp [*]; done)), (by first | rfl | (simp; done) | (simp [*]; done)), (by first | rfl | (simp; done) | (simp [*]; done)), H', ⟨by have := HJ8.out; have := HK2.out; have := HJ10.out; have := HJ16.out; omega⟩, by repeat (first | exact Drawn0.refl _ | apply Drawn0.step)⟩
                            · rw [if_neg c25] at H
                              have c25b0 : decide (1 < x13_2) = false := decide_eq_false c25
                              clear c25
                              by_cases c28 : (IntKind.u64.wrap (Int.tdiv x0_2 2)) = 0
                              · rw [if_pos c28] at H
                                have c28b0 : ((IntKind.u64.wrap (Int.tdiv x0_2 2)) == 0) = true := beq_iff_eq.mpr c28
                                have c28b1 : ((IntKind.u64.wrap (Int.tdiv x0_2 2)) != 0) = false := bne_eq_false_iff_eq.mpr c28
                                clear c28
                                by_cases c29 : (wrap64 (x1_2 + 1)) < (wrap64 (a4 - 1))
                                · rw [if_pos c29] at H
                                  have c29b0 : decide ((wrap64 (x1_2 + 1)) < (wrap64 (a4 - 1))) = true := decide_eq_true c29
                                  clear c29
                                  obtain rfl := Option.some.inj H
                                  go_wp2
                                  go_ret
                                  exact ⟨by first | rfl | (simp; done) | (simp [*]; done), by repeat (first | exact Drawn0.refl _ | apply Drawn0.step)⟩
                                · rw [if_neg c29] at H
                                  have c29b0 : decide ((wrap64 (x1_2 + 1)) < (wrap64 (a4 - 1))) = false := decide_eq_false c29
                                  clear c29
                                  have H' := As0.mk H
                                  clear H
                                  go_wp2
                                  go_roundg kj16
                                  case measure => have := HJ8.out; have := HK2.out; have := HJ10.out; have := HJ16.out; omega
                                  case rel => exact ⟨((IntKind.u64.wrap (Int.tdiv x0_2 2))), ((wrap64 (x1_2 + 1))), (x13_2), (by first | rfl | (simp; done) | (simp [*]; done)), (by first | rfl | (simp; done) | (simp [*]; done)), (by first | rfl | (simp; done) | (simp [*]; done)), H', ⟨by have := HJ8.out; have := HK2.out; have := HJ10.out; have := HJ16.out; omega⟩, by repeat (first | exact Drawn0.refl _ | apply Drawn0.step)⟩
                              · rw [if_neg c28] at H
                                have c28b0 : ((IntKind.u64.wrap (Int.tdiv x0_2 2)) == 0) = false := beq_eq_false_iff_ne.mpr c28
                                have c28b1 : ((IntKind.u64.wrap (Int.tdiv x0_2 2)) != 0) = true := bne_iff_ne.mpr c28
                                have H' := As0.mk H
                                clear H
                                go_wp2
                                go_roundg kj16
                                case measure => have := HJ8.out; have := HK2.out; have := HJ10.out; have := HJ16.out; omega
                                case rel => exact ⟨((IntKind.u64.wrap (Int.tdiv x0_2 2))), ((wrap64 (x1_2 + 1))), (x13_2), (by first | rfl | (simp; done) | (simp [*]; done)), (by first | rfl | (simp; done) | (simp [*]; done)), (by first | rfl | (simp; done) | (simp [*]; done)), H', ⟨by have := HJ8.out; have := HK2.out; have := HJ10.out; have := HJ16.out; omega⟩, by repeat (first | exact Drawn0.refl _ | apply Drawn0.step)⟩
                  · replace c16 := Bool.eq_false_iff.mpr c16
                    subst c16
                    have H1 : (if x13_2 = 3 then (br_near.j4 kj10 x0_2 x1_2 a3 a4 a5 true) else (if x13_2 = 2 then (br_near.j4 kj10 x0_2 x1_2 a3 a4 a5 ((Int.tmod x0_2 2) == 1)) else (br_near.j4 kj10 x0_2 x1_2 a3 a4 a5 false))) = some r := by rw [if_neg (show ¬ (false = true) by decide)] at H; exact H
                    clear H
                    have H := H1
                    clear H1
                    have HC30 := As0.mk H
                    clear H
                    go_upto_region 20 with (fail)
                    go_cut [67] (fun v67 wc => ∃ (kq : Nat) (x67_29 : Bool), v67 = .bool x67_29 ∧ As0 (br_near.j4 kq x0_2 x1_2 a3 a4 a5 x67_29 = some r) ∧ As0 (kq ≤ kj10) ∧ Drawn0 w wc)
                    case first =>
                      have H := HC30.out
                      clear HC30
                      by_cases c31 : x13_2 = 3
                      · rw [if_pos c31] at H
                        have c31b0 : (x13_2 == 3) = true := beq_iff_eq.mpr c31
                        have c31b1 : (x13_2 != 3) = false := bne_eq_false_iff_eq.mpr c31
                        clear c31
                        (first | rw [c31b0] | (simp only [i64_w, i32_w]; rw [c31b0]) | skip)
                        have H' := As0.mk H
                        clear H
                        go_wp2
                        go_meet
                        case rel => exact ⟨_, (true), (by first | rfl | (simp; done) | (simp [*]; done)), H', ⟨by have := HJ8.out; have := HK2.out; have := HJ10.out; first | omega | exact Nat.le_refl _⟩, by repeat (first | exact Drawn0.refl _ | apply Drawn0.step)⟩
                      · rw [if_neg c31] at H
                        have c31b0 : (x13_2 == 3) = false := beq_eq_false_iff_ne.mpr c31
                        have c31b1 : (x13_2 != 3) = true := bne_iff_ne.mpr c31
                        (first | rw [c31b0] | (simp only [i64_w, i32_w]; rw [c31b0]) | skip)
                        by_cases c32 : x13_2 = 2
                        · rw [if_pos c32] at H
                          have c32b0 : (x13_2 == 2) = true := beq_iff_eq.mpr c32
                          have c32b1 : (x13_2 != 2) = false := bne_eq_false_iff_eq.mpr c32
                          clear c32
                          have H' := As0.mk H
                          clear H
                          go_wp2
                          go_meet
                          case rel => exact ⟨_, (((Int.tmod x0_2 2) == 1)), (by first | rfl | (simp; done) | (simp [*]; done)), H', ⟨by have := HJ8.out; have := HK2.out; have := HJ10.out; first | omega | exact Nat.le_refl _⟩, by repeat (first | exact Drawn0.refl _ | apply Drawn0.step)⟩
                        · rw [if_neg c32] at H
                          have c32b0 : (x13_2 == 2) = false := beq_eq_false_iff_ne.mpr c32
                          have c32b1 : (x13_2 != 2) = true := bne_iff_ne.mpr c32
                          have H' := As0.mk H
                          clear H
                          go_wp2
                          go_meet
                          case rel => exact ⟨_, (false), (by first | rfl | (simp; done) | (simp [*]; done)), H', ⟨by have := HJ8.out; have := HK2.out; have := HJ10.out; first | omega | exact Nat.le_refl _⟩, by repeat (first | exact Drawn0.refl _ | apply Drawn0.step)⟩
                    case rest =>
                      clear HC30
                      try clear c1
                      try clear c2
                      try clear p2
                      try clear c3
                      try clear p6
                      try clear c7
                      try clear c7b0
                      try clear c8
                      try clear c8b0
                      try clear c10
                      try clear c13
                      try clear c13b0
                      try clear c13b1
                      try clear c15
                      try clear c15b0
                      try clear c16
                      try clear c18
                      try clear c18b0
                      try clear c18b1
                      try clear c19
                      try clear c20
                      try clear c20b0
                      try clear c20b1
                      try clear c21
                      try clear c21b0
                      try clear c22
                      try clear c22b0
                      try clear c22b1
                      try clear c23
                      try clear c23b0
                      try clear c23b1
                      try clear c24
                      try clear c24b0
                      try clear c25
                      try clear c25b0
                      try clear c26
                      try clear c26b0
                      try clear c26b1
                      try clear c27
                      try clear c27b0
                      try clear c28
                      try clear c28b0
                      try clear c28b1
                      try clear c29
                      try clear c29b0
                      try clear c31
                      try clear c31b0
                      try clear c31b1
                      try clear c32
                      try clear c32b0
                      try clear c32b1
                      try clear p2
                      try clear p6
                      obtain ⟨kq, x67_29, rfl, HA, HJ29, ⟨mc29, rfl⟩⟩ := hcut
                      cases kq with
                      | zero => exact absurd HA.out (by simp [br_near.j4])
                      | succ kj29 =>
                        have H := HA.out
                        clear HA
                        simp only [br_near.j4] at H
                        have HC33 := As0.mk H
                        clear H
                        go_upto_if 67 with (fail)
                        go_cut [0] (fun v0 wc => ∃ (kq : Nat) (x0_32 : Int), v0 = .int .u64 x0_32 ∧ As0 (br_near.j5 kq x0_32 x1_2 a3 a4 a5 = some r) ∧ As0 (kq ≤ kj29) ∧ Drawn0 w wc)
                        case first =>
                          have H := HC33.out
                          clear HC33
                          by_cases c34 : x67_29 = true
                          · subst c34
                            have H1 : (br_near.j5 kj29 (IntKind.u64.wrap (x0_2 + 1)) x1_2 a3 a4 a5) = some r := by rw [if_pos rfl] at H; exact H
                            clear H
                            have H := H1
                            clear H1
                            have H' := As0.mk H
                            clear H
                            go_wp2
                            go_meet
                            case rel => exact ⟨_, (IntKind.u64.wrap (x0_2 + 1)), (by first | rfl | (simp; done) | (simp [*]; done)), H', ⟨by have := HJ8.out; have := HK2.out; have := HJ10.out; have := HJ29.out; first | omega | exact Nat.le_refl _⟩, by repeat (first | exact Drawn0.refl _ | apply Drawn0.step)⟩
                          · replace c34 := Bool.eq_false_iff.mpr c34
                            subst c34
                            have H1 : (br_near.j5 kj29 x0_2 x1_2 a3 a4 a5) = some r := by rw [if_neg (show ¬ (false = true) by decide)] at H; exact H
                            clear H
                            have H := H1
                            clear H1
                            have H' := As0.mk H
                            clear H
                            go_wp2
                            go_meet
                            case rel => exact ⟨_, (x0_2), (by first | rfl | (simp; done) | (simp [*]; done)), H', ⟨by have := HJ8.out; have := HK2.out; have := HJ10.out; have := HJ29.out; first | omega | exact Nat.le_refl _⟩, by repeat (first | exact Drawn0.refl _ | apply Drawn0.step)⟩
                        case rest =>
                          clear HC33
                          try clear c1
                          try clear c2
                          try clear p2
                          try clear c3
                          try clear p6
                          try clear c7
                          try clear c7b0
                          try clear c8
                          try clear c8b0
                          try clear c10
                          try clear c13
                          try clear c13b0
                          try clear c13b1
                          try clear c15
                          try clear c15b0
                          try clear c16
                          try clear c18
                          try clear c18b0
                          try clear c18b1
                          try clear c19
                          try clear c20
                          try clear c20b0
                          try clear c20b1
                          try clear c21
                          try clear c21b0
                          try clear c22
                          try clear c22b0
                          try clear c22b1
                          try clear c23
                          try clear c23b0
                          try clear c23b1
                          try clear c24
                          try clear c24b0
                          try clear c25
                          try clear c25b0
                          try clear c26
                          try clear c26b0
                          try clear c26b1
                          try clear c27
                          try clear c27b0
                          try clear c28
                          try clear c28b0
                          try clear c28b1
                          try clear c29
                          try clear c29b0
                          try clear c31
                          try clear c31b0
                          try clear c31b1
                          try clear c32
                          try clear c32b0
                          try clear c32b1
                          try clear c34
                          try clear p2
                          try clear p6
                          obtain ⟨kq, x0_32, rfl, HA, HJ32, ⟨mc32, rfl⟩⟩ := hcut
                          cases kq with
                          | zero => exact absurd HA.out (by simp [br_near.j5])
                          | succ kj32 =>
                            have H := HA.out
                            clear HA
                            simp only [br_near.j5] at H
                            have HC35 := As0.mk H
                            clear H
                            go_upto_block 2 with (fail)
                            go_cut [0, 1] (fun v0 v1 wc => ∃ (kq : Nat) (x0_34 : Int) (x1_34 : Int), v0 = .int .u64 x0_34 ∧ v1 = .int .i64 x1_34 ∧ As0 (br_near.j7 kq x0_34 x1_34 a3 a4 a5 = some r) ∧ As0 (kq ≤ kj32) ∧ Drawn0 w wc)
                            case first =>
                              have H := HC35.out
                              clear HC35
                              have H' := As0.mk H
                              clear H
                              go_wp2
                              go_loopg [0, 1] kj32 (fun kq v0 v1 w' => ∃ (x0_6 : Int) (x1_6 : Int), v0 = .int .u64 x0_6 ∧ v1 = .int .i64 x1_6 ∧ As0 (br_near.l1 kq x0_6 x1_6 a3 a4 a5 = some r) ∧ As0 (kq ≤ kj32) ∧ Drawn0 w w')
                              case atStart => exact ⟨(x0_32), (x1_2), (by first | rfl | (simp; done) | (simp [*]; done)), (by first | rfl | (simp; done) | (simp [*]; done)), H', ⟨Nat.le_refl _⟩, by repeat (first | exact Drawn0.refl _ | apply Drawn0.step)⟩
                              case round =>
                                clear H'
                                try clear c1
                                try clear c2
                                try clear p2
                                try clear c3
                                try clear p6
                                try clear c7
                                try clear c7b0
                                try clear c8
                                try clear c8b0
                                try clear c10
                                try clear c13
                                try clear c13b0
                                try clear c13b1
                                try clear c15
                                try clear c15b0
                                try clear c16
                                try clear c18
                                try clear c18b0
                                try clear c18b1
                                try clear c19
                                try clear c20
                                try clear c20b0
                                try clear c20b1
                                try clear c21
                                try clear c21b0
                                try clear c22
                                try clear c22b0
                                try clear c22b1
                                try clear c23
                                try clear c23b0
                                try clear c23b1
                                try clear c24
                                try clear c24b0
                                try clear c25
                                try clear c25b0
                                try clear c26
                                try clear c26b0
                                try clear c26b1
                                try clear c27
                                try clear c27b0
                                try clear c28
                                try clear c28b0
                                try clear c28b1
                                try clear c29
                                try clear c29b0
                                try clear c31
                                try clear c31b0
                                try clear c31b1
                                try clear c32
                                try clear c32b0
                                try clear c32b1
                                try clear c34
                                try clear p2
                                try clear p6
                                obtain ⟨x0_6, x1_6, rfl, rfl, HA, HK6, ⟨m6, rfl⟩⟩ := hrel
                                cases gk with
                                | zero => exact absurd HA.out (by simp [br_near.l1])
                                | succ k6 =>
                                  have H := HA.out
                                  clear HA
                                  simp only [br_near.l1] at H
                                  obtain ⟨ji36, hji36⟩ : ∃ j_ : Int, (IntKind.u64.wrap (a3)) = j_ := ⟨_, rfl⟩
                                  replace H : (if 0 ≤ (ji36) then (if x0_6 < (shl .u64 1 (ji36)) then (if x1_6 > a4 then (br_near.l1 k6 (IntKind.u64.wrap (x0_6 * 2)) (wrap64 (x1_6 - 1)) a3 a4 a5) else (br_near.j7 k6 x0_6 x1_6 a3 a4 a5)) else (br_near.j7 k6 x0_6 x1_6 a3 a4 a5)) else (none)) = some r := by first | (rw [hji36] at H; exact H) | (simp only [hji36] at H ⊢; exact H)
                                  by_cases c37 : 0 ≤ (ji36)
                                  · rw [if_pos c37] at H
                                    have c37b0 := eq_true c37
                                    have c37b1 : decide (0 ≤ (ji36)) = true := decide_eq_true c37
                                    clear c37
                                    obtain ⟨ji38, hji38⟩ : ∃ j_ : Int, (shl .u64 1 (ji36)) = j_ := ⟨_, rfl⟩
                                    replace H : (if x0_6 < (ji38) then (if x1_6 > a4 then (br_near.l1 k6 (IntKind.u64.wrap (x0_6 * 2)) (wrap64 (x1_6 - 1)) a3 a4 a5) else (br_near.j7 k6 x0_6 x1_6 a3 a4 a5)) else (br_near.j7 k6 x0_6 x1_6 a3 a4 a5)) = some r := by first | (rw [hji38] at H; exact H) | (simp only [hji38] at H ⊢; exact H)
                                    have hji38_ : (IntKind.u64.wrap (1 * 2 ^ min (ji36).toNat 64)) = ji38 := hji38
                                    have hji38z : (ji36) ≤ 64 → (IntKind.u64.wrap (1 * 2 ^ (ji36).toNat)) = ji38 := shl_small hji38
                                    have hji38u : (IntKind.u64.wrap (2 ^ min (ji36).toNat 64)) = ji38 := by have h_ := hji38_; rw [Int.one_mul] at h_; exact h_
                                    have hji38v : (ji36) ≤ 64 → (IntKind.u64.wrap (2 ^ (ji36).toNat)) = ji38 := fun hle_ => by have h_ := hji38z hle_; rw [Int.one_mul] at h_; exact h_
                                    by_cases c39 : x0_6 < (ji38)
                                    · rw [if_pos c39] at H
                                      have c39b0 : decide (x0_6 < (ji38)) = true := decide_eq_true c39
                                      clear c39
                                      (first | rw [c39b0] | (simp only [i64_w, i32_w]; rw [c39b0]) | skip)
                                      by_cases c40 : x1_6 > a4
                                      · rw [if_pos c40] at H
                                        have c40b0 : decide (a4 < x1_6) = true := decide_eq_true c40
                                        clear c40
                                        have H' := As0.mk H
                                        clear H
                                        go_wp2
                                        go_roundg k6
                                        case measure => have := HJ8.out; have := HK2.out; have := HJ10.out; have := HJ29.out; have := HJ32.out; have := HK6.out; omega
                                        case rel => exact ⟨(IntKind.u64.wrap (x0_6 * 2)), (wrap64 (x1_6 - 1)), (by first | rfl | (simp; done) | (simp [*]; done)), (by first | rfl | (simp; done) | (simp [*]; done)), H', ⟨by have := HJ8.out; have := HK2.out; have := HJ10.out; have := HJ29.out; have := HJ32.out; have := HK6.out; omega⟩, by repeat (first | exact Drawn0.refl _ | apply Drawn0.step)⟩
                                      · rw [if_neg c40] at H
                                        have c40b0 : decide (a4 < x1_6) = false := decide_eq_false c40
                                        clear c40
                                        have H' := As0.mk H
                                        clear H
                                        go_wp2
                                        go_meet
                                        case rel => exact ⟨_, (x0_6), (x1_6), (by first | rfl | (simp; done) | (simp [*]; done)), (by first | rfl | (simp; done) | (simp [*]; done)), H', ⟨by have := HJ8.out; have := HK2.out; have := HJ10.out; have := HJ29.out; have := HJ32.out; have := HK6.out; first | omega | exact Nat.le_refl _⟩, by repeat (first | exact Drawn0.refl _ | apply Drawn0.step)⟩
                                    · rw [if_neg c39] at H
                                      have c39b0 : decide (x0_6 < (ji38)) = false := decide_eq_false c39
                                      clear c39
                                      (first | rw [c39b0] | (simp only [i64_w, i32_w]; rw [c39b0]) | skip)
                                      have H' := As0.mk H
                                      clear H
                                      go_wp2
                                      go_meet
                                      case rel => exact ⟨_, (x0_6), (x1_6), (by first | rfl | (simp; done) | (simp [*]; done)), (by first | rfl | (simp; done) | (simp [*]; done)), H', ⟨by have := HJ8.out; have := HK2.out; have := HJ10.out; have := HJ29.out; have := HJ32.out; have := HK6.out; first | omega | exact Nat.le_refl _⟩, by repeat (first | exact Drawn0.refl _ | apply Drawn0.step)⟩
                                  · rw [if_neg c37] at H
                                    exact absurd H (by simp)
                            case rest =>
                              clear HC35
                              try clear c1
                              try clear c2
                              try clear p2
                              try clear c3
                              try clear c4
                              try clear p6
                              try clear c7
                              try clear c7b0
                              try clear c8
                              try clear c8b0
                              try clear c10
                              try clear c13
                              try clear c13b0
                              try clear c13b1
                              try clear c15
                              try clear c15b0
                              try clear c16
                              try clear c18
                              try clear c18b0
                              try clear c18b1
                              try clear c19
                              try clear c20
                              try clear c20b0
                              try clear c20b1
                              try clear c21
                              try clear c21b0
                              try clear c22
                              try clear c22b0
                              try clear c22b1
                              try clear c23
                              try clear c23b0
                              try clear c23b1
                              try clear c24
                              try clear c24b0
                              try clear c25
                              try clear c25b0
                              try clear c26
                              try clear c26b0
                              try clear c26b1
                              try clear c27
                              try clear c27b0
                              try clear c28
                              try clear c28b0
                              try clear c28b1
                              try clear c29
                              try clear c29b0
                              try clear c31
                              try clear c31b0
                              try clear c31b1
                              try clear c32
                              try clear c32b0
                              try clear c32b1
                              try clear c34
                              try clear c37
                              try clear c37b0
                              try clear c37b1
                              try clear c39
                              try clear c39b0
                              try clear c40
                              try clear c40b0
                              try clear p2
                              try clear p6
                              obtain ⟨kq, x0_34, x1_34, rfl, rfl, HA, HJ34, ⟨mc34, rfl⟩⟩ := hcut
                              cases kq with
                              | zero => exact absurd HA.out (by simp [br_near.j7])
                              | succ kj34 =>
                                have H := HA.out
                                clear HA
                                simp only [br_near.j7] at H
                                obtain ⟨ji41, hji41⟩ : ∃ j_ : Int, (IntKind.u64.wrap (a3)) = j_ := ⟨_, rfl⟩
                                replace H : (if 0 ≤ (ji41) then (if x0_34 ≥ (shl .u64 2 (ji41)) then (br_near.j8 kj34 (IntKind.u64.wrap (Int.tdiv x0_34 2)) (wrap64 (x1_34 + 1)) a3 a4 a5) else (br_near.j8 kj34 x0_34 x1_34 a3 a4 a5)) else (none)) = some r := by first | (rw [hji41] at H; exact H) | (simp only [hji41] at H ⊢; exact H)
                                by_cases c42 : 0 ≤ (ji41)
                                · rw [if_pos c42] at H
                                  have c42b0 := eq_true c42
                                  have c42b1 : decide (0 ≤ (ji41)) = true := decide_eq_true c42
                                  clear c42
                                  obtain ⟨ji43, hji43⟩ : ∃ j_ : Int, (shl .u64 2 (ji41)) = j_ := ⟨_, rfl⟩
                                  replace H : (if x0_34 ≥ (ji43) then (br_near.j8 kj34 (IntKind.u64.wrap (Int.tdiv x0_34 2)) (wrap64 (x1_34 + 1)) a3 a4 a5) else (br_near.j8 kj34 x0_34 x1_34 a3 a4 a5)) = some r := by first | (rw [hji43] at H; exact H) | (simp only [hji43] at H ⊢; exact H)
                                  have hji43_ : (IntKind.u64.wrap (2 * 2 ^ min (ji41).toNat 64)) = ji43 := hji43
                                  have hji43z : (ji41) ≤ 64 → (IntKind.u64.wrap (2 * 2 ^ (ji41).toNat)) = ji43 := shl_small hji43
                                  have HC44 := As0.mk H
                                  clear H
                                  go_upto_if 88 with (fail)
                                  go_cut [0, 1] (fun v0 v1 wc => ∃ (kq : Nat) (x0_43 : Int) (x1_43 : Int), v0 = .int .u64 x0_43 ∧ v1 = .int .i64 x1_43 ∧ As0 (br_near.j8 kq x0_43 x1_43 a3 a4 a5 = some r) ∧ As0 (kq ≤ kj34) ∧ Drawn0 w wc)
                                  case first =>
                                    have H := HC44.out
                                    clear HC44
                                    by_cases c45 : x0_34 ≥ (ji43)
                                    · rw [if_pos c45] at H
                                      have c45b0 : decide ((ji43) ≤ x0_34) = true := decide_eq_true c45
                                      clear c45
                                      (first | rw [c45b0] | (simp only [i64_w, i32_w]; rw [c45b0]) | skip)
                                      have H' := As0.mk H
                                      clear H
                                      go_wp2
                                      go_meet
                                      case rel => exact ⟨_, (IntKind.u64.wrap (Int.tdiv x0_34 2)), (wrap64 (x1_34 + 1)), (by first | rfl | (simp; done) | (simp [*]; done)), (by first | rfl | (simp; done) | (simp [*]; done)), H', ⟨by have := HJ8.out; have := HK2.out; have := HJ10.out; have := HJ29.out; have := HJ32.out; have := HJ34.out; first | omega | exact Nat.le_refl _⟩, by repeat (first | exact Drawn0.refl _ | apply Drawn0.step)⟩
                                    · rw [if_neg c45] at H
                                      have c45b0 : decide ((ji43) ≤ x0_34) = false := decide_eq_false c45
                                      clear c45
                                      (first | rw [c45b0] | (simp only [i64_w, i32_w]; rw [c45b0]) | skip)
                                      have H' := As0.mk H
                                      clear H
                                      go_wp2
                                      go_meet
                                      case rel => exact ⟨_, (x0_34), (x1_34), (by first | rfl | (simp; done) | (simp [*]; done)), (by first | rfl | (simp; done) | (simp [*]; done)), H', ⟨by have := HJ8.out; have := HK2.out; have := HJ10.out; have := HJ29.out; have := HJ32.out; have := HJ34.out; first | omega | exact Nat.le_refl _⟩, by repeat (first | exact Drawn0.refl _ | apply Drawn0.step)⟩
                                  case rest =>
                                    clear HC44
                                    try clear c1
                                    try clear c2
                                    try clear p2
                                    try clear c3
                                    try clear c4
                                    try clear p6
                                    try clear c7
                                    try clear c7b0
                                    try clear c8
                                    try clear c8b0
                                    try clear c10
                                    try clear c13
                                    try clear c13b0
                                    try clear c13b1
                                    try clear c15
                                    try clear c15b0
                                    try clear c16
                                    try clear c18
                                    try clear c18b0
                                    try clear c18b1
                                    try clear c19
                                    try clear c20
                                    try clear c20b0
                                    try clear c20b1
                                    try clear c21
                                    try clear c21b0
                                    try clear c22
                                    try clear c22b0
                                    try clear c22b1
                                    try clear c23
                                    try clear c23b0
                                    try clear c23b1
                                    try clear c24
                                    try clear c24b0
                                    try clear c25
                                    try clear c25b0
                                    try clear c26
                                    try clear c26b0
                                    try clear c26b1
                                    try clear c27
                                    try clear c27b0
                                    try clear c28
                                    try clear c28b0
                                    try clear c28b1
                                    try clear c29
                                    try clear c29b0
                                    try clear c31
                                    try clear c31b0
                                    try clear c31b1
                                    try clear c32
                                    try clear c32b0
                                    try clear c32b1
                                    try clear c34
                                    try clear c37
                                    try clear c37b0
                                    try clear c37b1
                                    try clear c39
                                    try clear c39b0
                                    try clear c40
                                    try clear c40b0
                                    try clear c42
                                    try clear c42b0
                                    try clear c42b1
                                    try clear c45
                                    try clear c45b0
                                    try clear p2
                                    try clear p6
                                    obtain ⟨kq, x0_43, x1_43, rfl, rfl, HA, HJ43, ⟨mc43, rfl⟩⟩ := hcut
                                    cases kq with
                                    | zero => exact absurd HA.out (by simp [br_near.j8])
                                    | succ kj43 =>
                                      have H := HA.out
                                      clear HA
                                      simp only [br_near.j8] at H
                                      obtain ⟨ji46, hji46⟩ : ∃ j_ : Int, (IntKind.u64.wrap (a3)) = j_ := ⟨_, rfl⟩
                                      have hMEND : ji46 = ji41 := hji46.symm.trans hji41
                                      subst hMEND
                                      have hMENDx : (0 ≤ ji46) = True := eq_true (by rw [← hji46, IntKind.wrap_u64]; omega)
                                      have hMENDy : decide (0 ≤ ji46) = true := decide_eq_true (by rw [← hji46, IntKind.wrap_u64]; omega)
                                      replace H : (if 0 ≤ (ji46) then (if x0_43 < (shl .u64 1 (ji46)) then (some x0_43) else (if (wrap64 (x1_43 - a4)) > 3000 then (some a5) else (if (IntKind.u64.wrap ((shl .u64 (IntKind.u64.wrap (wrap64 (x1_43 - a4))) (ji46)) + x0_43)) > a5 then (some a5) else (some (IntKind.u64.wrap ((shl .u64 (IntKind.u64.wrap (wrap64 (x1_43 - a4))) (ji46)) + x0_43)))))) else (none)) = some r := by first | (rw [hji46] at H; exact H) | (simp only [hji46] at H ⊢; exact H)
                                      by_cases c47 : 0 ≤ (ji46)
                                      · rw [if_pos c47] at H
                                        have c47b0 := eq_true c47
                                        have c47b1 : decide (0 ≤ (ji46)) = true := decide_eq_true c47
                                        clear c47
                                        obtain ⟨ji48, hji48⟩ : ∃ j_ : Int, (shl .u64 1 (ji46)) = j_ := ⟨_, rfl⟩
                                        replace H : (if x0_43 < (ji48) then (some x0_43) else (if (wrap64 (x1_43 - a4)) > 3000 then (some a5) else (if (IntKind.u64.wrap ((shl .u64 (IntKind.u64.wrap (wrap64 (x1_43 - a4))) (ji46)) + x0_43)) > a5 then (some a5) else (some (IntKind.u64.wrap ((shl .u64 (IntKind.u64.wrap (wrap64 (x1_43 - a4))) (ji46)) + x0_43)))))) = some r := by first | (rw [hji48] at H; exact H) | (simp only [hji48] at H ⊢; exact H)
                                        have hji48_ : (IntKind.u64.wrap (1 * 2 ^ min (ji46).toNat 64)) = ji48 := hji48
                                        have hji48z : (ji46) ≤ 64 → (IntKind.u64.wrap (1 * 2 ^ (ji46).toNat)) = ji48 := shl_small hji48
                                        have hji48u : (IntKind.u64.wrap (2 ^ min (ji46).toNat 64)) = ji48 := by have h_ := hji48_; rw [Int.one_mul] at h_; exact h_
                                        have hji48v : (ji46) ≤ 64 → (IntKind.u64.wrap (2 ^ (ji46).toNat)) = ji48 := fun hle_ => by have h_ := hji48z hle_; rw [Int.one_mul] at h_; exact h_
                                        by_cases c49 : x0_43 < (ji48)
                                        · rw [if_pos c49] at H
                                          have c49b0 : decide (x0_43 < (ji48)) = true := decide_eq_true c49
                                          clear c49
                                          obtain rfl := Option.some.inj H
                                          go_wp2
                                          go_ret
                                          exact ⟨by first | rfl | (simp; done) | (simp only [← hji41, ← hji43, ← hji46, ← hji48] <;> (first | rfl | simp)) | (simp [*]; done), by repeat (first | exact Drawn0.refl _ | apply Drawn0.step)⟩
                                        · rw [if_neg c49] at H
                                          have c49b0 : decide (x0_43 < (ji48)) = false := decide_eq_false c49
                                          clear c49
                                          have c50b0 := eq_true (of_decide_eq_true (by first | (with_reducible assumption) | assumption) : 0 ≤ (ji46))
                                          obtain ⟨ji51, hji51⟩ : ∃ j_ : Int, (shl .u64 (IntKind.u64.wrap (wrap64 (x1_43 - a4))) (ji46)) = j_ := ⟨_, rfl⟩
                                          replace H : (if (wrap64 (x1_43 - a4)) > 3000 then (some a5) else (if (IntKind.u64.wrap ((ji51) + x0_43)) > a5 then (some a5) else (some (IntKind.u64.wrap ((ji51) + x0_43))))) = some r := by first | (rw [hji51] at H; exact H) | (simp only [hji51] at H ⊢; exact H)
                                          have hji51_ : (IntKind.u64.wrap ((IntKind.u64.wrap (wrap64 (x1_43 - a4))) * 2 ^ min (ji46).toNat 64)) = ji51 := hji51
                                          have hji51z : (ji46) ≤ 64 → (IntKind.u64.wrap ((IntKind.u64.wrap (wrap64 (x1_43 - a4))) * 2 ^ (ji46).toNat)) = ji51 := shl_small hji51
                                          by_cases c52 : (wrap64 (x1_43 - a4)) > 3000
                                          · rw [if_pos c52] at H
                                            have c52b0 : decide (3000 < (wrap64 (x1_43 - a4))) = true := decide_eq_true c52
                                            clear c52
                                            obtain rfl := Option.some.inj H
                                            go_wp2
                                            go_ret
                                            exact ⟨by first | rfl | (simp; done) | (simp only [← hji41, ← hji43, ← hji46, ← hji48, ← hji51] <;> (first | rfl | simp)) | (simp [*]; done), by repeat (first | exact Drawn0.refl _ | apply Drawn0.step)⟩
                                          · rw [if_neg c52] at H
                                            have c52b0 : decide (3000 < (wrap64 (x1_43 - a4))) = false := decide_eq_false c52
                                            clear c52
                                            by_cases c53 : (IntKind.u64.wrap ((ji51) + x0_43)) > a5
                                            · rw [if_pos c53] at H
                                              have c53b0 : decide (a5 < (IntKind.u64.wrap ((ji51) + x0_43))) = true := decide_eq_true c53
                                              clear c53
                                              obtain rfl := Option.some.inj H
                                              go_wp2
                                              go_ret
                                              exact ⟨by first | rfl | (simp; done) | (simp only [← hji41, ← hji43, ← hji46, ← hji48, ← hji51] <;> (first | rfl | simp)) | (simp [*]; done), by repeat (first | exact Drawn0.refl _ | apply Drawn0.step)⟩
                                            · rw [if_neg c53] at H
                                              have c53b0 : decide (a5 < (IntKind.u64.wrap ((ji51) + x0_43))) = false := decide_eq_false c53
                                              clear c53
                                              obtain rfl := Option.some.inj H
                                              go_wp2
                                              go_ret
                                              exact ⟨by first | rfl | (simp; done) | (simp only [← hji41, ← hji43, ← hji46, ← hji48, ← hji51] <;> (first | rfl | simp)) | (simp [*]; done), by repeat (first | exact Drawn0.refl _ | apply Drawn0.step)⟩
                                      · rw [if_neg c47] at H
                                        exact absurd H (by simp)
                                · rw [if_neg c42] at H
                                  exact absurd H (by simp)
end Go.Proofs.Ytjfmomogidgbpaa.PFl
namespace Go.Proofs.Ytjfmomogidgbpaa.PFl
open Go.RowKit Go.Proofs.YtjfmomogidgbpaaW.PrintWords Go.Proofs.YtjfmomogidgbpaaW.PrintLast Go.Proofs.YtjfmomogidgbpaaW.PrintMore
attribute [local go_sem] max2_int min2_int max_two min_two max_three min_three max_four min_four
set_option linter.unusedVariables false
set_option linter.unusedSimpArgs false
def br_sign.f (a0 : Int) : Option (Int) := if a0 = 32 then (some 2147483648) else (some 9223372036854775808)
set_option maxHeartbeats 8000000 in
set_option maxRecDepth 100000 in
theorem br_sign.calls (a0 : Int) (r : Int) (w : World) (h : br_sign.f a0 = some r) :
    Calls Try.prog 35 #[.int .i64 a0] w fun e w' => e = .returned (.int .u64 r) ∧ Drawn0 w w' := by
  have H : (if a0 = 32 then (some 2147483648) else (some 9223372036854775808)) = some r := h
  clear h
  by_cases c2 : a0 = 32
  · rw [if_pos c2] at H
    have c2b0 : (a0 == 32) = true := beq_iff_eq.mpr c2
    have c2b1 : (a0 != 32) = false := bne_eq_false_iff_eq.mpr c2
    clear c2
    obtain rfl := Option.some.inj H
    go_enter Try.func35, Try.ntmps35
    go_wp2
    go_ret
    exact ⟨by first | rfl | (simp; done) | (simp [*]; done), by repeat (first | exact Drawn0.refl _ | apply Drawn0.step)⟩
  · rw [if_neg c2] at H
    have c2b0 : (a0 == 32) = false := beq_eq_false_iff_ne.mpr c2
    have c2b1 : (a0 != 32) = true := bne_iff_ne.mpr c2
    obtain rfl := Option.some.inj H
    go_enter Try.func35, Try.ntmps35
    go_wp2
    go_ret
    exact ⟨by first | rfl | (simp; done) | (simp [*]; done), by repeat (first | exact Drawn0.refl _ | apply Drawn0.step)⟩
mutual
def br_Round.j0 : Nat → Int → Bool → Int → Int → Bool → Bool → Option (Int × Int)
  | 0, _, _, _, _, _, _ => none
  | k + 1, x0, x1, x2, x3, x4, x28 => if x28 = true then (some (0, 1)) else (if x0 = 64 then (br_Round.j1 k x0 x1 x2 x3 x4 52 (-1074) 9218868437227405312) else (br_Round.j1 k x0 x1 x2 x3 x4 23 (-149) 2139095040))
def br_Round.j1 : Nat → Int → Bool → Int → Int → Bool → Int → Int → Int → Option (Int × Int)
  | 0, _, _, _, _, _, _, _, _ => none
  | k + 1, x0, x1, x2, x3, x4, x12, x13, x14 => if x2 > 0 then ((br_near.f k x2 x3 x4 x12 x13 x14).bind fun t299 => (if x1 = true then ((br_sign.f x0).bind fun t300 => (some (IntKind.u64.wrap (t299 + t300), 0))) else (some (t299, 0)))) else (if x1 = true then ((br_sign.f x0).bind fun t301 => (some (IntKind.u64.wrap (0 + t301), 0))) else (some (0, 0)))
end
def br_Round.f (k : Nat) (a0 : Int) (a1 : Bool) (a2 : Int) (a3 : Int) (a4 : Bool) : Option (Int × Int) := if a0 = 32 then (if a4 = true then (br_Round.j0 k a0 a1 a2 a3 a4 (decide (a2 < 288230376151711744))) else (br_Round.j0 k a0 a1 a2 a3 a4 false)) else (if a0 = 64 then (if a4 = true then (br_Round.j0 k a0 a1 a2 a3 a4 (decide (a2 < 288230376151711744))) else (br_Round.j0 k a0 a1 a2 a3 a4 false)) else (br_Round.j0 k a0 a1 a2 a3 a4 true))
theorem br_Round.mono_l : ∀ k, (∀ y0 y1 y2 y3 y4 y5, LeO (br_Round.j0 k y0 y1 y2 y3 y4 y5) (br_Round.j0 (k + 1) y0 y1 y2 y3 y4 y5)) ∧ (∀ y0 y1 y2 y3 y4 y5 y6 y7, LeO (br_Round.j1 k y0 y1 y2 y3 y4 y5 y6 y7) (br_Round.j1 (k + 1) y0 y1 y2 y3 y4 y5 y6 y7)) := by
  intro k
  induction k with
  | zero => exact ⟨fun _ _ _ _ _ _ r h => by simp [br_Round.j0] at h, fun _ _ _ _ _ _ _ _ r h => by simp [br_Round.j1] at h⟩
  | succ k ih =>
    obtain ⟨ih0, ih1⟩ := ih
    refine ⟨?_, ?_⟩
    · intro y0 y1 y2 y3 y4 y5
      unfold br_Round.j0
      repeat' first
      | (with_reducible exact ih0 _ _ _ _ _ _)
      | (with_reducible exact ih1 _ _ _ _ _ _ _ _)
      | (with_reducible exact br_near.mono _ _ _ _ _ _ _)
      | (with_reducible exact LeO.refl _)
      | (with_reducible exact LeO.none _)
      | (with_reducible refine LeO.ite ?_ ?_)
      | (with_reducible refine LeO.bind ?_ (fun _ => ?_))
      | exact ih0 _ _ _ _ _ _
      | exact ih1 _ _ _ _ _ _ _ _
      | exact br_near.mono _ _ _ _ _ _ _
      | exact LeO.none _
      | refine LeO.ite ?_ ?_
      | refine LeO.bind ?_ (fun _ => ?_)
    · intro y0 y1 y2 y3 y4 y5 y6 y7
      unfold br_Round.j1
      repeat' first
      | (with_reducible exact ih0 _ _ _ _ _ _)
      | (with_reducible exact ih1 _ _ _ _ _ _ _ _)
      | (with_reducible exact br_near.mono _ _ _ _ _ _ _)
      | (with_reducible exact LeO.refl _)
      | (with_reducible exact LeO.none _)
      | (with_reducible refine LeO.ite ?_ ?_)
      | (with_reducible refine LeO.bind ?_ (fun _ => ?_))
      | exact ih0 _ _ _ _ _ _
      | exact ih1 _ _ _ _ _ _ _ _
      | exact br_near.mono _ _ _ _ _ _ _
      | exact LeO.none _
      | refine LeO.ite ?_ ?_
      | refine LeO.bind ?_ (fun _ => ?_)
theorem br_Round.mono : ∀ a0 a1 a2 a3 a4 k, LeO (br_Round.f k a0 a1 a2 a3 a4) (br_Round.f (k + 1) a0 a1 a2 a3 a4) := by
  intro a0 a1 a2 a3 a4 k
  obtain ⟨ih0, ih1⟩ := br_Round.mono_l k
  unfold br_Round.f
  repeat' first
      | (with_reducible exact ih0 _ _ _ _ _ _)
      | (with_reducible exact ih1 _ _ _ _ _ _ _ _)
      | (with_reducible exact br_near.mono _ _ _ _ _ _ _)
      | (with_reducible exact LeO.refl _)
      | (with_reducible exact LeO.none _)
      | (with_reducible refine LeO.ite ?_ ?_)
      | (with_reducible refine LeO.bind ?_ (fun _ => ?_))
      | exact ih0 _ _ _ _ _ _
      | exact ih1 _ _ _ _ _ _ _ _
      | exact br_near.mono _ _ _ _ _ _ _
      | exact LeO.none _
      | refine LeO.ite ?_ ?_
      | refine LeO.bind ?_ (fun _ => ?_)
set_option maxHeartbeats 8000000 in
set_option maxRecDepth 100000 in
theorem br_Round.calls (k : Nat) (a0 : Int) (a1 : Bool) (a2 : Int) (a3 : Int) (a4 : Bool) (r1 : Int) (r2 : Int) (w : World) (h : br_Round.f k a0 a1 a2 a3 a4 = some (r1, r2)) :
    Calls Try.prog 18 #[.int .i64 a0, .bool a1, .int .u64 a2, .int .i64 a3, .bool a4] w fun e w' => e = .returned (.tuple #[.int .u64 r1, .int .i64 r2]) ∧ Drawn0 w w' := by
  have H : (if a0 = 32 then (if a4 = true then (br_Round.j0 k a0 a1 a2 a3 a4 (decide (a2 < 288230376151711744))) else (br_Round.j0 k a0 a1 a2 a3 a4 false)) else (if a0 = 64 then (if a4 = true then (br_Round.j0 k a0 a1 a2 a3 a4 (decide (a2 < 288230376151711744))) else (br_Round.j0 k a0 a1 a2 a3 a4 false)) else (br_Round.j0 k a0 a1 a2 a3 a4 true))) = some (r1, r2) := h
  clear h
  have HC6 := As0.mk H
  clear H
  go_enter Try.func18, Try.ntmps18
  go_upto_region 1 with (fail)
  go_cut [28] (fun v28 wc => ∃ (kq : Nat) (x28_5 : Bool), v28 = .bool x28_5 ∧ As0 (br_Round.j0 kq a0 a1 a2 a3 a4 x28_5 = some (r1, r2)) ∧ As0 (kq ≤ k) ∧ Drawn0 w wc)
  case first =>
    have H := HC6.out
    clear HC6
    by_cases c7 : a0 = 32
    · rw [if_pos c7] at H
      have c7b0 : (a0 == 32) = true := beq_iff_eq.mpr c7
      have c7b1 : (a0 != 32) = false := bne_eq_false_iff_eq.mpr c7
      clear c7
      (first | rw [c7b0] | (simp only [i64_w, i32_w]; rw [c7b0]) | skip)
      by_cases c8 : a4 = true
      · subst c8
        have H1 : (br_Round.j0 k a0 a1 a2 a3 true (decide (a2 < 288230376151711744))) = some (r1, r2) := by rw [if_pos rfl] at H; exact H
        clear H
        have H := H1
        clear H1
        have H' := As0.mk H
        clear H
        go_wp2
        go_meet
        case rel => exact ⟨_, (decide (a2 < 288230376151711744)), (by first | rfl | (simp; done) | (simp [*]; done)), H', ⟨by first | omega | exact Nat.le_refl _⟩, by repeat (first | exact Drawn0.refl _ | apply Drawn0.step)⟩
      · replace c8 := Bool.eq_false_iff.mpr c8
        subst c8
        have H1 : (br_Round.j0 k a0 a1 a2 a3 false false) = some (r1, r2) := by rw [if_neg (show ¬ (false = true) by decide)] at H; exact H
        clear H
        have H := H1
        clear H1
        have H' := As0.mk H
        clear H
        go_wp2
        go_meet
        case rel => exact ⟨_, (false), (by first | rfl | (simp; done) | (simp [*]; done)), H', ⟨by first | omega | exact Nat.le_refl _⟩, by repeat (first | exact Drawn0.refl _ | apply Drawn0.step)⟩
    · rw [if_neg c7] at H
      have c7b0 : (a0 == 32) = false := beq_eq_false_iff_ne.mpr c7
      have c7b1 : (a0 != 32) = true := bne_iff_ne.mpr c7
      (first | rw [c7b0] | (simp only [i64_w, i32_w]; rw [c7b0]) | skip)
      by_cases c9 : a0 = 64
      · rw [if_pos c9] at H
        have c9b0 : (a0 == 64) = true := beq_iff_eq.mpr c9
        have c9b1 : (a0 != 64) = false := bne_eq_false_iff_eq.mpr c9
        clear c9
        by_cases c10 : a4 = true
        · subst c10
          have H1 : (br_Round.j0 k a0 a1 a2 a3 true (decide (a2 < 288230376151711744))) = some (r1, r2) := by rw [if_pos rfl] at H; exact H
          clear H
          have H := H1
          clear H1
          have H' := As0.mk H
          clear H
          go_wp2
          go_meet
          case rel => exact ⟨_, (decide (a2 < 288230376151711744)), (by first | rfl | (simp; done) | (simp [*]; done)), H', ⟨by first | omega | exact Nat.le_refl _⟩, by repeat (first | exact Drawn0.refl _ | apply Drawn0.step)⟩
        · replace c10 := Bool.eq_false_iff.mpr c10
          subst c10
          have H1 : (br_Round.j0 k a0 a1 a2 a3 false false) = some (r1, r2) := by rw [if_neg (show ¬ (false = true) by decide)] at H; exact H
          clear H
          have H := H1
          clear H1
          have H' := As0.mk H
          clear H
          go_wp2
          go_meet
          case rel => exact ⟨_, (false), (by first | rfl | (simp; done) | (simp [*]; done)), H', ⟨by first | omega | exact Nat.le_refl _⟩, by repeat (first | exact Drawn0.refl _ | apply Drawn0.step)⟩
      · rw [if_neg c9] at H
        have c9b0 : (a0 == 64) = false := beq_eq_false_iff_ne.mpr c9
        have c9b1 : (a0 != 64) = true := bne_iff_ne.mpr c9
        have H' := As0.mk H
        clear H
        go_wp2
        go_meet
        case rel => exact ⟨_, (true), (by first | rfl | (simp; done) | (simp [*]; done)), H', ⟨by first | omega | exact Nat.le_refl _⟩, by repeat (first | exact Drawn0.refl _ | apply Drawn0.step)⟩
  case rest =>
    clear HC6
    try clear c1
    try clear p2
    try clear c7
    try clear c7b0
    try clear c7b1
    try clear c8
    try clear c9
    try clear c9b0
    try clear c9b1
    try clear c10
    obtain ⟨kq, x28_5, rfl, HA, HJ5, ⟨mc5, rfl⟩⟩ := hcut
    cases kq with
    | zero => exact absurd HA.out (by simp [br_Round.j0])
    | succ kj5 =>
      have H := HA.out
      clear HA
      simp only [br_Round.j0] at H
      by_cases c11 : x28_5 = true
      · subst c11
        have H1 : (some (0, 1)) = some (r1, r2) := by rw [if_pos rfl] at H; exact H
        clear H
        have H := H1
        clear H1
        simp only [Option.some.injEq, Prod.mk.injEq] at H
        obtain ⟨rfl, rfl⟩ := H
        go_wp2
        go_ret2
        exact ⟨by first | rfl | (simp; done) | (simp [*]; done), by repeat (first | exact Drawn0.refl _ | apply Drawn0.step)⟩
      · replace c11 := Bool.eq_false_iff.mpr c11
        subst c11
        have H1 : (if a0 = 64 then (br_Round.j1 kj5 a0 a1 a2 a3 a4 52 (-1074) 9218868437227405312) else (br_Round.j1 kj5 a0 a1 a2 a3 a4 23 (-149) 2139095040)) = some (r1, r2) := by rw [if_neg (show ¬ (false = true) by decide)] at H; exact H
        clear H
        have H := H1
        clear H1
        have HC12 := As0.mk H
        clear H
        go_upto_if 30 with (fail)
        go_cut [12, 13, 14] (fun v12 v13 v14 wc => ∃ (kq : Nat) (x12_11 : Int) (x13_11 : Int) (x14_11 : Int), v12 = .int .i64 x12_11 ∧ v13 = .int .i64 x13_11 ∧ v14 = .int .u64 x14_11 ∧ As0 (br_Round.j1 kq a0 a1 a2 a3 a4 x12_11 x13_11 x14_11 = some (r1, r2)) ∧ As0 (kq ≤ kj5) ∧ Drawn0 w wc)
        case first =>
          have H := HC12.out
          clear HC12
          by_cases c13 : a0 = 64
          · rw [if_pos c13] at H
            have c13b0 : (a0 == 64) = true := beq_iff_eq.mpr c13
            have c13b1 : (a0 != 64) = false := bne_eq_false_iff_eq.mpr c13
            clear c13
            (first | rw [c13b0] | (simp only [i64_w, i32_w]; rw [c13b0]) | skip)
            have H' := As0.mk H
            clear H
            go_wp2
            go_meet
            case rel => exact ⟨_, (52), ((-1074)), (9218868437227405312), (by first | rfl | (simp; done) | (simp [*]; done)), (by first | rfl | (simp; done) | (simp [*]; done)), (by first | rfl | (simp; done) | (simp [*]; done)), H', ⟨by have := HJ5.out; first | omega | exact Nat.le_refl _⟩, by repeat (first | exact Drawn0.refl _ | apply Drawn0.step)⟩
          · rw [if_neg c13] at H
            have c13b0 : (a0 == 64) = false := beq_eq_false_iff_ne.mpr c13
            have c13b1 : (a0 != 64) = true := bne_iff_ne.mpr c13
            (first | rw [c13b0] | (simp only [i64_w, i32_w]; rw [c13b0]) | skip)
            have H' := As0.mk H
            clear H
            go_wp2
            go_meet
            case rel => exact ⟨_, (23), ((-149)), (2139095040), (by first | rfl | (simp; done) | (simp [*]; done)), (by first | rfl | (simp; done) | (simp [*]; done)), (by first | rfl | (simp; done) | (simp [*]; done)), H', ⟨by have := HJ5.out; first | omega | exact Nat.le_refl _⟩, by repeat (first | exact Drawn0.refl _ | apply Drawn0.step)⟩
        case rest =>
          clear HC12
          try clear c1
          try clear p2
          try clear c5
          try clear c7
          try clear c7b0
          try clear c7b1
          try clear c8
          try clear c9
          try clear c9b0
          try clear c9b1
          try clear c10
          try clear c11
          try clear c13
          try clear c13b0
          try clear c13b1
          try clear p2
          obtain ⟨kq, x12_11, x13_11, x14_11, rfl, rfl, rfl, HA, HJ11, ⟨mc11, rfl⟩⟩ := hcut
          cases kq with
          | zero => exact absurd HA.out (by simp [br_Round.j1])
          | succ kj11 =>
            have H := HA.out
            clear HA
            simp only [br_Round.j1] at H
            by_cases c14 : a2 > 0
            · rw [if_pos c14] at H
              have c14b0 : decide (0 < a2) = true := decide_eq_true c14
              clear c14
              replace H := Option.bind_eq_some_iff.mp H
              obtain ⟨t299, A150, H⟩ := H
              replace H : (if a1 = true then ((br_sign.f a0).bind fun t300 => (some (IntKind.u64.wrap (t299 + t300), 0))) else (some (t299, 0))) = some (r1, r2) := H
              have A15 := As0.mk A150
              clear A150
              by_cases c16 : a1 = true
              · subst c16
                have H1 : ((br_sign.f a0).bind fun t300 => (some (IntKind.u64.wrap (t299 + t300), 0))) = some (r1, r2) := by rw [if_pos rfl] at H; exact H
                clear H
                have H := H1
                clear H1
                replace H := Option.bind_eq_some_iff.mp H
                obtain ⟨t300, A170, H⟩ := H
                replace H : (some (IntKind.u64.wrap (t299 + t300), 0)) = some (r1, r2) := H
                have A17 := As0.mk A170
                clear A170
                simp only [Option.some.injEq, Prod.mk.injEq] at H
                obtain ⟨rfl, rfl⟩ := H
                go_wp2_with (first | ((with_reducible refine gcl (f := 34) rfl ?_); refine goesL_ (some 39) rfl rfl Try.func34 (by kernel_rfl) rfl #[.int .u64 a2, .int .i64 a3, .bool a4, .int .i64 x12_11, .int .i64 x13_11, .int .u64 x14_11] rfl (by (try simp only [List.map_toArray, List.map_cons, List.map_nil]); first | done | rfl) ?_; (with_reducible refine (br_near.calls kj11 a2 a3 a4 x12_11 x13_11 x14_11 t299 _ A15.out).mono ?_); rintro e w' ⟨rfl, ⟨nd, rfl⟩⟩; refine ⟨_, rfl, ?_⟩) | ((with_reducible refine gcl (f := 35) rfl ?_); refine goesL_ (some 43) rfl rfl Try.func35 (by kernel_rfl) rfl #[.int .i64 a0] rfl (by (try simp only [List.map_toArray, List.map_cons, List.map_nil]); first | done | rfl) ?_; (with_reducible refine (br_sign.calls a0 t300 _ A17.out).mono ?_); rintro e w' ⟨rfl, ⟨nd, rfl⟩⟩; refine ⟨_, rfl, ?_⟩))
                go_ret2
                exact ⟨by first | rfl | (simp; done) | (simp [*]; done), by repeat (first | exact Drawn0.refl _ | apply Drawn0.step)⟩
              · replace c16 := Bool.eq_false_iff.mpr c16
                subst c16
                have H1 : (some (t299, 0)) = some (r1, r2) := by rw [if_neg (show ¬ (false = true) by decide)] at H; exact H
                clear H
                have H := H1
                clear H1
                simp only [Option.some.injEq, Prod.mk.injEq] at H
                obtain ⟨rfl, rfl⟩ := H
                go_wp2_with (first | ((with_reducible refine gcl (f := 34) rfl ?_); refine goesL_ (some 39) rfl rfl Try.func34 (by kernel_rfl) rfl #[.int .u64 a2, .int .i64 a3, .bool a4, .int .i64 x12_11, .int .i64 x13_11, .int .u64 x14_11] rfl (by (try simp only [List.map_toArray, List.map_cons, List.map_nil]); first | done | rfl) ?_; (with_reducible refine (br_near.calls kj11 a2 a3 a4 x12_11 x13_11 x14_11 t299 _ A15.out).mono ?_); rintro e w' ⟨rfl, ⟨nd, rfl⟩⟩; refine ⟨_, rfl, ?_⟩))
                go_ret2
                exact ⟨by first | rfl | (simp; done) | (simp [*]; done), by repeat (first | exact Drawn0.refl _ | apply Drawn0.step)⟩
            · rw [if_neg c14] at H
              have c14b0 : decide (0 < a2) = false := decide_eq_false c14
              clear c14
              by_cases c18 : a1 = true
              · subst c18
                have H1 : ((br_sign.f a0).bind fun t301 => (some (IntKind.u64.wrap (0 + t301), 0))) = some (r1, r2) := by rw [if_pos rfl] at H; exact H
                clear H
                have H := H1
                clear H1
                replace H := Option.bind_eq_some_iff.mp H
                obtain ⟨t301, A190, H⟩ := H
                replace H : (some (IntKind.u64.wrap (0 + t301), 0)) = some (r1, r2) := H
                have A19 := As0.mk A190
                clear A190
                simp only [Option.some.injEq, Prod.mk.injEq] at H
                obtain ⟨rfl, rfl⟩ := H
                go_wp2_with (first | ((with_reducible refine gcl (f := 35) rfl ?_); refine goesL_ (some 43) rfl rfl Try.func35 (by kernel_rfl) rfl #[.int .i64 a0] rfl (by (try simp only [List.map_toArray, List.map_cons, List.map_nil]); first | done | rfl) ?_; (with_reducible refine (br_sign.calls a0 t301 _ A19.out).mono ?_); rintro e w' ⟨rfl, ⟨nd, rfl⟩⟩; refine ⟨_, rfl, ?_⟩))
                go_ret2
                exact ⟨by first | rfl | (simp; done) | (simp [*]; done), by repeat (first | exact Drawn0.refl _ | apply Drawn0.step)⟩
              · replace c18 := Bool.eq_false_iff.mpr c18
                subst c18
                have H1 : (some (0, 0)) = some (r1, r2) := by rw [if_neg (show ¬ (false = true) by decide)] at H; exact H
                clear H
                have H := H1
                clear H1
                simp only [Option.some.injEq, Prod.mk.injEq] at H
                obtain ⟨rfl, rfl⟩ := H
                go_wp2
                go_ret2
                exact ⟨by first | rfl | (simp; done) | (simp [*]; done), by repeat (first | exact Drawn0.refl _ | apply Drawn0.step)⟩
def bl_FloatsRounds.f (k : Nat) (a0 : Int) (a1 : Bool) (a2 : Int) (a3 : Int) (a4 : Bool) : Option (Bool) := (bl_awake.f k).bind fun t302 => (if t302 = true then ((floats_Round.f k a0 a1 a2 a3 a4).bind fun bt303 => ((br_Round.f k a0 a1 a2 a3 a4).bind fun bt305 => (if bt303.1 = bt305.1 then (some (bt303.2 == bt305.2)) else (some false)))) else (some false))
theorem bl_FloatsRounds.mono : ∀ a0 a1 a2 a3 a4 k, LeO (bl_FloatsRounds.f k a0 a1 a2 a3 a4) (bl_FloatsRounds.f (k + 1) a0 a1 a2 a3 a4) := by
  intro a0 a1 a2 a3 a4 k
  unfold bl_FloatsRounds.f
  repeat' first
      | (with_reducible exact bl_awake.mono _)
      | (with_reducible exact br_Round.mono _ _ _ _ _ _)
      | (with_reducible exact floats_Round.mono _ _ _ _ _ _)
      | (with_reducible exact LeO.refl _)
      | (with_reducible exact LeO.none _)
      | (with_reducible refine LeO.ite ?_ ?_)
      | (with_reducible refine LeO.bind ?_ (fun _ => ?_))
      | exact bl_awake.mono _
      | exact br_Round.mono _ _ _ _ _ _
      | exact floats_Round.mono _ _ _ _ _ _
      | exact LeO.none _
      | refine LeO.ite ?_ ?_
      | refine LeO.bind ?_ (fun _ => ?_)
set_option maxHeartbeats 8000000 in
set_option maxRecDepth 100000 in
theorem bl_FloatsRounds.calls (k : Nat) (a0 : Int) (a1 : Bool) (a2 : Int) (a3 : Int) (a4 : Bool) (r : Bool) (w : World) (h : bl_FloatsRounds.f k a0 a1 a2 a3 a4 = some r) :
    Calls Try.prog 3 #[.int .i64 a0, .bool a1, .int .u64 a2, .int .i64 a3, .bool a4] w fun e w' => e = .returned (.bool r) ∧ Below w.heap.size w w' := by
  have HB := As0.mk (Below.refl w.heap.size w)
  have H : ((bl_awake.f k).bind fun t302 => (if t302 = true then ((floats_Round.f k a0 a1 a2 a3 a4).bind fun bt303 => ((br_Round.f k a0 a1 a2 a3 a4).bind fun bt305 => (if bt303.1 = bt305.1 then (some (bt303.2 == bt305.2)) else (some false)))) else (some false))) = some r := h
  clear h
  replace H := Option.bind_eq_some_iff.mp H
  obtain ⟨t302, A60, H⟩ := H
  replace H : (if t302 = true then ((floats_Round.f k a0 a1 a2 a3 a4).bind fun bt303 => ((br_Round.f k a0 a1 a2 a3 a4).bind fun bt305 => (if bt303.1 = bt305.1 then (some (bt303.2 == bt305.2)) else (some false)))) else (some false)) = some r := H
  have A6 := As0.mk A60
  clear A60
  by_cases c7 : t302 = true
  · subst c7
    have H1 : ((floats_Round.f k a0 a1 a2 a3 a4).bind fun bt303 => ((br_Round.f k a0 a1 a2 a3 a4).bind fun bt305 => (if bt303.1 = bt305.1 then (some (bt303.2 == bt305.2)) else (some false)))) = some r := by rw [if_pos rfl] at H; exact H
    clear H
    have H := H1
    clear H1
    replace H := Option.bind_eq_some_iff.mp H
    obtain ⟨⟨t303, t304⟩, A80, H⟩ := H
    replace H : ((br_Round.f k a0 a1 a2 a3 a4).bind fun bt305 => (if t303 = bt305.1 then (some (t304 == bt305.2)) else (some false))) = some r := H
    have A8 := As0.mk A80
    clear A80
    replace H := Option.bind_eq_some_iff.mp H
    obtain ⟨⟨t305, t306⟩, A90, H⟩ := H
    replace H : (if t303 = t305 then (some (t304 == t306)) else (some false)) = some r := H
    have A9 := As0.mk A90
    clear A90
    by_cases c10 : t303 = t305
    · rw [if_pos c10] at H
      have c10b0 : (t303 == t305) = true := beq_iff_eq.mpr c10
      have c10b1 : (t303 != t305) = false := bne_eq_false_iff_eq.mpr c10
      clear c10
      obtain rfl := Option.some.inj H
      go_enter Try.func3, Try.ntmps3
      go_wp2_with (first | ((with_reducible refine gcl (f := 16) rfl ?_); refine goesL_ (some 16) rfl rfl Try.func16 (by kernel_rfl) rfl #[] rfl (by (try simp only [List.map_toArray, List.map_cons, List.map_nil]); first | done | rfl) ?_; (with_reducible refine (bl_awake.calls k  true _ A6.out).mono ?_); rintro e w11 ⟨rfl, hb⟩; refine ⟨_, rfl, ?_⟩; have n0_ := As0.mk (bst (by repeat (first | (with_reducible first | exact HB.out | apply bal | apply pwB_ | apply bd1) | exact HB.out)) hb); clear HB; have HB := n0_; clear n0_; (try clear hb); (try clear hb2); (try clear hk); (try clear hi)) | ((with_reducible refine gcl (f := 17) rfl ?_); refine goesL_ (some 25) rfl rfl Try.func17 (by kernel_rfl) rfl #[.int .i64 a0, .bool a1, .int .u64 a2, .int .i64 a3, .bool a4] rfl (by (try simp only [List.map_toArray, List.map_cons, List.map_nil]); first | done | rfl) ?_; (with_reducible refine (floats_Round.calls k a0 a1 a2 a3 a4 t303 t304 _ A8.out).mono ?_); rintro e w12 ⟨rfl, hb⟩; refine ⟨_, rfl, ?_⟩; have n0_ := As0.mk (bst (by repeat (first | (with_reducible first | exact HB.out | apply bal | apply pwB_ | apply bd1) | exact HB.out)) hb); clear HB; have HB := n0_; clear n0_; (try clear hb); (try clear hb2); (try clear hk); (try clear hi)) | ((with_reducible refine gcl (f := 18) rfl ?_); refine goesL_ (some 34) rfl rfl Try.func18 (by kernel_rfl) rfl #[.int .i64 a0, .bool a1, .int .u64 a2, .int .i64 a3, .bool a4] rfl (by (try simp only [List.map_toArray, List.map_cons, List.map_nil]); first | done | rfl) ?_; (with_reducible refine (br_Round.calls k a0 a1 a2 a3 a4 t305 t306 _ A9.out).mono ?_); rintro e w' ⟨rfl, ⟨nd, rfl⟩⟩; refine ⟨_, rfl, ?_⟩))
      go_ret
      exact ⟨by first | rfl | (simp [*] <;> rfl), by repeat (first | (with_reducible first | exact HB.out | apply bal | apply pwB_ | apply bd1) | exact HB.out)⟩
    · rw [if_neg c10] at H
      have c10b0 : (t303 == t305) = false := beq_eq_false_iff_ne.mpr c10
      have c10b1 : (t303 != t305) = true := bne_iff_ne.mpr c10
      obtain rfl := Option.some.inj H
      go_enter Try.func3, Try.ntmps3
      go_wp2_with (first | ((with_reducible refine gcl (f := 16) rfl ?_); refine goesL_ (some 16) rfl rfl Try.func16 (by kernel_rfl) rfl #[] rfl (by (try simp only [List.map_toArray, List.map_cons, List.map_nil]); first | done | rfl) ?_; (with_reducible refine (bl_awake.calls k  true _ A6.out).mono ?_); rintro e w13 ⟨rfl, hb⟩; refine ⟨_, rfl, ?_⟩; have n0_ := As0.mk (bst (by repeat (first | (with_reducible first | exact HB.out | apply bal | apply pwB_ | apply bd1) | exact HB.out)) hb); clear HB; have HB := n0_; clear n0_; (try clear hb); (try clear hb2); (try clear hk); (try clear hi)) | ((with_reducible refine gcl (f := 17) rfl ?_); refine goesL_ (some 25) rfl rfl Try.func17 (by kernel_rfl) rfl #[.int .i64 a0, .bool a1, .int .u64 a2, .int .i64 a3, .bool a4] rfl (by (try simp only [List.map_toArray, List.map_cons, List.map_nil]); first | done | rfl) ?_; (with_reducible refine (floats_Round.calls k a0 a1 a2 a3 a4 t303 t304 _ A8.out).mono ?_); rintro e w14 ⟨rfl, hb⟩; refine ⟨_, rfl, ?_⟩; have n0_ := As0.mk (bst (by repeat (first | (with_reducible first | exact HB.out | apply bal | apply pwB_ | apply bd1) | exact HB.out)) hb); clear HB; have HB := n0_; clear n0_; (try clear hb); (try clear hb2); (try clear hk); (try clear hi)) | ((with_reducible refine gcl (f := 18) rfl ?_); refine goesL_ (some 34) rfl rfl Try.func18 (by kernel_rfl) rfl #[.int .i64 a0, .bool a1, .int .u64 a2, .int .i64 a3, .bool a4] rfl (by (try simp only [List.map_toArray, List.map_cons, List.map_nil]); first | done | rfl) ?_; (with_reducible refine (br_Round.calls k a0 a1 a2 a3 a4 t305 t306 _ A9.out).mono ?_); rintro e w' ⟨rfl, ⟨nd, rfl⟩⟩; refine ⟨_, rfl, ?_⟩))
      go_ret
      exact ⟨by first | rfl | (simp [*] <;> rfl), by repeat (first | (with_reducible first | exact HB.out | apply bal | apply pwB_ | apply bd1) | exact HB.out)⟩
  · replace c7 := Bool.eq_false_iff.mpr c7
    subst c7
    have H1 : (some false) = some r := by rw [if_neg (show ¬ (false = true) by decide)] at H; exact H
    clear H
    have H := H1
    clear H1
    obtain rfl := Option.some.inj H
    go_enter Try.func3, Try.ntmps3
    go_wp2_with (first | ((with_reducible refine gcl (f := 16) rfl ?_); refine goesL_ (some 16) rfl rfl Try.func16 (by kernel_rfl) rfl #[] rfl (by (try simp only [List.map_toArray, List.map_cons, List.map_nil]); first | done | rfl) ?_; (with_reducible refine (bl_awake.calls k  false _ A6.out).mono ?_); rintro e w15 ⟨rfl, hb⟩; refine ⟨_, rfl, ?_⟩; have n0_ := As0.mk (bst (by repeat (first | (with_reducible first | exact HB.out | apply bal | apply pwB_ | apply bd1) | exact HB.out)) hb); clear HB; have HB := n0_; clear n0_; (try clear hb); (try clear hb2); (try clear hk); (try clear hi)))
    go_ret
    exact ⟨by first | rfl | (simp [*] <;> rfl), by repeat (first | (with_reducible first | exact HB.out | apply bal | apply pwB_ | apply bd1) | exact HB.out)⟩
/-- THE ONE PURE STATEMENT of bl_FloatsRounds: yours. -/
def bl_FloatsRounds.Pure : Prop := ∀ (a0 : Int) (a1 : Bool) (a2 : Int) (a3 : Int) (a4 : Bool), (Lit.int .i64 a0).wf = true → (Lit.int .u64 a2).wf = true → (Lit.int .i64 a3).wf = true → ∃ k, bl_FloatsRounds.f k a0 a1 a2 a3 a4 = some true
theorem bl_FloatsRounds.walk (P : bl_FloatsRounds.Pure) (a0 : Int) (a1 : Bool) (a2 : Int) (a3 : Int) (a4 : Bool) (w : World) (w0 : (Lit.int .i64 a0).wf = true) (w2 : (Lit.int .u64 a2).wf = true) (w3 : (Lit.int .i64 a3).wf = true) :
    Calls Try.prog 3 #[.int .i64 a0, .bool a1, .int .u64 a2, .int .i64 a3, .bool a4] w fun e w' => e = .returned (.bool true) ∧ Below w.heap.size w w' := by
  obtain ⟨k, h⟩ := P a0 a1 a2 a3 a4 w0 w2 w3
  refine (bl_FloatsRounds.calls k a0 a1 a2 a3 a4 true w h).mono ?_
  rintro e w' ⟨rfl, hd⟩
  exact ⟨rfl, hd⟩
def bl_FloatsTurns.j0 : Nat → Int → Int → Int → Int → Option (Bool)
  | 0, _, _, _, _ => none
  | k + 1, x0, x1, x2, x3 => (floats_Bin.f k x0 1 x1 x2).bind fun bt308 => ((floats_Bin.f k x0 1 x2 x1).bind fun bt310 => ((floats_Bin.f k x0 3 x1 x2).bind fun bt312 => ((floats_Bin.f k x0 3 x2 x1).bind fun bt314 => ((floats_Un.f k x0 2 x2).bind fun bt316 => ((floats_Un.f k x0 2 bt316.1).bind fun bt318 => ((floats_Bin.f k x0 2 x1 bt316.1).bind fun bt320 => ((floats_Round.f k x0 false (IntKind.u64.wrap (Int.tmod x3 4096)) 0 false).bind fun bt322 => ((floats_Bin.f k x0 3 bt322.1 bt322.1).bind fun bt324 => ((floats_Un.f k x0 3 bt324.1).bind fun bt326 => ((floats_Un.f k x0 5 x1).bind fun bt328 => ((floats_Un.f k x0 4 x1).bind fun bt330 => ((floats_Rel.f k x0 5 bt328.1 x1).bind fun bt332 => ((floats_Rel.f k x0 5 x1 bt330.1).bind fun bt334 => ((floats_Kind.f x0 x1).bind fun t336 => ((floats_Bin.f k x0 7 x2 x2).bind fun bt337 => (if bt308.1 = bt310.1 then (if bt312.1 = bt314.1 then (if bt320.1 = bt308.1 then (if bt318.1 = bt337.1 then (if bt326.1 = bt322.1 then (if (bt332.1 == (!(t336 == 4))) = true then (some (bt334.1 == (!(t336 == 4)))) else (some false)) else (some false)) else (some false)) else (some false)) else (some false)) else (some false)))))))))))))))))
def bl_FloatsTurns.f (k : Nat) (a0 : Int) (a1 : Int) (a2 : Int) (a3 : Int) : Option (Bool) := (bl_awake.f k).bind fun t307 => (if t307 = true then (if a0 = 32 then (bl_FloatsTurns.j0 k a0 a1 a2 a3) else (bl_FloatsTurns.j0 k 64 a1 a2 a3)) else (some false))
theorem bl_FloatsTurns.mono_l : ∀ k, (∀ y0 y1 y2 y3, LeO (bl_FloatsTurns.j0 k y0 y1 y2 y3) (bl_FloatsTurns.j0 (k + 1) y0 y1 y2 y3)) := by
  intro k
  induction k with
  | zero => exact fun _ _ _ _ r h => by simp [bl_FloatsTurns.j0] at h
  | succ k ih =>
    have ih0 := ih
    · intro y0 y1 y2 y3
      unfold bl_FloatsTurns.j0
      repeat' first
      | (with_reducible exact ih0 _ _ _ _)
      | (with_reducible exact bl_awake.mono _)
      | (with_reducible exact floats_Bin.mono _ _ _ _ _)
      | (with_reducible exact floats_Rel.mono _ _ _ _ _)
      | (with_reducible exact floats_Round.mono _ _ _ _ _ _)
      | (with_reducible exact floats_Un.mono _ _ _ _)
      | (with_reducible exact LeO.refl _)
      | (with_reducible exact LeO.none _)
      | (with_reducible refine LeO.ite ?_ ?_)
      | (with_reducible refine LeO.bind ?_ (fun _ => ?_))
      | exact ih0 _ _ _ _
      | exact bl_awake.mono _
      | exact floats_Bin.mono _ _ _ _ _
      | exact floats_Rel.mono _ _ _ _ _
      | exact floats_Round.mono _ _ _ _ _ _
      | exact floats_Un.mono _ _ _ _
      | exact LeO.none _
      | refine LeO.ite ?_ ?_
      | refine LeO.bind ?_ (fun _ => ?_)
theorem bl_FloatsTurns.mono : ∀ a0 a1 a2 a3 k, LeO (bl_FloatsTurns.f k a0 a1 a2 a3) (bl_FloatsTurns.f (k + 1) a0 a1 a2 a3) := by
  intro a0 a1 a2 a3 k
  have ih0 := bl_FloatsTurns.mono_l k
  unfold bl_FloatsTurns.f
  repeat' first
      | (with_reducible exact ih0 _ _ _ _)
      | (with_reducible exact bl_awake.mono _)
      | (with_reducible exact floats_Bin.mono _ _ _ _ _)
      | (with_reducible exact floats_Rel.mono _ _ _ _ _)
      | (with_reducible exact floats_Round.mono _ _ _ _ _ _)
      | (with_reducible exact floats_Un.mono _ _ _ _)
      | (with_reducible exact LeO.refl _)
      | (with_reducible exact LeO.none _)
      | (with_reducible refine LeO.ite ?_ ?_)
      | (with_reducible refine LeO.bind ?_ (fun _ => ?_))
      | exact ih0 _ _ _ _
      | exact bl_awake.mono _
      | exact floats_Bin.mono _ _ _ _ _
      | exact floats_Rel.mono _ _ _ _ _
      | exact floats_Round.mono _ _ _ _ _ _
      | exact floats_Un.mono _ _ _ _
      | exact LeO.none _
      | refine LeO.ite ?_ ?_
      | refine LeO.bind ?_ (fun _ => ?_)
/-- THE ONE PURE STATEMENT of bl_FloatsTurns: yours. -/
def bl_FloatsTurns.Pure : Prop := ∀ (a0 : Int) (a1 : Int) (a2 : Int) (a3 : Int), (Lit.int .i64 a0).wf = true → (Lit.int .u64 a1).wf = true → (Lit.int .u64 a2).wf = true → (Lit.int .u32 a3).wf = true → ∃ k, bl_FloatsTurns.f k a0 a1 a2 a3 = some true
-- NOT PRINTED: function 71 (math_Float32frombits)
-- NOT PRINTED: function 55 (br_F32)
-- NOT PRINTED: function 80 (math_Float64frombits)
-- NOT PRINTED: function 69 (br_F64)
-- NOT PRINTED: function 51 (br_value)
-- NOT PRINTED: function 23 (br_Rel)
-- NOT PRINTED: function 5 (bl_FloatsStand)
def br_Canonical.f (a0 : Int) : Option (Int) := if a0 = 32 then (some 2143289344) else (if a0 = 64 then (some 9221120237041090560) else (some 0))
def br_cut.f (a0 : Int) (a1 : Int) : Option (Int) := if a0 = 32 then (some (Int.tmod a1 4294967296)) else (some a1)
set_option maxHeartbeats 8000000 in
set_option maxRecDepth 100000 in
theorem br_cut.calls (a0 : Int) (a1 : Int) (r : Int) (w : World) (h : br_cut.f a0 a1 = some r) :
    Calls Try.prog 52 #[.int .i64 a0, .int .u64 a1] w fun e w' => e = .returned (.int .u64 r) ∧ Drawn0 w w' := by
  have H : (if a0 = 32 then (some (Int.tmod a1 4294967296)) else (some a1)) = some r := h
  clear h
  by_cases c3 : a0 = 32
  · rw [if_pos c3] at H
    have c3b0 : (a0 == 32) = true := beq_iff_eq.mpr c3
    have c3b1 : (a0 != 32) = false := bne_eq_false_iff_eq.mpr c3
    clear c3
    obtain rfl := Option.some.inj H
    go_enter Try.func52, Try.ntmps52
    go_wp2
    go_ret
    exact ⟨by first | rfl | (simp; done) | (simp [*]; done), by repeat (first | exact Drawn0.refl _ | apply Drawn0.step)⟩
  · rw [if_neg c3] at H
    have c3b0 : (a0 == 32) = false := beq_eq_false_iff_ne.mpr c3
    have c3b1 : (a0 != 32) = true := bne_iff_ne.mpr c3
    obtain rfl := Option.some.inj H
    go_enter Try.func52, Try.ntmps52
    go_wp2
    go_ret
    exact ⟨by first | rfl | (simp; done) | (simp [*]; done), by repeat (first | exact Drawn0.refl _ | apply Drawn0.step)⟩
-- NOT PRINTED: function 70 (math_Float64bits)
-- NOT PRINTED: function 53 (br_B64)
-- NOT PRINTED: function 54 (br_worked)
-- NOT PRINTED: function 72 (math_Float32bits)
-- NOT PRINTED: function 56 (br_B32)
-- NOT PRINTED: function 24 (br_Bin)
-- NOT PRINTED: function 25 (br_Kind)
-- NOT PRINTED: function 6 (bl_FloatsBin)
-- NOT PRINTED: function 7 (bl_FloatsSums)
-- NOT PRINTED: function 8 (bl_FloatsProducts)
-- NOT PRINTED: function 9 (bl_FloatsQuotients)
-- NOT PRINTED: function 10 (bl_FloatsEnds)
end Go.Proofs.Ytjfmomogidgbpaa.PFl
namespace Go.Proofs.Ytjfmomogidgbpaa.Pure
set_option linter.unusedVariables false
set_option linter.unusedSimpArgs false
open Go.RowKit Go.Proofs.Ytjfmomogidgbpaa.PFl Go.Proofs.Ytjfmomogidgbpaa.Fl Go.Proofs.YtjfmomogidgbpaaW.PrintWords
/-- The two formats, as the program has them. -/
def Pq (p q : Int) (f : Ieee.Format) : Prop := (p = 23 ∧ q = 8 ∧ f = Ieee.single) ∨ (p = 52 ∧ q = 11 ∧ f = Ieee.double)
theorem and_mask (A k : Nat) (hA : A < 18446744073709551616) (hk : k ≤ 64) : Go.bits .and .u64 (A : Int) ((2 ^ k : Nat) - 1 : Int) = ((A % 2 ^ k : Nat) : Int) := by
  unfold Go.bits
  have h2 : 2 ^ k ≤ 18446744073709551616 := by
    have : 2 ^ k ≤ 2 ^ 64 := Nat.pow_le_pow_right (by decide) hk
    exact this
  have hp := pw_pos k
  have e : ((2 ^ k : Nat) - 1 : Int) = ((2 ^ k - 1 : Nat) : Int) := by omega
  have hb : IntKind.bits .u64 = 64 := rfl
  simp only [e]
  rw [IntKind.wrap_u64, BitVec.toNat_and, BitVec.ofInt_natCast, BitVec.ofInt_natCast, BitVec.toNat_ofNat, BitVec.toNat_ofNat, hb]
  rw [Nat.mod_eq_of_lt (show A < 2 ^ 64 from hA), Nat.mod_eq_of_lt (show 2 ^ k - 1 < 2 ^ 64 by omega), Nat.and_two_pow_sub_one_eq_mod]
  have := Nat.mod_lt A hp
  omega
theorem and_pow (A k : Nat) : A &&& 2 ^ k = if A / 2 ^ k % 2 = 1 then 2 ^ k else 0 := by
  apply Nat.eq_of_testBit_eq
  intro i
  rw [Nat.testBit_and, Nat.testBit_two_pow]
  by_cases h : A / 2 ^ k % 2 = 1
  · rw [if_pos h, Nat.testBit_two_pow]
    by_cases e : k = i
    · subst e
      rw [Nat.testBit_eq_decide_div_mod_eq, decide_eq_true h]; simp
    · simp [e]
  · rw [if_neg h, Nat.zero_testBit]
    by_cases e : k = i
    · subst e
      rw [Nat.testBit_eq_decide_div_mod_eq, decide_eq_false h]; simp
    · simp [e]
theorem and_bit (A k : Nat) (hA : A < 18446744073709551616) (hk : k ≤ 63) : (Go.bits .and .u64 (A : Int) ((2 ^ k : Nat) : Int) != 0) = (A / 2 ^ k % 2 == 1) := by
  unfold Go.bits
  have h2 : 2 ^ k < 18446744073709551616 := by
    have : 2 ^ k < 2 ^ 64 := Nat.pow_lt_pow_right (by decide) (by omega)
    exact this
  have hb : IntKind.bits .u64 = 64 := rfl
  simp only
  rw [IntKind.wrap_u64, BitVec.toNat_and, BitVec.ofInt_natCast, BitVec.ofInt_natCast, BitVec.toNat_ofNat, BitVec.toNat_ofNat, hb]
  rw [Nat.mod_eq_of_lt (show A < 2 ^ 64 from hA), Nat.mod_eq_of_lt (show 2 ^ k < 2 ^ 64 from h2), and_pow]
  have hp := pw_pos k
  by_cases h : A / 2 ^ k % 2 = 1
  · rw [if_pos h, h, beq_self_eq_true, bne_iff_ne]
    omega
  · rw [if_neg h]
    have : A / 2 ^ k % 2 = 0 := by omega
    rw [this]; rfl
theorem or_top (A k : Nat) (hA : A < 2 ^ k) (hk : k ≤ 63) : Go.bits .or .u64 (A : Int) ((2 ^ k : Nat) : Int) = ((2 ^ k + A : Nat) : Int) := by
  unfold Go.bits
  have h2 : 2 ^ k < 2 ^ 64 := Nat.pow_lt_pow_right (by decide) (by omega)
  have h3 : 2 ^ (k + 1) ≤ 2 ^ 64 := Nat.pow_le_pow_right (by decide) (by omega)
  have h4 : 2 ^ (k + 1) = 2 * 2 ^ k := by rw [Nat.pow_succ, Nat.mul_comm]
  have hb : IntKind.bits .u64 = 64 := rfl
  simp only
  rw [IntKind.wrap_u64, BitVec.toNat_or, BitVec.ofInt_natCast, BitVec.ofInt_natCast, BitVec.toNat_ofNat, BitVec.toNat_ofNat, hb]
  rw [Nat.mod_eq_of_lt (show A < 2 ^ 64 by omega), Nat.mod_eq_of_lt h2]
  have e : A ||| 2 ^ k = 2 ^ k + A := by
    rw [Nat.or_comm]
    have := Nat.two_pow_add_eq_or_of_lt hA 1
    rw [Nat.mul_one] at this
    exact this.symm
  rw [e]
  have : 2 ^ 64 = 18446744073709551616 := by decide
  omega
theorem c_sign {p q f} (h : Pq p q f) : ff_sign.f p q = some (f.signWeight : Int) := by
  rcases h with ⟨rfl, rfl, rfl⟩ | ⟨rfl, rfl, rfl⟩ <;> decide +kernel
theorem c_inf {p q f} (h : Pq p q f) : ff_infinity.f p q = some (f.infRung : Int) := by
  rcases h with ⟨rfl, rfl, rfl⟩ | ⟨rfl, rfl, rfl⟩ <;> decide +kernel
theorem c_least {p q f} (h : Pq p q f) : ff_least.f p q = some f.leastPlace := by
  rcases h with ⟨rfl, rfl, rfl⟩ | ⟨rfl, rfl, rfl⟩ <;> decide +kernel
theorem c_none {p q f} (h : Pq p q f) : ff_none.f p q = some false := by
  rcases h with ⟨rfl, rfl, rfl⟩ | ⟨rfl, rfl, rfl⟩ <;> decide +kernel
/-- The sign's place. -/
theorem sgn_pow {p q f} (h : Pq p q f) : ∃ k : Nat, k ≤ 63 ∧ 31 ≤ k ∧ f.signWeight = 2 ^ k := by
  rcases h with ⟨rfl, rfl, rfl⟩ | ⟨rfl, rfl, rfl⟩
  · exact ⟨31, by decide, by decide, rfl⟩
  · exact ⟨63, by decide, by decide, rfl⟩
theorem bin_ok {p q f} (h : Pq p q f) : f.binade ≤ f.infRung := by
  rcases h with ⟨rfl, rfl, rfl⟩ | ⟨rfl, rfl, rfl⟩
  · exact bin_single
  · exact bin_double
theorem c_size {p q f} (h : Pq p q f) (A : Nat) (hA : A < 18446744073709551616) : ff_size.f p q A = some (rungOf f A : Int) := by
  obtain ⟨k, hk, hk2, e⟩ := sgn_pow h
  unfold ff_size.f
  rw [c_sign h]
  simp only [Option.bind_some]
  have h2 : 2 ^ k ≤ 2 ^ 63 := Nat.pow_le_pow_right (by decide) hk
  have hp := pw_pos k
  rw [e, IntKind.wrap_u64, show (((2 ^ k : Nat) : Int) - 1) % 18446744073709551616 = ((2 ^ k : Nat) : Int) - 1 from by omega, and_mask A k hA (by omega)]
  unfold rungOf
  rw [e]
theorem c_neg {p q f} (h : Pq p q f) (A : Nat) (hA : A < 18446744073709551616) : ff_neg.f p q A = some (negOf f A) := by
  obtain ⟨k, hk, hk2, e⟩ := sgn_pow h
  unfold ff_neg.f
  rw [c_sign h]
  simp only [Option.bind_some]
  rw [e, and_bit A k hA hk]
  unfold negOf
  rw [e]
theorem c_signed {p q f} (h : Pq p q f) (neg : Bool) (r : Nat) (hr : r < f.signWeight) : ff_signed.f p q neg r = some (f.word neg r : Int) := by
  obtain ⟨k, hk, hk2, e⟩ := sgn_pow h
  unfold ff_signed.f Ieee.Format.word
  cases neg
  · rfl
  · rw [if_pos rfl, if_pos rfl, c_sign h]
    simp only [Option.bind_some]
    rw [e] at hr ⊢
    rw [or_top r k hr hk]
end Go.Proofs.Ytjfmomogidgbpaa.Pure
namespace Go.Proofs.Ytjfmomogidgbpaa.Pure
set_option linter.unusedVariables false
set_option linter.unusedSimpArgs false
open Go.RowKit Go.Proofs.Ytjfmomogidgbpaa.PFl Go.Proofs.Ytjfmomogidgbpaa.Fl Go.Proofs.YtjfmomogidgbpaaW.PrintWords
theorem bitLen_log2 : ∀ (n x : Nat), x < 2 ^ n → n ≤ 64 → x ≠ 0 → Lib.bitLen x = x.log2 + 1
  | 0, x, h, _, h0 => by simp at h; omega
  | n + 1, x, h, hn, h0 => by
    have hx : x < 2 ^ 64 := Nat.lt_of_lt_of_le h (Nat.pow_le_pow_right (by decide) hn)
    rw [Lib.bitLen_half x h0 hx]
    by_cases c : x / 2 = 0
    · have : x = 1 := by omega
      subst this
      decide
    · rw [bitLen_log2 n (x / 2) (by rw [Nat.pow_succ] at h; omega) (by omega) c]
      have := log2_cut x 1 (by rw [Nat.pow_one]; exact c)
      rw [Nat.pow_one] at this
      omega
theorem c_len (M : Nat) (hM : M < 18446744073709551616) (h0 : M ≠ 0) : bits_Len64.f (M : Int) = some ((M.log2 + 1 : Nat) : Int) := by
  unfold bits_Len64.f
  rw [if_pos (by omega), show ((M : Int)).toNat = M from by omega, bitLen_log2 64 M hM (by decide) h0]
/-- A number that is too great is infinity. -/
theorem nearest_big (f : Ieee.Format) (neg : Bool) (N : Nat) (p : Int) (h0 : N ≠ 0) (hp : f.leastPlace + 2 ^ f.exponentBits + f.fractionBits ≤ p) : f.nearest neg N p = f.word neg f.infRung := by
  rw [nearest_eq f neg N p h0]
  have hl : f.leastPlace + 2 ^ f.exponentBits ≤ lastOf f N p := by unfold lastOf; omega
  have h1 : 2 ^ f.exponentBits ≤ (lastOf f N p - f.leastPlace).toNat := by
    have : ((2 ^ f.exponentBits : Nat) : Int) = (2 : Int) ^ f.exponentBits := by rw [Int.natCast_pow]; rfl
    omega
  have h2 : f.infRung ≤ (lastOf f N p - f.leastPlace).toNat * f.binade := by
    unfold Ieee.Format.infRung
    exact Nat.mul_le_mul_right _ (by omega)
  rw [Nat.min_eq_right (by omega)]
/-- A number that is too small is nought. -/
theorem nearest_small (f : Ieee.Format) (neg : Bool) (N : Nat) (p : Int) (hp : p + N.log2 + 2 ≤ f.leastPlace) (hw : 0 ≤ f.infRung) : f.nearest neg N p = f.word neg 0 := by
  by_cases h0 : N = 0
  · subst h0; exact nearest_zero ..
  · have hl : lastOf f N p = f.leastPlace := by unfold lastOf; omega
    rw [nearest_eq f neg N p h0, hl]
    have h1 : N < 2 ^ (N.log2 + 1) := Nat.lt_log2_self
    have : rneP N (p - f.leastPlace) = 0 := by
      unfold rneP
      rw [show (p - f.leastPlace).toNat = 0 from by omega, Nat.pow_zero, Nat.mul_one]
      apply rne_small
      have : 2 ^ (N.log2 + 2) ≤ 2 ^ (-(p - f.leastPlace)).toNat := Nat.pow_le_pow_right (by decide) (by omega)
      have : 2 ^ (N.log2 + 2) = 2 * 2 ^ (N.log2 + 1) := by rw [Nat.pow_succ 2 (N.log2 + 1), Nat.mul_comm]
      omega
    rw [this, Int.sub_self]
    simp
theorem shl_nat (x d : Nat) (h : x * 2 ^ d < 18446744073709551616) (hd : d ≤ 64) : shl .u64 (x : Int) (d : Int) = ((x * 2 ^ d : Nat) : Int) := by
  unfold shl
  rw [IntKind.wrap_u64, show min (d : Int).toNat IntKind.u64.bits = d from by rw [Int.toNat_natCast]; exact Nat.min_eq_left hd]
  have : (x : Int) * 2 ^ d = ((x * 2 ^ d : Nat) : Int) := by rw [Int.natCast_mul, Int.natCast_pow]; rfl
  rw [this]
  omega
theorem shr_nat (x d : Nat) (hd : d ≤ 64) : shr .u64 (x : Int) (d : Int) = ((x / 2 ^ d : Nat) : Int) := by
  unfold shr
  rw [show min (d : Int).toNat IntKind.u64.bits = d from by rw [Int.toNat_natCast]; exact Nat.min_eq_left hd]
  rw [Int.natCast_ediv, Int.natCast_pow]; rfl
/-- The widths, as numbers. -/
theorem c_w {p q f} (h : Pq p q f) : p = (f.fractionBits : Int) ∧ q = (f.exponentBits : Int) ∧ f.fractionBits ≤ 52 ∧ 23 ≤ f.fractionBits ∧ f.exponentBits ≤ 11 ∧ 8 ≤ f.exponentBits ∧ -1074 ≤ f.leastPlace ∧ f.leastPlace ≤ -149 ∧
    f.signWeight ≤ 9223372036854775808 ∧ f.binade ≤ 4503599627370496 ∧ f.signWeight = 2 ^ f.exponentBits * f.binade ∧ f.infRung < f.signWeight := by
  rcases h with ⟨rfl, rfl, rfl⟩ | ⟨rfl, rfl, rfl⟩
  · refine ⟨rfl, rfl, by decide, by decide, by decide, by decide, by rw [s_least]; decide, by rw [s_least]; decide, by rw [s_sgn]; decide, by rw [s_bin]; decide, by decide +kernel, by decide +kernel⟩
  · refine ⟨rfl, rfl, by decide, by decide, by decide, by decide, by rw [d_least]; decide, by rw [d_least]; decide, by rw [d_sgn]; decide, by rw [d_bin]; decide, by decide +kernel, by decide +kernel⟩
/-- The end of a rounding: the exponent's field and the kept digits, no more than infinity. -/
theorem c_j0 {p q f} (h : Pq p q f) (neg : Bool) (K : Nat) (L e : Int) (he : -5000 ≤ e ∧ e ≤ 5000) (hL : f.leastPlace ≤ L) (hL2 : L ≤ 5100) (hK : K ≤ 2 * f.binade) (hK2 : f.leastPlace < L → f.binade ≤ K) (k : Nat) :
    ff_round.j0 (k + 2) neg K e (L - e) p q = some ((f.word neg (min ((L - f.leastPlace).toNat * f.binade + K) f.infRung) : Nat) : Int) := by
  obtain ⟨w1, w2, w3, w4, w5, w6, w7, w8, w9, w10, w11, w12⟩ := c_w h
  have hmin : min ((L - f.leastPlace).toNat * f.binade + K) f.infRung < f.signWeight := Nat.lt_of_le_of_lt (Nat.min_le_right _ _) w12
  have hs : shl .u64 1 (IntKind.u64.wrap p) = (f.binade : Int) := by
    rw [IntKind.wrap_u64, w1, show (f.fractionBits : Int) % 18446744073709551616 = f.fractionBits from by omega]
    have := shl_nat 1 f.fractionBits (by rw [Nat.one_mul]; exact Nat.lt_of_le_of_lt w10 (by decide)) (by omega)
    rw [Nat.one_mul] at this
    exact this
  have hq : shl .i64 1 (IntKind.u64.wrap q) = ((2 ^ f.exponentBits : Nat) : Int) := by
    rcases h with ⟨rfl, rfl, rfl⟩ | ⟨rfl, rfl, rfl⟩ <;> decide +kernel
  have j1 : ∀ l : Nat, l ≤ 20000 → (l * f.binade + K = (L - f.leastPlace).toNat * f.binade + K) →
      ff_round.j1 (k + 1) neg K (l : Int) p q = some ((f.word neg (min ((L - f.leastPlace).toNat * f.binade + K) f.infRung) : Nat) : Int) := by
    intro l hl hlb
    simp only [ff_round.j1]
    rw [if_pos (by rw [IntKind.wrap_u64]; omega), hq, ← hlb]
    have hexp : f.infRung < 2 ^ f.exponentBits * f.binade := by rw [← w11]; exact w12
    by_cases c : (l : Int) ≥ ((2 ^ f.exponentBits : Nat) : Int)
    · rw [if_pos c, c_inf h]
      simp only [Option.bind_some]
      have h1 : 2 ^ f.exponentBits * f.binade ≤ l * f.binade := Nat.mul_le_mul_right _ (by omega)
      rw [c_signed h neg f.infRung w12, Nat.min_eq_right (by omega)]
      rfl
    · rw [if_neg c, if_pos (by rw [IntKind.wrap_u64]; omega), c_inf h]
      simp only [Option.bind_some]
      have h1 : (l + 1) * f.binade ≤ 2 ^ f.exponentBits * f.binade := Nat.mul_le_mul_right _ (by omega)
      rw [Nat.add_mul, Nat.one_mul, ← w11] at h1
      have e1 : shl .u64 (IntKind.u64.wrap (l : Int)) (IntKind.u64.wrap p) = ((l * f.binade : Nat) : Int) := by
        rw [IntKind.wrap_u64, IntKind.wrap_u64, w1, show (l : Int) % 18446744073709551616 = (l : Int) from by omega, show (f.fractionBits : Int) % 18446744073709551616 = f.fractionBits from by omega]
        exact shl_nat l f.fractionBits (by show l * f.binade < _; omega) (by omega)
      rw [e1, IntKind.wrap_u64]
      have e2 : mn ((((l * f.binade : Nat) : Int) + (K : Int)) % 18446744073709551616) (f.infRung : Int) = ((min (l * f.binade + K) f.infRung : Nat) : Int) := by
        rw [show (((l * f.binade : Nat) : Int) + (K : Int)) % 18446744073709551616 = ((l * f.binade + K : Nat) : Int) from by omega]
        unfold mn
        split <;> omega
      rw [e2, c_signed h neg _ (by rw [hlb]; exact hmin)]
      rfl
  simp only [ff_round.j0]
  rw [if_pos (by rw [IntKind.wrap_u64]; omega), hs]
  by_cases c : (K : Int) ≥ (f.binade : Int)
  · rw [if_pos c, c_least h]
    simp only [Option.bind_some]
    rw [show wrap64 (wrap64 (e + (L - e)) - f.leastPlace) = (((L - f.leastPlace).toNat : Nat) : Int) from by unfold wrap64; omega]
    exact j1 _ (by omega) rfl
  · rw [if_neg c]
    have hLe : L = f.leastPlace := by
      apply Classical.byContradiction; intro x
      have := hK2 (by omega); omega
    exact j1 0 (by omega) (by rw [hLe, Int.sub_self]; rfl)
/-- What is kept of a number, as the code reckons it. -/
theorem kept_up (M D : Nat) (b : Bool) (h1 : 1 ≤ D) (h2 : D ≤ 64) (hM : M < 18446744073709551616) :
    shl .u64 (M : Int) ((64 - D : Nat) : Int) = ((M % 2 ^ D * 2 ^ (64 - D) : Nat) : Int) ∧ shr .u64 ((M : Int) / 2) ((D - 1 : Nat) : Int) = ((M / 2 ^ D : Nat) : Int) ∧
    rne (2 * M + b.toNat) (D + 1) = M / 2 ^ D + (if 2 ^ D < 2 * (M % 2 ^ D) ∨ (2 ^ D = 2 * (M % 2 ^ D) ∧ (b = true ∨ M / 2 ^ D % 2 = 1)) then 1 else 0) := by
  have hp := pw_pos D
  refine ⟨?_, ?_, ?_⟩
  · unfold shl
    rw [IntKind.wrap_u64, Int.toNat_natCast, show min (64 - D) IntKind.u64.bits = 64 - D from Nat.min_eq_left (by show 64 - D ≤ 64; omega)]
    have e : (M : Int) * 2 ^ (64 - D) = ((M * 2 ^ (64 - D) : Nat) : Int) := by rw [Int.natCast_mul, Int.natCast_pow]; rfl
    rw [e]
    have e2 : (18446744073709551616 : Nat) = 2 ^ D * 2 ^ (64 - D) := by rw [← Nat.pow_add, show D + (64 - D) = 64 from by omega]
    have : (M * 2 ^ (64 - D)) % 18446744073709551616 = M % 2 ^ D * 2 ^ (64 - D) := by rw [e2, Nat.mul_mod_mul_right]
    omega
  · unfold shr
    rw [Int.toNat_natCast, show min (D - 1) IntKind.u64.bits = D - 1 from Nat.min_eq_left (by show D - 1 ≤ 64; omega)]
    have : M / 2 / 2 ^ (D - 1) = M / 2 ^ D := by rw [Nat.div_div_eq_div_mul, ← Nat.pow_succ', show (D - 1).succ = D from by omega]
    rw [← this, Int.natCast_ediv, Int.natCast_ediv, Int.natCast_pow]; rfl
  · unfold rne
    have hd := Nat.div_add_mod M (2 ^ D)
    have hm := Nat.mod_lt M hp
    have hb : b.toNat ≤ 1 := by cases b <;> decide
    have hp2 : 2 ^ (D + 1) = 2 * 2 ^ D := by rw [Nat.pow_succ, Nat.mul_comm]
    have e : 2 * M + b.toNat = 2 ^ (D + 1) * (M / 2 ^ D) + (2 * (M % 2 ^ D) + b.toNat) := by
      rw [hp2, Nat.mul_assoc]; omega
    rw [e, Nat.mul_add_div (pw_pos _), Nat.mul_add_mod, Nat.div_eq_of_lt (show 2 * (M % 2 ^ D) + b.toNat < 2 ^ (D + 1) by omega), Nat.mod_eq_of_lt (show 2 * (M % 2 ^ D) + b.toNat < 2 ^ (D + 1) by omega), Nat.add_zero, hp2]
    have hev : ∃ c, 2 ^ D = 2 * c := ⟨2 ^ (D - 1), by rw [← Nat.pow_succ', show (D - 1).succ = D from by omega]⟩
    obtain ⟨c, hc⟩ := hev
    congr 1
    clear e hp2 hd
    generalize M % 2 ^ D = r at *
    generalize M / 2 ^ D = m at *
    rw [hc]
    rw [hc] at hm
    clear hp
    cases b
    · simp only [Bool.toNat, cond_false, Nat.add_zero, Bool.false_eq_true, false_or]
      by_cases x : 2 * c < 2 * r ∨ (2 * c = 2 * r ∧ m % 2 = 1)
      · rw [if_pos x, if_pos (by omega)]
      · rw [if_neg x, if_neg (by omega)]
    · simp only [Bool.toNat, cond_true, true_or, and_true]
      by_cases x : 2 * c < 2 * r ∨ 2 * c = 2 * r
      · rw [if_pos (by omega), if_pos (by omega)]
      · rw [if_neg (by omega), if_neg (by omega)]
theorem odd_bit (m : Nat) (hm : m < 18446744073709551616) : (Go.bits .and .u64 (m : Int) 1 = 1) = (m % 2 = 1) := by
  have := and_mask m 1 hm (by decide)
  rw [show ((2 ^ 1 : Nat) - 1 : Int) = 1 from by decide] at this
  rw [this, Nat.pow_one]
  apply propext
  omega
/-- The rounding itself, of a power that is not out of reach. -/
theorem c_round_in {p q f} (h : Pq p q f) (neg : Bool) (M : Nat) (hM : M < 18446744073709551616) (h0 : M ≠ 0) (e : Int) (he : -5000 ≤ e ∧ e ≤ 5000) (more : Bool) (hm : more = true → 288230376151711744 ≤ M) (a3 : Int) (ha : mn (mx a3 (-5000)) 5000 = e) (k : Nat) :
    ff_round.f (k + 2) p q neg M a3 more = some ((f.nearest neg (2 * M + more.toNat) (e - 1) : Nat) : Int) := by
  obtain ⟨w1, w2, w3, w4, w5, w6, w7, w8, w9, w10, w11, w12⟩ := c_w h
  have hb : more.toNat ≤ 1 := by cases more <;> decide
  have hlog : M.log2 ≤ 63 := by have := (Nat.log2_lt (n := M) (k := 64) h0).2 hM; omega
  have hlogN : (2 * M + more.toNat).log2 = M.log2 + 1 := by
    have h1 := Nat.log2_self_le h0
    have h2 : M < 2 ^ (M.log2 + 1) := Nat.lt_log2_self
    refine (Nat.log2_eq_iff (by omega)).2 ⟨?_, ?_⟩
    · rw [Nat.pow_succ]; omega
    · rw [Nat.pow_succ 2 (M.log2 + 1)]; omega
  have hlast : lastOf f (2 * M + more.toNat) (e - 1) = lastOf f M e := by unfold lastOf; rw [hlogN]; omega
  have hNe := nearest_eq f neg (2 * M + more.toNat) (e - 1) (by omega)
  have kb := kept_bounds f (2 * M + more.toNat) (e - 1) (by omega)
  rw [hlast] at hNe kb
  have hLge : f.leastPlace ≤ lastOf f M e := by unfold lastOf; omega
  have hLle : lastOf f M e ≤ 5100 := by unfold lastOf; omega
  have hLge2 : -5100 ≤ lastOf f M e - e ∧ lastOf f M e - e ≤ 5100 := by unfold lastOf; omega
  rw [hNe]
  have fin : ∀ K : Nat, K = rneP (2 * M + more.toNat) (e - 1 - lastOf f M e) → ff_round.j0 (k + 2) neg (K : Int) e (lastOf f M e - e) p q =
      some ((f.word neg (min ((lastOf f M e - f.leastPlace).toNat * f.binade + rneP (2 * M + more.toNat) (e - 1 - lastOf f M e)) f.infRung) : Nat) : Int) := by
    intro K hK
    rw [← hK] at kb ⊢
    exact c_j0 h neg K (lastOf f M e) e he hLge hLle kb.1 kb.2 k
  have hD : wrap64 (mx (wrap64 (wrap64 (wrap64 ((((M.log2 + 1 : Nat) : Int)) + e) - 1) - p)) f.leastPlace - e) = lastOf f M e - e := by
    unfold wrap64 mx lastOf
    rw [w1]
    split <;> omega
  unfold ff_round.f
  rw [if_neg (by omega), c_len M hM h0, c_least h, ha]
  simp only [Option.bind_some]
  rw [hD]
  obtain ⟨L, hL⟩ : ∃ L, L = lastOf f M e := ⟨_, rfl⟩
  rw [← hL] at fin hLge2 ⊢
  have hk1 : ¬ L - e ≤ 0 → 1 ≤ (L - e).toNat := by omega
  by_cases c1 : L - e ≤ 0
  · rw [if_pos c1, if_pos (by rw [IntKind.wrap_u64]; omega)]
    -- nothing is dropped: a little more there would have dropped digits
    have hmf : more = false := by
      cases hmo : more
      · rfl
      · have := hm hmo
        have : 58 ≤ M.log2 := (Nat.le_log2 h0).2 (by show 2 ^ 58 ≤ M; omega)
        exfalso
        unfold lastOf at hL
        omega
    subst hmf
    obtain ⟨d, hd⟩ : ∃ d : Nat, L - e = -(d : Int) := ⟨(-(L - e)).toNat, by omega⟩
    have hkept : rneP (2 * M + false.toNat) (e - 1 - L) = M * 2 ^ d := by
      have s := rneP_scale M 1 (e - 1 - L)
      rw [Nat.pow_one, Nat.mul_comm] at s
      show rneP (2 * M) _ = _
      rw [s]
      unfold rneP
      rw [show (e - 1 - L + ((1 : Nat) : Int)).toNat = d from by omega, show (-(e - 1 - L + ((1 : Nat) : Int))).toNat = 0 from by omega, rne_zero]
    have hdl : d ≤ 64 := by
      unfold lastOf at hL
      omega
    have hlt : M * 2 ^ d < 18446744073709551616 := by
      have := kb.1
      rw [← hL, hkept] at this
      omega
    have e1 : shl .u64 (M : Int) (IntKind.u64.wrap (wrap64 (-(L - e)))) = ((M * 2 ^ d : Nat) : Int) := by
      rw [show IntKind.u64.wrap (wrap64 (-(L - e))) = (d : Int) from by rw [IntKind.wrap_u64]; unfold wrap64; omega]
      exact shl_nat M d hlt hdl
    rw [e1]
    exact fin _ hkept.symm
  · rw [if_neg c1]
    obtain ⟨D, hD⟩ : ∃ D : Nat, L - e = (D : Int) := ⟨(L - e).toNat, by omega⟩
    have hkept : rneP (2 * M + more.toNat) (e - 1 - L) = rne (2 * M + more.toNat) (D + 1) := by
      unfold rneP
      rw [show (e - 1 - L).toNat = 0 from by omega, show (-(e - 1 - L)).toNat = D + 1 from by omega, Nat.pow_zero, Nat.mul_one]
    by_cases c2 : L - e > 64
    · rw [if_pos c2]
      have hz : rneP (2 * M + more.toNat) (e - 1 - L) = 0 := by
        rw [hkept]
        apply rne_small
        have : 2 ^ 66 ≤ 2 ^ (D + 1) := Nat.pow_le_pow_right (by decide) (by omega)
        omega
      exact fin 0 hz.symm
    · rw [if_neg c2, if_pos (by rw [IntKind.wrap_u64]; omega), if_pos (by rw [IntKind.wrap_u64]; omega)]
      have hD1 : 1 ≤ D := by omega
      have hD2 : D ≤ 64 := by omega
      obtain ⟨u1, u2, u3⟩ := kept_up M D more hD1 hD2 hM
      rw [show IntKind.u64.wrap (wrap64 (64 - (L - e))) = ((64 - D : Nat) : Int) from by rw [IntKind.wrap_u64]; unfold wrap64; omega,
        show IntKind.u64.wrap (wrap64 (L - e - 1)) = ((D - 1 : Nat) : Int) from by rw [IntKind.wrap_u64]; unfold wrap64; omega]
      rw [u1, u2]
      have e2 : (18446744073709551616 : Nat) = 2 ^ D * 2 ^ (64 - D) := by rw [← Nat.pow_add, show D + (64 - D) = 64 from by omega]
      have hp2 := pw_pos (64 - D)
      have gt : ((M % 2 ^ D * 2 ^ (64 - D) : Nat) : Int) > 9223372036854775808 ↔ 2 ^ D < 2 * (M % 2 ^ D) := by
        constructor
        · intro x
          have : 2 ^ D * 2 ^ (64 - D) < 2 * (M % 2 ^ D) * 2 ^ (64 - D) := by rw [← e2, Nat.mul_assoc]; omega
          exact Nat.lt_of_mul_lt_mul_right this
        · intro x
          have : 2 ^ D * 2 ^ (64 - D) < 2 * (M % 2 ^ D) * 2 ^ (64 - D) := Nat.mul_lt_mul_of_pos_right x hp2
          rw [← e2, Nat.mul_assoc] at this
          omega
      have eq : ((M % 2 ^ D * 2 ^ (64 - D) : Nat) : Int) = 9223372036854775808 ↔ 2 ^ D = 2 * (M % 2 ^ D) := by
        constructor
        · intro x
          have : 2 ^ D * 2 ^ (64 - D) = 2 * (M % 2 ^ D) * 2 ^ (64 - D) := by rw [← e2, Nat.mul_assoc]; omega
          exact Nat.eq_of_mul_eq_mul_right hp2 this
        · intro x
          have : 2 ^ D * 2 ^ (64 - D) = 2 * (M % 2 ^ D) * 2 ^ (64 - D) := congrArg (fun z => z * 2 ^ (64 - D)) x
          rw [← e2, Nat.mul_assoc] at this
          omega
      have hmle : M / 2 ^ D < 18446744073709551616 := Nat.lt_of_le_of_lt (Nat.div_le_self _ _) hM
      have hmle2 : M / 2 ^ D ≤ 9223372036854775808 := by
        have : M / 2 ^ D ≤ M / 2 ^ 1 := Nat.div_le_div_left (Nat.pow_le_pow_right (by decide) hD1) (by decide)
        omega
      have ew : IntKind.u64.wrap (((M / 2 ^ D : Nat) : Int) + 1) = ((M / 2 ^ D + 1 : Nat) : Int) := by
        generalize M / 2 ^ D = m at hmle2
        rw [IntKind.wrap_u64]; omega
      rw [ew]
      have ob : Go.bits .and .u64 ((M / 2 ^ D : Nat) : Int) 1 = 1 ↔ M / 2 ^ D % 2 = 1 := iff_of_eq (odd_bit _ hmle)
      by_cases g1 : 2 ^ D < 2 * (M % 2 ^ D)
      · rw [if_pos (gt.2 g1)]
        exact fin _ (by rw [hkept, u3, if_pos (.inl g1)])
      · rw [if_neg (fun x => g1 (gt.1 x))]
        by_cases g2 : 2 ^ D = 2 * (M % 2 ^ D)
        · rw [if_pos (eq.2 g2)]
          cases hmo : more
          · rw [hmo] at fin hkept u3
            rw [if_neg (by decide)]
            by_cases g3 : M / 2 ^ D % 2 = 1
            · rw [if_pos (ob.2 g3)]
              exact fin _ (by rw [hkept, u3, if_pos (.inr ⟨g2, .inr g3⟩)])
            · rw [if_neg (fun x => g3 (ob.1 x))]
              exact fin _ (by rw [hkept, u3, if_neg (by rintro (x | ⟨_, x | x⟩) <;> first | (exact g1 x) | (cases x; done) | (exact g3 x)), Nat.add_zero])
          · rw [hmo] at fin hkept u3
            rw [if_pos rfl]
            exact fin _ (by rw [hkept, u3, if_pos (.inr ⟨g2, .inl rfl⟩)])
        · rw [if_neg (fun x => g2 (eq.1 x))]
          exact fin _ (by rw [hkept, u3, if_neg (by rintro (x | ⟨x, _⟩) <;> first | (exact g1 x) | (exact g2 x)), Nat.add_zero])
/-- The rounding: the float nearest to the number, whatever the power. -/
theorem c_round {p q f} (h : Pq p q f) (neg : Bool) (M : Nat) (hM : M < 18446744073709551616) (e : Int) (more : Bool) (hm : more = true → 288230376151711744 ≤ M) (k : Nat) :
    ff_round.f (k + 2) p q neg M e more = some ((f.nearest neg (2 * M + more.toNat) (e - 1) : Nat) : Int) := by
  obtain ⟨w1, w2, w3, w4, w5, w6, w7, w8, w9, w10, w11, w12⟩ := c_w h
  by_cases h0 : M = 0
  · subst h0
    have : more = false := by
      cases hmo : more
      · rfl
      · have := hm hmo; omega
    subst this
    unfold ff_round.f
    rw [if_pos (by rfl)]
    have := c_signed h neg 0 (by omega)
    rw [show ((0 : Nat) : Int) = 0 from rfl] at this
    rw [this]
    simp only [Option.bind_some]
    rw [show 2 * 0 + false.toNat = 0 from rfl, nearest_zero]
  · have hb : more.toNat ≤ 1 := by cases more <;> decide
    have hlogN : (2 * M + more.toNat).log2 ≤ 64 := by
      have := (Nat.log2_lt (n := 2 * M + more.toNat) (k := 65) (by omega)).2 (by show _ < 2 ^ 65; omega); omega
    by_cases c1 : e > 5000
    · rw [c_round_in h neg M hM h0 5000 (by decide) more hm e (by unfold mn mx; (repeat' split) <;> omega) k]
      have h2 : f.leastPlace + 2 ^ f.exponentBits + f.fractionBits ≤ 4999 := by
        have : (2 : Int) ^ f.exponentBits ≤ 2048 := by
          have : ((2 ^ f.exponentBits : Nat) : Int) = (2 : Int) ^ f.exponentBits := by rw [Int.natCast_pow]; rfl
          have : 2 ^ f.exponentBits ≤ 2 ^ 11 := Nat.pow_le_pow_right (by decide) w5
          omega
        omega
      rw [nearest_big f neg _ (5000 - 1) (by omega) (by omega), nearest_big f neg _ (e - 1) (by omega) (by omega)]
    · by_cases c2 : e < -5000
      · rw [c_round_in h neg M hM h0 (-5000) (by decide) more hm e (by unfold mn mx; (repeat' split) <;> omega) k]
        rw [nearest_small f neg _ (-5000 - 1) (by omega) (Nat.zero_le _), nearest_small f neg _ (e - 1) (by omega) (Nat.zero_le _)]
      · exact c_round_in h neg M hM h0 e (by omega) more hm e (by unfold mn mx; (repeat' split) <;> omega) k
/-- The same, of any more rounds than two. -/
theorem c_round' {p q f} (h : Pq p q f) (neg : Bool) (M : Nat) (hM : M < 18446744073709551616) (e : Int) (more : Bool) (hm : more = true → 288230376151711744 ≤ M) (k : Nat) (hk : 2 ≤ k) :
    ff_round.f k p q neg M e more = some ((f.nearest neg (2 * M + more.toNat) (e - 1) : Nat) : Int) := by
  obtain ⟨k, rfl⟩ : ∃ m, k = m + 2 := ⟨k - 2, by omega⟩
  exact c_round h neg M hM e more hm k
end Go.Proofs.Ytjfmomogidgbpaa.Pure
namespace Go.Proofs.Ytjfmomogidgbpaa.Pure
set_option linter.unusedVariables false
set_option linter.unusedSimpArgs false
open Go.RowKit Go.Proofs.Ytjfmomogidgbpaa.PFl Go.Proofs.Ytjfmomogidgbpaa.Fl Go.Proofs.YtjfmomogidgbpaaW.PrintWords
theorem word_of (f : Ieee.Format) (A : Nat) (h : A < 2 * f.signWeight) : f.word (negOf f A) (rungOf f A) = A := by
  have hs : 0 < f.signWeight := pw_pos _
  unfold Ieee.Format.word negOf rungOf
  have hd := Nat.div_add_mod A f.signWeight
  have hm := Nat.mod_lt A hs
  by_cases c : A < f.signWeight
  · rw [Nat.div_eq_of_lt c, Nat.mod_eq_of_lt c]; rfl
  · have h1 : A / f.signWeight = 1 := (Nat.div_eq_iff hs).2 ⟨by omega, by omega⟩
    rw [h1] at hd ⊢
    rw [if_pos (by rfl)]
    omega
theorem c_parts {p q f} (h : Pq p q f) (A : Nat) (hA : A < 18446744073709551616) :
    ff_parts.f p q A = some ((magOf f (rungOf f A) : Int), f.leastPlace + (plOf f (rungOf f A) : Int)) := by
  obtain ⟨w1, w2, w3, w4, w5, w6, w7, w8, w9, w10, w11, w12⟩ := c_w h
  have hr : rungOf f A < f.signWeight := Nat.mod_lt _ (pw_pos _)
  have hb : 0 < f.binade := pw_pos _
  generalize hR : rungOf f A = r at *
  have e1 : IntKind.u64.wrap p = (f.fractionBits : Int) := by rw [IntKind.wrap_u64, w1]; omega
  have e2 : shr .u64 (r : Int) (f.fractionBits : Int) = ((r / f.binade : Nat) : Int) := shr_nat r f.fractionBits (by omega)
  have e3 : shl .u64 1 (f.fractionBits : Int) = (f.binade : Int) := by
    have := shl_nat 1 f.fractionBits (by rw [Nat.one_mul]; exact Nat.lt_of_le_of_lt w10 (by decide)) (by omega)
    rw [Nat.one_mul] at this
    exact this
  have e4 : Go.bits .and .u64 (r : Int) (IntKind.u64.wrap ((f.binade : Int) - 1)) = ((r % f.binade : Nat) : Int) := by
    rw [IntKind.wrap_u64, show ((f.binade : Int) - 1) % 18446744073709551616 = (f.binade : Int) - 1 from by omega]
    exact and_mask r f.fractionBits (by omega) (by omega)
  have hx : r / f.binade ≤ r := Nat.div_le_self _ _
  have hx2 : r / f.binade < 4096 := by
    refine (Nat.div_lt_iff_lt_mul hb).2 ?_
    rw [w11] at hr
    have : 2 ^ f.exponentBits ≤ 2 ^ 11 := Nat.pow_le_pow_right (by decide) w5
    have := Nat.mul_le_mul_right f.binade this
    omega
  have hm : r % f.binade < f.binade := Nat.mod_lt _ hb
  unfold ff_parts.f
  rw [c_size h A hA, hR]
  simp only [Option.bind_some]
  rw [if_pos (by rw [IntKind.wrap_u64]; omega), e1, e2, e3, e4, c_least h]
  simp only [Option.bind_some]
  rw [show wrap64 ((r / f.binade : Nat) : Int) = ((r / f.binade : Nat) : Int) from by
    generalize r / f.binade = z at *
    unfold wrap64; omega]
  have zl : r < f.binade ↔ r / f.binade = 0 := by
    constructor
    · exact Nat.div_eq_of_lt
    · intro e
      have := Nat.div_add_mod r f.binade
      rw [e] at this; omega
  by_cases c : r < f.binade
  · have z := zl.1 c
    rw [if_pos (by rw [z]; rfl)]
    unfold magOf plOf
    rw [if_pos c, z, Nat.mod_eq_of_lt c]
    refine congrArg some (Prod.ext rfl ?_)
    show f.leastPlace = f.leastPlace + ((0 - 1 : Nat) : Int)
    omega
  · have z := mt zl.2 c
    rw [if_neg (by omega)]
    unfold magOf plOf
    rw [if_neg c]
    have e5 : Go.bits .or .u64 ((r % f.binade : Nat) : Int) (f.binade : Int) = ((f.binade + r % f.binade : Nat) : Int) := or_top (r % f.binade) f.fractionBits hm (by omega)
    rw [e5]
    refine congrArg some (Prod.ext rfl ?_)
    show wrap64 (wrap64 (f.leastPlace + ((r / f.binade : Nat) : Int)) - 1) = _
    generalize r / f.binade = y at *
    unfold wrap64
    omega
/-- A result, or the NaN that is answered. -/
def resP (p : Int) : Option Nat → Int
  | some r => r
  | none => if p = 23 then canon 32 else canon 64
theorem nearest_word (f : Ieee.Format) (A : Nat) (h : A < 2 * f.signWeight) (hw : f.binade ≤ f.infRung) (hi : rungOf f A < f.infRung) :
    f.nearest (negOf f A) (magOf f (rungOf f A)) (f.leastPlace + (plOf f (rungOf f A) : Nat)) = A := by
  rw [nearest_read f _ _ hw hi]; exact word_of f A h
end Go.Proofs.Ytjfmomogidgbpaa.Pure
namespace Go.Proofs.Ytjfmomogidgbpaa.Pure
set_option linter.unusedVariables false
set_option linter.unusedSimpArgs false
open Go.RowKit Go.Proofs.Ytjfmomogidgbpaa.PFl Go.Proofs.Ytjfmomogidgbpaa.Fl Go.Proofs.YtjfmomogidgbpaaW.PrintWords
/-- One half of a long division: the digit that is tried is brought down to the quotient's. -/
structure Kn (y H : Nat) (q r : Nat) : Prop where
  top : 9223372036854775808 ≤ y
  lt : y < 18446744073709551616
  le : H < y
  sum : q * (y / 4294967296) + r = H
  big : q ≤ 4294967297
theorem Kn.start {y H : Nat} (h1 : 9223372036854775808 ≤ y) (h2 : y < 18446744073709551616) (h3 : H < y) : Kn y H (H / (y / 4294967296)) (H - H / (y / 4294967296) * (y / 4294967296)) ∧
    H * 4294967296 / y ≤ H / (y / 4294967296) ∧ H - H / (y / 4294967296) * (y / 4294967296) < 4294967296 := by
  have hn : 2147483648 ≤ y / 4294967296 := by omega
  have hn2 : y / 4294967296 < 4294967296 := by omega
  have hd := Nat.div_add_mod H (y / 4294967296)
  have hm := Nat.mod_lt H (show 0 < y / 4294967296 by omega)
  have hle : H / (y / 4294967296) * (y / 4294967296) ≤ H := Nat.div_mul_le_self _ _
  refine ⟨⟨h1, h2, h3, by omega, ?_⟩, ?_, ?_⟩
  · have : H / (y / 4294967296) < 4294967298 := (Nat.div_lt_iff_lt_mul (by omega)).2 (by omega)
    omega
  · have hk : H * 4294967296 / y ≤ H * 4294967296 / (y / 4294967296 * 4294967296) := Nat.div_le_div_left (Nat.div_mul_le_self _ _) (by omega)
    rw [Nat.mul_div_mul_right _ _ (by decide)] at hk
    exact hk
  · rw [Nat.mul_comm] at hd; omega
end Go.Proofs.Ytjfmomogidgbpaa.Pure
namespace Go.Proofs.Ytjfmomogidgbpaa.Pure
set_option linter.unusedVariables false
set_option linter.unusedSimpArgs false
open Go.RowKit Go.Proofs.Ytjfmomogidgbpaa.PFl Go.Proofs.Ytjfmomogidgbpaa.Fl Go.Proofs.YtjfmomogidgbpaaW.PrintWords
/-- A size that is right, its format, and what is told of both. -/
structure Sz (n p q : Int) (f : Ieee.Format) : Prop where
  ok : n = 32 ∨ n = 64
  pq : Pq p q f
  of : floats_of.f n = some (p, q)
  fm : fmtOf n = f
  sg : sgnI n = (f.signWeight : Int)
  res : ∀ o, resP p o = resOf n o
  cut : ∀ a : Nat, a < 18446744073709551616 → a % (2 * f.signWeight) = wOf n (a : Int)
theorem sz (n : Int) (h : n = 32 ∨ n = 64) : ∃ p q f, Sz n p q f := by
  rcases h with rfl | rfl
  · refine ⟨23, 8, Ieee.single, .inl rfl, .inl ⟨rfl, rfl, rfl⟩, rfl, rfl, by decide +kernel, ?_, ?_⟩
    · intro o; cases o <;> rfl
    · intro a ha
      rw [s_sgn]
      show a % 4294967296 = ((a : Int) % 4294967296).toNat
      omega
  · refine ⟨52, 11, Ieee.double, .inr rfl, .inr ⟨rfl, rfl, rfl⟩, rfl, rfl, by decide +kernel, ?_, ?_⟩
    · intro o; cases o <;> rfl
    · intro a ha
      rw [d_sgn]
      show a % 18446744073709551616 = (a : Int).toNat
      omega
theorem Sz.lt {n p q f} (h : Sz n p q f) (a : Nat) (ha : a < 18446744073709551616) : wOf n (a : Int) < 2 * f.signWeight := by
  rw [← h.cut a ha]
  exact Nat.mod_lt _ (by have : 0 < f.signWeight := pw_pos _
                         omega)
theorem of_wrong (n : Int) (h : n ≠ 32) (h' : n ≠ 64) : floats_of.f n = some (0, 0) := by
  unfold floats_of.f; rw [if_neg h, if_neg h']
theorem none_wrong : ff_none.f 0 0 = some true := by decide +kernel
theorem Sz.none {n p q f} (h : Sz n p q f) : ff_none.f p q = some false := c_none h.pq
theorem Sz.neg_le {n p q f} (h : Sz n p q f) (A : Nat) (hA : A < 2 * f.signWeight) : negOf f A = true ↔ sgnI n ≤ (A : Int) := by
  rw [h.sg]
  have hs : 0 < f.signWeight := pw_pos _
  unfold negOf
  rw [beq_iff_eq]
  by_cases c : A < f.signWeight
  · rw [Nat.div_eq_of_lt c]; omega
  · have h1 : A / f.signWeight = 1 := (Nat.div_eq_iff hs).2 ⟨by omega, by omega⟩
    rw [h1]; omega
end Go.Proofs.Ytjfmomogidgbpaa.Pure
namespace Go.Proofs.Ytjfmomogidgbpaa.Pure
set_option linter.unusedVariables false
set_option linter.unusedSimpArgs false
open Go.RowKit Go.Proofs.Ytjfmomogidgbpaa.PFl Go.Proofs.Ytjfmomogidgbpaa.Fl Go.Proofs.YtjfmomogidgbpaaW.PrintWords
/-- What was taken off: 0: none; 1: below the half; 2: the half; 3: above. -/
def code (b : Bool) (m i : Nat) : Nat := if m % 2 ^ i = 0 ∧ b = false then 0 else if 2 * (m % 2 ^ i) < 2 ^ i then 1 else if 2 * (m % 2 ^ i) = 2 ^ i ∧ b = false then 2 else 3
theorem code_step (b : Bool) (m i : Nat) : (m / 2 ^ i % 2 = 1 → code b m i = 0 → code b m (i + 1) = 2) ∧ (m / 2 ^ i % 2 = 1 → code b m i ≠ 0 → code b m (i + 1) = 3) ∧
    (m / 2 ^ i % 2 = 0 → 1 < code b m i → code b m (i + 1) = 1) ∧ (m / 2 ^ i % 2 = 0 → ¬ 1 < code b m i → code b m (i + 1) = code b m i) := by
  have h1 : m % 2 ^ (i + 1) = m % 2 ^ i + 2 ^ i * (m / 2 ^ i % 2) := Nat.mod_pow_succ
  have h2 : 2 ^ (i + 1) = 2 * 2 ^ i := by rw [Nat.pow_succ, Nat.mul_comm]
  have h3 : m % 2 ^ i < 2 ^ i := Nat.mod_lt _ (pw_pos _)
  unfold code
  rw [h1, h2]
  generalize m % 2 ^ i = x at *
  generalize m / 2 ^ i % 2 = l at *
  generalize 2 ^ i = P at *
  refine ⟨?_, ?_, ?_, ?_⟩
  · rintro rfl; cases b <;> (repeat' split) <;> simp at * <;> omega
  · rintro rfl; cases b <;> (repeat' split) <;> simp at * <;> omega
  · rintro rfl; cases b <;> (repeat' split) <;> simp at * <;> omega
  · rintro rfl; cases b <;> (repeat' split) <;> simp at * <;> omega
theorem kept_any (M D : Nat) (b : Bool) (h1 : 1 ≤ D) :
    rne (2 * M + b.toNat) (D + 1) = M / 2 ^ D + (if code b M D = 3 ∨ (code b M D = 2 ∧ M / 2 ^ D % 2 = 1) then 1 else 0) := by
  have hb : b.toNat ≤ 1 := by cases b <;> decide
  have hp := pw_pos D
  have e1 : 2 ^ (D + 1) = 2 * 2 ^ D := by rw [Nat.pow_succ, Nat.mul_comm]
  have q : (2 * M + b.toNat) / 2 ^ (D + 1) = M / 2 ^ D := by
    rw [e1, ← Nat.div_div_eq_div_mul, show (2 * M + b.toNat) / 2 = M from by omega]
  have r : (2 * M + b.toNat) % 2 ^ (D + 1) = 2 * (M % 2 ^ D) + b.toNat := by
    rw [e1, Nat.mod_mul, show (2 * M + b.toNat) / 2 = M from by omega]; omega
  have ev : 2 ^ D = 2 * 2 ^ (D - 1) := by rw [← Nat.pow_succ', show (D - 1).succ = D from by omega]
  have hx : M % 2 ^ D < 2 ^ D := Nat.mod_lt _ hp
  unfold rne code
  rw [q, r, e1]
  generalize M % 2 ^ D = x at *
  generalize M / 2 ^ D = w at *
  generalize 2 ^ (D - 1) = Q at *
  generalize 2 ^ D = P at *
  congr 1
  cases b <;> simp only [Bool.toNat_false, Bool.toNat_true] <;> (repeat' split) <;> simp at * <;> omega
theorem near_half (m : Nat) (hm : m < 18446744073709551616) : IntKind.u64.wrap (Int.tdiv (m : Int) 2) = ((m / 2 : Nat) : Int) := by
  rw [show Int.tdiv (m : Int) 2 = ((m / 2 : Nat) : Int) from rfl, IntKind.wrap_u64]; omega
theorem near_low (m : Nat) : wrap64 (Int.tmod (m : Int) 2) = ((m % 2 : Nat) : Int) := by
  rw [show Int.tmod (m : Int) 2 = ((m % 2 : Nat) : Int) from rfl]; unfold wrap64; omega
theorem near_shl {p q f} (h : Pq p q f) (c : Nat) (hc : c ≤ 2) : shl .u64 (c : Int) (IntKind.u64.wrap p) = ((c * f.binade : Nat) : Int) ∧ 0 ≤ IntKind.u64.wrap p := by
  obtain ⟨w1, w2, w3, w4, w5, w6, w7, w8, w9, w10, w11, w12⟩ := c_w h
  constructor
  · rw [IntKind.wrap_u64, w1, show (f.fractionBits : Int) % 18446744073709551616 = f.fractionBits from by omega]
    refine shl_nat c f.fractionBits ?_ (by omega)
    show c * f.binade < _
    have : c * f.binade ≤ 2 * f.binade := Nat.mul_le_mul_right _ hc
    omega
  · rw [IntKind.wrap_u64]; omega
/-- One round of the way down. -/
theorem near_round {p q f} (h : Pq p q f) (b : Bool) (m : Nat) (hm : m < 18446744073709551616) (e : Int) (he : -5000 ≤ e ∧ e ≤ 5000) (i : Nat) (hi : i ≤ 5000) (c : 2 * f.binade ≤ m / 2 ^ i ∨ e + i < f.leastPlace) (k : Nat) :
    br_near.l0 (k + 3) ((m / 2 ^ i : Nat) : Int) (e + (i : Int)) p f.leastPlace f.infRung (code b m i) =
      if m / 2 ^ (i + 1) = 0 ∧ e + ((i + 1 : Nat) : Int) < f.leastPlace - 1 then some 0
      else br_near.l0 k ((m / 2 ^ (i + 1) : Nat) : Int) (e + ((i + 1 : Nat) : Int)) p f.leastPlace f.infRung (code b m (i + 1)) := by
  obtain ⟨w1, w2, w3, w4, w5, w6, w7, w8, w9, w10, w11, w12⟩ := c_w h
  obtain ⟨s2, s0⟩ := near_shl h 2 (by decide)
  have hM : m / 2 ^ i < 18446744073709551616 := Nat.lt_of_le_of_lt (Nat.div_le_self _ _) hm
  have hH : m / 2 ^ (i + 1) = m / 2 ^ i / 2 := by rw [Nat.pow_succ, Nat.div_div_eq_div_mul]
  have go : br_near.l0 (k + 3) ((m / 2 ^ i : Nat) : Int) (e + (i : Int)) p f.leastPlace f.infRung (code b m i) = br_near.j2 (k + 2) ((m / 2 ^ i : Nat) : Int) (e + (i : Int)) p f.leastPlace f.infRung (code b m i) true := by
    simp only [br_near.l0]
    rw [if_pos s0]
    rw [show ((2 : Nat) : Int) = 2 from rfl] at s2
    rw [s2]
    by_cases c1 : 2 * f.binade ≤ m / 2 ^ i
    · rw [if_pos (by omega)]
    · rw [if_neg (by omega), decide_eq_true (by omega)]
  rw [go]
  simp only [br_near.j2]
  rw [if_pos True.intro, near_low, near_half _ hM, show wrap64 (e + (i : Int) + 1) = e + ((i + 1 : Nat) : Int) from by unfold wrap64; omega, ← hH]
  have fin : ∀ C : Nat, code b m (i + 1) = C → (if ((m / 2 ^ (i + 1) : Nat) : Int) = 0 then (if e + ((i + 1 : Nat) : Int) < (wrap64 (f.leastPlace - 1)) then (some 0) else (br_near.l0 k ((m / 2 ^ (i + 1) : Nat) : Int) (e + ((i + 1 : Nat) : Int)) p f.leastPlace f.infRung (C : Int)))
      else (br_near.l0 k ((m / 2 ^ (i + 1) : Nat) : Int) (e + ((i + 1 : Nat) : Int)) p f.leastPlace f.infRung (C : Int))) =
      if m / 2 ^ (i + 1) = 0 ∧ e + ((i + 1 : Nat) : Int) < f.leastPlace - 1 then some 0
      else br_near.l0 k ((m / 2 ^ (i + 1) : Nat) : Int) (e + ((i + 1 : Nat) : Int)) p f.leastPlace f.infRung (code b m (i + 1)) := by
    intro C hC
    rw [hC, show wrap64 (f.leastPlace - 1) = f.leastPlace - 1 from by unfold wrap64; omega]
    by_cases z : m / 2 ^ (i + 1) = 0
    · rw [if_pos (by omega)]
      by_cases y : e + ((i + 1 : Nat) : Int) < f.leastPlace - 1
      · rw [if_pos y, if_pos ⟨z, y⟩]
      · rw [if_neg y, if_neg (fun x => y x.2)]
    · rw [if_neg (by omega), if_neg (fun x => z x.1)]
  obtain ⟨t1, t2, t3, t4⟩ := code_step b m i
  by_cases lo : m / 2 ^ i % 2 = 1
  · rw [if_pos (by omega)]
    simp only [br_near.j3]
    by_cases z : code b m i = 0
    · rw [if_pos (by rw [z]; rfl)]
      exact fin 2 (t1 lo z)
    · rw [if_neg (by rw [beq_iff_eq]; omega), if_pos (by omega)]
      exact fin 3 (t2 lo z)
  · rw [if_neg (by omega)]
    simp only [br_near.j3]
    rw [if_neg Bool.false_ne_true, if_neg (by omega)]
    by_cases y : 1 < code b m i
    · rw [if_pos (by omega)]
      exact fin 1 (t3 (by omega) y)
    · rw [if_neg (by omega)]
      exact fin _ (t4 (by omega) y)
theorem near_down {p q f} (h : Pq p q f) (b : Bool) (m : Nat) (hm : m < 18446744073709551616) (e : Int) (he : -5000 ≤ e ∧ e ≤ 5000) (D : Nat) (hD : D ≤ 5000)
    (c : ∀ i, i < D → 2 * f.binade ≤ m / 2 ^ i ∨ e + i < f.leastPlace) (c2 : m / 2 ^ D < 2 * f.binade) (c3 : f.leastPlace ≤ e + D) (ne : ∀ i, i < D → m / 2 ^ (i + 1) = 0 → f.leastPlace - 1 ≤ e + ((i + 1 : Nat) : Int)) (k : Nat) :
    ∀ d i, i + d = D → br_near.l0 (3 * d + k + 1) ((m / 2 ^ i : Nat) : Int) (e + (i : Int)) p f.leastPlace f.infRung (code b m i) =
      br_near.j2 k ((m / 2 ^ D : Nat) : Int) (e + (D : Int)) p f.leastPlace f.infRung (code b m D) false := by
  obtain ⟨s2, s0⟩ := near_shl h 2 (by decide)
  rw [show ((2 : Nat) : Int) = 2 from rfl] at s2
  intro d
  induction d with
  | zero =>
    intro i hi
    obtain rfl : i = D := by omega
    rw [show 3 * 0 + k + 1 = k + 1 from by omega]
    simp only [br_near.l0]
    rw [if_pos s0, s2, if_neg (by omega), decide_eq_false (by omega)]
  | succ d ih =>
    intro i hi
    rw [show 3 * (d + 1) + k + 1 = (3 * d + k + 1) + 3 from by omega, near_round h b m hm e he i (by omega) (c i (by omega)), if_neg (fun x => by have := ne i (by omega) x.1; omega)]
    exact ih (i + 1) (by omega)
theorem near_early {p q f} (h : Pq p q f) (b : Bool) (m : Nat) (hm : m < 18446744073709551616) (e : Int) (he : -5000 ≤ e ∧ e ≤ 5000) (D : Nat) (hD : D ≤ 5000)
    (z : m / 2 ^ D = 0) (c : e + D < f.leastPlace - 1) (k : Nat) :
    ∀ d i, i + d + 1 = D → br_near.l0 (3 * d + k + 3) ((m / 2 ^ i : Nat) : Int) (e + (i : Int)) p f.leastPlace f.infRung (code b m i) = some 0 := by
  intro d
  induction d with
  | zero =>
    intro i hi
    rw [show 3 * 0 + k + 3 = k + 3 from by omega, near_round h b m hm e he i (by omega) (.inr (by omega)), if_pos]
    obtain rfl : D = i + 1 := by omega
    exact ⟨z, c⟩
  | succ d ih =>
    intro i hi
    rw [show 3 * (d + 1) + k + 3 = (3 * d + k + 3) + 3 from by omega, near_round h b m hm e he i (by omega) (.inr (by omega))]
    split
    · rfl
    · exact ih (i + 1) (by omega)
theorem near_up {p q f} (h : Pq p q f) (m : Nat) (e : Int) (he : -5000 ≤ e ∧ e ≤ 5000) (J : Nat) (c : ∀ j, j < J → m * 2 ^ j < f.binade ∧ f.leastPlace < e - (j : Int)) (c2 : f.binade ≤ m * 2 ^ J ∨ e - (J : Int) ≤ f.leastPlace) (k : Nat) :
    ∀ d j, j + d = J → br_near.l1 (d + k + 1) ((m * 2 ^ j : Nat) : Int) (e - (j : Int)) p f.leastPlace f.infRung = br_near.j7 k ((m * 2 ^ J : Nat) : Int) (e - (J : Int)) p f.leastPlace f.infRung := by
  obtain ⟨w1, w2, w3, w4, w5, w6, w7, w8, w9, w10, w11, w12⟩ := c_w h
  obtain ⟨s1, s0⟩ := near_shl h 1 (by decide)
  rw [show ((1 : Nat) : Int) = 1 from rfl, Nat.one_mul] at s1
  intro d
  induction d with
  | zero =>
    intro j hj
    obtain rfl : j = J := by omega
    rw [show 0 + k + 1 = k + 1 from by omega]
    simp only [br_near.l1]
    rw [if_pos s0, s1]
    by_cases x : m * 2 ^ j < f.binade
    · rw [if_pos (by omega), if_neg (by omega)]
    · rw [if_neg (by omega)]
  | succ d ih =>
    intro j hj
    obtain ⟨x, y⟩ := c j (by omega)
    have ih' := ih (j + 1) (by omega)
    rw [show d + 1 + k + 1 = (d + k + 1) + 1 from by omega]
    generalize d + k + 1 = n at *
    simp only [br_near.l1]
    rw [if_pos s0, s1, if_pos (by omega), if_pos (by omega), show wrap64 (e - (j : Int) - 1) = e - ((j + 1 : Nat) : Int) from by unfold wrap64; omega,
      show IntKind.u64.wrap (((m * 2 ^ j : Nat) : Int) * 2) = ((m * 2 ^ (j + 1) : Nat) : Int) from by rw [Nat.pow_succ, ← Nat.mul_assoc, IntKind.wrap_u64]; omega]
    exact ih'
theorem near_end {p q f} (h : Pq p q f) (K : Nat) (L : Int) (hL : f.leastPlace ≤ L) (hL2 : L ≤ 5100) (hK : K ≤ 2 * f.binade) (hK2 : f.leastPlace < L → f.binade ≤ K) (k : Nat) :
    br_near.j7 (k + 2) K L p f.leastPlace f.infRung = some ((min ((L - f.leastPlace).toNat * f.binade + K) f.infRung : Nat) : Int) := by
  obtain ⟨w1, w2, w3, w4, w5, w6, w7, w8, w9, w10, w11, w12⟩ := c_w h
  obtain ⟨s1, s0⟩ := near_shl h 1 (by decide)
  obtain ⟨s2, _⟩ := near_shl h 2 (by decide)
  have hb := bin_ok h
  have hB : 0 < f.binade := pw_pos _
  rw [show ((1 : Nat) : Int) = 1 from rfl, Nat.one_mul] at s1
  rw [show ((2 : Nat) : Int) = 2 from rfl] at s2
  have j8 : ∀ (K L' : Nat), K < 2 * f.binade → f.binade ≤ K ∨ L' = 0 → L' ≤ 20000 →
      br_near.j8 (k + 1) K (f.leastPlace + (L' : Int)) p f.leastPlace f.infRung = some ((min (L' * f.binade + K) f.infRung : Nat) : Int) := by
    intro K L' hK hL hl
    simp only [br_near.j8]
    rw [if_pos s0, s1, show wrap64 (f.leastPlace + (L' : Int) - f.leastPlace) = (L' : Int) from by unfold wrap64; omega]
    by_cases c : K < f.binade
    · obtain rfl : L' = 0 := by omega
      rw [if_pos (by omega), Nat.zero_mul, Nat.zero_add, Nat.min_eq_left (by omega)]
    · rw [if_neg (by omega)]
      have e11 : 2 ^ f.exponentBits ≤ 2 ^ 11 := Nat.pow_le_pow_right (by decide) w5
      have e11' : 2 ^ f.exponentBits * f.binade ≤ 2 ^ 11 * f.binade := Nat.mul_le_mul_right _ e11
      have e11'' : (2 : Nat) ^ 11 = 2048 := by decide
      rw [e11''] at e11'
      by_cases g : L' > 3000
      · rw [if_pos (by omega)]
        have : 3000 * f.binade ≤ L' * f.binade := Nat.mul_le_mul_right _ (by omega)
        rw [Nat.min_eq_right (by omega)]
      · rw [if_neg (by omega)]
        have h1 : L' * f.binade ≤ 3000 * f.binade := Nat.mul_le_mul_right _ (by omega)
        have e1 : shl .u64 (IntKind.u64.wrap (L' : Int)) (IntKind.u64.wrap p) = ((L' * f.binade : Nat) : Int) := by
          rw [IntKind.wrap_u64, IntKind.wrap_u64, w1, show (L' : Int) % 18446744073709551616 = (L' : Int) from by omega, show (f.fractionBits : Int) % 18446744073709551616 = f.fractionBits from by omega]
          exact shl_nat L' f.fractionBits (by show L' * f.binade < _; omega) (by omega)
        rw [e1, show IntKind.u64.wrap (((L' * f.binade : Nat) : Int) + (K : Int)) = ((L' * f.binade + K : Nat) : Int) from by rw [IntKind.wrap_u64]; omega]
        by_cases t : L' * f.binade + K > f.infRung
        · rw [if_pos (by omega), Nat.min_eq_right (by omega)]
        · rw [if_neg (by omega), Nat.min_eq_left (by omega)]
  simp only [br_near.j7]
  rw [if_pos s0, s2]
  by_cases c : 2 * f.binade ≤ K
  · obtain rfl : K = 2 * f.binade := by omega
    rw [if_pos (by omega), near_half _ (by omega), show 2 * f.binade / 2 = f.binade from by omega,
      show wrap64 (L + 1) = f.leastPlace + (((L - f.leastPlace).toNat + 1 : Nat) : Int) from by unfold wrap64; omega, j8 f.binade _ (by omega) (.inl (Nat.le_refl _)) (by omega)]
    rw [Nat.add_mul, Nat.one_mul, Nat.add_assoc, show f.binade + f.binade = 2 * f.binade from by omega]
  · rw [if_neg (by omega)]
    have := j8 K (L - f.leastPlace).toNat (by omega) (by
      by_cases x : f.leastPlace < L
      · exact .inl (hK2 x)
      · exact .inr (by omega)) (by omega)
    rw [show f.leastPlace + ((L - f.leastPlace).toNat : Int) = L from by omega] at this
    exact this
end Go.Proofs.Ytjfmomogidgbpaa.Pure
namespace Go.Proofs.Ytjfmomogidgbpaa.Pure
set_option linter.unusedVariables false
set_option linter.unusedSimpArgs false
open Go.RowKit Go.Proofs.Ytjfmomogidgbpaa.PFl Go.Proofs.Ytjfmomogidgbpaa.Fl Go.Proofs.YtjfmomogidgbpaaW.PrintWords
theorem near_ok {p q f} (h : Pq p q f) (m : Nat) (hm0 : m ≠ 0) (hm : m < 18446744073709551616) (e : Int) (b : Bool) (hb : b = true → 288230376151711744 ≤ m) (k : Nat) (hk : 40000 ≤ k) :
    ∃ r : Nat, r ≤ f.infRung ∧ br_near.f k m e b p f.leastPlace f.infRung = some (r : Int) ∧ ∀ neg, f.nearest neg (2 * m + b.toNat) (e - 1) = f.word neg r := by
  obtain ⟨w1, w2, w3, w4, w5, w6, w7, w8, w9, w10, w11, w12⟩ := c_w h
  have hbi := bin_ok h
  have hb1 : b.toNat ≤ 1 := by cases b <;> decide
  have hlog : (2 * m + b.toNat).log2 = m.log2 + 1 := by
    have := log2_cut (2 * m + b.toNat) 1 (by omega)
    rw [this, show (2 * m + b.toNat) / 2 ^ 1 = m from by omega]
  have lo := Nat.log2_self_le (n := m) hm0
  have hi := Nat.lt_log2_self (n := m)
  have hl63 : m.log2 ≤ 63 := by have := (Nat.log2_lt (n := m) (k := 64) hm0).2 hm; omega
  have hN0 : 2 * m + b.toNat ≠ 0 := by omega
  have e11 : 2 ^ f.exponentBits ≤ 2 ^ 11 := Nat.pow_le_pow_right (by decide) w5
  have e11'' : (2 : Nat) ^ 11 = 2048 := by decide
  unfold br_near.f
  by_cases g1 : e > 3000
  · rw [if_pos g1]
    refine ⟨f.infRung, Nat.le_refl _, rfl, fun neg => nearest_big f neg _ _ hN0 ?_⟩
    have : ((2 ^ f.exponentBits : Nat) : Int) = (2 : Int) ^ f.exponentBits := by rw [Int.natCast_pow]; rfl
    omega
  · rw [if_neg g1]
    by_cases g2 : e < -3000
    · rw [if_pos g2]
      exact ⟨0, Nat.zero_le _, rfl, fun neg => nearest_small f neg _ _ (by omega) (Nat.zero_le _)⟩
    · rw [if_neg g2]
      have c0 : (code b m 0 : Int) = (if b = true then 1 else 0 : Int) := by
        unfold code
        rw [Nat.pow_zero, Nat.mod_one]
        cases b <;> rfl
      obtain ⟨k, rfl⟩ : ∃ j, k = j + 1 := ⟨k - 1, by omega⟩
      have start : (if b = true then br_near.j0 (k + 1) m e p f.leastPlace f.infRung 1 else br_near.j0 (k + 1) m e p f.leastPlace f.infRung 0) =
          br_near.l0 k ((m / 2 ^ 0 : Nat) : Int) (e + ((0 : Nat) : Int)) p f.leastPlace f.infRung (code b m 0) := by
        rw [c0, Nat.pow_zero, Nat.div_one, show e + ((0 : Nat) : Int) = e from by omega]
        cases b
        · rw [if_neg Bool.false_ne_true, if_neg Bool.false_ne_true]; simp only [br_near.j0]
        · rw [if_pos rfl, if_pos rfl]; simp only [br_near.j0]
      rw [start]
      by_cases ea : e + ((m.log2 + 1 : Nat) : Int) < f.leastPlace - 1
      · obtain ⟨k', rfl⟩ : ∃ j, k = 3 * m.log2 + j + 3 := ⟨k - 3 * m.log2 - 3, by omega⟩
        rw [near_early h b m hm e (by omega) (m.log2 + 1) (by omega) (Nat.div_eq_of_lt hi) ea k' m.log2 0 (by omega)]
        exact ⟨0, Nat.zero_le _, rfl, fun neg => nearest_small f neg _ _ (by omega) (Nat.zero_le _)⟩
      · obtain ⟨kb1, kb2⟩ := kept_bounds f (2 * m + b.toNat) (e - 1) hN0
        have hLd : lastOf f (2 * m + b.toNat) (e - 1) = max (e + m.log2 - f.fractionBits) f.leastPlace := by
          unfold lastOf; rw [hlog]; congr 1; omega
        refine ⟨min ((lastOf f (2 * m + b.toNat) (e - 1) - f.leastPlace).toNat * f.binade + rneP (2 * m + b.toNat) (e - 1 - lastOf f (2 * m + b.toNat) (e - 1))) f.infRung, Nat.min_le_right _ _, ?_, fun neg => nearest_eq f neg _ _ hN0⟩
        generalize lastOf f (2 * m + b.toNat) (e - 1) = L at *
        generalize hR : rneP (2 * m + b.toNat) (e - 1 - L) = R at *
        obtain ⟨D, hD⟩ : ∃ D : Nat, (D : Int) = max (L - e) 0 := ⟨(L - e).toNat, by omega⟩
        have hfr : 2 ^ (f.fractionBits + 1) = 2 * f.binade := by rw [Nat.pow_succ, Nat.mul_comm]; rfl
        -- the way down
        have d1 : ∀ i, i < D → 2 * f.binade ≤ m / 2 ^ i ∨ e + i < f.leastPlace := by
          intro i hi'
          by_cases x : e + (i : Int) < f.leastPlace
          · exact .inr x
          · left
            rw [← hfr, Nat.le_div_iff_mul_le (pw_pos _), ← Nat.pow_add]
            exact Nat.le_trans (Nat.pow_le_pow_right (by decide) (by omega)) lo
        have d2 : m / 2 ^ D < 2 * f.binade := by
          rw [← hfr, Nat.div_lt_iff_lt_mul (pw_pos _), ← Nat.pow_add]
          exact Nat.lt_of_lt_of_le hi (Nat.pow_le_pow_right (by decide) (by omega))
        have d4 : ∀ i, i < D → m / 2 ^ (i + 1) = 0 → f.leastPlace - 1 ≤ e + ((i + 1 : Nat) : Int) := by
          intro i hi' z
          have : ¬ i + 1 ≤ m.log2 := by
            intro x
            have h1 : 2 ^ (i + 1) ≤ m := Nat.le_trans (Nat.pow_le_pow_right (by decide) x) lo
            have := (Nat.div_eq_zero_iff_lt (pw_pos _)).1 z
            omega
          omega
        obtain ⟨k', rfl⟩ : ∃ j, k = 3 * D + (j + 1) + 1 := ⟨k - 3 * D - 2, by omega⟩
        rw [near_down h b m hm e (by omega) D (by omega) d1 d2 (by omega) d4 (k' + 1) D 0 (by omega)]
        have hmD : m / 2 ^ D < 18446744073709551616 := Nat.lt_of_le_of_lt (Nat.div_le_self _ _) hm
        -- one more, or not
        have up : ∀ U : Nat, U = (if code b m D = 3 ∨ (code b m D = 2 ∧ m / 2 ^ D % 2 = 1) then 1 else 0) → ∀ kk, kk = k' →
            br_near.j2 (kk + 1) ((m / 2 ^ D : Nat) : Int) (e + (D : Int)) p f.leastPlace f.infRung (code b m D) false = br_near.l1 (kk - 2) ((m / 2 ^ D + U : Nat) : Int) (e + (D : Int)) p f.leastPlace f.infRung := by
          intro U hU kk hkk
          obtain ⟨k2, rfl⟩ : ∃ j, kk = j + 2 := ⟨kk - 2, by omega⟩
          have j4 : ∀ t : Bool, t.toNat = U → br_near.j4 (k2 + 2) ((m / 2 ^ D : Nat) : Int) (e + (D : Int)) p f.leastPlace f.infRung t = br_near.l1 k2 ((m / 2 ^ D + U : Nat) : Int) (e + (D : Int)) p f.leastPlace f.infRung := by
            intro t ht
            simp only [br_near.j4]
            subst ht
            cases t
            · rw [if_neg Bool.false_ne_true]; simp only [br_near.j5]; rfl
            · rw [if_pos rfl, show IntKind.u64.wrap (((m / 2 ^ D : Nat) : Int) + 1) = ((m / 2 ^ D + 1 : Nat) : Int) from by rw [IntKind.wrap_u64]; generalize m / 2 ^ D = x at *; omega]; simp only [br_near.j5]; rfl
          simp only [br_near.j2]
          rw [if_neg Bool.false_ne_true, show k2 + 2 - 2 = k2 from by omega]
          by_cases c3 : code b m D = 3
          · rw [if_pos (by omega)]
            exact j4 true (by rw [hU, if_pos (.inl c3)]; rfl)
          · rw [if_neg (by omega)]
            by_cases c2 : code b m D = 2
            · rw [if_pos (by omega)]
              refine j4 _ ?_
              rw [show Int.tmod ((m / 2 ^ D : Nat) : Int) 2 = ((m / 2 ^ D % 2 : Nat) : Int) from rfl, hU]
              generalize m / 2 ^ D = x at *
              by_cases o : x % 2 = 1
              · rw [if_pos (.inr ⟨c2, o⟩), o]; rfl
              · rw [if_neg (by omega), show x % 2 = 0 from by omega]; rfl
            · rw [if_neg (by omega)]
              exact j4 false (by rw [hU, if_neg (by omega)]; rfl)
        rw [up _ rfl k' rfl]
        generalize hU : (if code b m D = 3 ∨ (code b m D = 2 ∧ m / 2 ^ D % 2 = 1) then 1 else 0) = U
        -- the way up
        obtain ⟨J, hJ⟩ : ∃ J : Nat, (J : Int) = e + D - L := ⟨(e + D - L).toNat, by omega⟩
        have hKR : (m / 2 ^ D + U) * 2 ^ J = R := by
          rw [← hR]
          by_cases z : D = 0
          · subst z
            have hbf : b = false := by
              cases hbb : b
              · rfl
              · have := hb hbb
                rw [Nat.pow_zero, Nat.div_one] at d2
                omega
            subst hbf
            have hU0 : U = 0 := by
              rw [← hU]; unfold code; rw [Nat.pow_zero, Nat.mod_one]; rfl
            rw [hU0, Nat.pow_zero, Nat.div_one, Nat.add_zero, show 2 * m + false.toNat = m * 2 ^ 1 from by show 2 * m = _; omega, rneP_scale]
            unfold rneP
            rw [show (-(e - 1 - L + ((1 : Nat) : Int))).toNat = 0 from by omega, rne_zero, show (e - 1 - L + ((1 : Nat) : Int)).toNat = J from by omega]
          · have hJ0 : J = 0 := by omega
            subst hJ0
            unfold rneP
            rw [show (e - 1 - L).toNat = 0 from by omega, show (-(e - 1 - L)).toNat = D + 1 from by omega, Nat.pow_zero, Nat.mul_one, Nat.mul_one, kept_any m D b (by omega), hU]
        have u1 : ∀ j, j < J → (m / 2 ^ D + U) * 2 ^ j < f.binade ∧ f.leastPlace < e + (D : Int) - (j : Int) := by
          intro j hj
          have hD0 : D = 0 := by omega
          refine ⟨?_, by omega⟩
          have hbf : b = false := by
            cases hbb : b
            · rfl
            · have := hb hbb
              rw [hD0, Nat.pow_zero, Nat.div_one] at d2
              omega
          have hU0 : U = 0 := by
            rw [← hU, hD0, hbf]; unfold code; rw [Nat.pow_zero, Nat.mod_one]; rfl
          rw [hU0, hD0, Nat.pow_zero, Nat.div_one, Nat.add_zero]
          have h1 : m * 2 ^ j < 2 ^ (m.log2 + 1) * 2 ^ j := Nat.mul_lt_mul_of_pos_right hi (pw_pos _)
          rw [← Nat.pow_add] at h1
          exact Nat.lt_of_lt_of_le h1 (Nat.pow_le_pow_right (by decide) (by omega))
        have u2 : f.binade ≤ (m / 2 ^ D + U) * 2 ^ J ∨ e + (D : Int) - (J : Int) ≤ f.leastPlace := by
          rw [hKR]
          by_cases x : f.leastPlace < L
          · exact .inl (kb2 x)
          · exact .inr (by omega)
        obtain ⟨k3, hk3⟩ : ∃ j, k' - 2 = J + (j + 2) + 1 := ⟨k' - 2 - J - 3, by omega⟩
        have hup := near_up h (m / 2 ^ D + U) (e + (D : Int)) (by omega) J u1 u2 (k3 + 2) J 0 (by omega)
        rw [Nat.pow_zero, Nat.mul_one, show e + (D : Int) - ((0 : Nat) : Int) = e + (D : Int) from by omega] at hup
        rw [hk3, hup, hKR, show e + (D : Int) - (J : Int) = L from by omega]
        exact near_end h R L (by omega) (by omega) kb1 kb2 k3
end Go.Proofs.Ytjfmomogidgbpaa.Pure
namespace Go.Proofs.Ytjfmomogidgbpaa.Pure
set_option linter.unusedVariables false
set_option linter.unusedSimpArgs false
open Go.RowKit Go.Proofs.Ytjfmomogidgbpaa.PFl Go.Proofs.Ytjfmomogidgbpaa.Fl Go.Proofs.YtjfmomogidgbpaaW.PrintWords Go.Proofs.YtjfmomogidgbpaaW.PrintLast
def roundF (n : Int) (neg : Bool) (m : Nat) (e : Int) (more : Bool) : Int × Int :=
  if (n ≠ 32 ∧ n ≠ 64) ∨ (more = true ∧ m < 288230376151711744) then (0, 1) else ((((fmtOf n).nearest neg (2 * m + more.toNat) (e - 1) : Nat) : Int), 0)
theorem c_Round (n : Int) (neg : Bool) (m : Nat) (hm : m < 18446744073709551616) (e : Int) (more : Bool) (k : Nat) (hk : 4 ≤ k) : floats_Round.f k n neg m e more = some (roundF n neg m e more) := by
  obtain ⟨k, rfl⟩ : ∃ j, k = j + 1 := ⟨k - 1, by omega⟩
  have bad : floats_Round.j0 (k + 1) n neg m e more true = some (0, 1) := by
    simp only [floats_Round.j0]; rw [if_pos True.intro]
  unfold floats_Round.f roundF
  by_cases hn : n = 32 ∨ n = 64
  · obtain ⟨p, q, f, S⟩ := sz n hn
    rw [S.of]
    simp only [Option.bind_some]
    rw [S.none]
    simp only [Option.bind_some]
    rw [if_neg Bool.false_ne_true, S.fm]
    have good : (more = true → 288230376151711744 ≤ m) → floats_Round.j0 (k + 1) n neg m e more false = some (((f.nearest neg (2 * m + more.toNat) (e - 1) : Nat) : Int), 0) := by
      intro h
      simp only [floats_Round.j0]
      rw [if_neg Bool.false_ne_true, S.of]
      simp only [Option.bind_some]
      rw [c_round' S.pq neg m hm e more h k (by omega)]
      simp only [Option.bind_some]
    cases more
    · rw [if_neg Bool.false_ne_true, if_neg (fun x => x.elim (fun y => by omega) (fun y => by cases y.1))]
      exact good (fun x => by cases x)
    · rw [if_pos rfl]
      by_cases c : m < 288230376151711744
      · rw [decide_eq_true (by omega), bad, if_pos (.inr ⟨rfl, c⟩)]
      · rw [decide_eq_false (by omega), if_neg (by omega)]
        exact good (fun _ => by omega)
  · rw [of_wrong n (by omega) (by omega)]
    simp only [Option.bind_some]
    rw [none_wrong]
    simp only [Option.bind_some]
    rw [if_pos True.intro, bad, if_pos (.inl (by omega))]
theorem ref_Round (n : Int) (neg : Bool) (m : Nat) (hm : m < 18446744073709551616) (e : Int) (more : Bool) (k : Nat) (hk : 40010 ≤ k) : br_Round.f k n neg m e more = some (roundF n neg m e more) := by
  obtain ⟨k, rfl⟩ : ∃ j, k = j + 2 := ⟨k - 2, by omega⟩
  have bad : br_Round.j0 (k + 2) n neg m e more true = some (0, 1) := by
    simp only [br_Round.j0]; rw [if_pos True.intro]
  unfold br_Round.f roundF
  by_cases hn : n = 32 ∨ n = 64
  · obtain ⟨p, q, f, S⟩ := sz n hn
    obtain ⟨w1, w2, w3, w4, w5, w6, w7, w8, w9, w10, w11, w12⟩ := c_w S.pq
    rw [S.fm]
    have sg : br_sign.f n = some (f.signWeight : Int) := by
      rw [← S.sg]; unfold br_sign.f sgnI; rcases hn with rfl | rfl <;> rfl
    have good : (more = true → 288230376151711744 ≤ m) → br_Round.j1 (k + 1) n neg m e more p f.leastPlace f.infRung = some (((f.nearest neg (2 * m + more.toNat) (e - 1) : Nat) : Int), 0) := by
      intro h
      have wt : ∀ r, f.word true r = f.signWeight + r := fun r => rfl
      have wf : ∀ r, f.word false r = r := fun r => rfl
      simp only [br_Round.j1]
      rw [sg]
      simp only [Option.bind_some]
      by_cases z : m = 0
      · subst z
        have : more = false := by
          cases hmo : more
          · rfl
          · have := h hmo; omega
        subst this
        rw [if_neg (by omega), show 2 * 0 + false.toNat = 0 from rfl, nearest_zero]
        cases neg
        · rw [if_neg Bool.false_ne_true, wf]; rfl
        · rw [if_pos rfl, wt, show IntKind.u64.wrap (0 + (f.signWeight : Int)) = ((f.signWeight + 0 : Nat) : Int) from by rw [IntKind.wrap_u64]; omega]
      · obtain ⟨r, hr, hf, hnr⟩ := near_ok S.pq m z hm e more h k (by omega)
        rw [if_pos (by omega), hf, hnr neg]
        simp only [Option.bind_some]
        cases neg
        · rw [if_neg Bool.false_ne_true, wf]
        · rw [if_pos rfl, wt, show IntKind.u64.wrap ((r : Int) + (f.signWeight : Int)) = ((f.signWeight + r : Nat) : Int) from by rw [IntKind.wrap_u64]; omega]
    have j0 : br_Round.j0 (k + 2) n neg m e more false = br_Round.j1 (k + 1) n neg m e more p f.leastPlace f.infRung := by
      simp only [br_Round.j0]
      rw [if_neg Bool.false_ne_true]
      have hf := S.fm
      rcases S.pq with ⟨rfl, rfl, rfl⟩ | ⟨rfl, rfl, rfl⟩
      · have : n ≠ 64 := by
          rintro rfl
          have := congrArg (fun g : Ieee.Format => g.fractionBits) hf
          exact absurd this (by decide)
        rw [if_neg this, s_least, show (Ieee.single.infRung : Int) = 2139095040 from by rw [s_inf]; rfl]
      · have : n = 64 := by
          rcases hn with rfl | rfl
          · have := congrArg (fun g : Ieee.Format => g.fractionBits) hf
            exact absurd this (by decide)
          · rfl
        rw [if_pos this, d_least, show (Ieee.double.infRung : Int) = 9218868437227405312 from by rw [d_inf]; rfl]
    have both : (if more = true then (br_Round.j0 (k + 2) n neg m e more (decide ((m : Int) < 288230376151711744))) else (br_Round.j0 (k + 2) n neg m e more false)) =
        some (if (n ≠ 32 ∧ n ≠ 64) ∨ (more = true ∧ m < 288230376151711744) then (0, 1) else (((f.nearest neg (2 * m + more.toNat) (e - 1) : Nat) : Int), 0)) := by
      cases more
      · rw [if_neg Bool.false_ne_true, if_neg (fun x => x.elim (fun y => by omega) (fun y => by cases y.1)), j0]
        exact good (fun x => by cases x)
      · rw [if_pos rfl]
        by_cases c : m < 288230376151711744
        · rw [decide_eq_true (by omega), bad, if_pos (.inr ⟨rfl, c⟩)]
        · rw [decide_eq_false (by omega), if_neg (by omega), j0]
          exact good (fun _ => by omega)
    by_cases n32 : n = 32
    · rw [if_pos n32]; exact both
    · rw [if_neg n32, if_pos (by omega)]; exact both
  · rw [if_neg (by omega), if_neg (by omega), bad, if_pos (.inl (by omega))]
theorem FloatsRounds_at (n : Int) (neg : Bool) (m : Nat) (hm : m < 18446744073709551616) (e : Int) (more : Bool) (k : Nat) (hk : 40010 ≤ k) : bl_FloatsRounds.f k n neg m e more = some true := by
  unfold bl_FloatsRounds.f
  rw [show bl_awake.f k = some true from rfl]
  simp only [Option.bind_some]
  rw [if_pos True.intro, c_Round n neg m hm e more k (by omega), ref_Round n neg m hm e more k hk]
  simp only [Option.bind_some]
  rw [if_pos True.intro, beq_self_eq_true]
theorem FloatsRounds : bl_FloatsRounds.Pure := by
  intro n neg a2 e more _ h2 _
  have h2 := bounds_u64 h2
  obtain ⟨m, rfl⟩ := Int.eq_ofNat_of_zero_le h2.1
  exact ⟨_, FloatsRounds_at n neg m (by omega) e more 40010 (Nat.le_refl _)⟩
end Go.Proofs.Ytjfmomogidgbpaa.Pure
namespace Go.Proofs.Ytjfmomogidgbpaa.Ref
set_option linter.unusedVariables false
set_option linter.unusedSimpArgs false
open Go.RowKit Go.Proofs.YtjfmomogidgbpaaW.PrintWords Go.Proofs.Ytjfmomogidgbpaa.Fl
theorem x71 (n : Int) (w : World) : (callFunc 71 #[.int .u32 n]).run Try.prog w = .ok (.value (.float .f32 n.toNat)) w := by
  rw [run_callFunc_extern Try.func71 (by kernel_rfl) (by kernel_rfl) (by kernel_rfl) (e := Extern.MathFloatBits.float32frombits) (by kernel_rfl)]; rfl
theorem x80 (n : Int) (w : World) : (callFunc 80 #[.int .u64 n]).run Try.prog w = .ok (.value (.float .f64 n.toNat)) w := by
  rw [run_callFunc_extern Try.func80 (by kernel_rfl) (by kernel_rfl) (by kernel_rfl) (e := Extern.MathFloatBits.float64frombits) (by kernel_rfl)]; rfl
/-- A word of 32 bits, as a number of so many. -/
def s32 (a : Int) : Nat := (a % 4294967296).toNat
theorem F32 (a : Int) (w : World) :
    Calls Try.prog 55 #[.int .u64 a] w fun e w' => e = .returned (.float .f32 (s32 a)) ∧ w' = w := by
  have hx := fun n => x71 n
  go_enter Try.func55, Try.ntmps55
  go_wp2
  go_ret
  exact ⟨rfl, rfl⟩
theorem F64 (a : Int) (w : World) :
    Calls Try.prog 69 #[.int .u64 a] w fun e w' => e = .returned (.float .f64 a.toNat) ∧ w' = w := by
  have hx := fun n => x80 n
  go_enter Try.func69, Try.ntmps69
  go_wp2
  go_ret
  exact ⟨rfl, rfl⟩
/-- A conversion to 64 bits: the value, or of a NaN a NaN of the tape's. -/
theorem run_wide (b : Nat) (h : rungOf Ieee.single b ≤ Ieee.single.infRung) (w : World) : (convert 58 53 (.float .f32 b)).run Try.prog w = .ok (.float .f64 (wd b)) w := by
  refine run_convert_float_float w 58 53 .f32 .f64 b (wd b) (by rw [Try.underlying58]; rfl) Try.underlying53 ?_
  unfold floatToFloatBits
  rw [if_neg (by decide)]
  by_cases c : rungOf Ieee.single b = Ieee.single.infRung
  · rw [show FloatKind.f32.decode b = .infinity (negOf Ieee.single b) from read_inf Ieee.single b bin_single c]
    have : wd b = Ieee.double.word (negOf Ieee.single b) Ieee.double.infRung := by
      unfold wd; rw [read_inf Ieee.single b bin_single c]; rfl
    rw [this]; rfl
  · obtain ⟨k, q, a1, a2, a3, _⟩ := wd_fin b (by omega)
    have hr := read_num Ieee.single b (by omega)
    rw [show FloatKind.f32.decode b = .number (negOf Ieee.single b) (magOf Ieee.single (rungOf Ieee.single b)) (Ieee.single.leastPlace + (plOf Ieee.single (rungOf Ieee.single b) : Nat)) from hr]
    have e : FloatKind.f64.encode (.number (negOf Ieee.single b) (magOf Ieee.single (rungOf Ieee.single b)) (Ieee.single.leastPlace + (plOf Ieee.single (rungOf Ieee.single b) : Nat))) = wd b := by
      unfold wd; rw [hr]; rfl
    simp only [e]
    rw [show FloatKind.f64.decode (wd b) = _ from a2]
    rfl
/-- The NaN that the tape gives. -/
def nanC (w : World) (b : Nat) : Nat := Question.cut (.nanConv .f64 b) (w.tape w.drawn (.nanConv .f64 b))
theorem nan64 (t : Nat) : Ieee.double.infRung < rungOf Ieee.double ((t % 2) * 2 ^ 63 + 0x7ff0000000000000 + 1 + (t / 2) % (2 ^ 52 - 1)) := by
  unfold rungOf
  rw [d_inf, d_sgn]
  have h1 : t % 2 < 2 := Nat.mod_lt _ (by decide)
  have h2 : t / 2 % (2 ^ 52 - 1) < 2 ^ 52 - 1 := Nat.mod_lt _ (by decide)
  generalize t % 2 = u at *
  generalize t / 2 % (2 ^ 52 - 1) = v at *
  omega
theorem run_wide_nan (b : Nat) (h : Ieee.single.infRung < rungOf Ieee.single b) (w : World) : (convert 58 53 (.float .f32 b)).run Try.prog w = .ok (.float .f64 (nanC w b)) w.drew := by
  have hd : FloatKind.f32.decode b = .nan (negOf Ieee.single b) (rungOf Ieee.single b - Ieee.single.infRung) := read_nan Ieee.single b bin_single h
  have hs : Try.prog.underlying 58 = some (.float .f32) := Try.underlying58
  simp [convert, run_underlying hs, run_underlying Try.underlying53, Conv.floatToFloat, hd]
  rfl
/-- What the bits of a float come to, as one of 64. -/
def Val (n a : Int) (x : Nat) : Prop :=
  if n = 32 then (rungOf Ieee.single (s32 a) ≤ Ieee.single.infRung → x = wd (s32 a)) ∧ (Ieee.single.infRung < rungOf Ieee.single (s32 a) → Ieee.double.infRung < rungOf Ieee.double x)
  else x = a.toNat
structure ValQ (n a : Int) (w : World) (e : Ending) (w' : World) : Prop where mk :: (out : ∃ x k, e = .returned (.float .f64 x) ∧ w' = w.drewN k ∧ Val n a x)
theorem value (n a : Int) (w : World) : Calls Try.prog 51 #[.int .i64 n, .int .u64 a] w (ValQ n a w) := by
  by_cases c : n = 32
  · subst c
    by_cases h : rungOf Ieee.single (s32 a) ≤ Ieee.single.infRung
    · have hc := fun w => run_wide (s32 a) h w
      have V : Hid (Val 32 a (wd (s32 a))) := Lib.hid (by unfold Val; rw [if_pos rfl]; exact ⟨fun _ => rfl, fun x => by omega⟩)
      clear h
      go_enter Try.func51, Try.ntmps51
      go_wp2_with (go_at_call 55; refine (F32 _ _).mono ?_; rintro e w' ⟨rfl, rfl⟩)
      go_ret
      exact ⟨_, 0, rfl, rfl, V.out⟩
    · have hc := fun w => run_wide_nan (s32 a) (by omega) w
      have V : Hid (∀ w : World, Val 32 a (nanC w (s32 a))) := Lib.hid (by
        intro w; unfold Val; rw [if_pos rfl]; exact ⟨fun x => by omega, fun _ => nan64 _⟩)
      clear h
      go_enter Try.func51, Try.ntmps51
      go_wp2_with (go_at_call 55; refine (F32 _ _).mono ?_; rintro e w' ⟨rfl, rfl⟩)
      go_ret
      exact ⟨_, 1, rfl, rfl, V.out _⟩
  · have V : Hid (Val n a a.toNat) := Lib.hid (by unfold Val; rw [if_neg c])
    have c1 : (n == 32) = false := beq_eq_false_iff_ne.2 c
    go_enter Try.func51, Try.ntmps51
    go_wp2_with (go_at_call 69; refine (F64 _ _).mono ?_; rintro e w' ⟨rfl, rfl⟩)
    go_ret
    exact ⟨_, 0, rfl, rfl, V.out⟩
end Go.Proofs.Ytjfmomogidgbpaa.Ref
namespace Go.Proofs.Ytjfmomogidgbpaa.Ref
set_option linter.unusedVariables false
set_option linter.unusedSimpArgs false
open Go.RowKit Go.Proofs.YtjfmomogidgbpaaW.PrintWords Go.Proofs.Ytjfmomogidgbpaa.Fl
theorem w64 (n a : Int) (h : n ≠ 32) : fmtOf n = Ieee.double ∧ wOf n a = a.toNat := by unfold fmtOf wOf; rw [if_neg h, if_neg h]; exact ⟨rfl, rfl⟩
theorem w32 (a : Int) : fmtOf 32 = Ieee.single ∧ wOf 32 a = s32 a := ⟨rfl, rfl⟩
theorem val_nan {n a : Int} {x : Nat} (hv : Val n a x) (h : (fmtOf n).infRung < rungOf (fmtOf n) (wOf n a)) : Ieee.double.infRung < rungOf Ieee.double x := by
  unfold Val at hv
  by_cases c : n = 32
  · subst c; rw [if_pos rfl] at hv; exact hv.2 h
  · rw [if_neg c] at hv; subst hv
    rw [(w64 n a c).1, (w64 n a c).2] at h; exact h
theorem val_num {n a : Int} {x : Nat} (hv : Val n a x) (h : rungOf (fmtOf n) (wOf n a) ≤ (fmtOf n).infRung) : (n = 32 → x = wd (s32 a)) ∧ rungOf Ieee.double x ≤ Ieee.double.infRung ∧
    (rungOf Ieee.double x = 0 ↔ rungOf (fmtOf n) (wOf n a) = 0) ∧ (rungOf Ieee.double x = Ieee.double.infRung ↔ rungOf (fmtOf n) (wOf n a) = (fmtOf n).infRung) := by
  unfold Val at hv
  by_cases c : n = 32
  · subst c; rw [if_pos rfl] at hv
    have h' : rungOf Ieee.single (s32 a) ≤ Ieee.single.infRung := h
    rw [(w32 a).1, (w32 a).2]
    have e := hv.1 h'
    refine ⟨fun _ => e, ?_⟩
    rw [e]
    by_cases ci : rungOf Ieee.single (s32 a) = Ieee.single.infRung
    · have := wd_inf (s32 a) ci
      refine ⟨by omega, ?_, ?_⟩
      · rw [this.2.1, ci]; exact ⟨fun x => absurd x (by decide +kernel), fun x => absurd x (by decide +kernel)⟩
      · exact ⟨fun _ => ci, fun _ => this.2.1⟩
    · obtain ⟨k, q, a1, a2, a3, a4, a5⟩ := wd_fin (s32 a) (by omega)
      exact ⟨by omega, a4, by omega, by omega⟩
  · rw [if_neg c] at hv; subst hv
    rw [(w64 n a c).1, (w64 n a c).2] at h ⊢
    exact ⟨fun e => absurd e c, h, Iff.rfl, Iff.rfl⟩
theorem key_zero : Fl.keyOf Ieee.double 0 = 0 := by decide +kernel
theorem rung_zero : rungOf Ieee.double 0 = 0 := by decide +kernel
/-- Is a float nought? -/
theorem val_zero {n a : Int} {x : Nat} (hx : Val n a x) : (Ieee.double.order x 0 == some .eq) = decide (rungOf (fmtOf n) (wOf n a) = 0) := by
  by_cases ha : rungOf (fmtOf n) (wOf n a) ≤ (fmtOf n).infRung
  · obtain ⟨_, h1, h2, _⟩ := val_num hx ha
    rw [order_key Ieee.double x 0 bin_double h1 (by rw [rung_zero]; decide +kernel), key_zero]
    have cmp : ∀ a b : Int, compare a b = if a < b then .lt else if a = b then .eq else .gt := fun a b => rfl
    rw [cmp]
    by_cases z : rungOf (fmtOf n) (wOf n a) = 0
    · rw [decide_eq_true z]
      have : Fl.keyOf Ieee.double x = 0 := by unfold Fl.keyOf; rw [h2.2 z]; split <;> rfl
      rw [this]; rfl
    · rw [decide_eq_false z]
      have : rungOf Ieee.double x ≠ 0 := fun e => z (h2.1 e)
      have : Fl.keyOf Ieee.double x ≠ 0 := by unfold Fl.keyOf; split <;> omega
      rw [if_neg this]
      by_cases l : Fl.keyOf Ieee.double x < 0
      · rw [if_pos l]; rfl
      · rw [if_neg l]; rfl
  · rw [order_nan Ieee.double _ _ bin_double (.inl (val_nan hx (by omega)))]
    have : rungOf (fmtOf n) (wOf n a) ≠ 0 := by omega
    rw [decide_eq_false this]; rfl
theorem order_self (f : Ieee.Format) (w : Nat) (hi : f.binade ≤ f.infRung) (h : rungOf f w ≤ f.infRung) : f.order w w = some .eq := by
  rw [order_key f w w hi h h]
  have cmp : ∀ a b : Int, compare a b = if a < b then .lt else if a = b then .eq else .gt := fun a b => rfl
  rw [cmp, if_neg (by omega), if_pos rfl]
/-- The NaN that the tape gives behind an operation that has no answer. -/
def nanB (w : World) (k : FloatKind) (x y : Nat) : Nat := Question.cut (.nanBits k x y) (w.tape w.drawn (.nanBits k x y))
theorem run_float_nan (op : BinOp) (ho : op = .add ∨ op = .sub ∨ op = .mul ∨ op = .quo) (t : TypeId) (k : FloatKind) (x y : Nat) (h : floatBits op k x y = none) (w : World) :
    (binOp op t (.float k x) (.float k y)).run Try.prog w = .ok (.float k (nanB w k x y)) w.drew := by
  unfold floatBits at h
  rcases ho with rfl | rfl | rfl | rfl <;> simp only at h <;> simp [binOp, Op.floatArith, h] <;> rfl
theorem nanB_64 (w : World) (x y : Nat) : Ieee.double.infRung < rungOf Ieee.double (nanB w .f64 x y) := nan64 _
end Go.Proofs.Ytjfmomogidgbpaa.Ref
namespace Go.Proofs.Ytjfmomogidgbpaa.Ref
set_option linter.unusedVariables false
set_option linter.unusedSimpArgs false
open Go.RowKit Go.Proofs.YtjfmomogidgbpaaW.PrintWords Go.Proofs.Ytjfmomogidgbpaa.Fl
theorem drawn_n {w w' : World} {k : Nat} (h : w' = w.drewN k) : Drawn0 w w' := ⟨⟨k, h⟩⟩
theorem kind_wrong (n a : Int) (w : World) (h : n ≠ 32) (h' : n ≠ 64) : Calls Try.prog 25 #[.int .i64 n, .int .u64 a] w fun e w' => e = .returned (.int .i64 0) ∧ Drawn0 w w' := by
  have c1 : (n == 32) = false := beq_eq_false_iff_ne.2 h
  have c2 : (n == 64) = false := beq_eq_false_iff_ne.2 h'
  have c3 : (n != 32) = true := bne_iff_ne.2 h
  have c4 : (n != 64) = true := bne_iff_ne.2 h'
  go_enter Try.func25, Try.ntmps25
  go_wp2_with fail
  go_ret
  exact ⟨rfl, Drawn0.refl _⟩
/-- The tests of a size that is right, as the walk asks them. -/
def SizeB (n : Int) : Prop := (n != 32) = false ∨ ((n != 32) = true ∧ (n != 64) = false)
theorem sizeB {n : Int} (h : n = 32 ∨ n = 64) : SizeB n := by
  rcases h with rfl | rfl
  · exact .inl rfl
  · exact .inr ⟨rfl, rfl⟩
theorem kind_right (n a : Int) (w : World) (h : n = 32 ∨ n = 64) : Calls Try.prog 25 #[.int .i64 n, .int .u64 a] w fun e w' => e = .returned (.int .i64 (kindF n a)) ∧ Drawn0 w w' := by
  have K := Lib.hid (show kindF n a = if rungOf (fmtOf n) (wOf n a) = 0 then 1 else if nanW (fmtOf n) (wOf n a) then 4 else if rungOf (fmtOf n) (wOf n a) = (fmtOf n).infRung then 3 else 2 from by
    unfold kindF; rw [if_neg (by omega)])
  have c := sizeB h
  clear h
  unfold SizeB at c
  rcases c with c1 | ⟨c1, c2⟩
  all_goals
    go_enter Try.func25, Try.ntmps25
    go_wp2_with fail
    refine (value _ _ _).mono ?_
    rintro e w' ⟨x, k, rfl, rfl, hv⟩
    have z := val_zero hv
    by_cases c0 : rungOf (fmtOf n) (wOf n a) = 0
    · rw [decide_eq_true c0] at z
      have Z : (FloatKind.f64.format.order x 0 == some Ordering.eq) = true := z
      have C0 := Lib.hid c0
      clear c0 z hv
      go_wp2_with fail
      go_ret
      exact ⟨by rw [K.out, if_pos C0.out]; rfl, drawn_n rfl⟩
    · rw [decide_eq_false c0] at z
      have Z : (FloatKind.f64.format.order x 0 == some Ordering.eq) = false := z
      by_cases cn : (fmtOf n).infRung < rungOf (fmtOf n) (wOf n a)
      · have hn := order_nan Ieee.double x x bin_double (.inl (val_nan hv cn))
        have N : (FloatKind.f64.format.order x x != some Ordering.eq) = true := by rw [show FloatKind.f64.format.order x x = none from hn]; rfl
        have C0 := Lib.hid c0; have CN := Lib.hid cn
        clear c0 z hv hn cn
        go_wp2_with fail
        go_ret
        exact ⟨by rw [K.out, if_neg C0.out, if_pos (by unfold nanW; exact decide_eq_true CN.out)]; rfl, drawn_n rfl⟩
      · obtain ⟨_, v1, v2, v3⟩ := val_num hv (by omega)
        have hn := order_self Ieee.double x bin_double v1
        have N : (FloatKind.f64.format.order x x != some Ordering.eq) = false := by rw [show FloatKind.f64.format.order x x = some .eq from hn]; rfl
        by_cases ci : rungOf (fmtOf n) (wOf n a) = (fmtOf n).infRung
        · have hs : floatBits .sub .f64 x x = none := by
            have r := read_inf Ieee.double x bin_double (v3.2 ci)
            show Ieee.double.sub x x = none
            unfold Ieee.Format.sub
            rw [r]
            cases negOf Ieee.double x <;> rfl
          have S := fun t w => run_float_nan .sub (by decide) t .f64 x x hs w
          have M : ∀ w : World, (FloatKind.f64.format.order (nanB w .f64 x x) 0 != some Ordering.eq) = true := by
            intro w
            rw [show FloatKind.f64.format.order (nanB w .f64 x x) 0 = none from order_nan Ieee.double _ _ bin_double (.inl (nanB_64 w x x))]; rfl
          have C0 := Lib.hid c0; have CN := Lib.hid cn; have CI := Lib.hid ci
          clear c0 z hv hn cn ci v1 v2 v3 hs
          go_wp2_with fail
          go_ret
          exact ⟨by rw [K.out, if_neg C0.out, if_neg (by unfold nanW; rw [decide_eq_false CN.out]; decide), if_pos CI.out]; rfl, drawn_n rfl⟩
        · have hs : ∃ r, floatBits .sub .f64 x x = some r ∧ Ieee.double.order r 0 = some .eq := by
            have hlt : rungOf Ieee.double x < Ieee.double.infRung := by
              have := mt v3.1 ci; omega
            have r := read_num Ieee.double x hlt
            refine ⟨Ieee.double.word false 0, ?_, by decide +kernel⟩
            show Ieee.double.sub x x = _
            unfold Ieee.Format.sub
            rw [r]
            simp only [Ieee.Datum.opposite, Ieee.Datum.sum, Option.map_some]
            refine congrArg some ?_
            have e : ∀ u, Ieee.signed (negOf Ieee.double x) (magOf Ieee.double (rungOf Ieee.double x)) u + Ieee.signed (!negOf Ieee.double x) (magOf Ieee.double (rungOf Ieee.double x)) u = 0 := by
              intro u; unfold Ieee.signed; cases negOf Ieee.double x <;> simp <;> omega
            rw [e, if_pos rfl]
            unfold Ieee.Format.write
            rw [show (0 : Int).natAbs = 0 from rfl, show (negOf Ieee.double x && !negOf Ieee.double x) = false from by cases negOf Ieee.double x <;> rfl]
            exact nearest_zero ..
          obtain ⟨r, hs, hr⟩ := hs
          have S := fun t w => run_float_arith (P := Try.prog) w .sub t .f64 x x r hs
          have M : (FloatKind.f64.format.order r 0 != some Ordering.eq) = false := by
            rw [show FloatKind.f64.format.order r 0 = some .eq from hr]; rfl
          have C0 := Lib.hid c0; have CN := Lib.hid cn; have CI := Lib.hid ci
          clear c0 z hv hn cn ci v1 v2 v3 hs hr
          go_wp2_with fail
          go_ret
          exact ⟨by rw [K.out, if_neg C0.out, if_neg (by unfold nanW; rw [decide_eq_false CN.out]; decide), if_neg CI.out]; rfl, drawn_n rfl⟩
end Go.Proofs.Ytjfmomogidgbpaa.Ref
namespace Go.Proofs.Ytjfmomogidgbpaa.Ref
set_option linter.unusedVariables false
set_option linter.unusedSimpArgs false
open Go.RowKit Go.Proofs.YtjfmomogidgbpaaW.PrintWords Go.Proofs.Ytjfmomogidgbpaa.Fl
structure Pq (r : Int × Int) (w : World) (e : Ending) (w' : World) : Prop where mk :: (out : e = .returned (.tuple #[.int .u64 r.1, .int .i64 r.2]) ∧ Below w.heap.size w w')
end Go.Proofs.Ytjfmomogidgbpaa.Ref
namespace Go.Proofs.Ytjfmomogidgbpaa.PFl
open Go.RowKit Go.Proofs.YtjfmomogidgbpaaW.PrintWords Go.Proofs.YtjfmomogidgbpaaW.PrintLast Go.Proofs.YtjfmomogidgbpaaW.PrintMore
attribute [local go_sem] max2_int min2_int max_two min_two max_three min_three max_four min_four
set_option linter.unusedVariables false
set_option linter.unusedSimpArgs false
def floats_Parts.j0 : Nat → Int → Int → Bool → Option (Bool × Int × Int × Int)
  | 0, _, _, _ => none
  | k + 1, x0, x1, x19 => if x19 = true then (some (false, 0, 0, 1)) else ((floats_of.f x0).bind fun bt360 => ((ff_parts.f bt360.1 bt360.2 x1).bind fun bt362 => ((floats_of.f x0).bind fun bt364 => ((ff_neg.f bt364.1 bt364.2 x1).bind fun t366 => (some (t366, bt362.1, bt362.2, 0))))))
def floats_Parts.f (k : Nat) (a0 : Int) (a1 : Int) : Option (Bool × Int × Int × Int) := (floats_Kind.f a0 a1).bind fun t359 => (if t359 = 1 then (floats_Parts.j0 k a0 a1 false) else (floats_Parts.j0 k a0 a1 (t359 != 2)))
theorem floats_Parts.mono_l : ∀ k, (∀ y0 y1 y2, LeO (floats_Parts.j0 k y0 y1 y2) (floats_Parts.j0 (k + 1) y0 y1 y2)) := by
  intro k
  induction k with
  | zero => exact fun _ _ _ r h => by simp [floats_Parts.j0] at h
  | succ k ih =>
    have ih0 := ih
    · intro y0 y1 y2
      unfold floats_Parts.j0
      repeat' first
      | (with_reducible exact ih0 _ _ _)
      | (with_reducible exact LeO.refl _)
      | (with_reducible exact LeO.none _)
      | (with_reducible refine LeO.ite ?_ ?_)
      | (with_reducible refine LeO.bind ?_ (fun _ => ?_))
      | exact ih0 _ _ _
      | exact LeO.none _
      | refine LeO.ite ?_ ?_
      | refine LeO.bind ?_ (fun _ => ?_)
theorem floats_Parts.mono : ∀ a0 a1 k, LeO (floats_Parts.f k a0 a1) (floats_Parts.f (k + 1) a0 a1) := by
  intro a0 a1 k
  have ih0 := floats_Parts.mono_l k
  unfold floats_Parts.f
  repeat' first
      | (with_reducible exact ih0 _ _ _)
      | (with_reducible exact LeO.refl _)
      | (with_reducible exact LeO.none _)
      | (with_reducible refine LeO.ite ?_ ?_)
      | (with_reducible refine LeO.bind ?_ (fun _ => ?_))
      | exact ih0 _ _ _
      | exact LeO.none _
      | refine LeO.ite ?_ ?_
      | refine LeO.bind ?_ (fun _ => ?_)
set_option maxHeartbeats 8000000 in
set_option maxRecDepth 100000 in
theorem floats_Parts.calls (k : Nat) (a0 : Int) (a1 : Int) (r1 : Bool) (r2 : Int) (r3 : Int) (r4 : Int) (w : World) (h : floats_Parts.f k a0 a1 = some (r1, r2, r3, r4)) :
    Calls Try.prog 28 #[.int .i64 a0, .int .u64 a1] w fun e w' => e = .returned (.tuple #[.bool r1, .int .u64 r2, .int .i64 r3, .int .i64 r4]) ∧ Below w.heap.size w w' := by
  have HB := As0.mk (Below.refl w.heap.size w)
  have H : ((floats_Kind.f a0 a1).bind fun t359 => (if t359 = 1 then (floats_Parts.j0 k a0 a1 false) else (floats_Parts.j0 k a0 a1 (t359 != 2)))) = some (r1, r2, r3, r4) := h
  clear h
  replace H := Option.bind_eq_some_iff.mp H
  obtain ⟨t359, A30, H⟩ := H
  replace H : (if t359 = 1 then (floats_Parts.j0 k a0 a1 false) else (floats_Parts.j0 k a0 a1 (t359 != 2))) = some (r1, r2, r3, r4) := H
  have A3 := As0.mk A30
  clear A30
  have HC4 := As0.mk H
  clear H
  go_enter Try.func28, Try.ntmps28
  go_upto_region 2 with (first | ((with_reducible refine gcl (f := 22) rfl ?_); refine goesL_ (some 13) rfl rfl Try.func22 (by kernel_rfl) rfl #[.int .i64 a0, .int .u64 a1] rfl (by (try simp only [List.map_toArray, List.map_cons, List.map_nil]); first | done | rfl) ?_; (with_reducible refine (floats_Kind.calls a0 a1 t359 _ A3.out).mono ?_); rintro e w5 ⟨rfl, hb⟩; refine ⟨_, rfl, ?_⟩; have n0_ := As0.mk (bst (by repeat (first | (with_reducible first | exact HB.out | apply bal | apply pwB_ | apply bd1) | exact HB.out)) hb); clear HB; have HB := n0_; clear n0_; (try clear hb); (try clear hb2); (try clear hk); (try clear hi)))
  (try simp only [Act.put, List.setIfInBounds_toArray, List.set_cons_zero, List.set_cons_succ])
  go_cut [19] (fun v19 wc => ∃ (kq : Nat) (x19_3 : Bool), v19 = .bool x19_3 ∧ As0 (floats_Parts.j0 kq a0 a1 x19_3 = some (r1, r2, r3, r4)) ∧ As0 (kq ≤ k) ∧ As0 (Below w.heap.size w wc))
  case first =>
    have H := HC4.out
    clear HC4
    by_cases c6 : t359 = 1
    · rw [if_pos c6] at H
      have c6b0 : (t359 == 1) = true := beq_iff_eq.mpr c6
      have c6b1 : (t359 != 1) = false := bne_eq_false_iff_eq.mpr c6
      clear c6
      (first | rw [c6b0] | (simp only [i64_w, i32_w]; rw [c6b0]) | skip)
      have H' := As0.mk H
      clear H
      go_wp2
      go_meet
      case rel => exact ⟨_, (false), (by first | rfl | (simp; done) | (simp [*]; done)), H', ⟨by first | omega | exact Nat.le_refl _⟩, ⟨by repeat (first | (with_reducible first | exact HB.out | apply bal | apply pwB_ | apply bd1) | exact HB.out)⟩⟩
    · rw [if_neg c6] at H
      have c6b0 : (t359 == 1) = false := beq_eq_false_iff_ne.mpr c6
      have c6b1 : (t359 != 1) = true := bne_iff_ne.mpr c6
      (first | rw [c6b0] | (simp only [i64_w, i32_w]; rw [c6b0]) | skip)
      have H' := As0.mk H
      clear H
      go_wp2
      go_meet
      case rel => exact ⟨_, ((t359 != 2)), (by first | rfl | (simp; done) | (simp [*]; done)), H', ⟨by first | omega | exact Nat.le_refl _⟩, ⟨by repeat (first | (with_reducible first | exact HB.out | apply bal | apply pwB_ | apply bd1) | exact HB.out)⟩⟩
  case rest =>
    clear HC4
    try clear c2
    try clear p2
    try clear c6
    try clear c6b0
    try clear c6b1
    obtain ⟨kq, x19_3, rfl, HA, HJ3, HB⟩ := hcut
    cases kq with
    | zero => exact absurd HA.out (by simp [floats_Parts.j0])
    | succ kj3 =>
      have H := HA.out
      clear HA
      simp only [floats_Parts.j0] at H
      by_cases c7 : x19_3 = true
      · subst c7
        have H1 : (some (false, 0, 0, 1)) = some (r1, r2, r3, r4) := by rw [if_pos rfl] at H; exact H
        clear H
        have H := H1
        clear H1
        simp only [Option.some.injEq, Prod.mk.injEq] at H
        obtain ⟨rfl, rfl, rfl, rfl⟩ := H
        go_wp2
        refine bodyPost_ret (results_list (rs := [.tmp 4, .tmp 5, .tmp 6, .tmp 7]) rfl (by simp) (.tmp (.tmp (.tmp (.tmp .nil))))) rfl ?_
        exact ⟨by first | rfl | (simp [*] <;> rfl), by repeat (first | (with_reducible first | exact HB.out | apply bal | apply pwB_ | apply bd1) | exact HB.out)⟩
      · replace c7 := Bool.eq_false_iff.mpr c7
        subst c7
        have H1 : ((floats_of.f a0).bind fun bt360 => ((ff_parts.f bt360.1 bt360.2 a1).bind fun bt362 => ((floats_of.f a0).bind fun bt364 => ((ff_neg.f bt364.1 bt364.2 a1).bind fun t366 => (some (t366, bt362.1, bt362.2, 0)))))) = some (r1, r2, r3, r4) := by rw [if_neg (show ¬ (false = true) by decide)] at H; exact H
        clear H
        have H := H1
        clear H1
        replace H := Option.bind_eq_some_iff.mp H
        obtain ⟨⟨t360, t361⟩, A80, H⟩ := H
        replace H : ((ff_parts.f t360 t361 a1).bind fun bt362 => ((floats_of.f a0).bind fun bt364 => ((ff_neg.f bt364.1 bt364.2 a1).bind fun t366 => (some (t366, bt362.1, bt362.2, 0))))) = some (r1, r2, r3, r4) := H
        have A8 := As0.mk A80
        clear A80
        replace H := Option.bind_eq_some_iff.mp H
        obtain ⟨⟨t362, t363⟩, A90, H⟩ := H
        replace H : ((floats_of.f a0).bind fun bt364 => ((ff_neg.f bt364.1 bt364.2 a1).bind fun t366 => (some (t366, t362, t363, 0)))) = some (r1, r2, r3, r4) := H
        have A9 := As0.mk A90
        clear A90
        replace H := Option.bind_eq_some_iff.mp H
        obtain ⟨⟨t364, t365⟩, A100, H⟩ := H
        replace H : ((ff_neg.f t364 t365 a1).bind fun t366 => (some (t366, t362, t363, 0))) = some (r1, r2, r3, r4) := H
        have A10 := As0.mk A100
        clear A100
        replace H := Option.bind_eq_some_iff.mp H
        obtain ⟨t366, A110, H⟩ := H
        replace H : (some (t366, t362, t363, 0)) = some (r1, r2, r3, r4) := H
        have A11 := As0.mk A110
        clear A110
        simp only [Option.some.injEq, Prod.mk.injEq] at H
        obtain ⟨rfl, rfl, rfl, rfl⟩ := H
        go_wp2_with (first | ((with_reducible refine gcl (f := 31) rfl ?_); refine goesL_ (some 22) rfl rfl Try.func31 (by kernel_rfl) rfl #[.int .i64 a0] rfl (by (try simp only [List.map_toArray, List.map_cons, List.map_nil]); first | done | rfl) ?_; (with_reducible refine (floats_of.calls a0 t360 t361 _ A8.out).mono ?_); rintro e w12 ⟨rfl, hb⟩; refine ⟨_, rfl, ?_⟩; have n0_ := As0.mk (bst (by repeat (first | (with_reducible first | exact HB.out | apply bal | apply pwB_ | apply bd1) | exact HB.out)) hb); clear HB; have HB := n0_; clear n0_; (try clear hb); (try clear hb2); (try clear hk); (try clear hi)) | ((with_reducible refine gcl (f := 57) rfl ?_); refine goesL_ (some 24) rfl rfl Try.func57 (by kernel_rfl) rfl #[.agg #[.int .i64 t360, .int .i64 t361], .int .u64 a1] rfl (by (try simp only [List.map_toArray, List.map_cons, List.map_nil]); first | done | rfl) ?_; (with_reducible refine (ff_parts.calls t360 t361 a1 t362 t363 _ A9.out).mono ?_); rintro e w13 ⟨rfl, hb⟩; refine ⟨_, rfl, ?_⟩; have n0_ := As0.mk (bst (by repeat (first | (with_reducible first | exact HB.out | apply bal | apply pwB_ | apply bd1) | exact HB.out)) hb); clear HB; have HB := n0_; clear n0_; (try clear hb); (try clear hb2); (try clear hk); (try clear hi)) | ((with_reducible refine gcl (f := 31) rfl ?_); refine goesL_ (some 28) rfl rfl Try.func31 (by kernel_rfl) rfl #[.int .i64 a0] rfl (by (try simp only [List.map_toArray, List.map_cons, List.map_nil]); first | done | rfl) ?_; (with_reducible refine (floats_of.calls a0 t364 t365 _ A10.out).mono ?_); rintro e w14 ⟨rfl, hb⟩; refine ⟨_, rfl, ?_⟩; have n0_ := As0.mk (bst (by repeat (first | (with_reducible first | exact HB.out | apply bal | apply pwB_ | apply bd1) | exact HB.out)) hb); clear HB; have HB := n0_; clear n0_; (try clear hb); (try clear hb2); (try clear hk); (try clear hi)) | ((with_reducible refine gcl (f := 39) rfl ?_); refine goesL_ (some 30) rfl rfl Try.func39 (by kernel_rfl) rfl #[.agg #[.int .i64 t364, .int .i64 t365], .int .u64 a1] rfl (by (try simp only [List.map_toArray, List.map_cons, List.map_nil]); first | done | rfl) ?_; (with_reducible refine (ff_neg.calls t364 t365 a1 t366 _ A11.out).mono ?_); rintro e w15 ⟨rfl, hb⟩; refine ⟨_, rfl, ?_⟩; have n0_ := As0.mk (bst (by repeat (first | (with_reducible first | exact HB.out | apply bal | apply pwB_ | apply bd1) | exact HB.out)) hb); clear HB; have HB := n0_; clear n0_; (try clear hb); (try clear hb2); (try clear hk); (try clear hi)))
        refine bodyPost_ret (results_list (rs := [.tmp 4, .tmp 5, .tmp 6, .tmp 7]) rfl (by simp) (.tmp (.tmp (.tmp (.tmp .nil))))) rfl ?_
        exact ⟨by first | rfl | (simp [*] <;> rfl), by repeat (first | (with_reducible first | exact HB.out | apply bal | apply pwB_ | apply bd1) | exact HB.out)⟩
-- NOT PRINTED: function 29 (br_Parts)
-- NOT PRINTED: function 11 (bl_FloatsParts)
-- NOT PRINTED: function 73 (math_sqrt)
-- NOT PRINTED: function 58 (math_Sqrt)
-- NOT PRINTED: function 74 (math_archCeil)
-- NOT PRINTED: function 76 (math_archFloor)
-- NOT PRINTED: function 81 (math_IsNaN)
-- NOT PRINTED: function 84 (math_Abs)
-- NOT PRINTED: function 82 (math_IsInf)
-- NOT PRINTED: function 78 (math_archTrunc)
-- NOT PRINTED: function 85 (math_Copysign)
-- NOT PRINTED: function 79 (math_trunc)
-- NOT PRINTED: function 61 (math_Trunc)
-- NOT PRINTED: function 83 (math_Modf)
-- NOT PRINTED: function 77 (math_floor)
-- NOT PRINTED: function 60 (math_Floor)
-- NOT PRINTED: function 75 (math_ceil)
-- NOT PRINTED: function 59 (math_Ceil)
-- NOT PRINTED: function 62 (math_RoundToEven)
-- NOT PRINTED: function 30 (br_Un)
-- NOT PRINTED: function 12 (bl_FloatsAll)
-- NOT PRINTED: function 13 (bl_FloatsOne)
-- NOT PRINTED: function 14 (bl_FloatsRoots)
-- NOT PRINTED: function 15 (bl_FloatsWhole)
end Go.Proofs.Ytjfmomogidgbpaa.PFl
namespace Go.Proofs.Ytjfmomogidgbpaa.Ref
set_option linter.unusedVariables false
set_option linter.unusedSimpArgs false
open Go.RowKit Go.Proofs.YtjfmomogidgbpaaW.PrintWords Go.Proofs.Ytjfmomogidgbpaa.Fl
end Go.Proofs.Ytjfmomogidgbpaa.Ref
namespace Go.Proofs.Ytjfmomogidgbpaa.PFl
open Go.RowKit Go.Proofs.YtjfmomogidgbpaaW.PrintWords Go.Proofs.Ytjfmomogidgbpaa.Fl Go.Proofs.Ytjfmomogidgbpaa.Ref
def br_Kind.f (a0 : Int) (a1 : Int) : Option Int := some (kindF a0 a1)
theorem br_Kind.calls (a0 : Int) (a1 : Int) (r : Int) (w : World) (h : br_Kind.f a0 a1 = some r) :
    Calls Try.prog 25 #[.int .i64 a0, .int .u64 a1] w fun e w' => e = .returned (.int .i64 r) ∧ Drawn0 w w' := by
  obtain rfl := Option.some.inj h
  by_cases c : a0 = 32 ∨ a0 = 64
  · exact kind_right a0 a1 w c
  · rw [show kindF a0 a1 = 0 from by unfold kindF; rw [if_pos (by omega)]]
    exact kind_wrong a0 a1 w (by omega) (by omega)
def br_Bin.f (a0 : Int) (a1 : Int) (a2 : Int) (a3 : Int) : Option (Int × Int) :=
  if 0 ≤ a2 ∧ a2 < 18446744073709551616 ∧ 0 ≤ a3 ∧ a3 < 18446744073709551616 then some (binF a0 a1 a2 a3) else none
def br_Un.f (a0 : Int) (a1 : Int) (a2 : Int) : Option (Int × Int) :=
  if 0 ≤ a2 ∧ a2 < 18446744073709551616 then some (unF a0 a1 a2) else none
def br_Rel.f (a0 : Int) (a1 : Int) (a2 : Int) (a3 : Int) : Option (Bool × Int) := some (relF a0 a1 a2 a3)
end Go.Proofs.Ytjfmomogidgbpaa.PFl
namespace Go.Proofs.Ytjfmomogidgbpaa.PFm
open Go.RowKit Go.Proofs.Ytjfmomogidgbpaa.PFl Go.Proofs.YtjfmomogidgbpaaW.PrintWords Go.Proofs.YtjfmomogidgbpaaW.PrintLast Go.Proofs.YtjfmomogidgbpaaW.PrintMore
attribute [local go_sem] max2_int min2_int max_two min_two max_three min_three max_four min_four
set_option linter.unusedVariables false
set_option linter.unusedSimpArgs false
def errW : Option Int → Value
  | none => .nilIface
  | some c => .iface 0 (.int .i64 c)
theorem errW_none : errW none = .nilIface := rfl
theorem errW_some (c : Int) : errW (some c) = .iface 0 (.int .i64 c) := rfl
-- the values' own types
end Go.Proofs.Ytjfmomogidgbpaa.PFm
namespace Go.Proofs.Ytjfmomogidgbpaa.PFm
open Go.RowKit Go.Proofs.Ytjfmomogidgbpaa.PFl Go.Proofs.YtjfmomogidgbpaaW.PrintWords Go.Proofs.YtjfmomogidgbpaaW.PrintLast Go.Proofs.YtjfmomogidgbpaaW.PrintMore
attribute [local go_sem] max2_int min2_int max_two min_two max_three min_three max_four min_four
set_option linter.unusedVariables false
set_option linter.unusedSimpArgs false
mutual
def bl_FloatsQuotients.l0 : Nat → Int → Int → Int → Option (Bool)
  | 0, _, _, _ => none
  | k + 1, x0, x1, x6 => if x6 ≤ 64 then (bl_FloatsQuotients.l1 k x0 x1 x6 4) else (some true)
def bl_FloatsQuotients.l1 : Nat → Int → Int → Int → Int → Option (Bool)
  | 0, _, _, _, _ => none
  | k + 1, x0, x1, x6, x7 => if x7 ≤ 4 then ((floats_Bin.f k x6 x7 x0 x1).bind fun bt255 => ((br_Bin.f x6 x7 x0 x1).bind fun bt257 => (if bt255.1 = bt257.1 then (if bt255.2 = bt257.2 then (bl_FloatsQuotients.l1 k x0 x1 x6 (wrap64 (x7 + 1))) else (some false)) else (some false)))) else (bl_FloatsQuotients.l0 k x0 x1 (wrap64 (x6 + 32)))
end
def bl_FloatsQuotients.f (k : Nat) (a0 : Int) (a1 : Int) : Option (Bool) := (bl_awake.f k).bind fun t254 => (if t254 = true then (bl_FloatsQuotients.l0 k a0 a1 32) else (some false))
theorem bl_FloatsQuotients.mono_l : ∀ k, (∀ y0 y1 y2, LeO (bl_FloatsQuotients.l0 k y0 y1 y2) (bl_FloatsQuotients.l0 (k + 1) y0 y1 y2)) ∧ (∀ y0 y1 y2 y3, LeO (bl_FloatsQuotients.l1 k y0 y1 y2 y3) (bl_FloatsQuotients.l1 (k + 1) y0 y1 y2 y3)) := by
  intro k
  induction k with
  | zero => exact ⟨fun _ _ _ r h => by simp [bl_FloatsQuotients.l0] at h, fun _ _ _ _ r h => by simp [bl_FloatsQuotients.l1] at h⟩
  | succ k ih =>
    obtain ⟨ih0, ih1⟩ := ih
    refine ⟨?_, ?_⟩
    · intro y0 y1 y2
      unfold bl_FloatsQuotients.l0
      repeat' first
      | (with_reducible exact ih0 _ _ _)
      | (with_reducible exact ih1 _ _ _ _)
      | (with_reducible exact bl_awake.mono _)
      | (with_reducible exact floats_Bin.mono _ _ _ _ _)
      | (with_reducible exact LeO.refl _)
      | (with_reducible exact LeO.none _)
      | (with_reducible refine LeO.ite ?_ ?_)
      | (with_reducible refine LeO.bind ?_ (fun _ => ?_))
      | exact ih0 _ _ _
      | exact ih1 _ _ _ _
      | exact bl_awake.mono _
      | exact floats_Bin.mono _ _ _ _ _
      | exact LeO.none _
      | refine LeO.ite ?_ ?_
      | refine LeO.bind ?_ (fun _ => ?_)
    · intro y0 y1 y2 y3
      unfold bl_FloatsQuotients.l1
      repeat' first
      | (with_reducible exact ih0 _ _ _)
      | (with_reducible exact ih1 _ _ _ _)
      | (with_reducible exact bl_awake.mono _)
      | (with_reducible exact floats_Bin.mono _ _ _ _ _)
      | (with_reducible exact LeO.refl _)
      | (with_reducible exact LeO.none _)
      | (with_reducible refine LeO.ite ?_ ?_)
      | (with_reducible refine LeO.bind ?_ (fun _ => ?_))
      | exact ih0 _ _ _
      | exact ih1 _ _ _ _
      | exact bl_awake.mono _
      | exact floats_Bin.mono _ _ _ _ _
      | exact LeO.none _
      | refine LeO.ite ?_ ?_
      | refine LeO.bind ?_ (fun _ => ?_)
theorem bl_FloatsQuotients.mono : ∀ a0 a1 k, LeO (bl_FloatsQuotients.f k a0 a1) (bl_FloatsQuotients.f (k + 1) a0 a1) := by
  intro a0 a1 k
  obtain ⟨ih0, ih1⟩ := bl_FloatsQuotients.mono_l k
  unfold bl_FloatsQuotients.f
  repeat' first
      | (with_reducible exact ih0 _ _ _)
      | (with_reducible exact ih1 _ _ _ _)
      | (with_reducible exact bl_awake.mono _)
      | (with_reducible exact floats_Bin.mono _ _ _ _ _)
      | (with_reducible exact LeO.refl _)
      | (with_reducible exact LeO.none _)
      | (with_reducible refine LeO.ite ?_ ?_)
      | (with_reducible refine LeO.bind ?_ (fun _ => ?_))
      | exact ih0 _ _ _
      | exact ih1 _ _ _ _
      | exact bl_awake.mono _
      | exact floats_Bin.mono _ _ _ _ _
      | exact LeO.none _
      | refine LeO.ite ?_ ?_
      | refine LeO.bind ?_ (fun _ => ?_)
/-- THE ONE PURE STATEMENT of bl_FloatsQuotients: yours. -/
def bl_FloatsQuotients.Pure : Prop := ∀ (a0 : Int) (a1 : Int), (Lit.int .u64 a0).wf = true → (Lit.int .u64 a1).wf = true → ∃ k, bl_FloatsQuotients.f k a0 a1 = some true
mutual
def bl_FloatsEnds.l0 : Nat → Int → Int → Int → Option (Bool)
  | 0, _, _, _ => none
  | k + 1, x0, x1, x6 => if x6 ≤ 64 then (bl_FloatsEnds.l1 k x0 x1 x6 5) else (some true)
def bl_FloatsEnds.l1 : Nat → Int → Int → Int → Int → Option (Bool)
  | 0, _, _, _, _ => none
  | k + 1, x0, x1, x6, x7 => if x7 ≤ 9 then ((floats_Bin.f k x6 x7 x0 x1).bind fun bt260 => ((br_Bin.f x6 x7 x0 x1).bind fun bt262 => (if bt260.1 = bt262.1 then (if bt260.2 = bt262.2 then (bl_FloatsEnds.l1 k x0 x1 x6 (wrap64 (x7 + 1))) else (some false)) else (some false)))) else (bl_FloatsEnds.l0 k x0 x1 (wrap64 (x6 + 32)))
end
def bl_FloatsEnds.f (k : Nat) (a0 : Int) (a1 : Int) : Option (Bool) := (bl_awake.f k).bind fun t259 => (if t259 = true then (bl_FloatsEnds.l0 k a0 a1 32) else (some false))
theorem bl_FloatsEnds.mono_l : ∀ k, (∀ y0 y1 y2, LeO (bl_FloatsEnds.l0 k y0 y1 y2) (bl_FloatsEnds.l0 (k + 1) y0 y1 y2)) ∧ (∀ y0 y1 y2 y3, LeO (bl_FloatsEnds.l1 k y0 y1 y2 y3) (bl_FloatsEnds.l1 (k + 1) y0 y1 y2 y3)) := by
  intro k
  induction k with
  | zero => exact ⟨fun _ _ _ r h => by simp [bl_FloatsEnds.l0] at h, fun _ _ _ _ r h => by simp [bl_FloatsEnds.l1] at h⟩
  | succ k ih =>
    obtain ⟨ih0, ih1⟩ := ih
    refine ⟨?_, ?_⟩
    · intro y0 y1 y2
      unfold bl_FloatsEnds.l0
      repeat' first
      | (with_reducible exact ih0 _ _ _)
      | (with_reducible exact ih1 _ _ _ _)
      | (with_reducible exact bl_awake.mono _)
      | (with_reducible exact floats_Bin.mono _ _ _ _ _)
      | (with_reducible exact LeO.refl _)
      | (with_reducible exact LeO.none _)
      | (with_reducible refine LeO.ite ?_ ?_)
      | (with_reducible refine LeO.bind ?_ (fun _ => ?_))
      | exact ih0 _ _ _
      | exact ih1 _ _ _ _
      | exact bl_awake.mono _
      | exact floats_Bin.mono _ _ _ _ _
      | exact LeO.none _
      | refine LeO.ite ?_ ?_
      | refine LeO.bind ?_ (fun _ => ?_)
    · intro y0 y1 y2 y3
      unfold bl_FloatsEnds.l1
      repeat' first
      | (with_reducible exact ih0 _ _ _)
      | (with_reducible exact ih1 _ _ _ _)
      | (with_reducible exact bl_awake.mono _)
      | (with_reducible exact floats_Bin.mono _ _ _ _ _)
      | (with_reducible exact LeO.refl _)
      | (with_reducible exact LeO.none _)
      | (with_reducible refine LeO.ite ?_ ?_)
      | (with_reducible refine LeO.bind ?_ (fun _ => ?_))
      | exact ih0 _ _ _
      | exact ih1 _ _ _ _
      | exact bl_awake.mono _
      | exact floats_Bin.mono _ _ _ _ _
      | exact LeO.none _
      | refine LeO.ite ?_ ?_
      | refine LeO.bind ?_ (fun _ => ?_)
theorem bl_FloatsEnds.mono : ∀ a0 a1 k, LeO (bl_FloatsEnds.f k a0 a1) (bl_FloatsEnds.f (k + 1) a0 a1) := by
  intro a0 a1 k
  obtain ⟨ih0, ih1⟩ := bl_FloatsEnds.mono_l k
  unfold bl_FloatsEnds.f
  repeat' first
      | (with_reducible exact ih0 _ _ _)
      | (with_reducible exact ih1 _ _ _ _)
      | (with_reducible exact bl_awake.mono _)
      | (with_reducible exact floats_Bin.mono _ _ _ _ _)
      | (with_reducible exact LeO.refl _)
      | (with_reducible exact LeO.none _)
      | (with_reducible refine LeO.ite ?_ ?_)
      | (with_reducible refine LeO.bind ?_ (fun _ => ?_))
      | exact ih0 _ _ _
      | exact ih1 _ _ _ _
      | exact bl_awake.mono _
      | exact floats_Bin.mono _ _ _ _ _
      | exact LeO.none _
      | refine LeO.ite ?_ ?_
      | refine LeO.bind ?_ (fun _ => ?_)
/-- THE ONE PURE STATEMENT of bl_FloatsEnds: yours. -/
def bl_FloatsEnds.Pure : Prop := ∀ (a0 : Int) (a1 : Int), (Lit.int .u64 a0).wf = true → (Lit.int .u64 a1).wf = true → ∃ k, bl_FloatsEnds.f k a0 a1 = some true
-- given: function 28 (floats_Parts)
def br_Parts.j0 : Nat → Int → Int → Bool → Option (Bool × Int × Int × Int)
  | 0, _, _, _ => none
  | k + 1, x0, x1, x22 => if x22 = true then (some (false, 0, 0, 1)) else ((br_cut.f x0 x1).bind fun t265 => ((br_sign.f x0).bind fun t266 => (if x0 = 64 then (if t266 = 0 then (none) else (if (IntKind.u64.wrap (Int.tdiv (Int.tmod t265 t266) 4503599627370496)) = 0 then (some (decide (t265 ≥ t266), Int.tmod t265 4503599627370496, (-1074), 0)) else (some (decide (t265 ≥ t266), IntKind.u64.wrap ((Int.tmod t265 4503599627370496) + 4503599627370496), wrap64 ((wrap64 ((-1074) + (wrap64 (IntKind.u64.wrap (Int.tdiv (Int.tmod t265 t266) 4503599627370496))))) - 1), 0)))) else (if t266 = 0 then (none) else (if (IntKind.u64.wrap (Int.tdiv (Int.tmod t265 t266) 8388608)) = 0 then (some (decide (t265 ≥ t266), Int.tmod t265 8388608, (-149), 0)) else (some (decide (t265 ≥ t266), IntKind.u64.wrap ((Int.tmod t265 8388608) + 8388608), wrap64 ((wrap64 ((-149) + (wrap64 (IntKind.u64.wrap (Int.tdiv (Int.tmod t265 t266) 8388608))))) - 1), 0)))))))
def br_Parts.f (k : Nat) (a0 : Int) (a1 : Int) : Option (Bool × Int × Int × Int) := (br_Kind.f a0 a1).bind fun t264 => (if t264 = 1 then (br_Parts.j0 k a0 a1 false) else (br_Parts.j0 k a0 a1 (t264 != 2)))
theorem br_Parts.mono_l : ∀ k, (∀ y0 y1 y2, LeO (br_Parts.j0 k y0 y1 y2) (br_Parts.j0 (k + 1) y0 y1 y2)) := by
  intro k
  induction k with
  | zero => exact fun _ _ _ r h => by simp [br_Parts.j0] at h
  | succ k ih =>
    have ih0 := ih
    · intro y0 y1 y2
      unfold br_Parts.j0
      repeat' first
      | (with_reducible exact ih0 _ _ _)
      | (with_reducible exact LeO.refl _)
      | (with_reducible exact LeO.none _)
      | (with_reducible refine LeO.ite ?_ ?_)
      | (with_reducible refine LeO.bind ?_ (fun _ => ?_))
      | exact ih0 _ _ _
      | exact LeO.none _
      | refine LeO.ite ?_ ?_
      | refine LeO.bind ?_ (fun _ => ?_)
theorem br_Parts.mono : ∀ a0 a1 k, LeO (br_Parts.f k a0 a1) (br_Parts.f (k + 1) a0 a1) := by
  intro a0 a1 k
  have ih0 := br_Parts.mono_l k
  unfold br_Parts.f
  repeat' first
      | (with_reducible exact ih0 _ _ _)
      | (with_reducible exact LeO.refl _)
      | (with_reducible exact LeO.none _)
      | (with_reducible refine LeO.ite ?_ ?_)
      | (with_reducible refine LeO.bind ?_ (fun _ => ?_))
      | exact ih0 _ _ _
      | exact LeO.none _
      | refine LeO.ite ?_ ?_
      | refine LeO.bind ?_ (fun _ => ?_)
set_option maxHeartbeats 8000000 in
set_option maxRecDepth 100000 in
theorem br_Parts.calls (k : Nat) (a0 : Int) (a1 : Int) (r1 : Bool) (r2 : Int) (r3 : Int) (r4 : Int) (w : World) (h : br_Parts.f k a0 a1 = some (r1, r2, r3, r4)) :
    Calls Try.prog 29 #[.int .i64 a0, .int .u64 a1] w fun e w' => e = .returned (.tuple #[.bool r1, .int .u64 r2, .int .i64 r3, .int .i64 r4]) ∧ Drawn0 w w' := by
  have H : ((br_Kind.f a0 a1).bind fun t264 => (if t264 = 1 then (br_Parts.j0 k a0 a1 false) else (br_Parts.j0 k a0 a1 (t264 != 2)))) = some (r1, r2, r3, r4) := h
  clear h
  replace H := Option.bind_eq_some_iff.mp H
  obtain ⟨t264, A30, H⟩ := H
  replace H : (if t264 = 1 then (br_Parts.j0 k a0 a1 false) else (br_Parts.j0 k a0 a1 (t264 != 2))) = some (r1, r2, r3, r4) := H
  have A3 := As0.mk A30
  clear A30
  have HC4 := As0.mk H
  clear H
  go_enter Try.func29, Try.ntmps29
  go_upto_region 2 with (first | ((with_reducible refine gcl (f := 25) rfl ?_); refine goesL_ (some 16) rfl rfl Try.func25 (by kernel_rfl) rfl #[.int .i64 a0, .int .u64 a1] rfl (by (try simp only [List.map_toArray, List.map_cons, List.map_nil]); first | done | rfl) ?_; (with_reducible refine (br_Kind.calls a0 a1 t264 _ A3.out).mono ?_); rintro e w' ⟨rfl, ⟨nd, rfl⟩⟩; refine ⟨_, rfl, ?_⟩))
  (try simp only [Act.put, List.setIfInBounds_toArray, List.set_cons_zero, List.set_cons_succ])
  go_cut [22] (fun v22 wc => ∃ (kq : Nat) (x22_3 : Bool), v22 = .bool x22_3 ∧ As0 (br_Parts.j0 kq a0 a1 x22_3 = some (r1, r2, r3, r4)) ∧ As0 (kq ≤ k) ∧ Drawn0 w wc)
  case first =>
    have H := HC4.out
    clear HC4
    by_cases c5 : t264 = 1
    · rw [if_pos c5] at H
      have c5b0 : (t264 == 1) = true := beq_iff_eq.mpr c5
      have c5b1 : (t264 != 1) = false := bne_eq_false_iff_eq.mpr c5
      clear c5
      (first | rw [c5b0] | (simp only [i64_w, i32_w]; rw [c5b0]) | skip)
      have H' := As0.mk H
      clear H
      go_wp2
      go_meet
      case rel => exact ⟨_, (false), (by first | rfl | (simp; done) | (simp [*]; done)), H', ⟨by first | omega | exact Nat.le_refl _⟩, by repeat (first | exact Drawn0.refl _ | apply Drawn0.step)⟩
    · rw [if_neg c5] at H
      have c5b0 : (t264 == 1) = false := beq_eq_false_iff_ne.mpr c5
      have c5b1 : (t264 != 1) = true := bne_iff_ne.mpr c5
      (first | rw [c5b0] | (simp only [i64_w, i32_w]; rw [c5b0]) | skip)
      have H' := As0.mk H
      clear H
      go_wp2
      go_meet
      case rel => exact ⟨_, ((t264 != 2)), (by first | rfl | (simp; done) | (simp [*]; done)), H', ⟨by first | omega | exact Nat.le_refl _⟩, by repeat (first | exact Drawn0.refl _ | apply Drawn0.step)⟩
  case rest =>
    clear HC4
    try clear c2
    try clear p2
    try clear c5
    try clear c5b0
    try clear c5b1
    obtain ⟨kq, x22_3, rfl, HA, HJ3, ⟨mc3, rfl⟩⟩ := hcut
    cases kq with
    | zero => exact absurd HA.out (by simp [br_Parts.j0])
    | succ kj3 =>
      have H := HA.out
      clear HA
      simp only [br_Parts.j0] at H
      by_cases c6 : x22_3 = true
      · subst c6
        have H1 : (some (false, 0, 0, 1)) = some (r1, r2, r3, r4) := by rw [if_pos rfl] at H; exact H
        clear H
        have H := H1
        clear H1
        simp only [Option.some.injEq, Prod.mk.injEq] at H
        obtain ⟨rfl, rfl, rfl, rfl⟩ := H
        go_wp2
        refine bodyPost_ret (results_list (rs := [.tmp 4, .tmp 5, .tmp 6, .tmp 7]) rfl (by simp) (.tmp (.tmp (.tmp (.tmp .nil))))) rfl ?_
        exact ⟨by first | rfl | (simp; done) | (simp [*]; done), by repeat (first | exact Drawn0.refl _ | apply Drawn0.step)⟩
      · replace c6 := Bool.eq_false_iff.mpr c6
        subst c6
        have H1 : ((br_cut.f a0 a1).bind fun t265 => ((br_sign.f a0).bind fun t266 => (if a0 = 64 then (if t266 = 0 then (none) else (if (IntKind.u64.wrap (Int.tdiv (Int.tmod t265 t266) 4503599627370496)) = 0 then (some (decide (t265 ≥ t266), Int.tmod t265 4503599627370496, (-1074), 0)) else (some (decide (t265 ≥ t266), IntKind.u64.wrap ((Int.tmod t265 4503599627370496) + 4503599627370496), wrap64 ((wrap64 ((-1074) + (wrap64 (IntKind.u64.wrap (Int.tdiv (Int.tmod t265 t266) 4503599627370496))))) - 1), 0)))) else (if t266 = 0 then (none) else (if (IntKind.u64.wrap (Int.tdiv (Int.tmod t265 t266) 8388608)) = 0 then (some (decide (t265 ≥ t266), Int.tmod t265 8388608, (-149), 0)) else (some (decide (t265 ≥ t266), IntKind.u64.wrap ((Int.tmod t265 8388608) + 8388608), wrap64 ((wrap64 ((-149) + (wrap64 (IntKind.u64.wrap (Int.tdiv (Int.tmod t265 t266) 8388608))))) - 1), 0))))))) = some (r1, r2, r3, r4) := by rw [if_neg (show ¬ (false = true) by decide)] at H; exact H
        clear H
        have H := H1
        clear H1
        replace H := Option.bind_eq_some_iff.mp H
        obtain ⟨t265, A70, H⟩ := H
        replace H : ((br_sign.f a0).bind fun t266 => (if a0 = 64 then (if t266 = 0 then (none) else (if (IntKind.u64.wrap (Int.tdiv (Int.tmod t265 t266) 4503599627370496)) = 0 then (some (decide (t265 ≥ t266), Int.tmod t265 4503599627370496, (-1074), 0)) else (some (decide (t265 ≥ t266), IntKind.u64.wrap ((Int.tmod t265 4503599627370496) + 4503599627370496), wrap64 ((wrap64 ((-1074) + (wrap64 (IntKind.u64.wrap (Int.tdiv (Int.tmod t265 t266) 4503599627370496))))) - 1), 0)))) else (if t266 = 0 then (none) else (if (IntKind.u64.wrap (Int.tdiv (Int.tmod t265 t266) 8388608)) = 0 then (some (decide (t265 ≥ t266), Int.tmod t265 8388608, (-149), 0)) else (some (decide (t265 ≥ t266), IntKind.u64.wrap ((Int.tmod t265 8388608) + 8388608), wrap64 ((wrap64 ((-149) + (wrap64 (IntKind.u64.wrap (Int.tdiv (Int.tmod t265 t266) 8388608))))) - 1), 0)))))) = some (r1, r2, r3, r4) := H
        have A7 := As0.mk A70
        clear A70
        replace H := Option.bind_eq_some_iff.mp H
        obtain ⟨t266, A80, H⟩ := H
        replace H : (if a0 = 64 then (if t266 = 0 then (none) else (if (IntKind.u64.wrap (Int.tdiv (Int.tmod t265 t266) 4503599627370496)) = 0 then (some (decide (t265 ≥ t266), Int.tmod t265 4503599627370496, (-1074), 0)) else (some (decide (t265 ≥ t266), IntKind.u64.wrap ((Int.tmod t265 4503599627370496) + 4503599627370496), wrap64 ((wrap64 ((-1074) + (wrap64 (IntKind.u64.wrap (Int.tdiv (Int.tmod t265 t266) 4503599627370496))))) - 1), 0)))) else (if t266 = 0 then (none) else (if (IntKind.u64.wrap (Int.tdiv (Int.tmod t265 t266) 8388608)) = 0 then (some (decide (t265 ≥ t266), Int.tmod t265 8388608, (-149), 0)) else (some (decide (t265 ≥ t266), IntKind.u64.wrap ((Int.tmod t265 8388608) + 8388608), wrap64 ((wrap64 ((-149) + (wrap64 (IntKind.u64.wrap (Int.tdiv (Int.tmod t265 t266) 8388608))))) - 1), 0))))) = some (r1, r2, r3, r4) := H
        have A8 := As0.mk A80
        clear A80
        by_cases c9 : a0 = 64
        · rw [if_pos c9] at H
          have c9b0 : (a0 == 64) = true := beq_iff_eq.mpr c9
          have c9b1 : (a0 != 64) = false := bne_eq_false_iff_eq.mpr c9
          clear c9
          by_cases c10 : t266 = 0
          · rw [if_pos c10] at H
            exact absurd H (by simp)
          · rw [if_neg c10] at H
            have c10b0 : (t266 == 0) = false := beq_eq_false_iff_ne.mpr c10
            have c10b1 : (t266 != 0) = true := bne_iff_ne.mpr c10
            by_cases c11 : (IntKind.u64.wrap (Int.tdiv (Int.tmod t265 t266) 4503599627370496)) = 0
            · rw [if_pos c11] at H
              have c11b0 : ((IntKind.u64.wrap (Int.tdiv (Int.tmod t265 t266) 4503599627370496)) == 0) = true := beq_iff_eq.mpr c11
              have c11b1 : ((IntKind.u64.wrap (Int.tdiv (Int.tmod t265 t266) 4503599627370496)) != 0) = false := bne_eq_false_iff_eq.mpr c11
              clear c11
              simp only [Option.some.injEq, Prod.mk.injEq] at H
              obtain ⟨rfl, rfl, rfl, rfl⟩ := H
              go_wp2_with (first | ((with_reducible refine gcl (f := 52) rfl ?_); refine goesL_ (some 25) rfl rfl Try.func52 (by kernel_rfl) rfl #[.int .i64 a0, .int .u64 a1] rfl (by (try simp only [List.map_toArray, List.map_cons, List.map_nil]); first | done | rfl) ?_; (with_reducible refine (br_cut.calls a0 a1 t265 _ A7.out).mono ?_); rintro e w' ⟨rfl, ⟨nd, rfl⟩⟩; refine ⟨_, rfl, ?_⟩) | ((with_reducible refine gcl (f := 35) rfl ?_); refine goesL_ (some 27) rfl rfl Try.func35 (by kernel_rfl) rfl #[.int .i64 a0] rfl (by (try simp only [List.map_toArray, List.map_cons, List.map_nil]); first | done | rfl) ?_; (with_reducible refine (br_sign.calls a0 t266 _ A8.out).mono ?_); rintro e w' ⟨rfl, ⟨nd, rfl⟩⟩; refine ⟨_, rfl, ?_⟩))
              refine bodyPost_ret (results_list (rs := [.tmp 4, .tmp 5, .tmp 6, .tmp 7]) rfl (by simp) (.tmp (.tmp (.tmp (.tmp .nil))))) rfl ?_
              exact ⟨by first | rfl | (simp; done) | (simp [*]; done), by repeat (first | exact Drawn0.refl _ | apply Drawn0.step)⟩
            · rw [if_neg c11] at H
              have c11b0 : ((IntKind.u64.wrap (Int.tdiv (Int.tmod t265 t266) 4503599627370496)) == 0) = false := beq_eq_false_iff_ne.mpr c11
              have c11b1 : ((IntKind.u64.wrap (Int.tdiv (Int.tmod t265 t266) 4503599627370496)) != 0) = true := bne_iff_ne.mpr c11
              simp only [Option.some.injEq, Prod.mk.injEq] at H
              obtain ⟨rfl, rfl, rfl, rfl⟩ := H
              go_wp2_with (first | ((with_reducible refine gcl (f := 52) rfl ?_); refine goesL_ (some 25) rfl rfl Try.func52 (by kernel_rfl) rfl #[.int .i64 a0, .int .u64 a1] rfl (by (try simp only [List.map_toArray, List.map_cons, List.map_nil]); first | done | rfl) ?_; (with_reducible refine (br_cut.calls a0 a1 t265 _ A7.out).mono ?_); rintro e w' ⟨rfl, ⟨nd, rfl⟩⟩; refine ⟨_, rfl, ?_⟩) | ((with_reducible refine gcl (f := 35) rfl ?_); refine goesL_ (some 27) rfl rfl Try.func35 (by kernel_rfl) rfl #[.int .i64 a0] rfl (by (try simp only [List.map_toArray, List.map_cons, List.map_nil]); first | done | rfl) ?_; (with_reducible refine (br_sign.calls a0 t266 _ A8.out).mono ?_); rintro e w' ⟨rfl, ⟨nd, rfl⟩⟩; refine ⟨_, rfl, ?_⟩))
              refine bodyPost_ret (results_list (rs := [.tmp 4, .tmp 5, .tmp 6, .tmp 7]) rfl (by simp) (.tmp (.tmp (.tmp (.tmp .nil))))) rfl ?_
              exact ⟨by first | rfl | (simp; done) | (simp [*]; done), by repeat (first | exact Drawn0.refl _ | apply Drawn0.step)⟩
        · rw [if_neg c9] at H
          have c9b0 : (a0 == 64) = false := beq_eq_false_iff_ne.mpr c9
          have c9b1 : (a0 != 64) = true := bne_iff_ne.mpr c9
          by_cases c12 : t266 = 0
          · rw [if_pos c12] at H
            exact absurd H (by simp)
          · rw [if_neg c12] at H
            have c12b0 : (t266 == 0) = false := beq_eq_false_iff_ne.mpr c12
            have c12b1 : (t266 != 0) = true := bne_iff_ne.mpr c12
            by_cases c13 : (IntKind.u64.wrap (Int.tdiv (Int.tmod t265 t266) 8388608)) = 0
            · rw [if_pos c13] at H
              have c13b0 : ((IntKind.u64.wrap (Int.tdiv (Int.tmod t265 t266) 8388608)) == 0) = true := beq_iff_eq.mpr c13
              have c13b1 : ((IntKind.u64.wrap (Int.tdiv (Int.tmod t265 t266) 8388608)) != 0) = false := bne_eq_false_iff_eq.mpr c13
              clear c13
              simp only [Option.some.injEq, Prod.mk.injEq] at H
              obtain ⟨rfl, rfl, rfl, rfl⟩ := H
              go_wp2_with (first | ((with_reducible refine gcl (f := 52) rfl ?_); refine goesL_ (some 25) rfl rfl Try.func52 (by kernel_rfl) rfl #[.int .i64 a0, .int .u64 a1] rfl (by (try simp only [List.map_toArray, List.map_cons, List.map_nil]); first | done | rfl) ?_; (with_reducible refine (br_cut.calls a0 a1 t265 _ A7.out).mono ?_); rintro e w' ⟨rfl, ⟨nd, rfl⟩⟩; refine ⟨_, rfl, ?_⟩) | ((with_reducible refine gcl (f := 35) rfl ?_); refine goesL_ (some 27) rfl rfl Try.func35 (by kernel_rfl) rfl #[.int .i64 a0] rfl (by (try simp only [List.map_toArray, List.map_cons, List.map_nil]); first | done | rfl) ?_; (with_reducible refine (br_sign.calls a0 t266 _ A8.out).mono ?_); rintro e w' ⟨rfl, ⟨nd, rfl⟩⟩; refine ⟨_, rfl, ?_⟩))
              refine bodyPost_ret (results_list (rs := [.tmp 4, .tmp 5, .tmp 6, .tmp 7]) rfl (by simp) (.tmp (.tmp (.tmp (.tmp .nil))))) rfl ?_
              exact ⟨by first | rfl | (simp; done) | (simp [*]; done), by repeat (first | exact Drawn0.refl _ | apply Drawn0.step)⟩
            · rw [if_neg c13] at H
              have c13b0 : ((IntKind.u64.wrap (Int.tdiv (Int.tmod t265 t266) 8388608)) == 0) = false := beq_eq_false_iff_ne.mpr c13
              have c13b1 : ((IntKind.u64.wrap (Int.tdiv (Int.tmod t265 t266) 8388608)) != 0) = true := bne_iff_ne.mpr c13
              simp only [Option.some.injEq, Prod.mk.injEq] at H
              obtain ⟨rfl, rfl, rfl, rfl⟩ := H
              go_wp2_with (first | ((with_reducible refine gcl (f := 52) rfl ?_); refine goesL_ (some 25) rfl rfl Try.func52 (by kernel_rfl) rfl #[.int .i64 a0, .int .u64 a1] rfl (by (try simp only [List.map_toArray, List.map_cons, List.map_nil]); first | done | rfl) ?_; (with_reducible refine (br_cut.calls a0 a1 t265 _ A7.out).mono ?_); rintro e w' ⟨rfl, ⟨nd, rfl⟩⟩; refine ⟨_, rfl, ?_⟩) | ((with_reducible refine gcl (f := 35) rfl ?_); refine goesL_ (some 27) rfl rfl Try.func35 (by kernel_rfl) rfl #[.int .i64 a0] rfl (by (try simp only [List.map_toArray, List.map_cons, List.map_nil]); first | done | rfl) ?_; (with_reducible refine (br_sign.calls a0 t266 _ A8.out).mono ?_); rintro e w' ⟨rfl, ⟨nd, rfl⟩⟩; refine ⟨_, rfl, ?_⟩))
              refine bodyPost_ret (results_list (rs := [.tmp 4, .tmp 5, .tmp 6, .tmp 7]) rfl (by simp) (.tmp (.tmp (.tmp (.tmp .nil))))) rfl ?_
              exact ⟨by first | rfl | (simp; done) | (simp [*]; done), by repeat (first | exact Drawn0.refl _ | apply Drawn0.step)⟩
def bl_FloatsParts.j0 : Nat → Int → Int → Bool → Int → Int → Int → Bool → Option (Bool)
  | 0, _, _, _, _, _, _, _ => none
  | k + 1, x0, x1, x6, x7, x8, x9, x52 => if x52 = true then (some false) else (if x9 = 0 then ((floats_Round.f k x0 x6 x7 x8 false).bind fun bt276 => (if bt276.2 = 0 then (if bt276.1 = x1 then (some true) else (if x0 = 32 then (some (bt276.1 == (Go.bits .and .u64 x1 4294967295))) else (some false))) else (some false))) else (some true))
def bl_FloatsParts.f (k : Nat) (a0 : Int) (a1 : Int) : Option (Bool) := (bl_awake.f k).bind fun t267 => (if t267 = true then ((floats_Parts.f k a0 a1).bind fun bt268 => ((br_Parts.f k a0 a1).bind fun bt272 => (if (bt268.1 != bt272.1) = true then (bl_FloatsParts.j0 k a0 a1 bt268.1 bt268.2.1 bt268.2.2.1 bt268.2.2.2 true) else (if bt268.2.1 = bt272.2.1 then (if bt268.2.2.1 = bt272.2.2.1 then (bl_FloatsParts.j0 k a0 a1 bt268.1 bt268.2.1 bt268.2.2.1 bt268.2.2.2 (bt268.2.2.2 != bt272.2.2.2)) else (bl_FloatsParts.j0 k a0 a1 bt268.1 bt268.2.1 bt268.2.2.1 bt268.2.2.2 true)) else (bl_FloatsParts.j0 k a0 a1 bt268.1 bt268.2.1 bt268.2.2.1 bt268.2.2.2 true))))) else (some false))
theorem bl_FloatsParts.mono_l : ∀ k, (∀ y0 y1 y2 y3 y4 y5 y6, LeO (bl_FloatsParts.j0 k y0 y1 y2 y3 y4 y5 y6) (bl_FloatsParts.j0 (k + 1) y0 y1 y2 y3 y4 y5 y6)) := by
  intro k
  induction k with
  | zero => exact fun _ _ _ _ _ _ _ r h => by simp [bl_FloatsParts.j0] at h
  | succ k ih =>
    have ih0 := ih
    · intro y0 y1 y2 y3 y4 y5 y6
      unfold bl_FloatsParts.j0
      repeat' first
      | (with_reducible exact ih0 _ _ _ _ _ _ _)
      | (with_reducible exact bl_awake.mono _)
      | (with_reducible exact br_Parts.mono _ _ _)
      | (with_reducible exact floats_Parts.mono _ _ _)
      | (with_reducible exact floats_Round.mono _ _ _ _ _ _)
      | (with_reducible exact LeO.refl _)
      | (with_reducible exact LeO.none _)
      | (with_reducible refine LeO.ite ?_ ?_)
      | (with_reducible refine LeO.bind ?_ (fun _ => ?_))
      | exact ih0 _ _ _ _ _ _ _
      | exact bl_awake.mono _
      | exact br_Parts.mono _ _ _
      | exact floats_Parts.mono _ _ _
      | exact floats_Round.mono _ _ _ _ _ _
      | exact LeO.none _
      | refine LeO.ite ?_ ?_
      | refine LeO.bind ?_ (fun _ => ?_)
theorem bl_FloatsParts.mono : ∀ a0 a1 k, LeO (bl_FloatsParts.f k a0 a1) (bl_FloatsParts.f (k + 1) a0 a1) := by
  intro a0 a1 k
  have ih0 := bl_FloatsParts.mono_l k
  unfold bl_FloatsParts.f
  repeat' first
      | (with_reducible exact ih0 _ _ _ _ _ _ _)
      | (with_reducible exact bl_awake.mono _)
      | (with_reducible exact br_Parts.mono _ _ _)
      | (with_reducible exact floats_Parts.mono _ _ _)
      | (with_reducible exact floats_Round.mono _ _ _ _ _ _)
      | (with_reducible exact LeO.refl _)
      | (with_reducible exact LeO.none _)
      | (with_reducible refine LeO.ite ?_ ?_)
      | (with_reducible refine LeO.bind ?_ (fun _ => ?_))
      | exact ih0 _ _ _ _ _ _ _
      | exact bl_awake.mono _
      | exact br_Parts.mono _ _ _
      | exact floats_Parts.mono _ _ _
      | exact floats_Round.mono _ _ _ _ _ _
      | exact LeO.none _
      | refine LeO.ite ?_ ?_
      | refine LeO.bind ?_ (fun _ => ?_)
set_option maxHeartbeats 8000000 in
set_option maxRecDepth 100000 in
theorem bl_FloatsParts.calls (k : Nat) (a0 : Int) (a1 : Int) (r : Bool) (w : World) (h : bl_FloatsParts.f k a0 a1 = some r) :
    Calls Try.prog 11 #[.int .i64 a0, .int .u64 a1] w fun e w' => e = .returned (.bool r) ∧ Below w.heap.size w w' := by
  have HB := As0.mk (Below.refl w.heap.size w)
  have H : ((bl_awake.f k).bind fun t267 => (if t267 = true then ((floats_Parts.f k a0 a1).bind fun bt268 => ((br_Parts.f k a0 a1).bind fun bt272 => (if (bt268.1 != bt272.1) = true then (bl_FloatsParts.j0 k a0 a1 bt268.1 bt268.2.1 bt268.2.2.1 bt268.2.2.2 true) else (if bt268.2.1 = bt272.2.1 then (if bt268.2.2.1 = bt272.2.2.1 then (bl_FloatsParts.j0 k a0 a1 bt268.1 bt268.2.1 bt268.2.2.1 bt268.2.2.2 (bt268.2.2.2 != bt272.2.2.2)) else (bl_FloatsParts.j0 k a0 a1 bt268.1 bt268.2.1 bt268.2.2.1 bt268.2.2.2 true)) else (bl_FloatsParts.j0 k a0 a1 bt268.1 bt268.2.1 bt268.2.2.1 bt268.2.2.2 true))))) else (some false))) = some r := h
  clear h
  replace H := Option.bind_eq_some_iff.mp H
  obtain ⟨t267, A30, H⟩ := H
  replace H : (if t267 = true then ((floats_Parts.f k a0 a1).bind fun bt268 => ((br_Parts.f k a0 a1).bind fun bt272 => (if (bt268.1 != bt272.1) = true then (bl_FloatsParts.j0 k a0 a1 bt268.1 bt268.2.1 bt268.2.2.1 bt268.2.2.2 true) else (if bt268.2.1 = bt272.2.1 then (if bt268.2.2.1 = bt272.2.2.1 then (bl_FloatsParts.j0 k a0 a1 bt268.1 bt268.2.1 bt268.2.2.1 bt268.2.2.2 (bt268.2.2.2 != bt272.2.2.2)) else (bl_FloatsParts.j0 k a0 a1 bt268.1 bt268.2.1 bt268.2.2.1 bt268.2.2.2 true)) else (bl_FloatsParts.j0 k a0 a1 bt268.1 bt268.2.1 bt268.2.2.1 bt268.2.2.2 true))))) else (some false)) = some r := H
  have A3 := As0.mk A30
  clear A30
  by_cases c4 : t267 = true
  · subst c4
    have H1 : ((floats_Parts.f k a0 a1).bind fun bt268 => ((br_Parts.f k a0 a1).bind fun bt272 => (if (bt268.1 != bt272.1) = true then (bl_FloatsParts.j0 k a0 a1 bt268.1 bt268.2.1 bt268.2.2.1 bt268.2.2.2 true) else (if bt268.2.1 = bt272.2.1 then (if bt268.2.2.1 = bt272.2.2.1 then (bl_FloatsParts.j0 k a0 a1 bt268.1 bt268.2.1 bt268.2.2.1 bt268.2.2.2 (bt268.2.2.2 != bt272.2.2.2)) else (bl_FloatsParts.j0 k a0 a1 bt268.1 bt268.2.1 bt268.2.2.1 bt268.2.2.2 true)) else (bl_FloatsParts.j0 k a0 a1 bt268.1 bt268.2.1 bt268.2.2.1 bt268.2.2.2 true))))) = some r := by rw [if_pos rfl] at H; exact H
    clear H
    have H := H1
    clear H1
    replace H := Option.bind_eq_some_iff.mp H
    obtain ⟨⟨t268, t269, t270, t271⟩, A50, H⟩ := H
    replace H : ((br_Parts.f k a0 a1).bind fun bt272 => (if (t268 != bt272.1) = true then (bl_FloatsParts.j0 k a0 a1 t268 t269 t270 t271 true) else (if t269 = bt272.2.1 then (if t270 = bt272.2.2.1 then (bl_FloatsParts.j0 k a0 a1 t268 t269 t270 t271 (t271 != bt272.2.2.2)) else (bl_FloatsParts.j0 k a0 a1 t268 t269 t270 t271 true)) else (bl_FloatsParts.j0 k a0 a1 t268 t269 t270 t271 true)))) = some r := H
    have A5 := As0.mk A50
    clear A50
    replace H := Option.bind_eq_some_iff.mp H
    obtain ⟨⟨t272, t273, t274, t275⟩, A60, H⟩ := H
    replace H : (if (t268 != t272) = true then (bl_FloatsParts.j0 k a0 a1 t268 t269 t270 t271 true) else (if t269 = t273 then (if t270 = t274 then (bl_FloatsParts.j0 k a0 a1 t268 t269 t270 t271 (t271 != t275)) else (bl_FloatsParts.j0 k a0 a1 t268 t269 t270 t271 true)) else (bl_FloatsParts.j0 k a0 a1 t268 t269 t270 t271 true))) = some r := H
    have A6 := As0.mk A60
    clear A60
    have HC7 := As0.mk H
    clear H
    go_enter Try.func11, Try.ntmps11
    go_upto_region 6 with (first | ((with_reducible refine gcl (f := 16) rfl ?_); refine goesL_ (some 16) rfl rfl Try.func16 (by kernel_rfl) rfl #[] rfl (by (try simp only [List.map_toArray, List.map_cons, List.map_nil]); first | done | rfl) ?_; (with_reducible refine (bl_awake.calls k  true _ A3.out).mono ?_); rintro e w8 ⟨rfl, hb⟩; refine ⟨_, rfl, ?_⟩; have n0_ := As0.mk (bst (by repeat (first | (with_reducible first | exact HB.out | apply bal | apply pwB_ | apply bd1) | exact HB.out)) hb); clear HB; have HB := n0_; clear n0_; (try clear hb); (try clear hb2); (try clear hk); (try clear hi)) | ((with_reducible refine gcl (f := 28) rfl ?_); refine goesL_ (some 22) rfl rfl Try.func28 (by kernel_rfl) rfl #[.int .i64 a0, .int .u64 a1] rfl (by (try simp only [List.map_toArray, List.map_cons, List.map_nil]); first | done | rfl) ?_; (with_reducible refine (floats_Parts.calls k a0 a1 t268 t269 t270 t271 _ A5.out).mono ?_); rintro e w9 ⟨rfl, hb⟩; refine ⟨_, rfl, ?_⟩; have n0_ := As0.mk (bst (by repeat (first | (with_reducible first | exact HB.out | apply bal | apply pwB_ | apply bd1) | exact HB.out)) hb); clear HB; have HB := n0_; clear n0_; (try clear hb); (try clear hb2); (try clear hk); (try clear hi)) | ((with_reducible refine gcl (f := 29) rfl ?_); refine goesL_ (some 30) rfl rfl Try.func29 (by kernel_rfl) rfl #[.int .i64 a0, .int .u64 a1] rfl (by (try simp only [List.map_toArray, List.map_cons, List.map_nil]); first | done | rfl) ?_; (with_reducible refine (br_Parts.calls k a0 a1 t272 t273 t274 t275 _ A6.out).mono ?_); rintro e w' ⟨rfl, ⟨nd, rfl⟩⟩; refine ⟨_, rfl, ?_⟩))
    (try simp only [Act.put, List.setIfInBounds_toArray, List.set_cons_zero, List.set_cons_succ])
    go_cut [52] (fun v52 wc => ∃ (kq : Nat) (x52_6 : Bool), v52 = .bool x52_6 ∧ As0 (bl_FloatsParts.j0 kq a0 a1 t268 t269 t270 t271 x52_6 = some r) ∧ As0 (kq ≤ k) ∧ As0 (Below w.heap.size w wc))
    case first =>
      have H := HC7.out
      clear HC7
      by_cases c10 : (t268 != t272) = true
      · rw [if_pos c10] at H
        have c10b0 : (t268 != t272) = true := c10
        (try (have c10b1 : decide (t268 = t272) = false := by simpa using c10))
        (try (have c10b2 : (t268 == t272) = false := by simpa using c10))
        (try (have c10b3 : ¬ (t268 = t272) := by simpa using c10))
        clear c10
        (first | rw [c10b0] | (simp only [i64_w, i32_w]; rw [c10b0]) | skip)
        have H' := As0.mk H
        clear H
        go_wp2
        go_meet
        case rel => exact ⟨_, (true), (by first | rfl | (simp; done) | (simp [*]; done)), H', ⟨by first | omega | exact Nat.le_refl _⟩, ⟨by repeat (first | (with_reducible first | exact HB.out | apply bal | apply pwB_ | apply bd1) | exact HB.out)⟩⟩
      · rw [if_neg c10] at H
        have c10b0 : (t268 != t272) = false := by simpa using c10
        (try (have c10b1 : decide (t268 = t272) = true := by simpa using c10))
        (try (have c10b2 : (t268 == t272) = true := by simpa using c10))
        clear c10
        (first | rw [c10b0] | (simp only [i64_w, i32_w]; rw [c10b0]) | skip)
        by_cases c11 : t269 = t273
        · rw [if_pos c11] at H
          have c11b0 : (t269 == t273) = true := beq_iff_eq.mpr c11
          have c11b1 : (t269 != t273) = false := bne_eq_false_iff_eq.mpr c11
          clear c11
          by_cases c12 : t270 = t274
          · rw [if_pos c12] at H
            have c12b0 : (t270 == t274) = true := beq_iff_eq.mpr c12
            have c12b1 : (t270 != t274) = false := bne_eq_false_iff_eq.mpr c12
            clear c12
            have H' := As0.mk H
            clear H
            go_wp2
            go_meet
            case rel => exact ⟨_, ((t271 != t275)), (by first | rfl | (simp; done) | (simp [*]; done)), H', ⟨by first | omega | exact Nat.le_refl _⟩, ⟨by repeat (first | (with_reducible first | exact HB.out | apply bal | apply pwB_ | apply bd1) | exact HB.out)⟩⟩
          · rw [if_neg c12] at H
            have c12b0 : (t270 == t274) = false := beq_eq_false_iff_ne.mpr c12
            have c12b1 : (t270 != t274) = true := bne_iff_ne.mpr c12
            have H' := As0.mk H
            clear H
            go_wp2
            go_meet
            case rel => exact ⟨_, (true), (by first | rfl | (simp; done) | (simp [*]; done)), H', ⟨by first | omega | exact Nat.le_refl _⟩, ⟨by repeat (first | (with_reducible first | exact HB.out | apply bal | apply pwB_ | apply bd1) | exact HB.out)⟩⟩
        · rw [if_neg c11] at H
          have c11b0 : (t269 == t273) = false := beq_eq_false_iff_ne.mpr c11
          have c11b1 : (t269 != t273) = true := bne_iff_ne.mpr c11
          have H' := As0.mk H
          clear H
          go_wp2
          go_meet
          case rel => exact ⟨_, (true), (by first | rfl | (simp; done) | (simp [*]; done)), H', ⟨by first | omega | exact Nat.le_refl _⟩, ⟨by repeat (first | (with_reducible first | exact HB.out | apply bal | apply pwB_ | apply bd1) | exact HB.out)⟩⟩
    case rest =>
      clear HC7
      try clear c1
      try clear c2
      try clear p2
      try clear c4
      try clear c10
      try clear c10b0
      try clear c10b1
      try clear c10b2
      try clear c11
      try clear c11b0
      try clear c11b1
      try clear c12
      try clear c12b0
      try clear c12b1
      obtain ⟨kq, x52_6, rfl, HA, HJ6, HB⟩ := hcut
      cases kq with
      | zero => exact absurd HA.out (by simp [bl_FloatsParts.j0])
      | succ kj6 =>
        have H := HA.out
        clear HA
        simp only [bl_FloatsParts.j0] at H
        by_cases c13 : x52_6 = true
        · subst c13
          have H1 : (some false) = some r := by rw [if_pos rfl] at H; exact H
          clear H
          have H := H1
          clear H1
          obtain rfl := Option.some.inj H
          go_wp2
          go_ret
          exact ⟨by first | rfl | (simp [*] <;> rfl), by repeat (first | (with_reducible first | exact HB.out | apply bal | apply pwB_ | apply bd1) | exact HB.out)⟩
        · replace c13 := Bool.eq_false_iff.mpr c13
          subst c13
          have H1 : (if t271 = 0 then ((floats_Round.f kj6 a0 t268 t269 t270 false).bind fun bt276 => (if bt276.2 = 0 then (if bt276.1 = a1 then (some true) else (if a0 = 32 then (some (bt276.1 == (Go.bits .and .u64 a1 4294967295))) else (some false))) else (some false))) else (some true)) = some r := by rw [if_neg (show ¬ (false = true) by decide)] at H; exact H
          clear H
          have H := H1
          clear H1
          by_cases c14 : t271 = 0
          · rw [if_pos c14] at H
            have c14b0 : (t271 == 0) = true := beq_iff_eq.mpr c14
            have c14b1 : (t271 != 0) = false := bne_eq_false_iff_eq.mpr c14
            clear c14
            replace H := Option.bind_eq_some_iff.mp H
            obtain ⟨⟨t276, t277⟩, A150, H⟩ := H
            replace H : (if t277 = 0 then (if t276 = a1 then (some true) else (if a0 = 32 then (some (t276 == (Go.bits .and .u64 a1 4294967295))) else (some false))) else (some false)) = some r := H
            have A15 := As0.mk A150
            clear A150
            by_cases c16 : t277 = 0
            · rw [if_pos c16] at H
              have c16b0 : (t277 == 0) = true := beq_iff_eq.mpr c16
              have c16b1 : (t277 != 0) = false := bne_eq_false_iff_eq.mpr c16
              clear c16
              by_cases c17 : t276 = a1
              · rw [if_pos c17] at H
                have c17b0 : (t276 == a1) = true := beq_iff_eq.mpr c17
                have c17b1 : (t276 != a1) = false := bne_eq_false_iff_eq.mpr c17
                clear c17
                obtain rfl := Option.some.inj H
                go_wp2_with (first | ((with_reducible refine gcl (f := 17) rfl ?_); refine goesL_ (some 60) rfl rfl Try.func17 (by kernel_rfl) rfl #[.int .i64 a0, .bool t268, .int .u64 t269, .int .i64 t270, .bool false] rfl (by (try simp only [List.map_toArray, List.map_cons, List.map_nil]); first | done | rfl) ?_; (with_reducible refine (floats_Round.calls kj6 a0 t268 t269 t270 false t276 t277 _ A15.out).mono ?_); rintro e w18 ⟨rfl, hb⟩; refine ⟨_, rfl, ?_⟩; have n0_ := As0.mk (bst (by repeat (first | (with_reducible first | exact HB.out | apply bal | apply pwB_ | apply bd1) | exact HB.out)) hb); clear HB; have HB := n0_; clear n0_; (try clear hb); (try clear hb2); (try clear hk); (try clear hi)))
                go_ret
                exact ⟨by first | rfl | (simp [*] <;> rfl), by repeat (first | (with_reducible first | exact HB.out | apply bal | apply pwB_ | apply bd1) | exact HB.out)⟩
              · rw [if_neg c17] at H
                have c17b0 : (t276 == a1) = false := beq_eq_false_iff_ne.mpr c17
                have c17b1 : (t276 != a1) = true := bne_iff_ne.mpr c17
                by_cases c19 : a0 = 32
                · rw [if_pos c19] at H
                  have c19b0 : (a0 == 32) = true := beq_iff_eq.mpr c19
                  have c19b1 : (a0 != 32) = false := bne_eq_false_iff_eq.mpr c19
                  clear c19
                  obtain rfl := Option.some.inj H
                  go_wp2_with (first | ((with_reducible refine gcl (f := 17) rfl ?_); refine goesL_ (some 60) rfl rfl Try.func17 (by kernel_rfl) rfl #[.int .i64 a0, .bool t268, .int .u64 t269, .int .i64 t270, .bool false] rfl (by (try simp only [List.map_toArray, List.map_cons, List.map_nil]); first | done | rfl) ?_; (with_reducible refine (floats_Round.calls kj6 a0 t268 t269 t270 false t276 t277 _ A15.out).mono ?_); rintro e w20 ⟨rfl, hb⟩; refine ⟨_, rfl, ?_⟩; have n0_ := As0.mk (bst (by repeat (first | (with_reducible first | exact HB.out | apply bal | apply pwB_ | apply bd1) | exact HB.out)) hb); clear HB; have HB := n0_; clear n0_; (try clear hb); (try clear hb2); (try clear hk); (try clear hi)))
                  go_ret
                  exact ⟨by first | rfl | (simp [*] <;> rfl), by repeat (first | (with_reducible first | exact HB.out | apply bal | apply pwB_ | apply bd1) | exact HB.out)⟩
                · rw [if_neg c19] at H
                  have c19b0 : (a0 == 32) = false := beq_eq_false_iff_ne.mpr c19
                  have c19b1 : (a0 != 32) = true := bne_iff_ne.mpr c19
                  obtain rfl := Option.some.inj H
                  go_wp2_with (first | ((with_reducible refine gcl (f := 17) rfl ?_); refine goesL_ (some 60) rfl rfl Try.func17 (by kernel_rfl) rfl #[.int .i64 a0, .bool t268, .int .u64 t269, .int .i64 t270, .bool false] rfl (by (try simp only [List.map_toArray, List.map_cons, List.map_nil]); first | done | rfl) ?_; (with_reducible refine (floats_Round.calls kj6 a0 t268 t269 t270 false t276 t277 _ A15.out).mono ?_); rintro e w21 ⟨rfl, hb⟩; refine ⟨_, rfl, ?_⟩; have n0_ := As0.mk (bst (by repeat (first | (with_reducible first | exact HB.out | apply bal | apply pwB_ | apply bd1) | exact HB.out)) hb); clear HB; have HB := n0_; clear n0_; (try clear hb); (try clear hb2); (try clear hk); (try clear hi)))
                  go_ret
                  exact ⟨by first | rfl | (simp [*] <;> rfl), by repeat (first | (with_reducible first | exact HB.out | apply bal | apply pwB_ | apply bd1) | exact HB.out)⟩
            · rw [if_neg c16] at H
              have c16b0 : (t277 == 0) = false := beq_eq_false_iff_ne.mpr c16
              have c16b1 : (t277 != 0) = true := bne_iff_ne.mpr c16
              obtain rfl := Option.some.inj H
              go_wp2_with (first | ((with_reducible refine gcl (f := 17) rfl ?_); refine goesL_ (some 60) rfl rfl Try.func17 (by kernel_rfl) rfl #[.int .i64 a0, .bool t268, .int .u64 t269, .int .i64 t270, .bool false] rfl (by (try simp only [List.map_toArray, List.map_cons, List.map_nil]); first | done | rfl) ?_; (with_reducible refine (floats_Round.calls kj6 a0 t268 t269 t270 false t276 t277 _ A15.out).mono ?_); rintro e w22 ⟨rfl, hb⟩; refine ⟨_, rfl, ?_⟩; have n0_ := As0.mk (bst (by repeat (first | (with_reducible first | exact HB.out | apply bal | apply pwB_ | apply bd1) | exact HB.out)) hb); clear HB; have HB := n0_; clear n0_; (try clear hb); (try clear hb2); (try clear hk); (try clear hi)))
              go_ret
              exact ⟨by first | rfl | (simp [*] <;> rfl), by repeat (first | (with_reducible first | exact HB.out | apply bal | apply pwB_ | apply bd1) | exact HB.out)⟩
          · rw [if_neg c14] at H
            have c14b0 : (t271 == 0) = false := beq_eq_false_iff_ne.mpr c14
            have c14b1 : (t271 != 0) = true := bne_iff_ne.mpr c14
            obtain rfl := Option.some.inj H
            go_wp2
            go_ret
            exact ⟨by first | rfl | (simp [*] <;> rfl), by repeat (first | (with_reducible first | exact HB.out | apply bal | apply pwB_ | apply bd1) | exact HB.out)⟩
  · replace c4 := Bool.eq_false_iff.mpr c4
    subst c4
    have H1 : (some false) = some r := by rw [if_neg (show ¬ (false = true) by decide)] at H; exact H
    clear H
    have H := H1
    clear H1
    obtain rfl := Option.some.inj H
    go_enter Try.func11, Try.ntmps11
    go_wp2_with (first | ((with_reducible refine gcl (f := 16) rfl ?_); refine goesL_ (some 16) rfl rfl Try.func16 (by kernel_rfl) rfl #[] rfl (by (try simp only [List.map_toArray, List.map_cons, List.map_nil]); first | done | rfl) ?_; (with_reducible refine (bl_awake.calls k  false _ A3.out).mono ?_); rintro e w23 ⟨rfl, hb⟩; refine ⟨_, rfl, ?_⟩; have n0_ := As0.mk (bst (by repeat (first | (with_reducible first | exact HB.out | apply bal | apply pwB_ | apply bd1) | exact HB.out)) hb); clear HB; have HB := n0_; clear n0_; (try clear hb); (try clear hb2); (try clear hk); (try clear hi)))
    go_ret
    exact ⟨by first | rfl | (simp [*] <;> rfl), by repeat (first | (with_reducible first | exact HB.out | apply bal | apply pwB_ | apply bd1) | exact HB.out)⟩
/-- THE ONE PURE STATEMENT of bl_FloatsParts: yours. -/
def bl_FloatsParts.Pure : Prop := ∀ (a0 : Int) (a1 : Int), (Lit.int .i64 a0).wf = true → (Lit.int .u64 a1).wf = true → ∃ k, bl_FloatsParts.f k a0 a1 = some true
theorem bl_FloatsParts.walk (P : bl_FloatsParts.Pure) (a0 : Int) (a1 : Int) (w : World) (w0 : (Lit.int .i64 a0).wf = true) (w1 : (Lit.int .u64 a1).wf = true) :
    Calls Try.prog 11 #[.int .i64 a0, .int .u64 a1] w fun e w' => e = .returned (.bool true) ∧ Below w.heap.size w w' := by
  obtain ⟨k, h⟩ := P a0 a1 w0 w1
  refine (bl_FloatsParts.calls k a0 a1 true w h).mono ?_
  rintro e w' ⟨rfl, hd⟩
  exact ⟨rfl, hd⟩
-- NOT PRINTED: function 73 (math_sqrt)
-- NOT PRINTED: function 58 (math_Sqrt)
-- NOT PRINTED: function 74 (math_archCeil)
-- NOT PRINTED: function 76 (math_archFloor)
-- NOT PRINTED: function 81 (math_IsNaN)
-- NOT PRINTED: function 84 (math_Abs)
-- NOT PRINTED: function 82 (math_IsInf)
-- NOT PRINTED: function 78 (math_archTrunc)
-- NOT PRINTED: function 85 (math_Copysign)
-- NOT PRINTED: function 79 (math_trunc)
-- NOT PRINTED: function 61 (math_Trunc)
-- NOT PRINTED: function 83 (math_Modf)
-- NOT PRINTED: function 77 (math_floor)
-- NOT PRINTED: function 60 (math_Floor)
-- NOT PRINTED: function 75 (math_ceil)
-- NOT PRINTED: function 59 (math_Ceil)
-- NOT PRINTED: function 62 (math_RoundToEven)
-- given: function 30 (br_Un)
end Go.Proofs.Ytjfmomogidgbpaa.PFm
namespace Go.Proofs.Ytjfmomogidgbpaa.Pure
set_option linter.unusedVariables false
set_option linter.unusedSimpArgs false
open Go.RowKit Go.Proofs.Ytjfmomogidgbpaa.PFl Go.Proofs.Ytjfmomogidgbpaa.Fl Go.Proofs.YtjfmomogidgbpaaW.PrintWords
theorem Sz.same {n p q f} (h : Sz n p q f) (a : Nat) (ha : a < 18446744073709551616) : rungOf f a = rungOf f (wOf n (a : Int)) ∧ negOf f a = negOf f (wOf n (a : Int)) := by
  rw [← h.cut a ha]
  have hs : 0 < f.signWeight := pw_pos _
  have hd := Nat.div_add_mod a (2 * f.signWeight)
  have hm := Nat.mod_lt a (show 0 < 2 * f.signWeight by omega)
  generalize hq : a / (2 * f.signWeight) = x at *
  generalize hr : a % (2 * f.signWeight) = r at *
  have e : a = f.signWeight * (2 * x) + r := by rw [← hd]; have : 2 * f.signWeight * x = f.signWeight * (2 * x) := by ac_rfl
                                                omega
  constructor
  · unfold rungOf; rw [e, Nat.mul_add_mod]
  · unfold negOf
    rw [e, Nat.mul_add_div hs]
    have : (2 * x + r / f.signWeight) % 2 = r / f.signWeight % 2 := by omega
    rw [this]
theorem c_Kind (n : Int) (a : Nat) (ha : a < 18446744073709551616) : floats_Kind.f n a = some (kindF n a) := by
  by_cases hn : n = 32 ∨ n = 64
  · obtain ⟨p, q, f, S⟩ := sz n hn
    unfold floats_Kind.f kindF
    rw [S.of, if_neg (by omega), S.fm]
    simp only [Option.bind_some]
    rw [c_size S.pq a ha, S.none, c_inf S.pq, (S.same a ha).1]
    simp only [Option.bind_some]
    rw [if_neg (by decide)]
    unfold nanW
    generalize rungOf f (wOf n (a : Int)) = r
    by_cases z : r = 0
    · rw [if_pos (by omega), if_pos z]
    · rw [if_neg (by omega), if_neg z]
      by_cases l : r < f.infRung
      · rw [if_pos (by omega), if_neg (by rw [decide_eq_false (by omega)]; decide), if_neg (by omega)]
      · rw [if_neg (by omega)]
        by_cases e : r = f.infRung
        · rw [if_pos (by omega), if_neg (by rw [decide_eq_false (by omega)]; decide), if_pos e]
        · rw [if_neg (by omega), if_pos (decide_eq_true (by omega))]
  · unfold floats_Kind.f kindF
    rw [of_wrong n (by omega) (by omega), if_pos (by omega)]
    simp only [Option.bind_some]
    have : ∃ s, ff_size.f 0 0 (a : Int) = some s := by
      unfold ff_size.f ff_sign.f
      rw [if_pos (by rw [IntKind.wrap_u64]; omega)]
      exact ⟨_, rfl⟩
    obtain ⟨s, hs⟩ := this
    rw [hs, none_wrong]
    simp only [Option.bind_some]
    rw [if_pos True.intro]
end Go.Proofs.Ytjfmomogidgbpaa.Pure
namespace Go.Proofs.Ytjfmomogidgbpaa.Pure
set_option linter.unusedVariables false
set_option linter.unusedSimpArgs false
open Go.RowKit Go.Proofs.Ytjfmomogidgbpaa.PFl Go.Proofs.Ytjfmomogidgbpaa.Fl Go.Proofs.YtjfmomogidgbpaaW.PrintWords
theorem wrapu (x : Nat) (h : x < 18446744073709551616) : IntKind.u64.wrap (x : Int) = (x : Int) := by rw [IntKind.wrap_u64]; omega
end Go.Proofs.Ytjfmomogidgbpaa.Pure
namespace Go.Proofs.Ytjfmomogidgbpaa.Pure
set_option linter.unusedVariables false
set_option linter.unusedSimpArgs false
open Go.RowKit Go.Proofs.Ytjfmomogidgbpaa.PFl Go.Proofs.Ytjfmomogidgbpaa.PFm Go.Proofs.Ytjfmomogidgbpaa.Fl Go.Proofs.YtjfmomogidgbpaaW.PrintWords Go.Proofs.YtjfmomogidgbpaaW.PrintLast
def partsF (n : Int) (a : Nat) : Bool × Int × Int × Int :=
  if kindF n a = 1 ∨ kindF n a = 2 then (negOf (fmtOf n) (wOf n a), magOf (fmtOf n) (rungOf (fmtOf n) (wOf n a)), (fmtOf n).leastPlace + (plOf (fmtOf n) (rungOf (fmtOf n) (wOf n a)) : Int), 0) else (false, 0, 0, 1)
theorem kind_ok (n : Int) (a : Nat) (h : kindF n a = 1 ∨ kindF n a = 2) : n = 32 ∨ n = 64 := by
  by_cases hn : n = 32 ∨ n = 64
  · exact hn
  · unfold kindF at h
    rw [if_pos (by omega)] at h
    omega
theorem kind_num {n p q f} (S : Sz n p q f) (a : Nat) (h : kindF n a = 1 ∨ kindF n a = 2) : rungOf f (wOf n (a : Int)) < f.infRung := by
  have hb := bin_ok S.pq
  have hB : 0 < f.binade := pw_pos _
  unfold kindF at h
  rw [if_neg (by have := S.ok; omega), S.fm] at h
  unfold nanW at h
  by_cases z : rungOf f (wOf n (a : Int)) = 0
  · omega
  · rw [if_neg z] at h
    by_cases g : f.infRung < rungOf f (wOf n (a : Int))
    · rw [if_pos (decide_eq_true g)] at h; omega
    · rw [if_neg (by rw [decide_eq_false g]; decide)] at h
      by_cases y : rungOf f (wOf n (a : Int)) = f.infRung
      · rw [if_pos y] at h; omega
      · omega
theorem c_Parts (n : Int) (a : Nat) (ha : a < 18446744073709551616) (k : Nat) (hk : 1 ≤ k) : floats_Parts.f k n a = some (partsF n a) := by
  obtain ⟨k, rfl⟩ : ∃ j, k = j + 1 := ⟨k - 1, by omega⟩
  unfold floats_Parts.f partsF
  rw [c_Kind n a ha]
  simp only [Option.bind_some]
  have bad : floats_Parts.j0 (k + 1) n a true = some (false, 0, 0, 1) := by
    simp only [floats_Parts.j0]; rw [if_pos True.intro]
  by_cases g : kindF n a = 1 ∨ kindF n a = 2
  · obtain ⟨p, q, f, S⟩ := sz n (kind_ok n a g)
    have good : floats_Parts.j0 (k + 1) n a false = some (negOf f (wOf n (a : Int)), (magOf f (rungOf f (wOf n (a : Int))) : Int), f.leastPlace + (plOf f (rungOf f (wOf n (a : Int))) : Int), 0) := by
      simp only [floats_Parts.j0]
      rw [if_neg Bool.false_ne_true, S.of]
      simp only [Option.bind_some]
      rw [c_parts S.pq a ha, c_neg S.pq a ha]
      simp only [Option.bind_some]
      rw [(S.same a ha).1, (S.same a ha).2]
    rw [if_pos g, S.fm]
    rcases g with g | g
    · rw [if_pos g]; exact good
    · rw [if_neg (by omega), show (kindF n a != 2) = false from by rw [g]; rfl]; exact good
  · rw [if_neg (by omega), if_neg g, show (kindF n a != 2) = true from bne_iff_ne.2 (by omega)]; exact bad
theorem ref_cutP {n p q f} (S : Sz n p q f) (a : Nat) : br_cut.f n a = some (wOf n (a : Int) : Int) := by
  unfold br_cut.f wOf
  rcases S.ok with rfl | rfl
  · rw [if_pos rfl, if_pos rfl, show Int.tmod (a : Int) 4294967296 = ((a % 4294967296 : Nat) : Int) from rfl]
    rw [show (((a : Int) % 4294967296).toNat : Int) = ((a % 4294967296 : Nat) : Int) from by omega]
  · rw [if_neg (by decide), if_neg (by decide)]; rfl
theorem parts_arith (L : Int) (hL : -2000 ≤ L ∧ L ≤ 0) (x y B : Nat) (hx : x ≤ 4000) (hy : y < B) (hB : B ≤ 4503599627370496) (neg : Bool) (X Y BI : Int) (hX : X = (x : Int)) (hY : Y = (y : Int)) (hBI : BI = (B : Int)) :
    (if IntKind.u64.wrap X = 0 then some (neg, Y, L, (0 : Int)) else some (neg, IntKind.u64.wrap (Y + BI), wrap64 (wrap64 (L + wrap64 (IntKind.u64.wrap X)) - 1), 0)) =
      some (neg, ((if x = 0 then y else B + y : Nat) : Int), L + ((x - 1 : Nat) : Int), 0) := by
  subst hX hY hBI
  rw [wrapu x (by omega)]
  by_cases z : x = 0
  · subst z
    rw [if_pos (by rfl)]
    simp
  · rw [if_neg (by omega), if_neg z, show IntKind.u64.wrap ((y : Int) + (B : Int)) = ((B + y : Nat) : Int) from by rw [IntKind.wrap_u64]; omega,
      show wrap64 (wrap64 (L + wrap64 (x : Int)) - 1) = L + ((x - 1 : Nat) : Int) from by unfold wrap64; omega]
theorem mag_arith (A S B : Nat) (hB : 0 < B) (hd : B ∣ S) : (if A % S / B = 0 then A % B else B + A % B) = if A % S < B then A % S else B + A % S % B := by
  have e : A % S % B = A % B := Nat.mod_mod_of_dvd A hd
  by_cases c : A % S < B
  · rw [if_pos c, if_pos (Nat.div_eq_of_lt c), ← e, Nat.mod_eq_of_lt c]
  · rw [if_neg c, if_neg (fun x => c ((Nat.div_eq_zero_iff_lt hB).1 x)), e]
theorem ref_Parts (n : Int) (a : Nat) (ha : a < 18446744073709551616) (k : Nat) (hk : 1 ≤ k) : br_Parts.f k n a = some (partsF n a) := by
  obtain ⟨k, rfl⟩ : ∃ j, k = j + 1 := ⟨k - 1, by omega⟩
  unfold br_Parts.f partsF
  rw [show br_Kind.f n (a : Int) = some (kindF n a) from rfl]
  simp only [Option.bind_some]
  have bad : br_Parts.j0 (k + 1) n a true = some (false, 0, 0, 1) := by
    simp only [br_Parts.j0]; rw [if_pos True.intro]
  by_cases g : kindF n a = 1 ∨ kindF n a = 2
  · obtain ⟨p, q, f, S⟩ := sz n (kind_ok n a g)
    have good : br_Parts.j0 (k + 1) n a false = some (negOf f (wOf n (a : Int)), (magOf f (rungOf f (wOf n (a : Int))) : Int), f.leastPlace + (plOf f (rungOf f (wOf n (a : Int))) : Int), 0) := by
      have hA := S.lt a ha
      have hneg := S.neg_le (wOf n (a : Int)) hA
      have ed : decide ((wOf n (a : Int) : Int) ≥ (f.signWeight : Int)) = negOf f (wOf n (a : Int)) := by
        rw [S.sg] at hneg
        cases hs : negOf f (wOf n (a : Int))
        · exact decide_eq_false (fun x => by rw [hneg.2 x] at hs; cases hs)
        · exact decide_eq_true (hneg.1 hs)
      have sg : br_sign.f n = some (f.signWeight : Int) := by
        rw [← S.sg]; unfold br_sign.f sgnI; rcases S.ok with rfl | rfl <;> rfl
      simp only [br_Parts.j0]
      rw [if_neg Bool.false_ne_true, ref_cutP S a, sg]
      simp only [Option.bind_some]
      rw [ed]
      have hf := S.fm
      generalize wOf n (a : Int) = A at *
      rcases S.pq with ⟨_, _, rfl⟩ | ⟨_, _, rfl⟩
      · have : n ≠ 64 := by
          rintro rfl
          have := congrArg (fun g : Ieee.Format => g.fractionBits) hf
          exact absurd this (by decide)
        rw [if_neg this]
        unfold magOf plOf rungOf
        rw [s_sgn] at hA
        rw [s_least, s_bin, s_sgn, if_neg (by decide)]
        rw [← mag_arith A 2147483648 8388608 (by decide) (by decide)]
        exact parts_arith (-149) (by decide) (A % 2147483648 / 8388608) (A % 8388608) 8388608 (by omega) (Nat.mod_lt _ (by decide)) (by decide) _ _ _ _ rfl rfl rfl
      · have : n = 64 := by
          rcases S.ok with rfl | rfl
          · have := congrArg (fun g : Ieee.Format => g.fractionBits) hf
            exact absurd this (by decide)
          · rfl
        rw [if_pos this]
        unfold magOf plOf rungOf
        rw [d_sgn] at hA
        rw [d_least, d_bin, d_sgn, if_neg (by decide)]
        rw [← mag_arith A 9223372036854775808 4503599627370496 (by decide) (by decide)]
        exact parts_arith (-1074) (by decide) (A % 9223372036854775808 / 4503599627370496) (A % 4503599627370496) 4503599627370496 (by omega) (Nat.mod_lt _ (by decide)) (by decide) _ _ _ _ rfl rfl rfl
    rw [if_pos g, S.fm]
    rcases g with g | g
    · rw [if_pos g]; exact good
    · rw [if_neg (by omega), show (kindF n a != 2) = false from by rw [g]; rfl]; exact good
  · rw [if_neg (by omega), if_neg g, show (kindF n a != 2) = true from bne_iff_ne.2 (by omega)]; exact bad
theorem FloatsParts_at (n : Int) (a : Nat) (ha : a < 18446744073709551616) (k : Nat) (hk : 10 ≤ k) : bl_FloatsParts.f k n a = some true := by
  obtain ⟨k, rfl⟩ : ∃ j, k = j + 1 := ⟨k - 1, by omega⟩
  unfold bl_FloatsParts.f
  rw [show bl_awake.f (k + 1) = some true from rfl]
  simp only [Option.bind_some]
  rw [if_pos True.intro, c_Parts n a ha (k + 1) (by omega), ref_Parts n a ha (k + 1) (by omega)]
  simp only [Option.bind_some]
  rw [if_neg (by simp), if_pos True.intro, if_pos True.intro, bne_self_eq_false]
  simp only [bl_FloatsParts.j0]
  rw [if_neg Bool.false_ne_true]
  unfold partsF
  by_cases g : kindF n a = 1 ∨ kindF n a = 2
  · obtain ⟨p, q, f, S⟩ := sz n (kind_ok n a g)
    obtain ⟨w1, w2, w3, w4, w5, w6, w7, w8, w9, w10, w11, w12⟩ := c_w S.pq
    have hnum := kind_num S a g
    have hA := S.lt a ha
    have hml := mag_lt f (rungOf f (wOf n (a : Int)))
    have hn := S.ok
    rw [if_pos g, S.fm]
    simp only
    rw [if_pos True.intro, c_Round n _ _ (by omega) _ false k (by omega)]
    unfold roundF
    rw [if_neg (fun x => x.elim (fun y => by omega) (fun y => by cases y.1)), S.fm]
    simp only [Option.bind_some]
    rw [if_pos True.intro]
    have back : f.nearest (negOf f (wOf n (a : Int))) (2 * magOf f (rungOf f (wOf n (a : Int))) + false.toNat) (f.leastPlace + (plOf f (rungOf f (wOf n (a : Int))) : Int) - 1) = wOf n (a : Int) := by
      have := nearest_scale f (negOf f (wOf n (a : Int))) (magOf f (rungOf f (wOf n (a : Int)))) 1 (f.leastPlace + (plOf f (rungOf f (wOf n (a : Int))) : Int) - 1)
      rw [show 2 * magOf f (rungOf f (wOf n (a : Int))) + false.toNat = magOf f (rungOf f (wOf n (a : Int))) * 2 ^ 1 from by show 2 * _ = _; omega, this,
        show f.leastPlace + (plOf f (rungOf f (wOf n (a : Int))) : Int) - 1 + ((1 : Nat) : Int) = f.leastPlace + (plOf f (rungOf f (wOf n (a : Int))) : Int) from by omega]
      exact nearest_word f _ hA (bin_ok S.pq) hnum
    rw [back]
    by_cases e : (wOf n (a : Int) : Int) = a
    · rw [if_pos e]
    · rw [if_neg e]
      have h32 : n = 32 := by
        rcases S.ok with h | h
        · exact h
        · subst h; exact absurd (show ((a : Int).toNat : Int) = a by omega) e
      have hm := and_mask a 32 ha (by decide)
      rw [show ((2 ^ 32 : Nat) : Int) - 1 = 4294967295 from rfl] at hm
      rw [if_pos h32, hm]
      subst h32
      rw [show (wOf 32 (a : Int) : Int) = ((a % 2 ^ 32 : Nat) : Int) from by
        show (((a : Int) % 4294967296).toNat : Int) = ((a % 4294967296 : Nat) : Int)
        omega, beq_self_eq_true]
  · rw [if_neg g]
    simp only
    rw [if_neg (by decide)]
theorem FloatsParts : bl_FloatsParts.Pure := by
  intro n a1 _ h1
  have h1 := bounds_u64 h1
  obtain ⟨a, rfl⟩ := Int.eq_ofNat_of_zero_le h1.1
  exact ⟨_, FloatsParts_at n a (by omega) 10 (Nat.le_refl _)⟩
end Go.Proofs.Ytjfmomogidgbpaa.Pure
