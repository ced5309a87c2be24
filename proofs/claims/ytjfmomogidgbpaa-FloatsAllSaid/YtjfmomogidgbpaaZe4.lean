/-
  Texts that the kit's print.py has written for this claim (called by this session's own script), put together, without what is not used.
-/
import Derived.Test.YtjfmomogidgbpaaZe0
import Derived.Test.YtjfmomogidgbpaaZe2
import Derived.Test.YtjfmomogidgbpaaZe3
namespace Go.Proofs.Ytjfmomogidgbpaa.PFl
open Go.RowKit Go.Proofs.YtjfmomogidgbpaaW.PrintWords Go.Proofs.YtjfmomogidgbpaaW.PrintLast Go.Proofs.YtjfmomogidgbpaaW.PrintMore
attribute [local go_sem] max2_int min2_int max_two min_two max_three min_three max_four min_four
set_option linter.unusedVariables false
set_option linter.unusedSimpArgs false
mutual
def bits_Div64.j2 : Nat → Int → Int → Int → Int → Int → Int → Int → Int → Option (Int × Int)
 | 0, _, _, _, _, _, _, _, _ => none
 | k + 1, x2, x8, x9, x10, x11, x13, x14, x15 => if x9 = 0 then (none) else (bits_Div64.l1 k x2 x8 x9 x10 x14 x15 (IntKind.u64.wrap ((IntKind.u64.wrap ((IntKind.u64.wrap ((IntKind.u64.wrap (x11 * 4294967296)) + x13)) - (IntKind.u64.wrap (x15 * x2)))) - (IntKind.u64.wrap ((IntKind.u64.wrap (Int.tdiv (IntKind.u64.wrap ((IntKind.u64.wrap ((IntKind.u64.wrap (x11 * 4294967296)) + x13)) - (IntKind.u64.wrap (x15 * x2)))) x9)) * x9)))) (IntKind.u64.wrap ((IntKind.u64.wrap ((IntKind.u64.wrap (x11 * 4294967296)) + x13)) - (IntKind.u64.wrap (x15 * x2)))) (IntKind.u64.wrap (Int.tdiv (IntKind.u64.wrap ((IntKind.u64.wrap ((IntKind.u64.wrap (x11 * 4294967296)) + x13)) - (IntKind.u64.wrap (x15 * x2)))) x9)))
def bits_Div64.l1 : Nat → Int → Int → Int → Int → Int → Int → Int → Int → Int → Option (Int × Int)
 | 0, _, _, _, _, _, _, _, _, _ => none
 | k + 1, x2, x8, x9, x10, x14, x15, x16, x17, x18 => if x18 ≥ 4294967296 then (bits_Div64.j4 k x2 x8 x9 x10 x14 x15 x16 x17 x18 true) else (bits_Div64.j4 k x2 x8 x9 x10 x14 x15 x16 x17 x18 (decide ((IntKind.u64.wrap (x18 * x10)) > (IntKind.u64.wrap ((IntKind.u64.wrap (4294967296 * x16)) + x14)))))
def bits_Div64.j4 : Nat → Int → Int → Int → Int → Int → Int → Int → Int → Int → Bool → Option (Int × Int)
 | 0, _, _, _, _, _, _, _, _, _, _ => none
 | k + 1, x2, x8, x9, x10, x14, x15, x16, x17, x18, x113 => if x113 = true then (if (IntKind.u64.wrap (x16 + x9)) ≥ 4294967296 then (if 0 ≤ x8 then (some (IntKind.u64.wrap ((IntKind.u64.wrap (x15 * 4294967296)) + (IntKind.u64.wrap (x18 - 1))), shr .u64 (IntKind.u64.wrap ((IntKind.u64.wrap ((IntKind.u64.wrap (x17 * 4294967296)) + x14)) - (IntKind.u64.wrap ((IntKind.u64.wrap (x18 - 1)) * x2)))) x8)) else (none)) else (bits_Div64.l1 k x2 x8 x9 x10 x14 x15 (IntKind.u64.wrap (x16 + x9)) x17 (IntKind.u64.wrap (x18 - 1)))) else (if 0 ≤ x8 then (some (IntKind.u64.wrap ((IntKind.u64.wrap (x15 * 4294967296)) + x18), shr .u64 (IntKind.u64.wrap ((IntKind.u64.wrap ((IntKind.u64.wrap (x17 * 4294967296)) + x14)) - (IntKind.u64.wrap (x18 * x2)))) x8)) else (none))
def bits_Div64.l0 : Nat → Int → Int → Int → Int → Int → Int → Int → Int → Int → Option (Int × Int)
 | 0, _, _, _, _, _, _, _, _, _ => none
 | k + 1, x2, x8, x9, x10, x11, x13, x14, x15, x16 => if x15 ≥ 4294967296 then (bits_Div64.j1 k x2 x8 x9 x10 x11 x13 x14 x15 x16 true) else (bits_Div64.j1 k x2 x8 x9 x10 x11 x13 x14 x15 x16 (decide ((IntKind.u64.wrap (x15 * x10)) > (IntKind.u64.wrap ((IntKind.u64.wrap (4294967296 * x16)) + x13)))))
def bits_Div64.j1 : Nat → Int → Int → Int → Int → Int → Int → Int → Int → Int → Bool → Option (Int × Int)
 | 0, _, _, _, _, _, _, _, _, _, _ => none
 | k + 1, x2, x8, x9, x10, x11, x13, x14, x15, x16, x78 => if x78 = true then (if (IntKind.u64.wrap (x16 + x9)) ≥ 4294967296 then (bits_Div64.j2 k x2 x8 x9 x10 x11 x13 x14 (IntKind.u64.wrap (x15 - 1))) else (bits_Div64.l0 k x2 x8 x9 x10 x11 x13 x14 (IntKind.u64.wrap (x15 - 1)) (IntKind.u64.wrap (x16 + x9)))) else (bits_Div64.j2 k x2 x8 x9 x10 x11 x13 x14 x15)
end
def bits_Div64.f (k : Nat) (a0 : Int) (a1 : Int) (a2 : Int) : Option (Int × Int) := if a2 = 0 then (none) else (if a2 ≤ a0 then (none) else (if a0 = 0 then (some (IntKind.u64.wrap (Int.tdiv a1 a2), Int.tmod a1 a2)) else ((bits_LeadingZeros64.f a2).bind fun t188 => (if 0 ≤ (IntKind.u64.wrap (t188)) then (if 0 ≤ (IntKind.u64.wrap (64 - (IntKind.u64.wrap (t188)))) then (if ((shl .u64 a2 (IntKind.u64.wrap (t188))) / 4294967296) = 0 then (none) else (bits_Div64.l0 k (shl .u64 a2 (IntKind.u64.wrap (t188))) (IntKind.u64.wrap (t188)) ((shl .u64 a2 (IntKind.u64.wrap (t188))) / 4294967296) (Go.bits .and .u64 (shl .u64 a2 (IntKind.u64.wrap (t188))) 4294967295) (Go.bits .or .u64 (shl .u64 a0 (IntKind.u64.wrap (t188))) (shr .u64 a1 (IntKind.u64.wrap (64 - (IntKind.u64.wrap (t188)))))) ((shl .u64 a1 (IntKind.u64.wrap (t188))) / 4294967296) (Go.bits .and .u64 (shl .u64 a1 (IntKind.u64.wrap (t188))) 4294967295) (IntKind.u64.wrap (Int.tdiv (Go.bits .or .u64 (shl .u64 a0 (IntKind.u64.wrap (t188))) (shr .u64 a1 (IntKind.u64.wrap (64 - (IntKind.u64.wrap (t188)))))) ((shl .u64 a2 (IntKind.u64.wrap (t188))) / 4294967296))) (IntKind.u64.wrap ((Go.bits .or .u64 (shl .u64 a0 (IntKind.u64.wrap (t188))) (shr .u64 a1 (IntKind.u64.wrap (64 - (IntKind.u64.wrap (t188)))))) - (IntKind.u64.wrap ((IntKind.u64.wrap (Int.tdiv (Go.bits .or .u64 (shl .u64 a0 (IntKind.u64.wrap (t188))) (shr .u64 a1 (IntKind.u64.wrap (64 - (IntKind.u64.wrap (t188)))))) ((shl .u64 a2 (IntKind.u64.wrap (t188))) / 4294967296))) * ((shl .u64 a2 (IntKind.u64.wrap (t188))) / 4294967296))))))) else (none)) else (none)))))
theorem bits_Div64.mono_l : ∀ k, (∀ y0 y1 y2 y3 y4 y5 y6 y7, LeO (bits_Div64.j2 k y0 y1 y2 y3 y4 y5 y6 y7) (bits_Div64.j2 (k + 1) y0 y1 y2 y3 y4 y5 y6 y7)) ∧ (∀ y0 y1 y2 y3 y4 y5 y6 y7 y8, LeO (bits_Div64.l1 k y0 y1 y2 y3 y4 y5 y6 y7 y8) (bits_Div64.l1 (k + 1) y0 y1 y2 y3 y4 y5 y6 y7 y8)) ∧ (∀ y0 y1 y2 y3 y4 y5 y6 y7 y8 y9, LeO (bits_Div64.j4 k y0 y1 y2 y3 y4 y5 y6 y7 y8 y9) (bits_Div64.j4 (k + 1) y0 y1 y2 y3 y4 y5 y6 y7 y8 y9)) ∧ (∀ y0 y1 y2 y3 y4 y5 y6 y7 y8, LeO (bits_Div64.l0 k y0 y1 y2 y3 y4 y5 y6 y7 y8) (bits_Div64.l0 (k + 1) y0 y1 y2 y3 y4 y5 y6 y7 y8)) ∧ (∀ y0 y1 y2 y3 y4 y5 y6 y7 y8 y9, LeO (bits_Div64.j1 k y0 y1 y2 y3 y4 y5 y6 y7 y8 y9) (bits_Div64.j1 (k + 1) y0 y1 y2 y3 y4 y5 y6 y7 y8 y9)) := by
 intro k
 induction k with
 | zero => exact ⟨fun _ _ _ _ _ _ _ _ r h => by simp [bits_Div64.j2] at h, fun _ _ _ _ _ _ _ _ _ r h => by simp [bits_Div64.l1] at h, fun _ _ _ _ _ _ _ _ _ _ r h => by simp [bits_Div64.j4] at h, fun _ _ _ _ _ _ _ _ _ r h => by simp [bits_Div64.l0] at h, fun _ _ _ _ _ _ _ _ _ _ r h => by simp [bits_Div64.j1] at h⟩
 | succ k ih =>
  obtain ⟨ih0, ih1, ih2, ih3, ih4⟩ := ih
  refine ⟨?_, ?_, ?_, ?_, ?_⟩
  ·intro y0 y1 y2 y3 y4 y5 y6 y7
   unfold bits_Div64.j2
   repeat' first
   | (with_reducible exact ih0 _ _ _ _ _ _ _ _)
   | (with_reducible exact ih1 _ _ _ _ _ _ _ _ _)
   | (with_reducible exact ih2 _ _ _ _ _ _ _ _ _ _)
   | (with_reducible exact ih3 _ _ _ _ _ _ _ _ _)
   | (with_reducible exact ih4 _ _ _ _ _ _ _ _ _ _)
   | (with_reducible exact LeO.refl _)
   | (with_reducible exact LeO.none _)
   | (with_reducible refine LeO.ite ?_ ?_)
   | (with_reducible refine LeO.bind ?_ (fun _ => ?_))
   | exact ih0 _ _ _ _ _ _ _ _
   | exact ih1 _ _ _ _ _ _ _ _ _
   | exact ih2 _ _ _ _ _ _ _ _ _ _
   | exact ih3 _ _ _ _ _ _ _ _ _
   | exact ih4 _ _ _ _ _ _ _ _ _ _
   | exact LeO.none _
   | refine LeO.ite ?_ ?_
   | refine LeO.bind ?_ (fun _ => ?_)
  ·intro y0 y1 y2 y3 y4 y5 y6 y7 y8
   unfold bits_Div64.l1
   repeat' first
   | (with_reducible exact ih0 _ _ _ _ _ _ _ _)
   | (with_reducible exact ih1 _ _ _ _ _ _ _ _ _)
   | (with_reducible exact ih2 _ _ _ _ _ _ _ _ _ _)
   | (with_reducible exact ih3 _ _ _ _ _ _ _ _ _)
   | (with_reducible exact ih4 _ _ _ _ _ _ _ _ _ _)
   | (with_reducible exact LeO.refl _)
   | (with_reducible exact LeO.none _)
   | (with_reducible refine LeO.ite ?_ ?_)
   | (with_reducible refine LeO.bind ?_ (fun _ => ?_))
   | exact ih0 _ _ _ _ _ _ _ _
   | exact ih1 _ _ _ _ _ _ _ _ _
   | exact ih2 _ _ _ _ _ _ _ _ _ _
   | exact ih3 _ _ _ _ _ _ _ _ _
   | exact ih4 _ _ _ _ _ _ _ _ _ _
   | exact LeO.none _
   | refine LeO.ite ?_ ?_
   | refine LeO.bind ?_ (fun _ => ?_)
  ·intro y0 y1 y2 y3 y4 y5 y6 y7 y8 y9
   unfold bits_Div64.j4
   repeat' first
   | (with_reducible exact ih0 _ _ _ _ _ _ _ _)
   | (with_reducible exact ih1 _ _ _ _ _ _ _ _ _)
   | (with_reducible exact ih2 _ _ _ _ _ _ _ _ _ _)
   | (with_reducible exact ih3 _ _ _ _ _ _ _ _ _)
   | (with_reducible exact ih4 _ _ _ _ _ _ _ _ _ _)
   | (with_reducible exact LeO.refl _)
   | (with_reducible exact LeO.none _)
   | (with_reducible refine LeO.ite ?_ ?_)
   | (with_reducible refine LeO.bind ?_ (fun _ => ?_))
   | exact ih0 _ _ _ _ _ _ _ _
   | exact ih1 _ _ _ _ _ _ _ _ _
   | exact ih2 _ _ _ _ _ _ _ _ _ _
   | exact ih3 _ _ _ _ _ _ _ _ _
   | exact ih4 _ _ _ _ _ _ _ _ _ _
   | exact LeO.none _
   | refine LeO.ite ?_ ?_
   | refine LeO.bind ?_ (fun _ => ?_)
  ·intro y0 y1 y2 y3 y4 y5 y6 y7 y8
   unfold bits_Div64.l0
   repeat' first
   | (with_reducible exact ih0 _ _ _ _ _ _ _ _)
   | (with_reducible exact ih1 _ _ _ _ _ _ _ _ _)
   | (with_reducible exact ih2 _ _ _ _ _ _ _ _ _ _)
   | (with_reducible exact ih3 _ _ _ _ _ _ _ _ _)
   | (with_reducible exact ih4 _ _ _ _ _ _ _ _ _ _)
   | (with_reducible exact LeO.refl _)
   | (with_reducible exact LeO.none _)
   | (with_reducible refine LeO.ite ?_ ?_)
   | (with_reducible refine LeO.bind ?_ (fun _ => ?_))
   | exact ih0 _ _ _ _ _ _ _ _
   | exact ih1 _ _ _ _ _ _ _ _ _
   | exact ih2 _ _ _ _ _ _ _ _ _ _
   | exact ih3 _ _ _ _ _ _ _ _ _
   | exact ih4 _ _ _ _ _ _ _ _ _ _
   | exact LeO.none _
   | refine LeO.ite ?_ ?_
   | refine LeO.bind ?_ (fun _ => ?_)
  ·intro y0 y1 y2 y3 y4 y5 y6 y7 y8 y9
   unfold bits_Div64.j1
   repeat' first
   | (with_reducible exact ih0 _ _ _ _ _ _ _ _)
   | (with_reducible exact ih1 _ _ _ _ _ _ _ _ _)
   | (with_reducible exact ih2 _ _ _ _ _ _ _ _ _ _)
   | (with_reducible exact ih3 _ _ _ _ _ _ _ _ _)
   | (with_reducible exact ih4 _ _ _ _ _ _ _ _ _ _)
   | (with_reducible exact LeO.refl _)
   | (with_reducible exact LeO.none _)
   | (with_reducible refine LeO.ite ?_ ?_)
   | (with_reducible refine LeO.bind ?_ (fun _ => ?_))
   | exact ih0 _ _ _ _ _ _ _ _
   | exact ih1 _ _ _ _ _ _ _ _ _
   | exact ih2 _ _ _ _ _ _ _ _ _ _
   | exact ih3 _ _ _ _ _ _ _ _ _
   | exact ih4 _ _ _ _ _ _ _ _ _ _
   | exact LeO.none _
   | refine LeO.ite ?_ ?_
   | refine LeO.bind ?_ (fun _ => ?_)
theorem bits_Div64.mono : ∀ a0 a1 a2 k, LeO (bits_Div64.f k a0 a1 a2) (bits_Div64.f (k + 1) a0 a1 a2) := by
 intro a0 a1 a2 k
 obtain ⟨ih0, ih1, ih2, ih3, ih4⟩ := bits_Div64.mono_l k
 unfold bits_Div64.f
 repeat' first
   | (with_reducible exact ih0 _ _ _ _ _ _ _ _)
   | (with_reducible exact ih1 _ _ _ _ _ _ _ _ _)
   | (with_reducible exact ih2 _ _ _ _ _ _ _ _ _ _)
   | (with_reducible exact ih3 _ _ _ _ _ _ _ _ _)
   | (with_reducible exact ih4 _ _ _ _ _ _ _ _ _ _)
   | (with_reducible exact LeO.refl _)
   | (with_reducible exact LeO.none _)
   | (with_reducible refine LeO.ite ?_ ?_)
   | (with_reducible refine LeO.bind ?_ (fun _ => ?_))
   | exact ih0 _ _ _ _ _ _ _ _
   | exact ih1 _ _ _ _ _ _ _ _ _
   | exact ih2 _ _ _ _ _ _ _ _ _ _
   | exact ih3 _ _ _ _ _ _ _ _ _
   | exact ih4 _ _ _ _ _ _ _ _ _ _
   | exact LeO.none _
   | refine LeO.ite ?_ ?_
   | refine LeO.bind ?_ (fun _ => ?_)
set_option maxHeartbeats 8000000 in
set_option maxRecDepth 100000 in
theorem bits_Div64.calls (k : Nat) (a0 : Int) (a1 : Int) (a2 : Int) (r1 : Int) (r2 : Int) (w : World) (h : bits_Div64.f k a0 a1 a2 = some (r1, r2)) :
  Calls Try.prog 68 #[.int .u64 a0, .int .u64 a1, .int .u64 a2] w fun e w' => e = .returned (.tuple #[.int .u64 r1, .int .u64 r2]) ∧ Drawn0 w w' := by
 have H : (if a2 = 0 then (none) else (if a2 ≤ a0 then (none) else (if a0 = 0 then (some (IntKind.u64.wrap (Int.tdiv a1 a2), Int.tmod a1 a2)) else ((bits_LeadingZeros64.f a2).bind fun t188 => (if 0 ≤ (IntKind.u64.wrap (t188)) then (if 0 ≤ (IntKind.u64.wrap (64 - (IntKind.u64.wrap (t188)))) then (if ((shl .u64 a2 (IntKind.u64.wrap (t188))) / 4294967296) = 0 then (none) else (bits_Div64.l0 k (shl .u64 a2 (IntKind.u64.wrap (t188))) (IntKind.u64.wrap (t188)) ((shl .u64 a2 (IntKind.u64.wrap (t188))) / 4294967296) (Go.bits .and .u64 (shl .u64 a2 (IntKind.u64.wrap (t188))) 4294967295) (Go.bits .or .u64 (shl .u64 a0 (IntKind.u64.wrap (t188))) (shr .u64 a1 (IntKind.u64.wrap (64 - (IntKind.u64.wrap (t188)))))) ((shl .u64 a1 (IntKind.u64.wrap (t188))) / 4294967296) (Go.bits .and .u64 (shl .u64 a1 (IntKind.u64.wrap (t188))) 4294967295) (IntKind.u64.wrap (Int.tdiv (Go.bits .or .u64 (shl .u64 a0 (IntKind.u64.wrap (t188))) (shr .u64 a1 (IntKind.u64.wrap (64 - (IntKind.u64.wrap (t188)))))) ((shl .u64 a2 (IntKind.u64.wrap (t188))) / 4294967296))) (IntKind.u64.wrap ((Go.bits .or .u64 (shl .u64 a0 (IntKind.u64.wrap (t188))) (shr .u64 a1 (IntKind.u64.wrap (64 - (IntKind.u64.wrap (t188)))))) - (IntKind.u64.wrap ((IntKind.u64.wrap (Int.tdiv (Go.bits .or .u64 (shl .u64 a0 (IntKind.u64.wrap (t188))) (shr .u64 a1 (IntKind.u64.wrap (64 - (IntKind.u64.wrap (t188)))))) ((shl .u64 a2 (IntKind.u64.wrap (t188))) / 4294967296))) * ((shl .u64 a2 (IntKind.u64.wrap (t188))) / 4294967296))))))) else (none)) else (none)))))) = some (r1, r2) := h
 clear h
 by_cases c4 : a2 = 0
 ·rw [if_pos c4] at H
  exact absurd H (by simp)
 ·rw [if_neg c4] at H
  have c4b0 : (a2 == 0) = false := beq_eq_false_iff_ne.mpr c4
  have c4b1 : (a2 != 0) = true := bne_iff_ne.mpr c4
  by_cases c5 : a2 ≤ a0
  ·rw [if_pos c5] at H
   exact absurd H (by simp)
  ·rw [if_neg c5] at H
   have c5b0 : decide (a2 ≤ a0) = false := decide_eq_false c5
   clear c5
   by_cases c6 : a0 = 0
   ·rw [if_pos c6] at H
    have c6b0 : (a0 == 0) = true := beq_iff_eq.mpr c6
    have c6b1 : (a0 != 0) = false := bne_eq_false_iff_eq.mpr c6
    clear c6
    simp only [Option.some.injEq, Prod.mk.injEq] at H
    obtain ⟨rfl, rfl⟩ := H
    go_enter Try.func68, Try.ntmps68
    go_wp2
    repeat (go_quiet (fail); try go_wp2)
    go_ret2
    exact ⟨by first | rfl | (simp; done) | (simp [*]; done), by repeat (first | exact Drawn0.refl _ | apply Drawn0.step)⟩
   ·rw [if_neg c6] at H
    have c6b0 : (a0 == 0) = false := beq_eq_false_iff_ne.mpr c6
    have c6b1 : (a0 != 0) = true := bne_iff_ne.mpr c6
    replace H := zob H
    obtain ⟨t188, A70, H⟩ := H
    replace H : (if 0 ≤ (IntKind.u64.wrap (t188)) then (if 0 ≤ (IntKind.u64.wrap (64 - (IntKind.u64.wrap (t188)))) then (if ((shl .u64 a2 (IntKind.u64.wrap (t188))) / 4294967296) = 0 then (none) else (bits_Div64.l0 k (shl .u64 a2 (IntKind.u64.wrap (t188))) (IntKind.u64.wrap (t188)) ((shl .u64 a2 (IntKind.u64.wrap (t188))) / 4294967296) (Go.bits .and .u64 (shl .u64 a2 (IntKind.u64.wrap (t188))) 4294967295) (Go.bits .or .u64 (shl .u64 a0 (IntKind.u64.wrap (t188))) (shr .u64 a1 (IntKind.u64.wrap (64 - (IntKind.u64.wrap (t188)))))) ((shl .u64 a1 (IntKind.u64.wrap (t188))) / 4294967296) (Go.bits .and .u64 (shl .u64 a1 (IntKind.u64.wrap (t188))) 4294967295) (IntKind.u64.wrap (Int.tdiv (Go.bits .or .u64 (shl .u64 a0 (IntKind.u64.wrap (t188))) (shr .u64 a1 (IntKind.u64.wrap (64 - (IntKind.u64.wrap (t188)))))) ((shl .u64 a2 (IntKind.u64.wrap (t188))) / 4294967296))) (IntKind.u64.wrap ((Go.bits .or .u64 (shl .u64 a0 (IntKind.u64.wrap (t188))) (shr .u64 a1 (IntKind.u64.wrap (64 - (IntKind.u64.wrap (t188)))))) - (IntKind.u64.wrap ((IntKind.u64.wrap (Int.tdiv (Go.bits .or .u64 (shl .u64 a0 (IntKind.u64.wrap (t188))) (shr .u64 a1 (IntKind.u64.wrap (64 - (IntKind.u64.wrap (t188)))))) ((shl .u64 a2 (IntKind.u64.wrap (t188))) / 4294967296))) * ((shl .u64 a2 (IntKind.u64.wrap (t188))) / 4294967296))))))) else (none)) else (none)) = some (r1, r2) := H
    have A7 := As0.mk A70
    clear A70
    obtain ⟨ji8, hji8⟩ : ∃ j_ : Int, (IntKind.u64.wrap (t188)) = j_ := ⟨_, rfl⟩
    replace H : (if 0 ≤ (ji8) then (if 0 ≤ (IntKind.u64.wrap (64 - (ji8))) then (if ((shl .u64 a2 (ji8)) / 4294967296) = 0 then (none) else (bits_Div64.l0 k (shl .u64 a2 (ji8)) ji8 ((shl .u64 a2 (ji8)) / 4294967296) (Go.bits .and .u64 (shl .u64 a2 (ji8)) 4294967295) (Go.bits .or .u64 (shl .u64 a0 (ji8)) (shr .u64 a1 (IntKind.u64.wrap (64 - (ji8))))) ((shl .u64 a1 (ji8)) / 4294967296) (Go.bits .and .u64 (shl .u64 a1 (ji8)) 4294967295) (IntKind.u64.wrap (Int.tdiv (Go.bits .or .u64 (shl .u64 a0 (ji8)) (shr .u64 a1 (IntKind.u64.wrap (64 - (ji8))))) ((shl .u64 a2 (ji8)) / 4294967296))) (IntKind.u64.wrap ((Go.bits .or .u64 (shl .u64 a0 (ji8)) (shr .u64 a1 (IntKind.u64.wrap (64 - (ji8))))) - (IntKind.u64.wrap ((IntKind.u64.wrap (Int.tdiv (Go.bits .or .u64 (shl .u64 a0 (ji8)) (shr .u64 a1 (IntKind.u64.wrap (64 - (ji8))))) ((shl .u64 a2 (ji8)) / 4294967296))) * ((shl .u64 a2 (ji8)) / 4294967296))))))) else (none)) else (none)) = some (r1, r2) := by first | (rw [hji8] at H; exact H) | (simp only [hji8] at H ⊢; exact H)
    (try rw [hji8] at A7)
    by_cases c9 : 0 ≤ (ji8)
    ·rw [if_pos c9] at H
     have c9b0 := eq_true c9
     have c9b1 : decide (0 ≤ (ji8)) = true := decide_eq_true c9
     clear c9
     obtain ⟨ji10, hji10⟩ : ∃ j_ : Int, (shl .u64 a2 (ji8)) = j_ := ⟨_, rfl⟩
     replace H : (if 0 ≤ (IntKind.u64.wrap (64 - (ji8))) then (if ((ji10) / 4294967296) = 0 then (none) else (bits_Div64.l0 k ji10 ji8 ((ji10) / 4294967296) (Go.bits .and .u64 (ji10) 4294967295) (Go.bits .or .u64 (shl .u64 a0 (ji8)) (shr .u64 a1 (IntKind.u64.wrap (64 - (ji8))))) ((shl .u64 a1 (ji8)) / 4294967296) (Go.bits .and .u64 (shl .u64 a1 (ji8)) 4294967295) (IntKind.u64.wrap (Int.tdiv (Go.bits .or .u64 (shl .u64 a0 (ji8)) (shr .u64 a1 (IntKind.u64.wrap (64 - (ji8))))) ((ji10) / 4294967296))) (IntKind.u64.wrap ((Go.bits .or .u64 (shl .u64 a0 (ji8)) (shr .u64 a1 (IntKind.u64.wrap (64 - (ji8))))) - (IntKind.u64.wrap ((IntKind.u64.wrap (Int.tdiv (Go.bits .or .u64 (shl .u64 a0 (ji8)) (shr .u64 a1 (IntKind.u64.wrap (64 - (ji8))))) ((ji10) / 4294967296))) * ((ji10) / 4294967296))))))) else (none)) = some (r1, r2) := by first | (rw [hji10] at H; exact H) | (simp only [hji10] at H ⊢; exact H)
     (try rw [hji10] at A7)
     have hji10_ : (IntKind.u64.wrap (a2 * 2 ^ min (ji8).toNat 64)) = ji10 := hji10
     have hji10z : (ji8) ≤ 64 → (IntKind.u64.wrap (a2 * 2 ^ (ji8).toNat)) = ji10 := shl_small hji10
     have c11b0 := eq_true (of_decide_eq_true (by first | (with_reducible assumption) | assumption) : 0 ≤ (ji8))
     obtain ⟨ji12, hji12⟩ : ∃ j_ : Int, (shl .u64 a0 (ji8)) = j_ := ⟨_, rfl⟩
     replace H : (if 0 ≤ (IntKind.u64.wrap (64 - (ji8))) then (if ((ji10) / 4294967296) = 0 then (none) else (bits_Div64.l0 k ji10 ji8 ((ji10) / 4294967296) (Go.bits .and .u64 (ji10) 4294967295) (Go.bits .or .u64 (ji12) (shr .u64 a1 (IntKind.u64.wrap (64 - (ji8))))) ((shl .u64 a1 (ji8)) / 4294967296) (Go.bits .and .u64 (shl .u64 a1 (ji8)) 4294967295) (IntKind.u64.wrap (Int.tdiv (Go.bits .or .u64 (ji12) (shr .u64 a1 (IntKind.u64.wrap (64 - (ji8))))) ((ji10) / 4294967296))) (IntKind.u64.wrap ((Go.bits .or .u64 (ji12) (shr .u64 a1 (IntKind.u64.wrap (64 - (ji8))))) - (IntKind.u64.wrap ((IntKind.u64.wrap (Int.tdiv (Go.bits .or .u64 (ji12) (shr .u64 a1 (IntKind.u64.wrap (64 - (ji8))))) ((ji10) / 4294967296))) * ((ji10) / 4294967296))))))) else (none)) = some (r1, r2) := by first | (rw [hji12] at H; exact H) | (simp only [hji12] at H ⊢; exact H)
     (try rw [hji12] at A7)
     have hji12_ : (IntKind.u64.wrap (a0 * 2 ^ min (ji8).toNat 64)) = ji12 := hji12
     have hji12z : (ji8) ≤ 64 → (IntKind.u64.wrap (a0 * 2 ^ (ji8).toNat)) = ji12 := shl_small hji12
     obtain ⟨ji13, hji13⟩ : ∃ j_ : Int, (IntKind.u64.wrap (64 - (ji8))) = j_ := ⟨_, rfl⟩
     replace H : (if 0 ≤ (ji13) then (if ((ji10) / 4294967296) = 0 then (none) else (bits_Div64.l0 k ji10 ji8 ((ji10) / 4294967296) (Go.bits .and .u64 (ji10) 4294967295) (Go.bits .or .u64 (ji12) (shr .u64 a1 (ji13))) ((shl .u64 a1 (ji8)) / 4294967296) (Go.bits .and .u64 (shl .u64 a1 (ji8)) 4294967295) (IntKind.u64.wrap (Int.tdiv (Go.bits .or .u64 (ji12) (shr .u64 a1 (ji13))) ((ji10) / 4294967296))) (IntKind.u64.wrap ((Go.bits .or .u64 (ji12) (shr .u64 a1 (ji13))) - (IntKind.u64.wrap ((IntKind.u64.wrap (Int.tdiv (Go.bits .or .u64 (ji12) (shr .u64 a1 (ji13))) ((ji10) / 4294967296))) * ((ji10) / 4294967296))))))) else (none)) = some (r1, r2) := by first | (rw [hji13] at H; exact H) | (simp only [hji13] at H ⊢; exact H)
     (try rw [hji13] at A7)
     by_cases c14 : 0 ≤ (ji13)
     ·rw [if_pos c14] at H
      have c14b0 := eq_true c14
      have c14b1 : decide (0 ≤ (ji13)) = true := decide_eq_true c14
      clear c14
      obtain ⟨ji15, hji15⟩ : ∃ j_ : Int, (shr .u64 a1 (ji13)) = j_ := ⟨_, rfl⟩
      replace H : (if ((ji10) / 4294967296) = 0 then (none) else (bits_Div64.l0 k ji10 ji8 ((ji10) / 4294967296) (Go.bits .and .u64 (ji10) 4294967295) (Go.bits .or .u64 (ji12) (ji15)) ((shl .u64 a1 (ji8)) / 4294967296) (Go.bits .and .u64 (shl .u64 a1 (ji8)) 4294967295) (IntKind.u64.wrap (Int.tdiv (Go.bits .or .u64 (ji12) (ji15)) ((ji10) / 4294967296))) (IntKind.u64.wrap ((Go.bits .or .u64 (ji12) (ji15)) - (IntKind.u64.wrap ((IntKind.u64.wrap (Int.tdiv (Go.bits .or .u64 (ji12) (ji15)) ((ji10) / 4294967296))) * ((ji10) / 4294967296))))))) = some (r1, r2) := by first | (rw [hji15] at H; exact H) | (simp only [hji15] at H ⊢; exact H)
      (try rw [hji15] at A7)
      have hji15_ : (a1 / 2 ^ min (ji13).toNat 64) = ji15 := hji15
      have hji15z : (ji13) ≤ 64 → (a1 / 2 ^ (ji13).toNat) = ji15 := shr_small hji15
      have c16b0 := eq_true (of_decide_eq_true (by first | (with_reducible assumption) | assumption) : 0 ≤ (ji8))
      obtain ⟨ji17, hji17⟩ : ∃ j_ : Int, (shl .u64 a1 (ji8)) = j_ := ⟨_, rfl⟩
      replace H : (if ((ji10) / 4294967296) = 0 then (none) else (bits_Div64.l0 k ji10 ji8 ((ji10) / 4294967296) (Go.bits .and .u64 (ji10) 4294967295) (Go.bits .or .u64 (ji12) (ji15)) ((ji17) / 4294967296) (Go.bits .and .u64 (ji17) 4294967295) (IntKind.u64.wrap (Int.tdiv (Go.bits .or .u64 (ji12) (ji15)) ((ji10) / 4294967296))) (IntKind.u64.wrap ((Go.bits .or .u64 (ji12) (ji15)) - (IntKind.u64.wrap ((IntKind.u64.wrap (Int.tdiv (Go.bits .or .u64 (ji12) (ji15)) ((ji10) / 4294967296))) * ((ji10) / 4294967296))))))) = some (r1, r2) := by first | (rw [hji17] at H; exact H) | (simp only [hji17] at H ⊢; exact H)
      (try rw [hji17] at A7)
      have hji17_ : (IntKind.u64.wrap (a1 * 2 ^ min (ji8).toNat 64)) = ji17 := hji17
      have hji17z : (ji8) ≤ 64 → (IntKind.u64.wrap (a1 * 2 ^ (ji8).toNat)) = ji17 := shl_small hji17
      by_cases c18 : ((ji10) / 4294967296) = 0
      ·rw [if_pos c18] at H
       exact absurd H (by simp)
      ·rw [if_neg c18] at H
       have c18b0 : (((ji10) / 4294967296) == 0) = false := beq_eq_false_iff_ne.mpr c18
       have c18b1 : (((ji10) / 4294967296) != 0) = true := bne_iff_ne.mpr c18
       have HC19 := As0.mk H
       clear H
       go_enter Try.func68, Try.ntmps68
       go_upto_block 0 with (first | (go_at_call 67; (with_reducible refine (bits_LeadingZeros64.calls a2 t188 _ A7.out).mono ?_); rintro e w' ⟨rfl, ⟨nd, rfl⟩⟩; (try first | exact ⟨rfl, _, World.drewN_drewN _ _ _⟩ | exact ⟨rfl, _, Eq.trans (World.drewN_drewN _ _ _) (congrArg (World.drewN _) (Nat.add_assoc _ _ _))⟩)))
       repeat (go_quiet (first | (go_at_call 67; (with_reducible refine (bits_LeadingZeros64.calls a2 t188 _ A7.out).mono ?_); rintro e w' ⟨rfl, ⟨nd, rfl⟩⟩; (try first | exact ⟨rfl, _, World.drewN_drewN _ _ _⟩ | exact ⟨rfl, _, Eq.trans (World.drewN_drewN _ _ _) (congrArg (World.drewN _) (Nat.add_assoc _ _ _))⟩))); go_upto_block 0 with (first | (go_at_call 67; (with_reducible refine (bits_LeadingZeros64.calls a2 t188 _ A7.out).mono ?_); rintro e w' ⟨rfl, ⟨nd, rfl⟩⟩; (try first | exact ⟨rfl, _, World.drewN_drewN _ _ _⟩ | exact ⟨rfl, _, Eq.trans (World.drewN_drewN _ _ _) (congrArg (World.drewN _) (Nat.add_assoc _ _ _))⟩))))
       (try simp only [Act.put, zsi, zcz, zcs])
       go_cut [15] (fun v15 wc => ∃ (kq : Nat) (x15_18 : Int), v15 = .int .u64 x15_18 ∧ As0 (bits_Div64.j2 kq ji10 ji8 ((ji10) / 4294967296) (Go.bits .and .u64 (ji10) 4294967295) (Go.bits .or .u64 (ji12) (ji15)) ((ji17) / 4294967296) (Go.bits .and .u64 (ji17) 4294967295) x15_18 = some (r1, r2)) ∧ As0 (kq ≤ k) ∧ Drawn0 w wc)
       case first =>
        have H := HC19.out
        clear HC19
        have H' := As0.mk H
        clear H
        go_wp2
        repeat (go_quiet (fail); try go_wp2)
        go_loopg [15, 16] k (fun kq v15 v16 w' => ∃ (x15_1 : Int) (x16_1 : Int), v15 = .int .u64 x15_1 ∧ v16 = .int .u64 x16_1 ∧ As0 (bits_Div64.l0 kq ji10 ji8 ((ji10) / 4294967296) (Go.bits .and .u64 (ji10) 4294967295) (Go.bits .or .u64 (ji12) (ji15)) ((ji17) / 4294967296) (Go.bits .and .u64 (ji17) 4294967295) x15_1 x16_1 = some (r1, r2)) ∧ As0 (kq ≤ k) ∧ Drawn0 w w')
        case atStart => exact ⟨(IntKind.u64.wrap (Int.tdiv (Go.bits .or .u64 (ji12) (ji15)) ((ji10) / 4294967296))), (IntKind.u64.wrap ((Go.bits .or .u64 (ji12) (ji15)) - (IntKind.u64.wrap ((IntKind.u64.wrap (Int.tdiv (Go.bits .or .u64 (ji12) (ji15)) ((ji10) / 4294967296))) * ((ji10) / 4294967296))))), (by first | rfl | (simp; done) | (simp only [← hji10, ← hji12, ← hji15] <;> (first | rfl | simp)) | (simp [*]; done)), (by first | rfl | (simp; done) | (simp only [← hji10, ← hji12, ← hji15] <;> (first | rfl | simp)) | (simp [*]; done)), H', ⟨Nat.le_refl _⟩, by repeat (first | exact Drawn0.refl _ | apply Drawn0.step)⟩
        case round =>
         clear H'
         try clear c1
         try clear p2
         try clear c4
         try clear c4b0
         try clear c4b1
         try clear c5
         try clear c5b0
         try clear c6
         try clear c6b0
         try clear c6b1
         try clear c9
         try clear c9b0
         try clear c9b1
         try clear c11
         try clear c11b0
         try clear c14
         try clear c14b0
         try clear c14b1
         try clear c16
         try clear c16b0
         try clear c18
         try clear c18b0
         try clear c18b1
         obtain ⟨x15_1, x16_1, rfl, rfl, HA, HK1, ⟨m1, rfl⟩⟩ := hrel
         cases gk with
         | zero => exact absurd HA.out (by simp [bits_Div64.l0])
         | succ k1 =>
          have H := HA.out
          clear HA
          simp only [bits_Div64.l0] at H
          have HC20 := As0.mk H
          clear H
          go_upto_region 17 with (fail)
          repeat (go_quiet (fail); go_upto_region 17 with (fail))
          go_cut [78] (fun v78 wc => ∃ (kq : Nat) (x78_19 : Bool), v78 = .bool x78_19 ∧ As0 (bits_Div64.j1 kq ji10 ji8 ((ji10) / 4294967296) (Go.bits .and .u64 (ji10) 4294967295) (Go.bits .or .u64 (ji12) (ji15)) ((ji17) / 4294967296) (Go.bits .and .u64 (ji17) 4294967295) x15_1 x16_1 x78_19 = some (r1, r2)) ∧ As0 (kq ≤ k1) ∧ Drawn0 w wc)
          case first =>
           have H := HC20.out
           clear HC20
           by_cases c21 : x15_1 ≥ 4294967296
           ·rw [if_pos c21] at H
            have c21b0 : decide (4294967296 ≤ x15_1) = true := decide_eq_true c21
            clear c21
            (first | rw [c21b0] | (simp only [i64_w, i32_w]; rw [c21b0]) | skip)
            have H' := As0.mk H
            clear H
            go_wp2
            repeat (go_quiet (fail); try go_wp2)
            go_meet
            case rel => exact ⟨_, (true), (by first | rfl | (simp; done) | (simp [*]; done)), H', ⟨by have := HK1.out; first | omega | exact Nat.le_refl _⟩, by repeat (first | exact Drawn0.refl _ | apply Drawn0.step)⟩
           ·rw [if_neg c21] at H
            have c21b0 : decide (4294967296 ≤ x15_1) = false := decide_eq_false c21
            clear c21
            (first | rw [c21b0] | (simp only [i64_w, i32_w]; rw [c21b0]) | skip)
            have H' := As0.mk H
            clear H
            go_wp2
            repeat (go_quiet (fail); try go_wp2)
            go_meet
            case rel => exact ⟨_, (decide ((IntKind.u64.wrap (x15_1 * (Go.bits .and .u64 (ji10) 4294967295))) > (IntKind.u64.wrap ((IntKind.u64.wrap (4294967296 * x16_1)) + ((ji17) / 4294967296))))), (by first | rfl | (simp; done) | (simp only [← hji10, ← hji17] <;> (first | rfl | simp)) | (simp [*]; done)), H', ⟨by have := HK1.out; first | omega | exact Nat.le_refl _⟩, by repeat (first | exact Drawn0.refl _ | apply Drawn0.step)⟩
          case rest =>
           clear HC20
           try clear c1
           try clear c2
           try clear p2
           try clear c4
           try clear c4b0
           try clear c4b1
           try clear c5
           try clear c5b0
           try clear c6
           try clear c6b0
           try clear c6b1
           try clear c9
           try clear c9b0
           try clear c9b1
           try clear c11
           try clear c11b0
           try clear c14
           try clear c14b0
           try clear c14b1
           try clear c16
           try clear c16b0
           try clear c18
           try clear c18b0
           try clear c18b1
           try clear c21
           try clear c21b0
           try clear p2
           obtain ⟨kq, x78_19, rfl, HA, HJ19, ⟨mc19, rfl⟩⟩ := hcut
           cases kq with
           | zero => exact absurd HA.out (by simp [bits_Div64.j1])
           | succ kj19 =>
            have H := HA.out
            clear HA
            simp only [bits_Div64.j1] at H
            by_cases c22 : x78_19 = true
            ·subst c22
             have H1 : (if (IntKind.u64.wrap (x16_1 + ((ji10) / 4294967296))) ≥ 4294967296 then (bits_Div64.j2 kj19 ji10 ji8 ((ji10) / 4294967296) (Go.bits .and .u64 (ji10) 4294967295) (Go.bits .or .u64 (ji12) (ji15)) ((ji17) / 4294967296) (Go.bits .and .u64 (ji17) 4294967295) (IntKind.u64.wrap (x15_1 - 1))) else (bits_Div64.l0 kj19 ji10 ji8 ((ji10) / 4294967296) (Go.bits .and .u64 (ji10) 4294967295) (Go.bits .or .u64 (ji12) (ji15)) ((ji17) / 4294967296) (Go.bits .and .u64 (ji17) 4294967295) (IntKind.u64.wrap (x15_1 - 1)) (IntKind.u64.wrap (x16_1 + ((ji10) / 4294967296))))) = some (r1, r2) := by rw [if_pos rfl] at H; exact H
             clear H
             have H := H1
             clear H1
             by_cases c23 : (IntKind.u64.wrap (x16_1 + ((ji10) / 4294967296))) ≥ 4294967296
             ·rw [if_pos c23] at H
              have c23b0 : decide (4294967296 ≤ (IntKind.u64.wrap (x16_1 + ((ji10) / 4294967296)))) = true := decide_eq_true c23
              clear c23
              have H' := As0.mk H
              clear H
              go_wp2
              repeat (go_quiet (fail); try go_wp2)
              go_meet
              case rel => exact ⟨_, (IntKind.u64.wrap (x15_1 - 1)), (by first | rfl | (simp; done) | (simp [*]; done)), H', ⟨by have := HK1.out; have := HJ19.out; first | omega | exact Nat.le_refl _⟩, by repeat (first | exact Drawn0.refl _ | apply Drawn0.step)⟩
             ·rw [if_neg c23] at H
              have c23b0 : decide (4294967296 ≤ (IntKind.u64.wrap (x16_1 + ((ji10) / 4294967296)))) = false := decide_eq_false c23
              clear c23
              have H' := As0.mk H
              clear H
              go_wp2
              repeat (go_quiet (fail); try go_wp2)
              go_roundg kj19
              case measure => have := HK1.out; have := HJ19.out; omega
              case rel => exact ⟨(IntKind.u64.wrap (x15_1 - 1)), (IntKind.u64.wrap (x16_1 + ((ji10) / 4294967296))), (by first | rfl | (simp; done) | (simp [*]; done)), (by first | rfl | (simp; done) | (simp only [← hji10] <;> (first | rfl | simp)) | (simp [*]; done)), H', ⟨by have := HK1.out; have := HJ19.out; omega⟩, by repeat (first | exact Drawn0.refl _ | apply Drawn0.step)⟩
            ·replace c22 := Bool.eq_false_iff.mpr c22
             subst c22
             have H1 : (bits_Div64.j2 kj19 ji10 ji8 ((ji10) / 4294967296) (Go.bits .and .u64 (ji10) 4294967295) (Go.bits .or .u64 (ji12) (ji15)) ((ji17) / 4294967296) (Go.bits .and .u64 (ji17) 4294967295) x15_1) = some (r1, r2) := by rw [if_neg (show ¬ (false = true) by decide)] at H; exact H
             clear H
             have H := H1
             clear H1
             have H' := As0.mk H
             clear H
             go_wp2
             repeat (go_quiet (fail); try go_wp2)
             go_meet
             case rel => exact ⟨_, (x15_1), (by first | rfl | (simp; done) | (simp [*]; done)), H', ⟨by have := HK1.out; have := HJ19.out; first | omega | exact Nat.le_refl _⟩, by repeat (first | exact Drawn0.refl _ | apply Drawn0.step)⟩
       case rest =>
        clear HC19
        try clear c1
        try clear c2
        try clear p2
        try clear c4
        try clear c4b0
        try clear c4b1
        try clear c5
        try clear c5b0
        try clear c6
        try clear c6b0
        try clear c6b1
        try clear c9
        try clear c9b0
        try clear c9b1
        try clear c11
        try clear c11b0
        try clear c14
        try clear c14b0
        try clear c14b1
        try clear c16
        try clear c16b0
        try clear c18
        try clear c18b0
        try clear c18b1
        try clear c19
        try clear c21
        try clear c21b0
        try clear c22
        try clear c23
        try clear c23b0
        try clear p2
        obtain ⟨kq, x15_18, rfl, HA, HJ18, ⟨mc18, rfl⟩⟩ := hcut
        cases kq with
        | zero => exact absurd HA.out (by simp [bits_Div64.j2])
        | succ kj18 =>
         have H := HA.out
         clear HA
         simp only [bits_Div64.j2] at H
         by_cases c24 : ((ji10) / 4294967296) = 0
         ·rw [if_pos c24] at H
          exact absurd H (by simp)
         ·rw [if_neg c24] at H
          have c24b0 : (((ji10) / 4294967296) == 0) = false := beq_eq_false_iff_ne.mpr c24
          have c24b1 : (((ji10) / 4294967296) != 0) = true := bne_iff_ne.mpr c24
          have H' := As0.mk H
          clear H
          go_wp2
          repeat (go_quiet (fail); try go_wp2)
          go_loopg [16, 18] kj18 (fun kq v16 v18 w' => ∃ (x16_2 : Int) (x18_2 : Int), v16 = .int .u64 x16_2 ∧ v18 = .int .u64 x18_2 ∧ As0 (bits_Div64.l1 kq ji10 ji8 ((ji10) / 4294967296) (Go.bits .and .u64 (ji10) 4294967295) (Go.bits .and .u64 (ji17) 4294967295) x15_18 x16_2 (IntKind.u64.wrap ((IntKind.u64.wrap ((IntKind.u64.wrap ((Go.bits .or .u64 (ji12) (ji15)) * 4294967296)) + ((ji17) / 4294967296))) - (IntKind.u64.wrap (x15_18 * ji10)))) x18_2 = some (r1, r2)) ∧ As0 (kq ≤ kj18) ∧ Drawn0 w w')
          case atStart => exact ⟨(IntKind.u64.wrap ((IntKind.u64.wrap ((IntKind.u64.wrap ((IntKind.u64.wrap ((Go.bits .or .u64 (ji12) (ji15)) * 4294967296)) + ((ji17) / 4294967296))) - (IntKind.u64.wrap (x15_18 * ji10)))) - (IntKind.u64.wrap ((IntKind.u64.wrap (Int.tdiv (IntKind.u64.wrap ((IntKind.u64.wrap ((IntKind.u64.wrap ((Go.bits .or .u64 (ji12) (ji15)) * 4294967296)) + ((ji17) / 4294967296))) - (IntKind.u64.wrap (x15_18 * ji10)))) ((ji10) / 4294967296))) * ((ji10) / 4294967296))))), (IntKind.u64.wrap (Int.tdiv (IntKind.u64.wrap ((IntKind.u64.wrap ((IntKind.u64.wrap ((Go.bits .or .u64 (ji12) (ji15)) * 4294967296)) + ((ji17) / 4294967296))) - (IntKind.u64.wrap (x15_18 * ji10)))) ((ji10) / 4294967296))), (by first | rfl | (simp; done) | (simp only [← hji10, ← hji12, ← hji15, ← hji17] <;> (first | rfl | simp)) | (simp [*]; done)), (by first | rfl | (simp; done) | (simp only [← hji10, ← hji12, ← hji15, ← hji17] <;> (first | rfl | simp)) | (simp [*]; done)), H', ⟨Nat.le_refl _⟩, by repeat (first | exact Drawn0.refl _ | apply Drawn0.step)⟩
          case round =>
           clear H'
           try clear c1
           try clear c2
           try clear p2
           try clear c4
           try clear c4b0
           try clear c4b1
           try clear c5
           try clear c5b0
           try clear c6
           try clear c6b0
           try clear c6b1
           try clear c9
           try clear c9b0
           try clear c9b1
           try clear c11
           try clear c11b0
           try clear c14
           try clear c14b0
           try clear c14b1
           try clear c16
           try clear c16b0
           try clear c18
           try clear c18b0
           try clear c18b1
           try clear c19
           try clear c21
           try clear c21b0
           try clear c22
           try clear c23
           try clear c23b0
           try clear c24
           try clear c24b0
           try clear c24b1
           try clear p2
           obtain ⟨x16_2, x18_2, rfl, rfl, HA, HK2, ⟨m2, rfl⟩⟩ := hrel
           cases gk with
           | zero => exact absurd HA.out (by simp [bits_Div64.l1])
           | succ k2 =>
            have H := HA.out
            clear HA
            simp only [bits_Div64.l1] at H
            have HC25 := As0.mk H
            clear H
            go_upto_region 24 with (fail)
            repeat (go_quiet (fail); go_upto_region 24 with (fail))
            go_cut [113] (fun v113 wc => ∃ (kq : Nat) (x113_24 : Bool), v113 = .bool x113_24 ∧ As0 (bits_Div64.j4 kq ji10 ji8 ((ji10) / 4294967296) (Go.bits .and .u64 (ji10) 4294967295) (Go.bits .and .u64 (ji17) 4294967295) x15_18 x16_2 (IntKind.u64.wrap ((IntKind.u64.wrap ((IntKind.u64.wrap ((Go.bits .or .u64 (ji12) (ji15)) * 4294967296)) + ((ji17) / 4294967296))) - (IntKind.u64.wrap (x15_18 * ji10)))) x18_2 x113_24 = some (r1, r2)) ∧ As0 (kq ≤ k2) ∧ Drawn0 w wc)
            case first =>
             have H := HC25.out
             clear HC25
             by_cases c26 : x18_2 ≥ 4294967296
             ·rw [if_pos c26] at H
              have c26b0 : decide (4294967296 ≤ x18_2) = true := decide_eq_true c26
              clear c26
              (first | rw [c26b0] | (simp only [i64_w, i32_w]; rw [c26b0]) | skip)
              have H' := As0.mk H
              clear H
              go_wp2
              repeat (go_quiet (fail); try go_wp2)
              go_meet
              case rel => exact ⟨_, (true), (by first | rfl | (simp; done) | (simp [*]; done)), H', ⟨by have := HJ18.out; have := HK2.out; first | omega | exact Nat.le_refl _⟩, by repeat (first | exact Drawn0.refl _ | apply Drawn0.step)⟩
             ·rw [if_neg c26] at H
              have c26b0 : decide (4294967296 ≤ x18_2) = false := decide_eq_false c26
              clear c26
              (first | rw [c26b0] | (simp only [i64_w, i32_w]; rw [c26b0]) | skip)
              have H' := As0.mk H
              clear H
              go_wp2
              repeat (go_quiet (fail); try go_wp2)
              go_meet
              case rel => exact ⟨_, (decide ((IntKind.u64.wrap (x18_2 * (Go.bits .and .u64 (ji10) 4294967295))) > (IntKind.u64.wrap ((IntKind.u64.wrap (4294967296 * x16_2)) + (Go.bits .and .u64 (ji17) 4294967295))))), (by first | rfl | (simp; done) | (simp only [← hji10, ← hji17] <;> (first | rfl | simp)) | (simp [*]; done)), H', ⟨by have := HJ18.out; have := HK2.out; first | omega | exact Nat.le_refl _⟩, by repeat (first | exact Drawn0.refl _ | apply Drawn0.step)⟩
            case rest =>
             clear HC25
             try clear c1
             try clear c2
             try clear p2
             try clear c4
             try clear c4b0
             try clear c4b1
             try clear c5
             try clear c5b0
             try clear c6
             try clear c6b0
             try clear c6b1
             try clear c9
             try clear c9b0
             try clear c9b1
             try clear c11
             try clear c11b0
             try clear c14
             try clear c14b0
             try clear c14b1
             try clear c16
             try clear c16b0
             try clear c18
             try clear c18b0
             try clear c18b1
             try clear c19
             try clear c21
             try clear c21b0
             try clear c22
             try clear c23
             try clear c23b0
             try clear c24
             try clear c24b0
             try clear c24b1
             try clear c26
             try clear c26b0
             try clear p2
             obtain ⟨kq, x113_24, rfl, HA, HJ24, ⟨mc24, rfl⟩⟩ := hcut
             cases kq with
             | zero => exact absurd HA.out (by simp [bits_Div64.j4])
             | succ kj24 =>
              have H := HA.out
              clear HA
              simp only [bits_Div64.j4] at H
              by_cases c27 : x113_24 = true
              ·subst c27
               have H1 : (if (IntKind.u64.wrap (x16_2 + ((ji10) / 4294967296))) ≥ 4294967296 then (if 0 ≤ ji8 then (some (IntKind.u64.wrap ((IntKind.u64.wrap (x15_18 * 4294967296)) + (IntKind.u64.wrap (x18_2 - 1))), shr .u64 (IntKind.u64.wrap ((IntKind.u64.wrap ((IntKind.u64.wrap ((IntKind.u64.wrap ((IntKind.u64.wrap ((IntKind.u64.wrap ((Go.bits .or .u64 (ji12) (ji15)) * 4294967296)) + ((ji17) / 4294967296))) - (IntKind.u64.wrap (x15_18 * ji10)))) * 4294967296)) + (Go.bits .and .u64 (ji17) 4294967295))) - (IntKind.u64.wrap ((IntKind.u64.wrap (x18_2 - 1)) * ji10)))) ji8)) else (none)) else (bits_Div64.l1 kj24 ji10 ji8 ((ji10) / 4294967296) (Go.bits .and .u64 (ji10) 4294967295) (Go.bits .and .u64 (ji17) 4294967295) x15_18 (IntKind.u64.wrap (x16_2 + ((ji10) / 4294967296))) (IntKind.u64.wrap ((IntKind.u64.wrap ((IntKind.u64.wrap ((Go.bits .or .u64 (ji12) (ji15)) * 4294967296)) + ((ji17) / 4294967296))) - (IntKind.u64.wrap (x15_18 * ji10)))) (IntKind.u64.wrap (x18_2 - 1)))) = some (r1, r2) := by rw [if_pos rfl] at H; exact H
               clear H
               have H := H1
               clear H1
               by_cases c28 : (IntKind.u64.wrap (x16_2 + ((ji10) / 4294967296))) ≥ 4294967296
               ·rw [if_pos c28] at H
                have c28b0 : decide (4294967296 ≤ (IntKind.u64.wrap (x16_2 + ((ji10) / 4294967296)))) = true := decide_eq_true c28
                clear c28
                by_cases c29 : 0 ≤ ji8
                ·rw [if_pos c29] at H
                 have c29b0 := eq_true c29
                 have c29b1 : decide (0 ≤ ji8) = true := decide_eq_true c29
                 clear c29
                 obtain ⟨ji30, hji30⟩ : ∃ j_ : Int, (shr .u64 (IntKind.u64.wrap ((IntKind.u64.wrap ((IntKind.u64.wrap ((IntKind.u64.wrap ((IntKind.u64.wrap ((IntKind.u64.wrap ((Go.bits .or .u64 (ji12) (ji15)) * 4294967296)) + ((ji17) / 4294967296))) - (IntKind.u64.wrap (x15_18 * ji10)))) * 4294967296)) + (Go.bits .and .u64 (ji17) 4294967295))) - (IntKind.u64.wrap ((IntKind.u64.wrap (x18_2 - 1)) * ji10)))) ji8) = j_ := ⟨_, rfl⟩
                 replace H : (some (IntKind.u64.wrap ((IntKind.u64.wrap (x15_18 * 4294967296)) + (IntKind.u64.wrap (x18_2 - 1))), ji30)) = some (r1, r2) := by first | (rw [hji30] at H; exact H) | (simp only [hji30] at H ⊢; exact H)
                 have hji30_ : ((IntKind.u64.wrap ((IntKind.u64.wrap ((IntKind.u64.wrap ((IntKind.u64.wrap ((IntKind.u64.wrap ((IntKind.u64.wrap ((Go.bits .or .u64 (ji12) (ji15)) * 4294967296)) + ((ji17) / 4294967296))) - (IntKind.u64.wrap (x15_18 * ji10)))) * 4294967296)) + (Go.bits .and .u64 (ji17) 4294967295))) - (IntKind.u64.wrap ((IntKind.u64.wrap (x18_2 - 1)) * ji10)))) / 2 ^ min ji8.toNat 64) = ji30 := hji30
                 have hji30z : ji8 ≤ 64 → ((IntKind.u64.wrap ((IntKind.u64.wrap ((IntKind.u64.wrap ((IntKind.u64.wrap ((IntKind.u64.wrap ((IntKind.u64.wrap ((Go.bits .or .u64 (ji12) (ji15)) * 4294967296)) + ((ji17) / 4294967296))) - (IntKind.u64.wrap (x15_18 * ji10)))) * 4294967296)) + (Go.bits .and .u64 (ji17) 4294967295))) - (IntKind.u64.wrap ((IntKind.u64.wrap (x18_2 - 1)) * ji10)))) / 2 ^ ji8.toNat) = ji30 := shr_small hji30
                 simp only [Option.some.injEq, Prod.mk.injEq] at H
                 obtain ⟨rfl, rfl⟩ := H
                 go_wp2
                 repeat (go_quiet (fail); try go_wp2)
                 go_ret2
                 exact ⟨by first | rfl | (simp; done) | (simp only [← hji8, ← hji10, ← hji12, ← hji13, ← hji15, ← hji17, ← hji30] <;> (first | rfl | simp)) | (simp [*]; done), by repeat (first | exact Drawn0.refl _ | apply Drawn0.step)⟩
                ·rw [if_neg c29] at H
                 exact absurd H (by simp)
               ·rw [if_neg c28] at H
                have c28b0 : decide (4294967296 ≤ (IntKind.u64.wrap (x16_2 + ((ji10) / 4294967296)))) = false := decide_eq_false c28
                clear c28
                have H' := As0.mk H
                clear H
                go_wp2
                repeat (go_quiet (fail); try go_wp2)
                go_roundg kj24
                case measure => have := HJ18.out; have := HK2.out; have := HJ24.out; omega
                case rel => exact ⟨(IntKind.u64.wrap (x16_2 + ((ji10) / 4294967296))), (IntKind.u64.wrap (x18_2 - 1)), (by first | rfl | (simp; done) | (simp only [← hji10] <;> (first | rfl | simp)) | (simp [*]; done)), (by first | rfl | (simp; done) | (simp [*]; done)), H', ⟨by have := HJ18.out; have := HK2.out; have := HJ24.out; omega⟩, by repeat (first | exact Drawn0.refl _ | apply Drawn0.step)⟩
              ·replace c27 := Bool.eq_false_iff.mpr c27
               subst c27
               have H1 : (if 0 ≤ ji8 then (some (IntKind.u64.wrap ((IntKind.u64.wrap (x15_18 * 4294967296)) + x18_2), shr .u64 (IntKind.u64.wrap ((IntKind.u64.wrap ((IntKind.u64.wrap ((IntKind.u64.wrap ((IntKind.u64.wrap ((IntKind.u64.wrap ((Go.bits .or .u64 (ji12) (ji15)) * 4294967296)) + ((ji17) / 4294967296))) - (IntKind.u64.wrap (x15_18 * ji10)))) * 4294967296)) + (Go.bits .and .u64 (ji17) 4294967295))) - (IntKind.u64.wrap (x18_2 * ji10)))) ji8)) else (none)) = some (r1, r2) := by rw [if_neg (show ¬ (false = true) by decide)] at H; exact H
               clear H
               have H := H1
               clear H1
               by_cases c31 : 0 ≤ ji8
               ·rw [if_pos c31] at H
                have c31b0 := eq_true c31
                have c31b1 : decide (0 ≤ ji8) = true := decide_eq_true c31
                clear c31
                obtain ⟨ji32, hji32⟩ : ∃ j_ : Int, (shr .u64 (IntKind.u64.wrap ((IntKind.u64.wrap ((IntKind.u64.wrap ((IntKind.u64.wrap ((IntKind.u64.wrap ((IntKind.u64.wrap ((Go.bits .or .u64 (ji12) (ji15)) * 4294967296)) + ((ji17) / 4294967296))) - (IntKind.u64.wrap (x15_18 * ji10)))) * 4294967296)) + (Go.bits .and .u64 (ji17) 4294967295))) - (IntKind.u64.wrap (x18_2 * ji10)))) ji8) = j_ := ⟨_, rfl⟩
                replace H : (some (IntKind.u64.wrap ((IntKind.u64.wrap (x15_18 * 4294967296)) + x18_2), ji32)) = some (r1, r2) := by first | (rw [hji32] at H; exact H) | (simp only [hji32] at H ⊢; exact H)
                have hji32_ : ((IntKind.u64.wrap ((IntKind.u64.wrap ((IntKind.u64.wrap ((IntKind.u64.wrap ((IntKind.u64.wrap ((IntKind.u64.wrap ((Go.bits .or .u64 (ji12) (ji15)) * 4294967296)) + ((ji17) / 4294967296))) - (IntKind.u64.wrap (x15_18 * ji10)))) * 4294967296)) + (Go.bits .and .u64 (ji17) 4294967295))) - (IntKind.u64.wrap (x18_2 * ji10)))) / 2 ^ min ji8.toNat 64) = ji32 := hji32
                have hji32z : ji8 ≤ 64 → ((IntKind.u64.wrap ((IntKind.u64.wrap ((IntKind.u64.wrap ((IntKind.u64.wrap ((IntKind.u64.wrap ((IntKind.u64.wrap ((Go.bits .or .u64 (ji12) (ji15)) * 4294967296)) + ((ji17) / 4294967296))) - (IntKind.u64.wrap (x15_18 * ji10)))) * 4294967296)) + (Go.bits .and .u64 (ji17) 4294967295))) - (IntKind.u64.wrap (x18_2 * ji10)))) / 2 ^ ji8.toNat) = ji32 := shr_small hji32
                simp only [Option.some.injEq, Prod.mk.injEq] at H
                obtain ⟨rfl, rfl⟩ := H
                go_wp2
                repeat (go_quiet (fail); try go_wp2)
                go_ret2
                exact ⟨by first | rfl | (simp; done) | (simp only [← hji8, ← hji10, ← hji12, ← hji13, ← hji15, ← hji17, ← hji32] <;> (first | rfl | simp)) | (simp [*]; done), by repeat (first | exact Drawn0.refl _ | apply Drawn0.step)⟩
               ·rw [if_neg c31] at H
                exact absurd H (by simp)
     ·rw [if_neg c14] at H
      exact absurd H (by simp)
    ·rw [if_neg c9] at H
     exact absurd H (by simp)
end Go.Proofs.Ytjfmomogidgbpaa.PFl
namespace Go.Proofs.Ytjfmomogidgbpaa.PFl
open Go.RowKit Go.Proofs.YtjfmomogidgbpaaW.PrintWords Go.Proofs.YtjfmomogidgbpaaW.PrintLast Go.Proofs.YtjfmomogidgbpaaW.PrintMore
attribute [local go_sem] max2_int min2_int max_two min_two max_three min_three max_four min_four
set_option linter.unusedVariables false
set_option linter.unusedSimpArgs false
mutual
def ff_div.j0 : Nat → Int → Int → Bool → Int → Int → Int → Bool → Int → Int → Option (Int)
 | 0, _, _, _, _, _, _, _, _, _ => none
 | k + 1, x1, x2, x7, x8, x9, x10, x34, x190000, x190001 => if x34 = true then ((ff_nan.f x190000 x190001).bind fun t195 => (some t195)) else (if x8 = x10 then (ff_div.j1 k x1 x2 x7 x8 x9 x10 true x190000 x190001) else (ff_div.j1 k x1 x2 x7 x8 x9 x10 (x9 == 0) x190000 x190001))
def ff_div.j1 : Nat → Int → Int → Bool → Int → Int → Int → Bool → Int → Int → Option (Int)
 | 0, _, _, _, _, _, _, _, _, _ => none
 | k + 1, x1, x2, x7, x8, x9, x10, x53, x190000, x190001 => if x53 = true then ((ff_signed.f x190000 x190001 x7 x10).bind fun t196 => (some t196)) else (if x9 = x10 then ((ff_signed.f x190000 x190001 x7 0).bind fun t197 => (some t197)) else (if x8 = 0 then ((ff_signed.f x190000 x190001 x7 0).bind fun t198 => (some t198)) else ((ff_parts.f x190000 x190001 x1).bind fun bt199 => ((ff_parts.f x190000 x190001 x2).bind fun bt201 => ((bits_LeadingZeros64.f bt199.1).bind fun t203 => ((bits_LeadingZeros64.f bt201.1).bind fun t204 => (if 0 ≤ (IntKind.u64.wrap (t203)) then (if 0 ≤ (IntKind.u64.wrap (t204)) then (if (shl .u64 bt199.1 (IntKind.u64.wrap (t203))) ≥ (shl .u64 bt201.1 (IntKind.u64.wrap (t204))) then ((bits_Div64.f k ((shl .u64 bt199.1 (IntKind.u64.wrap (t203))) / 2) 0 (shl .u64 bt201.1 (IntKind.u64.wrap (t204)))).bind fun bt205 => ((ff_round.f k x190000 x190001 x7 bt205.1 (wrap64 ((wrap64 ((wrap64 ((wrap64 (bt199.2 - t203)) + 1)) - (wrap64 (bt201.2 - t204)))) - 64)) (bt205.2 != 0)).bind fun t207 => (some t207))) else ((bits_Div64.f k (shl .u64 bt199.1 (IntKind.u64.wrap (t203))) 0 (shl .u64 bt201.1 (IntKind.u64.wrap (t204)))).bind fun bt208 => ((ff_round.f k x190000 x190001 x7 bt208.1 (wrap64 ((wrap64 ((wrap64 (bt199.2 - t203)) - (wrap64 (bt201.2 - t204)))) - 64)) (bt208.2 != 0)).bind fun t210 => (some t210)))) else (none)) else (none))))))))
end
def ff_div.f (k : Nat) (a0_0 : Int) (a0_1 : Int) (a1 : Int) (a2 : Int) : Option (Int) := (ff_neg.f a0_0 a0_1 a1).bind fun t190 => ((ff_neg.f a0_0 a0_1 a2).bind fun t191 => ((ff_size.f a0_0 a0_1 a1).bind fun t192 => ((ff_size.f a0_0 a0_1 a2).bind fun t193 => ((ff_infinity.f a0_0 a0_1).bind fun t194 => (if t192 = t194 then (if t193 = t194 then (ff_div.j0 k a1 a2 (t190 != t191) t192 t193 t194 true a0_0 a0_1) else (if t192 = 0 then (ff_div.j0 k a1 a2 (t190 != t191) t192 t193 t194 (t193 == 0) a0_0 a0_1) else (ff_div.j0 k a1 a2 (t190 != t191) t192 t193 t194 false a0_0 a0_1))) else (if t192 = 0 then (ff_div.j0 k a1 a2 (t190 != t191) t192 t193 t194 (t193 == 0) a0_0 a0_1) else (ff_div.j0 k a1 a2 (t190 != t191) t192 t193 t194 false a0_0 a0_1)))))))
theorem ff_div.mono_l : ∀ k, (∀ y0 y1 y2 y3 y4 y5 y6 y7 y8, LeO (ff_div.j0 k y0 y1 y2 y3 y4 y5 y6 y7 y8) (ff_div.j0 (k + 1) y0 y1 y2 y3 y4 y5 y6 y7 y8)) ∧ (∀ y0 y1 y2 y3 y4 y5 y6 y7 y8, LeO (ff_div.j1 k y0 y1 y2 y3 y4 y5 y6 y7 y8) (ff_div.j1 (k + 1) y0 y1 y2 y3 y4 y5 y6 y7 y8)) := by
 intro k
 induction k with
 | zero => exact ⟨fun _ _ _ _ _ _ _ _ _ r h => by simp [ff_div.j0] at h, fun _ _ _ _ _ _ _ _ _ r h => by simp [ff_div.j1] at h⟩
 | succ k ih =>
  obtain ⟨ih0, ih1⟩ := ih
  refine ⟨?_, ?_⟩
  ·intro y0 y1 y2 y3 y4 y5 y6 y7 y8
   unfold ff_div.j0
   repeat' first
   | (with_reducible exact ih0 _ _ _ _ _ _ _ _ _)
   | (with_reducible exact ih1 _ _ _ _ _ _ _ _ _)
   | (with_reducible exact bits_Div64.mono _ _ _ _)
   | (with_reducible exact ff_round.mono _ _ _ _ _ _ _)
   | (with_reducible exact LeO.refl _)
   | (with_reducible exact LeO.none _)
   | (with_reducible refine LeO.ite ?_ ?_)
   | (with_reducible refine LeO.bind ?_ (fun _ => ?_))
   | exact ih0 _ _ _ _ _ _ _ _ _
   | exact ih1 _ _ _ _ _ _ _ _ _
   | exact bits_Div64.mono _ _ _ _
   | exact ff_round.mono _ _ _ _ _ _ _
   | exact LeO.none _
   | refine LeO.ite ?_ ?_
   | refine LeO.bind ?_ (fun _ => ?_)
  ·intro y0 y1 y2 y3 y4 y5 y6 y7 y8
   unfold ff_div.j1
   repeat' first
   | (with_reducible exact ih0 _ _ _ _ _ _ _ _ _)
   | (with_reducible exact ih1 _ _ _ _ _ _ _ _ _)
   | (with_reducible exact bits_Div64.mono _ _ _ _)
   | (with_reducible exact ff_round.mono _ _ _ _ _ _ _)
   | (with_reducible exact LeO.refl _)
   | (with_reducible exact LeO.none _)
   | (with_reducible refine LeO.ite ?_ ?_)
   | (with_reducible refine LeO.bind ?_ (fun _ => ?_))
   | exact ih0 _ _ _ _ _ _ _ _ _
   | exact ih1 _ _ _ _ _ _ _ _ _
   | exact bits_Div64.mono _ _ _ _
   | exact ff_round.mono _ _ _ _ _ _ _
   | exact LeO.none _
   | refine LeO.ite ?_ ?_
   | refine LeO.bind ?_ (fun _ => ?_)
theorem ff_div.mono : ∀ a0 a1 a2 a3 k, LeO (ff_div.f k a0 a1 a2 a3) (ff_div.f (k + 1) a0 a1 a2 a3) := by
 intro a0 a1 a2 a3 k
 obtain ⟨ih0, ih1⟩ := ff_div.mono_l k
 unfold ff_div.f
 repeat' first
   | (with_reducible exact ih0 _ _ _ _ _ _ _ _ _)
   | (with_reducible exact ih1 _ _ _ _ _ _ _ _ _)
   | (with_reducible exact bits_Div64.mono _ _ _ _)
   | (with_reducible exact ff_round.mono _ _ _ _ _ _ _)
   | (with_reducible exact LeO.refl _)
   | (with_reducible exact LeO.none _)
   | (with_reducible refine LeO.ite ?_ ?_)
   | (with_reducible refine LeO.bind ?_ (fun _ => ?_))
   | exact ih0 _ _ _ _ _ _ _ _ _
   | exact ih1 _ _ _ _ _ _ _ _ _
   | exact bits_Div64.mono _ _ _ _
   | exact ff_round.mono _ _ _ _ _ _ _
   | exact LeO.none _
   | refine LeO.ite ?_ ?_
   | refine LeO.bind ?_ (fun _ => ?_)
def ff_div.T1 : Bool × List (List Nat × List Nat) := (true, [([], []), ([], []), ([0, 1], [0, 1]), ([], []), ([], []), ([3, 4, 2], [3, 4]), ([2, 5], [2, 5]), ([6, 5, 0, 1, 2, 3, 4, 5, 6], [6])])
def ff_div.B1 : List Nat := [0, 0, 3, 0, 0, 31, 63, 127]
theorem ff_div.tab1 : rtab .any (opsOf Try.f46 1) = ff_div.T1 := by kernel_rfl
theorem ff_div.bits1 : waitsOk ff_div.T1.2 ff_div.B1 = true := by kernel_rfl
def ff_div.T2 : Bool × List (List Nat × List Nat) := (true, [([], []), ([], []), ([0, 1], [0, 1]), ([], []), ([], []), ([3, 4, 2], [3, 4]), ([2, 5, 0, 1, 2], [2]), ([5, 6, 0, 1, 2, 3, 4, 5, 6], [5])])
def ff_div.B2 : List Nat := [0, 0, 3, 0, 0, 31, 63, 127]
theorem ff_div.tab2 : rtab .any (opsOf Try.f46 2) = ff_div.T2 := by kernel_rfl
theorem ff_div.bits2 : waitsOk ff_div.T2.2 ff_div.B2 = true := by kernel_rfl
set_option maxHeartbeats 8000000 in
set_option maxRecDepth 100000 in
theorem ff_div.calls (k : Nat) (a0_0 : Int) (a0_1 : Int) (a1 : Int) (a2 : Int) (r : Int) (w : World) (h : ff_div.f k a0_0 a0_1 a1 a2 = some r) :
  Calls Try.prog 46 #[.agg #[.int .i64 a0_0, .int .i64 a0_1], .int .u64 a1, .int .u64 a2] w fun e w' => e = .returned (.int .u64 r) ∧ Below w.heap.size w w' := by
 have hu43 := Try.underlying43
 have HB := As0.mk (Below.refl w.heap.size w)
 have H : ((ff_neg.f a0_0 a0_1 a1).bind fun t190 => ((ff_neg.f a0_0 a0_1 a2).bind fun t191 => ((ff_size.f a0_0 a0_1 a1).bind fun t192 => ((ff_size.f a0_0 a0_1 a2).bind fun t193 => ((ff_infinity.f a0_0 a0_1).bind fun t194 => (if t192 = t194 then (if t193 = t194 then (ff_div.j0 k a1 a2 (t190 != t191) t192 t193 t194 true a0_0 a0_1) else (if t192 = 0 then (ff_div.j0 k a1 a2 (t190 != t191) t192 t193 t194 (t193 == 0) a0_0 a0_1) else (ff_div.j0 k a1 a2 (t190 != t191) t192 t193 t194 false a0_0 a0_1))) else (if t192 = 0 then (ff_div.j0 k a1 a2 (t190 != t191) t192 t193 t194 (t193 == 0) a0_0 a0_1) else (ff_div.j0 k a1 a2 (t190 != t191) t192 t193 t194 false a0_0 a0_1)))))))) = some r := h
 clear h
 replace H := zob H
 obtain ⟨t190, A40, H⟩ := H
 replace H : ((ff_neg.f a0_0 a0_1 a2).bind fun t191 => ((ff_size.f a0_0 a0_1 a1).bind fun t192 => ((ff_size.f a0_0 a0_1 a2).bind fun t193 => ((ff_infinity.f a0_0 a0_1).bind fun t194 => (if t192 = t194 then (if t193 = t194 then (ff_div.j0 k a1 a2 (t190 != t191) t192 t193 t194 true a0_0 a0_1) else (if t192 = 0 then (ff_div.j0 k a1 a2 (t190 != t191) t192 t193 t194 (t193 == 0) a0_0 a0_1) else (ff_div.j0 k a1 a2 (t190 != t191) t192 t193 t194 false a0_0 a0_1))) else (if t192 = 0 then (ff_div.j0 k a1 a2 (t190 != t191) t192 t193 t194 (t193 == 0) a0_0 a0_1) else (ff_div.j0 k a1 a2 (t190 != t191) t192 t193 t194 false a0_0 a0_1))))))) = some r := H
 have A4 := As0.mk A40
 clear A40
 replace H := zob H
 obtain ⟨t191, A50, H⟩ := H
 replace H : ((ff_size.f a0_0 a0_1 a1).bind fun t192 => ((ff_size.f a0_0 a0_1 a2).bind fun t193 => ((ff_infinity.f a0_0 a0_1).bind fun t194 => (if t192 = t194 then (if t193 = t194 then (ff_div.j0 k a1 a2 (t190 != t191) t192 t193 t194 true a0_0 a0_1) else (if t192 = 0 then (ff_div.j0 k a1 a2 (t190 != t191) t192 t193 t194 (t193 == 0) a0_0 a0_1) else (ff_div.j0 k a1 a2 (t190 != t191) t192 t193 t194 false a0_0 a0_1))) else (if t192 = 0 then (ff_div.j0 k a1 a2 (t190 != t191) t192 t193 t194 (t193 == 0) a0_0 a0_1) else (ff_div.j0 k a1 a2 (t190 != t191) t192 t193 t194 false a0_0 a0_1)))))) = some r := H
 have A5 := As0.mk A50
 clear A50
 replace H := zob H
 obtain ⟨t192, A60, H⟩ := H
 replace H : ((ff_size.f a0_0 a0_1 a2).bind fun t193 => ((ff_infinity.f a0_0 a0_1).bind fun t194 => (if t192 = t194 then (if t193 = t194 then (ff_div.j0 k a1 a2 (t190 != t191) t192 t193 t194 true a0_0 a0_1) else (if t192 = 0 then (ff_div.j0 k a1 a2 (t190 != t191) t192 t193 t194 (t193 == 0) a0_0 a0_1) else (ff_div.j0 k a1 a2 (t190 != t191) t192 t193 t194 false a0_0 a0_1))) else (if t192 = 0 then (ff_div.j0 k a1 a2 (t190 != t191) t192 t193 t194 (t193 == 0) a0_0 a0_1) else (ff_div.j0 k a1 a2 (t190 != t191) t192 t193 t194 false a0_0 a0_1))))) = some r := H
 have A6 := As0.mk A60
 clear A60
 replace H := zob H
 obtain ⟨t193, A70, H⟩ := H
 replace H : ((ff_infinity.f a0_0 a0_1).bind fun t194 => (if t192 = t194 then (if t193 = t194 then (ff_div.j0 k a1 a2 (t190 != t191) t192 t193 t194 true a0_0 a0_1) else (if t192 = 0 then (ff_div.j0 k a1 a2 (t190 != t191) t192 t193 t194 (t193 == 0) a0_0 a0_1) else (ff_div.j0 k a1 a2 (t190 != t191) t192 t193 t194 false a0_0 a0_1))) else (if t192 = 0 then (ff_div.j0 k a1 a2 (t190 != t191) t192 t193 t194 (t193 == 0) a0_0 a0_1) else (ff_div.j0 k a1 a2 (t190 != t191) t192 t193 t194 false a0_0 a0_1)))) = some r := H
 have A7 := As0.mk A70
 clear A70
 replace H := zob H
 obtain ⟨t194, A80, H⟩ := H
 replace H : (if t192 = t194 then (if t193 = t194 then (ff_div.j0 k a1 a2 (t190 != t191) t192 t193 t194 true a0_0 a0_1) else (if t192 = 0 then (ff_div.j0 k a1 a2 (t190 != t191) t192 t193 t194 (t193 == 0) a0_0 a0_1) else (ff_div.j0 k a1 a2 (t190 != t191) t192 t193 t194 false a0_0 a0_1))) else (if t192 = 0 then (ff_div.j0 k a1 a2 (t190 != t191) t192 t193 t194 (t193 == 0) a0_0 a0_1) else (ff_div.j0 k a1 a2 (t190 != t191) t192 t193 t194 false a0_0 a0_1))) = some r := H
 have A8 := As0.mk A80
 clear A80
 have HC9 := As0.mk H
 clear H
 go_enter Try.func46, Try.ntmps46
 try go_wp2_with (first | ((with_reducible refine gate_dst (N := 3) rfl ?_); refine box_event ?hg (N := 3) ?hd (cs := #[.int .i64 a0_0, .int .i64 a0_1]) (t := 43) ?hr ?_; (case hd => rfl); (case hg => rfl); (case hr => first | (go_simp; done) | (go_simp; rfl)); intro gb189 hg w10 hbox hb; have n0_ := As0.mk (bst (by repeat (first | (with_reducible first | exact HB.out | apply bal | apply pwB_ | apply bd1) | exact HB.out)) hb); have n1_ := As0.mk (hbox); have n2_ := As0.mk ((by rw [hg]; exact (below_size (by repeat (first | (with_reducible first | exact HB.out | apply bal | apply pwB_ | apply bd1) | exact HB.out))) : w.heap.size ≤ gb189)); have n3_ := As0.mk ((by rw [hg]; exact (below_size (by repeat (first | (with_reducible first | exact HB.out | apply bal | apply pwB_ | apply bd1) | exact HB.out))) : w.heap.size ≤ gb189)); clear HB; have HB := n0_; have BK189 := n1_; have GW189 := n2_; have GE189 := n3_; clear n0_ n1_ n2_ n3_; clear hb hbox hg))
 have n0_ := As0.mk (bkd BK189.out)
 have n1_ := As0.mk (bd1 HB.out)
 clear BK189
 clear HB
 have BK189 := n0_
 have HB := n1_
 clear n0_ n1_
 refine start_ (n := 8) (S := fun w' => w'.cell? ⟨gb189, 0, none⟩ = some (.int .i64 a0_0) ∧ w'.cell? ⟨gb189, 1, none⟩ = some (.int .i64 a0_1)) (ds := []) #[false, false, false, false, false, false, false, false] (by kernel_rfl) rfl rfl ⟨(bce BK189.out 0).trans rfl, (bce BK189.out 1).trans rfl⟩ (fun hHeld => ?_); refine with_tabW ff_div.tab1 ff_div.bits1 (fun HT_ HW_ => ?_)
 generalize w10.drew = w11 at BK189 HB hHeld ⊢
 refine pure_ (i := 1) (N := some 20) (v := ?_) (a' := ?_) #[false, true, false, false, false, false, false, false] rfl rfl (any_of HT_.out (by kernel_rfl)) (fun _ _ _ h => h) (Or.inl ⟨by rfl, ?_⟩) ?_ ?_
 rotate_left
 ·intro w'
  go_simp
  with_reducible rfl
 rotate_left
 ·simp only [Act.put, zsi, zcz, zcs, i64_w, i32_w]
  rfl
 refine pure_ (i := 4) (N := some 23) (v := ?_) (a' := ?_) #[false, true, false, false, true, false, false, false] rfl rfl (any_of HT_.out (by kernel_rfl)) (fun _ _ _ h => h) (Or.inl ⟨by rfl, ?_⟩) ?_ ?_
 rotate_left
 ·intro w'
  go_simp
  with_reducible rfl
 rotate_left
 ·simp only [Act.put, zsi, zcz, zcs, i64_w, i32_w]
  rfl
 refine take_ (i := 0) (N := some 19) (v := ?_) (a' := ?_) #[true, true, false, false, true, false, false, false] rfl rfl (take_ofW HT_.out HW_.out (by kernel_rfl)) (fun _ _ _ h => h) (Or.inl ⟨by rfl, ?_⟩) hHeld ?_ ?_
 rotate_left
 ·rintro w' ⟨s0, s1⟩
  go_simp
  with_reducible rfl
 rotate_left
 ·simp only [Act.put, zsi, zcz, zcs, i64_w, i32_w]
  rfl
 refine take_ (i := 3) (N := some 22) (v := ?_) (a' := ?_) #[true, true, false, true, true, false, false, false] rfl rfl (take_ofW HT_.out HW_.out (by kernel_rfl)) (fun _ _ _ h => h) (Or.inl ⟨by rfl, ?_⟩) hHeld ?_ ?_
 rotate_left
 ·rintro w' ⟨s0, s1⟩
  go_simp
  with_reducible rfl
 rotate_left
 ·simp only [Act.put, zsi, zcz, zcs, i64_w, i32_w]
  rfl
 refine one_ (i := 2) (N := some 21) #[true, true, true, true, true, false, false, false] rfl rfl (one_of HT_.out (by kernel_rfl)) (by decide) (fun K hK => ?_)
 refine goes_ Try.func39 (by kernel_rfl) rfl #[.agg #[.int .i64 a0_0, .int .i64 a0_1], .int .u64 a1] (by rfl) rfl rfl (by (try simp only [zmt, zmc, zmn]); first | done | rfl) ?_
 with_reducible refine (ff_neg.calls a0_0 a0_1 a1 t190 _ A4.out).mono ?_
 rintro e w12 ⟨rfl, hb⟩
 refine ⟨_, rfl, ?_⟩
 have n0_ := As0.mk (bkb (g := gb189) (o := .cells #[.int .i64 a0_0, .int .i64 a0_1] 43 (0, 0)) (by (with_reducible repeat (first | refine bkN ?_ _ | refine bkd ?_ | refine bka ?_ _)); exact BK189.out) hb)
 have n1_ := As0.mk (bst (by repeat (first | (with_reducible first | exact HB.out | apply bal | apply pwB_ | apply bd1 | refine bse ?_ GE189.out) | exact HB.out)) hb)
 clear BK189
 clear HB
 have BK189 := n0_
 have HB := n1_
 clear n0_ n1_
 (try clear hb)
 (try clear hb2)
 (try clear hk)
 (try clear hi)
 refine hK.out _ _ ⟨(bce BK189.out 0).trans rfl, (bce BK189.out 1).trans rfl⟩ (fun hHeld => ?_)
 clear hK K
 refine norm_ (a' := ?_) ?_ ?_
 rotate_left
 ·show Act.put _ (some 21) _ = _
  simp only [Act.put, zsi, zcz, zcs, i64_w, i32_w]
  rfl
 refine one_ (i := 5) (N := some 24) #[true, true, true, true, true, true, false, false] rfl rfl (one_of HT_.out (by kernel_rfl)) (by decide) (fun K hK => ?_)
 refine goes_ Try.func39 (by kernel_rfl) rfl #[.agg #[.int .i64 a0_0, .int .i64 a0_1], .int .u64 a2] (by rfl) rfl rfl (by (try simp only [zmt, zmc, zmn]); first | done | rfl) ?_
 with_reducible refine (ff_neg.calls a0_0 a0_1 a2 t191 _ A5.out).mono ?_
 rintro e w13 ⟨rfl, hb⟩
 refine ⟨_, rfl, ?_⟩
 have n0_ := As0.mk (bkb (g := gb189) (o := .cells #[.int .i64 a0_0, .int .i64 a0_1] 43 (0, 0)) (by (with_reducible repeat (first | refine bkN ?_ _ | refine bkd ?_ | refine bka ?_ _)); exact BK189.out) hb)
 have n1_ := As0.mk (bst (by repeat (first | (with_reducible first | exact HB.out | apply bal | apply pwB_ | apply bd1 | refine bse ?_ GE189.out) | exact HB.out)) hb)
 clear BK189
 clear HB
 have BK189 := n0_
 have HB := n1_
 clear n0_ n1_
 (try clear hb)
 (try clear hb2)
 (try clear hk)
 (try clear hi)
 refine hK.out _ _ ⟨(bce BK189.out 0).trans rfl, (bce BK189.out 1).trans rfl⟩ (fun hHeld => ?_)
 clear hK K
 refine norm_ (a' := ?_) ?_ ?_
 rotate_left
 ·show Act.put _ (some 24) _ = _
  simp only [Act.put, zsi, zcz, zcs, i64_w, i32_w]
  rfl
 refine pure_ (i := 6) (N := some 25) (v := ?_) (a' := ?_) #[true, true, true, true, true, true, true, false] rfl rfl (any_of HT_.out (by kernel_rfl)) (fun _ _ _ h => h) (Or.inl ⟨by rfl, ?_⟩) ?_ ?_
 rotate_left
 ·intro w'
  go_simp
  with_reducible rfl
 rotate_left
 ·simp only [Act.put, zsi, zcz, zcs, i64_w, i32_w]
  rfl
 refine pure_ (i := 7) (N := some 7) (v := ?_) (a' := ?_) #[true, true, true, true, true, true, true, true] rfl rfl (any_of HT_.out (by kernel_rfl)) (fun _ _ _ h => h) (Or.inl ⟨by rfl, ?_⟩) ?_ ?_
 rotate_left
 ·intro w'
  go_simp
  with_reducible rfl
 rotate_left
 ·simp only [Act.put, zsi, zcz, zcs, i64_w, i32_w]
  rfl
 refine done_ (done_of HT_.out (by kernel_rfl)) ?_
 try go_wp2
 have n0_ := As0.mk (bkd BK189.out)
 have n1_ := As0.mk (bd1 HB.out)
 clear BK189
 clear HB
 have BK189 := n0_
 have HB := n1_
 clear n0_ n1_
 refine start_ (n := 8) (S := fun w' => w'.cell? ⟨gb189, 0, none⟩ = some (.int .i64 a0_0) ∧ w'.cell? ⟨gb189, 1, none⟩ = some (.int .i64 a0_1)) (ds := []) #[false, false, false, false, false, false, false, false] (by kernel_rfl) rfl rfl ⟨(bce BK189.out 0).trans rfl, (bce BK189.out 1).trans rfl⟩ (fun hHeld => ?_); refine with_tabW ff_div.tab2 ff_div.bits2 (fun HT_ HW_ => ?_)
 generalize w13.drew = w14 at BK189 HB hHeld ⊢
 refine pure_ (i := 1) (N := some 27) (v := ?_) (a' := ?_) #[false, true, false, false, false, false, false, false] rfl rfl (any_of HT_.out (by kernel_rfl)) (fun _ _ _ h => h) (Or.inl ⟨by rfl, ?_⟩) ?_ ?_
 rotate_left
 ·intro w'
  go_simp
  with_reducible rfl
 rotate_left
 ·simp only [Act.put, zsi, zcz, zcs, i64_w, i32_w]
  rfl
 refine pure_ (i := 4) (N := some 30) (v := ?_) (a' := ?_) #[false, true, false, false, true, false, false, false] rfl rfl (any_of HT_.out (by kernel_rfl)) (fun _ _ _ h => h) (Or.inl ⟨by rfl, ?_⟩) ?_ ?_
 rotate_left
 ·intro w'
  go_simp
  with_reducible rfl
 rotate_left
 ·simp only [Act.put, zsi, zcz, zcs, i64_w, i32_w]
  rfl
 refine take_ (i := 0) (N := some 26) (v := ?_) (a' := ?_) #[true, true, false, false, true, false, false, false] rfl rfl (take_ofW HT_.out HW_.out (by kernel_rfl)) (fun _ _ _ h => h) (Or.inl ⟨by rfl, ?_⟩) hHeld ?_ ?_
 rotate_left
 ·rintro w' ⟨s0, s1⟩
  go_simp
  with_reducible rfl
 rotate_left
 ·simp only [Act.put, zsi, zcz, zcs, i64_w, i32_w]
  rfl
 refine take_ (i := 3) (N := some 29) (v := ?_) (a' := ?_) #[true, true, false, true, true, false, false, false] rfl rfl (take_ofW HT_.out HW_.out (by kernel_rfl)) (fun _ _ _ h => h) (Or.inl ⟨by rfl, ?_⟩) hHeld ?_ ?_
 rotate_left
 ·rintro w' ⟨s0, s1⟩
  go_simp
  with_reducible rfl
 rotate_left
 ·simp only [Act.put, zsi, zcz, zcs, i64_w, i32_w]
  rfl
 refine one_ (i := 2) (N := some 28) #[true, true, true, true, true, false, false, false] rfl rfl (one_of HT_.out (by kernel_rfl)) (by decide) (fun K hK => ?_)
 refine goes_ Try.func40 (by kernel_rfl) rfl #[.agg #[.int .i64 a0_0, .int .i64 a0_1], .int .u64 a1] (by rfl) rfl rfl (by (try simp only [zmt, zmc, zmn]); first | done | rfl) ?_
 with_reducible refine (ff_size.calls a0_0 a0_1 a1 t192 _ A6.out).mono ?_
 rintro e w15 ⟨rfl, hb⟩
 refine ⟨_, rfl, ?_⟩
 have n0_ := As0.mk (bkb (g := gb189) (o := .cells #[.int .i64 a0_0, .int .i64 a0_1] 43 (0, 0)) (by (with_reducible repeat (first | refine bkN ?_ _ | refine bkd ?_ | refine bka ?_ _)); exact BK189.out) hb)
 have n1_ := As0.mk (bst (by repeat (first | (with_reducible first | exact HB.out | apply bal | apply pwB_ | apply bd1 | refine bse ?_ GE189.out) | exact HB.out)) hb)
 clear BK189
 clear HB
 have BK189 := n0_
 have HB := n1_
 clear n0_ n1_
 (try clear hb)
 (try clear hb2)
 (try clear hk)
 (try clear hi)
 refine hK.out _ _ ⟨(bce BK189.out 0).trans rfl, (bce BK189.out 1).trans rfl⟩ (fun hHeld => ?_)
 clear hK K
 refine norm_ (a' := ?_) ?_ ?_
 rotate_left
 ·show Act.put _ (some 28) _ = _
  simp only [Act.put, zsi, zcz, zcs, i64_w, i32_w]
  rfl
 refine one_ (i := 5) (N := some 31) #[true, true, true, true, true, true, false, false] rfl rfl (one_of HT_.out (by kernel_rfl)) (by decide) (fun K hK => ?_)
 refine goes_ Try.func40 (by kernel_rfl) rfl #[.agg #[.int .i64 a0_0, .int .i64 a0_1], .int .u64 a2] (by rfl) rfl rfl (by (try simp only [zmt, zmc, zmn]); first | done | rfl) ?_
 with_reducible refine (ff_size.calls a0_0 a0_1 a2 t193 _ A7.out).mono ?_
 rintro e w16 ⟨rfl, hb⟩
 refine ⟨_, rfl, ?_⟩
 have n0_ := As0.mk (bkb (g := gb189) (o := .cells #[.int .i64 a0_0, .int .i64 a0_1] 43 (0, 0)) (by (with_reducible repeat (first | refine bkN ?_ _ | refine bkd ?_ | refine bka ?_ _)); exact BK189.out) hb)
 have n1_ := As0.mk (bst (by repeat (first | (with_reducible first | exact HB.out | apply bal | apply pwB_ | apply bd1 | refine bse ?_ GE189.out) | exact HB.out)) hb)
 clear BK189
 clear HB
 have BK189 := n0_
 have HB := n1_
 clear n0_ n1_
 (try clear hb)
 (try clear hb2)
 (try clear hk)
 (try clear hi)
 refine hK.out _ _ ⟨(bce BK189.out 0).trans rfl, (bce BK189.out 1).trans rfl⟩ (fun hHeld => ?_)
 clear hK K
 refine norm_ (a' := ?_) ?_ ?_
 rotate_left
 ·show Act.put _ (some 31) _ = _
  simp only [Act.put, zsi, zcz, zcs, i64_w, i32_w]
  rfl
 refine pure_ (i := 6) (N := some 8) (v := ?_) (a' := ?_) #[true, true, true, true, true, true, true, false] rfl rfl (any_of HT_.out (by kernel_rfl)) (fun _ _ _ h => h) (Or.inl ⟨by rfl, ?_⟩) ?_ ?_
 rotate_left
 ·intro w'
  go_simp
  with_reducible rfl
 rotate_left
 ·simp only [Act.put, zsi, zcz, zcs, i64_w, i32_w]
  rfl
 refine pure_ (i := 7) (N := some 9) (v := ?_) (a' := ?_) #[true, true, true, true, true, true, true, true] rfl rfl (any_of HT_.out (by kernel_rfl)) (fun _ _ _ h => h) (Or.inl ⟨by rfl, ?_⟩) ?_ ?_
 rotate_left
 ·intro w'
  go_simp
  with_reducible rfl
 rotate_left
 ·simp only [Act.put, zsi, zcz, zcs, i64_w, i32_w]
  rfl
 refine done_ (done_of HT_.out (by kernel_rfl)) ?_
 have hcz17_0 : w16.cell? ⟨gb189, 0, none⟩ = some (.int .i64 a0_0) := (bce BK189.out 0).trans rfl
 have hcz17_1 : w16.cell? ⟨gb189, 1, none⟩ = some (.int .i64 a0_1) := (bce BK189.out 1).trans rfl
 have hfz17_0 := bkf BK189.out 0
 have hfz17_1 := bkf BK189.out 1
 go_upto_region 4 with (first | ((with_reducible refine gcl (f := 50) rfl ?_); refine goesL_ (some 33) rfl rfl Try.func50 (by kernel_rfl) rfl #[.agg #[.int .i64 a0_0, .int .i64 a0_1]] rfl (by (try simp only [zmt, zmc, zmn]); first | done | rfl) ?_; (with_reducible refine (ff_infinity.calls a0_0 a0_1 t194 _ A8.out).mono ?_); rintro e w18 ⟨rfl, hb⟩; refine ⟨_, rfl, ?_⟩; have n0_ := As0.mk (bkb (g := gb189) (o := .cells #[.int .i64 a0_0, .int .i64 a0_1] 43 (0, 0)) (by (with_reducible repeat (first | refine bkN ?_ _ | refine bkd ?_ | refine bka ?_ _)); exact BK189.out) hb); have n1_ := As0.mk (bst (by repeat (first | (with_reducible first | exact HB.out | apply bal | apply pwB_ | apply bd1 | refine bse ?_ GE189.out) | exact HB.out)) hb); clear BK189; clear HB; have BK189 := n0_; have HB := n1_; clear n0_ n1_; (try clear hb); (try clear hb2); (try clear hk); (try clear hi)))
 (try simp only [Act.put, zsi, zcz, zcs])
 go_cut [34] (fun v34 wc => ∃ (kq : Nat) (x34_8 : Bool), v34 = .bool x34_8 ∧ As0 (ff_div.j0 kq a1 a2 (t190 != t191) t192 t193 t194 x34_8 a0_0 a0_1 = some r) ∧ As0 (kq ≤ k) ∧ As0 (wc.heap[gb189]? = some (.cells #[.int .i64 a0_0, .int .i64 a0_1] 43 (0, 0))) ∧ As0 (Below w.heap.size w wc))
 case first =>
  have H := HC9.out
  clear HC9
  by_cases c19 : t192 = t194
  ·rw [if_pos c19] at H
   have c19b0 : (t192 == t194) = true := beq_iff_eq.mpr c19
   have c19b1 : (t192 != t194) = false := bne_eq_false_iff_eq.mpr c19
   clear c19
   (first | rw [c19b0] | (simp only [i64_w, i32_w]; rw [c19b0]) | skip)
   by_cases c20 : t193 = t194
   ·rw [if_pos c20] at H
    have c20b0 : (t193 == t194) = true := beq_iff_eq.mpr c20
    have c20b1 : (t193 != t194) = false := bne_eq_false_iff_eq.mpr c20
    clear c20
    have H' := As0.mk H
    clear H
    go_wp2
    go_meet
    case rel => exact ⟨_, (true), (by first | rfl | (simp; done) | (simp [*]; done)), H', ⟨by first | omega | exact Nat.le_refl _⟩, ⟨by (with_reducible repeat (first | refine bkN ?_ _ | refine bkd ?_ | refine bka ?_ _)); exact BK189.out⟩, ⟨by repeat (first | (with_reducible first | exact HB.out | apply bal | apply pwB_ | apply bd1 | refine bse ?_ GE189.out) | exact HB.out)⟩⟩
   ·rw [if_neg c20] at H
    have c20b0 : (t193 == t194) = false := beq_eq_false_iff_ne.mpr c20
    have c20b1 : (t193 != t194) = true := bne_iff_ne.mpr c20
    by_cases c21 : t192 = 0
    ·rw [if_pos c21] at H
     have c21b0 : (t192 == 0) = true := beq_iff_eq.mpr c21
     have c21b1 : (t192 != 0) = false := bne_eq_false_iff_eq.mpr c21
     clear c21
     have H' := As0.mk H
     clear H
     go_wp2
     go_meet
     case rel => exact ⟨_, ((t193 == 0)), (by first | rfl | (simp; done) | (simp [*]; done)), H', ⟨by first | omega | exact Nat.le_refl _⟩, ⟨by (with_reducible repeat (first | refine bkN ?_ _ | refine bkd ?_ | refine bka ?_ _)); exact BK189.out⟩, ⟨by repeat (first | (with_reducible first | exact HB.out | apply bal | apply pwB_ | apply bd1 | refine bse ?_ GE189.out) | exact HB.out)⟩⟩
    ·rw [if_neg c21] at H
     have c21b0 : (t192 == 0) = false := beq_eq_false_iff_ne.mpr c21
     have c21b1 : (t192 != 0) = true := bne_iff_ne.mpr c21
     have H' := As0.mk H
     clear H
     go_wp2
     go_meet
     case rel => exact ⟨_, (false), (by first | rfl | (simp; done) | (simp [*]; done)), H', ⟨by first | omega | exact Nat.le_refl _⟩, ⟨by (with_reducible repeat (first | refine bkN ?_ _ | refine bkd ?_ | refine bka ?_ _)); exact BK189.out⟩, ⟨by repeat (first | (with_reducible first | exact HB.out | apply bal | apply pwB_ | apply bd1 | refine bse ?_ GE189.out) | exact HB.out)⟩⟩
  ·rw [if_neg c19] at H
   have c19b0 : (t192 == t194) = false := beq_eq_false_iff_ne.mpr c19
   have c19b1 : (t192 != t194) = true := bne_iff_ne.mpr c19
   (first | rw [c19b0] | (simp only [i64_w, i32_w]; rw [c19b0]) | skip)
   by_cases c22 : t192 = 0
   ·rw [if_pos c22] at H
    have c22b0 : (t192 == 0) = true := beq_iff_eq.mpr c22
    have c22b1 : (t192 != 0) = false := bne_eq_false_iff_eq.mpr c22
    clear c22
    have H' := As0.mk H
    clear H
    go_wp2
    go_meet
    case rel => exact ⟨_, ((t193 == 0)), (by first | rfl | (simp; done) | (simp [*]; done)), H', ⟨by first | omega | exact Nat.le_refl _⟩, ⟨by (with_reducible repeat (first | refine bkN ?_ _ | refine bkd ?_ | refine bka ?_ _)); exact BK189.out⟩, ⟨by repeat (first | (with_reducible first | exact HB.out | apply bal | apply pwB_ | apply bd1 | refine bse ?_ GE189.out) | exact HB.out)⟩⟩
   ·rw [if_neg c22] at H
    have c22b0 : (t192 == 0) = false := beq_eq_false_iff_ne.mpr c22
    have c22b1 : (t192 != 0) = true := bne_iff_ne.mpr c22
    have H' := As0.mk H
    clear H
    go_wp2
    go_meet
    case rel => exact ⟨_, (false), (by first | rfl | (simp; done) | (simp [*]; done)), H', ⟨by first | omega | exact Nat.le_refl _⟩, ⟨by (with_reducible repeat (first | refine bkN ?_ _ | refine bkd ?_ | refine bka ?_ _)); exact BK189.out⟩, ⟨by repeat (first | (with_reducible first | exact HB.out | apply bal | apply pwB_ | apply bd1 | refine bse ?_ GE189.out) | exact HB.out)⟩⟩
 case rest =>
  clear HC9
  try clear c1
  try clear c2
  try clear p2
  try clear c3
  try clear c4
  try clear c5
  try clear c19
  try clear c19b0
  try clear c19b1
  try clear c20
  try clear c20b0
  try clear c20b1
  try clear c21
  try clear c21b0
  try clear c21b1
  try clear c22
  try clear c22b0
  try clear c22b1
  try clear hcz17_0
  try clear hcz17_1
  try clear hfz17_0
  try clear hfz17_1
  obtain ⟨kq, x34_8, rfl, HA, HJ8, BK189, HB⟩ := hcut
  cases kq with
  | zero => exact absurd HA.out (by simp [ff_div.j0])
  | succ kj8 =>
   have H := HA.out
   clear HA
   simp only [ff_div.j0] at H
   by_cases c23 : x34_8 = true
   ·subst c23
    have H1 : ((ff_nan.f a0_0 a0_1).bind fun t195 => (some t195)) = some r := by rw [if_pos rfl] at H; exact H
    clear H
    have H := H1
    clear H1
    replace H := zob H
    obtain ⟨t195, A240, H⟩ := H
    replace H : (some t195) = some r := H
    have A24 := As0.mk A240
    clear A240
    obtain rfl := Option.some.inj H
    have hcz25_0 : wc.cell? ⟨gb189, 0, none⟩ = some (.int .i64 a0_0) := (bce BK189.out 0).trans rfl
    have hcz25_1 : wc.cell? ⟨gb189, 1, none⟩ = some (.int .i64 a0_1) := (bce BK189.out 1).trans rfl
    have hfz25_0 := bkf BK189.out 0
    have hfz25_1 := bkf BK189.out 1
    go_wp2_with (first | ((with_reducible refine gcl (f := 42) rfl ?_); refine goesL_ (some 52) rfl rfl Try.func42 (by kernel_rfl) rfl #[.agg #[.int .i64 a0_0, .int .i64 a0_1]] rfl (by (try simp only [zmt, zmc, zmn]); first | done | rfl) ?_; (with_reducible refine (ff_nan.calls a0_0 a0_1 t195 _ A24.out).mono ?_); rintro e w26 ⟨rfl, hb⟩; refine ⟨_, rfl, ?_⟩; have n0_ := As0.mk (bkb (g := gb189) (o := .cells #[.int .i64 a0_0, .int .i64 a0_1] 43 (0, 0)) (by (with_reducible repeat (first | refine bkN ?_ _ | refine bkd ?_ | refine bka ?_ _)); exact BK189.out) hb); have n1_ := As0.mk (bst (by repeat (first | (with_reducible first | exact HB.out | apply bal | apply pwB_ | apply bd1 | refine bse ?_ GE189.out) | exact HB.out)) hb); clear BK189; clear HB; have BK189 := n0_; have HB := n1_; clear n0_ n1_; (try clear hb); (try clear hb2); (try clear hk); (try clear hi)))
    go_ret
    exact ⟨by first | rfl | (simp [*] <;> rfl), by repeat (first | (with_reducible first | exact HB.out | apply bal | apply pwB_ | apply bd1 | refine bse ?_ GE189.out) | exact HB.out)⟩
   ·replace c23 := Bool.eq_false_iff.mpr c23
    subst c23
    have H1 : (if t192 = t194 then (ff_div.j1 kj8 a1 a2 (t190 != t191) t192 t193 t194 true a0_0 a0_1) else (ff_div.j1 kj8 a1 a2 (t190 != t191) t192 t193 t194 (t193 == 0) a0_0 a0_1)) = some r := by rw [if_neg (show ¬ (false = true) by decide)] at H; exact H
    clear H
    have H := H1
    clear H1
    have HC27 := As0.mk H
    clear H
    go_upto_region 6 with (fail)
    go_cut [53] (fun v53 wc => ∃ (kq : Nat) (x53_26 : Bool), v53 = .bool x53_26 ∧ As0 (ff_div.j1 kq a1 a2 (t190 != t191) t192 t193 t194 x53_26 a0_0 a0_1 = some r) ∧ As0 (kq ≤ kj8) ∧ As0 (wc.heap[gb189]? = some (.cells #[.int .i64 a0_0, .int .i64 a0_1] 43 (0, 0))) ∧ As0 (Below w.heap.size w wc))
    case first =>
     have H := HC27.out
     clear HC27
     by_cases c28 : t192 = t194
     ·rw [if_pos c28] at H
      have c28b0 : (t192 == t194) = true := beq_iff_eq.mpr c28
      have c28b1 : (t192 != t194) = false := bne_eq_false_iff_eq.mpr c28
      clear c28
      (first | rw [c28b0] | (simp only [i64_w, i32_w]; rw [c28b0]) | skip)
      have H' := As0.mk H
      clear H
      go_wp2
      go_meet
      case rel => exact ⟨_, (true), (by first | rfl | (simp; done) | (simp [*]; done)), H', ⟨by have := HJ8.out; first | omega | exact Nat.le_refl _⟩, ⟨by (with_reducible repeat (first | refine bkN ?_ _ | refine bkd ?_ | refine bka ?_ _)); exact BK189.out⟩, ⟨by repeat (first | (with_reducible first | exact HB.out | apply bal | apply pwB_ | apply bd1 | refine bse ?_ GE189.out) | exact HB.out)⟩⟩
     ·rw [if_neg c28] at H
      have c28b0 : (t192 == t194) = false := beq_eq_false_iff_ne.mpr c28
      have c28b1 : (t192 != t194) = true := bne_iff_ne.mpr c28
      (first | rw [c28b0] | (simp only [i64_w, i32_w]; rw [c28b0]) | skip)
      have H' := As0.mk H
      clear H
      go_wp2
      go_meet
      case rel => exact ⟨_, ((t193 == 0)), (by first | rfl | (simp; done) | (simp [*]; done)), H', ⟨by have := HJ8.out; first | omega | exact Nat.le_refl _⟩, ⟨by (with_reducible repeat (first | refine bkN ?_ _ | refine bkd ?_ | refine bka ?_ _)); exact BK189.out⟩, ⟨by repeat (first | (with_reducible first | exact HB.out | apply bal | apply pwB_ | apply bd1 | refine bse ?_ GE189.out) | exact HB.out)⟩⟩
    case rest =>
     clear HC27
     try clear c1
     try clear c2
     try clear p2
     try clear c3
     try clear c4
     try clear c5
     try clear c19
     try clear c19b0
     try clear c19b1
     try clear c20
     try clear c20b0
     try clear c20b1
     try clear c21
     try clear c21b0
     try clear c21b1
     try clear c22
     try clear c22b0
     try clear c22b1
     try clear c23
     try clear c28
     try clear c28b0
     try clear c28b1
     try clear hcz17_0
     try clear hcz17_1
     try clear hcz25_0
     try clear hcz25_1
     try clear hfz17_0
     try clear hfz17_1
     try clear hfz25_0
     try clear hfz25_1
     try clear p2
     obtain ⟨kq, x53_26, rfl, HA, HJ26, BK189, HB⟩ := hcut
     cases kq with
     | zero => exact absurd HA.out (by simp [ff_div.j1])
     | succ kj26 =>
      have H := HA.out
      clear HA
      simp only [ff_div.j1] at H
      by_cases c29 : x53_26 = true
      ·subst c29
       have H1 : ((ff_signed.f a0_0 a0_1 (t190 != t191) t194).bind fun t196 => (some t196)) = some r := by rw [if_pos rfl] at H; exact H
       clear H
       have H := H1
       clear H1
       replace H := zob H
       obtain ⟨t196, A300, H⟩ := H
       replace H : (some t196) = some r := H
       have A30 := As0.mk A300
       clear A300
       obtain rfl := Option.some.inj H
       have hcz31_0 : wc.cell? ⟨gb189, 0, none⟩ = some (.int .i64 a0_0) := (bce BK189.out 0).trans rfl
       have hcz31_1 : wc.cell? ⟨gb189, 1, none⟩ = some (.int .i64 a0_1) := (bce BK189.out 1).trans rfl
       have hfz31_0 := bkf BK189.out 0
       have hfz31_1 := bkf BK189.out 1
       go_wp2_with (first | ((with_reducible refine gcl (f := 38) rfl ?_); refine goesL_ (some 64) rfl rfl Try.func38 (by kernel_rfl) rfl #[.agg #[.int .i64 a0_0, .int .i64 a0_1], .bool (t190 != t191), .int .u64 t194] rfl (by (try simp only [zmt, zmc, zmn]); first | done | rfl) ?_; (with_reducible refine (ff_signed.calls a0_0 a0_1 (t190 != t191) t194 t196 _ A30.out).mono ?_); rintro e w32 ⟨rfl, hb⟩; refine ⟨_, rfl, ?_⟩; have n0_ := As0.mk (bkb (g := gb189) (o := .cells #[.int .i64 a0_0, .int .i64 a0_1] 43 (0, 0)) (by (with_reducible repeat (first | refine bkN ?_ _ | refine bkd ?_ | refine bka ?_ _)); exact BK189.out) hb); have n1_ := As0.mk (bst (by repeat (first | (with_reducible first | exact HB.out | apply bal | apply pwB_ | apply bd1 | refine bse ?_ GE189.out) | exact HB.out)) hb); clear BK189; clear HB; have BK189 := n0_; have HB := n1_; clear n0_ n1_; (try clear hb); (try clear hb2); (try clear hk); (try clear hi)))
       go_ret
       exact ⟨by first | rfl | (simp [*] <;> rfl), by repeat (first | (with_reducible first | exact HB.out | apply bal | apply pwB_ | apply bd1 | refine bse ?_ GE189.out) | exact HB.out)⟩
      ·replace c29 := Bool.eq_false_iff.mpr c29
       subst c29
       have H1 : (if t193 = t194 then ((ff_signed.f a0_0 a0_1 (t190 != t191) 0).bind fun t197 => (some t197)) else (if t192 = 0 then ((ff_signed.f a0_0 a0_1 (t190 != t191) 0).bind fun t198 => (some t198)) else ((ff_parts.f a0_0 a0_1 a1).bind fun bt199 => ((ff_parts.f a0_0 a0_1 a2).bind fun bt201 => ((bits_LeadingZeros64.f bt199.1).bind fun t203 => ((bits_LeadingZeros64.f bt201.1).bind fun t204 => (if 0 ≤ (IntKind.u64.wrap (t203)) then (if 0 ≤ (IntKind.u64.wrap (t204)) then (if (shl .u64 bt199.1 (IntKind.u64.wrap (t203))) ≥ (shl .u64 bt201.1 (IntKind.u64.wrap (t204))) then ((bits_Div64.f kj26 ((shl .u64 bt199.1 (IntKind.u64.wrap (t203))) / 2) 0 (shl .u64 bt201.1 (IntKind.u64.wrap (t204)))).bind fun bt205 => ((ff_round.f kj26 a0_0 a0_1 (t190 != t191) bt205.1 (wrap64 ((wrap64 ((wrap64 ((wrap64 (bt199.2 - t203)) + 1)) - (wrap64 (bt201.2 - t204)))) - 64)) (bt205.2 != 0)).bind fun t207 => (some t207))) else ((bits_Div64.f kj26 (shl .u64 bt199.1 (IntKind.u64.wrap (t203))) 0 (shl .u64 bt201.1 (IntKind.u64.wrap (t204)))).bind fun bt208 => ((ff_round.f kj26 a0_0 a0_1 (t190 != t191) bt208.1 (wrap64 ((wrap64 ((wrap64 (bt199.2 - t203)) - (wrap64 (bt201.2 - t204)))) - 64)) (bt208.2 != 0)).bind fun t210 => (some t210)))) else (none)) else (none)))))))) = some r := by rw [if_neg (show ¬ (false = true) by decide)] at H; exact H
       clear H
       have H := H1
       clear H1
       by_cases c33 : t193 = t194
       ·rw [if_pos c33] at H
        have c33b0 : (t193 == t194) = true := beq_iff_eq.mpr c33
        have c33b1 : (t193 != t194) = false := bne_eq_false_iff_eq.mpr c33
        clear c33
        replace H := zob H
        obtain ⟨t197, A340, H⟩ := H
        replace H : (some t197) = some r := H
        have A34 := As0.mk A340
        clear A340
        obtain rfl := Option.some.inj H
        have hcz35_0 : wc.cell? ⟨gb189, 0, none⟩ = some (.int .i64 a0_0) := (bce BK189.out 0).trans rfl
        have hcz35_1 : wc.cell? ⟨gb189, 1, none⟩ = some (.int .i64 a0_1) := (bce BK189.out 1).trans rfl
        have hfz35_0 := bkf BK189.out 0
        have hfz35_1 := bkf BK189.out 1
        go_wp2_with (first | ((with_reducible refine gcl (f := 38) rfl ?_); refine goesL_ (some 75) rfl rfl Try.func38 (by kernel_rfl) rfl #[.agg #[.int .i64 a0_0, .int .i64 a0_1], .bool (t190 != t191), .int .u64 0] rfl (by (try simp only [zmt, zmc, zmn]); first | done | rfl) ?_; (with_reducible refine (ff_signed.calls a0_0 a0_1 (t190 != t191) 0 t197 _ A34.out).mono ?_); rintro e w36 ⟨rfl, hb⟩; refine ⟨_, rfl, ?_⟩; have n0_ := As0.mk (bkb (g := gb189) (o := .cells #[.int .i64 a0_0, .int .i64 a0_1] 43 (0, 0)) (by (with_reducible repeat (first | refine bkN ?_ _ | refine bkd ?_ | refine bka ?_ _)); exact BK189.out) hb); have n1_ := As0.mk (bst (by repeat (first | (with_reducible first | exact HB.out | apply bal | apply pwB_ | apply bd1 | refine bse ?_ GE189.out) | exact HB.out)) hb); clear BK189; clear HB; have BK189 := n0_; have HB := n1_; clear n0_ n1_; (try clear hb); (try clear hb2); (try clear hk); (try clear hi)))
        go_ret
        exact ⟨by first | rfl | (simp [*] <;> rfl), by repeat (first | (with_reducible first | exact HB.out | apply bal | apply pwB_ | apply bd1 | refine bse ?_ GE189.out) | exact HB.out)⟩
       ·rw [if_neg c33] at H
        have c33b0 : (t193 == t194) = false := beq_eq_false_iff_ne.mpr c33
        have c33b1 : (t193 != t194) = true := bne_iff_ne.mpr c33
        by_cases c37 : t192 = 0
        ·rw [if_pos c37] at H
         have c37b0 : (t192 == 0) = true := beq_iff_eq.mpr c37
         have c37b1 : (t192 != 0) = false := bne_eq_false_iff_eq.mpr c37
         clear c37
         replace H := zob H
         obtain ⟨t198, A380, H⟩ := H
         replace H : (some t198) = some r := H
         have A38 := As0.mk A380
         clear A380
         obtain rfl := Option.some.inj H
         have hcz39_0 : wc.cell? ⟨gb189, 0, none⟩ = some (.int .i64 a0_0) := (bce BK189.out 0).trans rfl
         have hcz39_1 : wc.cell? ⟨gb189, 1, none⟩ = some (.int .i64 a0_1) := (bce BK189.out 1).trans rfl
         have hfz39_0 := bkf BK189.out 0
         have hfz39_1 := bkf BK189.out 1
         go_wp2_with (first | ((with_reducible refine gcl (f := 38) rfl ?_); refine goesL_ (some 75) rfl rfl Try.func38 (by kernel_rfl) rfl #[.agg #[.int .i64 a0_0, .int .i64 a0_1], .bool (t190 != t191), .int .u64 0] rfl (by (try simp only [zmt, zmc, zmn]); first | done | rfl) ?_; (with_reducible refine (ff_signed.calls a0_0 a0_1 (t190 != t191) 0 t198 _ A38.out).mono ?_); rintro e w40 ⟨rfl, hb⟩; refine ⟨_, rfl, ?_⟩; have n0_ := As0.mk (bkb (g := gb189) (o := .cells #[.int .i64 a0_0, .int .i64 a0_1] 43 (0, 0)) (by (with_reducible repeat (first | refine bkN ?_ _ | refine bkd ?_ | refine bka ?_ _)); exact BK189.out) hb); have n1_ := As0.mk (bst (by repeat (first | (with_reducible first | exact HB.out | apply bal | apply pwB_ | apply bd1 | refine bse ?_ GE189.out) | exact HB.out)) hb); clear BK189; clear HB; have BK189 := n0_; have HB := n1_; clear n0_ n1_; (try clear hb); (try clear hb2); (try clear hk); (try clear hi)))
         go_ret
         exact ⟨by first | rfl | (simp [*] <;> rfl), by repeat (first | (with_reducible first | exact HB.out | apply bal | apply pwB_ | apply bd1 | refine bse ?_ GE189.out) | exact HB.out)⟩
        ·rw [if_neg c37] at H
         have c37b0 : (t192 == 0) = false := beq_eq_false_iff_ne.mpr c37
         have c37b1 : (t192 != 0) = true := bne_iff_ne.mpr c37
         replace H := zob H
         obtain ⟨⟨t199, t200⟩, A410, H⟩ := H
         replace H : ((ff_parts.f a0_0 a0_1 a2).bind fun bt201 => ((bits_LeadingZeros64.f t199).bind fun t203 => ((bits_LeadingZeros64.f bt201.1).bind fun t204 => (if 0 ≤ (IntKind.u64.wrap (t203)) then (if 0 ≤ (IntKind.u64.wrap (t204)) then (if (shl .u64 t199 (IntKind.u64.wrap (t203))) ≥ (shl .u64 bt201.1 (IntKind.u64.wrap (t204))) then ((bits_Div64.f kj26 ((shl .u64 t199 (IntKind.u64.wrap (t203))) / 2) 0 (shl .u64 bt201.1 (IntKind.u64.wrap (t204)))).bind fun bt205 => ((ff_round.f kj26 a0_0 a0_1 (t190 != t191) bt205.1 (wrap64 ((wrap64 ((wrap64 ((wrap64 (t200 - t203)) + 1)) - (wrap64 (bt201.2 - t204)))) - 64)) (bt205.2 != 0)).bind fun t207 => (some t207))) else ((bits_Div64.f kj26 (shl .u64 t199 (IntKind.u64.wrap (t203))) 0 (shl .u64 bt201.1 (IntKind.u64.wrap (t204)))).bind fun bt208 => ((ff_round.f kj26 a0_0 a0_1 (t190 != t191) bt208.1 (wrap64 ((wrap64 ((wrap64 (t200 - t203)) - (wrap64 (bt201.2 - t204)))) - 64)) (bt208.2 != 0)).bind fun t210 => (some t210)))) else (none)) else (none))))) = some r := H
         have A41 := As0.mk A410
         clear A410
         replace H := zob H
         obtain ⟨⟨t201, t202⟩, A420, H⟩ := H
         replace H : ((bits_LeadingZeros64.f t199).bind fun t203 => ((bits_LeadingZeros64.f t201).bind fun t204 => (if 0 ≤ (IntKind.u64.wrap (t203)) then (if 0 ≤ (IntKind.u64.wrap (t204)) then (if (shl .u64 t199 (IntKind.u64.wrap (t203))) ≥ (shl .u64 t201 (IntKind.u64.wrap (t204))) then ((bits_Div64.f kj26 ((shl .u64 t199 (IntKind.u64.wrap (t203))) / 2) 0 (shl .u64 t201 (IntKind.u64.wrap (t204)))).bind fun bt205 => ((ff_round.f kj26 a0_0 a0_1 (t190 != t191) bt205.1 (wrap64 ((wrap64 ((wrap64 ((wrap64 (t200 - t203)) + 1)) - (wrap64 (t202 - t204)))) - 64)) (bt205.2 != 0)).bind fun t207 => (some t207))) else ((bits_Div64.f kj26 (shl .u64 t199 (IntKind.u64.wrap (t203))) 0 (shl .u64 t201 (IntKind.u64.wrap (t204)))).bind fun bt208 => ((ff_round.f kj26 a0_0 a0_1 (t190 != t191) bt208.1 (wrap64 ((wrap64 ((wrap64 (t200 - t203)) - (wrap64 (t202 - t204)))) - 64)) (bt208.2 != 0)).bind fun t210 => (some t210)))) else (none)) else (none)))) = some r := H
         have A42 := As0.mk A420
         clear A420
         replace H := zob H
         obtain ⟨t203, A430, H⟩ := H
         replace H : ((bits_LeadingZeros64.f t201).bind fun t204 => (if 0 ≤ (IntKind.u64.wrap (t203)) then (if 0 ≤ (IntKind.u64.wrap (t204)) then (if (shl .u64 t199 (IntKind.u64.wrap (t203))) ≥ (shl .u64 t201 (IntKind.u64.wrap (t204))) then ((bits_Div64.f kj26 ((shl .u64 t199 (IntKind.u64.wrap (t203))) / 2) 0 (shl .u64 t201 (IntKind.u64.wrap (t204)))).bind fun bt205 => ((ff_round.f kj26 a0_0 a0_1 (t190 != t191) bt205.1 (wrap64 ((wrap64 ((wrap64 ((wrap64 (t200 - t203)) + 1)) - (wrap64 (t202 - t204)))) - 64)) (bt205.2 != 0)).bind fun t207 => (some t207))) else ((bits_Div64.f kj26 (shl .u64 t199 (IntKind.u64.wrap (t203))) 0 (shl .u64 t201 (IntKind.u64.wrap (t204)))).bind fun bt208 => ((ff_round.f kj26 a0_0 a0_1 (t190 != t191) bt208.1 (wrap64 ((wrap64 ((wrap64 (t200 - t203)) - (wrap64 (t202 - t204)))) - 64)) (bt208.2 != 0)).bind fun t210 => (some t210)))) else (none)) else (none))) = some r := H
         have A43 := As0.mk A430
         clear A430
         replace H := zob H
         obtain ⟨t204, A440, H⟩ := H
         replace H : (if 0 ≤ (IntKind.u64.wrap (t203)) then (if 0 ≤ (IntKind.u64.wrap (t204)) then (if (shl .u64 t199 (IntKind.u64.wrap (t203))) ≥ (shl .u64 t201 (IntKind.u64.wrap (t204))) then ((bits_Div64.f kj26 ((shl .u64 t199 (IntKind.u64.wrap (t203))) / 2) 0 (shl .u64 t201 (IntKind.u64.wrap (t204)))).bind fun bt205 => ((ff_round.f kj26 a0_0 a0_1 (t190 != t191) bt205.1 (wrap64 ((wrap64 ((wrap64 ((wrap64 (t200 - t203)) + 1)) - (wrap64 (t202 - t204)))) - 64)) (bt205.2 != 0)).bind fun t207 => (some t207))) else ((bits_Div64.f kj26 (shl .u64 t199 (IntKind.u64.wrap (t203))) 0 (shl .u64 t201 (IntKind.u64.wrap (t204)))).bind fun bt208 => ((ff_round.f kj26 a0_0 a0_1 (t190 != t191) bt208.1 (wrap64 ((wrap64 ((wrap64 (t200 - t203)) - (wrap64 (t202 - t204)))) - 64)) (bt208.2 != 0)).bind fun t210 => (some t210)))) else (none)) else (none)) = some r := H
         have A44 := As0.mk A440
         clear A440
         obtain ⟨ji45, hji45⟩ : ∃ j_ : Int, (IntKind.u64.wrap (t203)) = j_ := ⟨_, rfl⟩
         replace H : (if 0 ≤ (ji45) then (if 0 ≤ (IntKind.u64.wrap (t204)) then (if (shl .u64 t199 (ji45)) ≥ (shl .u64 t201 (IntKind.u64.wrap (t204))) then ((bits_Div64.f kj26 ((shl .u64 t199 (ji45)) / 2) 0 (shl .u64 t201 (IntKind.u64.wrap (t204)))).bind fun bt205 => ((ff_round.f kj26 a0_0 a0_1 (t190 != t191) bt205.1 (wrap64 ((wrap64 ((wrap64 ((wrap64 (t200 - t203)) + 1)) - (wrap64 (t202 - t204)))) - 64)) (bt205.2 != 0)).bind fun t207 => (some t207))) else ((bits_Div64.f kj26 (shl .u64 t199 (ji45)) 0 (shl .u64 t201 (IntKind.u64.wrap (t204)))).bind fun bt208 => ((ff_round.f kj26 a0_0 a0_1 (t190 != t191) bt208.1 (wrap64 ((wrap64 ((wrap64 (t200 - t203)) - (wrap64 (t202 - t204)))) - 64)) (bt208.2 != 0)).bind fun t210 => (some t210)))) else (none)) else (none)) = some r := by first | (rw [hji45] at H; exact H) | (simp only [hji45] at H ⊢; exact H)
         (try rw [hji45] at A41)
         (try rw [hji45] at A42)
         (try rw [hji45] at A43)
         (try rw [hji45] at A44)
         by_cases c46 : 0 ≤ (ji45)
         ·rw [if_pos c46] at H
          have c46b0 := eq_true c46
          have c46b1 : decide (0 ≤ (ji45)) = true := decide_eq_true c46
          clear c46
          obtain ⟨ji47, hji47⟩ : ∃ j_ : Int, (shl .u64 t199 (ji45)) = j_ := ⟨_, rfl⟩
          replace H : (if 0 ≤ (IntKind.u64.wrap (t204)) then (if (ji47) ≥ (shl .u64 t201 (IntKind.u64.wrap (t204))) then ((bits_Div64.f kj26 ((ji47) / 2) 0 (shl .u64 t201 (IntKind.u64.wrap (t204)))).bind fun bt205 => ((ff_round.f kj26 a0_0 a0_1 (t190 != t191) bt205.1 (wrap64 ((wrap64 ((wrap64 ((wrap64 (t200 - t203)) + 1)) - (wrap64 (t202 - t204)))) - 64)) (bt205.2 != 0)).bind fun t207 => (some t207))) else ((bits_Div64.f kj26 (ji47) 0 (shl .u64 t201 (IntKind.u64.wrap (t204)))).bind fun bt208 => ((ff_round.f kj26 a0_0 a0_1 (t190 != t191) bt208.1 (wrap64 ((wrap64 ((wrap64 (t200 - t203)) - (wrap64 (t202 - t204)))) - 64)) (bt208.2 != 0)).bind fun t210 => (some t210)))) else (none)) = some r := by first | (rw [hji47] at H; exact H) | (simp only [hji47] at H ⊢; exact H)
          (try rw [hji47] at A41)
          (try rw [hji47] at A42)
          (try rw [hji47] at A43)
          (try rw [hji47] at A44)
          have hji47_ : (IntKind.u64.wrap (t199 * 2 ^ min (ji45).toNat 64)) = ji47 := hji47
          have hji47z : (ji45) ≤ 64 → (IntKind.u64.wrap (t199 * 2 ^ (ji45).toNat)) = ji47 := shl_small hji47
          obtain ⟨ji48, hji48⟩ : ∃ j_ : Int, (IntKind.u64.wrap (t204)) = j_ := ⟨_, rfl⟩
          replace H : (if 0 ≤ (ji48) then (if (ji47) ≥ (shl .u64 t201 (ji48)) then ((bits_Div64.f kj26 ((ji47) / 2) 0 (shl .u64 t201 (ji48))).bind fun bt205 => ((ff_round.f kj26 a0_0 a0_1 (t190 != t191) bt205.1 (wrap64 ((wrap64 ((wrap64 ((wrap64 (t200 - t203)) + 1)) - (wrap64 (t202 - t204)))) - 64)) (bt205.2 != 0)).bind fun t207 => (some t207))) else ((bits_Div64.f kj26 (ji47) 0 (shl .u64 t201 (ji48))).bind fun bt208 => ((ff_round.f kj26 a0_0 a0_1 (t190 != t191) bt208.1 (wrap64 ((wrap64 ((wrap64 (t200 - t203)) - (wrap64 (t202 - t204)))) - 64)) (bt208.2 != 0)).bind fun t210 => (some t210)))) else (none)) = some r := by first | (rw [hji48] at H; exact H) | (simp only [hji48] at H ⊢; exact H)
          (try rw [hji48] at A41)
          (try rw [hji48] at A42)
          (try rw [hji48] at A43)
          (try rw [hji48] at A44)
          by_cases c49 : 0 ≤ (ji48)
          ·rw [if_pos c49] at H
           have c49b0 := eq_true c49
           have c49b1 : decide (0 ≤ (ji48)) = true := decide_eq_true c49
           clear c49
           obtain ⟨ji50, hji50⟩ : ∃ j_ : Int, (shl .u64 t201 (ji48)) = j_ := ⟨_, rfl⟩
           replace H : (if (ji47) ≥ (ji50) then ((bits_Div64.f kj26 ((ji47) / 2) 0 (ji50)).bind fun bt205 => ((ff_round.f kj26 a0_0 a0_1 (t190 != t191) bt205.1 (wrap64 ((wrap64 ((wrap64 ((wrap64 (t200 - t203)) + 1)) - (wrap64 (t202 - t204)))) - 64)) (bt205.2 != 0)).bind fun t207 => (some t207))) else ((bits_Div64.f kj26 (ji47) 0 (ji50)).bind fun bt208 => ((ff_round.f kj26 a0_0 a0_1 (t190 != t191) bt208.1 (wrap64 ((wrap64 ((wrap64 (t200 - t203)) - (wrap64 (t202 - t204)))) - 64)) (bt208.2 != 0)).bind fun t210 => (some t210)))) = some r := by first | (rw [hji50] at H; exact H) | (simp only [hji50] at H ⊢; exact H)
           (try rw [hji50] at A41)
           (try rw [hji50] at A42)
           (try rw [hji50] at A43)
           (try rw [hji50] at A44)
           have hji50_ : (IntKind.u64.wrap (t201 * 2 ^ min (ji48).toNat 64)) = ji50 := hji50
           have hji50z : (ji48) ≤ 64 → (IntKind.u64.wrap (t201 * 2 ^ (ji48).toNat)) = ji50 := shl_small hji50
           by_cases c51 : (ji47) ≥ (ji50)
           ·rw [if_pos c51] at H
            have c51b0 : decide ((ji50) ≤ (ji47)) = true := decide_eq_true c51
            clear c51
            replace H := zob H
            obtain ⟨⟨t205, t206⟩, A520, H⟩ := H
            replace H : ((ff_round.f kj26 a0_0 a0_1 (t190 != t191) t205 (wrap64 ((wrap64 ((wrap64 ((wrap64 (t200 - t203)) + 1)) - (wrap64 (t202 - t204)))) - 64)) (t206 != 0)).bind fun t207 => (some t207)) = some r := H
            have A52 := As0.mk A520
            clear A520
            replace H := zob H
            obtain ⟨t207, A530, H⟩ := H
            replace H : (some t207) = some r := H
            have A53 := As0.mk A530
            clear A530
            obtain rfl := Option.some.inj H
            have hcz54_0 : wc.cell? ⟨gb189, 0, none⟩ = some (.int .i64 a0_0) := (bce BK189.out 0).trans rfl
            have hcz54_1 : wc.cell? ⟨gb189, 1, none⟩ = some (.int .i64 a0_1) := (bce BK189.out 1).trans rfl
            have hfz54_0 := bkf BK189.out 0
            have hfz54_1 := bkf BK189.out 1
            go_wp2_with (first | ((with_reducible refine gcl (f := 57) rfl ?_); refine goesL_ (some 79) rfl rfl Try.func57 (by kernel_rfl) rfl #[.agg #[.int .i64 a0_0, .int .i64 a0_1], .int .u64 a1] rfl (by (try simp only [zmt, zmc, zmn]); first | done | rfl) ?_; (with_reducible refine (ff_parts.calls a0_0 a0_1 a1 t199 t200 _ A41.out).mono ?_); rintro e w55 ⟨rfl, hb⟩; refine ⟨_, rfl, ?_⟩; have n0_ := As0.mk (bkb (g := gb189) (o := .cells #[.int .i64 a0_0, .int .i64 a0_1] 43 (0, 0)) (by (with_reducible repeat (first | refine bkN ?_ _ | refine bkd ?_ | refine bka ?_ _)); exact BK189.out) hb); have n1_ := As0.mk (bst (by repeat (first | (with_reducible first | exact HB.out | apply bal | apply pwB_ | apply bd1 | refine bse ?_ GE189.out) | exact HB.out)) hb); clear BK189; clear HB; have BK189 := n0_; have HB := n1_; clear n0_ n1_; (try clear hb); (try clear hb2); (try clear hk); (try clear hi); have hcz56_0 : w55.cell? ⟨gb189, 0, none⟩ = some (.int .i64 a0_0) := (bce BK189.out 0).trans rfl; have hcz56_1 : w55.cell? ⟨gb189, 1, none⟩ = some (.int .i64 a0_1) := (bce BK189.out 1).trans rfl; have hfz56_0 := bkf BK189.out 0; have hfz56_1 := bkf BK189.out 1) | ((with_reducible refine gcl (f := 57) rfl ?_); refine goesL_ (some 85) rfl rfl Try.func57 (by kernel_rfl) rfl #[.agg #[.int .i64 a0_0, .int .i64 a0_1], .int .u64 a2] rfl (by (try simp only [zmt, zmc, zmn]); first | done | rfl) ?_; (with_reducible refine (ff_parts.calls a0_0 a0_1 a2 t201 t202 _ A42.out).mono ?_); rintro e w57 ⟨rfl, hb⟩; refine ⟨_, rfl, ?_⟩; have n0_ := As0.mk (bkb (g := gb189) (o := .cells #[.int .i64 a0_0, .int .i64 a0_1] 43 (0, 0)) (by (with_reducible repeat (first | refine bkN ?_ _ | refine bkd ?_ | refine bka ?_ _)); exact BK189.out) hb); have n1_ := As0.mk (bst (by repeat (first | (with_reducible first | exact HB.out | apply bal | apply pwB_ | apply bd1 | refine bse ?_ GE189.out) | exact HB.out)) hb); clear BK189; clear HB; have BK189 := n0_; have HB := n1_; clear n0_ n1_; (try clear hb); (try clear hb2); (try clear hk); (try clear hi)) | ((with_reducible refine gcl (f := 67) rfl ?_); refine goesL_ (some 89) rfl rfl Try.func67 (by kernel_rfl) rfl #[.int .u64 t199] rfl (by (try simp only [zmt, zmc, zmn]); first | done | rfl) ?_; (with_reducible refine (bits_LeadingZeros64.calls t199 t203 _ A43.out).mono ?_); rintro e w' ⟨rfl, ⟨nd, rfl⟩⟩; refine ⟨_, rfl, ?_⟩) | ((with_reducible refine gcl (f := 67) rfl ?_); refine goesL_ (some 91) rfl rfl Try.func67 (by kernel_rfl) rfl #[.int .u64 t201] rfl (by (try simp only [zmt, zmc, zmn]); first | done | rfl) ?_; (with_reducible refine (bits_LeadingZeros64.calls t201 t204 _ A44.out).mono ?_); rintro e w' ⟨rfl, ⟨nd, rfl⟩⟩; refine ⟨_, rfl, ?_⟩) | ((with_reducible refine gcl (f := 68) rfl ?_); refine goesL_ (some 116) rfl rfl Try.func68 (by kernel_rfl) rfl #[.int .u64 ((ji47) / 2), .int .u64 0, .int .u64 ji50] rfl (by (try simp only [zmt, zmc, zmn]); first | done | (simp only [hji47, hji50]; rfl) | rfl) ?_; (with_reducible refine (bits_Div64.calls kj26 ((ji47) / 2) 0 ji50 t205 t206 _ A52.out).mono ?_); rintro e w' ⟨rfl, ⟨nd, rfl⟩⟩; refine ⟨_, rfl, ?_⟩; have hcz58_0 : w57.cell? ⟨gb189, 0, none⟩ = some (.int .i64 a0_0) := (bce BK189.out 0).trans rfl; have hcz58_1 : w57.cell? ⟨gb189, 1, none⟩ = some (.int .i64 a0_1) := (bce BK189.out 1).trans rfl; have hfz58_0 := bkf BK189.out 0; have hfz58_1 := bkf BK189.out 1) | ((with_reducible refine gcl (f := 33) rfl ?_); refine goesL_ (some 128) rfl rfl Try.func33 (by kernel_rfl) rfl #[.agg #[.int .i64 a0_0, .int .i64 a0_1], .bool (t190 != t191), .int .u64 t205, .int .i64 (wrap64 ((wrap64 ((wrap64 ((wrap64 (t200 - t203)) + 1)) - (wrap64 (t202 - t204)))) - 64)), .bool (t206 != 0)] rfl (by (try simp only [zmt, zmc, zmn]); first | done | rfl) ?_; (with_reducible refine (ff_round.calls kj26 a0_0 a0_1 (t190 != t191) t205 (wrap64 ((wrap64 ((wrap64 ((wrap64 (t200 - t203)) + 1)) - (wrap64 (t202 - t204)))) - 64)) (t206 != 0) t207 _ A53.out).mono ?_); rintro e w59 ⟨rfl, hb⟩; refine ⟨_, rfl, ?_⟩; have n0_ := As0.mk (bkb (g := gb189) (o := .cells #[.int .i64 a0_0, .int .i64 a0_1] 43 (0, 0)) (by (with_reducible repeat (first | refine bkN ?_ _ | refine bkd ?_ | refine bka ?_ _)); exact BK189.out) hb); have n1_ := As0.mk (bst (by repeat (first | (with_reducible first | exact HB.out | apply bal | apply pwB_ | apply bd1 | refine bse ?_ GE189.out) | exact HB.out)) hb); clear BK189; clear HB; have BK189 := n0_; have HB := n1_; clear n0_ n1_; (try clear hb); (try clear hb2); (try clear hk); (try clear hi)))
            go_ret
            exact ⟨by first | rfl | (simp only [← hji45, ← hji47, ← hji48, ← hji50]; first | rfl) | (simp [*] <;> rfl), by repeat (first | (with_reducible first | exact HB.out | apply bal | apply pwB_ | apply bd1 | refine bse ?_ GE189.out) | exact HB.out)⟩
           ·rw [if_neg c51] at H
            have c51b0 : decide ((ji50) ≤ (ji47)) = false := decide_eq_false c51
            clear c51
            replace H := zob H
            obtain ⟨⟨t208, t209⟩, A600, H⟩ := H
            replace H : ((ff_round.f kj26 a0_0 a0_1 (t190 != t191) t208 (wrap64 ((wrap64 ((wrap64 (t200 - t203)) - (wrap64 (t202 - t204)))) - 64)) (t209 != 0)).bind fun t210 => (some t210)) = some r := H
            have A60 := As0.mk A600
            clear A600
            replace H := zob H
            obtain ⟨t210, A610, H⟩ := H
            replace H : (some t210) = some r := H
            have A61 := As0.mk A610
            clear A610
            obtain rfl := Option.some.inj H
            have hcz62_0 : wc.cell? ⟨gb189, 0, none⟩ = some (.int .i64 a0_0) := (bce BK189.out 0).trans rfl
            have hcz62_1 : wc.cell? ⟨gb189, 1, none⟩ = some (.int .i64 a0_1) := (bce BK189.out 1).trans rfl
            have hfz62_0 := bkf BK189.out 0
            have hfz62_1 := bkf BK189.out 1
            go_wp2_with (first | ((with_reducible refine gcl (f := 57) rfl ?_); refine goesL_ (some 79) rfl rfl Try.func57 (by kernel_rfl) rfl #[.agg #[.int .i64 a0_0, .int .i64 a0_1], .int .u64 a1] rfl (by (try simp only [zmt, zmc, zmn]); first | done | rfl) ?_; (with_reducible refine (ff_parts.calls a0_0 a0_1 a1 t199 t200 _ A41.out).mono ?_); rintro e w63 ⟨rfl, hb⟩; refine ⟨_, rfl, ?_⟩; have n0_ := As0.mk (bkb (g := gb189) (o := .cells #[.int .i64 a0_0, .int .i64 a0_1] 43 (0, 0)) (by (with_reducible repeat (first | refine bkN ?_ _ | refine bkd ?_ | refine bka ?_ _)); exact BK189.out) hb); have n1_ := As0.mk (bst (by repeat (first | (with_reducible first | exact HB.out | apply bal | apply pwB_ | apply bd1 | refine bse ?_ GE189.out) | exact HB.out)) hb); clear BK189; clear HB; have BK189 := n0_; have HB := n1_; clear n0_ n1_; (try clear hb); (try clear hb2); (try clear hk); (try clear hi); have hcz64_0 : w63.cell? ⟨gb189, 0, none⟩ = some (.int .i64 a0_0) := (bce BK189.out 0).trans rfl; have hcz64_1 : w63.cell? ⟨gb189, 1, none⟩ = some (.int .i64 a0_1) := (bce BK189.out 1).trans rfl; have hfz64_0 := bkf BK189.out 0; have hfz64_1 := bkf BK189.out 1) | ((with_reducible refine gcl (f := 57) rfl ?_); refine goesL_ (some 85) rfl rfl Try.func57 (by kernel_rfl) rfl #[.agg #[.int .i64 a0_0, .int .i64 a0_1], .int .u64 a2] rfl (by (try simp only [zmt, zmc, zmn]); first | done | rfl) ?_; (with_reducible refine (ff_parts.calls a0_0 a0_1 a2 t201 t202 _ A42.out).mono ?_); rintro e w65 ⟨rfl, hb⟩; refine ⟨_, rfl, ?_⟩; have n0_ := As0.mk (bkb (g := gb189) (o := .cells #[.int .i64 a0_0, .int .i64 a0_1] 43 (0, 0)) (by (with_reducible repeat (first | refine bkN ?_ _ | refine bkd ?_ | refine bka ?_ _)); exact BK189.out) hb); have n1_ := As0.mk (bst (by repeat (first | (with_reducible first | exact HB.out | apply bal | apply pwB_ | apply bd1 | refine bse ?_ GE189.out) | exact HB.out)) hb); clear BK189; clear HB; have BK189 := n0_; have HB := n1_; clear n0_ n1_; (try clear hb); (try clear hb2); (try clear hk); (try clear hi)) | ((with_reducible refine gcl (f := 67) rfl ?_); refine goesL_ (some 89) rfl rfl Try.func67 (by kernel_rfl) rfl #[.int .u64 t199] rfl (by (try simp only [zmt, zmc, zmn]); first | done | rfl) ?_; (with_reducible refine (bits_LeadingZeros64.calls t199 t203 _ A43.out).mono ?_); rintro e w' ⟨rfl, ⟨nd, rfl⟩⟩; refine ⟨_, rfl, ?_⟩) | ((with_reducible refine gcl (f := 67) rfl ?_); refine goesL_ (some 91) rfl rfl Try.func67 (by kernel_rfl) rfl #[.int .u64 t201] rfl (by (try simp only [zmt, zmc, zmn]); first | done | rfl) ?_; (with_reducible refine (bits_LeadingZeros64.calls t201 t204 _ A44.out).mono ?_); rintro e w' ⟨rfl, ⟨nd, rfl⟩⟩; refine ⟨_, rfl, ?_⟩) | ((with_reducible refine gcl (f := 68) rfl ?_); refine goesL_ (some 116) rfl rfl Try.func68 (by kernel_rfl) rfl #[.int .u64 ji47, .int .u64 0, .int .u64 ji50] rfl (by (try simp only [zmt, zmc, zmn]); first | done | (simp only [hji47, hji50]; rfl) | rfl) ?_; (with_reducible refine (bits_Div64.calls kj26 ji47 0 ji50 t208 t209 _ A60.out).mono ?_); rintro e w' ⟨rfl, ⟨nd, rfl⟩⟩; refine ⟨_, rfl, ?_⟩; have hcz66_0 : w65.cell? ⟨gb189, 0, none⟩ = some (.int .i64 a0_0) := (bce BK189.out 0).trans rfl; have hcz66_1 : w65.cell? ⟨gb189, 1, none⟩ = some (.int .i64 a0_1) := (bce BK189.out 1).trans rfl; have hfz66_0 := bkf BK189.out 0; have hfz66_1 := bkf BK189.out 1) | ((with_reducible refine gcl (f := 33) rfl ?_); refine goesL_ (some 128) rfl rfl Try.func33 (by kernel_rfl) rfl #[.agg #[.int .i64 a0_0, .int .i64 a0_1], .bool (t190 != t191), .int .u64 t208, .int .i64 (wrap64 ((wrap64 ((wrap64 (t200 - t203)) - (wrap64 (t202 - t204)))) - 64)), .bool (t209 != 0)] rfl (by (try simp only [zmt, zmc, zmn]); first | done | rfl) ?_; (with_reducible refine (ff_round.calls kj26 a0_0 a0_1 (t190 != t191) t208 (wrap64 ((wrap64 ((wrap64 (t200 - t203)) - (wrap64 (t202 - t204)))) - 64)) (t209 != 0) t210 _ A61.out).mono ?_); rintro e w67 ⟨rfl, hb⟩; refine ⟨_, rfl, ?_⟩; have n0_ := As0.mk (bkb (g := gb189) (o := .cells #[.int .i64 a0_0, .int .i64 a0_1] 43 (0, 0)) (by (with_reducible repeat (first | refine bkN ?_ _ | refine bkd ?_ | refine bka ?_ _)); exact BK189.out) hb); have n1_ := As0.mk (bst (by repeat (first | (with_reducible first | exact HB.out | apply bal | apply pwB_ | apply bd1 | refine bse ?_ GE189.out) | exact HB.out)) hb); clear BK189; clear HB; have BK189 := n0_; have HB := n1_; clear n0_ n1_; (try clear hb); (try clear hb2); (try clear hk); (try clear hi)))
            go_ret
            exact ⟨by first | rfl | (simp only [← hji45, ← hji47, ← hji48, ← hji50]; first | rfl) | (simp [*] <;> rfl), by repeat (first | (with_reducible first | exact HB.out | apply bal | apply pwB_ | apply bd1 | refine bse ?_ GE189.out) | exact HB.out)⟩
          ·rw [if_neg c49] at H
           exact absurd H (by simp)
         ·rw [if_neg c46] at H
          exact absurd H (by simp)
end Go.Proofs.Ytjfmomogidgbpaa.PFl
namespace Go.Proofs.Ytjfmomogidgbpaa.PFl
open Go.RowKit Go.Proofs.YtjfmomogidgbpaaW.PrintWords Go.Proofs.YtjfmomogidgbpaaW.PrintLast Go.Proofs.YtjfmomogidgbpaaW.PrintMore
attribute [local go_sem] max2_int min2_int max_two min_two max_three min_three max_four min_four
set_option linter.unusedVariables false
set_option linter.unusedSimpArgs false
def ff_end.f (a0_0 : Int) (a0_1 : Int) (a1 : Bool) (a2 : Int) (a3 : Int) : Option (Int) := (ff_size.f a0_0 a0_1 a2).bind fun t212 => ((ff_size.f a0_0 a0_1 a3).bind fun t213 => (if (Go.bits .or .u64 t212 t213) = 0 then (if a1 = true then (some (Go.bits .and .u64 a2 a3)) else (some (Go.bits .or .u64 a2 a3))) else ((ff_less.f a0_0 a0_1 a2 a3).bind fun t214 => (if (t214 == a1) = true then (some a3) else (some a2)))))
def ff_end.T1 : Bool × List (List Nat × List Nat) := (true, [([], []), ([], []), ([0, 1], [0, 1]), ([], []), ([], []), ([3, 4, 2], [3, 4]), ([2, 5], [2, 5]), ([6], [6])])
def ff_end.B1 : List Nat := [0, 0, 3, 0, 0, 31, 63, 127]
theorem ff_end.tab1 : rtab .any (opsOf Try.f47 1) = ff_end.T1 := by kernel_rfl
theorem ff_end.bits1 : waitsOk ff_end.T1.2 ff_end.B1 = true := by kernel_rfl
set_option maxHeartbeats 8000000 in
set_option maxRecDepth 100000 in
theorem ff_end.calls (a0_0 : Int) (a0_1 : Int) (a1 : Bool) (a2 : Int) (a3 : Int) (r : Int) (w : World) (h : ff_end.f a0_0 a0_1 a1 a2 a3 = some r) :
  Calls Try.prog 47 #[.agg #[.int .i64 a0_0, .int .i64 a0_1], .bool a1, .int .u64 a2, .int .u64 a3] w fun e w' => e = .returned (.int .u64 r) ∧ Below w.heap.size w w' := by
 have hu43 := Try.underlying43
 have HB := As0.mk (Below.refl w.heap.size w)
 have H : ((ff_size.f a0_0 a0_1 a2).bind fun t212 => ((ff_size.f a0_0 a0_1 a3).bind fun t213 => (if (Go.bits .or .u64 t212 t213) = 0 then (if a1 = true then (some (Go.bits .and .u64 a2 a3)) else (some (Go.bits .or .u64 a2 a3))) else ((ff_less.f a0_0 a0_1 a2 a3).bind fun t214 => (if (t214 == a1) = true then (some a3) else (some a2)))))) = some r := h
 clear h
 replace H := zob H
 obtain ⟨t212, A50, H⟩ := H
 replace H : ((ff_size.f a0_0 a0_1 a3).bind fun t213 => (if (Go.bits .or .u64 t212 t213) = 0 then (if a1 = true then (some (Go.bits .and .u64 a2 a3)) else (some (Go.bits .or .u64 a2 a3))) else ((ff_less.f a0_0 a0_1 a2 a3).bind fun t214 => (if (t214 == a1) = true then (some a3) else (some a2))))) = some r := H
 have A5 := As0.mk A50
 clear A50
 replace H := zob H
 obtain ⟨t213, A60, H⟩ := H
 replace H : (if (Go.bits .or .u64 t212 t213) = 0 then (if a1 = true then (some (Go.bits .and .u64 a2 a3)) else (some (Go.bits .or .u64 a2 a3))) else ((ff_less.f a0_0 a0_1 a2 a3).bind fun t214 => (if (t214 == a1) = true then (some a3) else (some a2)))) = some r := H
 have A6 := As0.mk A60
 clear A60
 by_cases c7 : (Go.bits .or .u64 t212 t213) = 0
 ·rw [if_pos c7] at H
  have c7b0 : ((Go.bits .or .u64 t212 t213) == 0) = true := beq_iff_eq.mpr c7
  have c7b1 : ((Go.bits .or .u64 t212 t213) != 0) = false := bne_eq_false_iff_eq.mpr c7
  clear c7
  by_cases c8 : a1 = true
  ·subst c8
   have H1 : (some (Go.bits .and .u64 a2 a3)) = some r := by rw [if_pos rfl] at H; exact H
   clear H
   have H := H1
   clear H1
   obtain rfl := Option.some.inj H
   go_enter Try.func47, Try.ntmps47
   try go_wp2_with (first | ((with_reducible refine gate_dst (N := 4) rfl ?_); refine box_event ?hg (N := 4) ?hd (cs := #[.int .i64 a0_0, .int .i64 a0_1]) (t := 43) ?hr ?_; (case hd => rfl); (case hg => rfl); (case hr => first | (go_simp; done) | (go_simp; rfl)); intro gb211 hg w9 hbox hb; have n0_ := As0.mk (bst (by repeat (first | (with_reducible first | exact HB.out | apply bal | apply pwB_ | apply bd1) | exact HB.out)) hb); have n1_ := As0.mk (hbox); have n2_ := As0.mk ((by rw [hg]; exact (below_size (by repeat (first | (with_reducible first | exact HB.out | apply bal | apply pwB_ | apply bd1) | exact HB.out))) : w.heap.size ≤ gb211)); have n3_ := As0.mk ((by rw [hg]; exact (below_size (by repeat (first | (with_reducible first | exact HB.out | apply bal | apply pwB_ | apply bd1) | exact HB.out))) : w.heap.size ≤ gb211)); clear HB; have HB := n0_; have BK211 := n1_; have GW211 := n2_; have GE211 := n3_; clear n0_ n1_ n2_ n3_; clear hb hbox hg))
   have n0_ := As0.mk (bkd BK211.out)
   have n1_ := As0.mk (bd1 HB.out)
   clear BK211
   clear HB
   have BK211 := n0_
   have HB := n1_
   clear n0_ n1_
   refine start_ (n := 8) (S := fun w' => w'.cell? ⟨gb211, 0, none⟩ = some (.int .i64 a0_0) ∧ w'.cell? ⟨gb211, 1, none⟩ = some (.int .i64 a0_1)) (ds := []) #[false, false, false, false, false, false, false, false] (by kernel_rfl) rfl rfl ⟨(bce BK211.out 0).trans rfl, (bce BK211.out 1).trans rfl⟩ (fun hHeld => ?_); refine with_tabW ff_end.tab1 ff_end.bits1 (fun HT_ HW_ => ?_)
   generalize w9.drew = w10 at BK211 HB hHeld ⊢
   refine pure_ (i := 1) (N := some 10) (v := ?_) (a' := ?_) #[false, true, false, false, false, false, false, false] rfl rfl (any_of HT_.out (by kernel_rfl)) (fun _ _ _ h => h) (Or.inl ⟨by rfl, ?_⟩) ?_ ?_
   rotate_left
   ·intro w'
    go_simp
    with_reducible rfl
   rotate_left
   ·simp only [Act.put, zsi, zcz, zcs, i64_w, i32_w]
    rfl
   refine pure_ (i := 4) (N := some 13) (v := ?_) (a' := ?_) #[false, true, false, false, true, false, false, false] rfl rfl (any_of HT_.out (by kernel_rfl)) (fun _ _ _ h => h) (Or.inl ⟨by rfl, ?_⟩) ?_ ?_
   rotate_left
   ·intro w'
    go_simp
    with_reducible rfl
   rotate_left
   ·simp only [Act.put, zsi, zcz, zcs, i64_w, i32_w]
    rfl
   refine take_ (i := 0) (N := some 9) (v := ?_) (a' := ?_) #[true, true, false, false, true, false, false, false] rfl rfl (take_ofW HT_.out HW_.out (by kernel_rfl)) (fun _ _ _ h => h) (Or.inl ⟨by rfl, ?_⟩) hHeld ?_ ?_
   rotate_left
   ·rintro w' ⟨s0, s1⟩
    go_simp
    with_reducible rfl
   rotate_left
   ·simp only [Act.put, zsi, zcz, zcs, i64_w, i32_w]
    rfl
   refine take_ (i := 3) (N := some 12) (v := ?_) (a' := ?_) #[true, true, false, true, true, false, false, false] rfl rfl (take_ofW HT_.out HW_.out (by kernel_rfl)) (fun _ _ _ h => h) (Or.inl ⟨by rfl, ?_⟩) hHeld ?_ ?_
   rotate_left
   ·rintro w' ⟨s0, s1⟩
    go_simp
    with_reducible rfl
   rotate_left
   ·simp only [Act.put, zsi, zcz, zcs, i64_w, i32_w]
    rfl
   refine one_ (i := 2) (N := some 11) #[true, true, true, true, true, false, false, false] rfl rfl (one_of HT_.out (by kernel_rfl)) (by decide) (fun K hK => ?_)
   refine goes_ Try.func40 (by kernel_rfl) rfl #[.agg #[.int .i64 a0_0, .int .i64 a0_1], .int .u64 a2] (by rfl) rfl rfl (by (try simp only [zmt, zmc, zmn]); first | done | rfl) ?_
   with_reducible refine (ff_size.calls a0_0 a0_1 a2 t212 _ A5.out).mono ?_
   rintro e w11 ⟨rfl, hb⟩
   refine ⟨_, rfl, ?_⟩
   have n0_ := As0.mk (bkb (g := gb211) (o := .cells #[.int .i64 a0_0, .int .i64 a0_1] 43 (0, 0)) (by (with_reducible repeat (first | refine bkN ?_ _ | refine bkd ?_ | refine bka ?_ _)); exact BK211.out) hb)
   have n1_ := As0.mk (bst (by repeat (first | (with_reducible first | exact HB.out | apply bal | apply pwB_ | apply bd1 | refine bse ?_ GE211.out) | exact HB.out)) hb)
   clear BK211
   clear HB
   have BK211 := n0_
   have HB := n1_
   clear n0_ n1_
   (try clear hb)
   (try clear hb2)
   (try clear hk)
   (try clear hi)
   refine hK.out _ _ ⟨(bce BK211.out 0).trans rfl, (bce BK211.out 1).trans rfl⟩ (fun hHeld => ?_)
   clear hK K
   refine norm_ (a' := ?_) ?_ ?_
   rotate_left
   ·show Act.put _ (some 11) _ = _
    simp only [Act.put, zsi, zcz, zcs, i64_w, i32_w]
    rfl
   refine one_ (i := 5) (N := some 14) #[true, true, true, true, true, true, false, false] rfl rfl (one_of HT_.out (by kernel_rfl)) (by decide) (fun K hK => ?_)
   refine goes_ Try.func40 (by kernel_rfl) rfl #[.agg #[.int .i64 a0_0, .int .i64 a0_1], .int .u64 a3] (by rfl) rfl rfl (by (try simp only [zmt, zmc, zmn]); first | done | rfl) ?_
   with_reducible refine (ff_size.calls a0_0 a0_1 a3 t213 _ A6.out).mono ?_
   rintro e w12 ⟨rfl, hb⟩
   refine ⟨_, rfl, ?_⟩
   have n0_ := As0.mk (bkb (g := gb211) (o := .cells #[.int .i64 a0_0, .int .i64 a0_1] 43 (0, 0)) (by (with_reducible repeat (first | refine bkN ?_ _ | refine bkd ?_ | refine bka ?_ _)); exact BK211.out) hb)
   have n1_ := As0.mk (bst (by repeat (first | (with_reducible first | exact HB.out | apply bal | apply pwB_ | apply bd1 | refine bse ?_ GE211.out) | exact HB.out)) hb)
   clear BK211
   clear HB
   have BK211 := n0_
   have HB := n1_
   clear n0_ n1_
   (try clear hb)
   (try clear hb2)
   (try clear hk)
   (try clear hi)
   refine hK.out _ _ ⟨(bce BK211.out 0).trans rfl, (bce BK211.out 1).trans rfl⟩ (fun hHeld => ?_)
   clear hK K
   refine norm_ (a' := ?_) ?_ ?_
   rotate_left
   ·show Act.put _ (some 14) _ = _
    simp only [Act.put, zsi, zcz, zcs, i64_w, i32_w]
    rfl
   refine pure_ (i := 6) (N := some 15) (v := ?_) (a' := ?_) #[true, true, true, true, true, true, true, false] rfl rfl (any_of HT_.out (by kernel_rfl)) (fun _ _ _ h => h) (Or.inl ⟨by rfl, ?_⟩) ?_ ?_
   rotate_left
   ·intro w'
    go_simp
    with_reducible rfl
   rotate_left
   ·simp only [Act.put, zsi, zcz, zcs, i64_w, i32_w]
    rfl
   refine pure_ (i := 7) (N := some 16) (v := ?_) (a' := ?_) #[true, true, true, true, true, true, true, true] rfl rfl (any_of HT_.out (by kernel_rfl)) (fun _ _ _ h => h) (Or.inl ⟨by rfl, ?_⟩) ?_ ?_
   rotate_left
   ·intro w'
    go_simp
    with_reducible rfl
   rotate_left
   ·simp only [Act.put, zsi, zcz, zcs, i64_w, i32_w]
    rfl
   refine done_ (done_of HT_.out (by kernel_rfl)) ?_
   try go_wp2
   go_ret
   exact ⟨by first | rfl | (simp [*] <;> rfl), by repeat (first | (with_reducible first | exact HB.out | apply bal | apply pwB_ | apply bd1 | refine bse ?_ GE211.out) | exact HB.out)⟩
  ·replace c8 := Bool.eq_false_iff.mpr c8
   subst c8
   have H1 : (some (Go.bits .or .u64 a2 a3)) = some r := by rw [if_neg (show ¬ (false = true) by decide)] at H; exact H
   clear H
   have H := H1
   clear H1
   obtain rfl := Option.some.inj H
   go_enter Try.func47, Try.ntmps47
   try go_wp2_with (first | ((with_reducible refine gate_dst (N := 4) rfl ?_); refine box_event ?hg (N := 4) ?hd (cs := #[.int .i64 a0_0, .int .i64 a0_1]) (t := 43) ?hr ?_; (case hd => rfl); (case hg => rfl); (case hr => first | (go_simp; done) | (go_simp; rfl)); intro gb211 hg w13 hbox hb; have n0_ := As0.mk (bst (by repeat (first | (with_reducible first | exact HB.out | apply bal | apply pwB_ | apply bd1) | exact HB.out)) hb); have n1_ := As0.mk (hbox); have n2_ := As0.mk ((by rw [hg]; exact (below_size (by repeat (first | (with_reducible first | exact HB.out | apply bal | apply pwB_ | apply bd1) | exact HB.out))) : w.heap.size ≤ gb211)); have n3_ := As0.mk ((by rw [hg]; exact (below_size (by repeat (first | (with_reducible first | exact HB.out | apply bal | apply pwB_ | apply bd1) | exact HB.out))) : w.heap.size ≤ gb211)); clear HB; have HB := n0_; have BK211 := n1_; have GW211 := n2_; have GE211 := n3_; clear n0_ n1_ n2_ n3_; clear hb hbox hg))
   have n0_ := As0.mk (bkd BK211.out)
   have n1_ := As0.mk (bd1 HB.out)
   clear BK211
   clear HB
   have BK211 := n0_
   have HB := n1_
   clear n0_ n1_
   refine start_ (n := 8) (S := fun w' => w'.cell? ⟨gb211, 0, none⟩ = some (.int .i64 a0_0) ∧ w'.cell? ⟨gb211, 1, none⟩ = some (.int .i64 a0_1)) (ds := []) #[false, false, false, false, false, false, false, false] (by kernel_rfl) rfl rfl ⟨(bce BK211.out 0).trans rfl, (bce BK211.out 1).trans rfl⟩ (fun hHeld => ?_); refine with_tabW ff_end.tab1 ff_end.bits1 (fun HT_ HW_ => ?_)
   generalize w13.drew = w14 at BK211 HB hHeld ⊢
   refine pure_ (i := 1) (N := some 10) (v := ?_) (a' := ?_) #[false, true, false, false, false, false, false, false] rfl rfl (any_of HT_.out (by kernel_rfl)) (fun _ _ _ h => h) (Or.inl ⟨by rfl, ?_⟩) ?_ ?_
   rotate_left
   ·intro w'
    go_simp
    with_reducible rfl
   rotate_left
   ·simp only [Act.put, zsi, zcz, zcs, i64_w, i32_w]
    rfl
   refine pure_ (i := 4) (N := some 13) (v := ?_) (a' := ?_) #[false, true, false, false, true, false, false, false] rfl rfl (any_of HT_.out (by kernel_rfl)) (fun _ _ _ h => h) (Or.inl ⟨by rfl, ?_⟩) ?_ ?_
   rotate_left
   ·intro w'
    go_simp
    with_reducible rfl
   rotate_left
   ·simp only [Act.put, zsi, zcz, zcs, i64_w, i32_w]
    rfl
   refine take_ (i := 0) (N := some 9) (v := ?_) (a' := ?_) #[true, true, false, false, true, false, false, false] rfl rfl (take_ofW HT_.out HW_.out (by kernel_rfl)) (fun _ _ _ h => h) (Or.inl ⟨by rfl, ?_⟩) hHeld ?_ ?_
   rotate_left
   ·rintro w' ⟨s0, s1⟩
    go_simp
    with_reducible rfl
   rotate_left
   ·simp only [Act.put, zsi, zcz, zcs, i64_w, i32_w]
    rfl
   refine take_ (i := 3) (N := some 12) (v := ?_) (a' := ?_) #[true, true, false, true, true, false, false, false] rfl rfl (take_ofW HT_.out HW_.out (by kernel_rfl)) (fun _ _ _ h => h) (Or.inl ⟨by rfl, ?_⟩) hHeld ?_ ?_
   rotate_left
   ·rintro w' ⟨s0, s1⟩
    go_simp
    with_reducible rfl
   rotate_left
   ·simp only [Act.put, zsi, zcz, zcs, i64_w, i32_w]
    rfl
   refine one_ (i := 2) (N := some 11) #[true, true, true, true, true, false, false, false] rfl rfl (one_of HT_.out (by kernel_rfl)) (by decide) (fun K hK => ?_)
   refine goes_ Try.func40 (by kernel_rfl) rfl #[.agg #[.int .i64 a0_0, .int .i64 a0_1], .int .u64 a2] (by rfl) rfl rfl (by (try simp only [zmt, zmc, zmn]); first | done | rfl) ?_
   with_reducible refine (ff_size.calls a0_0 a0_1 a2 t212 _ A5.out).mono ?_
   rintro e w15 ⟨rfl, hb⟩
   refine ⟨_, rfl, ?_⟩
   have n0_ := As0.mk (bkb (g := gb211) (o := .cells #[.int .i64 a0_0, .int .i64 a0_1] 43 (0, 0)) (by (with_reducible repeat (first | refine bkN ?_ _ | refine bkd ?_ | refine bka ?_ _)); exact BK211.out) hb)
   have n1_ := As0.mk (bst (by repeat (first | (with_reducible first | exact HB.out | apply bal | apply pwB_ | apply bd1 | refine bse ?_ GE211.out) | exact HB.out)) hb)
   clear BK211
   clear HB
   have BK211 := n0_
   have HB := n1_
   clear n0_ n1_
   (try clear hb)
   (try clear hb2)
   (try clear hk)
   (try clear hi)
   refine hK.out _ _ ⟨(bce BK211.out 0).trans rfl, (bce BK211.out 1).trans rfl⟩ (fun hHeld => ?_)
   clear hK K
   refine norm_ (a' := ?_) ?_ ?_
   rotate_left
   ·show Act.put _ (some 11) _ = _
    simp only [Act.put, zsi, zcz, zcs, i64_w, i32_w]
    rfl
   refine one_ (i := 5) (N := some 14) #[true, true, true, true, true, true, false, false] rfl rfl (one_of HT_.out (by kernel_rfl)) (by decide) (fun K hK => ?_)
   refine goes_ Try.func40 (by kernel_rfl) rfl #[.agg #[.int .i64 a0_0, .int .i64 a0_1], .int .u64 a3] (by rfl) rfl rfl (by (try simp only [zmt, zmc, zmn]); first | done | rfl) ?_
   with_reducible refine (ff_size.calls a0_0 a0_1 a3 t213 _ A6.out).mono ?_
   rintro e w16 ⟨rfl, hb⟩
   refine ⟨_, rfl, ?_⟩
   have n0_ := As0.mk (bkb (g := gb211) (o := .cells #[.int .i64 a0_0, .int .i64 a0_1] 43 (0, 0)) (by (with_reducible repeat (first | refine bkN ?_ _ | refine bkd ?_ | refine bka ?_ _)); exact BK211.out) hb)
   have n1_ := As0.mk (bst (by repeat (first | (with_reducible first | exact HB.out | apply bal | apply pwB_ | apply bd1 | refine bse ?_ GE211.out) | exact HB.out)) hb)
   clear BK211
   clear HB
   have BK211 := n0_
   have HB := n1_
   clear n0_ n1_
   (try clear hb)
   (try clear hb2)
   (try clear hk)
   (try clear hi)
   refine hK.out _ _ ⟨(bce BK211.out 0).trans rfl, (bce BK211.out 1).trans rfl⟩ (fun hHeld => ?_)
   clear hK K
   refine norm_ (a' := ?_) ?_ ?_
   rotate_left
   ·show Act.put _ (some 14) _ = _
    simp only [Act.put, zsi, zcz, zcs, i64_w, i32_w]
    rfl
   refine pure_ (i := 6) (N := some 15) (v := ?_) (a' := ?_) #[true, true, true, true, true, true, true, false] rfl rfl (any_of HT_.out (by kernel_rfl)) (fun _ _ _ h => h) (Or.inl ⟨by rfl, ?_⟩) ?_ ?_
   rotate_left
   ·intro w'
    go_simp
    with_reducible rfl
   rotate_left
   ·simp only [Act.put, zsi, zcz, zcs, i64_w, i32_w]
    rfl
   refine pure_ (i := 7) (N := some 16) (v := ?_) (a' := ?_) #[true, true, true, true, true, true, true, true] rfl rfl (any_of HT_.out (by kernel_rfl)) (fun _ _ _ h => h) (Or.inl ⟨by rfl, ?_⟩) ?_ ?_
   rotate_left
   ·intro w'
    go_simp
    with_reducible rfl
   rotate_left
   ·simp only [Act.put, zsi, zcz, zcs, i64_w, i32_w]
    rfl
   refine done_ (done_of HT_.out (by kernel_rfl)) ?_
   try go_wp2
   go_ret
   exact ⟨by first | rfl | (simp [*] <;> rfl), by repeat (first | (with_reducible first | exact HB.out | apply bal | apply pwB_ | apply bd1 | refine bse ?_ GE211.out) | exact HB.out)⟩
 ·rw [if_neg c7] at H
  have c7b0 : ((Go.bits .or .u64 t212 t213) == 0) = false := beq_eq_false_iff_ne.mpr c7
  have c7b1 : ((Go.bits .or .u64 t212 t213) != 0) = true := bne_iff_ne.mpr c7
  replace H := zob H
  obtain ⟨t214, A170, H⟩ := H
  replace H : (if (t214 == a1) = true then (some a3) else (some a2)) = some r := H
  have A17 := As0.mk A170
  clear A170
  by_cases c18 : (t214 == a1) = true
  ·rw [if_pos c18] at H
   have c18b0 : (t214 == a1) = true := c18
   (try (have c18b1 : decide (t214 = a1) = true := by simpa using c18))
   (try (have c18b2 : (t214 == a1) = true := by simpa using c18))
   clear c18
   obtain rfl := Option.some.inj H
   go_enter Try.func47, Try.ntmps47
   try go_wp2_with (first | ((with_reducible refine gate_dst (N := 4) rfl ?_); refine box_event ?hg (N := 4) ?hd (cs := #[.int .i64 a0_0, .int .i64 a0_1]) (t := 43) ?hr ?_; (case hd => rfl); (case hg => rfl); (case hr => first | (go_simp; done) | (go_simp; rfl)); intro gb211 hg w19 hbox hb; have n0_ := As0.mk (bst (by repeat (first | (with_reducible first | exact HB.out | apply bal | apply pwB_ | apply bd1) | exact HB.out)) hb); have n1_ := As0.mk (hbox); have n2_ := As0.mk ((by rw [hg]; exact (below_size (by repeat (first | (with_reducible first | exact HB.out | apply bal | apply pwB_ | apply bd1) | exact HB.out))) : w.heap.size ≤ gb211)); have n3_ := As0.mk ((by rw [hg]; exact (below_size (by repeat (first | (with_reducible first | exact HB.out | apply bal | apply pwB_ | apply bd1) | exact HB.out))) : w.heap.size ≤ gb211)); clear HB; have HB := n0_; have BK211 := n1_; have GW211 := n2_; have GE211 := n3_; clear n0_ n1_ n2_ n3_; clear hb hbox hg))
   have n0_ := As0.mk (bkd BK211.out)
   have n1_ := As0.mk (bd1 HB.out)
   clear BK211
   clear HB
   have BK211 := n0_
   have HB := n1_
   clear n0_ n1_
   refine start_ (n := 8) (S := fun w' => w'.cell? ⟨gb211, 0, none⟩ = some (.int .i64 a0_0) ∧ w'.cell? ⟨gb211, 1, none⟩ = some (.int .i64 a0_1)) (ds := []) #[false, false, false, false, false, false, false, false] (by kernel_rfl) rfl rfl ⟨(bce BK211.out 0).trans rfl, (bce BK211.out 1).trans rfl⟩ (fun hHeld => ?_); refine with_tabW ff_end.tab1 ff_end.bits1 (fun HT_ HW_ => ?_)
   generalize w19.drew = w20 at BK211 HB hHeld ⊢
   refine pure_ (i := 1) (N := some 10) (v := ?_) (a' := ?_) #[false, true, false, false, false, false, false, false] rfl rfl (any_of HT_.out (by kernel_rfl)) (fun _ _ _ h => h) (Or.inl ⟨by rfl, ?_⟩) ?_ ?_
   rotate_left
   ·intro w'
    go_simp
    with_reducible rfl
   rotate_left
   ·simp only [Act.put, zsi, zcz, zcs, i64_w, i32_w]
    rfl
   refine pure_ (i := 4) (N := some 13) (v := ?_) (a' := ?_) #[false, true, false, false, true, false, false, false] rfl rfl (any_of HT_.out (by kernel_rfl)) (fun _ _ _ h => h) (Or.inl ⟨by rfl, ?_⟩) ?_ ?_
   rotate_left
   ·intro w'
    go_simp
    with_reducible rfl
   rotate_left
   ·simp only [Act.put, zsi, zcz, zcs, i64_w, i32_w]
    rfl
   refine take_ (i := 0) (N := some 9) (v := ?_) (a' := ?_) #[true, true, false, false, true, false, false, false] rfl rfl (take_ofW HT_.out HW_.out (by kernel_rfl)) (fun _ _ _ h => h) (Or.inl ⟨by rfl, ?_⟩) hHeld ?_ ?_
   rotate_left
   ·rintro w' ⟨s0, s1⟩
    go_simp
    with_reducible rfl
   rotate_left
   ·simp only [Act.put, zsi, zcz, zcs, i64_w, i32_w]
    rfl
   refine take_ (i := 3) (N := some 12) (v := ?_) (a' := ?_) #[true, true, false, true, true, false, false, false] rfl rfl (take_ofW HT_.out HW_.out (by kernel_rfl)) (fun _ _ _ h => h) (Or.inl ⟨by rfl, ?_⟩) hHeld ?_ ?_
   rotate_left
   ·rintro w' ⟨s0, s1⟩
    go_simp
    with_reducible rfl
   rotate_left
   ·simp only [Act.put, zsi, zcz, zcs, i64_w, i32_w]
    rfl
   refine one_ (i := 2) (N := some 11) #[true, true, true, true, true, false, false, false] rfl rfl (one_of HT_.out (by kernel_rfl)) (by decide) (fun K hK => ?_)
   refine goes_ Try.func40 (by kernel_rfl) rfl #[.agg #[.int .i64 a0_0, .int .i64 a0_1], .int .u64 a2] (by rfl) rfl rfl (by (try simp only [zmt, zmc, zmn]); first | done | rfl) ?_
   with_reducible refine (ff_size.calls a0_0 a0_1 a2 t212 _ A5.out).mono ?_
   rintro e w21 ⟨rfl, hb⟩
   refine ⟨_, rfl, ?_⟩
   have n0_ := As0.mk (bkb (g := gb211) (o := .cells #[.int .i64 a0_0, .int .i64 a0_1] 43 (0, 0)) (by (with_reducible repeat (first | refine bkN ?_ _ | refine bkd ?_ | refine bka ?_ _)); exact BK211.out) hb)
   have n1_ := As0.mk (bst (by repeat (first | (with_reducible first | exact HB.out | apply bal | apply pwB_ | apply bd1 | refine bse ?_ GE211.out) | exact HB.out)) hb)
   clear BK211
   clear HB
   have BK211 := n0_
   have HB := n1_
   clear n0_ n1_
   (try clear hb)
   (try clear hb2)
   (try clear hk)
   (try clear hi)
   refine hK.out _ _ ⟨(bce BK211.out 0).trans rfl, (bce BK211.out 1).trans rfl⟩ (fun hHeld => ?_)
   clear hK K
   refine norm_ (a' := ?_) ?_ ?_
   rotate_left
   ·show Act.put _ (some 11) _ = _
    simp only [Act.put, zsi, zcz, zcs, i64_w, i32_w]
    rfl
   refine one_ (i := 5) (N := some 14) #[true, true, true, true, true, true, false, false] rfl rfl (one_of HT_.out (by kernel_rfl)) (by decide) (fun K hK => ?_)
   refine goes_ Try.func40 (by kernel_rfl) rfl #[.agg #[.int .i64 a0_0, .int .i64 a0_1], .int .u64 a3] (by rfl) rfl rfl (by (try simp only [zmt, zmc, zmn]); first | done | rfl) ?_
   with_reducible refine (ff_size.calls a0_0 a0_1 a3 t213 _ A6.out).mono ?_
   rintro e w22 ⟨rfl, hb⟩
   refine ⟨_, rfl, ?_⟩
   have n0_ := As0.mk (bkb (g := gb211) (o := .cells #[.int .i64 a0_0, .int .i64 a0_1] 43 (0, 0)) (by (with_reducible repeat (first | refine bkN ?_ _ | refine bkd ?_ | refine bka ?_ _)); exact BK211.out) hb)
   have n1_ := As0.mk (bst (by repeat (first | (with_reducible first | exact HB.out | apply bal | apply pwB_ | apply bd1 | refine bse ?_ GE211.out) | exact HB.out)) hb)
   clear BK211
   clear HB
   have BK211 := n0_
   have HB := n1_
   clear n0_ n1_
   (try clear hb)
   (try clear hb2)
   (try clear hk)
   (try clear hi)
   refine hK.out _ _ ⟨(bce BK211.out 0).trans rfl, (bce BK211.out 1).trans rfl⟩ (fun hHeld => ?_)
   clear hK K
   refine norm_ (a' := ?_) ?_ ?_
   rotate_left
   ·show Act.put _ (some 14) _ = _
    simp only [Act.put, zsi, zcz, zcs, i64_w, i32_w]
    rfl
   refine pure_ (i := 6) (N := some 15) (v := ?_) (a' := ?_) #[true, true, true, true, true, true, true, false] rfl rfl (any_of HT_.out (by kernel_rfl)) (fun _ _ _ h => h) (Or.inl ⟨by rfl, ?_⟩) ?_ ?_
   rotate_left
   ·intro w'
    go_simp
    with_reducible rfl
   rotate_left
   ·simp only [Act.put, zsi, zcz, zcs, i64_w, i32_w]
    rfl
   refine pure_ (i := 7) (N := some 16) (v := ?_) (a' := ?_) #[true, true, true, true, true, true, true, true] rfl rfl (any_of HT_.out (by kernel_rfl)) (fun _ _ _ h => h) (Or.inl ⟨by rfl, ?_⟩) ?_ ?_
   rotate_left
   ·intro w'
    go_simp
    with_reducible rfl
   rotate_left
   ·simp only [Act.put, zsi, zcz, zcs, i64_w, i32_w]
    rfl
   refine done_ (done_of HT_.out (by kernel_rfl)) ?_
   have hcz23_0 : w22.cell? ⟨gb211, 0, none⟩ = some (.int .i64 a0_0) := (bce BK211.out 0).trans rfl
   have hcz23_1 : w22.cell? ⟨gb211, 1, none⟩ = some (.int .i64 a0_1) := (bce BK211.out 1).trans rfl
   have hfz23_0 := bkf BK211.out 0
   have hfz23_1 := bkf BK211.out 1
   try go_wp2_with (first | ((with_reducible refine gcl (f := 41) rfl ?_); refine goesL_ (some 27) rfl rfl Try.func41 (by kernel_rfl) rfl #[.agg #[.int .i64 a0_0, .int .i64 a0_1], .int .u64 a2, .int .u64 a3] rfl (by (try simp only [zmt, zmc, zmn]); first | done | rfl) ?_; (with_reducible refine (ff_less.calls a0_0 a0_1 a2 a3 t214 _ A17.out).mono ?_); rintro e w24 ⟨rfl, hb⟩; refine ⟨_, rfl, ?_⟩; have n0_ := As0.mk (bkb (g := gb211) (o := .cells #[.int .i64 a0_0, .int .i64 a0_1] 43 (0, 0)) (by (with_reducible repeat (first | refine bkN ?_ _ | refine bkd ?_ | refine bka ?_ _)); exact BK211.out) hb); have n1_ := As0.mk (bst (by repeat (first | (with_reducible first | exact HB.out | apply bal | apply pwB_ | apply bd1 | refine bse ?_ GE211.out) | exact HB.out)) hb); clear BK211; clear HB; have BK211 := n0_; have HB := n1_; clear n0_ n1_; (try clear hb); (try clear hb2); (try clear hk); (try clear hi)))
   go_ret
   exact ⟨by first | rfl | (simp [*] <;> rfl), by repeat (first | (with_reducible first | exact HB.out | apply bal | apply pwB_ | apply bd1 | refine bse ?_ GE211.out) | exact HB.out)⟩
  ·rw [if_neg c18] at H
   have c18b0 : (t214 == a1) = false := by simpa using c18
   (try (have c18b1 : decide (t214 = a1) = false := by simpa using c18))
   (try (have c18b2 : (t214 == a1) = false := by simpa using c18))
   (try (have c18b3 : ¬ (t214 = a1) := by simpa using c18))
   clear c18
   obtain rfl := Option.some.inj H
   go_enter Try.func47, Try.ntmps47
   try go_wp2_with (first | ((with_reducible refine gate_dst (N := 4) rfl ?_); refine box_event ?hg (N := 4) ?hd (cs := #[.int .i64 a0_0, .int .i64 a0_1]) (t := 43) ?hr ?_; (case hd => rfl); (case hg => rfl); (case hr => first | (go_simp; done) | (go_simp; rfl)); intro gb211 hg w25 hbox hb; have n0_ := As0.mk (bst (by repeat (first | (with_reducible first | exact HB.out | apply bal | apply pwB_ | apply bd1) | exact HB.out)) hb); have n1_ := As0.mk (hbox); have n2_ := As0.mk ((by rw [hg]; exact (below_size (by repeat (first | (with_reducible first | exact HB.out | apply bal | apply pwB_ | apply bd1) | exact HB.out))) : w.heap.size ≤ gb211)); have n3_ := As0.mk ((by rw [hg]; exact (below_size (by repeat (first | (with_reducible first | exact HB.out | apply bal | apply pwB_ | apply bd1) | exact HB.out))) : w.heap.size ≤ gb211)); clear HB; have HB := n0_; have BK211 := n1_; have GW211 := n2_; have GE211 := n3_; clear n0_ n1_ n2_ n3_; clear hb hbox hg))
   have n0_ := As0.mk (bkd BK211.out)
   have n1_ := As0.mk (bd1 HB.out)
   clear BK211
   clear HB
   have BK211 := n0_
   have HB := n1_
   clear n0_ n1_
   refine start_ (n := 8) (S := fun w' => w'.cell? ⟨gb211, 0, none⟩ = some (.int .i64 a0_0) ∧ w'.cell? ⟨gb211, 1, none⟩ = some (.int .i64 a0_1)) (ds := []) #[false, false, false, false, false, false, false, false] (by kernel_rfl) rfl rfl ⟨(bce BK211.out 0).trans rfl, (bce BK211.out 1).trans rfl⟩ (fun hHeld => ?_); refine with_tabW ff_end.tab1 ff_end.bits1 (fun HT_ HW_ => ?_)
   generalize w25.drew = w26 at BK211 HB hHeld ⊢
   refine pure_ (i := 1) (N := some 10) (v := ?_) (a' := ?_) #[false, true, false, false, false, false, false, false] rfl rfl (any_of HT_.out (by kernel_rfl)) (fun _ _ _ h => h) (Or.inl ⟨by rfl, ?_⟩) ?_ ?_
   rotate_left
   ·intro w'
    go_simp
    with_reducible rfl
   rotate_left
   ·simp only [Act.put, zsi, zcz, zcs, i64_w, i32_w]
    rfl
   refine pure_ (i := 4) (N := some 13) (v := ?_) (a' := ?_) #[false, true, false, false, true, false, false, false] rfl rfl (any_of HT_.out (by kernel_rfl)) (fun _ _ _ h => h) (Or.inl ⟨by rfl, ?_⟩) ?_ ?_
   rotate_left
   ·intro w'
    go_simp
    with_reducible rfl
   rotate_left
   ·simp only [Act.put, zsi, zcz, zcs, i64_w, i32_w]
    rfl
   refine take_ (i := 0) (N := some 9) (v := ?_) (a' := ?_) #[true, true, false, false, true, false, false, false] rfl rfl (take_ofW HT_.out HW_.out (by kernel_rfl)) (fun _ _ _ h => h) (Or.inl ⟨by rfl, ?_⟩) hHeld ?_ ?_
   rotate_left
   ·rintro w' ⟨s0, s1⟩
    go_simp
    with_reducible rfl
   rotate_left
   ·simp only [Act.put, zsi, zcz, zcs, i64_w, i32_w]
    rfl
   refine take_ (i := 3) (N := some 12) (v := ?_) (a' := ?_) #[true, true, false, true, true, false, false, false] rfl rfl (take_ofW HT_.out HW_.out (by kernel_rfl)) (fun _ _ _ h => h) (Or.inl ⟨by rfl, ?_⟩) hHeld ?_ ?_
   rotate_left
   ·rintro w' ⟨s0, s1⟩
    go_simp
    with_reducible rfl
   rotate_left
   ·simp only [Act.put, zsi, zcz, zcs, i64_w, i32_w]
    rfl
   refine one_ (i := 2) (N := some 11) #[true, true, true, true, true, false, false, false] rfl rfl (one_of HT_.out (by kernel_rfl)) (by decide) (fun K hK => ?_)
   refine goes_ Try.func40 (by kernel_rfl) rfl #[.agg #[.int .i64 a0_0, .int .i64 a0_1], .int .u64 a2] (by rfl) rfl rfl (by (try simp only [zmt, zmc, zmn]); first | done | rfl) ?_
   with_reducible refine (ff_size.calls a0_0 a0_1 a2 t212 _ A5.out).mono ?_
   rintro e w27 ⟨rfl, hb⟩
   refine ⟨_, rfl, ?_⟩
   have n0_ := As0.mk (bkb (g := gb211) (o := .cells #[.int .i64 a0_0, .int .i64 a0_1] 43 (0, 0)) (by (with_reducible repeat (first | refine bkN ?_ _ | refine bkd ?_ | refine bka ?_ _)); exact BK211.out) hb)
   have n1_ := As0.mk (bst (by repeat (first | (with_reducible first | exact HB.out | apply bal | apply pwB_ | apply bd1 | refine bse ?_ GE211.out) | exact HB.out)) hb)
   clear BK211
   clear HB
   have BK211 := n0_
   have HB := n1_
   clear n0_ n1_
   (try clear hb)
   (try clear hb2)
   (try clear hk)
   (try clear hi)
   refine hK.out _ _ ⟨(bce BK211.out 0).trans rfl, (bce BK211.out 1).trans rfl⟩ (fun hHeld => ?_)
   clear hK K
   refine norm_ (a' := ?_) ?_ ?_
   rotate_left
   ·show Act.put _ (some 11) _ = _
    simp only [Act.put, zsi, zcz, zcs, i64_w, i32_w]
    rfl
   refine one_ (i := 5) (N := some 14) #[true, true, true, true, true, true, false, false] rfl rfl (one_of HT_.out (by kernel_rfl)) (by decide) (fun K hK => ?_)
   refine goes_ Try.func40 (by kernel_rfl) rfl #[.agg #[.int .i64 a0_0, .int .i64 a0_1], .int .u64 a3] (by rfl) rfl rfl (by (try simp only [zmt, zmc, zmn]); first | done | rfl) ?_
   with_reducible refine (ff_size.calls a0_0 a0_1 a3 t213 _ A6.out).mono ?_
   rintro e w28 ⟨rfl, hb⟩
   refine ⟨_, rfl, ?_⟩
   have n0_ := As0.mk (bkb (g := gb211) (o := .cells #[.int .i64 a0_0, .int .i64 a0_1] 43 (0, 0)) (by (with_reducible repeat (first | refine bkN ?_ _ | refine bkd ?_ | refine bka ?_ _)); exact BK211.out) hb)
   have n1_ := As0.mk (bst (by repeat (first | (with_reducible first | exact HB.out | apply bal | apply pwB_ | apply bd1 | refine bse ?_ GE211.out) | exact HB.out)) hb)
   clear BK211
   clear HB
   have BK211 := n0_
   have HB := n1_
   clear n0_ n1_
   (try clear hb)
   (try clear hb2)
   (try clear hk)
   (try clear hi)
   refine hK.out _ _ ⟨(bce BK211.out 0).trans rfl, (bce BK211.out 1).trans rfl⟩ (fun hHeld => ?_)
   clear hK K
   refine norm_ (a' := ?_) ?_ ?_
   rotate_left
   ·show Act.put _ (some 14) _ = _
    simp only [Act.put, zsi, zcz, zcs, i64_w, i32_w]
    rfl
   refine pure_ (i := 6) (N := some 15) (v := ?_) (a' := ?_) #[true, true, true, true, true, true, true, false] rfl rfl (any_of HT_.out (by kernel_rfl)) (fun _ _ _ h => h) (Or.inl ⟨by rfl, ?_⟩) ?_ ?_
   rotate_left
   ·intro w'
    go_simp
    with_reducible rfl
   rotate_left
   ·simp only [Act.put, zsi, zcz, zcs, i64_w, i32_w]
    rfl
   refine pure_ (i := 7) (N := some 16) (v := ?_) (a' := ?_) #[true, true, true, true, true, true, true, true] rfl rfl (any_of HT_.out (by kernel_rfl)) (fun _ _ _ h => h) (Or.inl ⟨by rfl, ?_⟩) ?_ ?_
   rotate_left
   ·intro w'
    go_simp
    with_reducible rfl
   rotate_left
   ·simp only [Act.put, zsi, zcz, zcs, i64_w, i32_w]
    rfl
   refine done_ (done_of HT_.out (by kernel_rfl)) ?_
   have hcz29_0 : w28.cell? ⟨gb211, 0, none⟩ = some (.int .i64 a0_0) := (bce BK211.out 0).trans rfl
   have hcz29_1 : w28.cell? ⟨gb211, 1, none⟩ = some (.int .i64 a0_1) := (bce BK211.out 1).trans rfl
   have hfz29_0 := bkf BK211.out 0
   have hfz29_1 := bkf BK211.out 1
   try go_wp2_with (first | ((with_reducible refine gcl (f := 41) rfl ?_); refine goesL_ (some 27) rfl rfl Try.func41 (by kernel_rfl) rfl #[.agg #[.int .i64 a0_0, .int .i64 a0_1], .int .u64 a2, .int .u64 a3] rfl (by (try simp only [zmt, zmc, zmn]); first | done | rfl) ?_; (with_reducible refine (ff_less.calls a0_0 a0_1 a2 a3 t214 _ A17.out).mono ?_); rintro e w30 ⟨rfl, hb⟩; refine ⟨_, rfl, ?_⟩; have n0_ := As0.mk (bkb (g := gb211) (o := .cells #[.int .i64 a0_0, .int .i64 a0_1] 43 (0, 0)) (by (with_reducible repeat (first | refine bkN ?_ _ | refine bkd ?_ | refine bka ?_ _)); exact BK211.out) hb); have n1_ := As0.mk (bst (by repeat (first | (with_reducible first | exact HB.out | apply bal | apply pwB_ | apply bd1 | refine bse ?_ GE211.out) | exact HB.out)) hb); clear BK211; clear HB; have BK211 := n0_; have HB := n1_; clear n0_ n1_; (try clear hb); (try clear hb2); (try clear hk); (try clear hi)))
   go_ret
   exact ⟨by first | rfl | (simp [*] <;> rfl), by repeat (first | (with_reducible first | exact HB.out | apply bal | apply pwB_ | apply bd1 | refine bse ?_ GE211.out) | exact HB.out)⟩
end Go.Proofs.Ytjfmomogidgbpaa.PFl
namespace Go.Proofs.Ytjfmomogidgbpaa.PFl
open Go.RowKit Go.Proofs.YtjfmomogidgbpaaW.PrintWords Go.Proofs.YtjfmomogidgbpaaW.PrintLast Go.Proofs.YtjfmomogidgbpaaW.PrintMore
attribute [local go_sem] max2_int min2_int max_two min_two max_three min_three max_four min_four
set_option linter.unusedVariables false
set_option linter.unusedSimpArgs false
mutual
def floats_Bin.j0 : Nat → Int → Int → Int → Bool → Int → Int → Option (Int × Int)
 | 0, _, _, _, _, _, _ => none
 | k + 1, x1, x2, x3, x23, x218000, x218001 => if x23 = true then (some (0, 1)) else ((ff_cut.f x218000 x218001 x2).bind fun t219 => ((ff_cut.f x218000 x218001 x3).bind fun t220 => ((ff_isNaN.f x218000 x218001 t219).bind fun t221 => (if t221 = true then (floats_Bin.j1 k x1 t219 t220 true x218000 x218001) else ((ff_isNaN.f x218000 x218001 t220).bind fun t222 => (floats_Bin.j1 k x1 t219 t220 t222 x218000 x218001))))))
def floats_Bin.j1 : Nat → Int → Int → Int → Bool → Int → Int → Option (Int × Int)
 | 0, _, _, _, _, _, _ => none
 | k + 1, x1, x2, x3, x11, x218000, x218001 => if x1 = 7 then ((ff_neg.f x218000 x218001 x3).bind fun t223 => ((ff_size.f x218000 x218001 x2).bind fun t224 => ((ff_signed.f x218000 x218001 t223 t224).bind fun t225 => (some (t225, 0))))) else (if x1 = 8 then (if x11 = true then (some (x2, 0)) else ((ff_less.f x218000 x218001 x3 x2).bind fun t226 => (if t226 = true then (some (x3, 0)) else (some (x2, 0))))) else (if x1 = 9 then (if x11 = true then (some (x2, 0)) else ((ff_less.f x218000 x218001 x2 x3).bind fun t227 => (if t227 = true then (some (x3, 0)) else (some (x2, 0))))) else (if x11 = true then ((ff_nan.f x218000 x218001).bind fun t228 => (some (t228, 0))) else (if x1 = 2 then ((ff_sign.f x218000 x218001).bind fun t229 => (floats_Bin.j2 k x2 (Go.bits .xor .u64 x3 t229) x218000 x218001)) else (if x1 = 1 then (floats_Bin.j2 k x2 x3 x218000 x218001) else (if x1 = 3 then ((ff_mul.f k x218000 x218001 x2 x3).bind fun t230 => (some (t230, 0))) else (if x1 = 4 then ((ff_div.f k x218000 x218001 x2 x3).bind fun t231 => (some (t231, 0))) else ((ff_end.f x218000 x218001 (x1 == 6) x2 x3).bind fun t232 => (some (t232, 0))))))))))
def floats_Bin.j2 : Nat → Int → Int → Int → Int → Option (Int × Int)
 | 0, _, _, _, _ => none
 | k + 1, x2, x3, x218000, x218001 => (ff_add.f k x218000 x218001 x2 x3).bind fun t233 => (some (t233, 0))
end
def floats_Bin.f (k : Nat) (a0 : Int) (a1 : Int) (a2 : Int) (a3 : Int) : Option (Int × Int) := (floats_of.f a0).bind fun bt215 => ((ff_none.f bt215.1 bt215.2).bind fun t218 => (if t218 = true then (floats_Bin.j0 k a1 a2 a3 true bt215.1 bt215.2) else (if a1 < 1 then (floats_Bin.j0 k a1 a2 a3 true bt215.1 bt215.2) else (floats_Bin.j0 k a1 a2 a3 (decide (a1 > 9)) bt215.1 bt215.2))))
theorem floats_Bin.mono_l : ∀ k, (∀ y0 y1 y2 y3 y4 y5, LeO (floats_Bin.j0 k y0 y1 y2 y3 y4 y5) (floats_Bin.j0 (k + 1) y0 y1 y2 y3 y4 y5)) ∧ (∀ y0 y1 y2 y3 y4 y5, LeO (floats_Bin.j1 k y0 y1 y2 y3 y4 y5) (floats_Bin.j1 (k + 1) y0 y1 y2 y3 y4 y5)) ∧ (∀ y0 y1 y2 y3, LeO (floats_Bin.j2 k y0 y1 y2 y3) (floats_Bin.j2 (k + 1) y0 y1 y2 y3)) := by
 intro k
 induction k with
 | zero => exact ⟨fun _ _ _ _ _ _ r h => by simp [floats_Bin.j0] at h, fun _ _ _ _ _ _ r h => by simp [floats_Bin.j1] at h, fun _ _ _ _ r h => by simp [floats_Bin.j2] at h⟩
 | succ k ih =>
  obtain ⟨ih0, ih1, ih2⟩ := ih
  refine ⟨?_, ?_, ?_⟩
  ·intro y0 y1 y2 y3 y4 y5
   unfold floats_Bin.j0
   repeat' first
   | (with_reducible exact ih0 _ _ _ _ _ _)
   | (with_reducible exact ih1 _ _ _ _ _ _)
   | (with_reducible exact ih2 _ _ _ _)
   | (with_reducible exact ff_add.mono _ _ _ _ _)
   | (with_reducible exact ff_div.mono _ _ _ _ _)
   | (with_reducible exact ff_mul.mono _ _ _ _ _)
   | (with_reducible exact LeO.refl _)
   | (with_reducible exact LeO.none _)
   | (with_reducible refine LeO.ite ?_ ?_)
   | (with_reducible refine LeO.bind ?_ (fun _ => ?_))
   | exact ih0 _ _ _ _ _ _
   | exact ih1 _ _ _ _ _ _
   | exact ih2 _ _ _ _
   | exact ff_add.mono _ _ _ _ _
   | exact ff_div.mono _ _ _ _ _
   | exact ff_mul.mono _ _ _ _ _
   | exact LeO.none _
   | refine LeO.ite ?_ ?_
   | refine LeO.bind ?_ (fun _ => ?_)
  ·intro y0 y1 y2 y3 y4 y5
   unfold floats_Bin.j1
   repeat' first
   | (with_reducible exact ih0 _ _ _ _ _ _)
   | (with_reducible exact ih1 _ _ _ _ _ _)
   | (with_reducible exact ih2 _ _ _ _)
   | (with_reducible exact ff_add.mono _ _ _ _ _)
   | (with_reducible exact ff_div.mono _ _ _ _ _)
   | (with_reducible exact ff_mul.mono _ _ _ _ _)
   | (with_reducible exact LeO.refl _)
   | (with_reducible exact LeO.none _)
   | (with_reducible refine LeO.ite ?_ ?_)
   | (with_reducible refine LeO.bind ?_ (fun _ => ?_))
   | exact ih0 _ _ _ _ _ _
   | exact ih1 _ _ _ _ _ _
   | exact ih2 _ _ _ _
   | exact ff_add.mono _ _ _ _ _
   | exact ff_div.mono _ _ _ _ _
   | exact ff_mul.mono _ _ _ _ _
   | exact LeO.none _
   | refine LeO.ite ?_ ?_
   | refine LeO.bind ?_ (fun _ => ?_)
  ·intro y0 y1 y2 y3
   unfold floats_Bin.j2
   repeat' first
   | (with_reducible exact ih0 _ _ _ _ _ _)
   | (with_reducible exact ih1 _ _ _ _ _ _)
   | (with_reducible exact ih2 _ _ _ _)
   | (with_reducible exact ff_add.mono _ _ _ _ _)
   | (with_reducible exact ff_div.mono _ _ _ _ _)
   | (with_reducible exact ff_mul.mono _ _ _ _ _)
   | (with_reducible exact LeO.refl _)
   | (with_reducible exact LeO.none _)
   | (with_reducible refine LeO.ite ?_ ?_)
   | (with_reducible refine LeO.bind ?_ (fun _ => ?_))
   | exact ih0 _ _ _ _ _ _
   | exact ih1 _ _ _ _ _ _
   | exact ih2 _ _ _ _
   | exact ff_add.mono _ _ _ _ _
   | exact ff_div.mono _ _ _ _ _
   | exact ff_mul.mono _ _ _ _ _
   | exact LeO.none _
   | refine LeO.ite ?_ ?_
   | refine LeO.bind ?_ (fun _ => ?_)
theorem floats_Bin.mono : ∀ a0 a1 a2 a3 k, LeO (floats_Bin.f k a0 a1 a2 a3) (floats_Bin.f (k + 1) a0 a1 a2 a3) := by
 intro a0 a1 a2 a3 k
 obtain ⟨ih0, ih1, ih2⟩ := floats_Bin.mono_l k
 unfold floats_Bin.f
 repeat' first
   | (with_reducible exact ih0 _ _ _ _ _ _)
   | (with_reducible exact ih1 _ _ _ _ _ _)
   | (with_reducible exact ih2 _ _ _ _)
   | (with_reducible exact ff_add.mono _ _ _ _ _)
   | (with_reducible exact ff_div.mono _ _ _ _ _)
   | (with_reducible exact ff_mul.mono _ _ _ _ _)
   | (with_reducible exact LeO.refl _)
   | (with_reducible exact LeO.none _)
   | (with_reducible refine LeO.ite ?_ ?_)
   | (with_reducible refine LeO.bind ?_ (fun _ => ?_))
   | exact ih0 _ _ _ _ _ _
   | exact ih1 _ _ _ _ _ _
   | exact ih2 _ _ _ _
   | exact ff_add.mono _ _ _ _ _
   | exact ff_div.mono _ _ _ _ _
   | exact ff_mul.mono _ _ _ _ _
   | exact LeO.none _
   | refine LeO.ite ?_ ?_
   | refine LeO.bind ?_ (fun _ => ?_)
def floats_Bin.T4 : Bool × List (List Nat × List Nat) := (true, [([], []), ([], []), ([0, 1], [0, 1]), ([], []), ([], []), ([3, 4, 2], [3, 4]), ([2, 5, 0, 1, 2], [1, 2]), ([5, 6, 0, 1, 2, 3, 4, 5, 6], [4, 5])])
def floats_Bin.B4 : List Nat := [0, 0, 3, 0, 0, 31, 63, 127]
theorem floats_Bin.tab4 : rtab .any (opsOf Try.f19 4) = floats_Bin.T4 := by kernel_rfl
theorem floats_Bin.bits4 : waitsOk floats_Bin.T4.2 floats_Bin.B4 = true := by kernel_rfl
def floats_Bin.T8 : Bool × List (List Nat × List Nat) := (true, [([], []), ([], []), ([], []), ([1, 2], [1, 2]), ([], []), ([], []), ([4, 5, 3], [4, 5]), ([0, 3, 6, 6], [0, 3, 6]), ([7, 7, 0, 1, 2, 3, 4, 5, 6, 7], [7]), ([8, 0, 1, 2, 3, 4, 5, 6, 7, 8], [])])
def floats_Bin.B8 : List Nat := [0, 0, 0, 6, 0, 0, 62, 127, 255, 511]
theorem floats_Bin.tab8 : rtab .any (opsOf Try.f19 8) = floats_Bin.T8 := by kernel_rfl
theorem floats_Bin.bits8 : waitsOk floats_Bin.T8.2 floats_Bin.B8 = true := by kernel_rfl
set_option maxHeartbeats 8000000 in
set_option maxRecDepth 100000 in
theorem floats_Bin.calls (k : Nat) (a0 : Int) (a1 : Int) (a2 : Int) (a3 : Int) (r1 : Int) (r2 : Int) (w : World) (h : floats_Bin.f k a0 a1 a2 a3 = some (r1, r2)) :
  Calls Try.prog 19 #[.int .i64 a0, .int .i64 a1, .int .u64 a2, .int .u64 a3] w fun e w' => e = .returned (.tuple #[.int .u64 r1, .int .i64 r2]) ∧ Below w.heap.size w w' := by
 have hu43 := Try.underlying43
 have HB := As0.mk (Below.refl w.heap.size w)
 have H : ((floats_of.f a0).bind fun bt215 => ((ff_none.f bt215.1 bt215.2).bind fun t218 => (if t218 = true then (floats_Bin.j0 k a1 a2 a3 true bt215.1 bt215.2) else (if a1 < 1 then (floats_Bin.j0 k a1 a2 a3 true bt215.1 bt215.2) else (floats_Bin.j0 k a1 a2 a3 (decide (a1 > 9)) bt215.1 bt215.2))))) = some (r1, r2) := h
 clear h
 replace H := zob H
 obtain ⟨⟨t215, t216⟩, A50, H⟩ := H
 replace H : ((ff_none.f t215 t216).bind fun t218 => (if t218 = true then (floats_Bin.j0 k a1 a2 a3 true t215 t216) else (if a1 < 1 then (floats_Bin.j0 k a1 a2 a3 true t215 t216) else (floats_Bin.j0 k a1 a2 a3 (decide (a1 > 9)) t215 t216)))) = some (r1, r2) := H
 have A5 := As0.mk A50
 clear A50
 have HC6 := As0.mk H
 clear H
 go_enter Try.func19, Try.ntmps19
 go_upto_region 2 with (first | ((with_reducible refine gcl (f := 31) rfl ?_); refine goesL_ (some 13) rfl rfl Try.func31 (by kernel_rfl) rfl #[.int .i64 a0] rfl (by (try simp only [zmt, zmc, zmn]); first | done | rfl) ?_; (with_reducible refine (floats_of.calls a0 t215 t216 _ A5.out).mono ?_); rintro e w7 ⟨rfl, hb⟩; refine ⟨_, rfl, ?_⟩; have n0_ := As0.mk (bst (by repeat (first | (with_reducible first | exact HB.out | apply bal | apply pwB_ | apply bd1) | exact HB.out)) hb); clear HB; have HB := n0_; clear n0_; (try clear hb); (try clear hb2); (try clear hk); (try clear hi)) | ((with_reducible refine gate_dst (N := 10) rfl ?_); refine box_event ?hg (N := 10) ?hd (cs := #[.int .i64 0, .int .i64 0]) (t := 43) ?hr ?_; (case hd => rfl); (case hg => rfl); (case hr => first | (go_simp; done) | (go_simp; rfl)); intro gb217 hg w8 hbox hb; have n0_ := As0.mk (bst (by repeat (first | (with_reducible first | exact HB.out | apply bal | apply pwB_ | apply bd1) | exact HB.out)) hb); have n1_ := As0.mk (hbox); have n2_ := As0.mk ((by rw [hg]; exact (below_size (by repeat (first | (with_reducible first | exact HB.out | apply bal | apply pwB_ | apply bd1) | exact HB.out))) : w.heap.size ≤ gb217)); have n3_ := As0.mk ((by rw [hg]; exact (below_size (by repeat (first | (with_reducible first | exact HB.out | apply bal | apply pwB_ | apply bd1) | exact HB.out))) : w.heap.size ≤ gb217)); clear HB; have HB := n0_; have BK217 := n1_; have GW217 := n2_; have GE217 := n3_; clear n0_ n1_ n2_ n3_; clear hb hbox hg; have hcz9_0 : w8.cell? ⟨gb217, 0, none⟩ = some (.int .i64 0) := (bce BK217.out 0).trans rfl; have hcz9_1 : w8.cell? ⟨gb217, 1, none⟩ = some (.int .i64 0) := (bce BK217.out 1).trans rfl; have hfz9_0 := bkf BK217.out 0; have hfz9_1 := bkf BK217.out 1))
 (try simp only [Act.put, zsi, zcz, zcs])
 go_cut [23] (fun v23 wc => ∃ (kq : Nat) (x23_5 : Bool), v23 = .bool x23_5 ∧ As0 (floats_Bin.j0 kq a1 a2 a3 x23_5 t215 t216 = some (r1, r2)) ∧ As0 (kq ≤ k) ∧ As0 (wc.heap[gb217]? = some (.cells #[.int .i64 t215, .int .i64 t216] 43 (0, 0))) ∧ As0 (Below w.heap.size w wc))
 case first =>
  have H := HC6.out
  clear HC6
  replace H := zob H
  obtain ⟨t218, A100, H⟩ := H
  replace H : (if t218 = true then (floats_Bin.j0 k a1 a2 a3 true t215 t216) else (if a1 < 1 then (floats_Bin.j0 k a1 a2 a3 true t215 t216) else (floats_Bin.j0 k a1 a2 a3 (decide (a1 > 9)) t215 t216))) = some (r1, r2) := H
  have A10 := As0.mk A100
  clear A100
  by_cases c11 : t218 = true
  ·subst c11
   have H1 : (floats_Bin.j0 k a1 a2 a3 true t215 t216) = some (r1, r2) := by rw [if_pos rfl] at H; exact H
   clear H
   have H := H1
   clear H1
   have H' := As0.mk H
   clear H
   have hcz12_0 : w8.cell? ⟨gb217, 0, none⟩ = some (.int .i64 0) := (bce BK217.out 0).trans rfl
   have hcz12_1 : w8.cell? ⟨gb217, 1, none⟩ = some (.int .i64 0) := (bce BK217.out 1).trans rfl
   have hfz12_0 := bkf BK217.out 0
   have hfz12_1 := bkf BK217.out 1
   go_wp2_with (first | ((with_reducible refine gcl (f := 32) rfl ?_); refine goesL_ (some 15) rfl rfl Try.func32 (by kernel_rfl) rfl #[.agg #[.int .i64 t215, .int .i64 t216]] rfl (by (try simp only [zmt, zmc, zmn]); first | done | rfl) ?_; (with_reducible refine (ff_none.calls t215 t216 true _ A10.out).mono ?_); rintro e w13 ⟨rfl, hb⟩; refine ⟨_, rfl, ?_⟩; have n0_ := As0.mk (bkb (g := gb217) (o := .cells #[.int .i64 t215, .int .i64 t216] 43 (0, 0)) (by (with_reducible repeat (first | refine bkN ?_ _ | refine bkd ?_ | refine bka ?_ _)); refine blk_put (cs := #[.int .i64 t215, .int .i64 0]) ?_ 1 _ rfl; (with_reducible repeat (first | refine bkN ?_ _ | refine bkd ?_ | refine bka ?_ _)); refine blk_put (cs := #[.int .i64 0, .int .i64 0]) ?_ 0 _ rfl; (with_reducible repeat (first | refine bkN ?_ _ | refine bkd ?_ | refine bka ?_ _)); exact BK217.out) hb); have n1_ := As0.mk (bst (by repeat (first | (with_reducible first | exact HB.out | apply bal | apply pwB_ | apply bd1 | refine bse ?_ GE217.out) | exact HB.out)) hb); clear BK217; clear HB; have BK217 := n0_; have HB := n1_; clear n0_ n1_; (try clear hb); (try clear hb2); (try clear hk); (try clear hi)))
   go_meet
   case rel => exact ⟨_, (true), (by first | rfl | (simp; done) | (simp [*]; done)), H', ⟨by first | omega | exact Nat.le_refl _⟩, ⟨by (with_reducible repeat (first | refine bkN ?_ _ | refine bkd ?_ | refine bka ?_ _)); exact BK217.out⟩, ⟨by repeat (first | (with_reducible first | exact HB.out | apply bal | apply pwB_ | apply bd1 | refine bse ?_ GE217.out) | exact HB.out)⟩⟩
  ·replace c11 := Bool.eq_false_iff.mpr c11
   subst c11
   have H1 : (if a1 < 1 then (floats_Bin.j0 k a1 a2 a3 true t215 t216) else (floats_Bin.j0 k a1 a2 a3 (decide (a1 > 9)) t215 t216)) = some (r1, r2) := by rw [if_neg (show ¬ (false = true) by decide)] at H; exact H
   clear H
   have H := H1
   clear H1
   by_cases c14 : a1 < 1
   ·rw [if_pos c14] at H
    have c14b0 : decide (a1 < 1) = true := decide_eq_true c14
    clear c14
    (first | rw [c14b0] | (simp only [i64_w, i32_w]; rw [c14b0]) | skip)
    have H' := As0.mk H
    clear H
    have hcz15_0 : w8.cell? ⟨gb217, 0, none⟩ = some (.int .i64 0) := (bce BK217.out 0).trans rfl
    have hcz15_1 : w8.cell? ⟨gb217, 1, none⟩ = some (.int .i64 0) := (bce BK217.out 1).trans rfl
    have hfz15_0 := bkf BK217.out 0
    have hfz15_1 := bkf BK217.out 1
    go_wp2_with (first | ((with_reducible refine gcl (f := 32) rfl ?_); refine goesL_ (some 15) rfl rfl Try.func32 (by kernel_rfl) rfl #[.agg #[.int .i64 t215, .int .i64 t216]] rfl (by (try simp only [zmt, zmc, zmn]); first | done | rfl) ?_; (with_reducible refine (ff_none.calls t215 t216 false _ A10.out).mono ?_); rintro e w16 ⟨rfl, hb⟩; refine ⟨_, rfl, ?_⟩; have n0_ := As0.mk (bkb (g := gb217) (o := .cells #[.int .i64 t215, .int .i64 t216] 43 (0, 0)) (by (with_reducible repeat (first | refine bkN ?_ _ | refine bkd ?_ | refine bka ?_ _)); refine blk_put (cs := #[.int .i64 t215, .int .i64 0]) ?_ 1 _ rfl; (with_reducible repeat (first | refine bkN ?_ _ | refine bkd ?_ | refine bka ?_ _)); refine blk_put (cs := #[.int .i64 0, .int .i64 0]) ?_ 0 _ rfl; (with_reducible repeat (first | refine bkN ?_ _ | refine bkd ?_ | refine bka ?_ _)); exact BK217.out) hb); have n1_ := As0.mk (bst (by repeat (first | (with_reducible first | exact HB.out | apply bal | apply pwB_ | apply bd1 | refine bse ?_ GE217.out) | exact HB.out)) hb); clear BK217; clear HB; have BK217 := n0_; have HB := n1_; clear n0_ n1_; (try clear hb); (try clear hb2); (try clear hk); (try clear hi)))
    go_meet
    case rel => exact ⟨_, (true), (by first | rfl | (simp; done) | (simp [*]; done)), H', ⟨by first | omega | exact Nat.le_refl _⟩, ⟨by (with_reducible repeat (first | refine bkN ?_ _ | refine bkd ?_ | refine bka ?_ _)); exact BK217.out⟩, ⟨by repeat (first | (with_reducible first | exact HB.out | apply bal | apply pwB_ | apply bd1 | refine bse ?_ GE217.out) | exact HB.out)⟩⟩
   ·rw [if_neg c14] at H
    have c14b0 : decide (a1 < 1) = false := decide_eq_false c14
    clear c14
    (first | rw [c14b0] | (simp only [i64_w, i32_w]; rw [c14b0]) | skip)
    have H' := As0.mk H
    clear H
    have hcz17_0 : w8.cell? ⟨gb217, 0, none⟩ = some (.int .i64 0) := (bce BK217.out 0).trans rfl
    have hcz17_1 : w8.cell? ⟨gb217, 1, none⟩ = some (.int .i64 0) := (bce BK217.out 1).trans rfl
    have hfz17_0 := bkf BK217.out 0
    have hfz17_1 := bkf BK217.out 1
    go_wp2_with (first | ((with_reducible refine gcl (f := 32) rfl ?_); refine goesL_ (some 15) rfl rfl Try.func32 (by kernel_rfl) rfl #[.agg #[.int .i64 t215, .int .i64 t216]] rfl (by (try simp only [zmt, zmc, zmn]); first | done | rfl) ?_; (with_reducible refine (ff_none.calls t215 t216 false _ A10.out).mono ?_); rintro e w18 ⟨rfl, hb⟩; refine ⟨_, rfl, ?_⟩; have n0_ := As0.mk (bkb (g := gb217) (o := .cells #[.int .i64 t215, .int .i64 t216] 43 (0, 0)) (by (with_reducible repeat (first | refine bkN ?_ _ | refine bkd ?_ | refine bka ?_ _)); refine blk_put (cs := #[.int .i64 t215, .int .i64 0]) ?_ 1 _ rfl; (with_reducible repeat (first | refine bkN ?_ _ | refine bkd ?_ | refine bka ?_ _)); refine blk_put (cs := #[.int .i64 0, .int .i64 0]) ?_ 0 _ rfl; (with_reducible repeat (first | refine bkN ?_ _ | refine bkd ?_ | refine bka ?_ _)); exact BK217.out) hb); have n1_ := As0.mk (bst (by repeat (first | (with_reducible first | exact HB.out | apply bal | apply pwB_ | apply bd1 | refine bse ?_ GE217.out) | exact HB.out)) hb); clear BK217; clear HB; have BK217 := n0_; have HB := n1_; clear n0_ n1_; (try clear hb); (try clear hb2); (try clear hk); (try clear hi)))
    go_meet
    case rel => exact ⟨_, (decide (a1 > 9)), (by first | rfl | (simp; done) | (simp [*]; done)), H', ⟨by first | omega | exact Nat.le_refl _⟩, ⟨by (with_reducible repeat (first | refine bkN ?_ _ | refine bkd ?_ | refine bka ?_ _)); exact BK217.out⟩, ⟨by repeat (first | (with_reducible first | exact HB.out | apply bal | apply pwB_ | apply bd1 | refine bse ?_ GE217.out) | exact HB.out)⟩⟩
 case rest =>
  clear HC6
  try clear c1
  try clear p2
  try clear c3
  try clear c11
  try clear c14
  try clear c14b0
  try clear hcz12_0
  try clear hcz12_1
  try clear hcz15_0
  try clear hcz15_1
  try clear hcz17_0
  try clear hcz17_1
  try clear hcz9_0
  try clear hcz9_1
  try clear hfz12_0
  try clear hfz12_1
  try clear hfz15_0
  try clear hfz15_1
  try clear hfz17_0
  try clear hfz17_1
  try clear hfz9_0
  try clear hfz9_1
  obtain ⟨kq, x23_5, rfl, HA, HJ5, BK217, HB⟩ := hcut
  cases kq with
  | zero => exact absurd HA.out (by simp [floats_Bin.j0])
  | succ kj5 =>
   have H := HA.out
   clear HA
   simp only [floats_Bin.j0] at H
   by_cases c19 : x23_5 = true
   ·subst c19
    have H1 : (some (0, 1)) = some (r1, r2) := by rw [if_pos rfl] at H; exact H
    clear H
    have H := H1
    clear H1
    simp only [Option.some.injEq, Prod.mk.injEq] at H
    obtain ⟨rfl, rfl⟩ := H
    go_wp2
    go_ret2
    exact ⟨by first | rfl | (simp [*] <;> rfl), by repeat (first | (with_reducible first | exact HB.out | apply bal | apply pwB_ | apply bd1 | refine bse ?_ GE217.out) | exact HB.out)⟩
   ·replace c19 := Bool.eq_false_iff.mpr c19
    subst c19
    have H1 : ((ff_cut.f t215 t216 a2).bind fun t219 => ((ff_cut.f t215 t216 a3).bind fun t220 => ((ff_isNaN.f t215 t216 t219).bind fun t221 => (if t221 = true then (floats_Bin.j1 kj5 a1 t219 t220 true t215 t216) else ((ff_isNaN.f t215 t216 t220).bind fun t222 => (floats_Bin.j1 kj5 a1 t219 t220 t222 t215 t216)))))) = some (r1, r2) := by rw [if_neg (show ¬ (false = true) by decide)] at H; exact H
    clear H
    have H := H1
    clear H1
    replace H := zob H
    obtain ⟨t219, A200, H⟩ := H
    replace H : ((ff_cut.f t215 t216 a3).bind fun t220 => ((ff_isNaN.f t215 t216 t219).bind fun t221 => (if t221 = true then (floats_Bin.j1 kj5 a1 t219 t220 true t215 t216) else ((ff_isNaN.f t215 t216 t220).bind fun t222 => (floats_Bin.j1 kj5 a1 t219 t220 t222 t215 t216))))) = some (r1, r2) := H
    have A20 := As0.mk A200
    clear A200
    replace H := zob H
    obtain ⟨t220, A210, H⟩ := H
    replace H : ((ff_isNaN.f t215 t216 t219).bind fun t221 => (if t221 = true then (floats_Bin.j1 kj5 a1 t219 t220 true t215 t216) else ((ff_isNaN.f t215 t216 t220).bind fun t222 => (floats_Bin.j1 kj5 a1 t219 t220 t222 t215 t216)))) = some (r1, r2) := H
    have A21 := As0.mk A210
    clear A210
    have HC22 := As0.mk H
    clear H
    try go_wp2
    have n0_ := As0.mk (bkd BK217.out)
    have n1_ := As0.mk (bd1 HB.out)
    clear BK217
    clear HB
    have BK217 := n0_
    have HB := n1_
    clear n0_ n1_
    refine start_ (n := 8) (S := fun w' => w'.cell? ⟨gb217, 0, none⟩ = some (.int .i64 t215) ∧ w'.cell? ⟨gb217, 1, none⟩ = some (.int .i64 t216)) (ds := []) #[false, false, false, false, false, false, false, false] (by kernel_rfl) rfl rfl ⟨(bce BK217.out 0).trans rfl, (bce BK217.out 1).trans rfl⟩ (fun hHeld => ?_); refine with_tabW floats_Bin.tab4 floats_Bin.bits4 (fun HT_ HW_ => ?_)
    generalize wc.drew = w23 at BK217 HB hHeld ⊢
    refine pure_ (i := 1) (N := some 25) (v := ?_) (a' := ?_) #[false, true, false, false, false, false, false, false] rfl rfl (any_of HT_.out (by kernel_rfl)) (fun _ _ _ h => h) (Or.inl ⟨by rfl, ?_⟩) ?_ ?_
    rotate_left
    ·intro w'
     go_simp
     with_reducible rfl
    rotate_left
    ·simp only [Act.put, zsi, zcz, zcs, i64_w, i32_w]
     rfl
    refine pure_ (i := 4) (N := some 28) (v := ?_) (a' := ?_) #[false, true, false, false, true, false, false, false] rfl rfl (any_of HT_.out (by kernel_rfl)) (fun _ _ _ h => h) (Or.inl ⟨by rfl, ?_⟩) ?_ ?_
    rotate_left
    ·intro w'
     go_simp
     with_reducible rfl
    rotate_left
    ·simp only [Act.put, zsi, zcz, zcs, i64_w, i32_w]
     rfl
    refine take_ (i := 0) (N := some 24) (v := ?_) (a' := ?_) #[true, true, false, false, true, false, false, false] rfl rfl (take_ofW HT_.out HW_.out (by kernel_rfl)) (fun _ _ _ h => h) (Or.inl ⟨by rfl, ?_⟩) hHeld ?_ ?_
    rotate_left
    ·rintro w' ⟨s0, s1⟩
     go_simp
     with_reducible rfl
    rotate_left
    ·simp only [Act.put, zsi, zcz, zcs, i64_w, i32_w]
     rfl
    refine take_ (i := 3) (N := some 27) (v := ?_) (a' := ?_) #[true, true, false, true, true, false, false, false] rfl rfl (take_ofW HT_.out HW_.out (by kernel_rfl)) (fun _ _ _ h => h) (Or.inl ⟨by rfl, ?_⟩) hHeld ?_ ?_
    rotate_left
    ·rintro w' ⟨s0, s1⟩
     go_simp
     with_reducible rfl
    rotate_left
    ·simp only [Act.put, zsi, zcz, zcs, i64_w, i32_w]
     rfl
    refine one_ (i := 2) (N := some 26) #[true, true, true, true, true, false, false, false] rfl rfl (one_of HT_.out (by kernel_rfl)) (by decide) (fun K hK => ?_)
    refine goes_ Try.func36 (by kernel_rfl) rfl #[.agg #[.int .i64 t215, .int .i64 t216], .int .u64 a2] (by rfl) rfl rfl (by (try simp only [zmt, zmc, zmn]); first | done | rfl) ?_
    with_reducible refine (ff_cut.calls t215 t216 a2 t219 _ A20.out).mono ?_
    rintro e w24 ⟨rfl, hb⟩
    refine ⟨_, rfl, ?_⟩
    have n0_ := As0.mk (bkb (g := gb217) (o := .cells #[.int .i64 t215, .int .i64 t216] 43 (0, 0)) (by (with_reducible repeat (first | refine bkN ?_ _ | refine bkd ?_ | refine bka ?_ _)); exact BK217.out) hb)
    have n1_ := As0.mk (bst (by repeat (first | (with_reducible first | exact HB.out | apply bal | apply pwB_ | apply bd1 | refine bse ?_ GE217.out) | exact HB.out)) hb)
    clear BK217
    clear HB
    have BK217 := n0_
    have HB := n1_
    clear n0_ n1_
    (try clear hb)
    (try clear hb2)
    (try clear hk)
    (try clear hi)
    refine hK.out _ _ ⟨(bce BK217.out 0).trans rfl, (bce BK217.out 1).trans rfl⟩ (fun hHeld => ?_)
    clear hK K
    refine norm_ (a' := ?_) ?_ ?_
    rotate_left
    ·show Act.put _ (some 26) _ = _
     simp only [Act.put, zsi, zcz, zcs, i64_w, i32_w]
     rfl
    refine one_ (i := 5) (N := some 29) #[true, true, true, true, true, true, false, false] rfl rfl (one_of HT_.out (by kernel_rfl)) (by decide) (fun K hK => ?_)
    refine goes_ Try.func36 (by kernel_rfl) rfl #[.agg #[.int .i64 t215, .int .i64 t216], .int .u64 a3] (by rfl) rfl rfl (by (try simp only [zmt, zmc, zmn]); first | done | rfl) ?_
    with_reducible refine (ff_cut.calls t215 t216 a3 t220 _ A21.out).mono ?_
    rintro e w25 ⟨rfl, hb⟩
    refine ⟨_, rfl, ?_⟩
    have n0_ := As0.mk (bkb (g := gb217) (o := .cells #[.int .i64 t215, .int .i64 t216] 43 (0, 0)) (by (with_reducible repeat (first | refine bkN ?_ _ | refine bkd ?_ | refine bka ?_ _)); exact BK217.out) hb)
    have n1_ := As0.mk (bst (by repeat (first | (with_reducible first | exact HB.out | apply bal | apply pwB_ | apply bd1 | refine bse ?_ GE217.out) | exact HB.out)) hb)
    clear BK217
    clear HB
    have BK217 := n0_
    have HB := n1_
    clear n0_ n1_
    (try clear hb)
    (try clear hb2)
    (try clear hk)
    (try clear hi)
    refine hK.out _ _ ⟨(bce BK217.out 0).trans rfl, (bce BK217.out 1).trans rfl⟩ (fun hHeld => ?_)
    clear hK K
    refine norm_ (a' := ?_) ?_ ?_
    rotate_left
    ·show Act.put _ (some 29) _ = _
     simp only [Act.put, zsi, zcz, zcs, i64_w, i32_w]
     rfl
    refine pure_ (i := 6) (N := some 2) (v := ?_) (a' := ?_) #[true, true, true, true, true, true, true, false] rfl rfl (any_of HT_.out (by kernel_rfl)) (fun _ _ _ h => h) (Or.inl ⟨by rfl, ?_⟩) ?_ ?_
    rotate_left
    ·intro w'
     go_simp
     with_reducible rfl
    rotate_left
    ·simp only [Act.put, zsi, zcz, zcs, i64_w, i32_w]
     rfl
    refine pure_ (i := 7) (N := some 3) (v := ?_) (a' := ?_) #[true, true, true, true, true, true, true, true] rfl rfl (any_of HT_.out (by kernel_rfl)) (fun _ _ _ h => h) (Or.inl ⟨by rfl, ?_⟩) ?_ ?_
    rotate_left
    ·intro w'
     go_simp
     with_reducible rfl
    rotate_left
    ·simp only [Act.put, zsi, zcz, zcs, i64_w, i32_w]
     rfl
    refine done_ (done_of HT_.out (by kernel_rfl)) ?_
    go_upto_region 5 with (fail)
    go_cut [11] (fun v11 wc => ∃ (kq : Nat) (x11_21 : Bool), v11 = .bool x11_21 ∧ As0 (floats_Bin.j1 kq a1 t219 t220 x11_21 t215 t216 = some (r1, r2)) ∧ As0 (kq ≤ kj5) ∧ As0 (wc.heap[gb217]? = some (.cells #[.int .i64 t215, .int .i64 t216] 43 (0, 0))) ∧ As0 (Below w.heap.size w wc))
    case first =>
     have H := HC22.out
     clear HC22
     replace H := zob H
     obtain ⟨t221, A260, H⟩ := H
     replace H : (if t221 = true then (floats_Bin.j1 kj5 a1 t219 t220 true t215 t216) else ((ff_isNaN.f t215 t216 t220).bind fun t222 => (floats_Bin.j1 kj5 a1 t219 t220 t222 t215 t216))) = some (r1, r2) := H
     have A26 := As0.mk A260
     clear A260
     by_cases c27 : t221 = true
     ·subst c27
      have H1 : (floats_Bin.j1 kj5 a1 t219 t220 true t215 t216) = some (r1, r2) := by rw [if_pos rfl] at H; exact H
      clear H
      have H := H1
      clear H1
      have H' := As0.mk H
      clear H
      have hcz28_0 : w25.cell? ⟨gb217, 0, none⟩ = some (.int .i64 t215) := (bce BK217.out 0).trans rfl
      have hcz28_1 : w25.cell? ⟨gb217, 1, none⟩ = some (.int .i64 t216) := (bce BK217.out 1).trans rfl
      have hfz28_0 := bkf BK217.out 0
      have hfz28_1 := bkf BK217.out 1
      go_wp2_with (first | ((with_reducible refine gcl (f := 37) rfl ?_); refine goesL_ (some 32) rfl rfl Try.func37 (by kernel_rfl) rfl #[.agg #[.int .i64 t215, .int .i64 t216], .int .u64 t219] rfl (by (try simp only [zmt, zmc, zmn]); first | done | rfl) ?_; (with_reducible refine (ff_isNaN.calls t215 t216 t219 true _ A26.out).mono ?_); rintro e w29 ⟨rfl, hb⟩; refine ⟨_, rfl, ?_⟩; have n0_ := As0.mk (bkb (g := gb217) (o := .cells #[.int .i64 t215, .int .i64 t216] 43 (0, 0)) (by (with_reducible repeat (first | refine bkN ?_ _ | refine bkd ?_ | refine bka ?_ _)); exact BK217.out) hb); have n1_ := As0.mk (bst (by repeat (first | (with_reducible first | exact HB.out | apply bal | apply pwB_ | apply bd1 | refine bse ?_ GE217.out) | exact HB.out)) hb); clear BK217; clear HB; have BK217 := n0_; have HB := n1_; clear n0_ n1_; (try clear hb); (try clear hb2); (try clear hk); (try clear hi)))
      go_meet
      case rel => exact ⟨_, (true), (by first | rfl | (simp; done) | (simp [*]; done)), H', ⟨by have := HJ5.out; first | omega | exact Nat.le_refl _⟩, ⟨by (with_reducible repeat (first | refine bkN ?_ _ | refine bkd ?_ | refine bka ?_ _)); exact BK217.out⟩, ⟨by repeat (first | (with_reducible first | exact HB.out | apply bal | apply pwB_ | apply bd1 | refine bse ?_ GE217.out) | exact HB.out)⟩⟩
     ·replace c27 := Bool.eq_false_iff.mpr c27
      subst c27
      have H1 : ((ff_isNaN.f t215 t216 t220).bind fun t222 => (floats_Bin.j1 kj5 a1 t219 t220 t222 t215 t216)) = some (r1, r2) := by rw [if_neg (show ¬ (false = true) by decide)] at H; exact H
      clear H
      have H := H1
      clear H1
      replace H := zob H
      obtain ⟨t222, A300, H⟩ := H
      replace H : (floats_Bin.j1 kj5 a1 t219 t220 t222 t215 t216) = some (r1, r2) := H
      have A30 := As0.mk A300
      clear A300
      have H' := As0.mk H
      clear H
      have hcz31_0 : w25.cell? ⟨gb217, 0, none⟩ = some (.int .i64 t215) := (bce BK217.out 0).trans rfl
      have hcz31_1 : w25.cell? ⟨gb217, 1, none⟩ = some (.int .i64 t216) := (bce BK217.out 1).trans rfl
      have hfz31_0 := bkf BK217.out 0
      have hfz31_1 := bkf BK217.out 1
      go_wp2_with (first | ((with_reducible refine gcl (f := 37) rfl ?_); refine goesL_ (some 32) rfl rfl Try.func37 (by kernel_rfl) rfl #[.agg #[.int .i64 t215, .int .i64 t216], .int .u64 t219] rfl (by (try simp only [zmt, zmc, zmn]); first | done | rfl) ?_; (with_reducible refine (ff_isNaN.calls t215 t216 t219 false _ A26.out).mono ?_); rintro e w32 ⟨rfl, hb⟩; refine ⟨_, rfl, ?_⟩; have n0_ := As0.mk (bkb (g := gb217) (o := .cells #[.int .i64 t215, .int .i64 t216] 43 (0, 0)) (by (with_reducible repeat (first | refine bkN ?_ _ | refine bkd ?_ | refine bka ?_ _)); exact BK217.out) hb); have n1_ := As0.mk (bst (by repeat (first | (with_reducible first | exact HB.out | apply bal | apply pwB_ | apply bd1 | refine bse ?_ GE217.out) | exact HB.out)) hb); clear BK217; clear HB; have BK217 := n0_; have HB := n1_; clear n0_ n1_; (try clear hb); (try clear hb2); (try clear hk); (try clear hi); have hcz33_0 : w32.cell? ⟨gb217, 0, none⟩ = some (.int .i64 t215) := (bce BK217.out 0).trans rfl; have hcz33_1 : w32.cell? ⟨gb217, 1, none⟩ = some (.int .i64 t216) := (bce BK217.out 1).trans rfl; have hfz33_0 := bkf BK217.out 0; have hfz33_1 := bkf BK217.out 1) | (go_at_call 37; (with_reducible refine (ff_isNaN.calls t215 t216 t220 t222 _ A30.out).mono ?_); rintro e w34 ⟨rfl, hb⟩; have n0_ := As0.mk (bkb (g := gb217) (o := .cells #[.int .i64 t215, .int .i64 t216] 43 (0, 0)) (by (with_reducible repeat (first | refine bkN ?_ _ | refine bkd ?_ | refine bka ?_ _)); exact BK217.out) hb); have n1_ := As0.mk (bst (by repeat (first | (with_reducible first | exact HB.out | apply bal | apply pwB_ | apply bd1 | refine bse ?_ GE217.out) | exact HB.out)) hb); clear BK217; clear HB; have BK217 := n0_; have HB := n1_; clear n0_ n1_; (try clear hb); (try clear hb2); (try clear hk); (try clear hi)))
      go_meet
      case rel => exact ⟨_, (t222), (by first | rfl | (simp; done) | (simp [*]; done)), H', ⟨by have := HJ5.out; first | omega | exact Nat.le_refl _⟩, ⟨by (with_reducible repeat (first | refine bkN ?_ _ | refine bkd ?_ | refine bka ?_ _)); exact BK217.out⟩, ⟨by repeat (first | (with_reducible first | exact HB.out | apply bal | apply pwB_ | apply bd1 | refine bse ?_ GE217.out) | exact HB.out)⟩⟩
    case rest =>
     clear HC22
     try clear c1
     try clear c2
     try clear p2
     try clear c3
     try clear c11
     try clear c14
     try clear c14b0
     try clear c19
     try clear c27
     try clear c31
     try clear c32
     try clear hcz12_0
     try clear hcz12_1
     try clear hcz15_0
     try clear hcz15_1
     try clear hcz17_0
     try clear hcz17_1
     try clear hcz28_0
     try clear hcz28_1
     try clear hcz31_0
     try clear hcz31_1
     try clear hcz33_0
     try clear hcz33_1
     try clear hcz9_0
     try clear hcz9_1
     try clear hfz12_0
     try clear hfz12_1
     try clear hfz15_0
     try clear hfz15_1
     try clear hfz17_0
     try clear hfz17_1
     try clear hfz28_0
     try clear hfz28_1
     try clear hfz31_0
     try clear hfz31_1
     try clear hfz33_0
     try clear hfz33_1
     try clear hfz9_0
     try clear hfz9_1
     try clear p2
     obtain ⟨kq, x11_21, rfl, HA, HJ21, BK217, HB⟩ := hcut
     cases kq with
     | zero => exact absurd HA.out (by simp [floats_Bin.j1])
     | succ kj21 =>
      have H := HA.out
      clear HA
      simp only [floats_Bin.j1] at H
      by_cases c35 : a1 = 7
      ·rw [if_pos c35] at H
       have c35b0 : (a1 == 7) = true := beq_iff_eq.mpr c35
       have c35b1 : (a1 != 7) = false := bne_eq_false_iff_eq.mpr c35
       clear c35
       replace H := zob H
       obtain ⟨t223, A360, H⟩ := H
       replace H : ((ff_size.f t215 t216 t219).bind fun t224 => ((ff_signed.f t215 t216 t223 t224).bind fun t225 => (some (t225, 0)))) = some (r1, r2) := H
       have A36 := As0.mk A360
       clear A360
       replace H := zob H
       obtain ⟨t224, A370, H⟩ := H
       replace H : ((ff_signed.f t215 t216 t223 t224).bind fun t225 => (some (t225, 0))) = some (r1, r2) := H
       have A37 := As0.mk A370
       clear A370
       replace H := zob H
       obtain ⟨t225, A380, H⟩ := H
       replace H : (some (t225, 0)) = some (r1, r2) := H
       have A38 := As0.mk A380
       clear A380
       simp only [Option.some.injEq, Prod.mk.injEq] at H
       obtain ⟨rfl, rfl⟩ := H
       try go_wp2
       have n0_ := As0.mk (bkd BK217.out)
       have n1_ := As0.mk (bd1 HB.out)
       clear BK217
       clear HB
       have BK217 := n0_
       have HB := n1_
       clear n0_ n1_
       refine start_ (n := 10) (S := fun w' => w'.cell? ⟨gb217, 0, none⟩ = some (.int .i64 t215) ∧ w'.cell? ⟨gb217, 1, none⟩ = some (.int .i64 t216)) (ds := []) #[false, false, false, false, false, false, false, false, false, false] (by kernel_rfl) rfl rfl ⟨(bce BK217.out 0).trans rfl, (bce BK217.out 1).trans rfl⟩ (fun hHeld => ?_); refine with_tabW floats_Bin.tab8 floats_Bin.bits8 (fun HT_ HW_ => ?_)
       generalize wc.drew = w39 at BK217 HB hHeld ⊢
       refine pure_ (i := 2) (N := some 43) (v := ?_) (a' := ?_) #[false, false, true, false, false, false, false, false, false, false] rfl rfl (any_of HT_.out (by kernel_rfl)) (fun _ _ _ h => h) (Or.inl ⟨by rfl, ?_⟩) ?_ ?_
       rotate_left
       ·intro w'
        go_simp
        with_reducible rfl
       rotate_left
       ·simp only [Act.put, zsi, zcz, zcs, i64_w, i32_w]
        rfl
       refine pure_ (i := 5) (N := some 46) (v := ?_) (a' := ?_) #[false, false, true, false, false, true, false, false, false, false] rfl rfl (any_of HT_.out (by kernel_rfl)) (fun _ _ _ h => h) (Or.inl ⟨by rfl, ?_⟩) ?_ ?_
       rotate_left
       ·intro w'
        go_simp
        with_reducible rfl
       rotate_left
       ·simp only [Act.put, zsi, zcz, zcs, i64_w, i32_w]
        rfl
       refine take_ (i := 0) (N := some 41) (v := ?_) (a' := ?_) #[true, false, true, false, false, true, false, false, false, false] rfl rfl (take_ofW HT_.out HW_.out (by kernel_rfl)) (fun _ _ _ h => h) (Or.inl ⟨by rfl, ?_⟩) hHeld ?_ ?_
       rotate_left
       ·rintro w' ⟨s0, s1⟩
        go_simp
        with_reducible rfl
       rotate_left
       ·simp only [Act.put, zsi, zcz, zcs, i64_w, i32_w]
        rfl
       refine take_ (i := 1) (N := some 42) (v := ?_) (a' := ?_) #[true, true, true, false, false, true, false, false, false, false] rfl rfl (take_ofW HT_.out HW_.out (by kernel_rfl)) (fun _ _ _ h => h) (Or.inl ⟨by rfl, ?_⟩) hHeld ?_ ?_
       rotate_left
       ·rintro w' ⟨s0, s1⟩
        go_simp
        with_reducible rfl
       rotate_left
       ·simp only [Act.put, zsi, zcz, zcs, i64_w, i32_w]
        rfl
       refine take_ (i := 4) (N := some 45) (v := ?_) (a' := ?_) #[true, true, true, false, true, true, false, false, false, false] rfl rfl (take_ofW HT_.out HW_.out (by kernel_rfl)) (fun _ _ _ h => h) (Or.inl ⟨by rfl, ?_⟩) hHeld ?_ ?_
       rotate_left
       ·rintro w' ⟨s0, s1⟩
        go_simp
        with_reducible rfl
       rotate_left
       ·simp only [Act.put, zsi, zcz, zcs, i64_w, i32_w]
        rfl
       refine one_ (i := 3) (N := some 44) #[true, true, true, true, true, true, false, false, false, false] rfl rfl (one_of HT_.out (by kernel_rfl)) (by decide) (fun K hK => ?_)
       refine goes_ Try.func39 (by kernel_rfl) rfl #[.agg #[.int .i64 t215, .int .i64 t216], .int .u64 t220] (by rfl) rfl rfl (by (try simp only [zmt, zmc, zmn]); first | done | rfl) ?_
       with_reducible refine (ff_neg.calls t215 t216 t220 t223 _ A36.out).mono ?_
       rintro e w40 ⟨rfl, hb⟩
       refine ⟨_, rfl, ?_⟩
       have n0_ := As0.mk (bkb (g := gb217) (o := .cells #[.int .i64 t215, .int .i64 t216] 43 (0, 0)) (by (with_reducible repeat (first | refine bkN ?_ _ | refine bkd ?_ | refine bka ?_ _)); exact BK217.out) hb)
       have n1_ := As0.mk (bst (by repeat (first | (with_reducible first | exact HB.out | apply bal | apply pwB_ | apply bd1 | refine bse ?_ GE217.out) | exact HB.out)) hb)
       clear BK217
       clear HB
       have BK217 := n0_
       have HB := n1_
       clear n0_ n1_
       (try clear hb)
       (try clear hb2)
       (try clear hk)
       (try clear hi)
       refine hK.out _ _ ⟨(bce BK217.out 0).trans rfl, (bce BK217.out 1).trans rfl⟩ (fun hHeld => ?_)
       clear hK K
       refine norm_ (a' := ?_) ?_ ?_
       rotate_left
       ·show Act.put _ (some 44) _ = _
        simp only [Act.put, zsi, zcz, zcs, i64_w, i32_w]
        rfl
       refine one_ (i := 6) (N := some 47) #[true, true, true, true, true, true, true, false, false, false] rfl rfl (one_of HT_.out (by kernel_rfl)) (by decide) (fun K hK => ?_)
       refine goes_ Try.func40 (by kernel_rfl) rfl #[.agg #[.int .i64 t215, .int .i64 t216], .int .u64 t219] (by rfl) rfl rfl (by (try simp only [zmt, zmc, zmn]); first | done | rfl) ?_
       with_reducible refine (ff_size.calls t215 t216 t219 t224 _ A37.out).mono ?_
       rintro e w41 ⟨rfl, hb⟩
       refine ⟨_, rfl, ?_⟩
       have n0_ := As0.mk (bkb (g := gb217) (o := .cells #[.int .i64 t215, .int .i64 t216] 43 (0, 0)) (by (with_reducible repeat (first | refine bkN ?_ _ | refine bkd ?_ | refine bka ?_ _)); exact BK217.out) hb)
       have n1_ := As0.mk (bst (by repeat (first | (with_reducible first | exact HB.out | apply bal | apply pwB_ | apply bd1 | refine bse ?_ GE217.out) | exact HB.out)) hb)
       clear BK217
       clear HB
       have BK217 := n0_
       have HB := n1_
       clear n0_ n1_
       (try clear hb)
       (try clear hb2)
       (try clear hk)
       (try clear hi)
       refine hK.out _ _ ⟨(bce BK217.out 0).trans rfl, (bce BK217.out 1).trans rfl⟩ (fun hHeld => ?_)
       clear hK K
       refine norm_ (a' := ?_) ?_ ?_
       rotate_left
       ·show Act.put _ (some 47) _ = _
        simp only [Act.put, zsi, zcz, zcs, i64_w, i32_w]
        rfl
       refine one_ (i := 7) (N := some 48) #[true, true, true, true, true, true, true, true, false, false] rfl rfl (one_of HT_.out (by kernel_rfl)) (by decide) (fun K hK => ?_)
       refine goes_ Try.func38 (by kernel_rfl) rfl #[.agg #[.int .i64 t215, .int .i64 t216], .bool t223, .int .u64 t224] (by rfl) rfl rfl (by (try simp only [zmt, zmc, zmn]); first | done | rfl) ?_
       with_reducible refine (ff_signed.calls t215 t216 t223 t224 t225 _ A38.out).mono ?_
       rintro e w42 ⟨rfl, hb⟩
       refine ⟨_, rfl, ?_⟩
       have n0_ := As0.mk (bkb (g := gb217) (o := .cells #[.int .i64 t215, .int .i64 t216] 43 (0, 0)) (by (with_reducible repeat (first | refine bkN ?_ _ | refine bkd ?_ | refine bka ?_ _)); exact BK217.out) hb)
       have n1_ := As0.mk (bst (by repeat (first | (with_reducible first | exact HB.out | apply bal | apply pwB_ | apply bd1 | refine bse ?_ GE217.out) | exact HB.out)) hb)
       clear BK217
       clear HB
       have BK217 := n0_
       have HB := n1_
       clear n0_ n1_
       (try clear hb)
       (try clear hb2)
       (try clear hk)
       (try clear hi)
       refine hK.out _ _ ⟨(bce BK217.out 0).trans rfl, (bce BK217.out 1).trans rfl⟩ (fun hHeld => ?_)
       clear hK K
       refine norm_ (a' := ?_) ?_ ?_
       rotate_left
       ·show Act.put _ (some 48) _ = _
        simp only [Act.put, zsi, zcz, zcs, i64_w, i32_w]
        rfl
       refine pure_ (i := 8) (N := some 8) (v := ?_) (a' := ?_) #[true, true, true, true, true, true, true, true, true, false] rfl rfl (any_of HT_.out (by kernel_rfl)) (fun _ _ _ h => h) (Or.inl ⟨by rfl, ?_⟩) ?_ ?_
       rotate_left
       ·intro w'
        go_simp
        with_reducible rfl
       rotate_left
       ·simp only [Act.put, zsi, zcz, zcs, i64_w, i32_w]
        rfl
       refine pure_ (i := 9) (N := some 9) (v := ?_) (a' := ?_) #[true, true, true, true, true, true, true, true, true, true] rfl rfl (any_of HT_.out (by kernel_rfl)) (fun _ _ _ h => h) (Or.inl ⟨by rfl, ?_⟩) ?_ ?_
       rotate_left
       ·intro w'
        go_simp
        with_reducible rfl
       rotate_left
       ·simp only [Act.put, zsi, zcz, zcs, i64_w, i32_w]
        rfl
       refine done_ (done_of HT_.out (by kernel_rfl)) ?_
       try go_wp2
       go_ret2
       exact ⟨by first | rfl | (simp [*] <;> rfl), by repeat (first | (with_reducible first | exact HB.out | apply bal | apply pwB_ | apply bd1 | refine bse ?_ GE217.out) | exact HB.out)⟩
      ·rw [if_neg c35] at H
       have c35b0 : (a1 == 7) = false := beq_eq_false_iff_ne.mpr c35
       have c35b1 : (a1 != 7) = true := bne_iff_ne.mpr c35
       by_cases c43 : a1 = 8
       ·rw [if_pos c43] at H
        have c43b0 : (a1 == 8) = true := beq_iff_eq.mpr c43
        have c43b1 : (a1 != 8) = false := bne_eq_false_iff_eq.mpr c43
        clear c43
        by_cases c44 : x11_21 = true
        ·subst c44
         have H1 : (some (t219, 0)) = some (r1, r2) := by rw [if_pos rfl] at H; exact H
         clear H
         have H := H1
         clear H1
         simp only [Option.some.injEq, Prod.mk.injEq] at H
         obtain ⟨rfl, rfl⟩ := H
         go_wp2
         go_ret2
         exact ⟨by first | rfl | (simp [*] <;> rfl), by repeat (first | (with_reducible first | exact HB.out | apply bal | apply pwB_ | apply bd1 | refine bse ?_ GE217.out) | exact HB.out)⟩
        ·replace c44 := Bool.eq_false_iff.mpr c44
         subst c44
         have H1 : ((ff_less.f t215 t216 t220 t219).bind fun t226 => (if t226 = true then (some (t220, 0)) else (some (t219, 0)))) = some (r1, r2) := by rw [if_neg (show ¬ (false = true) by decide)] at H; exact H
         clear H
         have H := H1
         clear H1
         replace H := zob H
         obtain ⟨t226, A450, H⟩ := H
         replace H : (if t226 = true then (some (t220, 0)) else (some (t219, 0))) = some (r1, r2) := H
         have A45 := As0.mk A450
         clear A450
         by_cases c46 : t226 = true
         ·subst c46
          have H1 : (some (t220, 0)) = some (r1, r2) := by rw [if_pos rfl] at H; exact H
          clear H
          have H := H1
          clear H1
          simp only [Option.some.injEq, Prod.mk.injEq] at H
          obtain ⟨rfl, rfl⟩ := H
          have hcz47_0 : wc.cell? ⟨gb217, 0, none⟩ = some (.int .i64 t215) := (bce BK217.out 0).trans rfl
          have hcz47_1 : wc.cell? ⟨gb217, 1, none⟩ = some (.int .i64 t216) := (bce BK217.out 1).trans rfl
          have hfz47_0 := bkf BK217.out 0
          have hfz47_1 := bkf BK217.out 1
          go_wp2_with (first | (go_at_call 41; (with_reducible refine (ff_less.calls t215 t216 t220 t219 true _ A45.out).mono ?_); rintro e w48 ⟨rfl, hb⟩; have n0_ := As0.mk (bkb (g := gb217) (o := .cells #[.int .i64 t215, .int .i64 t216] 43 (0, 0)) (by (with_reducible repeat (first | refine bkN ?_ _ | refine bkd ?_ | refine bka ?_ _)); exact BK217.out) hb); have n1_ := As0.mk (bst (by repeat (first | (with_reducible first | exact HB.out | apply bal | apply pwB_ | apply bd1 | refine bse ?_ GE217.out) | exact HB.out)) hb); clear BK217; clear HB; have BK217 := n0_; have HB := n1_; clear n0_ n1_; (try clear hb); (try clear hb2); (try clear hk); (try clear hi)))
          go_ret2
          exact ⟨by first | rfl | (simp [*] <;> rfl), by repeat (first | (with_reducible first | exact HB.out | apply bal | apply pwB_ | apply bd1 | refine bse ?_ GE217.out) | exact HB.out)⟩
         ·replace c46 := Bool.eq_false_iff.mpr c46
          subst c46
          have H1 : (some (t219, 0)) = some (r1, r2) := by rw [if_neg (show ¬ (false = true) by decide)] at H; exact H
          clear H
          have H := H1
          clear H1
          simp only [Option.some.injEq, Prod.mk.injEq] at H
          obtain ⟨rfl, rfl⟩ := H
          have hcz49_0 : wc.cell? ⟨gb217, 0, none⟩ = some (.int .i64 t215) := (bce BK217.out 0).trans rfl
          have hcz49_1 : wc.cell? ⟨gb217, 1, none⟩ = some (.int .i64 t216) := (bce BK217.out 1).trans rfl
          have hfz49_0 := bkf BK217.out 0
          have hfz49_1 := bkf BK217.out 1
          go_wp2_with (first | (go_at_call 41; (with_reducible refine (ff_less.calls t215 t216 t220 t219 false _ A45.out).mono ?_); rintro e w50 ⟨rfl, hb⟩; have n0_ := As0.mk (bkb (g := gb217) (o := .cells #[.int .i64 t215, .int .i64 t216] 43 (0, 0)) (by (with_reducible repeat (first | refine bkN ?_ _ | refine bkd ?_ | refine bka ?_ _)); exact BK217.out) hb); have n1_ := As0.mk (bst (by repeat (first | (with_reducible first | exact HB.out | apply bal | apply pwB_ | apply bd1 | refine bse ?_ GE217.out) | exact HB.out)) hb); clear BK217; clear HB; have BK217 := n0_; have HB := n1_; clear n0_ n1_; (try clear hb); (try clear hb2); (try clear hk); (try clear hi)))
          go_ret2
          exact ⟨by first | rfl | (simp [*] <;> rfl), by repeat (first | (with_reducible first | exact HB.out | apply bal | apply pwB_ | apply bd1 | refine bse ?_ GE217.out) | exact HB.out)⟩
       ·rw [if_neg c43] at H
        have c43b0 : (a1 == 8) = false := beq_eq_false_iff_ne.mpr c43
        have c43b1 : (a1 != 8) = true := bne_iff_ne.mpr c43
        by_cases c51 : a1 = 9
        ·rw [if_pos c51] at H
         have c51b0 : (a1 == 9) = true := beq_iff_eq.mpr c51
         have c51b1 : (a1 != 9) = false := bne_eq_false_iff_eq.mpr c51
         clear c51
         by_cases c52 : x11_21 = true
         ·subst c52
          have H1 : (some (t219, 0)) = some (r1, r2) := by rw [if_pos rfl] at H; exact H
          clear H
          have H := H1
          clear H1
          simp only [Option.some.injEq, Prod.mk.injEq] at H
          obtain ⟨rfl, rfl⟩ := H
          go_wp2
          go_ret2
          exact ⟨by first | rfl | (simp [*] <;> rfl), by repeat (first | (with_reducible first | exact HB.out | apply bal | apply pwB_ | apply bd1 | refine bse ?_ GE217.out) | exact HB.out)⟩
         ·replace c52 := Bool.eq_false_iff.mpr c52
          subst c52
          have H1 : ((ff_less.f t215 t216 t219 t220).bind fun t227 => (if t227 = true then (some (t220, 0)) else (some (t219, 0)))) = some (r1, r2) := by rw [if_neg (show ¬ (false = true) by decide)] at H; exact H
          clear H
          have H := H1
          clear H1
          replace H := zob H
          obtain ⟨t227, A530, H⟩ := H
          replace H : (if t227 = true then (some (t220, 0)) else (some (t219, 0))) = some (r1, r2) := H
          have A53 := As0.mk A530
          clear A530
          by_cases c54 : t227 = true
          ·subst c54
           have H1 : (some (t220, 0)) = some (r1, r2) := by rw [if_pos rfl] at H; exact H
           clear H
           have H := H1
           clear H1
           simp only [Option.some.injEq, Prod.mk.injEq] at H
           obtain ⟨rfl, rfl⟩ := H
           have hcz55_0 : wc.cell? ⟨gb217, 0, none⟩ = some (.int .i64 t215) := (bce BK217.out 0).trans rfl
           have hcz55_1 : wc.cell? ⟨gb217, 1, none⟩ = some (.int .i64 t216) := (bce BK217.out 1).trans rfl
           have hfz55_0 := bkf BK217.out 0
           have hfz55_1 := bkf BK217.out 1
           go_wp2_with (first | (go_at_call 41; (with_reducible refine (ff_less.calls t215 t216 t219 t220 true _ A53.out).mono ?_); rintro e w56 ⟨rfl, hb⟩; have n0_ := As0.mk (bkb (g := gb217) (o := .cells #[.int .i64 t215, .int .i64 t216] 43 (0, 0)) (by (with_reducible repeat (first | refine bkN ?_ _ | refine bkd ?_ | refine bka ?_ _)); exact BK217.out) hb); have n1_ := As0.mk (bst (by repeat (first | (with_reducible first | exact HB.out | apply bal | apply pwB_ | apply bd1 | refine bse ?_ GE217.out) | exact HB.out)) hb); clear BK217; clear HB; have BK217 := n0_; have HB := n1_; clear n0_ n1_; (try clear hb); (try clear hb2); (try clear hk); (try clear hi)))
           go_ret2
           exact ⟨by first | rfl | (simp [*] <;> rfl), by repeat (first | (with_reducible first | exact HB.out | apply bal | apply pwB_ | apply bd1 | refine bse ?_ GE217.out) | exact HB.out)⟩
          ·replace c54 := Bool.eq_false_iff.mpr c54
           subst c54
           have H1 : (some (t219, 0)) = some (r1, r2) := by rw [if_neg (show ¬ (false = true) by decide)] at H; exact H
           clear H
           have H := H1
           clear H1
           simp only [Option.some.injEq, Prod.mk.injEq] at H
           obtain ⟨rfl, rfl⟩ := H
           have hcz57_0 : wc.cell? ⟨gb217, 0, none⟩ = some (.int .i64 t215) := (bce BK217.out 0).trans rfl
           have hcz57_1 : wc.cell? ⟨gb217, 1, none⟩ = some (.int .i64 t216) := (bce BK217.out 1).trans rfl
           have hfz57_0 := bkf BK217.out 0
           have hfz57_1 := bkf BK217.out 1
           go_wp2_with (first | (go_at_call 41; (with_reducible refine (ff_less.calls t215 t216 t219 t220 false _ A53.out).mono ?_); rintro e w58 ⟨rfl, hb⟩; have n0_ := As0.mk (bkb (g := gb217) (o := .cells #[.int .i64 t215, .int .i64 t216] 43 (0, 0)) (by (with_reducible repeat (first | refine bkN ?_ _ | refine bkd ?_ | refine bka ?_ _)); exact BK217.out) hb); have n1_ := As0.mk (bst (by repeat (first | (with_reducible first | exact HB.out | apply bal | apply pwB_ | apply bd1 | refine bse ?_ GE217.out) | exact HB.out)) hb); clear BK217; clear HB; have BK217 := n0_; have HB := n1_; clear n0_ n1_; (try clear hb); (try clear hb2); (try clear hk); (try clear hi)))
           go_ret2
           exact ⟨by first | rfl | (simp [*] <;> rfl), by repeat (first | (with_reducible first | exact HB.out | apply bal | apply pwB_ | apply bd1 | refine bse ?_ GE217.out) | exact HB.out)⟩
        ·rw [if_neg c51] at H
         have c51b0 : (a1 == 9) = false := beq_eq_false_iff_ne.mpr c51
         have c51b1 : (a1 != 9) = true := bne_iff_ne.mpr c51
         by_cases c59 : x11_21 = true
         ·subst c59
          have H1 : ((ff_nan.f t215 t216).bind fun t228 => (some (t228, 0))) = some (r1, r2) := by rw [if_pos rfl] at H; exact H
          clear H
          have H := H1
          clear H1
          replace H := zob H
          obtain ⟨t228, A600, H⟩ := H
          replace H : (some (t228, 0)) = some (r1, r2) := H
          have A60 := As0.mk A600
          clear A600
          simp only [Option.some.injEq, Prod.mk.injEq] at H
          obtain ⟨rfl, rfl⟩ := H
          have hcz61_0 : wc.cell? ⟨gb217, 0, none⟩ = some (.int .i64 t215) := (bce BK217.out 0).trans rfl
          have hcz61_1 : wc.cell? ⟨gb217, 1, none⟩ = some (.int .i64 t216) := (bce BK217.out 1).trans rfl
          have hfz61_0 := bkf BK217.out 0
          have hfz61_1 := bkf BK217.out 1
          go_wp2_with (first | ((with_reducible refine gcl (f := 42) rfl ?_); refine goesL_ (some 75) rfl rfl Try.func42 (by kernel_rfl) rfl #[.agg #[.int .i64 t215, .int .i64 t216]] rfl (by (try simp only [zmt, zmc, zmn]); first | done | rfl) ?_; (with_reducible refine (ff_nan.calls t215 t216 t228 _ A60.out).mono ?_); rintro e w62 ⟨rfl, hb⟩; refine ⟨_, rfl, ?_⟩; have n0_ := As0.mk (bkb (g := gb217) (o := .cells #[.int .i64 t215, .int .i64 t216] 43 (0, 0)) (by (with_reducible repeat (first | refine bkN ?_ _ | refine bkd ?_ | refine bka ?_ _)); exact BK217.out) hb); have n1_ := As0.mk (bst (by repeat (first | (with_reducible first | exact HB.out | apply bal | apply pwB_ | apply bd1 | refine bse ?_ GE217.out) | exact HB.out)) hb); clear BK217; clear HB; have BK217 := n0_; have HB := n1_; clear n0_ n1_; (try clear hb); (try clear hb2); (try clear hk); (try clear hi)))
          go_ret2
          exact ⟨by first | rfl | (simp [*] <;> rfl), by repeat (first | (with_reducible first | exact HB.out | apply bal | apply pwB_ | apply bd1 | refine bse ?_ GE217.out) | exact HB.out)⟩
         ·replace c59 := Bool.eq_false_iff.mpr c59
          subst c59
          have H1 : (if a1 = 2 then ((ff_sign.f t215 t216).bind fun t229 => (floats_Bin.j2 kj21 t219 (Go.bits .xor .u64 t220 t229) t215 t216)) else (if a1 = 1 then (floats_Bin.j2 kj21 t219 t220 t215 t216) else (if a1 = 3 then ((ff_mul.f kj21 t215 t216 t219 t220).bind fun t230 => (some (t230, 0))) else (if a1 = 4 then ((ff_div.f kj21 t215 t216 t219 t220).bind fun t231 => (some (t231, 0))) else ((ff_end.f t215 t216 (a1 == 6) t219 t220).bind fun t232 => (some (t232, 0))))))) = some (r1, r2) := by rw [if_neg (show ¬ (false = true) by decide)] at H; exact H
          clear H
          have H := H1
          clear H1
          have HC63 := As0.mk H
          clear H
          go_upto_block 3 with (fail)
          go_cut [3] (fun v3 wc => ∃ (kq : Nat) (x3_62 : Int), v3 = .int .u64 x3_62 ∧ As0 (floats_Bin.j2 kq t219 x3_62 t215 t216 = some (r1, r2)) ∧ As0 (kq ≤ kj21) ∧ As0 (wc.heap[gb217]? = some (.cells #[.int .i64 t215, .int .i64 t216] 43 (0, 0))) ∧ As0 (Below w.heap.size w wc))
          case first =>
           have H := HC63.out
           clear HC63
           by_cases c64 : a1 = 2
           ·rw [if_pos c64] at H
            have c64b0 : (a1 == 2) = true := beq_iff_eq.mpr c64
            have c64b1 : (a1 != 2) = false := bne_eq_false_iff_eq.mpr c64
            clear c64
            (first | rw [c64b0] | (simp only [i64_w, i32_w]; rw [c64b0]) | skip)
            replace H := zob H
            obtain ⟨t229, A650, H⟩ := H
            replace H : (floats_Bin.j2 kj21 t219 (Go.bits .xor .u64 t220 t229) t215 t216) = some (r1, r2) := H
            have A65 := As0.mk A650
            clear A650
            have H' := As0.mk H
            clear H
            have hcz66_0 : wc.cell? ⟨gb217, 0, none⟩ = some (.int .i64 t215) := (bce BK217.out 0).trans rfl
            have hcz66_1 : wc.cell? ⟨gb217, 1, none⟩ = some (.int .i64 t216) := (bce BK217.out 1).trans rfl
            have hfz66_0 := bkf BK217.out 0
            have hfz66_1 := bkf BK217.out 1
            go_wp2_with (first | ((with_reducible refine gcl (f := 43) rfl ?_); refine goesL_ (some 87) rfl rfl Try.func43 (by kernel_rfl) rfl #[.agg #[.int .i64 t215, .int .i64 t216]] rfl (by (try simp only [zmt, zmc, zmn]); first | done | rfl) ?_; (with_reducible refine (ff_sign.calls t215 t216 t229 _ A65.out).mono ?_); rintro e w67 ⟨rfl, hb⟩; refine ⟨_, rfl, ?_⟩; have n0_ := As0.mk (bkb (g := gb217) (o := .cells #[.int .i64 t215, .int .i64 t216] 43 (0, 0)) (by (with_reducible repeat (first | refine bkN ?_ _ | refine bkd ?_ | refine bka ?_ _)); exact BK217.out) hb); have n1_ := As0.mk (bst (by repeat (first | (with_reducible first | exact HB.out | apply bal | apply pwB_ | apply bd1 | refine bse ?_ GE217.out) | exact HB.out)) hb); clear BK217; clear HB; have BK217 := n0_; have HB := n1_; clear n0_ n1_; (try clear hb); (try clear hb2); (try clear hk); (try clear hi)))
            go_meet
            case rel => exact ⟨_, (Go.bits .xor .u64 t220 t229), (by first | rfl | (simp; done) | (simp [*]; done)), H', ⟨by have := HJ5.out; have := HJ21.out; first | omega | exact Nat.le_refl _⟩, ⟨by (with_reducible repeat (first | refine bkN ?_ _ | refine bkd ?_ | refine bka ?_ _)); exact BK217.out⟩, ⟨by repeat (first | (with_reducible first | exact HB.out | apply bal | apply pwB_ | apply bd1 | refine bse ?_ GE217.out) | exact HB.out)⟩⟩
           ·rw [if_neg c64] at H
            have c64b0 : (a1 == 2) = false := beq_eq_false_iff_ne.mpr c64
            have c64b1 : (a1 != 2) = true := bne_iff_ne.mpr c64
            (first | rw [c64b0] | (simp only [i64_w, i32_w]; rw [c64b0]) | skip)
            by_cases c68 : a1 = 1
            ·rw [if_pos c68] at H
             have c68b0 : (a1 == 1) = true := beq_iff_eq.mpr c68
             have c68b1 : (a1 != 1) = false := bne_eq_false_iff_eq.mpr c68
             clear c68
             have H' := As0.mk H
             clear H
             go_wp2
             go_meet
             case rel => exact ⟨_, (t220), (by first | rfl | (simp; done) | (simp [*]; done)), H', ⟨by have := HJ5.out; have := HJ21.out; first | omega | exact Nat.le_refl _⟩, ⟨by (with_reducible repeat (first | refine bkN ?_ _ | refine bkd ?_ | refine bka ?_ _)); exact BK217.out⟩, ⟨by repeat (first | (with_reducible first | exact HB.out | apply bal | apply pwB_ | apply bd1 | refine bse ?_ GE217.out) | exact HB.out)⟩⟩
            ·rw [if_neg c68] at H
             have c68b0 : (a1 == 1) = false := beq_eq_false_iff_ne.mpr c68
             have c68b1 : (a1 != 1) = true := bne_iff_ne.mpr c68
             by_cases c69 : a1 = 3
             ·rw [if_pos c69] at H
              have c69b0 : (a1 == 3) = true := beq_iff_eq.mpr c69
              have c69b1 : (a1 != 3) = false := bne_eq_false_iff_eq.mpr c69
              clear c69
              replace H := zob H
              obtain ⟨t230, A700, H⟩ := H
              replace H : (some (t230, 0)) = some (r1, r2) := H
              have A70 := As0.mk A700
              clear A700
              simp only [Option.some.injEq, Prod.mk.injEq] at H
              obtain ⟨rfl, rfl⟩ := H
              have hcz71_0 : wc.cell? ⟨gb217, 0, none⟩ = some (.int .i64 t215) := (bce BK217.out 0).trans rfl
              have hcz71_1 : wc.cell? ⟨gb217, 1, none⟩ = some (.int .i64 t216) := (bce BK217.out 1).trans rfl
              have hfz71_0 := bkf BK217.out 0
              have hfz71_1 := bkf BK217.out 1
              go_wp2_with (first | ((with_reducible refine gcl (f := 45) rfl ?_); refine goesL_ (some 96) rfl rfl Try.func45 (by kernel_rfl) rfl #[.agg #[.int .i64 t215, .int .i64 t216], .int .u64 t219, .int .u64 t220] rfl (by (try simp only [zmt, zmc, zmn]); first | done | rfl) ?_; (with_reducible refine (ff_mul.calls kj21 t215 t216 t219 t220 t230 _ A70.out).mono ?_); rintro e w72 ⟨rfl, hb⟩; refine ⟨_, rfl, ?_⟩; have n0_ := As0.mk (bkb (g := gb217) (o := .cells #[.int .i64 t215, .int .i64 t216] 43 (0, 0)) (by (with_reducible repeat (first | refine bkN ?_ _ | refine bkd ?_ | refine bka ?_ _)); exact BK217.out) hb); have n1_ := As0.mk (bst (by repeat (first | (with_reducible first | exact HB.out | apply bal | apply pwB_ | apply bd1 | refine bse ?_ GE217.out) | exact HB.out)) hb); clear BK217; clear HB; have BK217 := n0_; have HB := n1_; clear n0_ n1_; (try clear hb); (try clear hb2); (try clear hk); (try clear hi)))
              go_ret2
              exact ⟨by first | rfl | (simp [*] <;> rfl), by repeat (first | (with_reducible first | exact HB.out | apply bal | apply pwB_ | apply bd1 | refine bse ?_ GE217.out) | exact HB.out)⟩
             ·rw [if_neg c69] at H
              have c69b0 : (a1 == 3) = false := beq_eq_false_iff_ne.mpr c69
              have c69b1 : (a1 != 3) = true := bne_iff_ne.mpr c69
              by_cases c73 : a1 = 4
              ·rw [if_pos c73] at H
               have c73b0 : (a1 == 4) = true := beq_iff_eq.mpr c73
               have c73b1 : (a1 != 4) = false := bne_eq_false_iff_eq.mpr c73
               clear c73
               replace H := zob H
               obtain ⟨t231, A740, H⟩ := H
               replace H : (some (t231, 0)) = some (r1, r2) := H
               have A74 := As0.mk A740
               clear A740
               simp only [Option.some.injEq, Prod.mk.injEq] at H
               obtain ⟨rfl, rfl⟩ := H
               have hcz75_0 : wc.cell? ⟨gb217, 0, none⟩ = some (.int .i64 t215) := (bce BK217.out 0).trans rfl
               have hcz75_1 : wc.cell? ⟨gb217, 1, none⟩ = some (.int .i64 t216) := (bce BK217.out 1).trans rfl
               have hfz75_0 := bkf BK217.out 0
               have hfz75_1 := bkf BK217.out 1
               go_wp2_with (first | ((with_reducible refine gcl (f := 46) rfl ?_); refine goesL_ (some 100) rfl rfl Try.func46 (by kernel_rfl) rfl #[.agg #[.int .i64 t215, .int .i64 t216], .int .u64 t219, .int .u64 t220] rfl (by (try simp only [zmt, zmc, zmn]); first | done | rfl) ?_; (with_reducible refine (ff_div.calls kj21 t215 t216 t219 t220 t231 _ A74.out).mono ?_); rintro e w76 ⟨rfl, hb⟩; refine ⟨_, rfl, ?_⟩; have n0_ := As0.mk (bkb (g := gb217) (o := .cells #[.int .i64 t215, .int .i64 t216] 43 (0, 0)) (by (with_reducible repeat (first | refine bkN ?_ _ | refine bkd ?_ | refine bka ?_ _)); exact BK217.out) hb); have n1_ := As0.mk (bst (by repeat (first | (with_reducible first | exact HB.out | apply bal | apply pwB_ | apply bd1 | refine bse ?_ GE217.out) | exact HB.out)) hb); clear BK217; clear HB; have BK217 := n0_; have HB := n1_; clear n0_ n1_; (try clear hb); (try clear hb2); (try clear hk); (try clear hi)))
               go_ret2
               exact ⟨by first | rfl | (simp [*] <;> rfl), by repeat (first | (with_reducible first | exact HB.out | apply bal | apply pwB_ | apply bd1 | refine bse ?_ GE217.out) | exact HB.out)⟩
              ·rw [if_neg c73] at H
               have c73b0 : (a1 == 4) = false := beq_eq_false_iff_ne.mpr c73
               have c73b1 : (a1 != 4) = true := bne_iff_ne.mpr c73
               replace H := zob H
               obtain ⟨t232, A770, H⟩ := H
               replace H : (some (t232, 0)) = some (r1, r2) := H
               have A77 := As0.mk A770
               clear A770
               simp only [Option.some.injEq, Prod.mk.injEq] at H
               obtain ⟨rfl, rfl⟩ := H
               have hcz78_0 : wc.cell? ⟨gb217, 0, none⟩ = some (.int .i64 t215) := (bce BK217.out 0).trans rfl
               have hcz78_1 : wc.cell? ⟨gb217, 1, none⟩ = some (.int .i64 t216) := (bce BK217.out 1).trans rfl
               have hfz78_0 := bkf BK217.out 0
               have hfz78_1 := bkf BK217.out 1
               go_wp2_with (first | ((with_reducible refine gcl (f := 47) rfl ?_); refine goesL_ (some 106) rfl rfl Try.func47 (by kernel_rfl) rfl #[.agg #[.int .i64 t215, .int .i64 t216], .bool (a1 == 6), .int .u64 t219, .int .u64 t220] rfl (by (try simp only [zmt, zmc, zmn]); first | done | rfl) ?_; (with_reducible refine (ff_end.calls t215 t216 (a1 == 6) t219 t220 t232 _ A77.out).mono ?_); rintro e w79 ⟨rfl, hb⟩; refine ⟨_, rfl, ?_⟩; have n0_ := As0.mk (bkb (g := gb217) (o := .cells #[.int .i64 t215, .int .i64 t216] 43 (0, 0)) (by (with_reducible repeat (first | refine bkN ?_ _ | refine bkd ?_ | refine bka ?_ _)); exact BK217.out) hb); have n1_ := As0.mk (bst (by repeat (first | (with_reducible first | exact HB.out | apply bal | apply pwB_ | apply bd1 | refine bse ?_ GE217.out) | exact HB.out)) hb); clear BK217; clear HB; have BK217 := n0_; have HB := n1_; clear n0_ n1_; (try clear hb); (try clear hb2); (try clear hk); (try clear hi)))
               go_ret2
               exact ⟨by first | rfl | (simp [*] <;> rfl), by repeat (first | (with_reducible first | exact HB.out | apply bal | apply pwB_ | apply bd1 | refine bse ?_ GE217.out) | exact HB.out)⟩
          case rest =>
           clear HC63
           try clear c1
           try clear c2
           try clear p2
           try clear c3
           try clear c4
           try clear c5
           try clear c6
           try clear c7
           try clear c11
           try clear c14
           try clear c14b0
           try clear c19
           try clear c27
           try clear c31
           try clear c32
           try clear c35
           try clear c35b0
           try clear c35b1
           try clear c36
           try clear c37
           try clear c38
           try clear c39
           try clear c40
           try clear c42
           try clear c43
           try clear c43b0
           try clear c43b1
           try clear c44
           try clear c45
           try clear c46
           try clear c47
           try clear c51
           try clear c51b0
           try clear c51b1
           try clear c52
           try clear c54
           try clear c59
           try clear c64
           try clear c64b0
           try clear c64b1
           try clear c68
           try clear c68b0
           try clear c68b1
           try clear c69
           try clear c69b0
           try clear c69b1
           try clear c73
           try clear c73b0
           try clear c73b1
           try clear hcz12_0
           try clear hcz12_1
           try clear hcz15_0
           try clear hcz15_1
           try clear hcz17_0
           try clear hcz17_1
           try clear hcz28_0
           try clear hcz28_1
           try clear hcz31_0
           try clear hcz31_1
           try clear hcz33_0
           try clear hcz33_1
           try clear hcz47_0
           try clear hcz47_1
           try clear hcz49_0
           try clear hcz49_1
           try clear hcz55_0
           try clear hcz55_1
           try clear hcz57_0
           try clear hcz57_1
           try clear hcz61_0
           try clear hcz61_1
           try clear hcz66_0
           try clear hcz66_1
           try clear hcz71_0
           try clear hcz71_1
           try clear hcz75_0
           try clear hcz75_1
           try clear hcz78_0
           try clear hcz78_1
           try clear hcz9_0
           try clear hcz9_1
           try clear hfz12_0
           try clear hfz12_1
           try clear hfz15_0
           try clear hfz15_1
           try clear hfz17_0
           try clear hfz17_1
           try clear hfz28_0
           try clear hfz28_1
           try clear hfz31_0
           try clear hfz31_1
           try clear hfz33_0
           try clear hfz33_1
           try clear hfz47_0
           try clear hfz47_1
           try clear hfz49_0
           try clear hfz49_1
           try clear hfz55_0
           try clear hfz55_1
           try clear hfz57_0
           try clear hfz57_1
           try clear hfz61_0
           try clear hfz61_1
           try clear hfz66_0
           try clear hfz66_1
           try clear hfz71_0
           try clear hfz71_1
           try clear hfz75_0
           try clear hfz75_1
           try clear hfz78_0
           try clear hfz78_1
           try clear hfz9_0
           try clear hfz9_1
           try clear p2
           obtain ⟨kq, x3_62, rfl, HA, HJ62, BK217, HB⟩ := hcut
           cases kq with
           | zero => exact absurd HA.out (by simp [floats_Bin.j2])
           | succ kj62 =>
            have H := HA.out
            clear HA
            simp only [floats_Bin.j2] at H
            replace H := zob H
            obtain ⟨t233, A800, H⟩ := H
            replace H : (some (t233, 0)) = some (r1, r2) := H
            have A80 := As0.mk A800
            clear A800
            simp only [Option.some.injEq, Prod.mk.injEq] at H
            obtain ⟨rfl, rfl⟩ := H
            have hcz81_0 : wc.cell? ⟨gb217, 0, none⟩ = some (.int .i64 t215) := (bce BK217.out 0).trans rfl
            have hcz81_1 : wc.cell? ⟨gb217, 1, none⟩ = some (.int .i64 t216) := (bce BK217.out 1).trans rfl
            have hfz81_0 := bkf BK217.out 0
            have hfz81_1 := bkf BK217.out 1
            go_wp2_with (first | ((with_reducible refine gcl (f := 44) rfl ?_); refine goesL_ (some 92) rfl rfl Try.func44 (by kernel_rfl) rfl #[.agg #[.int .i64 t215, .int .i64 t216], .int .u64 t219, .int .u64 x3_62] rfl (by (try simp only [zmt, zmc, zmn]); first | done | rfl) ?_; (with_reducible refine (ff_add.calls kj62 t215 t216 t219 x3_62 t233 _ A80.out).mono ?_); rintro e w82 ⟨rfl, hb⟩; refine ⟨_, rfl, ?_⟩; have n0_ := As0.mk (bkb (g := gb217) (o := .cells #[.int .i64 t215, .int .i64 t216] 43 (0, 0)) (by (with_reducible repeat (first | refine bkN ?_ _ | refine bkd ?_ | refine bka ?_ _)); exact BK217.out) hb); have n1_ := As0.mk (bst (by repeat (first | (with_reducible first | exact HB.out | apply bal | apply pwB_ | apply bd1 | refine bse ?_ GE217.out) | exact HB.out)) hb); clear BK217; clear HB; have BK217 := n0_; have HB := n1_; clear n0_ n1_; (try clear hb); (try clear hb2); (try clear hk); (try clear hi)))
            go_ret2
            exact ⟨by first | rfl | (simp [*] <;> rfl), by repeat (first | (with_reducible first | exact HB.out | apply bal | apply pwB_ | apply bd1 | refine bse ?_ GE217.out) | exact HB.out)⟩
end Go.Proofs.Ytjfmomogidgbpaa.PFl
namespace Go.Proofs.Ytjfmomogidgbpaa.PFl
open Go.RowKit Go.Proofs.YtjfmomogidgbpaaW.PrintWords Go.Proofs.YtjfmomogidgbpaaW.PrintLast Go.Proofs.YtjfmomogidgbpaaW.PrintMore
attribute [local go_sem] max2_int min2_int max_two min_two max_three min_three max_four min_four
set_option linter.unusedVariables false
set_option linter.unusedSimpArgs false
mutual
def ff_sqrt.j0 : Nat → Int → Int → Int → Int → Option (Int)
 | 0, _, _, _, _ => none
 | k + 1, x5, x6, x235000, x235001 => ff_sqrt.l0 k x5 x6 0 0 0 x235000 x235001
def ff_sqrt.l0 : Nat → Int → Int → Int → Int → Int → Int → Int → Option (Int)
 | 0, _, _, _, _, _, _, _ => none
 | k + 1, x5, x6, x8, x9, x53, x235000, x235001 => if x53 < 64 then (if x53 < 32 then (if 0 ≤ (IntKind.u64.wrap (wrap64 (62 - (wrap64 (2 * x53))))) then (ff_sqrt.j2 k x5 x6 x8 x9 x53 (Go.bits .and .u64 (shr .u64 x5 (IntKind.u64.wrap (wrap64 (62 - (wrap64 (2 * x53)))))) 3) x53 x235000 x235001) else (none)) else (ff_sqrt.j2 k x5 x6 x8 x9 x53 0 x53 x235000 x235001)) else ((ff_round.f k x235000 x235001 false x8 (wrap64 (Int.tdiv (wrap64 (x6 - 60)) 2)) (x9 != 0)).bind fun t242 => (some t242))
def ff_sqrt.j2 : Nat → Int → Int → Int → Int → Int → Int → Int → Int → Int → Option (Int)
 | 0, _, _, _, _, _, _, _, _, _ => none
 | k + 1, x5, x6, x8, x9, x10, x11, x53, x235000, x235001 => if x10 = 62 then ((ff_round.f k x235000 x235001 false x8 (wrap64 (Int.tdiv (wrap64 (x6 - 60)) 2)) (x9 != 0)).bind fun t243 => (some t243)) else (if (Go.bits .or .u64 (IntKind.u64.wrap (x9 * 4)) x11) ≥ (Go.bits .or .u64 (IntKind.u64.wrap (x8 * 4)) 1) then (ff_sqrt.l0 k x5 x6 (Go.bits .or .u64 (IntKind.u64.wrap (x8 * 2)) 1) (IntKind.u64.wrap ((Go.bits .or .u64 (IntKind.u64.wrap (x9 * 4)) x11) - (Go.bits .or .u64 (IntKind.u64.wrap (x8 * 4)) 1))) (wrap64 (x53 + 1)) x235000 x235001) else (ff_sqrt.l0 k x5 x6 (IntKind.u64.wrap (x8 * 2)) (Go.bits .or .u64 (IntKind.u64.wrap (x9 * 4)) x11) (wrap64 (x53 + 1)) x235000 x235001))
end
def ff_sqrt.f (k : Nat) (a0_0 : Int) (a0_1 : Int) (a1 : Int) : Option (Int) := (ff_size.f a0_0 a0_1 a1).bind fun t235 => (if t235 = 0 then (some a1) else ((ff_neg.f a0_0 a0_1 a1).bind fun t236 => (if t236 = true then ((ff_nan.f a0_0 a0_1).bind fun t237 => (some t237)) else ((ff_infinity.f a0_0 a0_1).bind fun t238 => (if a1 = t238 then (some a1) else ((ff_parts.f a0_0 a0_1 a1).bind fun bt239 => ((bits_LeadingZeros64.f bt239.1).bind fun t241 => (if 0 ≤ (IntKind.u64.wrap (t241)) then (if (Go.bits .and .i64 (wrap64 (bt239.2 - t241)) 1) = 1 then (ff_sqrt.j0 k ((shl .u64 bt239.1 (IntKind.u64.wrap (t241))) / 2) (wrap64 ((wrap64 (bt239.2 - t241)) + 1)) a0_0 a0_1) else (ff_sqrt.j0 k (shl .u64 bt239.1 (IntKind.u64.wrap (t241))) (wrap64 (bt239.2 - t241)) a0_0 a0_1)) else (none)))))))))
theorem ff_sqrt.mono_l : ∀ k, (∀ y0 y1 y2 y3, LeO (ff_sqrt.j0 k y0 y1 y2 y3) (ff_sqrt.j0 (k + 1) y0 y1 y2 y3)) ∧ (∀ y0 y1 y2 y3 y4 y5 y6, LeO (ff_sqrt.l0 k y0 y1 y2 y3 y4 y5 y6) (ff_sqrt.l0 (k + 1) y0 y1 y2 y3 y4 y5 y6)) ∧ (∀ y0 y1 y2 y3 y4 y5 y6 y7 y8, LeO (ff_sqrt.j2 k y0 y1 y2 y3 y4 y5 y6 y7 y8) (ff_sqrt.j2 (k + 1) y0 y1 y2 y3 y4 y5 y6 y7 y8)) := by
 intro k
 induction k with
 | zero => exact ⟨fun _ _ _ _ r h => by simp [ff_sqrt.j0] at h, fun _ _ _ _ _ _ _ r h => by simp [ff_sqrt.l0] at h, fun _ _ _ _ _ _ _ _ _ r h => by simp [ff_sqrt.j2] at h⟩
 | succ k ih =>
  obtain ⟨ih0, ih1, ih2⟩ := ih
  refine ⟨?_, ?_, ?_⟩
  ·intro y0 y1 y2 y3
   unfold ff_sqrt.j0
   repeat' first
   | (with_reducible exact ih0 _ _ _ _)
   | (with_reducible exact ih1 _ _ _ _ _ _ _)
   | (with_reducible exact ih2 _ _ _ _ _ _ _ _ _)
   | (with_reducible exact ff_round.mono _ _ _ _ _ _ _)
   | (with_reducible exact LeO.refl _)
   | (with_reducible exact LeO.none _)
   | (with_reducible refine LeO.ite ?_ ?_)
   | (with_reducible refine LeO.bind ?_ (fun _ => ?_))
   | exact ih0 _ _ _ _
   | exact ih1 _ _ _ _ _ _ _
   | exact ih2 _ _ _ _ _ _ _ _ _
   | exact ff_round.mono _ _ _ _ _ _ _
   | exact LeO.none _
   | refine LeO.ite ?_ ?_
   | refine LeO.bind ?_ (fun _ => ?_)
  ·intro y0 y1 y2 y3 y4 y5 y6
   unfold ff_sqrt.l0
   repeat' first
   | (with_reducible exact ih0 _ _ _ _)
   | (with_reducible exact ih1 _ _ _ _ _ _ _)
   | (with_reducible exact ih2 _ _ _ _ _ _ _ _ _)
   | (with_reducible exact ff_round.mono _ _ _ _ _ _ _)
   | (with_reducible exact LeO.refl _)
   | (with_reducible exact LeO.none _)
   | (with_reducible refine LeO.ite ?_ ?_)
   | (with_reducible refine LeO.bind ?_ (fun _ => ?_))
   | exact ih0 _ _ _ _
   | exact ih1 _ _ _ _ _ _ _
   | exact ih2 _ _ _ _ _ _ _ _ _
   | exact ff_round.mono _ _ _ _ _ _ _
   | exact LeO.none _
   | refine LeO.ite ?_ ?_
   | refine LeO.bind ?_ (fun _ => ?_)
  ·intro y0 y1 y2 y3 y4 y5 y6 y7 y8
   unfold ff_sqrt.j2
   repeat' first
   | (with_reducible exact ih0 _ _ _ _)
   | (with_reducible exact ih1 _ _ _ _ _ _ _)
   | (with_reducible exact ih2 _ _ _ _ _ _ _ _ _)
   | (with_reducible exact ff_round.mono _ _ _ _ _ _ _)
   | (with_reducible exact LeO.refl _)
   | (with_reducible exact LeO.none _)
   | (with_reducible refine LeO.ite ?_ ?_)
   | (with_reducible refine LeO.bind ?_ (fun _ => ?_))
   | exact ih0 _ _ _ _
   | exact ih1 _ _ _ _ _ _ _
   | exact ih2 _ _ _ _ _ _ _ _ _
   | exact ff_round.mono _ _ _ _ _ _ _
   | exact LeO.none _
   | refine LeO.ite ?_ ?_
   | refine LeO.bind ?_ (fun _ => ?_)
theorem ff_sqrt.mono : ∀ a0 a1 a2 k, LeO (ff_sqrt.f k a0 a1 a2) (ff_sqrt.f (k + 1) a0 a1 a2) := by
 intro a0 a1 a2 k
 obtain ⟨ih0, ih1, ih2⟩ := ff_sqrt.mono_l k
 unfold ff_sqrt.f
 repeat' first
   | (with_reducible exact ih0 _ _ _ _)
   | (with_reducible exact ih1 _ _ _ _ _ _ _)
   | (with_reducible exact ih2 _ _ _ _ _ _ _ _ _)
   | (with_reducible exact ff_round.mono _ _ _ _ _ _ _)
   | (with_reducible exact LeO.refl _)
   | (with_reducible exact LeO.none _)
   | (with_reducible refine LeO.ite ?_ ?_)
   | (with_reducible refine LeO.bind ?_ (fun _ => ?_))
   | exact ih0 _ _ _ _
   | exact ih1 _ _ _ _ _ _ _
   | exact ih2 _ _ _ _ _ _ _ _ _
   | exact ff_round.mono _ _ _ _ _ _ _
   | exact LeO.none _
   | refine LeO.ite ?_ ?_
   | refine LeO.bind ?_ (fun _ => ?_)
set_option maxHeartbeats 8000000 in
set_option maxRecDepth 100000 in
theorem ff_sqrt.calls (k : Nat) (a0_0 : Int) (a0_1 : Int) (a1 : Int) (r : Int) (w : World) (h : ff_sqrt.f k a0_0 a0_1 a1 = some r) :
  Calls Try.prog 48 #[.agg #[.int .i64 a0_0, .int .i64 a0_1], .int .u64 a1] w fun e w' => e = .returned (.int .u64 r) ∧ Below w.heap.size w w' := by
 have hu43 := Try.underlying43
 have HB := As0.mk (Below.refl w.heap.size w)
 have H : ((ff_size.f a0_0 a0_1 a1).bind fun t235 => (if t235 = 0 then (some a1) else ((ff_neg.f a0_0 a0_1 a1).bind fun t236 => (if t236 = true then ((ff_nan.f a0_0 a0_1).bind fun t237 => (some t237)) else ((ff_infinity.f a0_0 a0_1).bind fun t238 => (if a1 = t238 then (some a1) else ((ff_parts.f a0_0 a0_1 a1).bind fun bt239 => ((bits_LeadingZeros64.f bt239.1).bind fun t241 => (if 0 ≤ (IntKind.u64.wrap (t241)) then (if (Go.bits .and .i64 (wrap64 (bt239.2 - t241)) 1) = 1 then (ff_sqrt.j0 k ((shl .u64 bt239.1 (IntKind.u64.wrap (t241))) / 2) (wrap64 ((wrap64 (bt239.2 - t241)) + 1)) a0_0 a0_1) else (ff_sqrt.j0 k (shl .u64 bt239.1 (IntKind.u64.wrap (t241))) (wrap64 (bt239.2 - t241)) a0_0 a0_1)) else (none)))))))))) = some r := h
 clear h
 replace H := zob H
 obtain ⟨t235, A30, H⟩ := H
 replace H : (if t235 = 0 then (some a1) else ((ff_neg.f a0_0 a0_1 a1).bind fun t236 => (if t236 = true then ((ff_nan.f a0_0 a0_1).bind fun t237 => (some t237)) else ((ff_infinity.f a0_0 a0_1).bind fun t238 => (if a1 = t238 then (some a1) else ((ff_parts.f a0_0 a0_1 a1).bind fun bt239 => ((bits_LeadingZeros64.f bt239.1).bind fun t241 => (if 0 ≤ (IntKind.u64.wrap (t241)) then (if (Go.bits .and .i64 (wrap64 (bt239.2 - t241)) 1) = 1 then (ff_sqrt.j0 k ((shl .u64 bt239.1 (IntKind.u64.wrap (t241))) / 2) (wrap64 ((wrap64 (bt239.2 - t241)) + 1)) a0_0 a0_1) else (ff_sqrt.j0 k (shl .u64 bt239.1 (IntKind.u64.wrap (t241))) (wrap64 (bt239.2 - t241)) a0_0 a0_1)) else (none))))))))) = some r := H
 have A3 := As0.mk A30
 clear A30
 by_cases c4 : t235 = 0
 ·rw [if_pos c4] at H
  have c4b0 : (t235 == 0) = true := beq_iff_eq.mpr c4
  have c4b1 : (t235 != 0) = false := bne_eq_false_iff_eq.mpr c4
  clear c4
  obtain rfl := Option.some.inj H
  go_enter Try.func48, Try.ntmps48
  go_wp2_with (first | ((with_reducible refine gate_dst (N := 2) rfl ?_); refine box_event ?hg (N := 2) ?hd (cs := #[.int .i64 a0_0, .int .i64 a0_1]) (t := 43) ?hr ?_; (case hd => rfl); (case hg => rfl); (case hr => first | (go_simp; done) | (go_simp; rfl)); intro gb234 hg w5 hbox hb; have n0_ := As0.mk (bst (by repeat (first | (with_reducible first | exact HB.out | apply bal | apply pwB_ | apply bd1) | exact HB.out)) hb); have n1_ := As0.mk (hbox); have n2_ := As0.mk ((by rw [hg]; exact (below_size (by repeat (first | (with_reducible first | exact HB.out | apply bal | apply pwB_ | apply bd1) | exact HB.out))) : w.heap.size ≤ gb234)); have n3_ := As0.mk ((by rw [hg]; exact (below_size (by repeat (first | (with_reducible first | exact HB.out | apply bal | apply pwB_ | apply bd1) | exact HB.out))) : w.heap.size ≤ gb234)); clear HB; have HB := n0_; have BK234 := n1_; have GW234 := n2_; have GE234 := n3_; clear n0_ n1_ n2_ n3_; clear hb hbox hg; have hcz6_0 : w5.cell? ⟨gb234, 0, none⟩ = some (.int .i64 a0_0) := (bce BK234.out 0).trans rfl; have hcz6_1 : w5.cell? ⟨gb234, 1, none⟩ = some (.int .i64 a0_1) := (bce BK234.out 1).trans rfl; have hfz6_0 := bkf BK234.out 0; have hfz6_1 := bkf BK234.out 1) | ((with_reducible refine gcl (f := 40) rfl ?_); refine goesL_ (some 16) rfl rfl Try.func40 (by kernel_rfl) rfl #[.agg #[.int .i64 a0_0, .int .i64 a0_1], .int .u64 a1] rfl (by (try simp only [zmt, zmc, zmn]); first | done | rfl) ?_; (with_reducible refine (ff_size.calls a0_0 a0_1 a1 t235 _ A3.out).mono ?_); rintro e w7 ⟨rfl, hb⟩; refine ⟨_, rfl, ?_⟩; have n0_ := As0.mk (bkb (g := gb234) (o := .cells #[.int .i64 a0_0, .int .i64 a0_1] 43 (0, 0)) (by (with_reducible repeat (first | refine bkN ?_ _ | refine bkd ?_ | refine bka ?_ _)); exact BK234.out) hb); have n1_ := As0.mk (bst (by repeat (first | (with_reducible first | exact HB.out | apply bal | apply pwB_ | apply bd1 | refine bse ?_ GE234.out) | exact HB.out)) hb); clear BK234; clear HB; have BK234 := n0_; have HB := n1_; clear n0_ n1_; (try clear hb); (try clear hb2); (try clear hk); (try clear hi)))
  go_ret
  exact ⟨by first | rfl | (simp [*] <;> rfl), by repeat (first | (with_reducible first | exact HB.out | apply bal | apply pwB_ | apply bd1 | refine bse ?_ GE234.out) | exact HB.out)⟩
 ·rw [if_neg c4] at H
  have c4b0 : (t235 == 0) = false := beq_eq_false_iff_ne.mpr c4
  have c4b1 : (t235 != 0) = true := bne_iff_ne.mpr c4
  replace H := zob H
  obtain ⟨t236, A80, H⟩ := H
  replace H : (if t236 = true then ((ff_nan.f a0_0 a0_1).bind fun t237 => (some t237)) else ((ff_infinity.f a0_0 a0_1).bind fun t238 => (if a1 = t238 then (some a1) else ((ff_parts.f a0_0 a0_1 a1).bind fun bt239 => ((bits_LeadingZeros64.f bt239.1).bind fun t241 => (if 0 ≤ (IntKind.u64.wrap (t241)) then (if (Go.bits .and .i64 (wrap64 (bt239.2 - t241)) 1) = 1 then (ff_sqrt.j0 k ((shl .u64 bt239.1 (IntKind.u64.wrap (t241))) / 2) (wrap64 ((wrap64 (bt239.2 - t241)) + 1)) a0_0 a0_1) else (ff_sqrt.j0 k (shl .u64 bt239.1 (IntKind.u64.wrap (t241))) (wrap64 (bt239.2 - t241)) a0_0 a0_1)) else (none))))))) = some r := H
  have A8 := As0.mk A80
  clear A80
  by_cases c9 : t236 = true
  ·subst c9
   have H1 : ((ff_nan.f a0_0 a0_1).bind fun t237 => (some t237)) = some r := by rw [if_pos rfl] at H; exact H
   clear H
   have H := H1
   clear H1
   replace H := zob H
   obtain ⟨t237, A100, H⟩ := H
   replace H : (some t237) = some r := H
   have A10 := As0.mk A100
   clear A100
   obtain rfl := Option.some.inj H
   go_enter Try.func48, Try.ntmps48
   go_wp2_with (first | ((with_reducible refine gate_dst (N := 2) rfl ?_); refine box_event ?hg (N := 2) ?hd (cs := #[.int .i64 a0_0, .int .i64 a0_1]) (t := 43) ?hr ?_; (case hd => rfl); (case hg => rfl); (case hr => first | (go_simp; done) | (go_simp; rfl)); intro gb234 hg w11 hbox hb; have n0_ := As0.mk (bst (by repeat (first | (with_reducible first | exact HB.out | apply bal | apply pwB_ | apply bd1) | exact HB.out)) hb); have n1_ := As0.mk (hbox); have n2_ := As0.mk ((by rw [hg]; exact (below_size (by repeat (first | (with_reducible first | exact HB.out | apply bal | apply pwB_ | apply bd1) | exact HB.out))) : w.heap.size ≤ gb234)); have n3_ := As0.mk ((by rw [hg]; exact (below_size (by repeat (first | (with_reducible first | exact HB.out | apply bal | apply pwB_ | apply bd1) | exact HB.out))) : w.heap.size ≤ gb234)); clear HB; have HB := n0_; have BK234 := n1_; have GW234 := n2_; have GE234 := n3_; clear n0_ n1_ n2_ n3_; clear hb hbox hg; have hcz12_0 : w11.cell? ⟨gb234, 0, none⟩ = some (.int .i64 a0_0) := (bce BK234.out 0).trans rfl; have hcz12_1 : w11.cell? ⟨gb234, 1, none⟩ = some (.int .i64 a0_1) := (bce BK234.out 1).trans rfl; have hfz12_0 := bkf BK234.out 0; have hfz12_1 := bkf BK234.out 1) | ((with_reducible refine gcl (f := 40) rfl ?_); refine goesL_ (some 16) rfl rfl Try.func40 (by kernel_rfl) rfl #[.agg #[.int .i64 a0_0, .int .i64 a0_1], .int .u64 a1] rfl (by (try simp only [zmt, zmc, zmn]); first | done | rfl) ?_; (with_reducible refine (ff_size.calls a0_0 a0_1 a1 t235 _ A3.out).mono ?_); rintro e w13 ⟨rfl, hb⟩; refine ⟨_, rfl, ?_⟩; have n0_ := As0.mk (bkb (g := gb234) (o := .cells #[.int .i64 a0_0, .int .i64 a0_1] 43 (0, 0)) (by (with_reducible repeat (first | refine bkN ?_ _ | refine bkd ?_ | refine bka ?_ _)); exact BK234.out) hb); have n1_ := As0.mk (bst (by repeat (first | (with_reducible first | exact HB.out | apply bal | apply pwB_ | apply bd1 | refine bse ?_ GE234.out) | exact HB.out)) hb); clear BK234; clear HB; have BK234 := n0_; have HB := n1_; clear n0_ n1_; (try clear hb); (try clear hb2); (try clear hk); (try clear hi); have hcz14_0 : w13.cell? ⟨gb234, 0, none⟩ = some (.int .i64 a0_0) := (bce BK234.out 0).trans rfl; have hcz14_1 : w13.cell? ⟨gb234, 1, none⟩ = some (.int .i64 a0_1) := (bce BK234.out 1).trans rfl; have hfz14_0 := bkf BK234.out 0; have hfz14_1 := bkf BK234.out 1) | ((with_reducible refine gcl (f := 39) rfl ?_); refine goesL_ (some 22) rfl rfl Try.func39 (by kernel_rfl) rfl #[.agg #[.int .i64 a0_0, .int .i64 a0_1], .int .u64 a1] rfl (by (try simp only [zmt, zmc, zmn]); first | done | rfl) ?_; (with_reducible refine (ff_neg.calls a0_0 a0_1 a1 true _ A8.out).mono ?_); rintro e w15 ⟨rfl, hb⟩; refine ⟨_, rfl, ?_⟩; have n0_ := As0.mk (bkb (g := gb234) (o := .cells #[.int .i64 a0_0, .int .i64 a0_1] 43 (0, 0)) (by (with_reducible repeat (first | refine bkN ?_ _ | refine bkd ?_ | refine bka ?_ _)); exact BK234.out) hb); have n1_ := As0.mk (bst (by repeat (first | (with_reducible first | exact HB.out | apply bal | apply pwB_ | apply bd1 | refine bse ?_ GE234.out) | exact HB.out)) hb); clear BK234; clear HB; have BK234 := n0_; have HB := n1_; clear n0_ n1_; (try clear hb); (try clear hb2); (try clear hk); (try clear hi); have hcz16_0 : w15.cell? ⟨gb234, 0, none⟩ = some (.int .i64 a0_0) := (bce BK234.out 0).trans rfl; have hcz16_1 : w15.cell? ⟨gb234, 1, none⟩ = some (.int .i64 a0_1) := (bce BK234.out 1).trans rfl; have hfz16_0 := bkf BK234.out 0; have hfz16_1 := bkf BK234.out 1) | ((with_reducible refine gcl (f := 42) rfl ?_); refine goesL_ (some 24) rfl rfl Try.func42 (by kernel_rfl) rfl #[.agg #[.int .i64 a0_0, .int .i64 a0_1]] rfl (by (try simp only [zmt, zmc, zmn]); first | done | rfl) ?_; (with_reducible refine (ff_nan.calls a0_0 a0_1 t237 _ A10.out).mono ?_); rintro e w17 ⟨rfl, hb⟩; refine ⟨_, rfl, ?_⟩; have n0_ := As0.mk (bkb (g := gb234) (o := .cells #[.int .i64 a0_0, .int .i64 a0_1] 43 (0, 0)) (by (with_reducible repeat (first | refine bkN ?_ _ | refine bkd ?_ | refine bka ?_ _)); exact BK234.out) hb); have n1_ := As0.mk (bst (by repeat (first | (with_reducible first | exact HB.out | apply bal | apply pwB_ | apply bd1 | refine bse ?_ GE234.out) | exact HB.out)) hb); clear BK234; clear HB; have BK234 := n0_; have HB := n1_; clear n0_ n1_; (try clear hb); (try clear hb2); (try clear hk); (try clear hi)))
   go_ret
   exact ⟨by first | rfl | (simp [*] <;> rfl), by repeat (first | (with_reducible first | exact HB.out | apply bal | apply pwB_ | apply bd1 | refine bse ?_ GE234.out) | exact HB.out)⟩
  ·replace c9 := Bool.eq_false_iff.mpr c9
   subst c9
   have H1 : ((ff_infinity.f a0_0 a0_1).bind fun t238 => (if a1 = t238 then (some a1) else ((ff_parts.f a0_0 a0_1 a1).bind fun bt239 => ((bits_LeadingZeros64.f bt239.1).bind fun t241 => (if 0 ≤ (IntKind.u64.wrap (t241)) then (if (Go.bits .and .i64 (wrap64 (bt239.2 - t241)) 1) = 1 then (ff_sqrt.j0 k ((shl .u64 bt239.1 (IntKind.u64.wrap (t241))) / 2) (wrap64 ((wrap64 (bt239.2 - t241)) + 1)) a0_0 a0_1) else (ff_sqrt.j0 k (shl .u64 bt239.1 (IntKind.u64.wrap (t241))) (wrap64 (bt239.2 - t241)) a0_0 a0_1)) else (none)))))) = some r := by rw [if_neg (show ¬ (false = true) by decide)] at H; exact H
   clear H
   have H := H1
   clear H1
   replace H := zob H
   obtain ⟨t238, A180, H⟩ := H
   replace H : (if a1 = t238 then (some a1) else ((ff_parts.f a0_0 a0_1 a1).bind fun bt239 => ((bits_LeadingZeros64.f bt239.1).bind fun t241 => (if 0 ≤ (IntKind.u64.wrap (t241)) then (if (Go.bits .and .i64 (wrap64 (bt239.2 - t241)) 1) = 1 then (ff_sqrt.j0 k ((shl .u64 bt239.1 (IntKind.u64.wrap (t241))) / 2) (wrap64 ((wrap64 (bt239.2 - t241)) + 1)) a0_0 a0_1) else (ff_sqrt.j0 k (shl .u64 bt239.1 (IntKind.u64.wrap (t241))) (wrap64 (bt239.2 - t241)) a0_0 a0_1)) else (none))))) = some r := H
   have A18 := As0.mk A180
   clear A180
   by_cases c19 : a1 = t238
   ·rw [if_pos c19] at H
    have c19b0 : (a1 == t238) = true := beq_iff_eq.mpr c19
    have c19b1 : (a1 != t238) = false := bne_eq_false_iff_eq.mpr c19
    clear c19
    obtain rfl := Option.some.inj H
    go_enter Try.func48, Try.ntmps48
    go_wp2_with (first | ((with_reducible refine gate_dst (N := 2) rfl ?_); refine box_event ?hg (N := 2) ?hd (cs := #[.int .i64 a0_0, .int .i64 a0_1]) (t := 43) ?hr ?_; (case hd => rfl); (case hg => rfl); (case hr => first | (go_simp; done) | (go_simp; rfl)); intro gb234 hg w20 hbox hb; have n0_ := As0.mk (bst (by repeat (first | (with_reducible first | exact HB.out | apply bal | apply pwB_ | apply bd1) | exact HB.out)) hb); have n1_ := As0.mk (hbox); have n2_ := As0.mk ((by rw [hg]; exact (below_size (by repeat (first | (with_reducible first | exact HB.out | apply bal | apply pwB_ | apply bd1) | exact HB.out))) : w.heap.size ≤ gb234)); have n3_ := As0.mk ((by rw [hg]; exact (below_size (by repeat (first | (with_reducible first | exact HB.out | apply bal | apply pwB_ | apply bd1) | exact HB.out))) : w.heap.size ≤ gb234)); clear HB; have HB := n0_; have BK234 := n1_; have GW234 := n2_; have GE234 := n3_; clear n0_ n1_ n2_ n3_; clear hb hbox hg; have hcz21_0 : w20.cell? ⟨gb234, 0, none⟩ = some (.int .i64 a0_0) := (bce BK234.out 0).trans rfl; have hcz21_1 : w20.cell? ⟨gb234, 1, none⟩ = some (.int .i64 a0_1) := (bce BK234.out 1).trans rfl; have hfz21_0 := bkf BK234.out 0; have hfz21_1 := bkf BK234.out 1) | ((with_reducible refine gcl (f := 40) rfl ?_); refine goesL_ (some 16) rfl rfl Try.func40 (by kernel_rfl) rfl #[.agg #[.int .i64 a0_0, .int .i64 a0_1], .int .u64 a1] rfl (by (try simp only [zmt, zmc, zmn]); first | done | rfl) ?_; (with_reducible refine (ff_size.calls a0_0 a0_1 a1 t235 _ A3.out).mono ?_); rintro e w22 ⟨rfl, hb⟩; refine ⟨_, rfl, ?_⟩; have n0_ := As0.mk (bkb (g := gb234) (o := .cells #[.int .i64 a0_0, .int .i64 a0_1] 43 (0, 0)) (by (with_reducible repeat (first | refine bkN ?_ _ | refine bkd ?_ | refine bka ?_ _)); exact BK234.out) hb); have n1_ := As0.mk (bst (by repeat (first | (with_reducible first | exact HB.out | apply bal | apply pwB_ | apply bd1 | refine bse ?_ GE234.out) | exact HB.out)) hb); clear BK234; clear HB; have BK234 := n0_; have HB := n1_; clear n0_ n1_; (try clear hb); (try clear hb2); (try clear hk); (try clear hi); have hcz23_0 : w22.cell? ⟨gb234, 0, none⟩ = some (.int .i64 a0_0) := (bce BK234.out 0).trans rfl; have hcz23_1 : w22.cell? ⟨gb234, 1, none⟩ = some (.int .i64 a0_1) := (bce BK234.out 1).trans rfl; have hfz23_0 := bkf BK234.out 0; have hfz23_1 := bkf BK234.out 1) | ((with_reducible refine gcl (f := 39) rfl ?_); refine goesL_ (some 22) rfl rfl Try.func39 (by kernel_rfl) rfl #[.agg #[.int .i64 a0_0, .int .i64 a0_1], .int .u64 a1] rfl (by (try simp only [zmt, zmc, zmn]); first | done | rfl) ?_; (with_reducible refine (ff_neg.calls a0_0 a0_1 a1 false _ A8.out).mono ?_); rintro e w24 ⟨rfl, hb⟩; refine ⟨_, rfl, ?_⟩; have n0_ := As0.mk (bkb (g := gb234) (o := .cells #[.int .i64 a0_0, .int .i64 a0_1] 43 (0, 0)) (by (with_reducible repeat (first | refine bkN ?_ _ | refine bkd ?_ | refine bka ?_ _)); exact BK234.out) hb); have n1_ := As0.mk (bst (by repeat (first | (with_reducible first | exact HB.out | apply bal | apply pwB_ | apply bd1 | refine bse ?_ GE234.out) | exact HB.out)) hb); clear BK234; clear HB; have BK234 := n0_; have HB := n1_; clear n0_ n1_; (try clear hb); (try clear hb2); (try clear hk); (try clear hi); have hcz25_0 : w24.cell? ⟨gb234, 0, none⟩ = some (.int .i64 a0_0) := (bce BK234.out 0).trans rfl; have hcz25_1 : w24.cell? ⟨gb234, 1, none⟩ = some (.int .i64 a0_1) := (bce BK234.out 1).trans rfl; have hfz25_0 := bkf BK234.out 0; have hfz25_1 := bkf BK234.out 1) | ((with_reducible refine gcl (f := 50) rfl ?_); refine goesL_ (some 28) rfl rfl Try.func50 (by kernel_rfl) rfl #[.agg #[.int .i64 a0_0, .int .i64 a0_1]] rfl (by (try simp only [zmt, zmc, zmn]); first | done | rfl) ?_; (with_reducible refine (ff_infinity.calls a0_0 a0_1 t238 _ A18.out).mono ?_); rintro e w26 ⟨rfl, hb⟩; refine ⟨_, rfl, ?_⟩; have n0_ := As0.mk (bkb (g := gb234) (o := .cells #[.int .i64 a0_0, .int .i64 a0_1] 43 (0, 0)) (by (with_reducible repeat (first | refine bkN ?_ _ | refine bkd ?_ | refine bka ?_ _)); exact BK234.out) hb); have n1_ := As0.mk (bst (by repeat (first | (with_reducible first | exact HB.out | apply bal | apply pwB_ | apply bd1 | refine bse ?_ GE234.out) | exact HB.out)) hb); clear BK234; clear HB; have BK234 := n0_; have HB := n1_; clear n0_ n1_; (try clear hb); (try clear hb2); (try clear hk); (try clear hi)))
    go_ret
    exact ⟨by first | rfl | (simp [*] <;> rfl), by repeat (first | (with_reducible first | exact HB.out | apply bal | apply pwB_ | apply bd1 | refine bse ?_ GE234.out) | exact HB.out)⟩
   ·rw [if_neg c19] at H
    have c19b0 : (a1 == t238) = false := beq_eq_false_iff_ne.mpr c19
    have c19b1 : (a1 != t238) = true := bne_iff_ne.mpr c19
    replace H := zob H
    obtain ⟨⟨t239, t240⟩, A270, H⟩ := H
    replace H : ((bits_LeadingZeros64.f t239).bind fun t241 => (if 0 ≤ (IntKind.u64.wrap (t241)) then (if (Go.bits .and .i64 (wrap64 (t240 - t241)) 1) = 1 then (ff_sqrt.j0 k ((shl .u64 t239 (IntKind.u64.wrap (t241))) / 2) (wrap64 ((wrap64 (t240 - t241)) + 1)) a0_0 a0_1) else (ff_sqrt.j0 k (shl .u64 t239 (IntKind.u64.wrap (t241))) (wrap64 (t240 - t241)) a0_0 a0_1)) else (none))) = some r := H
    have A27 := As0.mk A270
    clear A270
    replace H := zob H
    obtain ⟨t241, A280, H⟩ := H
    replace H : (if 0 ≤ (IntKind.u64.wrap (t241)) then (if (Go.bits .and .i64 (wrap64 (t240 - t241)) 1) = 1 then (ff_sqrt.j0 k ((shl .u64 t239 (IntKind.u64.wrap (t241))) / 2) (wrap64 ((wrap64 (t240 - t241)) + 1)) a0_0 a0_1) else (ff_sqrt.j0 k (shl .u64 t239 (IntKind.u64.wrap (t241))) (wrap64 (t240 - t241)) a0_0 a0_1)) else (none)) = some r := H
    have A28 := As0.mk A280
    clear A280
    obtain ⟨ji29, hji29⟩ : ∃ j_ : Int, (IntKind.u64.wrap (t241)) = j_ := ⟨_, rfl⟩
    replace H : (if 0 ≤ (ji29) then (if (Go.bits .and .i64 (wrap64 (t240 - t241)) 1) = 1 then (ff_sqrt.j0 k ((shl .u64 t239 (ji29)) / 2) (wrap64 ((wrap64 (t240 - t241)) + 1)) a0_0 a0_1) else (ff_sqrt.j0 k (shl .u64 t239 (ji29)) (wrap64 (t240 - t241)) a0_0 a0_1)) else (none)) = some r := by first | (rw [hji29] at H; exact H) | (simp only [hji29] at H ⊢; exact H)
    (try rw [hji29] at A3)
    (try rw [hji29] at A8)
    (try rw [hji29] at A18)
    (try rw [hji29] at A27)
    (try rw [hji29] at A28)
    by_cases c30 : 0 ≤ (ji29)
    ·rw [if_pos c30] at H
     have c30b0 := eq_true c30
     have c30b1 : decide (0 ≤ (ji29)) = true := decide_eq_true c30
     clear c30
     obtain ⟨ji31, hji31⟩ : ∃ j_ : Int, (shl .u64 t239 (ji29)) = j_ := ⟨_, rfl⟩
     replace H : (if (Go.bits .and .i64 (wrap64 (t240 - t241)) 1) = 1 then (ff_sqrt.j0 k ((ji31) / 2) (wrap64 ((wrap64 (t240 - t241)) + 1)) a0_0 a0_1) else (ff_sqrt.j0 k ji31 (wrap64 (t240 - t241)) a0_0 a0_1)) = some r := by first | (rw [hji31] at H; exact H) | (simp only [hji31] at H ⊢; exact H)
     (try rw [hji31] at A3)
     (try rw [hji31] at A8)
     (try rw [hji31] at A18)
     (try rw [hji31] at A27)
     (try rw [hji31] at A28)
     have hji31_ : (IntKind.u64.wrap (t239 * 2 ^ min (ji29).toNat 64)) = ji31 := hji31
     have hji31z : (ji29) ≤ 64 → (IntKind.u64.wrap (t239 * 2 ^ (ji29).toNat)) = ji31 := shl_small hji31
     have HC32 := As0.mk H
     clear H
     go_enter Try.func48, Try.ntmps48
     go_upto_if 48 with (first | ((with_reducible refine gate_dst (N := 2) rfl ?_); refine box_event ?hg (N := 2) ?hd (cs := #[.int .i64 a0_0, .int .i64 a0_1]) (t := 43) ?hr ?_; (case hd => rfl); (case hg => rfl); (case hr => first | (go_simp; done) | (go_simp; rfl)); intro gb234 hg w33 hbox hb; have n0_ := As0.mk (bst (by repeat (first | (with_reducible first | exact HB.out | apply bal | apply pwB_ | apply bd1) | exact HB.out)) hb); have n1_ := As0.mk (hbox); have n2_ := As0.mk ((by rw [hg]; exact (below_size (by repeat (first | (with_reducible first | exact HB.out | apply bal | apply pwB_ | apply bd1) | exact HB.out))) : w.heap.size ≤ gb234)); have n3_ := As0.mk ((by rw [hg]; exact (below_size (by repeat (first | (with_reducible first | exact HB.out | apply bal | apply pwB_ | apply bd1) | exact HB.out))) : w.heap.size ≤ gb234)); clear HB; have HB := n0_; have BK234 := n1_; have GW234 := n2_; have GE234 := n3_; clear n0_ n1_ n2_ n3_; clear hb hbox hg; have hcz34_0 : w33.cell? ⟨gb234, 0, none⟩ = some (.int .i64 a0_0) := (bce BK234.out 0).trans rfl; have hcz34_1 : w33.cell? ⟨gb234, 1, none⟩ = some (.int .i64 a0_1) := (bce BK234.out 1).trans rfl; have hfz34_0 := bkf BK234.out 0; have hfz34_1 := bkf BK234.out 1) | ((with_reducible refine gcl (f := 40) rfl ?_); refine goesL_ (some 16) rfl rfl Try.func40 (by kernel_rfl) rfl #[.agg #[.int .i64 a0_0, .int .i64 a0_1], .int .u64 a1] rfl (by (try simp only [zmt, zmc, zmn]); first | done | rfl) ?_; (with_reducible refine (ff_size.calls a0_0 a0_1 a1 t235 _ A3.out).mono ?_); rintro e w35 ⟨rfl, hb⟩; refine ⟨_, rfl, ?_⟩; have n0_ := As0.mk (bkb (g := gb234) (o := .cells #[.int .i64 a0_0, .int .i64 a0_1] 43 (0, 0)) (by (with_reducible repeat (first | refine bkN ?_ _ | refine bkd ?_ | refine bka ?_ _)); exact BK234.out) hb); have n1_ := As0.mk (bst (by repeat (first | (with_reducible first | exact HB.out | apply bal | apply pwB_ | apply bd1 | refine bse ?_ GE234.out) | exact HB.out)) hb); clear BK234; clear HB; have BK234 := n0_; have HB := n1_; clear n0_ n1_; (try clear hb); (try clear hb2); (try clear hk); (try clear hi); have hcz36_0 : w35.cell? ⟨gb234, 0, none⟩ = some (.int .i64 a0_0) := (bce BK234.out 0).trans rfl; have hcz36_1 : w35.cell? ⟨gb234, 1, none⟩ = some (.int .i64 a0_1) := (bce BK234.out 1).trans rfl; have hfz36_0 := bkf BK234.out 0; have hfz36_1 := bkf BK234.out 1) | ((with_reducible refine gcl (f := 39) rfl ?_); refine goesL_ (some 22) rfl rfl Try.func39 (by kernel_rfl) rfl #[.agg #[.int .i64 a0_0, .int .i64 a0_1], .int .u64 a1] rfl (by (try simp only [zmt, zmc, zmn]); first | done | rfl) ?_; (with_reducible refine (ff_neg.calls a0_0 a0_1 a1 false _ A8.out).mono ?_); rintro e w37 ⟨rfl, hb⟩; refine ⟨_, rfl, ?_⟩; have n0_ := As0.mk (bkb (g := gb234) (o := .cells #[.int .i64 a0_0, .int .i64 a0_1] 43 (0, 0)) (by (with_reducible repeat (first | refine bkN ?_ _ | refine bkd ?_ | refine bka ?_ _)); exact BK234.out) hb); have n1_ := As0.mk (bst (by repeat (first | (with_reducible first | exact HB.out | apply bal | apply pwB_ | apply bd1 | refine bse ?_ GE234.out) | exact HB.out)) hb); clear BK234; clear HB; have BK234 := n0_; have HB := n1_; clear n0_ n1_; (try clear hb); (try clear hb2); (try clear hk); (try clear hi); have hcz38_0 : w37.cell? ⟨gb234, 0, none⟩ = some (.int .i64 a0_0) := (bce BK234.out 0).trans rfl; have hcz38_1 : w37.cell? ⟨gb234, 1, none⟩ = some (.int .i64 a0_1) := (bce BK234.out 1).trans rfl; have hfz38_0 := bkf BK234.out 0; have hfz38_1 := bkf BK234.out 1) | ((with_reducible refine gcl (f := 50) rfl ?_); refine goesL_ (some 28) rfl rfl Try.func50 (by kernel_rfl) rfl #[.agg #[.int .i64 a0_0, .int .i64 a0_1]] rfl (by (try simp only [zmt, zmc, zmn]); first | done | rfl) ?_; (with_reducible refine (ff_infinity.calls a0_0 a0_1 t238 _ A18.out).mono ?_); rintro e w39 ⟨rfl, hb⟩; refine ⟨_, rfl, ?_⟩; have n0_ := As0.mk (bkb (g := gb234) (o := .cells #[.int .i64 a0_0, .int .i64 a0_1] 43 (0, 0)) (by (with_reducible repeat (first | refine bkN ?_ _ | refine bkd ?_ | refine bka ?_ _)); exact BK234.out) hb); have n1_ := As0.mk (bst (by repeat (first | (with_reducible first | exact HB.out | apply bal | apply pwB_ | apply bd1 | refine bse ?_ GE234.out) | exact HB.out)) hb); clear BK234; clear HB; have BK234 := n0_; have HB := n1_; clear n0_ n1_; (try clear hb); (try clear hb2); (try clear hk); (try clear hi); have hcz40_0 : w39.cell? ⟨gb234, 0, none⟩ = some (.int .i64 a0_0) := (bce BK234.out 0).trans rfl; have hcz40_1 : w39.cell? ⟨gb234, 1, none⟩ = some (.int .i64 a0_1) := (bce BK234.out 1).trans rfl; have hfz40_0 := bkf BK234.out 0; have hfz40_1 := bkf BK234.out 1) | ((with_reducible refine gcl (f := 57) rfl ?_); refine goesL_ (some 34) rfl rfl Try.func57 (by kernel_rfl) rfl #[.agg #[.int .i64 a0_0, .int .i64 a0_1], .int .u64 a1] rfl (by (try simp only [zmt, zmc, zmn]); first | done | rfl) ?_; (with_reducible refine (ff_parts.calls a0_0 a0_1 a1 t239 t240 _ A27.out).mono ?_); rintro e w41 ⟨rfl, hb⟩; refine ⟨_, rfl, ?_⟩; have n0_ := As0.mk (bkb (g := gb234) (o := .cells #[.int .i64 a0_0, .int .i64 a0_1] 43 (0, 0)) (by (with_reducible repeat (first | refine bkN ?_ _ | refine bkd ?_ | refine bka ?_ _)); exact BK234.out) hb); have n1_ := As0.mk (bst (by repeat (first | (with_reducible first | exact HB.out | apply bal | apply pwB_ | apply bd1 | refine bse ?_ GE234.out) | exact HB.out)) hb); clear BK234; clear HB; have BK234 := n0_; have HB := n1_; clear n0_ n1_; (try clear hb); (try clear hb2); (try clear hk); (try clear hi)) | ((with_reducible refine gcl (f := 67) rfl ?_); refine goesL_ (some 38) rfl rfl Try.func67 (by kernel_rfl) rfl #[.int .u64 t239] rfl (by (try simp only [zmt, zmc, zmn]); first | done | rfl) ?_; (with_reducible refine (bits_LeadingZeros64.calls t239 t241 _ A28.out).mono ?_); rintro e w' ⟨rfl, ⟨nd, rfl⟩⟩; refine ⟨_, rfl, ?_⟩))
     (try simp only [Act.put, zsi, zcz, zcs])
     go_cut [5, 6] (fun v5 v6 wc => ∃ (kq : Nat) (x5_31 : Int) (x6_31 : Int), v5 = .int .u64 x5_31 ∧ v6 = .int .i64 x6_31 ∧ As0 (ff_sqrt.j0 kq x5_31 x6_31 a0_0 a0_1 = some r) ∧ As0 (kq ≤ k) ∧ As0 (wc.heap[gb234]? = some (.cells #[.int .i64 a0_0, .int .i64 a0_1] 43 (0, 0))) ∧ As0 (Below w.heap.size w wc))
     case first =>
      have H := HC32.out
      clear HC32
      by_cases c42 : (Go.bits .and .i64 (wrap64 (t240 - t241)) 1) = 1
      ·rw [if_pos c42] at H
       have c42b0 : ((Go.bits .and .i64 (wrap64 (t240 - t241)) 1) == 1) = true := beq_iff_eq.mpr c42
       have c42b1 : ((Go.bits .and .i64 (wrap64 (t240 - t241)) 1) != 1) = false := bne_eq_false_iff_eq.mpr c42
       clear c42
       (first | rw [c42b0] | (simp only [i64_w, i32_w]; rw [c42b0]) | skip)
       have H' := As0.mk H
       clear H
       go_wp2
       go_meet
       case rel => exact ⟨_, ((ji31) / 2), (wrap64 ((wrap64 (t240 - t241)) + 1)), (by first | rfl | (simp; done) | (simp only [← hji31] <;> (first | rfl | simp)) | (simp [*]; done)), (by first | rfl | (simp; done) | (simp [*]; done)), H', ⟨by first | omega | exact Nat.le_refl _⟩, ⟨by (with_reducible repeat (first | refine bkN ?_ _ | refine bkd ?_ | refine bka ?_ _)); exact BK234.out⟩, ⟨by repeat (first | (with_reducible first | exact HB.out | apply bal | apply pwB_ | apply bd1 | refine bse ?_ GE234.out) | exact HB.out)⟩⟩
      ·rw [if_neg c42] at H
       have c42b0 : ((Go.bits .and .i64 (wrap64 (t240 - t241)) 1) == 1) = false := beq_eq_false_iff_ne.mpr c42
       have c42b1 : ((Go.bits .and .i64 (wrap64 (t240 - t241)) 1) != 1) = true := bne_iff_ne.mpr c42
       (first | rw [c42b0] | (simp only [i64_w, i32_w]; rw [c42b0]) | skip)
       have H' := As0.mk H
       clear H
       go_wp2
       go_meet
       case rel => exact ⟨_, (ji31), (wrap64 (t240 - t241)), (by first | rfl | (simp; done) | (simp only [← hji31] <;> (first | rfl | simp)) | (simp [*]; done)), (by first | rfl | (simp; done) | (simp [*]; done)), H', ⟨by first | omega | exact Nat.le_refl _⟩, ⟨by (with_reducible repeat (first | refine bkN ?_ _ | refine bkd ?_ | refine bka ?_ _)); exact BK234.out⟩, ⟨by repeat (first | (with_reducible first | exact HB.out | apply bal | apply pwB_ | apply bd1 | refine bse ?_ GE234.out) | exact HB.out)⟩⟩
     case rest =>
      clear HC32
      try clear c1
      try clear p2
      try clear c3
      try clear c4
      try clear c4b0
      try clear c4b1
      try clear c5
      try clear c6
      try clear p6
      try clear c9
      try clear c19
      try clear c19b0
      try clear c19b1
      try clear c30
      try clear c30b0
      try clear c30b1
      try clear c39
      try clear c40
      try clear c42
      try clear c42b0
      try clear c42b1
      try clear hcz12_0
      try clear hcz12_1
      try clear hcz14_0
      try clear hcz14_1
      try clear hcz16_0
      try clear hcz16_1
      try clear hcz21_0
      try clear hcz21_1
      try clear hcz23_0
      try clear hcz23_1
      try clear hcz25_0
      try clear hcz25_1
      try clear hcz34_0
      try clear hcz34_1
      try clear hcz36_0
      try clear hcz36_1
      try clear hcz38_0
      try clear hcz38_1
      try clear hcz40_0
      try clear hcz40_1
      try clear hcz6_0
      try clear hcz6_1
      try clear hfz12_0
      try clear hfz12_1
      try clear hfz14_0
      try clear hfz14_1
      try clear hfz16_0
      try clear hfz16_1
      try clear hfz21_0
      try clear hfz21_1
      try clear hfz23_0
      try clear hfz23_1
      try clear hfz25_0
      try clear hfz25_1
      try clear hfz34_0
      try clear hfz34_1
      try clear hfz36_0
      try clear hfz36_1
      try clear hfz38_0
      try clear hfz38_1
      try clear hfz40_0
      try clear hfz40_1
      try clear hfz6_0
      try clear hfz6_1
      obtain ⟨kq, x5_31, x6_31, rfl, rfl, HA, HJ31, BK234, HB⟩ := hcut
      cases kq with
      | zero => exact absurd HA.out (by simp [ff_sqrt.j0])
      | succ kj31 =>
       have H := HA.out
       clear HA
       simp only [ff_sqrt.j0] at H
       have H' := As0.mk H
       clear H
       go_wp2
       go_loopg [8, 9, 53] kj31 (fun kq v8 v9 v53 w' => ∃ (x8_2 : Int) (x9_2 : Int) (x53_2 : Int), v8 = .int .u64 x8_2 ∧ v9 = .int .u64 x9_2 ∧ v53 = .int .i64 x53_2 ∧ As0 (ff_sqrt.l0 kq x5_31 x6_31 x8_2 x9_2 x53_2 a0_0 a0_1 = some r) ∧ As0 (kq ≤ kj31) ∧ As0 (w'.heap[gb234]? = some (.cells #[.int .i64 a0_0, .int .i64 a0_1] 43 (0, 0))) ∧ As0 (Below w.heap.size w w'))
       case atStart => exact ⟨(0), (0), (0), (by first | rfl | (simp; done) | (simp [*]; done)), (by first | rfl | (simp; done) | (simp [*]; done)), (by first | rfl | (simp; done) | (simp [*]; done)), H', ⟨Nat.le_refl _⟩, ⟨by (with_reducible repeat (first | refine bkN ?_ _ | refine bkd ?_ | refine bka ?_ _)); exact BK234.out⟩, ⟨by repeat (first | (with_reducible first | exact HB.out | apply bal | apply pwB_ | apply bd1 | refine bse ?_ GE234.out) | exact HB.out)⟩⟩
       case round =>
        clear H'
        try clear c1
        try clear p2
        try clear c3
        try clear c4
        try clear c4b0
        try clear c4b1
        try clear c5
        try clear c6
        try clear p6
        try clear c9
        try clear c19
        try clear c19b0
        try clear c19b1
        try clear c30
        try clear c30b0
        try clear c30b1
        try clear c39
        try clear c40
        try clear c42
        try clear c42b0
        try clear c42b1
        try clear hcz12_0
        try clear hcz12_1
        try clear hcz14_0
        try clear hcz14_1
        try clear hcz16_0
        try clear hcz16_1
        try clear hcz21_0
        try clear hcz21_1
        try clear hcz23_0
        try clear hcz23_1
        try clear hcz25_0
        try clear hcz25_1
        try clear hcz34_0
        try clear hcz34_1
        try clear hcz36_0
        try clear hcz36_1
        try clear hcz38_0
        try clear hcz38_1
        try clear hcz40_0
        try clear hcz40_1
        try clear hcz6_0
        try clear hcz6_1
        try clear hfz12_0
        try clear hfz12_1
        try clear hfz14_0
        try clear hfz14_1
        try clear hfz16_0
        try clear hfz16_1
        try clear hfz21_0
        try clear hfz21_1
        try clear hfz23_0
        try clear hfz23_1
        try clear hfz25_0
        try clear hfz25_1
        try clear hfz34_0
        try clear hfz34_1
        try clear hfz36_0
        try clear hfz36_1
        try clear hfz38_0
        try clear hfz38_1
        try clear hfz40_0
        try clear hfz40_1
        try clear hfz6_0
        try clear hfz6_1
        try clear p2
        try clear p6
        obtain ⟨x8_2, x9_2, x53_2, rfl, rfl, rfl, HA, HK2, BK234, HB⟩ := hrel
        cases gk with
        | zero => exact absurd HA.out (by simp [ff_sqrt.l0])
        | succ k2 =>
         have H := HA.out
         clear HA
         simp only [ff_sqrt.l0] at H
         by_cases c43 : x53_2 < 64
         ·rw [if_pos c43] at H
          have c43b0 : decide (x53_2 < 64) = true := decide_eq_true c43
          clear c43
          have HC44 := As0.mk H
          clear H
          go_upto_if 57 with (fail)
          go_cut [11] (fun v11 wc => ∃ (kq : Nat) (x11_43 : Int), v11 = .int .u64 x11_43 ∧ As0 (ff_sqrt.j2 kq x5_31 x6_31 x8_2 x9_2 x53_2 x11_43 x53_2 a0_0 a0_1 = some r) ∧ As0 (kq ≤ k2) ∧ As0 (wc.heap[gb234]? = some (.cells #[.int .i64 a0_0, .int .i64 a0_1] 43 (0, 0))) ∧ As0 (Below w.heap.size w wc))
          case first =>
           have H := HC44.out
           clear HC44
           by_cases c45 : x53_2 < 32
           ·rw [if_pos c45] at H
            have c45b0 : decide (x53_2 < 32) = true := decide_eq_true c45
            clear c45
            (first | rw [c45b0] | (simp only [i64_w, i32_w]; rw [c45b0]) | skip)
            obtain ⟨ji46, hji46⟩ : ∃ j_ : Int, (IntKind.u64.wrap (wrap64 (62 - (wrap64 (2 * x53_2))))) = j_ := ⟨_, rfl⟩
            replace H : (if 0 ≤ (ji46) then (ff_sqrt.j2 k2 x5_31 x6_31 x8_2 x9_2 x53_2 (Go.bits .and .u64 (shr .u64 x5_31 (ji46)) 3) x53_2 a0_0 a0_1) else (none)) = some r := by first | (rw [hji46] at H; exact H) | (simp only [hji46] at H ⊢; exact H)
            by_cases c47 : 0 ≤ (ji46)
            ·rw [if_pos c47] at H
             have c47b0 := eq_true c47
             have c47b1 : decide (0 ≤ (ji46)) = true := decide_eq_true c47
             clear c47
             obtain ⟨ji48, hji48⟩ : ∃ j_ : Int, (shr .u64 x5_31 (ji46)) = j_ := ⟨_, rfl⟩
             replace H : (ff_sqrt.j2 k2 x5_31 x6_31 x8_2 x9_2 x53_2 (Go.bits .and .u64 (ji48) 3) x53_2 a0_0 a0_1) = some r := by first | (rw [hji48] at H; exact H) | (simp only [hji48] at H ⊢; exact H)
             have hji48_ : (x5_31 / 2 ^ min (ji46).toNat 64) = ji48 := hji48
             have hji48z : (ji46) ≤ 64 → (x5_31 / 2 ^ (ji46).toNat) = ji48 := shr_small hji48
             have H' := As0.mk H
             clear H
             go_wp2
             go_meet
             case rel => exact ⟨_, (Go.bits .and .u64 (ji48) 3), (by first | rfl | (simp; done) | (simp only [← hji48] <;> (first | rfl | simp)) | (simp [*]; done)), H', ⟨by have := HJ31.out; have := HK2.out; first | omega | exact Nat.le_refl _⟩, ⟨by (with_reducible repeat (first | refine bkN ?_ _ | refine bkd ?_ | refine bka ?_ _)); exact BK234.out⟩, ⟨by repeat (first | (with_reducible first | exact HB.out | apply bal | apply pwB_ | apply bd1 | refine bse ?_ GE234.out) | exact HB.out)⟩⟩
            ·rw [if_neg c47] at H
             exact absurd H (by simp)
           ·rw [if_neg c45] at H
            have c45b0 : decide (x53_2 < 32) = false := decide_eq_false c45
            clear c45
            (first | rw [c45b0] | (simp only [i64_w, i32_w]; rw [c45b0]) | skip)
            have H' := As0.mk H
            clear H
            go_wp2
            go_meet
            case rel => exact ⟨_, (0), (by first | rfl | (simp; done) | (simp [*]; done)), H', ⟨by have := HJ31.out; have := HK2.out; first | omega | exact Nat.le_refl _⟩, ⟨by (with_reducible repeat (first | refine bkN ?_ _ | refine bkd ?_ | refine bka ?_ _)); exact BK234.out⟩, ⟨by repeat (first | (with_reducible first | exact HB.out | apply bal | apply pwB_ | apply bd1 | refine bse ?_ GE234.out) | exact HB.out)⟩⟩
          case rest =>
           clear HC44
           try clear c1
           try clear p2
           try clear c3
           try clear c4
           try clear c4b0
           try clear c4b1
           try clear c5
           try clear c6
           try clear p6
           try clear c9
           try clear c19
           try clear c19b0
           try clear c19b1
           try clear c30
           try clear c30b0
           try clear c30b1
           try clear c39
           try clear c40
           try clear c42
           try clear c42b0
           try clear c42b1
           try clear c43
           try clear c43b0
           try clear c45
           try clear c45b0
           try clear c47
           try clear c47b0
           try clear c47b1
           try clear c48
           try clear hcz12_0
           try clear hcz12_1
           try clear hcz14_0
           try clear hcz14_1
           try clear hcz16_0
           try clear hcz16_1
           try clear hcz21_0
           try clear hcz21_1
           try clear hcz23_0
           try clear hcz23_1
           try clear hcz25_0
           try clear hcz25_1
           try clear hcz34_0
           try clear hcz34_1
           try clear hcz36_0
           try clear hcz36_1
           try clear hcz38_0
           try clear hcz38_1
           try clear hcz40_0
           try clear hcz40_1
           try clear hcz6_0
           try clear hcz6_1
           try clear hfz12_0
           try clear hfz12_1
           try clear hfz14_0
           try clear hfz14_1
           try clear hfz16_0
           try clear hfz16_1
           try clear hfz21_0
           try clear hfz21_1
           try clear hfz23_0
           try clear hfz23_1
           try clear hfz25_0
           try clear hfz25_1
           try clear hfz34_0
           try clear hfz34_1
           try clear hfz36_0
           try clear hfz36_1
           try clear hfz38_0
           try clear hfz38_1
           try clear hfz40_0
           try clear hfz40_1
           try clear hfz6_0
           try clear hfz6_1
           try clear p2
           try clear p6
           obtain ⟨kq, x11_43, rfl, HA, HJ43, BK234, HB⟩ := hcut
           cases kq with
           | zero => exact absurd HA.out (by simp [ff_sqrt.j2])
           | succ kj43 =>
            have H := HA.out
            clear HA
            simp only [ff_sqrt.j2] at H
            by_cases c49 : x53_2 = 62
            ·rw [if_pos c49] at H
             have c49b0 : (x53_2 == 62) = true := beq_iff_eq.mpr c49
             have c49b1 : (x53_2 != 62) = false := bne_eq_false_iff_eq.mpr c49
             clear c49
             replace H := zob H
             obtain ⟨t243, A500, H⟩ := H
             replace H : (some t243) = some r := H
             have A50 := As0.mk A500
             clear A500
             obtain rfl := Option.some.inj H
             have hcz51_0 : wc.cell? ⟨gb234, 0, none⟩ = some (.int .i64 a0_0) := (bce BK234.out 0).trans rfl
             have hcz51_1 : wc.cell? ⟨gb234, 1, none⟩ = some (.int .i64 a0_1) := (bce BK234.out 1).trans rfl
             have hfz51_0 := bkf BK234.out 0
             have hfz51_1 := bkf BK234.out 1
             go_wp2_with (first | ((with_reducible refine gcl (f := 33) rfl ?_); refine goesL_ (some 92) rfl rfl Try.func33 (by kernel_rfl) rfl #[.agg #[.int .i64 a0_0, .int .i64 a0_1], .bool false, .int .u64 x8_2, .int .i64 (wrap64 (Int.tdiv (wrap64 (x6_31 - 60)) 2)), .bool (x9_2 != 0)] rfl (by (try simp only [zmt, zmc, zmn]); first | done | rfl) ?_; (with_reducible refine (ff_round.calls kj43 a0_0 a0_1 false x8_2 (wrap64 (Int.tdiv (wrap64 (x6_31 - 60)) 2)) (x9_2 != 0) t243 _ A50.out).mono ?_); rintro e w52 ⟨rfl, hb⟩; refine ⟨_, rfl, ?_⟩; have n0_ := As0.mk (bkb (g := gb234) (o := .cells #[.int .i64 a0_0, .int .i64 a0_1] 43 (0, 0)) (by (with_reducible repeat (first | refine bkN ?_ _ | refine bkd ?_ | refine bka ?_ _)); exact BK234.out) hb); have n1_ := As0.mk (bst (by repeat (first | (with_reducible first | exact HB.out | apply bal | apply pwB_ | apply bd1 | refine bse ?_ GE234.out) | exact HB.out)) hb); clear BK234; clear HB; have BK234 := n0_; have HB := n1_; clear n0_ n1_; (try clear hb); (try clear hb2); (try clear hk); (try clear hi)))
             go_ret
             exact ⟨by first | rfl | (simp only [← hji29, ← hji31]; first | rfl) | (simp [*] <;> rfl), by repeat (first | (with_reducible first | exact HB.out | apply bal | apply pwB_ | apply bd1 | refine bse ?_ GE234.out) | exact HB.out)⟩
            ·rw [if_neg c49] at H
             have c49b0 : (x53_2 == 62) = false := beq_eq_false_iff_ne.mpr c49
             have c49b1 : (x53_2 != 62) = true := bne_iff_ne.mpr c49
             by_cases c53 : (Go.bits .or .u64 (IntKind.u64.wrap (x9_2 * 4)) x11_43) ≥ (Go.bits .or .u64 (IntKind.u64.wrap (x8_2 * 4)) 1)
             ·rw [if_pos c53] at H
              have c53b0 : decide ((Go.bits .or .u64 (IntKind.u64.wrap (x8_2 * 4)) 1) ≤ (Go.bits .or .u64 (IntKind.u64.wrap (x9_2 * 4)) x11_43)) = true := decide_eq_true c53
              clear c53
              have H' := As0.mk H
              clear H
              go_wp2
              go_roundg kj43
              case measure => have := HJ31.out; have := HK2.out; have := HJ43.out; omega
              case rel => exact ⟨(Go.bits .or .u64 (IntKind.u64.wrap (x8_2 * 2)) 1), (IntKind.u64.wrap ((Go.bits .or .u64 (IntKind.u64.wrap (x9_2 * 4)) x11_43) - (Go.bits .or .u64 (IntKind.u64.wrap (x8_2 * 4)) 1))), (wrap64 (x53_2 + 1)), (by first | rfl | (simp; done) | (simp [*]; done)), (by first | rfl | (simp; done) | (simp [*]; done)), (by first | rfl | (simp; done) | (simp [*]; done)), H', ⟨by have := HJ31.out; have := HK2.out; have := HJ43.out; omega⟩, ⟨by (with_reducible repeat (first | refine bkN ?_ _ | refine bkd ?_ | refine bka ?_ _)); exact BK234.out⟩, ⟨by repeat (first | (with_reducible first | exact HB.out | apply bal | apply pwB_ | apply bd1 | refine bse ?_ GE234.out) | exact HB.out)⟩⟩
             ·rw [if_neg c53] at H
              have c53b0 : decide ((Go.bits .or .u64 (IntKind.u64.wrap (x8_2 * 4)) 1) ≤ (Go.bits .or .u64 (IntKind.u64.wrap (x9_2 * 4)) x11_43)) = false := decide_eq_false c53
              clear c53
              have H' := As0.mk H
              clear H
              go_wp2
              go_roundg kj43
              case measure => have := HJ31.out; have := HK2.out; have := HJ43.out; omega
              case rel => exact ⟨(IntKind.u64.wrap (x8_2 * 2)), (Go.bits .or .u64 (IntKind.u64.wrap (x9_2 * 4)) x11_43), (wrap64 (x53_2 + 1)), (by first | rfl | (simp; done) | (simp [*]; done)), (by first | rfl | (simp; done) | (simp [*]; done)), (by first | rfl | (simp; done) | (simp [*]; done)), H', ⟨by have := HJ31.out; have := HK2.out; have := HJ43.out; omega⟩, ⟨by (with_reducible repeat (first | refine bkN ?_ _ | refine bkd ?_ | refine bka ?_ _)); exact BK234.out⟩, ⟨by repeat (first | (with_reducible first | exact HB.out | apply bal | apply pwB_ | apply bd1 | refine bse ?_ GE234.out) | exact HB.out)⟩⟩
         ·rw [if_neg c43] at H
          have c43b0 : decide (x53_2 < 64) = false := decide_eq_false c43
          clear c43
          replace H := zob H
          obtain ⟨t242, A540, H⟩ := H
          replace H : (some t242) = some r := H
          have A54 := As0.mk A540
          clear A540
          obtain rfl := Option.some.inj H
          have hcz55_0 : wr.cell? ⟨gb234, 0, none⟩ = some (.int .i64 a0_0) := (bce BK234.out 0).trans rfl
          have hcz55_1 : wr.cell? ⟨gb234, 1, none⟩ = some (.int .i64 a0_1) := (bce BK234.out 1).trans rfl
          have hfz55_0 := bkf BK234.out 0
          have hfz55_1 := bkf BK234.out 1
          go_wp2_with (first | ((with_reducible refine gcl (f := 33) rfl ?_); refine goesL_ (some 92) rfl rfl Try.func33 (by kernel_rfl) rfl #[.agg #[.int .i64 a0_0, .int .i64 a0_1], .bool false, .int .u64 x8_2, .int .i64 (wrap64 (Int.tdiv (wrap64 (x6_31 - 60)) 2)), .bool (x9_2 != 0)] rfl (by (try simp only [zmt, zmc, zmn]); first | done | rfl) ?_; (with_reducible refine (ff_round.calls k2 a0_0 a0_1 false x8_2 (wrap64 (Int.tdiv (wrap64 (x6_31 - 60)) 2)) (x9_2 != 0) t242 _ A54.out).mono ?_); rintro e w56 ⟨rfl, hb⟩; refine ⟨_, rfl, ?_⟩; have n0_ := As0.mk (bkb (g := gb234) (o := .cells #[.int .i64 a0_0, .int .i64 a0_1] 43 (0, 0)) (by (with_reducible repeat (first | refine bkN ?_ _ | refine bkd ?_ | refine bka ?_ _)); exact BK234.out) hb); have n1_ := As0.mk (bst (by repeat (first | (with_reducible first | exact HB.out | apply bal | apply pwB_ | apply bd1 | refine bse ?_ GE234.out) | exact HB.out)) hb); clear BK234; clear HB; have BK234 := n0_; have HB := n1_; clear n0_ n1_; (try clear hb); (try clear hb2); (try clear hk); (try clear hi)))
          go_ret
          exact ⟨by first | rfl | (simp only [← hji29, ← hji31]; first | rfl) | (simp [*] <;> rfl), by repeat (first | (with_reducible first | exact HB.out | apply bal | apply pwB_ | apply bd1 | refine bse ?_ GE234.out) | exact HB.out)⟩
    ·rw [if_neg c30] at H
     exact absurd H (by simp)
end Go.Proofs.Ytjfmomogidgbpaa.PFl
