-- Written by the kit's print.py for this claim, called with several roots by this session's own script (print-roots.sh)
import Derived.Test.YtajmjmnlapplaaaDoorPInox0
namespace Go.Proofs.YtajmjmnlapplaaaDoor.PIno
open Go.RowKit Go.Proofs.YtajmjmnlapplaaaDoor.PInts Go.Proofs.YtajmjmnlapplaaaDoorW.PrintWords Go.Proofs.YtajmjmnlapplaaaDoorW.PrintLast Go.Proofs.YtajmjmnlapplaaaDoorW.PrintMore
attribute [local go_sem] max2_int min2_int max_two min_two max_three min_three max_four min_four   -- for this text's walks alone
set_option linter.unusedVariables false
set_option linter.unusedSimpArgs false

/-! ### bodkinref02_Un: function 21 -/
mutual
def bodkinref02_Un.j0 : Nat → Int → Int → Int → Bool → Option (Int × Int)
  | 0, _, _, _, _ => none
  | k + 1, x0, x1, x2, x51 => if x51 = true then (some (0, 1)) else ((bodkinref02_Cut.f k x0 x2).bind fun t102 => ((bodkinref02_list.f k x0 t102).bind fun t103 => (if x1 = 1 then (bodkinref02_Un.l0 k t103 0 (wrap64 (x0 - 1))) else (if x1 = 2 then (bodkinref02_Un.l1 k x0 t103 0 0) else (if x1 = 3 then (bodkinref02_Un.l2 k x0 t103 0 0) else (if x1 = 4 then (bodkinref02_Un.j4 k x0 x1 t102 t103 x1 (x1 == 4)) else (if x1 = 5 then (bodkinref02_Un.j4 k x0 x1 t102 t103 x1 (x1 == 5)) else (bodkinref02_Un.j4 k x0 x1 t102 t103 x1 (x1 == 6)))))))))
def bodkinref02_Un.l0 : Nat → List Int → Int → Int → Option (Int × Int)
  | 0, _, _, _ => none
  | k + 1, x9, x10, x11 => if x11 ≥ 0 then (if 0 ≤ x11 then (if x11 < (x9.length : Int) then (if (rd x9 x11) = 0 then (bodkinref02_Un.l0 k x9 (IntKind.u64.wrap (x10 + 1)) (wrap64 (x11 - 1))) else (some (x10, 0))) else (none)) else (none)) else (some (x10, 0))
def bodkinref02_Un.l1 : Nat → Int → List Int → Int → Int → Option (Int × Int)
  | 0, _, _, _, _ => none
  | k + 1, x0, x9, x10, x12 => if x12 < x0 then (if 0 ≤ x12 then (if x12 < (x9.length : Int) then (if (rd x9 x12) = 0 then (bodkinref02_Un.l1 k x0 x9 (IntKind.u64.wrap (x10 + 1)) (wrap64 (x12 + 1))) else (some (x10, 0))) else (none)) else (none)) else (some (x10, 0))
def bodkinref02_Un.l2 : Nat → Int → List Int → Int → Int → Option (Int × Int)
  | 0, _, _, _, _ => none
  | k + 1, x0, x9, x10, x13 => if x13 < x0 then (if 0 ≤ x13 then (if x13 < (x9.length : Int) then (bodkinref02_Un.l2 k x0 x9 (IntKind.u64.wrap (x10 + (rd x9 x13))) (wrap64 (x13 + 1))) else (none)) else (none)) else (some (x10, 0))
def bodkinref02_Un.j4 : Nat → Int → Int → Int → List Int → Int → Bool → Option (Int × Int)
  | 0, _, _, _, _, _, _ => none
  | k + 1, x0, x1, x2, x9, x58, x108 => if x108 = true then ((some (([8, 16, 32] : List Int) : List Int)).bind fun y109 => (if 0 ≤ (wrap64 (x1 - 4)) then (if (wrap64 (x1 - 4)) < (y109.length : Int) then (bodkinref02_Un.l3 k x0 x9 (rd y109 (wrap64 (x1 - 4))) (rd y109 (wrap64 (x1 - 4)))) else (none)) else (none))) else (if x58 = 7 then (if 0 ≤ (wrap64 (x0 - 1)) then (if (wrap64 (x0 - 1)) < (x9.length : Int) then (if (rd x9 (wrap64 (x0 - 1))) = 0 then (some (x2, 0)) else ((bodkinref02_Cut.f k x0 (IntKind.u64.wrap (-x2))).bind fun t117 => (some (t117, 0)))) else (none)) else (none)) else ((bodkinref02_Cut.f k x0 (IntKind.u64.wrap (-x2))).bind fun t118 => (some (t118, 0))))
def bodkinref02_Un.l3 : Nat → Int → List Int → Int → Int → Option (Int × Int)
  | 0, _, _, _, _ => none
  | k + 1, x0, x9, x14, x15 => if x15 < x0 then (if 0 ≤ (wrap64 (x14 - 1)) then (if (wrap64 (x14 - 1)) < (x9.length : Int) then (if 0 ≤ x15 then (if x15 < (x9.length : Int) then (bodkinref02_Un.l3 k x0 (x9.set (x15 : Int).toNat (rd x9 (wrap64 (x14 - 1)))) x14 (wrap64 (x15 + 1))) else (none)) else (none)) else (none)) else (none)) else ((bodkinref02_of.f k x9).bind fun t115 => (some (t115, 0)))
end
def bodkinref02_Un.f (k : Nat) (a0 : Int) (a1 : Int) (a2 : Int) : Option (Int × Int) := (bodkinref02_Right.f a0).bind fun t101 => (if t101 = true then (if a1 < 1 then (bodkinref02_Un.j0 k a0 a1 a2 true) else (if a1 > 8 then (bodkinref02_Un.j0 k a0 a1 a2 true) else (if a1 = 4 then (if a0 ≤ 8 then (bodkinref02_Un.j0 k a0 a1 a2 true) else (if a1 = 5 then (if a0 ≤ 16 then (bodkinref02_Un.j0 k a0 a1 a2 true) else (if a1 = 6 then (bodkinref02_Un.j0 k a0 a1 a2 (decide (a0 ≤ 32))) else (bodkinref02_Un.j0 k a0 a1 a2 false))) else (if a1 = 6 then (bodkinref02_Un.j0 k a0 a1 a2 (decide (a0 ≤ 32))) else (bodkinref02_Un.j0 k a0 a1 a2 false)))) else (if a1 = 5 then (if a0 ≤ 16 then (bodkinref02_Un.j0 k a0 a1 a2 true) else (if a1 = 6 then (bodkinref02_Un.j0 k a0 a1 a2 (decide (a0 ≤ 32))) else (bodkinref02_Un.j0 k a0 a1 a2 false))) else (if a1 = 6 then (bodkinref02_Un.j0 k a0 a1 a2 (decide (a0 ≤ 32))) else (bodkinref02_Un.j0 k a0 a1 a2 false)))))) else (bodkinref02_Un.j0 k a0 a1 a2 true))
theorem bodkinref02_Un.mono_l : ∀ k, (∀ y0 y1 y2 y3, LeO (bodkinref02_Un.j0 k y0 y1 y2 y3) (bodkinref02_Un.j0 (k + 1) y0 y1 y2 y3)) ∧ (∀ y0 y1 y2, LeO (bodkinref02_Un.l0 k y0 y1 y2) (bodkinref02_Un.l0 (k + 1) y0 y1 y2)) ∧ (∀ y0 y1 y2 y3, LeO (bodkinref02_Un.l1 k y0 y1 y2 y3) (bodkinref02_Un.l1 (k + 1) y0 y1 y2 y3)) ∧ (∀ y0 y1 y2 y3, LeO (bodkinref02_Un.l2 k y0 y1 y2 y3) (bodkinref02_Un.l2 (k + 1) y0 y1 y2 y3)) ∧ (∀ y0 y1 y2 y3 y4 y5, LeO (bodkinref02_Un.j4 k y0 y1 y2 y3 y4 y5) (bodkinref02_Un.j4 (k + 1) y0 y1 y2 y3 y4 y5)) ∧ (∀ y0 y1 y2 y3, LeO (bodkinref02_Un.l3 k y0 y1 y2 y3) (bodkinref02_Un.l3 (k + 1) y0 y1 y2 y3)) := by
  intro k
  induction k with
  | zero => exact ⟨fun _ _ _ _ r h => by simp [bodkinref02_Un.j0] at h, fun _ _ _ r h => by simp [bodkinref02_Un.l0] at h, fun _ _ _ _ r h => by simp [bodkinref02_Un.l1] at h, fun _ _ _ _ r h => by simp [bodkinref02_Un.l2] at h, fun _ _ _ _ _ _ r h => by simp [bodkinref02_Un.j4] at h, fun _ _ _ _ r h => by simp [bodkinref02_Un.l3] at h⟩
  | succ k ih =>
    obtain ⟨ih0, ih1, ih2, ih3, ih4, ih5⟩ := ih
    refine ⟨?_, ?_, ?_, ?_, ?_, ?_⟩
    · intro y0 y1 y2 y3
      unfold bodkinref02_Un.j0
      repeat' first
      | (with_reducible exact ih0 _ _ _ _)
      | (with_reducible exact ih1 _ _ _)
      | (with_reducible exact ih2 _ _ _ _)
      | (with_reducible exact ih3 _ _ _ _)
      | (with_reducible exact ih4 _ _ _ _ _ _)
      | (with_reducible exact ih5 _ _ _ _)
      | (with_reducible exact bodkinref02_Cut.mono _ _ _)
      | (with_reducible exact bodkinref02_list.mono _ _ _)
      | (with_reducible exact bodkinref02_of.mono _ _)
      | (with_reducible exact LeO.refl _)
      | (with_reducible exact LeO.none _)
      | (with_reducible refine LeO.ite ?_ ?_)
      | (with_reducible refine LeO.bind ?_ (fun _ => ?_))
      | exact ih0 _ _ _ _
      | exact ih1 _ _ _
      | exact ih2 _ _ _ _
      | exact ih3 _ _ _ _
      | exact ih4 _ _ _ _ _ _
      | exact ih5 _ _ _ _
      | exact bodkinref02_Cut.mono _ _ _
      | exact bodkinref02_list.mono _ _ _
      | exact bodkinref02_of.mono _ _
      | exact LeO.none _
      | refine LeO.ite ?_ ?_
      | refine LeO.bind ?_ (fun _ => ?_)
    · intro y0 y1 y2
      unfold bodkinref02_Un.l0
      repeat' first
      | (with_reducible exact ih0 _ _ _ _)
      | (with_reducible exact ih1 _ _ _)
      | (with_reducible exact ih2 _ _ _ _)
      | (with_reducible exact ih3 _ _ _ _)
      | (with_reducible exact ih4 _ _ _ _ _ _)
      | (with_reducible exact ih5 _ _ _ _)
      | (with_reducible exact bodkinref02_Cut.mono _ _ _)
      | (with_reducible exact bodkinref02_list.mono _ _ _)
      | (with_reducible exact bodkinref02_of.mono _ _)
      | (with_reducible exact LeO.refl _)
      | (with_reducible exact LeO.none _)
      | (with_reducible refine LeO.ite ?_ ?_)
      | (with_reducible refine LeO.bind ?_ (fun _ => ?_))
      | exact ih0 _ _ _ _
      | exact ih1 _ _ _
      | exact ih2 _ _ _ _
      | exact ih3 _ _ _ _
      | exact ih4 _ _ _ _ _ _
      | exact ih5 _ _ _ _
      | exact bodkinref02_Cut.mono _ _ _
      | exact bodkinref02_list.mono _ _ _
      | exact bodkinref02_of.mono _ _
      | exact LeO.none _
      | refine LeO.ite ?_ ?_
      | refine LeO.bind ?_ (fun _ => ?_)
    · intro y0 y1 y2 y3
      unfold bodkinref02_Un.l1
      repeat' first
      | (with_reducible exact ih0 _ _ _ _)
      | (with_reducible exact ih1 _ _ _)
      | (with_reducible exact ih2 _ _ _ _)
      | (with_reducible exact ih3 _ _ _ _)
      | (with_reducible exact ih4 _ _ _ _ _ _)
      | (with_reducible exact ih5 _ _ _ _)
      | (with_reducible exact bodkinref02_Cut.mono _ _ _)
      | (with_reducible exact bodkinref02_list.mono _ _ _)
      | (with_reducible exact bodkinref02_of.mono _ _)
      | (with_reducible exact LeO.refl _)
      | (with_reducible exact LeO.none _)
      | (with_reducible refine LeO.ite ?_ ?_)
      | (with_reducible refine LeO.bind ?_ (fun _ => ?_))
      | exact ih0 _ _ _ _
      | exact ih1 _ _ _
      | exact ih2 _ _ _ _
      | exact ih3 _ _ _ _
      | exact ih4 _ _ _ _ _ _
      | exact ih5 _ _ _ _
      | exact bodkinref02_Cut.mono _ _ _
      | exact bodkinref02_list.mono _ _ _
      | exact bodkinref02_of.mono _ _
      | exact LeO.none _
      | refine LeO.ite ?_ ?_
      | refine LeO.bind ?_ (fun _ => ?_)
    · intro y0 y1 y2 y3
      unfold bodkinref02_Un.l2
      repeat' first
      | (with_reducible exact ih0 _ _ _ _)
      | (with_reducible exact ih1 _ _ _)
      | (with_reducible exact ih2 _ _ _ _)
      | (with_reducible exact ih3 _ _ _ _)
      | (with_reducible exact ih4 _ _ _ _ _ _)
      | (with_reducible exact ih5 _ _ _ _)
      | (with_reducible exact bodkinref02_Cut.mono _ _ _)
      | (with_reducible exact bodkinref02_list.mono _ _ _)
      | (with_reducible exact bodkinref02_of.mono _ _)
      | (with_reducible exact LeO.refl _)
      | (with_reducible exact LeO.none _)
      | (with_reducible refine LeO.ite ?_ ?_)
      | (with_reducible refine LeO.bind ?_ (fun _ => ?_))
      | exact ih0 _ _ _ _
      | exact ih1 _ _ _
      | exact ih2 _ _ _ _
      | exact ih3 _ _ _ _
      | exact ih4 _ _ _ _ _ _
      | exact ih5 _ _ _ _
      | exact bodkinref02_Cut.mono _ _ _
      | exact bodkinref02_list.mono _ _ _
      | exact bodkinref02_of.mono _ _
      | exact LeO.none _
      | refine LeO.ite ?_ ?_
      | refine LeO.bind ?_ (fun _ => ?_)
    · intro y0 y1 y2 y3 y4 y5
      unfold bodkinref02_Un.j4
      repeat' first
      | (with_reducible exact ih0 _ _ _ _)
      | (with_reducible exact ih1 _ _ _)
      | (with_reducible exact ih2 _ _ _ _)
      | (with_reducible exact ih3 _ _ _ _)
      | (with_reducible exact ih4 _ _ _ _ _ _)
      | (with_reducible exact ih5 _ _ _ _)
      | (with_reducible exact bodkinref02_Cut.mono _ _ _)
      | (with_reducible exact bodkinref02_list.mono _ _ _)
      | (with_reducible exact bodkinref02_of.mono _ _)
      | (with_reducible exact LeO.refl _)
      | (with_reducible exact LeO.none _)
      | (with_reducible refine LeO.ite ?_ ?_)
      | (with_reducible refine LeO.bind ?_ (fun _ => ?_))
      | exact ih0 _ _ _ _
      | exact ih1 _ _ _
      | exact ih2 _ _ _ _
      | exact ih3 _ _ _ _
      | exact ih4 _ _ _ _ _ _
      | exact ih5 _ _ _ _
      | exact bodkinref02_Cut.mono _ _ _
      | exact bodkinref02_list.mono _ _ _
      | exact bodkinref02_of.mono _ _
      | exact LeO.none _
      | refine LeO.ite ?_ ?_
      | refine LeO.bind ?_ (fun _ => ?_)
    · intro y0 y1 y2 y3
      unfold bodkinref02_Un.l3
      repeat' first
      | (with_reducible exact ih0 _ _ _ _)
      | (with_reducible exact ih1 _ _ _)
      | (with_reducible exact ih2 _ _ _ _)
      | (with_reducible exact ih3 _ _ _ _)
      | (with_reducible exact ih4 _ _ _ _ _ _)
      | (with_reducible exact ih5 _ _ _ _)
      | (with_reducible exact bodkinref02_Cut.mono _ _ _)
      | (with_reducible exact bodkinref02_list.mono _ _ _)
      | (with_reducible exact bodkinref02_of.mono _ _)
      | (with_reducible exact LeO.refl _)
      | (with_reducible exact LeO.none _)
      | (with_reducible refine LeO.ite ?_ ?_)
      | (with_reducible refine LeO.bind ?_ (fun _ => ?_))
      | exact ih0 _ _ _ _
      | exact ih1 _ _ _
      | exact ih2 _ _ _ _
      | exact ih3 _ _ _ _
      | exact ih4 _ _ _ _ _ _
      | exact ih5 _ _ _ _
      | exact bodkinref02_Cut.mono _ _ _
      | exact bodkinref02_list.mono _ _ _
      | exact bodkinref02_of.mono _ _
      | exact LeO.none _
      | refine LeO.ite ?_ ?_
      | refine LeO.bind ?_ (fun _ => ?_)
theorem bodkinref02_Un.mono : ∀ a0 a1 a2 k, LeO (bodkinref02_Un.f k a0 a1 a2) (bodkinref02_Un.f (k + 1) a0 a1 a2) := by
  intro a0 a1 a2 k
  obtain ⟨ih0, ih1, ih2, ih3, ih4, ih5⟩ := bodkinref02_Un.mono_l k
  unfold bodkinref02_Un.f
  repeat' first
      | (with_reducible exact ih0 _ _ _ _)
      | (with_reducible exact ih1 _ _ _)
      | (with_reducible exact ih2 _ _ _ _)
      | (with_reducible exact ih3 _ _ _ _)
      | (with_reducible exact ih4 _ _ _ _ _ _)
      | (with_reducible exact ih5 _ _ _ _)
      | (with_reducible exact bodkinref02_Cut.mono _ _ _)
      | (with_reducible exact bodkinref02_list.mono _ _ _)
      | (with_reducible exact bodkinref02_of.mono _ _)
      | (with_reducible exact LeO.refl _)
      | (with_reducible exact LeO.none _)
      | (with_reducible refine LeO.ite ?_ ?_)
      | (with_reducible refine LeO.bind ?_ (fun _ => ?_))
      | exact ih0 _ _ _ _
      | exact ih1 _ _ _
      | exact ih2 _ _ _ _
      | exact ih3 _ _ _ _
      | exact ih4 _ _ _ _ _ _
      | exact ih5 _ _ _ _
      | exact bodkinref02_Cut.mono _ _ _
      | exact bodkinref02_list.mono _ _ _
      | exact bodkinref02_of.mono _ _
      | exact LeO.none _
      | refine LeO.ite ?_ ?_
      | refine LeO.bind ?_ (fun _ => ?_)
set_option maxHeartbeats 8000000 in
set_option maxRecDepth 100000 in
theorem bodkinref02_Un.calls (k : Nat) (a0 : Int) (a1 : Int) (a2 : Int) (r1 : Int) (r2 : Int) (w : World) (h : bodkinref02_Un.f k a0 a1 a2 = some (r1, r2)) :
    Calls Tryd.prog 21 #[.int .i64 a0, .int .i64 a1, .int .u64 a2] w fun e w' => e = .returned (.tuple #[.int .u64 r1, .int .i64 r2]) ∧ Below w.heap.size w w' := by
  have HB := Aside0.mk (Below.refl w.heap.size w)
  have H : ((bodkinref02_Right.f a0).bind fun t101 => (if t101 = true then (if a1 < 1 then (bodkinref02_Un.j0 k a0 a1 a2 true) else (if a1 > 8 then (bodkinref02_Un.j0 k a0 a1 a2 true) else (if a1 = 4 then (if a0 ≤ 8 then (bodkinref02_Un.j0 k a0 a1 a2 true) else (if a1 = 5 then (if a0 ≤ 16 then (bodkinref02_Un.j0 k a0 a1 a2 true) else (if a1 = 6 then (bodkinref02_Un.j0 k a0 a1 a2 (decide (a0 ≤ 32))) else (bodkinref02_Un.j0 k a0 a1 a2 false))) else (if a1 = 6 then (bodkinref02_Un.j0 k a0 a1 a2 (decide (a0 ≤ 32))) else (bodkinref02_Un.j0 k a0 a1 a2 false)))) else (if a1 = 5 then (if a0 ≤ 16 then (bodkinref02_Un.j0 k a0 a1 a2 true) else (if a1 = 6 then (bodkinref02_Un.j0 k a0 a1 a2 (decide (a0 ≤ 32))) else (bodkinref02_Un.j0 k a0 a1 a2 false))) else (if a1 = 6 then (bodkinref02_Un.j0 k a0 a1 a2 (decide (a0 ≤ 32))) else (bodkinref02_Un.j0 k a0 a1 a2 false)))))) else (bodkinref02_Un.j0 k a0 a1 a2 true))) = some (r1, r2) := h
  clear h
  replace H := Option.bind_eq_some_iff.mp H
  obtain ⟨t101, A40, H⟩ := H
  replace H : (if t101 = true then (if a1 < 1 then (bodkinref02_Un.j0 k a0 a1 a2 true) else (if a1 > 8 then (bodkinref02_Un.j0 k a0 a1 a2 true) else (if a1 = 4 then (if a0 ≤ 8 then (bodkinref02_Un.j0 k a0 a1 a2 true) else (if a1 = 5 then (if a0 ≤ 16 then (bodkinref02_Un.j0 k a0 a1 a2 true) else (if a1 = 6 then (bodkinref02_Un.j0 k a0 a1 a2 (decide (a0 ≤ 32))) else (bodkinref02_Un.j0 k a0 a1 a2 false))) else (if a1 = 6 then (bodkinref02_Un.j0 k a0 a1 a2 (decide (a0 ≤ 32))) else (bodkinref02_Un.j0 k a0 a1 a2 false)))) else (if a1 = 5 then (if a0 ≤ 16 then (bodkinref02_Un.j0 k a0 a1 a2 true) else (if a1 = 6 then (bodkinref02_Un.j0 k a0 a1 a2 (decide (a0 ≤ 32))) else (bodkinref02_Un.j0 k a0 a1 a2 false))) else (if a1 = 6 then (bodkinref02_Un.j0 k a0 a1 a2 (decide (a0 ≤ 32))) else (bodkinref02_Un.j0 k a0 a1 a2 false)))))) else (bodkinref02_Un.j0 k a0 a1 a2 true)) = some (r1, r2) := H
  have A4 := Aside0.mk A40
  clear A40
  have HC5 := Aside0.mk H
  clear H
  go_enter Tryd.func21, Tryd.ntmps21
  go_upto_region 2 with (first | ((with_reducible refine gate_callee (f := 31) rfl ?_); refine goesL_ (some 17) rfl rfl Tryd.func31 (by kernel_rfl) rfl #[.int .i64 a0] rfl (by (try simp only [List.map_toArray, List.map_cons, List.map_nil]); first | done | rfl | (simp only [List.length_drop, List.length_take]; rfl)) ?_; (with_reducible refine (bodkinref02_Right.calls a0 t101 _ A4.out).mono ?_); rintro e w' ⟨rfl, ⟨nd, rfl⟩⟩; refine ⟨_, rfl, ?_⟩))
  (try simp only [Act.put, List.setIfInBounds_toArray, List.set_cons_zero, List.set_cons_succ])
  go_cut [51] (fun v51 wc => ∃ (kq : Nat) (x51_4 : Bool), v51 = .bool x51_4 ∧ Aside0 (bodkinref02_Un.j0 kq a0 a1 a2 x51_4 = some (r1, r2)) ∧ Aside0 (kq ≤ k) ∧ Aside0 (Below w.heap.size w wc))
  case first =>
    have H := HC5.out
    clear HC5
    by_cases c6 : t101 = true
    · subst c6
      have H1 : (if a1 < 1 then (bodkinref02_Un.j0 k a0 a1 a2 true) else (if a1 > 8 then (bodkinref02_Un.j0 k a0 a1 a2 true) else (if a1 = 4 then (if a0 ≤ 8 then (bodkinref02_Un.j0 k a0 a1 a2 true) else (if a1 = 5 then (if a0 ≤ 16 then (bodkinref02_Un.j0 k a0 a1 a2 true) else (if a1 = 6 then (bodkinref02_Un.j0 k a0 a1 a2 (decide (a0 ≤ 32))) else (bodkinref02_Un.j0 k a0 a1 a2 false))) else (if a1 = 6 then (bodkinref02_Un.j0 k a0 a1 a2 (decide (a0 ≤ 32))) else (bodkinref02_Un.j0 k a0 a1 a2 false)))) else (if a1 = 5 then (if a0 ≤ 16 then (bodkinref02_Un.j0 k a0 a1 a2 true) else (if a1 = 6 then (bodkinref02_Un.j0 k a0 a1 a2 (decide (a0 ≤ 32))) else (bodkinref02_Un.j0 k a0 a1 a2 false))) else (if a1 = 6 then (bodkinref02_Un.j0 k a0 a1 a2 (decide (a0 ≤ 32))) else (bodkinref02_Un.j0 k a0 a1 a2 false)))))) = some (r1, r2) := by rw [if_pos rfl] at H; exact H
      clear H
      have H := H1
      clear H1
      by_cases c7 : a1 < 1
      · rw [if_pos c7] at H
        have c7b0 : decide (a1 < 1) = true := decide_eq_true c7
        clear c7
        (first | rw [c7b0] | (simp only [i64_w, i32_w]; rw [c7b0]) | skip)
        have H' := Aside0.mk H
        clear H
        go_wp2
        go_meet
        case rel => exact ⟨_, (true), (by first | rfl | (simp; done) | (simp [*]; done)), H', ⟨by first | omega | exact Nat.le_refl _⟩, ⟨by repeat (first | (with_reducible first | exact HB.out | apply below_alloc | apply pw_below_drewN | apply below_drew1) | exact HB.out)⟩⟩
      · rw [if_neg c7] at H
        have c7b0 : decide (a1 < 1) = false := decide_eq_false c7
        clear c7
        (first | rw [c7b0] | (simp only [i64_w, i32_w]; rw [c7b0]) | skip)
        by_cases c8 : a1 > 8
        · rw [if_pos c8] at H
          have c8b0 : decide (8 < a1) = true := decide_eq_true c8
          clear c8
          have H' := Aside0.mk H
          clear H
          go_wp2
          go_meet
          case rel => exact ⟨_, (true), (by first | rfl | (simp; done) | (simp [*]; done)), H', ⟨by first | omega | exact Nat.le_refl _⟩, ⟨by repeat (first | (with_reducible first | exact HB.out | apply below_alloc | apply pw_below_drewN | apply below_drew1) | exact HB.out)⟩⟩
        · rw [if_neg c8] at H
          have c8b0 : decide (8 < a1) = false := decide_eq_false c8
          clear c8
          by_cases c9 : a1 = 4
          · rw [if_pos c9] at H
            have c9b0 : (a1 == 4) = true := beq_iff_eq.mpr c9
            have c9b1 : (a1 != 4) = false := bne_eq_false_iff_eq.mpr c9
            clear c9
            by_cases c10 : a0 ≤ 8
            · rw [if_pos c10] at H
              have c10b0 : decide (a0 ≤ 8) = true := decide_eq_true c10
              clear c10
              have H' := Aside0.mk H
              clear H
              go_wp2
              go_meet
              case rel => exact ⟨_, (true), (by first | rfl | (simp; done) | (simp [*]; done)), H', ⟨by first | omega | exact Nat.le_refl _⟩, ⟨by repeat (first | (with_reducible first | exact HB.out | apply below_alloc | apply pw_below_drewN | apply below_drew1) | exact HB.out)⟩⟩
            · rw [if_neg c10] at H
              have c10b0 : decide (a0 ≤ 8) = false := decide_eq_false c10
              clear c10
              by_cases c11 : a1 = 5
              · rw [if_pos c11] at H
                have c11b0 : (a1 == 5) = true := beq_iff_eq.mpr c11
                have c11b1 : (a1 != 5) = false := bne_eq_false_iff_eq.mpr c11
                clear c11
                by_cases c12 : a0 ≤ 16
                · rw [if_pos c12] at H
                  have c12b0 : decide (a0 ≤ 16) = true := decide_eq_true c12
                  clear c12
                  have H' := Aside0.mk H
                  clear H
                  go_wp2
                  go_meet
                  case rel => exact ⟨_, (true), (by first | rfl | (simp; done) | (simp [*]; done)), H', ⟨by first | omega | exact Nat.le_refl _⟩, ⟨by repeat (first | (with_reducible first | exact HB.out | apply below_alloc | apply pw_below_drewN | apply below_drew1) | exact HB.out)⟩⟩
                · rw [if_neg c12] at H
                  have c12b0 : decide (a0 ≤ 16) = false := decide_eq_false c12
                  clear c12
                  by_cases c13 : a1 = 6
                  · rw [if_pos c13] at H
                    have c13b0 : (a1 == 6) = true := beq_iff_eq.mpr c13
                    have c13b1 : (a1 != 6) = false := bne_eq_false_iff_eq.mpr c13
                    clear c13
                    have H' := Aside0.mk H
                    clear H
                    go_wp2
                    go_meet
                    case rel => exact ⟨_, (decide (a0 ≤ 32)), (by first | rfl | (simp; done) | (simp [*]; done)), H', ⟨by first | omega | exact Nat.le_refl _⟩, ⟨by repeat (first | (with_reducible first | exact HB.out | apply below_alloc | apply pw_below_drewN | apply below_drew1) | exact HB.out)⟩⟩
                  · rw [if_neg c13] at H
                    have c13b0 : (a1 == 6) = false := beq_eq_false_iff_ne.mpr c13
                    have c13b1 : (a1 != 6) = true := bne_iff_ne.mpr c13
                    have H' := Aside0.mk H
                    clear H
                    go_wp2
                    go_meet
                    case rel => exact ⟨_, (false), (by first | rfl | (simp; done) | (simp [*]; done)), H', ⟨by first | omega | exact Nat.le_refl _⟩, ⟨by repeat (first | (with_reducible first | exact HB.out | apply below_alloc | apply pw_below_drewN | apply below_drew1) | exact HB.out)⟩⟩
              · rw [if_neg c11] at H
                have c11b0 : (a1 == 5) = false := beq_eq_false_iff_ne.mpr c11
                have c11b1 : (a1 != 5) = true := bne_iff_ne.mpr c11
                by_cases c14 : a1 = 6
                · rw [if_pos c14] at H
                  have c14b0 : (a1 == 6) = true := beq_iff_eq.mpr c14
                  have c14b1 : (a1 != 6) = false := bne_eq_false_iff_eq.mpr c14
                  clear c14
                  have H' := Aside0.mk H
                  clear H
                  go_wp2
                  go_meet
                  case rel => exact ⟨_, (decide (a0 ≤ 32)), (by first | rfl | (simp; done) | (simp [*]; done)), H', ⟨by first | omega | exact Nat.le_refl _⟩, ⟨by repeat (first | (with_reducible first | exact HB.out | apply below_alloc | apply pw_below_drewN | apply below_drew1) | exact HB.out)⟩⟩
                · rw [if_neg c14] at H
                  have c14b0 : (a1 == 6) = false := beq_eq_false_iff_ne.mpr c14
                  have c14b1 : (a1 != 6) = true := bne_iff_ne.mpr c14
                  have H' := Aside0.mk H
                  clear H
                  go_wp2
                  go_meet
                  case rel => exact ⟨_, (false), (by first | rfl | (simp; done) | (simp [*]; done)), H', ⟨by first | omega | exact Nat.le_refl _⟩, ⟨by repeat (first | (with_reducible first | exact HB.out | apply below_alloc | apply pw_below_drewN | apply below_drew1) | exact HB.out)⟩⟩
          · rw [if_neg c9] at H
            have c9b0 : (a1 == 4) = false := beq_eq_false_iff_ne.mpr c9
            have c9b1 : (a1 != 4) = true := bne_iff_ne.mpr c9
            by_cases c15 : a1 = 5
            · rw [if_pos c15] at H
              have c15b0 : (a1 == 5) = true := beq_iff_eq.mpr c15
              have c15b1 : (a1 != 5) = false := bne_eq_false_iff_eq.mpr c15
              clear c15
              by_cases c16 : a0 ≤ 16
              · rw [if_pos c16] at H
                have c16b0 : decide (a0 ≤ 16) = true := decide_eq_true c16
                clear c16
                have H' := Aside0.mk H
                clear H
                go_wp2
                go_meet
                case rel => exact ⟨_, (true), (by first | rfl | (simp; done) | (simp [*]; done)), H', ⟨by first | omega | exact Nat.le_refl _⟩, ⟨by repeat (first | (with_reducible first | exact HB.out | apply below_alloc | apply pw_below_drewN | apply below_drew1) | exact HB.out)⟩⟩
              · rw [if_neg c16] at H
                have c16b0 : decide (a0 ≤ 16) = false := decide_eq_false c16
                clear c16
                by_cases c17 : a1 = 6
                · rw [if_pos c17] at H
                  have c17b0 : (a1 == 6) = true := beq_iff_eq.mpr c17
                  have c17b1 : (a1 != 6) = false := bne_eq_false_iff_eq.mpr c17
                  clear c17
                  have H' := Aside0.mk H
                  clear H
                  go_wp2
                  go_meet
                  case rel => exact ⟨_, (decide (a0 ≤ 32)), (by first | rfl | (simp; done) | (simp [*]; done)), H', ⟨by first | omega | exact Nat.le_refl _⟩, ⟨by repeat (first | (with_reducible first | exact HB.out | apply below_alloc | apply pw_below_drewN | apply below_drew1) | exact HB.out)⟩⟩
                · rw [if_neg c17] at H
                  have c17b0 : (a1 == 6) = false := beq_eq_false_iff_ne.mpr c17
                  have c17b1 : (a1 != 6) = true := bne_iff_ne.mpr c17
                  have H' := Aside0.mk H
                  clear H
                  go_wp2
                  go_meet
                  case rel => exact ⟨_, (false), (by first | rfl | (simp; done) | (simp [*]; done)), H', ⟨by first | omega | exact Nat.le_refl _⟩, ⟨by repeat (first | (with_reducible first | exact HB.out | apply below_alloc | apply pw_below_drewN | apply below_drew1) | exact HB.out)⟩⟩
            · rw [if_neg c15] at H
              have c15b0 : (a1 == 5) = false := beq_eq_false_iff_ne.mpr c15
              have c15b1 : (a1 != 5) = true := bne_iff_ne.mpr c15
              by_cases c18 : a1 = 6
              · rw [if_pos c18] at H
                have c18b0 : (a1 == 6) = true := beq_iff_eq.mpr c18
                have c18b1 : (a1 != 6) = false := bne_eq_false_iff_eq.mpr c18
                clear c18
                have H' := Aside0.mk H
                clear H
                go_wp2
                go_meet
                case rel => exact ⟨_, (decide (a0 ≤ 32)), (by first | rfl | (simp; done) | (simp [*]; done)), H', ⟨by first | omega | exact Nat.le_refl _⟩, ⟨by repeat (first | (with_reducible first | exact HB.out | apply below_alloc | apply pw_below_drewN | apply below_drew1) | exact HB.out)⟩⟩
              · rw [if_neg c18] at H
                have c18b0 : (a1 == 6) = false := beq_eq_false_iff_ne.mpr c18
                have c18b1 : (a1 != 6) = true := bne_iff_ne.mpr c18
                have H' := Aside0.mk H
                clear H
                go_wp2
                go_meet
                case rel => exact ⟨_, (false), (by first | rfl | (simp; done) | (simp [*]; done)), H', ⟨by first | omega | exact Nat.le_refl _⟩, ⟨by repeat (first | (with_reducible first | exact HB.out | apply below_alloc | apply pw_below_drewN | apply below_drew1) | exact HB.out)⟩⟩
    · replace c6 := Bool.eq_false_iff.mpr c6
      subst c6
      have H1 : (bodkinref02_Un.j0 k a0 a1 a2 true) = some (r1, r2) := by rw [if_neg (show ¬ (false = true) by decide)] at H; exact H
      clear H
      have H := H1
      clear H1
      have H' := Aside0.mk H
      clear H
      go_wp2
      go_meet
      case rel => exact ⟨_, (true), (by first | rfl | (simp; done) | (simp [*]; done)), H', ⟨by first | omega | exact Nat.le_refl _⟩, ⟨by repeat (first | (with_reducible first | exact HB.out | apply below_alloc | apply pw_below_drewN | apply below_drew1) | exact HB.out)⟩⟩
  case rest =>
    clear HC5
    try clear c1
    try clear c2
    try clear p2
    try clear c3
    try clear c6
    try clear c7
    try clear c7b0
    try clear c8
    try clear c8b0
    try clear c9
    try clear c9b0
    try clear c9b1
    try clear c10
    try clear c10b0
    try clear c11
    try clear c11b0
    try clear c11b1
    try clear c12
    try clear c12b0
    try clear c13
    try clear c13b0
    try clear c13b1
    try clear c14
    try clear c14b0
    try clear c14b1
    try clear c15
    try clear c15b0
    try clear c15b1
    try clear c16
    try clear c16b0
    try clear c17
    try clear c17b0
    try clear c17b1
    try clear c18
    try clear c18b0
    try clear c18b1
    obtain ⟨kq, x51_4, rfl, HA, HJ4, HB⟩ := hcut
    cases kq with
    | zero => exact absurd HA.out (by simp [bodkinref02_Un.j0])
    | succ kj4 =>
      have H := HA.out
      clear HA
      simp only [bodkinref02_Un.j0] at H
      by_cases c19 : x51_4 = true
      · subst c19
        have H1 : (some (0, 1)) = some (r1, r2) := by rw [if_pos rfl] at H; exact H
        clear H
        have H := H1
        clear H1
        simp only [Option.some.injEq, Prod.mk.injEq] at H
        obtain ⟨rfl, rfl⟩ := H
        go_wp2
        go_ret2
        exact ⟨by first | rfl | (simp [errW_none, errW_some] <;> rfl) | (simp [*, errW_none, errW_some] <;> rfl), by repeat (first | (with_reducible first | exact HB.out | apply below_alloc | apply pw_below_drewN | apply below_drew1) | exact HB.out)⟩
      · replace c19 := Bool.eq_false_iff.mpr c19
        subst c19
        have H1 : ((bodkinref02_Cut.f kj4 a0 a2).bind fun t102 => ((bodkinref02_list.f kj4 a0 t102).bind fun t103 => (if a1 = 1 then (bodkinref02_Un.l0 kj4 t103 0 (wrap64 (a0 - 1))) else (if a1 = 2 then (bodkinref02_Un.l1 kj4 a0 t103 0 0) else (if a1 = 3 then (bodkinref02_Un.l2 kj4 a0 t103 0 0) else (if a1 = 4 then (bodkinref02_Un.j4 kj4 a0 a1 t102 t103 a1 (a1 == 4)) else (if a1 = 5 then (bodkinref02_Un.j4 kj4 a0 a1 t102 t103 a1 (a1 == 5)) else (bodkinref02_Un.j4 kj4 a0 a1 t102 t103 a1 (a1 == 6))))))))) = some (r1, r2) := by rw [if_neg (show ¬ (false = true) by decide)] at H; exact H
        clear H
        have H := H1
        clear H1
        replace H := Option.bind_eq_some_iff.mp H
        obtain ⟨t102, A200, H⟩ := H
        replace H : ((bodkinref02_list.f kj4 a0 t102).bind fun t103 => (if a1 = 1 then (bodkinref02_Un.l0 kj4 t103 0 (wrap64 (a0 - 1))) else (if a1 = 2 then (bodkinref02_Un.l1 kj4 a0 t103 0 0) else (if a1 = 3 then (bodkinref02_Un.l2 kj4 a0 t103 0 0) else (if a1 = 4 then (bodkinref02_Un.j4 kj4 a0 a1 t102 t103 a1 (a1 == 4)) else (if a1 = 5 then (bodkinref02_Un.j4 kj4 a0 a1 t102 t103 a1 (a1 == 5)) else (bodkinref02_Un.j4 kj4 a0 a1 t102 t103 a1 (a1 == 6)))))))) = some (r1, r2) := H
        have A20 := Aside0.mk A200
        clear A200
        replace H := Option.bind_eq_some_iff.mp H
        obtain ⟨t103, A210, H⟩ := H
        replace H : (if a1 = 1 then (bodkinref02_Un.l0 kj4 t103 0 (wrap64 (a0 - 1))) else (if a1 = 2 then (bodkinref02_Un.l1 kj4 a0 t103 0 0) else (if a1 = 3 then (bodkinref02_Un.l2 kj4 a0 t103 0 0) else (if a1 = 4 then (bodkinref02_Un.j4 kj4 a0 a1 t102 t103 a1 (a1 == 4)) else (if a1 = 5 then (bodkinref02_Un.j4 kj4 a0 a1 t102 t103 a1 (a1 == 5)) else (bodkinref02_Un.j4 kj4 a0 a1 t102 t103 a1 (a1 == 6))))))) = some (r1, r2) := H
        have A21 := Aside0.mk A210
        clear A210
        by_cases c22 : a1 = 1
        · rw [if_pos c22] at H
          have c22b0 : (a1 == 1) = true := beq_iff_eq.mpr c22
          have c22b1 : (a1 != 1) = false := bne_eq_false_iff_eq.mpr c22
          clear c22
          have H' := Aside0.mk H
          clear H
          go_wp2_with (first | ((with_reducible refine gate_callee (f := 24) rfl ?_); refine goesL_ (some 54) rfl rfl Tryd.func24 (by kernel_rfl) rfl #[.int .i64 a0, .int .u64 a2] rfl (by (try simp only [List.map_toArray, List.map_cons, List.map_nil]); first | done | rfl | (simp only [List.length_drop, List.length_take]; rfl)) ?_; (with_reducible refine (bodkinref02_Cut.calls kj4 a0 a2 t102 _ A20.out).mono ?_); rintro e w' ⟨rfl, ⟨nd, rfl⟩⟩; refine ⟨_, rfl, ?_⟩) | ((with_reducible refine gate_callee (f := 34) rfl ?_); refine goesL_ (some 57) rfl rfl Tryd.func34 (by kernel_rfl) rfl #[.int .i64 a0, .int .u64 t102] rfl (by (try simp only [List.map_toArray, List.map_cons, List.map_nil]); first | done | rfl | (simp only [List.length_drop, List.length_take]; rfl)) ?_; (with_reducible refine (bodkinref02_list.calls kj4 a0 t102 t103 _ A21.out).mono ?_); rintro e w23 ⟨v104, rfl, ho0, hb⟩; refine ⟨_, rfl, ?_⟩; have n0_ := Aside0.mk (Kd.R_lower ho0 (below_size (by repeat (first | (with_reducible first | exact HB.out | apply below_alloc | apply pw_below_drewN | apply below_drew1) | exact HB.out)))); have n1_ := Aside0.mk (below_step (by repeat (first | (with_reducible first | exact HB.out | apply below_alloc | apply pw_below_drewN | apply below_drew1) | exact HB.out)) hb); clear HB; have HO105 := n0_; have HB := n1_; clear n0_ n1_; (try clear hb); (try clear hb2); (try clear hk); (try clear hi); (try clear ho0)))
          go_loopg [10, 11] kj4 (fun kq v10 v11 w' => ∃ (x10_2 : Int) (x11_2 : Int), v10 = .int .u64 x10_2 ∧ v11 = .int .i64 x11_2 ∧ Aside0 (bodkinref02_Un.l0 kq t103 x10_2 x11_2 = some (r1, r2)) ∧ Aside0 (kq ≤ kj4) ∧ Aside0 (Kd.R (Kd.int .u64) 22 w' w.heap.size (fun _ => True) v104 t103) ∧ Aside0 (Below w.heap.size w w'))
          case atStart => exact ⟨(0), (wrap64 (a0 - 1)), (by first | rfl | (simp; done) | (simp [*]; done)), (by first | rfl | (simp; done) | (simp [*]; done)), H', ⟨Nat.le_refl _⟩, ⟨by (with_reducible repeat (first | apply Kd.R_alloc | apply Kd.R_drewN | apply Kd.R_drew)); exact HO105.out⟩, ⟨by repeat (first | (with_reducible first | exact HB.out | apply below_alloc | apply pw_below_drewN | apply below_drew1) | exact HB.out)⟩⟩
          case round =>
            clear H'
            try clear c1
            try clear c2
            try clear p2
            try clear c3
            try clear c6
            try clear p6
            try clear c7
            try clear c7b0
            try clear c8
            try clear c8b0
            try clear c9
            try clear c9b0
            try clear c9b1
            try clear c10
            try clear c10b0
            try clear c11
            try clear c11b0
            try clear c11b1
            try clear c12
            try clear c12b0
            try clear c13
            try clear c13b0
            try clear c13b1
            try clear c14
            try clear c14b0
            try clear c14b1
            try clear c15
            try clear c15b0
            try clear c15b1
            try clear c16
            try clear c16b0
            try clear c17
            try clear c17b0
            try clear c17b1
            try clear c18
            try clear c18b0
            try clear c18b1
            try clear c19
            try clear c21
            try clear c22
            try clear c22b0
            try clear c22b1
            try clear p2
            obtain ⟨x10_2, x11_2, rfl, rfl, HA, HK2, HO_9, HB⟩ := hrel
            cases gk with
            | zero => exact absurd HA.out (by simp [bodkinref02_Un.l0])
            | succ k2 =>
              have H := HA.out
              clear HA
              simp only [bodkinref02_Un.l0] at H
              by_cases c24 : x11_2 ≥ 0
              · rw [if_pos c24] at H
                have c24b0 : decide (0 ≤ x11_2) = true := decide_eq_true c24
                clear c24
                by_cases c25 : 0 ≤ x11_2
                · rw [if_pos c25] at H
                  have c25b0 : decide (0 ≤ x11_2) = true := decide_eq_true c25
                  clear c25
                  by_cases c26 : x11_2 < (t103.length : Int)
                  · rw [if_pos c26] at H
                    have c26b0 : decide (x11_2 < (t103.length : Int)) = true := decide_eq_true c26
                    clear c26
                    by_cases c27 : (rd t103 x11_2) = 0
                    · rw [if_pos c27] at H
                      have c27b0 : ((rd t103 x11_2) == 0) = true := beq_iff_eq.mpr c27
                      have c27b1 : ((rd t103 x11_2) != 0) = false := bne_eq_false_iff_eq.mpr c27
                      clear c27
                      have H' := Aside0.mk H
                      clear H
                      obtain ⟨Ao28, co28, eo28⟩ := Kd.R_slice HO_9.out
                      subst eo28
                      have p106 : 0 ≤ (x11_2 : Int) := of_decide_eq_true (by first | (with_reducible assumption) | assumption)
                      have q106 : x11_2 < (t103.length : Int) := of_decide_eq_true (by first | (with_reducible assumption) | assumption)
                      obtain ⟨ad106, e106, hx106_0⟩ := Kd.at_int (Kd.R_reads' HO_9.out).2.2 x11_2 p106 q106
                      cases e106
                      replace p106 := eq_true p106
                      replace q106 := eq_true q106
                      go_wp2
                      go_roundg k2
                      case measure => have := HJ4.out; have := HK2.out; omega
                      case rel => exact ⟨(IntKind.u64.wrap (x10_2 + 1)), (wrap64 (x11_2 - 1)), (by first | rfl | (simp; done) | (simp [*]; done)), (by first | rfl | (simp; done) | (simp [*]; done)), H', ⟨by have := HJ4.out; have := HK2.out; omega⟩, ⟨by (with_reducible repeat (first | apply Kd.R_alloc | apply Kd.R_drewN | apply Kd.R_drew)); exact HO_9.out⟩, ⟨by repeat (first | (with_reducible first | exact HB.out | apply below_alloc | apply pw_below_drewN | apply below_drew1) | exact HB.out)⟩⟩
                    · rw [if_neg c27] at H
                      have c27b0 : ((rd t103 x11_2) == 0) = false := beq_eq_false_iff_ne.mpr c27
                      have c27b1 : ((rd t103 x11_2) != 0) = true := bne_iff_ne.mpr c27
                      simp only [Option.some.injEq, Prod.mk.injEq] at H
                      obtain ⟨rfl, rfl⟩ := H
                      obtain ⟨Ao29, co29, eo29⟩ := Kd.R_slice HO_9.out
                      subst eo29
                      have p106 : 0 ≤ (x11_2 : Int) := of_decide_eq_true (by first | (with_reducible assumption) | assumption)
                      have q106 : x11_2 < (t103.length : Int) := of_decide_eq_true (by first | (with_reducible assumption) | assumption)
                      obtain ⟨ad106, e106, hx106_0⟩ := Kd.at_int (Kd.R_reads' HO_9.out).2.2 x11_2 p106 q106
                      cases e106
                      replace p106 := eq_true p106
                      replace q106 := eq_true q106
                      go_wp2
                      go_ret2
                      exact ⟨by first | rfl | (simp [errW_none, errW_some] <;> rfl) | (simp [*, errW_none, errW_some] <;> rfl), by repeat (first | (with_reducible first | exact HB.out | apply below_alloc | apply pw_below_drewN | apply below_drew1) | exact HB.out)⟩
                  · rw [if_neg c26] at H
                    exact absurd H (by simp)
                · rw [if_neg c25] at H
                  exact absurd H (by simp)
              · rw [if_neg c24] at H
                have c24b0 : decide (0 ≤ x11_2) = false := decide_eq_false c24
                clear c24
                simp only [Option.some.injEq, Prod.mk.injEq] at H
                obtain ⟨rfl, rfl⟩ := H
                go_wp2
                go_ret2
                exact ⟨by first | rfl | (simp [errW_none, errW_some] <;> rfl) | (simp [*, errW_none, errW_some] <;> rfl), by repeat (first | (with_reducible first | exact HB.out | apply below_alloc | apply pw_below_drewN | apply below_drew1) | exact HB.out)⟩
        · rw [if_neg c22] at H
          have c22b0 : (a1 == 1) = false := beq_eq_false_iff_ne.mpr c22
          have c22b1 : (a1 != 1) = true := bne_iff_ne.mpr c22
          by_cases c30 : a1 = 2
          · rw [if_pos c30] at H
            have c30b0 : (a1 == 2) = true := beq_iff_eq.mpr c30
            have c30b1 : (a1 != 2) = false := bne_eq_false_iff_eq.mpr c30
            clear c30
            have H' := Aside0.mk H
            clear H
            go_wp2_with (first | ((with_reducible refine gate_callee (f := 24) rfl ?_); refine goesL_ (some 54) rfl rfl Tryd.func24 (by kernel_rfl) rfl #[.int .i64 a0, .int .u64 a2] rfl (by (try simp only [List.map_toArray, List.map_cons, List.map_nil]); first | done | rfl | (simp only [List.length_drop, List.length_take]; rfl)) ?_; (with_reducible refine (bodkinref02_Cut.calls kj4 a0 a2 t102 _ A20.out).mono ?_); rintro e w' ⟨rfl, ⟨nd, rfl⟩⟩; refine ⟨_, rfl, ?_⟩) | ((with_reducible refine gate_callee (f := 34) rfl ?_); refine goesL_ (some 57) rfl rfl Tryd.func34 (by kernel_rfl) rfl #[.int .i64 a0, .int .u64 t102] rfl (by (try simp only [List.map_toArray, List.map_cons, List.map_nil]); first | done | rfl | (simp only [List.length_drop, List.length_take]; rfl)) ?_; (with_reducible refine (bodkinref02_list.calls kj4 a0 t102 t103 _ A21.out).mono ?_); rintro e w31 ⟨v104, rfl, ho0, hb⟩; refine ⟨_, rfl, ?_⟩; have n0_ := Aside0.mk (Kd.R_lower ho0 (below_size (by repeat (first | (with_reducible first | exact HB.out | apply below_alloc | apply pw_below_drewN | apply below_drew1) | exact HB.out)))); have n1_ := Aside0.mk (below_step (by repeat (first | (with_reducible first | exact HB.out | apply below_alloc | apply pw_below_drewN | apply below_drew1) | exact HB.out)) hb); clear HB; have HO105 := n0_; have HB := n1_; clear n0_ n1_; (try clear hb); (try clear hb2); (try clear hk); (try clear hi); (try clear ho0)))
            go_loopg [10, 12] kj4 (fun kq v10 v12 w' => ∃ (x10_2 : Int) (x12_2 : Int), v10 = .int .u64 x10_2 ∧ v12 = .int .i64 x12_2 ∧ Aside0 (bodkinref02_Un.l1 kq a0 t103 x10_2 x12_2 = some (r1, r2)) ∧ Aside0 (kq ≤ kj4) ∧ Aside0 (Kd.R (Kd.int .u64) 22 w' w.heap.size (fun _ => True) v104 t103) ∧ Aside0 (Below w.heap.size w w'))
            case atStart => exact ⟨(0), (0), (by first | rfl | (simp; done) | (simp [*]; done)), (by first | rfl | (simp; done) | (simp [*]; done)), H', ⟨Nat.le_refl _⟩, ⟨by (with_reducible repeat (first | apply Kd.R_alloc | apply Kd.R_drewN | apply Kd.R_drew)); exact HO105.out⟩, ⟨by repeat (first | (with_reducible first | exact HB.out | apply below_alloc | apply pw_below_drewN | apply below_drew1) | exact HB.out)⟩⟩
            case round =>
              clear H'
              try clear c1
              try clear p1
              try clear q1
              try clear hx1
              try clear c2
              try clear p2
              try clear c3
              try clear c6
              try clear p6
              try clear c7
              try clear c7b0
              try clear c8
              try clear c8b0
              try clear c9
              try clear c9b0
              try clear c9b1
              try clear c10
              try clear c10b0
              try clear p10
              try clear q10
              try clear hx10
              try clear c11
              try clear c11b0
              try clear c11b1
              try clear c12
              try clear c12b0
              try clear c13
              try clear c13b0
              try clear c13b1
              try clear c14
              try clear c14b0
              try clear c14b1
              try clear c15
              try clear c15b0
              try clear c15b1
              try clear c16
              try clear c16b0
              try clear c17
              try clear c17b0
              try clear c17b1
              try clear c18
              try clear c18b0
              try clear c18b1
              try clear c19
              try clear c21
              try clear c22
              try clear c22b0
              try clear c22b1
              try clear c24
              try clear c24b0
              try clear c25
              try clear c25b0
              try clear c26
              try clear c26b0
              try clear c27
              try clear c27b0
              try clear c27b1
              try clear c30
              try clear c30b0
              try clear c30b1
              try clear c31
              try clear hx106_0
              try clear p106
              try clear p2
              try clear p6
              try clear q106
              obtain ⟨x10_2, x12_2, rfl, rfl, HA, HK2, HO_9, HB⟩ := hrel
              cases gk with
              | zero => exact absurd HA.out (by simp [bodkinref02_Un.l1])
              | succ k2 =>
                have H := HA.out
                clear HA
                simp only [bodkinref02_Un.l1] at H
                by_cases c32 : x12_2 < a0
                · rw [if_pos c32] at H
                  have c32b0 : decide (x12_2 < a0) = true := decide_eq_true c32
                  clear c32
                  by_cases c33 : 0 ≤ x12_2
                  · rw [if_pos c33] at H
                    have c33b0 : decide (0 ≤ x12_2) = true := decide_eq_true c33
                    clear c33
                    by_cases c34 : x12_2 < (t103.length : Int)
                    · rw [if_pos c34] at H
                      have c34b0 : decide (x12_2 < (t103.length : Int)) = true := decide_eq_true c34
                      clear c34
                      by_cases c35 : (rd t103 x12_2) = 0
                      · rw [if_pos c35] at H
                        have c35b0 : ((rd t103 x12_2) == 0) = true := beq_iff_eq.mpr c35
                        have c35b1 : ((rd t103 x12_2) != 0) = false := bne_eq_false_iff_eq.mpr c35
                        clear c35
                        have H' := Aside0.mk H
                        clear H
                        obtain ⟨Ao36, co36, eo36⟩ := Kd.R_slice HO_9.out
                        subst eo36
                        have p107 : 0 ≤ (x12_2 : Int) := of_decide_eq_true (by first | (with_reducible assumption) | assumption)
                        have q107 : x12_2 < (t103.length : Int) := of_decide_eq_true (by first | (with_reducible assumption) | assumption)
                        obtain ⟨ad107, e107, hx107_0⟩ := Kd.at_int (Kd.R_reads' HO_9.out).2.2 x12_2 p107 q107
                        cases e107
                        replace p107 := eq_true p107
                        replace q107 := eq_true q107
                        go_wp2
                        go_roundg k2
                        case measure => have := HJ4.out; have := HK2.out; omega
                        case rel => exact ⟨(IntKind.u64.wrap (x10_2 + 1)), (wrap64 (x12_2 + 1)), (by first | rfl | (simp; done) | (simp [*]; done)), (by first | rfl | (simp; done) | (simp [*]; done)), H', ⟨by have := HJ4.out; have := HK2.out; omega⟩, ⟨by (with_reducible repeat (first | apply Kd.R_alloc | apply Kd.R_drewN | apply Kd.R_drew)); exact HO_9.out⟩, ⟨by repeat (first | (with_reducible first | exact HB.out | apply below_alloc | apply pw_below_drewN | apply below_drew1) | exact HB.out)⟩⟩
                      · rw [if_neg c35] at H
                        have c35b0 : ((rd t103 x12_2) == 0) = false := beq_eq_false_iff_ne.mpr c35
                        have c35b1 : ((rd t103 x12_2) != 0) = true := bne_iff_ne.mpr c35
                        simp only [Option.some.injEq, Prod.mk.injEq] at H
                        obtain ⟨rfl, rfl⟩ := H
                        obtain ⟨Ao37, co37, eo37⟩ := Kd.R_slice HO_9.out
                        subst eo37
                        have p107 : 0 ≤ (x12_2 : Int) := of_decide_eq_true (by first | (with_reducible assumption) | assumption)
                        have q107 : x12_2 < (t103.length : Int) := of_decide_eq_true (by first | (with_reducible assumption) | assumption)
                        obtain ⟨ad107, e107, hx107_0⟩ := Kd.at_int (Kd.R_reads' HO_9.out).2.2 x12_2 p107 q107
                        cases e107
                        replace p107 := eq_true p107
                        replace q107 := eq_true q107
                        go_wp2
                        go_ret2
                        exact ⟨by first | rfl | (simp [errW_none, errW_some] <;> rfl) | (simp [*, errW_none, errW_some] <;> rfl), by repeat (first | (with_reducible first | exact HB.out | apply below_alloc | apply pw_below_drewN | apply below_drew1) | exact HB.out)⟩
                    · rw [if_neg c34] at H
                      exact absurd H (by simp)
                  · rw [if_neg c33] at H
                    exact absurd H (by simp)
                · rw [if_neg c32] at H
                  have c32b0 : decide (x12_2 < a0) = false := decide_eq_false c32
                  clear c32
                  simp only [Option.some.injEq, Prod.mk.injEq] at H
                  obtain ⟨rfl, rfl⟩ := H
                  go_wp2
                  go_ret2
                  exact ⟨by first | rfl | (simp [errW_none, errW_some] <;> rfl) | (simp [*, errW_none, errW_some] <;> rfl), by repeat (first | (with_reducible first | exact HB.out | apply below_alloc | apply pw_below_drewN | apply below_drew1) | exact HB.out)⟩
          · rw [if_neg c30] at H
            have c30b0 : (a1 == 2) = false := beq_eq_false_iff_ne.mpr c30
            have c30b1 : (a1 != 2) = true := bne_iff_ne.mpr c30
            by_cases c38 : a1 = 3
            · rw [if_pos c38] at H
              have c38b0 : (a1 == 3) = true := beq_iff_eq.mpr c38
              have c38b1 : (a1 != 3) = false := bne_eq_false_iff_eq.mpr c38
              clear c38
              have H' := Aside0.mk H
              clear H
              go_wp2_with (first | ((with_reducible refine gate_callee (f := 24) rfl ?_); refine goesL_ (some 54) rfl rfl Tryd.func24 (by kernel_rfl) rfl #[.int .i64 a0, .int .u64 a2] rfl (by (try simp only [List.map_toArray, List.map_cons, List.map_nil]); first | done | rfl | (simp only [List.length_drop, List.length_take]; rfl)) ?_; (with_reducible refine (bodkinref02_Cut.calls kj4 a0 a2 t102 _ A20.out).mono ?_); rintro e w' ⟨rfl, ⟨nd, rfl⟩⟩; refine ⟨_, rfl, ?_⟩) | ((with_reducible refine gate_callee (f := 34) rfl ?_); refine goesL_ (some 57) rfl rfl Tryd.func34 (by kernel_rfl) rfl #[.int .i64 a0, .int .u64 t102] rfl (by (try simp only [List.map_toArray, List.map_cons, List.map_nil]); first | done | rfl | (simp only [List.length_drop, List.length_take]; rfl)) ?_; (with_reducible refine (bodkinref02_list.calls kj4 a0 t102 t103 _ A21.out).mono ?_); rintro e w39 ⟨v104, rfl, ho0, hb⟩; refine ⟨_, rfl, ?_⟩; have n0_ := Aside0.mk (Kd.R_lower ho0 (below_size (by repeat (first | (with_reducible first | exact HB.out | apply below_alloc | apply pw_below_drewN | apply below_drew1) | exact HB.out)))); have n1_ := Aside0.mk (below_step (by repeat (first | (with_reducible first | exact HB.out | apply below_alloc | apply pw_below_drewN | apply below_drew1) | exact HB.out)) hb); clear HB; have HO105 := n0_; have HB := n1_; clear n0_ n1_; (try clear hb); (try clear hb2); (try clear hk); (try clear hi); (try clear ho0)))
              go_loopg [10, 13] kj4 (fun kq v10 v13 w' => ∃ (x10_2 : Int) (x13_2 : Int), v10 = .int .u64 x10_2 ∧ v13 = .int .i64 x13_2 ∧ Aside0 (bodkinref02_Un.l2 kq a0 t103 x10_2 x13_2 = some (r1, r2)) ∧ Aside0 (kq ≤ kj4) ∧ Aside0 (Kd.R (Kd.int .u64) 22 w' w.heap.size (fun _ => True) v104 t103) ∧ Aside0 (Below w.heap.size w w'))
              case atStart => exact ⟨(0), (0), (by first | rfl | (simp; done) | (simp [*]; done)), (by first | rfl | (simp; done) | (simp [*]; done)), H', ⟨Nat.le_refl _⟩, ⟨by (with_reducible repeat (first | apply Kd.R_alloc | apply Kd.R_drewN | apply Kd.R_drew)); exact HO105.out⟩, ⟨by repeat (first | (with_reducible first | exact HB.out | apply below_alloc | apply pw_below_drewN | apply below_drew1) | exact HB.out)⟩⟩
              case round =>
                clear H'
                try clear c1
                try clear p1
                try clear q1
                try clear hx1
                try clear c2
                try clear p2
                try clear c3
                try clear c6
                try clear p6
                try clear c7
                try clear c7b0
                try clear c8
                try clear c8b0
                try clear c9
                try clear c9b0
                try clear c9b1
                try clear c10
                try clear c10b0
                try clear p10
                try clear q10
                try clear hx10
                try clear c11
                try clear c11b0
                try clear c11b1
                try clear c12
                try clear c12b0
                try clear c13
                try clear c13b0
                try clear c13b1
                try clear c14
                try clear c14b0
                try clear c14b1
                try clear c15
                try clear c15b0
                try clear c15b1
                try clear c16
                try clear c16b0
                try clear c17
                try clear c17b0
                try clear c17b1
                try clear c18
                try clear c18b0
                try clear c18b1
                try clear c19
                try clear c21
                try clear c22
                try clear c22b0
                try clear c22b1
                try clear c24
                try clear c24b0
                try clear c25
                try clear c25b0
                try clear c26
                try clear c26b0
                try clear c27
                try clear c27b0
                try clear c27b1
                try clear c30
                try clear c30b0
                try clear c30b1
                try clear c31
                try clear c32
                try clear c32b0
                try clear c33
                try clear c33b0
                try clear c34
                try clear c34b0
                try clear c35
                try clear c35b0
                try clear c35b1
                try clear c38
                try clear c38b0
                try clear c38b1
                try clear hx106_0
                try clear hx107_0
                try clear p1
                try clear p10
                try clear p106
                try clear p107
                try clear p2
                try clear p6
                try clear q1
                try clear q10
                try clear q106
                try clear q107
                obtain ⟨x10_2, x13_2, rfl, rfl, HA, HK2, HO_9, HB⟩ := hrel
                cases gk with
                | zero => exact absurd HA.out (by simp [bodkinref02_Un.l2])
                | succ k2 =>
                  have H := HA.out
                  clear HA
                  simp only [bodkinref02_Un.l2] at H
                  by_cases c40 : x13_2 < a0
                  · rw [if_pos c40] at H
                    have c40b0 : decide (x13_2 < a0) = true := decide_eq_true c40
                    clear c40
                    by_cases c41 : 0 ≤ x13_2
                    · rw [if_pos c41] at H
                      have c41b0 : decide (0 ≤ x13_2) = true := decide_eq_true c41
                      clear c41
                      by_cases c42 : x13_2 < (t103.length : Int)
                      · rw [if_pos c42] at H
                        have c42b0 : decide (x13_2 < (t103.length : Int)) = true := decide_eq_true c42
                        clear c42
                        have H' := Aside0.mk H
                        clear H
                        obtain ⟨Ao43, co43, eo43⟩ := Kd.R_slice HO_9.out
                        subst eo43
                        have p108 : 0 ≤ (x13_2 : Int) := of_decide_eq_true (by first | (with_reducible assumption) | assumption)
                        have q108 : x13_2 < (t103.length : Int) := of_decide_eq_true (by first | (with_reducible assumption) | assumption)
                        obtain ⟨ad108, e108, hx108_0⟩ := Kd.at_int (Kd.R_reads' HO_9.out).2.2 x13_2 p108 q108
                        cases e108
                        replace p108 := eq_true p108
                        replace q108 := eq_true q108
                        go_wp2
                        go_roundg k2
                        case measure => have := HJ4.out; have := HK2.out; omega
                        case rel => exact ⟨(IntKind.u64.wrap (x10_2 + (rd t103 x13_2))), (wrap64 (x13_2 + 1)), (by first | rfl | (simp; done) | (simp [*]; done)), (by first | rfl | (simp; done) | (simp [*]; done)), H', ⟨by have := HJ4.out; have := HK2.out; omega⟩, ⟨by (with_reducible repeat (first | apply Kd.R_alloc | apply Kd.R_drewN | apply Kd.R_drew)); exact HO_9.out⟩, ⟨by repeat (first | (with_reducible first | exact HB.out | apply below_alloc | apply pw_below_drewN | apply below_drew1) | exact HB.out)⟩⟩
                      · rw [if_neg c42] at H
                        exact absurd H (by simp)
                    · rw [if_neg c41] at H
                      exact absurd H (by simp)
                  · rw [if_neg c40] at H
                    have c40b0 : decide (x13_2 < a0) = false := decide_eq_false c40
                    clear c40
                    simp only [Option.some.injEq, Prod.mk.injEq] at H
                    obtain ⟨rfl, rfl⟩ := H
                    go_wp2
                    go_ret2
                    exact ⟨by first | rfl | (simp [errW_none, errW_some] <;> rfl) | (simp [*, errW_none, errW_some] <;> rfl), by repeat (first | (with_reducible first | exact HB.out | apply below_alloc | apply pw_below_drewN | apply below_drew1) | exact HB.out)⟩
            · rw [if_neg c38] at H
              have c38b0 : (a1 == 3) = false := beq_eq_false_iff_ne.mpr c38
              have c38b1 : (a1 != 3) = true := bne_iff_ne.mpr c38
              have HC44 := Aside0.mk H
              clear H
              go_upto_if 108 with (first | ((with_reducible refine gate_callee (f := 24) rfl ?_); refine goesL_ (some 54) rfl rfl Tryd.func24 (by kernel_rfl) rfl #[.int .i64 a0, .int .u64 a2] rfl (by (try simp only [List.map_toArray, List.map_cons, List.map_nil]); first | done | rfl | (simp only [List.length_drop, List.length_take]; rfl)) ?_; (with_reducible refine (bodkinref02_Cut.calls kj4 a0 a2 t102 _ A20.out).mono ?_); rintro e w' ⟨rfl, ⟨nd, rfl⟩⟩; refine ⟨_, rfl, ?_⟩) | ((with_reducible refine gate_callee (f := 34) rfl ?_); refine goesL_ (some 57) rfl rfl Tryd.func34 (by kernel_rfl) rfl #[.int .i64 a0, .int .u64 t102] rfl (by (try simp only [List.map_toArray, List.map_cons, List.map_nil]); first | done | rfl | (simp only [List.length_drop, List.length_take]; rfl)) ?_; (with_reducible refine (bodkinref02_list.calls kj4 a0 t102 t103 _ A21.out).mono ?_); rintro e w45 ⟨v104, rfl, ho0, hb⟩; refine ⟨_, rfl, ?_⟩; have n0_ := Aside0.mk (Kd.R_lower ho0 (below_size (by repeat (first | (with_reducible first | exact HB.out | apply below_alloc | apply pw_below_drewN | apply below_drew1) | exact HB.out)))); have n1_ := Aside0.mk (below_step (by repeat (first | (with_reducible first | exact HB.out | apply below_alloc | apply pw_below_drewN | apply below_drew1) | exact HB.out)) hb); clear HB; have HO105 := n0_; have HB := n1_; clear n0_ n1_; (try clear hb); (try clear hb2); (try clear hk); (try clear hi); (try clear ho0)))
              (try simp only [Act.put, List.setIfInBounds_toArray, List.set_cons_zero, List.set_cons_succ])
              go_cut [108] (fun v108 wc => ∃ (kq : Nat) (x108_43 : Bool), v108 = .bool x108_43 ∧ Aside0 (bodkinref02_Un.j4 kq a0 a1 t102 t103 a1 x108_43 = some (r1, r2)) ∧ Aside0 (kq ≤ kj4) ∧ Aside0 (Kd.R (Kd.int .u64) 22 wc w.heap.size (fun _ => True) v104 t103) ∧ Aside0 (Below w.heap.size w wc))
              case first =>
                have H := HC44.out
                clear HC44
                by_cases c46 : a1 = 4
                · rw [if_pos c46] at H
                  have c46b0 : (a1 == 4) = true := beq_iff_eq.mpr c46
                  have c46b1 : (a1 != 4) = false := bne_eq_false_iff_eq.mpr c46
                  clear c46
                  (first | rw [c46b0] | (simp only [i64_w, i32_w]; rw [c46b0]) | skip)
                  have H' := Aside0.mk H
                  clear H
                  go_wp2
                  go_meet
                  case rel => exact ⟨_, ((a1 == 4)), (by first | rfl | (simp; done) | (simp [*]; done)), H', ⟨by have := HJ4.out; first | omega | exact Nat.le_refl _⟩, ⟨by (with_reducible repeat (first | apply Kd.R_alloc | apply Kd.R_drewN | apply Kd.R_drew)); exact HO105.out⟩, ⟨by repeat (first | (with_reducible first | exact HB.out | apply below_alloc | apply pw_below_drewN | apply below_drew1) | exact HB.out)⟩⟩
                · rw [if_neg c46] at H
                  have c46b0 : (a1 == 4) = false := beq_eq_false_iff_ne.mpr c46
                  have c46b1 : (a1 != 4) = true := bne_iff_ne.mpr c46
                  (first | rw [c46b0] | (simp only [i64_w, i32_w]; rw [c46b0]) | skip)
                  by_cases c47 : a1 = 5
                  · rw [if_pos c47] at H
                    have c47b0 : (a1 == 5) = true := beq_iff_eq.mpr c47
                    have c47b1 : (a1 != 5) = false := bne_eq_false_iff_eq.mpr c47
                    clear c47
                    have H' := Aside0.mk H
                    clear H
                    go_wp2
                    go_meet
                    case rel => exact ⟨_, ((a1 == 5)), (by first | rfl | (simp; done) | (simp [*]; done)), H', ⟨by have := HJ4.out; first | omega | exact Nat.le_refl _⟩, ⟨by (with_reducible repeat (first | apply Kd.R_alloc | apply Kd.R_drewN | apply Kd.R_drew)); exact HO105.out⟩, ⟨by repeat (first | (with_reducible first | exact HB.out | apply below_alloc | apply pw_below_drewN | apply below_drew1) | exact HB.out)⟩⟩
                  · rw [if_neg c47] at H
                    have c47b0 : (a1 == 5) = false := beq_eq_false_iff_ne.mpr c47
                    have c47b1 : (a1 != 5) = true := bne_iff_ne.mpr c47
                    have H' := Aside0.mk H
                    clear H
                    go_wp2
                    go_meet
                    case rel => exact ⟨_, ((a1 == 6)), (by first | rfl | (simp; done) | (simp [*]; done)), H', ⟨by have := HJ4.out; first | omega | exact Nat.le_refl _⟩, ⟨by (with_reducible repeat (first | apply Kd.R_alloc | apply Kd.R_drewN | apply Kd.R_drew)); exact HO105.out⟩, ⟨by repeat (first | (with_reducible first | exact HB.out | apply below_alloc | apply pw_below_drewN | apply below_drew1) | exact HB.out)⟩⟩
              case rest =>
                clear HC44
                try clear c1
                try clear p1
                try clear q1
                try clear hx1
                try clear c2
                try clear p2
                try clear c3
                try clear c4
                try clear c6
                try clear p6
                try clear c7
                try clear c7b0
                try clear c8
                try clear c8b0
                try clear c9
                try clear c9b0
                try clear c9b1
                try clear c10
                try clear c10b0
                try clear p10
                try clear q10
                try clear hx10
                try clear c11
                try clear c11b0
                try clear c11b1
                try clear c12
                try clear c12b0
                try clear c13
                try clear c13b0
                try clear c13b1
                try clear c14
                try clear c14b0
                try clear c14b1
                try clear c15
                try clear c15b0
                try clear c15b1
                try clear c16
                try clear c16b0
                try clear c17
                try clear c17b0
                try clear c17b1
                try clear c18
                try clear c18b0
                try clear c18b1
                try clear c19
                try clear c21
                try clear c22
                try clear c22b0
                try clear c22b1
                try clear c24
                try clear c24b0
                try clear c25
                try clear c25b0
                try clear c26
                try clear c26b0
                try clear c27
                try clear c27b0
                try clear c27b1
                try clear c30
                try clear c30b0
                try clear c30b1
                try clear c31
                try clear c32
                try clear c32b0
                try clear c33
                try clear c33b0
                try clear c34
                try clear c34b0
                try clear c35
                try clear c35b0
                try clear c35b1
                try clear c38
                try clear c38b0
                try clear c38b1
                try clear c40
                try clear c40b0
                try clear c41
                try clear c41b0
                try clear c42
                try clear c42b0
                try clear c46
                try clear c46b0
                try clear c46b1
                try clear c47
                try clear c47b0
                try clear c47b1
                try clear hx106_0
                try clear hx107_0
                try clear hx108_0
                try clear p1
                try clear p10
                try clear p106
                try clear p107
                try clear p108
                try clear p2
                try clear p6
                try clear q1
                try clear q10
                try clear q106
                try clear q107
                try clear q108
                obtain ⟨kq, x108_43, rfl, HA, HJ43, HO_9, HB⟩ := hcut
                cases kq with
                | zero => exact absurd HA.out (by simp [bodkinref02_Un.j4])
                | succ kj43 =>
                  have H := HA.out
                  clear HA
                  simp only [bodkinref02_Un.j4] at H
                  by_cases c48 : x108_43 = true
                  · subst c48
                    have H1 : ((some (([8, 16, 32] : List Int) : List Int)).bind fun y109 => (if 0 ≤ (wrap64 (a1 - 4)) then (if (wrap64 (a1 - 4)) < (y109.length : Int) then (bodkinref02_Un.l3 kj43 a0 t103 (rd y109 (wrap64 (a1 - 4))) (rd y109 (wrap64 (a1 - 4)))) else (none)) else (none))) = some (r1, r2) := by rw [if_pos rfl] at H; exact H
                    clear H
                    have H := H1
                    clear H1
                    obtain ⟨y109, hy109⟩ : ∃ y_ : List Int, y_ = (([8, 16, 32] : List Int)) := ⟨_, rfl⟩
                    replace H : (if 0 ≤ (wrap64 (a1 - 4)) then (if (wrap64 (a1 - 4)) < (y109.length : Int) then (bodkinref02_Un.l3 kj43 a0 t103 (rd y109 (wrap64 (a1 - 4))) (rd y109 (wrap64 (a1 - 4)))) else (none)) else (none)) = some (r1, r2) := by first | (rw [hy109]; with_reducible exact H) | (have H2_ := (Option.bind_some _ _).symm.trans H; rw [hy109]; with_reducible exact H2_) | (have H2_ := (Option.bind_some _ _).symm.trans H; with_reducible exact H2_) | with_reducible exact H | (rw [hy109]; exact H) | exact H
                    have Ny109 := Aside0.mk hy109
                    clear hy109
                    obtain ⟨ji49, hji49⟩ : ∃ j_ : Int, (wrap64 (a1 - 4)) = j_ := ⟨_, rfl⟩
                    replace H : (if 0 ≤ (ji49) then (if (ji49) < (y109.length : Int) then (bodkinref02_Un.l3 kj43 a0 t103 (rd y109 (ji49)) (rd y109 (ji49))) else (none)) else (none)) = some (r1, r2) := by first | (rw [hji49] at H; exact H) | (simp only [hji49] at H ⊢; exact H)
                    have hji49w : (IntKind.i64.wrap (a1 - 4)) = ji49 := (i64_w _).trans hji49
                    by_cases c50 : 0 ≤ (ji49)
                    · rw [if_pos c50] at H
                      have c50b0 : decide (0 ≤ (ji49)) = true := decide_eq_true c50
                      clear c50
                      by_cases c51 : (ji49) < (y109.length : Int)
                      · rw [if_pos c51] at H
                        have c51b0 : decide ((ji49) < (y109.length : Int)) = true := decide_eq_true c51
                        clear c51
                        have H' := Aside0.mk H
                        clear H
                        go_wp2_with (first | ((with_reducible refine gate_dst (N := 112) rfl ?_); refine Kd.R_lit (Kd.int .i64) _ 3 ?hg (N := 112) ?hd (xs := ([8, 16, 32] : List Int)) (inner := [.int .i64 8, .int .i64 16, .int .i64 32]) (ok := fun _ => True) (okp := fun _ => True) ?hr ?hp (fun _ hk => hk) trivial (Below.refl _ _) (Nat.le_refl _) (by simp) ?_; (case hd => rfl); (case hg => rfl); (case hr => first | (go_simp; done) | (go_simp; rfl)); (case hp => exact (Reps.one (show Kd.M (Kd.int .i64) _ _ _ 8 [.int .i64 8] from rfl) (Reps.one (show Kd.M (Kd.int .i64) _ _ _ 16 [.int .i64 16] from rfl) (Reps.one (show Kd.M (Kd.int .i64) _ _ _ 32 [.int .i64 32] from rfl) (Reps.none _ _))))); intro v110 w52 ho53 hb hg_ hnew_; clear hg_ hnew_; (first | rw [← Ny109.out] at ho53 | (simp only [Int.reduceToNat] at ho53; rw [← Ny109.out] at ho53)); have n0_ := Aside0.mk (Kd.R_below (by (with_reducible repeat (first | apply Kd.R_alloc | apply Kd.R_drewN | apply Kd.R_drew)); exact HO_9.out) hb); have n1_ := Aside0.mk (Kd.R_lower ho53 (below_size (by repeat (first | (with_reducible first | exact HB.out | apply below_alloc | apply pw_below_drewN | apply below_drew1) | exact HB.out)))); have n2_ := Aside0.mk (below_step (by repeat (first | (with_reducible first | exact HB.out | apply below_alloc | apply pw_below_drewN | apply below_drew1) | exact HB.out)) hb); clear HO_9; clear HB; have HO_9 := n0_; have HO111 := n1_; have HB := n2_; clear n0_ n1_ n2_; clear hb ho53; obtain ⟨Ao54, co54, eo54⟩ := Kd.R_slice HO111.out; subst eo54; have p112 : 0 ≤ ((ji49) : Int) := of_decide_eq_true (by first | (with_reducible assumption) | assumption); have q112 : (ji49) < (y109.length : Int) := of_decide_eq_true (by first | (with_reducible assumption) | assumption); obtain ⟨ad112, e112, hx112_0⟩ := Kd.at_int (Kd.R_reads' HO111.out).2.2 (ji49) p112 q112; cases e112; replace p112 := eq_true p112; replace q112 := eq_true q112))
                        go_loopg [15] kj43 (fun kq v15 w' => ∃ (x9_3 : List Int) (x15_3 : Int), v15 = .int .i64 x15_3 ∧ Aside0 (bodkinref02_Un.l3 kq a0 x9_3 (rd y109 (ji49)) x15_3 = some (r1, r2)) ∧ Aside0 (kq ≤ kj43) ∧ Aside0 (Kd.R (Kd.int .u64) 22 w' w.heap.size (fun _ => True) v104 x9_3) ∧ Aside0 (Below w.heap.size w w'))
                        case atStart => exact ⟨(t103), (rd y109 (ji49)), (by first | rfl | (simp; done) | (simp only [← hji49] <;> (first | rfl | simp)) | (simp [*]; done)), H', ⟨Nat.le_refl _⟩, ⟨by (with_reducible repeat (first | apply Kd.R_alloc | apply Kd.R_drewN | apply Kd.R_drew)); exact HO_9.out⟩, ⟨by repeat (first | (with_reducible first | exact HB.out | apply below_alloc | apply pw_below_drewN | apply below_drew1) | exact HB.out)⟩⟩
                        case round =>
                          clear H'
                          try clear c1
                          try clear p1
                          try clear q1
                          try clear hx1
                          try clear c2
                          try clear p2
                          try clear c3
                          try clear c4
                          try clear c5
                          try clear c6
                          try clear p6
                          try clear c7
                          try clear c7b0
                          try clear c8
                          try clear c8b0
                          try clear c9
                          try clear c9b0
                          try clear c9b1
                          try clear c10
                          try clear c10b0
                          try clear p10
                          try clear q10
                          try clear hx10
                          try clear c11
                          try clear c11b0
                          try clear c11b1
                          try clear p11
                          try clear q11
                          try clear hx11
                          try clear c12
                          try clear c12b0
                          try clear c13
                          try clear c13b0
                          try clear c13b1
                          try clear c14
                          try clear c14b0
                          try clear c14b1
                          try clear c15
                          try clear c15b0
                          try clear c15b1
                          try clear c16
                          try clear c16b0
                          try clear c17
                          try clear c17b0
                          try clear c17b1
                          try clear c18
                          try clear c18b0
                          try clear c18b1
                          try clear c19
                          try clear c21
                          try clear c22
                          try clear c22b0
                          try clear c22b1
                          try clear c24
                          try clear c24b0
                          try clear c25
                          try clear c25b0
                          try clear c26
                          try clear c26b0
                          try clear c27
                          try clear c27b0
                          try clear c27b1
                          try clear c30
                          try clear c30b0
                          try clear c30b1
                          try clear c31
                          try clear c32
                          try clear c32b0
                          try clear c33
                          try clear c33b0
                          try clear c34
                          try clear c34b0
                          try clear c35
                          try clear c35b0
                          try clear c35b1
                          try clear c38
                          try clear c38b0
                          try clear c38b1
                          try clear c40
                          try clear c40b0
                          try clear c41
                          try clear c41b0
                          try clear c42
                          try clear c42b0
                          try clear c46
                          try clear c46b0
                          try clear c46b1
                          try clear c47
                          try clear c47b0
                          try clear c47b1
                          try clear c48
                          try clear c50
                          try clear c50b0
                          try clear c51
                          try clear c51b0
                          try clear hx106_0
                          try clear hx107_0
                          try clear hx108_0
                          try clear hx112_0
                          try clear p1
                          try clear p10
                          try clear p106
                          try clear p107
                          try clear p108
                          try clear p112
                          try clear p2
                          try clear p6
                          try clear q1
                          try clear q10
                          try clear q106
                          try clear q107
                          try clear q108
                          try clear q112
                          obtain ⟨x9_3, x15_3, rfl, HA, HK3, HO_9, HB⟩ := hrel
                          cases gk with
                          | zero => exact absurd HA.out (by simp [bodkinref02_Un.l3])
                          | succ k3 =>
                            have H := HA.out
                            clear HA
                            simp only [bodkinref02_Un.l3] at H
                            by_cases c55 : x15_3 < a0
                            · rw [if_pos c55] at H
                              have c55b0 : decide (x15_3 < a0) = true := decide_eq_true c55
                              clear c55
                              obtain ⟨ji56, hji56⟩ : ∃ j_ : Int, (wrap64 ((rd y109 (ji49)) - 1)) = j_ := ⟨_, rfl⟩
                              replace H : (if 0 ≤ (ji56) then (if (ji56) < (x9_3.length : Int) then (if 0 ≤ x15_3 then (if x15_3 < (x9_3.length : Int) then (bodkinref02_Un.l3 k3 a0 (x9_3.set (x15_3 : Int).toNat (rd x9_3 (ji56))) (rd y109 (ji49)) (wrap64 (x15_3 + 1))) else (none)) else (none)) else (none)) else (none)) = some (r1, r2) := by first | (rw [hji56] at H; exact H) | (simp only [hji56] at H ⊢; exact H)
                              have hji56w : (IntKind.i64.wrap ((rd y109 (ji49)) - 1)) = ji56 := (i64_w _).trans hji56
                              by_cases c57 : 0 ≤ (ji56)
                              · rw [if_pos c57] at H
                                have c57b0 : decide (0 ≤ (ji56)) = true := decide_eq_true c57
                                clear c57
                                by_cases c58 : (ji56) < (x9_3.length : Int)
                                · rw [if_pos c58] at H
                                  have c58b0 : decide ((ji56) < (x9_3.length : Int)) = true := decide_eq_true c58
                                  clear c58
                                  by_cases c59 : 0 ≤ x15_3
                                  · rw [if_pos c59] at H
                                    have c59b0 : decide (0 ≤ x15_3) = true := decide_eq_true c59
                                    clear c59
                                    by_cases c60 : x15_3 < (x9_3.length : Int)
                                    · rw [if_pos c60] at H
                                      have c60b0 : decide (x15_3 < (x9_3.length : Int)) = true := decide_eq_true c60
                                      clear c60
                                      obtain ⟨y114, hy114⟩ : ∃ y_ : List Int, y_ = (x9_3.set (x15_3 : Int).toNat (rd x9_3 (ji56))) := ⟨_, rfl⟩
                                      replace H : (bodkinref02_Un.l3 k3 a0 y114 (rd y109 (ji49)) (wrap64 (x15_3 + 1))) = some (r1, r2) := by first | (rw [hy114]; with_reducible exact H) | (have H2_ := (Option.bind_some _ _).symm.trans H; rw [hy114]; with_reducible exact H2_) | (have H2_ := (Option.bind_some _ _).symm.trans H; with_reducible exact H2_) | with_reducible exact H | (rw [hy114]; exact H) | exact H
                                      have Ny114 := Aside0.mk hy114
                                      clear hy114
                                      have H' := Aside0.mk H
                                      clear H
                                      obtain ⟨Ao62, co62, eo62⟩ := Kd.R_slice HO_9.out
                                      subst eo62
                                      have p113 : 0 ≤ ((ji56) : Int) := of_decide_eq_true (by first | (with_reducible assumption) | assumption)
                                      have q113 : (ji56) < (x9_3.length : Int) := of_decide_eq_true (by first | (with_reducible assumption) | assumption)
                                      obtain ⟨ad113, e113, hx113_0⟩ := Kd.at_int (Kd.R_reads' HO_9.out).2.2 (ji56) p113 q113
                                      cases e113
                                      replace p113 := eq_true p113
                                      replace q113 := eq_true q113
                                      have p61 : 0 ≤ (x15_3 : Int) := of_decide_eq_true (by first | (with_reducible assumption) | assumption)
                                      have q61 : (x15_3 : Int) < ((x9_3.length : Int) : Int) := of_decide_eq_true (by first | (with_reducible assumption) | assumption)
                                      obtain ⟨go61, co61, eo61, gb61, gl61, cl61, HG61⟩ := Kd.R_form HO_9.out (by omega)
                                      (first | cases eo61 | (injection eo61 with ea_ en_ ec_; (first | subst ea_ | (injection ea_ with ea_; subst ea_)); subst ec_; clear en_))
                                      have GB61 := Aside0.mk gb61
                                      have GG61 := Aside0.mk HG61
                                      clear gb61 gl61 HG61
                                      (first | simp only [add_plain] at hx113_0 | skip)
                                      obtain ⟨hx61_0, hf61_0⟩ := Kd.R_celln 0 HO_9.out (x15_3 : Int) p61 q61
                                      replace p61 := eq_true p61
                                      replace q61 := eq_true q61
                                      have HP63 := Kd.R_putg HO_9.out (x15_3 : Int) (rd x9_3 (ji56))
                                      go_wp2_with (first | ((with_reducible refine gate_store (t := 22) (p := 130) rfl ?_); refine store_event (t := 22) (p := 130) (v := ?vo_w64) (w1 := (wr.setCell ⟨go61, (x15_3 : Int).toNat, none⟩ (.int .u64 (rd x9_3 (ji56))))) ?hg ?ho ?hn ?hr ?_; (case ho => rfl); (case hg => rfl); (case hn => rfl); (case hr => first | (go_simp; done) | (go_simp; rfl)); intro w64 hw; have hg : wr.grownBy w64 (some go61) := (by rw [hw]; exact HP63.2); have hp_ : Kd.R (Kd.int .u64) 22 w64 w.heap.size (fun _ => True) (.slice (some ⟨go61, 0, none⟩) x9_3.length co62) y114 := (by rw [hw, Ny114.out]; exact HP63.1); clear HP63; have n0_ := Aside0.mk (hp_); have n1_ := Aside0.mk ((by rw [hw]; exact below_set (HB.out) GB61.out : Below w.heap.size w w64)); clear HO_9; clear HB; have HO_9 := n0_; have HB := n1_; clear n0_ n1_; clear hg hw hp_))
                                      go_roundg k3
                                      case measure => have := HJ4.out; have := HJ43.out; have := HK3.out; omega
                                      case rel => exact ⟨(y114), (wrap64 (x15_3 + 1)), (by first | rfl | (simp; done) | (simp [*]; done)), H', ⟨by have := HJ4.out; have := HJ43.out; have := HK3.out; omega⟩, ⟨by (with_reducible repeat (first | apply Kd.R_alloc | apply Kd.R_drewN | apply Kd.R_drew)); exact HO_9.out⟩, ⟨by repeat (first | (with_reducible first | exact HB.out | apply below_alloc | apply pw_below_drewN | apply below_drew1) | exact HB.out)⟩⟩
                                    · rw [if_neg c60] at H
                                      exact absurd H (by simp)
                                  · rw [if_neg c59] at H
                                    exact absurd H (by simp)
                                · rw [if_neg c58] at H
                                  exact absurd H (by simp)
                              · rw [if_neg c57] at H
                                exact absurd H (by simp)
                            · rw [if_neg c55] at H
                              have c55b0 : decide (x15_3 < a0) = false := decide_eq_false c55
                              clear c55
                              replace H := Option.bind_eq_some_iff.mp H
                              obtain ⟨t115, A650, H⟩ := H
                              replace H : (some (t115, 0)) = some (r1, r2) := H
                              have A65 := Aside0.mk A650
                              clear A650
                              simp only [Option.some.injEq, Prod.mk.injEq] at H
                              obtain ⟨rfl, rfl⟩ := H
                              obtain ⟨Ao66, co66, eo66⟩ := Kd.R_slice HO_9.out
                              subst eo66
                              go_wp2_with (first | ((with_reducible refine gate_callee (f := 35) rfl ?_); refine goesL_ (some 132) rfl rfl Tryd.func35 (by kernel_rfl) rfl #[.slice Ao66 x9_3.length co66] rfl (by (try simp only [List.map_toArray, List.map_cons, List.map_nil]); first | done | rfl | (simp only [List.length_drop, List.length_take]; rfl)) ?_; (with_reducible refine (bodkinref02_of.calls k3 _ _ x9_3 t115 _ ?side1 ?side2 A65.out).mono ?_); (case side1 => repeat (first | exact (Kd.R_reads' HO_9.out).2.2 | (with_reducible refine Kd.C_alloc ?_ _) | (with_reducible refine Kd.C_drewN ?_ _) | (with_reducible refine Kd.C_drew ?_))); (case side2 => exact (Kd.R_reads' HO_9.out).2.1); rintro e w' ⟨rfl, ⟨nd, rfl⟩⟩; refine ⟨_, rfl, ?_⟩))
                              go_ret2
                              exact ⟨by first | rfl | (simp [errW_none, errW_some] <;> rfl) | (simp only [← hji49]; first | rfl | (simp [errW_none, errW_some] <;> rfl)) | (simp [*, errW_none, errW_some] <;> rfl), by repeat (first | (with_reducible first | exact HB.out | apply below_alloc | apply pw_below_drewN | apply below_drew1) | exact HB.out)⟩
                      · rw [if_neg c51] at H
                        exact absurd H (by simp)
                    · rw [if_neg c50] at H
                      exact absurd H (by simp)
                  · replace c48 := Bool.eq_false_iff.mpr c48
                    subst c48
                    have H1 : (if a1 = 7 then (if 0 ≤ (wrap64 (a0 - 1)) then (if (wrap64 (a0 - 1)) < (t103.length : Int) then (if (rd t103 (wrap64 (a0 - 1))) = 0 then (some (t102, 0)) else ((bodkinref02_Cut.f kj43 a0 (IntKind.u64.wrap (-t102))).bind fun t117 => (some (t117, 0)))) else (none)) else (none)) else ((bodkinref02_Cut.f kj43 a0 (IntKind.u64.wrap (-t102))).bind fun t118 => (some (t118, 0)))) = some (r1, r2) := by rw [if_neg (show ¬ (false = true) by decide)] at H; exact H
                    clear H
                    have H := H1
                    clear H1
                    by_cases c67 : a1 = 7
                    · rw [if_pos c67] at H
                      have c67b0 : (a1 == 7) = true := beq_iff_eq.mpr c67
                      have c67b1 : (a1 != 7) = false := bne_eq_false_iff_eq.mpr c67
                      clear c67
                      obtain ⟨ji68, hji68⟩ : ∃ j_ : Int, (wrap64 (a0 - 1)) = j_ := ⟨_, rfl⟩
                      replace H : (if 0 ≤ (ji68) then (if (ji68) < (t103.length : Int) then (if (rd t103 (ji68)) = 0 then (some (t102, 0)) else ((bodkinref02_Cut.f kj43 a0 (IntKind.u64.wrap (-t102))).bind fun t117 => (some (t117, 0)))) else (none)) else (none)) = some (r1, r2) := by first | (rw [hji68] at H; exact H) | (simp only [hji68] at H ⊢; exact H)
                      have hji68w : (IntKind.i64.wrap (a0 - 1)) = ji68 := (i64_w _).trans hji68
                      by_cases c69 : 0 ≤ (ji68)
                      · rw [if_pos c69] at H
                        have c69b0 : decide (0 ≤ (ji68)) = true := decide_eq_true c69
                        clear c69
                        by_cases c70 : (ji68) < (t103.length : Int)
                        · rw [if_pos c70] at H
                          have c70b0 : decide ((ji68) < (t103.length : Int)) = true := decide_eq_true c70
                          clear c70
                          by_cases c71 : (rd t103 (ji68)) = 0
                          · rw [if_pos c71] at H
                            have c71b0 : ((rd t103 (ji68)) == 0) = true := beq_iff_eq.mpr c71
                            have c71b1 : ((rd t103 (ji68)) != 0) = false := bne_eq_false_iff_eq.mpr c71
                            clear c71
                            simp only [Option.some.injEq, Prod.mk.injEq] at H
                            obtain ⟨rfl, rfl⟩ := H
                            obtain ⟨Ao72, co72, eo72⟩ := Kd.R_slice HO_9.out
                            subst eo72
                            have p116 : 0 ≤ ((ji68) : Int) := of_decide_eq_true (by first | (with_reducible assumption) | assumption)
                            have q116 : (ji68) < (t103.length : Int) := of_decide_eq_true (by first | (with_reducible assumption) | assumption)
                            obtain ⟨ad116, e116, hx116_0⟩ := Kd.at_int (Kd.R_reads' HO_9.out).2.2 (ji68) p116 q116
                            cases e116
                            replace p116 := eq_true p116
                            replace q116 := eq_true q116
                            go_wp2
                            go_ret2
                            exact ⟨by first | rfl | (simp [errW_none, errW_some] <;> rfl) | (simp only [← hji68]; first | rfl | (simp [errW_none, errW_some] <;> rfl)) | (simp [*, errW_none, errW_some] <;> rfl), by repeat (first | (with_reducible first | exact HB.out | apply below_alloc | apply pw_below_drewN | apply below_drew1) | exact HB.out)⟩
                          · rw [if_neg c71] at H
                            have c71b0 : ((rd t103 (ji68)) == 0) = false := beq_eq_false_iff_ne.mpr c71
                            have c71b1 : ((rd t103 (ji68)) != 0) = true := bne_iff_ne.mpr c71
                            replace H := Option.bind_eq_some_iff.mp H
                            obtain ⟨t117, A730, H⟩ := H
                            replace H : (some (t117, 0)) = some (r1, r2) := H
                            have A73 := Aside0.mk A730
                            clear A730
                            simp only [Option.some.injEq, Prod.mk.injEq] at H
                            obtain ⟨rfl, rfl⟩ := H
                            obtain ⟨Ao74, co74, eo74⟩ := Kd.R_slice HO_9.out
                            subst eo74
                            have p116 : 0 ≤ ((ji68) : Int) := of_decide_eq_true (by first | (with_reducible assumption) | assumption)
                            have q116 : (ji68) < (t103.length : Int) := of_decide_eq_true (by first | (with_reducible assumption) | assumption)
                            obtain ⟨ad116, e116, hx116_0⟩ := Kd.at_int (Kd.R_reads' HO_9.out).2.2 (ji68) p116 q116
                            cases e116
                            replace p116 := eq_true p116
                            replace q116 := eq_true q116
                            go_wp2_with (first | ((with_reducible refine gate_callee (f := 24) rfl ?_); refine goesL_ (some 145) rfl rfl Tryd.func24 (by kernel_rfl) rfl #[.int .i64 a0, .int .u64 (IntKind.u64.wrap (-t102))] rfl (by (try simp only [List.map_toArray, List.map_cons, List.map_nil]); first | done | rfl | (simp only [List.length_drop, List.length_take]; rfl)) ?_; (with_reducible refine (bodkinref02_Cut.calls kj43 a0 (IntKind.u64.wrap (-t102)) t117 _ A73.out).mono ?_); rintro e w' ⟨rfl, ⟨nd, rfl⟩⟩; refine ⟨_, rfl, ?_⟩))
                            go_ret2
                            exact ⟨by first | rfl | (simp [errW_none, errW_some] <;> rfl) | (simp only [← hji68]; first | rfl | (simp [errW_none, errW_some] <;> rfl)) | (simp [*, errW_none, errW_some] <;> rfl), by repeat (first | (with_reducible first | exact HB.out | apply below_alloc | apply pw_below_drewN | apply below_drew1) | exact HB.out)⟩
                        · rw [if_neg c70] at H
                          exact absurd H (by simp)
                      · rw [if_neg c69] at H
                        exact absurd H (by simp)
                    · rw [if_neg c67] at H
                      have c67b0 : (a1 == 7) = false := beq_eq_false_iff_ne.mpr c67
                      have c67b1 : (a1 != 7) = true := bne_iff_ne.mpr c67
                      replace H := Option.bind_eq_some_iff.mp H
                      obtain ⟨t118, A750, H⟩ := H
                      replace H : (some (t118, 0)) = some (r1, r2) := H
                      have A75 := Aside0.mk A750
                      clear A750
                      simp only [Option.some.injEq, Prod.mk.injEq] at H
                      obtain ⟨rfl, rfl⟩ := H
                      go_wp2_with (first | ((with_reducible refine gate_callee (f := 24) rfl ?_); refine goesL_ (some 145) rfl rfl Tryd.func24 (by kernel_rfl) rfl #[.int .i64 a0, .int .u64 (IntKind.u64.wrap (-t102))] rfl (by (try simp only [List.map_toArray, List.map_cons, List.map_nil]); first | done | rfl | (simp only [List.length_drop, List.length_take]; rfl)) ?_; (with_reducible refine (bodkinref02_Cut.calls kj43 a0 (IntKind.u64.wrap (-t102)) t118 _ A75.out).mono ?_); rintro e w' ⟨rfl, ⟨nd, rfl⟩⟩; refine ⟨_, rfl, ?_⟩))
                      go_ret2
                      exact ⟨by first | rfl | (simp [errW_none, errW_some] <;> rfl) | (simp [*, errW_none, errW_some] <;> rfl), by repeat (first | (with_reducible first | exact HB.out | apply below_alloc | apply pw_below_drewN | apply below_drew1) | exact HB.out)⟩

end Go.Proofs.YtajmjmnlapplaaaDoor.PIno
