/-
  The contracts of the reference's Kind, Bin, Un and Rel, as closed forms, in the form in which the kit's print uses a function's contract.
  The program's small functions over formats, in closed form: signs, sizes, parts. No condition but that a word is one.
  The program's rounding, in closed form: the float nearest to a number times a power of 2, and perhaps a little more. No condition but the code's own.
  The program's parts, jamming, order and sum, in closed form. No condition but that a word is one.
-/
import Derived.Test.YtjfmomogidgbpaaProg
import Derived.Below
import Derived.Deep.Draws
import Derived.Deep.AppendLies
import Derived.Maps.AppendAt
import Derived.OwnWalk
import Derived.Laws.BytesArg
import Derived.Laws.MakeOwn
import Derived.Laws.OwnMore
import Derived.Deep.OwnRows
import Derived.Tactics
import Derived.Lib.ConvBytes
import Derived.Laws.Slices
import Derived.WalkKit
import Derived.KernelRfl
import Derived.RowKit3
import Derived.Deep.LoopGhost
import Derived.Deep.QuietTactic
import Derived.BigQuiet
import Derived.WideLaws
import Derived.Deep.DeepCutAuto
import Derived.Deep.CutBlock
import Derived.Deep.RegionHeld3
import Derived.Laws.Rows
import Derived.Lib.AppendStr
import Derived.ArgAppend
import Derived.Laws.IdiomCopy
import Derived.OrdersHeld
import Derived.Laws.BitsLemmas
import Derived.RowKit
import Derived.Test.YtjfmomogidgbpaaZa0
import Derived.Test.YtjfmomogidgbpaaZa1
import Derived.Test.YtjfmomogidgbpaaZa2
import Derived.Test.YtjfmomogidgbpaaZa3
import Derived.Test.YtjfmomogidgbpaaZa4
import Derived.Test.YtjfmomogidgbpaaZa5
namespace Go.Proofs.Ytjfmomogidgbpaa.PFl
open Go.RowKit Go.Proofs.YtjfmomogidgbpaaW.PrintWords Go.Proofs.YtjfmomogidgbpaaW.PrintLast Go.Proofs.YtjfmomogidgbpaaW.PrintMore
attribute [local go_sem] max2_int min2_int max_two min_two max_three min_three max_four min_four
set_option linter.unusedVariables false
set_option linter.unusedSimpArgs false
mutual
def floats_Rel.j0 : Nat → Int → Int → Int → Bool → Int → Int → Option (Bool × Int)
  | 0, _, _, _, _, _, _ => none
  | k + 1, x1, x2, x3, x24, x269000, x269001 => if x24 = true then (some (false, 1)) else ((ff_isNaN.f x269000 x269001 x2).bind fun t270 => (if t270 = true then (floats_Rel.j1 k x1 x2 x3 true x269000 x269001) else ((ff_isNaN.f x269000 x269001 x3).bind fun t271 => (floats_Rel.j1 k x1 x2 x3 t271 x269000 x269001))))
def floats_Rel.j1 : Nat → Int → Int → Int → Bool → Int → Int → Option (Bool × Int)
  | 0, _, _, _, _, _, _ => none
  | k + 1, x1, x2, x3, x32, x269000, x269001 => if x32 = true then (some ((x1 == 2), 0)) else ((ff_less.f x269000 x269001 x2 x3).bind fun t272 => ((ff_less.f x269000 x269001 x3 x2).bind fun t273 => (if x1 = 1 then (if t272 = true then (some (false, 0)) else (some (!t273, 0))) else (if x1 = 2 then (if t272 = true then (some (true, 0)) else (some (t273, 0))) else (if x1 = 3 then (some (t272, 0)) else (if x1 = 4 then (some (t273, 0)) else (if x1 = 5 then (some (!t273, 0)) else (some (!t272, 0)))))))))
end
def floats_Rel.f (k : Nat) (a0 : Int) (a1 : Int) (a2 : Int) (a3 : Int) : Option (Bool × Int) := (floats_of.f a0).bind fun bt266 => ((ff_none.f bt266.1 bt266.2).bind fun t269 => (if t269 = true then (floats_Rel.j0 k a1 a2 a3 true bt266.1 bt266.2) else (if a1 < 1 then (floats_Rel.j0 k a1 a2 a3 true bt266.1 bt266.2) else (floats_Rel.j0 k a1 a2 a3 (decide (a1 > 6)) bt266.1 bt266.2))))
theorem floats_Rel.mono_l : ∀ k, (∀ y0 y1 y2 y3 y4 y5, LeO (floats_Rel.j0 k y0 y1 y2 y3 y4 y5) (floats_Rel.j0 (k + 1) y0 y1 y2 y3 y4 y5)) ∧ (∀ y0 y1 y2 y3 y4 y5, LeO (floats_Rel.j1 k y0 y1 y2 y3 y4 y5) (floats_Rel.j1 (k + 1) y0 y1 y2 y3 y4 y5)) := by
  intro k
  induction k with
  | zero => exact ⟨fun _ _ _ _ _ _ r h => by simp [floats_Rel.j0] at h, fun _ _ _ _ _ _ r h => by simp [floats_Rel.j1] at h⟩
  | succ k ih =>
    obtain ⟨ih0, ih1⟩ := ih
    refine ⟨?_, ?_⟩
    · intro y0 y1 y2 y3 y4 y5
      unfold floats_Rel.j0
      repeat' first
      | (with_reducible exact ih0 _ _ _ _ _ _)
      | (with_reducible exact ih1 _ _ _ _ _ _)
      | (with_reducible exact LeO.refl _)
      | (with_reducible exact LeO.none _)
      | (with_reducible refine LeO.ite ?_ ?_)
      | (with_reducible refine LeO.bind ?_ (fun _ => ?_))
      | exact ih0 _ _ _ _ _ _
      | exact ih1 _ _ _ _ _ _
      | exact LeO.none _
      | refine LeO.ite ?_ ?_
      | refine LeO.bind ?_ (fun _ => ?_)
    · intro y0 y1 y2 y3 y4 y5
      unfold floats_Rel.j1
      repeat' first
      | (with_reducible exact ih0 _ _ _ _ _ _)
      | (with_reducible exact ih1 _ _ _ _ _ _)
      | (with_reducible exact LeO.refl _)
      | (with_reducible exact LeO.none _)
      | (with_reducible refine LeO.ite ?_ ?_)
      | (with_reducible refine LeO.bind ?_ (fun _ => ?_))
      | exact ih0 _ _ _ _ _ _
      | exact ih1 _ _ _ _ _ _
      | exact LeO.none _
      | refine LeO.ite ?_ ?_
      | refine LeO.bind ?_ (fun _ => ?_)
theorem floats_Rel.mono : ∀ a0 a1 a2 a3 k, LeO (floats_Rel.f k a0 a1 a2 a3) (floats_Rel.f (k + 1) a0 a1 a2 a3) := by
  intro a0 a1 a2 a3 k
  obtain ⟨ih0, ih1⟩ := floats_Rel.mono_l k
  unfold floats_Rel.f
  repeat' first
      | (with_reducible exact ih0 _ _ _ _ _ _)
      | (with_reducible exact ih1 _ _ _ _ _ _)
      | (with_reducible exact LeO.refl _)
      | (with_reducible exact LeO.none _)
      | (with_reducible refine LeO.ite ?_ ?_)
      | (with_reducible refine LeO.bind ?_ (fun _ => ?_))
      | exact ih0 _ _ _ _ _ _
      | exact ih1 _ _ _ _ _ _
      | exact LeO.none _
      | refine LeO.ite ?_ ?_
      | refine LeO.bind ?_ (fun _ => ?_)
def floats_Rel.T6 : Bool × List (List Nat × List Nat) := (true, [([], []), ([], []), ([], []), ([0, 1, 2], [0, 1, 2]), ([], []), ([], []), ([], []), ([4, 5, 6, 3], [4, 5, 6]), ([3, 7, 0, 1, 2, 3], [3]), ([7, 8, 0, 1, 2, 3, 4, 5, 6, 7, 8], [7])])
def floats_Rel.B6 : List Nat := [0, 0, 0, 7, 0, 0, 0, 127, 255, 511]
theorem floats_Rel.tab6 : rtab .any (opsOf Try.f21 6) = floats_Rel.T6 := by kernel_rfl
theorem floats_Rel.bits6 : waitsOk floats_Rel.T6.2 floats_Rel.B6 = true := by kernel_rfl
set_option maxHeartbeats 8000000 in
set_option maxRecDepth 100000 in
theorem floats_Rel.calls (k : Nat) (a0 : Int) (a1 : Int) (a2 : Int) (a3 : Int) (r1 : Bool) (r2 : Int) (w : World) (h : floats_Rel.f k a0 a1 a2 a3 = some (r1, r2)) :
    Calls Try.prog 21 #[.int .i64 a0, .int .i64 a1, .int .u64 a2, .int .u64 a3] w fun e w' => e = .returned (.tuple #[.bool r1, .int .i64 r2]) ∧ Below w.heap.size w w' := by
  have hu43 := Try.underlying43
  have HB := Aside0.mk (Below.refl w.heap.size w)
  have H : ((floats_of.f a0).bind fun bt266 => ((ff_none.f bt266.1 bt266.2).bind fun t269 => (if t269 = true then (floats_Rel.j0 k a1 a2 a3 true bt266.1 bt266.2) else (if a1 < 1 then (floats_Rel.j0 k a1 a2 a3 true bt266.1 bt266.2) else (floats_Rel.j0 k a1 a2 a3 (decide (a1 > 6)) bt266.1 bt266.2))))) = some (r1, r2) := h
  clear h
  replace H := Option.bind_eq_some_iff.mp H
  obtain ⟨⟨t266, t267⟩, A50, H⟩ := H
  replace H : ((ff_none.f t266 t267).bind fun t269 => (if t269 = true then (floats_Rel.j0 k a1 a2 a3 true t266 t267) else (if a1 < 1 then (floats_Rel.j0 k a1 a2 a3 true t266 t267) else (floats_Rel.j0 k a1 a2 a3 (decide (a1 > 6)) t266 t267)))) = some (r1, r2) := H
  have A5 := Aside0.mk A50
  clear A50
  have HC6 := Aside0.mk H
  clear H
  go_enter Try.func21, Try.ntmps21
  go_upto_region 2 with (first | ((with_reducible refine gate_callee (f := 31) rfl ?_); refine goesL_ (some 14) rfl rfl Try.func31 (by kernel_rfl) rfl #[.int .i64 a0] rfl (by (try simp only [List.map_toArray, List.map_cons, List.map_nil]); first | done | rfl) ?_; (with_reducible refine (floats_of.calls a0 t266 t267 _ A5.out).mono ?_); rintro e w7 ⟨rfl, hb⟩; refine ⟨_, rfl, ?_⟩; have n0_ := Aside0.mk (below_step (by repeat (first | (with_reducible first | exact HB.out | apply below_alloc | apply pwB_ | apply below_drew1) | exact HB.out)) hb); clear HB; have HB := n0_; clear n0_; (try clear hb); (try clear hb2); (try clear hk); (try clear hi)) | ((with_reducible refine gate_dst (N := 10) rfl ?_); refine box_event ?hg (N := 10) ?hd (cs := #[.int .i64 0, .int .i64 0]) (t := 43) ?hr ?_; (case hd => rfl); (case hg => rfl); (case hr => first | (go_simp; done) | (go_simp; rfl)); intro gb268 hg w8 hbox hb; have n0_ := Aside0.mk (below_step (by repeat (first | (with_reducible first | exact HB.out | apply below_alloc | apply pwB_ | apply below_drew1) | exact HB.out)) hb); have n1_ := Aside0.mk (hbox); have n2_ := Aside0.mk ((by rw [hg]; exact (below_size (by repeat (first | (with_reducible first | exact HB.out | apply below_alloc | apply pwB_ | apply below_drew1) | exact HB.out))) : w.heap.size ≤ gb268)); have n3_ := Aside0.mk ((by rw [hg]; exact (below_size (by repeat (first | (with_reducible first | exact HB.out | apply below_alloc | apply pwB_ | apply below_drew1) | exact HB.out))) : w.heap.size ≤ gb268)); clear HB; have HB := n0_; have BK268 := n1_; have GW268 := n2_; have GE268 := n3_; clear n0_ n1_ n2_ n3_; clear hb hbox hg; have hcz9_0 : w8.cell? ⟨gb268, 0, none⟩ = some (.int .i64 0) := (blk_cell BK268.out 0).trans rfl; have hcz9_1 : w8.cell? ⟨gb268, 1, none⟩ = some (.int .i64 0) := (blk_cell BK268.out 1).trans rfl; have hfz9_0 := blk_frozen BK268.out 0; have hfz9_1 := blk_frozen BK268.out 1))
  (try simp only [Act.put, List.setIfInBounds_toArray, List.set_cons_zero, List.set_cons_succ])
  go_cut [24] (fun v24 wc => ∃ (kq : Nat) (x24_5 : Bool), v24 = .bool x24_5 ∧ Aside0 (floats_Rel.j0 kq a1 a2 a3 x24_5 t266 t267 = some (r1, r2)) ∧ Aside0 (kq ≤ k) ∧ Aside0 (wc.heap[gb268]? = some (.cells #[.int .i64 t266, .int .i64 t267] 43 (0, 0))) ∧ Aside0 (Below w.heap.size w wc))
  case first =>
    have H := HC6.out
    clear HC6
    replace H := Option.bind_eq_some_iff.mp H
    obtain ⟨t269, A100, H⟩ := H
    replace H : (if t269 = true then (floats_Rel.j0 k a1 a2 a3 true t266 t267) else (if a1 < 1 then (floats_Rel.j0 k a1 a2 a3 true t266 t267) else (floats_Rel.j0 k a1 a2 a3 (decide (a1 > 6)) t266 t267))) = some (r1, r2) := H
    have A10 := Aside0.mk A100
    clear A100
    by_cases c11 : t269 = true
    · subst c11
      have H1 : (floats_Rel.j0 k a1 a2 a3 true t266 t267) = some (r1, r2) := by rw [if_pos rfl] at H; exact H
      clear H
      have H := H1
      clear H1
      have H' := Aside0.mk H
      clear H
      have hcz12_0 : w8.cell? ⟨gb268, 0, none⟩ = some (.int .i64 0) := (blk_cell BK268.out 0).trans rfl
      have hcz12_1 : w8.cell? ⟨gb268, 1, none⟩ = some (.int .i64 0) := (blk_cell BK268.out 1).trans rfl
      have hfz12_0 := blk_frozen BK268.out 0
      have hfz12_1 := blk_frozen BK268.out 1
      go_wp2_with (first | ((with_reducible refine gate_callee (f := 32) rfl ?_); refine goesL_ (some 16) rfl rfl Try.func32 (by kernel_rfl) rfl #[.agg #[.int .i64 t266, .int .i64 t267]] rfl (by (try simp only [List.map_toArray, List.map_cons, List.map_nil]); first | done | rfl) ?_; (with_reducible refine (ff_none.calls t266 t267 true _ A10.out).mono ?_); rintro e w13 ⟨rfl, hb⟩; refine ⟨_, rfl, ?_⟩; have n0_ := Aside0.mk (blk_below (g := gb268) (o := .cells #[.int .i64 t266, .int .i64 t267] 43 (0, 0)) (by (with_reducible repeat (first | refine blk_drewN ?_ _ | refine blk_drew ?_ | refine blk_alloc ?_ _)); refine blk_put (cs := #[.int .i64 t266, .int .i64 0]) ?_ 1 _ rfl; (with_reducible repeat (first | refine blk_drewN ?_ _ | refine blk_drew ?_ | refine blk_alloc ?_ _)); refine blk_put (cs := #[.int .i64 0, .int .i64 0]) ?_ 0 _ rfl; (with_reducible repeat (first | refine blk_drewN ?_ _ | refine blk_drew ?_ | refine blk_alloc ?_ _)); exact BK268.out) hb); have n1_ := Aside0.mk (below_step (by repeat (first | (with_reducible first | exact HB.out | apply below_alloc | apply pwB_ | apply below_drew1 | refine below_set ?_ GE268.out) | exact HB.out)) hb); clear BK268; clear HB; have BK268 := n0_; have HB := n1_; clear n0_ n1_; (try clear hb); (try clear hb2); (try clear hk); (try clear hi)))
      go_meet
      case rel => exact ⟨_, (true), (by first | rfl | (simp; done) | (simp [*]; done)), H', ⟨by first | omega | exact Nat.le_refl _⟩, ⟨by (with_reducible repeat (first | refine blk_drewN ?_ _ | refine blk_drew ?_ | refine blk_alloc ?_ _)); exact BK268.out⟩, ⟨by repeat (first | (with_reducible first | exact HB.out | apply below_alloc | apply pwB_ | apply below_drew1 | refine below_set ?_ GE268.out) | exact HB.out)⟩⟩
    · replace c11 := Bool.eq_false_iff.mpr c11
      subst c11
      have H1 : (if a1 < 1 then (floats_Rel.j0 k a1 a2 a3 true t266 t267) else (floats_Rel.j0 k a1 a2 a3 (decide (a1 > 6)) t266 t267)) = some (r1, r2) := by rw [if_neg (show ¬ (false = true) by decide)] at H; exact H
      clear H
      have H := H1
      clear H1
      by_cases c14 : a1 < 1
      · rw [if_pos c14] at H
        have c14b0 : decide (a1 < 1) = true := decide_eq_true c14
        clear c14
        (first | rw [c14b0] | (simp only [i64_w, i32_w]; rw [c14b0]) | skip)
        have H' := Aside0.mk H
        clear H
        have hcz15_0 : w8.cell? ⟨gb268, 0, none⟩ = some (.int .i64 0) := (blk_cell BK268.out 0).trans rfl
        have hcz15_1 : w8.cell? ⟨gb268, 1, none⟩ = some (.int .i64 0) := (blk_cell BK268.out 1).trans rfl
        have hfz15_0 := blk_frozen BK268.out 0
        have hfz15_1 := blk_frozen BK268.out 1
        go_wp2_with (first | ((with_reducible refine gate_callee (f := 32) rfl ?_); refine goesL_ (some 16) rfl rfl Try.func32 (by kernel_rfl) rfl #[.agg #[.int .i64 t266, .int .i64 t267]] rfl (by (try simp only [List.map_toArray, List.map_cons, List.map_nil]); first | done | rfl) ?_; (with_reducible refine (ff_none.calls t266 t267 false _ A10.out).mono ?_); rintro e w16 ⟨rfl, hb⟩; refine ⟨_, rfl, ?_⟩; have n0_ := Aside0.mk (blk_below (g := gb268) (o := .cells #[.int .i64 t266, .int .i64 t267] 43 (0, 0)) (by (with_reducible repeat (first | refine blk_drewN ?_ _ | refine blk_drew ?_ | refine blk_alloc ?_ _)); refine blk_put (cs := #[.int .i64 t266, .int .i64 0]) ?_ 1 _ rfl; (with_reducible repeat (first | refine blk_drewN ?_ _ | refine blk_drew ?_ | refine blk_alloc ?_ _)); refine blk_put (cs := #[.int .i64 0, .int .i64 0]) ?_ 0 _ rfl; (with_reducible repeat (first | refine blk_drewN ?_ _ | refine blk_drew ?_ | refine blk_alloc ?_ _)); exact BK268.out) hb); have n1_ := Aside0.mk (below_step (by repeat (first | (with_reducible first | exact HB.out | apply below_alloc | apply pwB_ | apply below_drew1 | refine below_set ?_ GE268.out) | exact HB.out)) hb); clear BK268; clear HB; have BK268 := n0_; have HB := n1_; clear n0_ n1_; (try clear hb); (try clear hb2); (try clear hk); (try clear hi)))
        go_meet
        case rel => exact ⟨_, (true), (by first | rfl | (simp; done) | (simp [*]; done)), H', ⟨by first | omega | exact Nat.le_refl _⟩, ⟨by (with_reducible repeat (first | refine blk_drewN ?_ _ | refine blk_drew ?_ | refine blk_alloc ?_ _)); exact BK268.out⟩, ⟨by repeat (first | (with_reducible first | exact HB.out | apply below_alloc | apply pwB_ | apply below_drew1 | refine below_set ?_ GE268.out) | exact HB.out)⟩⟩
      · rw [if_neg c14] at H
        have c14b0 : decide (a1 < 1) = false := decide_eq_false c14
        clear c14
        (first | rw [c14b0] | (simp only [i64_w, i32_w]; rw [c14b0]) | skip)
        have H' := Aside0.mk H
        clear H
        have hcz17_0 : w8.cell? ⟨gb268, 0, none⟩ = some (.int .i64 0) := (blk_cell BK268.out 0).trans rfl
        have hcz17_1 : w8.cell? ⟨gb268, 1, none⟩ = some (.int .i64 0) := (blk_cell BK268.out 1).trans rfl
        have hfz17_0 := blk_frozen BK268.out 0
        have hfz17_1 := blk_frozen BK268.out 1
        go_wp2_with (first | ((with_reducible refine gate_callee (f := 32) rfl ?_); refine goesL_ (some 16) rfl rfl Try.func32 (by kernel_rfl) rfl #[.agg #[.int .i64 t266, .int .i64 t267]] rfl (by (try simp only [List.map_toArray, List.map_cons, List.map_nil]); first | done | rfl) ?_; (with_reducible refine (ff_none.calls t266 t267 false _ A10.out).mono ?_); rintro e w18 ⟨rfl, hb⟩; refine ⟨_, rfl, ?_⟩; have n0_ := Aside0.mk (blk_below (g := gb268) (o := .cells #[.int .i64 t266, .int .i64 t267] 43 (0, 0)) (by (with_reducible repeat (first | refine blk_drewN ?_ _ | refine blk_drew ?_ | refine blk_alloc ?_ _)); refine blk_put (cs := #[.int .i64 t266, .int .i64 0]) ?_ 1 _ rfl; (with_reducible repeat (first | refine blk_drewN ?_ _ | refine blk_drew ?_ | refine blk_alloc ?_ _)); refine blk_put (cs := #[.int .i64 0, .int .i64 0]) ?_ 0 _ rfl; (with_reducible repeat (first | refine blk_drewN ?_ _ | refine blk_drew ?_ | refine blk_alloc ?_ _)); exact BK268.out) hb); have n1_ := Aside0.mk (below_step (by repeat (first | (with_reducible first | exact HB.out | apply below_alloc | apply pwB_ | apply below_drew1 | refine below_set ?_ GE268.out) | exact HB.out)) hb); clear BK268; clear HB; have BK268 := n0_; have HB := n1_; clear n0_ n1_; (try clear hb); (try clear hb2); (try clear hk); (try clear hi)))
        go_meet
        case rel => exact ⟨_, (decide (a1 > 6)), (by first | rfl | (simp; done) | (simp [*]; done)), H', ⟨by first | omega | exact Nat.le_refl _⟩, ⟨by (with_reducible repeat (first | refine blk_drewN ?_ _ | refine blk_drew ?_ | refine blk_alloc ?_ _)); exact BK268.out⟩, ⟨by repeat (first | (with_reducible first | exact HB.out | apply below_alloc | apply pwB_ | apply below_drew1 | refine below_set ?_ GE268.out) | exact HB.out)⟩⟩
  case rest =>
    clear HC6
    try clear c1
    try clear c2
    try clear p2
    try clear c3
    try clear c11
    try clear c14
    try clear c14b0
    try clear hcz12_0
    try clear hcz12_1
    try clear hcz15_0
    try clear hcz15_1
    try clear hcz17_0
    try clear hcz17_1
    try clear hcz9_0
    try clear hcz9_1
    try clear hfz12_0
    try clear hfz12_1
    try clear hfz15_0
    try clear hfz15_1
    try clear hfz17_0
    try clear hfz17_1
    try clear hfz9_0
    try clear hfz9_1
    obtain ⟨kq, x24_5, rfl, HA, HJ5, BK268, HB⟩ := hcut
    cases kq with
    | zero => exact absurd HA.out (by simp [floats_Rel.j0])
    | succ kj5 =>
      have H := HA.out
      clear HA
      simp only [floats_Rel.j0] at H
      by_cases c19 : x24_5 = true
      · subst c19
        have H1 : (some (false, 1)) = some (r1, r2) := by rw [if_pos rfl] at H; exact H
        clear H
        have H := H1
        clear H1
        simp only [Option.some.injEq, Prod.mk.injEq] at H
        obtain ⟨rfl, rfl⟩ := H
        go_wp2
        go_ret2
        exact ⟨by first | rfl | (simp [*] <;> rfl), by repeat (first | (with_reducible first | exact HB.out | apply below_alloc | apply pwB_ | apply below_drew1 | refine below_set ?_ GE268.out) | exact HB.out)⟩
      · replace c19 := Bool.eq_false_iff.mpr c19
        subst c19
        have H1 : ((ff_isNaN.f t266 t267 a2).bind fun t270 => (if t270 = true then (floats_Rel.j1 kj5 a1 a2 a3 true t266 t267) else ((ff_isNaN.f t266 t267 a3).bind fun t271 => (floats_Rel.j1 kj5 a1 a2 a3 t271 t266 t267)))) = some (r1, r2) := by rw [if_neg (show ¬ (false = true) by decide)] at H; exact H
        clear H
        have H := H1
        clear H1
        have HC20 := Aside0.mk H
        clear H
        go_upto_region 4 with (fail)
        go_cut [32] (fun v32 wc => ∃ (kq : Nat) (x32_19 : Bool), v32 = .bool x32_19 ∧ Aside0 (floats_Rel.j1 kq a1 a2 a3 x32_19 t266 t267 = some (r1, r2)) ∧ Aside0 (kq ≤ kj5) ∧ Aside0 (wc.heap[gb268]? = some (.cells #[.int .i64 t266, .int .i64 t267] 43 (0, 0))) ∧ Aside0 (Below w.heap.size w wc))
        case first =>
          have H := HC20.out
          clear HC20
          replace H := Option.bind_eq_some_iff.mp H
          obtain ⟨t270, A210, H⟩ := H
          replace H : (if t270 = true then (floats_Rel.j1 kj5 a1 a2 a3 true t266 t267) else ((ff_isNaN.f t266 t267 a3).bind fun t271 => (floats_Rel.j1 kj5 a1 a2 a3 t271 t266 t267))) = some (r1, r2) := H
          have A21 := Aside0.mk A210
          clear A210
          by_cases c22 : t270 = true
          · subst c22
            have H1 : (floats_Rel.j1 kj5 a1 a2 a3 true t266 t267) = some (r1, r2) := by rw [if_pos rfl] at H; exact H
            clear H
            have H := H1
            clear H1
            have H' := Aside0.mk H
            clear H
            have hcz23_0 : wc.cell? ⟨gb268, 0, none⟩ = some (.int .i64 t266) := (blk_cell BK268.out 0).trans rfl
            have hcz23_1 : wc.cell? ⟨gb268, 1, none⟩ = some (.int .i64 t267) := (blk_cell BK268.out 1).trans rfl
            have hfz23_0 := blk_frozen BK268.out 0
            have hfz23_1 := blk_frozen BK268.out 1
            go_wp2_with (first | ((with_reducible refine gate_callee (f := 37) rfl ?_); refine goesL_ (some 27) rfl rfl Try.func37 (by kernel_rfl) rfl #[.agg #[.int .i64 t266, .int .i64 t267], .int .u64 a2] rfl (by (try simp only [List.map_toArray, List.map_cons, List.map_nil]); first | done | rfl) ?_; (with_reducible refine (ff_isNaN.calls t266 t267 a2 true _ A21.out).mono ?_); rintro e w24 ⟨rfl, hb⟩; refine ⟨_, rfl, ?_⟩; have n0_ := Aside0.mk (blk_below (g := gb268) (o := .cells #[.int .i64 t266, .int .i64 t267] 43 (0, 0)) (by (with_reducible repeat (first | refine blk_drewN ?_ _ | refine blk_drew ?_ | refine blk_alloc ?_ _)); exact BK268.out) hb); have n1_ := Aside0.mk (below_step (by repeat (first | (with_reducible first | exact HB.out | apply below_alloc | apply pwB_ | apply below_drew1 | refine below_set ?_ GE268.out) | exact HB.out)) hb); clear BK268; clear HB; have BK268 := n0_; have HB := n1_; clear n0_ n1_; (try clear hb); (try clear hb2); (try clear hk); (try clear hi)))
            go_meet
            case rel => exact ⟨_, (true), (by first | rfl | (simp; done) | (simp [*]; done)), H', ⟨by have := HJ5.out; first | omega | exact Nat.le_refl _⟩, ⟨by (with_reducible repeat (first | refine blk_drewN ?_ _ | refine blk_drew ?_ | refine blk_alloc ?_ _)); exact BK268.out⟩, ⟨by repeat (first | (with_reducible first | exact HB.out | apply below_alloc | apply pwB_ | apply below_drew1 | refine below_set ?_ GE268.out) | exact HB.out)⟩⟩
          · replace c22 := Bool.eq_false_iff.mpr c22
            subst c22
            have H1 : ((ff_isNaN.f t266 t267 a3).bind fun t271 => (floats_Rel.j1 kj5 a1 a2 a3 t271 t266 t267)) = some (r1, r2) := by rw [if_neg (show ¬ (false = true) by decide)] at H; exact H
            clear H
            have H := H1
            clear H1
            replace H := Option.bind_eq_some_iff.mp H
            obtain ⟨t271, A250, H⟩ := H
            replace H : (floats_Rel.j1 kj5 a1 a2 a3 t271 t266 t267) = some (r1, r2) := H
            have A25 := Aside0.mk A250
            clear A250
            have H' := Aside0.mk H
            clear H
            have hcz26_0 : wc.cell? ⟨gb268, 0, none⟩ = some (.int .i64 t266) := (blk_cell BK268.out 0).trans rfl
            have hcz26_1 : wc.cell? ⟨gb268, 1, none⟩ = some (.int .i64 t267) := (blk_cell BK268.out 1).trans rfl
            have hfz26_0 := blk_frozen BK268.out 0
            have hfz26_1 := blk_frozen BK268.out 1
            go_wp2_with (first | ((with_reducible refine gate_callee (f := 37) rfl ?_); refine goesL_ (some 27) rfl rfl Try.func37 (by kernel_rfl) rfl #[.agg #[.int .i64 t266, .int .i64 t267], .int .u64 a2] rfl (by (try simp only [List.map_toArray, List.map_cons, List.map_nil]); first | done | rfl) ?_; (with_reducible refine (ff_isNaN.calls t266 t267 a2 false _ A21.out).mono ?_); rintro e w27 ⟨rfl, hb⟩; refine ⟨_, rfl, ?_⟩; have n0_ := Aside0.mk (blk_below (g := gb268) (o := .cells #[.int .i64 t266, .int .i64 t267] 43 (0, 0)) (by (with_reducible repeat (first | refine blk_drewN ?_ _ | refine blk_drew ?_ | refine blk_alloc ?_ _)); exact BK268.out) hb); have n1_ := Aside0.mk (below_step (by repeat (first | (with_reducible first | exact HB.out | apply below_alloc | apply pwB_ | apply below_drew1 | refine below_set ?_ GE268.out) | exact HB.out)) hb); clear BK268; clear HB; have BK268 := n0_; have HB := n1_; clear n0_ n1_; (try clear hb); (try clear hb2); (try clear hk); (try clear hi); have hcz28_0 : w27.cell? ⟨gb268, 0, none⟩ = some (.int .i64 t266) := (blk_cell BK268.out 0).trans rfl; have hcz28_1 : w27.cell? ⟨gb268, 1, none⟩ = some (.int .i64 t267) := (blk_cell BK268.out 1).trans rfl; have hfz28_0 := blk_frozen BK268.out 0; have hfz28_1 := blk_frozen BK268.out 1) | (go_at_call 37; (with_reducible refine (ff_isNaN.calls t266 t267 a3 t271 _ A25.out).mono ?_); rintro e w29 ⟨rfl, hb⟩; have n0_ := Aside0.mk (blk_below (g := gb268) (o := .cells #[.int .i64 t266, .int .i64 t267] 43 (0, 0)) (by (with_reducible repeat (first | refine blk_drewN ?_ _ | refine blk_drew ?_ | refine blk_alloc ?_ _)); exact BK268.out) hb); have n1_ := Aside0.mk (below_step (by repeat (first | (with_reducible first | exact HB.out | apply below_alloc | apply pwB_ | apply below_drew1 | refine below_set ?_ GE268.out) | exact HB.out)) hb); clear BK268; clear HB; have BK268 := n0_; have HB := n1_; clear n0_ n1_; (try clear hb); (try clear hb2); (try clear hk); (try clear hi)))
            go_meet
            case rel => exact ⟨_, (t271), (by first | rfl | (simp; done) | (simp [*]; done)), H', ⟨by have := HJ5.out; first | omega | exact Nat.le_refl _⟩, ⟨by (with_reducible repeat (first | refine blk_drewN ?_ _ | refine blk_drew ?_ | refine blk_alloc ?_ _)); exact BK268.out⟩, ⟨by repeat (first | (with_reducible first | exact HB.out | apply below_alloc | apply pwB_ | apply below_drew1 | refine below_set ?_ GE268.out) | exact HB.out)⟩⟩
        case rest =>
          clear HC20
          try clear c1
          try clear c2
          try clear p2
          try clear c3
          try clear c11
          try clear c14
          try clear c14b0
          try clear c19
          try clear c21
          try clear c22
          try clear hcz12_0
          try clear hcz12_1
          try clear hcz15_0
          try clear hcz15_1
          try clear hcz17_0
          try clear hcz17_1
          try clear hcz23_0
          try clear hcz23_1
          try clear hcz26_0
          try clear hcz26_1
          try clear hcz28_0
          try clear hcz28_1
          try clear hcz9_0
          try clear hcz9_1
          try clear hfz12_0
          try clear hfz12_1
          try clear hfz15_0
          try clear hfz15_1
          try clear hfz17_0
          try clear hfz17_1
          try clear hfz23_0
          try clear hfz23_1
          try clear hfz26_0
          try clear hfz26_1
          try clear hfz28_0
          try clear hfz28_1
          try clear hfz9_0
          try clear hfz9_1
          try clear p2
          obtain ⟨kq, x32_19, rfl, HA, HJ19, BK268, HB⟩ := hcut
          cases kq with
          | zero => exact absurd HA.out (by simp [floats_Rel.j1])
          | succ kj19 =>
            have H := HA.out
            clear HA
            simp only [floats_Rel.j1] at H
            by_cases c30 : x32_19 = true
            · subst c30
              have H1 : (some ((a1 == 2), 0)) = some (r1, r2) := by rw [if_pos rfl] at H; exact H
              clear H
              have H := H1
              clear H1
              simp only [Option.some.injEq, Prod.mk.injEq] at H
              obtain ⟨rfl, rfl⟩ := H
              go_wp2
              go_ret2
              exact ⟨by first | rfl | (simp [*] <;> rfl), by repeat (first | (with_reducible first | exact HB.out | apply below_alloc | apply pwB_ | apply below_drew1 | refine below_set ?_ GE268.out) | exact HB.out)⟩
            · replace c30 := Bool.eq_false_iff.mpr c30
              subst c30
              have H1 : ((ff_less.f t266 t267 a2 a3).bind fun t272 => ((ff_less.f t266 t267 a3 a2).bind fun t273 => (if a1 = 1 then (if t272 = true then (some (false, 0)) else (some (!t273, 0))) else (if a1 = 2 then (if t272 = true then (some (true, 0)) else (some (t273, 0))) else (if a1 = 3 then (some (t272, 0)) else (if a1 = 4 then (some (t273, 0)) else (if a1 = 5 then (some (!t273, 0)) else (some (!t272, 0))))))))) = some (r1, r2) := by rw [if_neg (show ¬ (false = true) by decide)] at H; exact H
              clear H
              have H := H1
              clear H1
              replace H := Option.bind_eq_some_iff.mp H
              obtain ⟨t272, A310, H⟩ := H
              replace H : ((ff_less.f t266 t267 a3 a2).bind fun t273 => (if a1 = 1 then (if t272 = true then (some (false, 0)) else (some (!t273, 0))) else (if a1 = 2 then (if t272 = true then (some (true, 0)) else (some (t273, 0))) else (if a1 = 3 then (some (t272, 0)) else (if a1 = 4 then (some (t273, 0)) else (if a1 = 5 then (some (!t273, 0)) else (some (!t272, 0)))))))) = some (r1, r2) := H
              have A31 := Aside0.mk A310
              clear A310
              replace H := Option.bind_eq_some_iff.mp H
              obtain ⟨t273, A320, H⟩ := H
              replace H : (if a1 = 1 then (if t272 = true then (some (false, 0)) else (some (!t273, 0))) else (if a1 = 2 then (if t272 = true then (some (true, 0)) else (some (t273, 0))) else (if a1 = 3 then (some (t272, 0)) else (if a1 = 4 then (some (t273, 0)) else (if a1 = 5 then (some (!t273, 0)) else (some (!t272, 0))))))) = some (r1, r2) := H
              have A32 := Aside0.mk A320
              clear A320
              by_cases c33 : a1 = 1
              · rw [if_pos c33] at H
                have c33b0 : (a1 == 1) = true := beq_iff_eq.mpr c33
                have c33b1 : (a1 != 1) = false := bne_eq_false_iff_eq.mpr c33
                clear c33
                by_cases c34 : t272 = true
                · subst c34
                  have H1 : (some (false, 0)) = some (r1, r2) := by rw [if_pos rfl] at H; exact H
                  clear H
                  have H := H1
                  clear H1
                  simp only [Option.some.injEq, Prod.mk.injEq] at H
                  obtain ⟨rfl, rfl⟩ := H
                  try go_wp2
                  have n0_ := Aside0.mk (blk_drew BK268.out)
                  have n1_ := Aside0.mk (below_drew1 HB.out)
                  clear BK268
                  clear HB
                  have BK268 := n0_
                  have HB := n1_
                  clear n0_ n1_
                  refine start_ (n := 10) (S := fun w' => w'.cell? ⟨gb268, 0, none⟩ = some (.int .i64 t266) ∧ w'.cell? ⟨gb268, 1, none⟩ = some (.int .i64 t267)) (ds := []) #[false, false, false, false, false, false, false, false, false, false] (by kernel_rfl) rfl rfl ⟨(blk_cell BK268.out 0).trans rfl, (blk_cell BK268.out 1).trans rfl⟩ (fun hHeld => ?_); refine with_tabW floats_Rel.tab6 floats_Rel.bits6 (fun HT_ HW_ => ?_)
                  generalize wc.drew = w35 at BK268 HB hHeld ⊢
                  refine pure_ (i := 1) (N := some 36) (v := ?_) (a' := ?_) #[false, true, false, false, false, false, false, false, false, false] rfl rfl (any_of HT_.out (by kernel_rfl)) (fun _ _ _ h => h) (Or.inl ⟨by rfl, ?_⟩) ?_ ?_
                  rotate_left
                  · intro w'
                    go_simp
                    with_reducible rfl
                  rotate_left
                  · simp only [Act.put, List.setIfInBounds_toArray, List.set_cons_zero, List.set_cons_succ, i64_w, i32_w]
                    rfl
                  refine pure_ (i := 2) (N := some 37) (v := ?_) (a' := ?_) #[false, true, true, false, false, false, false, false, false, false] rfl rfl (any_of HT_.out (by kernel_rfl)) (fun _ _ _ h => h) (Or.inl ⟨by rfl, ?_⟩) ?_ ?_
                  rotate_left
                  · intro w'
                    go_simp
                    with_reducible rfl
                  rotate_left
                  · simp only [Act.put, List.setIfInBounds_toArray, List.set_cons_zero, List.set_cons_succ, i64_w, i32_w]
                    rfl
                  refine pure_ (i := 5) (N := some 40) (v := ?_) (a' := ?_) #[false, true, true, false, false, true, false, false, false, false] rfl rfl (any_of HT_.out (by kernel_rfl)) (fun _ _ _ h => h) (Or.inl ⟨by rfl, ?_⟩) ?_ ?_
                  rotate_left
                  · intro w'
                    go_simp
                    with_reducible rfl
                  rotate_left
                  · simp only [Act.put, List.setIfInBounds_toArray, List.set_cons_zero, List.set_cons_succ, i64_w, i32_w]
                    rfl
                  refine pure_ (i := 6) (N := some 41) (v := ?_) (a' := ?_) #[false, true, true, false, false, true, true, false, false, false] rfl rfl (any_of HT_.out (by kernel_rfl)) (fun _ _ _ h => h) (Or.inl ⟨by rfl, ?_⟩) ?_ ?_
                  rotate_left
                  · intro w'
                    go_simp
                    with_reducible rfl
                  rotate_left
                  · simp only [Act.put, List.setIfInBounds_toArray, List.set_cons_zero, List.set_cons_succ, i64_w, i32_w]
                    rfl
                  refine take_ (i := 0) (N := some 35) (v := ?_) (a' := ?_) #[true, true, true, false, false, true, true, false, false, false] rfl rfl (take_ofW HT_.out HW_.out (by kernel_rfl)) (fun _ _ _ h => h) (Or.inl ⟨by rfl, ?_⟩) hHeld ?_ ?_
                  rotate_left
                  · rintro w' ⟨s0, s1⟩
                    go_simp
                    with_reducible rfl
                  rotate_left
                  · simp only [Act.put, List.setIfInBounds_toArray, List.set_cons_zero, List.set_cons_succ, i64_w, i32_w]
                    rfl
                  refine take_ (i := 4) (N := some 39) (v := ?_) (a' := ?_) #[true, true, true, false, true, true, true, false, false, false] rfl rfl (take_ofW HT_.out HW_.out (by kernel_rfl)) (fun _ _ _ h => h) (Or.inl ⟨by rfl, ?_⟩) hHeld ?_ ?_
                  rotate_left
                  · rintro w' ⟨s0, s1⟩
                    go_simp
                    with_reducible rfl
                  rotate_left
                  · simp only [Act.put, List.setIfInBounds_toArray, List.set_cons_zero, List.set_cons_succ, i64_w, i32_w]
                    rfl
                  refine one_ (i := 3) (N := some 38) #[true, true, true, true, true, true, true, false, false, false] rfl rfl (one_of HT_.out (by kernel_rfl)) (by decide) (fun K hK => ?_)
                  refine goes_ Try.func41 (by kernel_rfl) rfl #[.agg #[.int .i64 t266, .int .i64 t267], .int .u64 a2, .int .u64 a3] (by rfl) rfl rfl (by (try simp only [List.map_toArray, List.map_cons, List.map_nil]); first | done | rfl) ?_
                  with_reducible refine (ff_less.calls t266 t267 a2 a3 true _ A31.out).mono ?_
                  rintro e w36 ⟨rfl, hb⟩
                  refine ⟨_, rfl, ?_⟩
                  have n0_ := Aside0.mk (blk_below (g := gb268) (o := .cells #[.int .i64 t266, .int .i64 t267] 43 (0, 0)) (by (with_reducible repeat (first | refine blk_drewN ?_ _ | refine blk_drew ?_ | refine blk_alloc ?_ _)); exact BK268.out) hb)
                  have n1_ := Aside0.mk (below_step (by repeat (first | (with_reducible first | exact HB.out | apply below_alloc | apply pwB_ | apply below_drew1 | refine below_set ?_ GE268.out) | exact HB.out)) hb)
                  clear BK268
                  clear HB
                  have BK268 := n0_
                  have HB := n1_
                  clear n0_ n1_
                  (try clear hb)
                  (try clear hb2)
                  (try clear hk)
                  (try clear hi)
                  refine hK.out _ _ ⟨(blk_cell BK268.out 0).trans rfl, (blk_cell BK268.out 1).trans rfl⟩ (fun hHeld => ?_)
                  clear hK K
                  refine norm_ (a' := ?_) ?_ ?_
                  rotate_left
                  · show Act.put _ (some 38) _ = _
                    simp only [Act.put, List.setIfInBounds_toArray, List.set_cons_zero, List.set_cons_succ, i64_w, i32_w]
                    rfl
                  refine one_ (i := 7) (N := some 42) #[true, true, true, true, true, true, true, true, false, false] rfl rfl (one_of HT_.out (by kernel_rfl)) (by decide) (fun K hK => ?_)
                  refine goes_ Try.func41 (by kernel_rfl) rfl #[.agg #[.int .i64 t266, .int .i64 t267], .int .u64 a3, .int .u64 a2] (by rfl) rfl rfl (by (try simp only [List.map_toArray, List.map_cons, List.map_nil]); first | done | rfl) ?_
                  with_reducible refine (ff_less.calls t266 t267 a3 a2 t273 _ A32.out).mono ?_
                  rintro e w37 ⟨rfl, hb⟩
                  refine ⟨_, rfl, ?_⟩
                  have n0_ := Aside0.mk (blk_below (g := gb268) (o := .cells #[.int .i64 t266, .int .i64 t267] 43 (0, 0)) (by (with_reducible repeat (first | refine blk_drewN ?_ _ | refine blk_drew ?_ | refine blk_alloc ?_ _)); exact BK268.out) hb)
                  have n1_ := Aside0.mk (below_step (by repeat (first | (with_reducible first | exact HB.out | apply below_alloc | apply pwB_ | apply below_drew1 | refine below_set ?_ GE268.out) | exact HB.out)) hb)
                  clear BK268
                  clear HB
                  have BK268 := n0_
                  have HB := n1_
                  clear n0_ n1_
                  (try clear hb)
                  (try clear hb2)
                  (try clear hk)
                  (try clear hi)
                  refine hK.out _ _ ⟨(blk_cell BK268.out 0).trans rfl, (blk_cell BK268.out 1).trans rfl⟩ (fun hHeld => ?_)
                  clear hK K
                  refine norm_ (a' := ?_) ?_ ?_
                  rotate_left
                  · show Act.put _ (some 42) _ = _
                    simp only [Act.put, List.setIfInBounds_toArray, List.set_cons_zero, List.set_cons_succ, i64_w, i32_w]
                    rfl
                  refine pure_ (i := 8) (N := some 11) (v := ?_) (a' := ?_) #[true, true, true, true, true, true, true, true, true, false] rfl rfl (any_of HT_.out (by kernel_rfl)) (fun _ _ _ h => h) (Or.inl ⟨by rfl, ?_⟩) ?_ ?_
                  rotate_left
                  · intro w'
                    go_simp
                    with_reducible rfl
                  rotate_left
                  · simp only [Act.put, List.setIfInBounds_toArray, List.set_cons_zero, List.set_cons_succ, i64_w, i32_w]
                    rfl
                  refine pure_ (i := 9) (N := some 12) (v := ?_) (a' := ?_) #[true, true, true, true, true, true, true, true, true, true] rfl rfl (any_of HT_.out (by kernel_rfl)) (fun _ _ _ h => h) (Or.inl ⟨by rfl, ?_⟩) ?_ ?_
                  rotate_left
                  · intro w'
                    go_simp
                    with_reducible rfl
                  rotate_left
                  · simp only [Act.put, List.setIfInBounds_toArray, List.set_cons_zero, List.set_cons_succ, i64_w, i32_w]
                    rfl
                  refine done_ (done_of HT_.out (by kernel_rfl)) ?_
                  try go_wp2
                  go_ret2
                  exact ⟨by first | rfl | (simp [*] <;> rfl), by repeat (first | (with_reducible first | exact HB.out | apply below_alloc | apply pwB_ | apply below_drew1 | refine below_set ?_ GE268.out) | exact HB.out)⟩
                · replace c34 := Bool.eq_false_iff.mpr c34
                  subst c34
                  have H1 : (some (!t273, 0)) = some (r1, r2) := by rw [if_neg (show ¬ (false = true) by decide)] at H; exact H
                  clear H
                  have H := H1
                  clear H1
                  simp only [Option.some.injEq, Prod.mk.injEq] at H
                  obtain ⟨rfl, rfl⟩ := H
                  try go_wp2
                  have n0_ := Aside0.mk (blk_drew BK268.out)
                  have n1_ := Aside0.mk (below_drew1 HB.out)
                  clear BK268
                  clear HB
                  have BK268 := n0_
                  have HB := n1_
                  clear n0_ n1_
                  refine start_ (n := 10) (S := fun w' => w'.cell? ⟨gb268, 0, none⟩ = some (.int .i64 t266) ∧ w'.cell? ⟨gb268, 1, none⟩ = some (.int .i64 t267)) (ds := []) #[false, false, false, false, false, false, false, false, false, false] (by kernel_rfl) rfl rfl ⟨(blk_cell BK268.out 0).trans rfl, (blk_cell BK268.out 1).trans rfl⟩ (fun hHeld => ?_); refine with_tabW floats_Rel.tab6 floats_Rel.bits6 (fun HT_ HW_ => ?_)
                  generalize wc.drew = w38 at BK268 HB hHeld ⊢
                  refine pure_ (i := 1) (N := some 36) (v := ?_) (a' := ?_) #[false, true, false, false, false, false, false, false, false, false] rfl rfl (any_of HT_.out (by kernel_rfl)) (fun _ _ _ h => h) (Or.inl ⟨by rfl, ?_⟩) ?_ ?_
                  rotate_left
                  · intro w'
                    go_simp
                    with_reducible rfl
                  rotate_left
                  · simp only [Act.put, List.setIfInBounds_toArray, List.set_cons_zero, List.set_cons_succ, i64_w, i32_w]
                    rfl
                  refine pure_ (i := 2) (N := some 37) (v := ?_) (a' := ?_) #[false, true, true, false, false, false, false, false, false, false] rfl rfl (any_of HT_.out (by kernel_rfl)) (fun _ _ _ h => h) (Or.inl ⟨by rfl, ?_⟩) ?_ ?_
                  rotate_left
                  · intro w'
                    go_simp
                    with_reducible rfl
                  rotate_left
                  · simp only [Act.put, List.setIfInBounds_toArray, List.set_cons_zero, List.set_cons_succ, i64_w, i32_w]
                    rfl
                  refine pure_ (i := 5) (N := some 40) (v := ?_) (a' := ?_) #[false, true, true, false, false, true, false, false, false, false] rfl rfl (any_of HT_.out (by kernel_rfl)) (fun _ _ _ h => h) (Or.inl ⟨by rfl, ?_⟩) ?_ ?_
                  rotate_left
                  · intro w'
                    go_simp
                    with_reducible rfl
                  rotate_left
                  · simp only [Act.put, List.setIfInBounds_toArray, List.set_cons_zero, List.set_cons_succ, i64_w, i32_w]
                    rfl
                  refine pure_ (i := 6) (N := some 41) (v := ?_) (a' := ?_) #[false, true, true, false, false, true, true, false, false, false] rfl rfl (any_of HT_.out (by kernel_rfl)) (fun _ _ _ h => h) (Or.inl ⟨by rfl, ?_⟩) ?_ ?_
                  rotate_left
                  · intro w'
                    go_simp
                    with_reducible rfl
                  rotate_left
                  · simp only [Act.put, List.setIfInBounds_toArray, List.set_cons_zero, List.set_cons_succ, i64_w, i32_w]
                    rfl
                  refine take_ (i := 0) (N := some 35) (v := ?_) (a' := ?_) #[true, true, true, false, false, true, true, false, false, false] rfl rfl (take_ofW HT_.out HW_.out (by kernel_rfl)) (fun _ _ _ h => h) (Or.inl ⟨by rfl, ?_⟩) hHeld ?_ ?_
                  rotate_left
                  · rintro w' ⟨s0, s1⟩
                    go_simp
                    with_reducible rfl
                  rotate_left
                  · simp only [Act.put, List.setIfInBounds_toArray, List.set_cons_zero, List.set_cons_succ, i64_w, i32_w]
                    rfl
                  refine take_ (i := 4) (N := some 39) (v := ?_) (a' := ?_) #[true, true, true, false, true, true, true, false, false, false] rfl rfl (take_ofW HT_.out HW_.out (by kernel_rfl)) (fun _ _ _ h => h) (Or.inl ⟨by rfl, ?_⟩) hHeld ?_ ?_
                  rotate_left
                  · rintro w' ⟨s0, s1⟩
                    go_simp
                    with_reducible rfl
                  rotate_left
                  · simp only [Act.put, List.setIfInBounds_toArray, List.set_cons_zero, List.set_cons_succ, i64_w, i32_w]
                    rfl
                  refine one_ (i := 3) (N := some 38) #[true, true, true, true, true, true, true, false, false, false] rfl rfl (one_of HT_.out (by kernel_rfl)) (by decide) (fun K hK => ?_)
                  refine goes_ Try.func41 (by kernel_rfl) rfl #[.agg #[.int .i64 t266, .int .i64 t267], .int .u64 a2, .int .u64 a3] (by rfl) rfl rfl (by (try simp only [List.map_toArray, List.map_cons, List.map_nil]); first | done | rfl) ?_
                  with_reducible refine (ff_less.calls t266 t267 a2 a3 false _ A31.out).mono ?_
                  rintro e w39 ⟨rfl, hb⟩
                  refine ⟨_, rfl, ?_⟩
                  have n0_ := Aside0.mk (blk_below (g := gb268) (o := .cells #[.int .i64 t266, .int .i64 t267] 43 (0, 0)) (by (with_reducible repeat (first | refine blk_drewN ?_ _ | refine blk_drew ?_ | refine blk_alloc ?_ _)); exact BK268.out) hb)
                  have n1_ := Aside0.mk (below_step (by repeat (first | (with_reducible first | exact HB.out | apply below_alloc | apply pwB_ | apply below_drew1 | refine below_set ?_ GE268.out) | exact HB.out)) hb)
                  clear BK268
                  clear HB
                  have BK268 := n0_
                  have HB := n1_
                  clear n0_ n1_
                  (try clear hb)
                  (try clear hb2)
                  (try clear hk)
                  (try clear hi)
                  refine hK.out _ _ ⟨(blk_cell BK268.out 0).trans rfl, (blk_cell BK268.out 1).trans rfl⟩ (fun hHeld => ?_)
                  clear hK K
                  refine norm_ (a' := ?_) ?_ ?_
                  rotate_left
                  · show Act.put _ (some 38) _ = _
                    simp only [Act.put, List.setIfInBounds_toArray, List.set_cons_zero, List.set_cons_succ, i64_w, i32_w]
                    rfl
                  refine one_ (i := 7) (N := some 42) #[true, true, true, true, true, true, true, true, false, false] rfl rfl (one_of HT_.out (by kernel_rfl)) (by decide) (fun K hK => ?_)
                  refine goes_ Try.func41 (by kernel_rfl) rfl #[.agg #[.int .i64 t266, .int .i64 t267], .int .u64 a3, .int .u64 a2] (by rfl) rfl rfl (by (try simp only [List.map_toArray, List.map_cons, List.map_nil]); first | done | rfl) ?_
                  with_reducible refine (ff_less.calls t266 t267 a3 a2 t273 _ A32.out).mono ?_
                  rintro e w40 ⟨rfl, hb⟩
                  refine ⟨_, rfl, ?_⟩
                  have n0_ := Aside0.mk (blk_below (g := gb268) (o := .cells #[.int .i64 t266, .int .i64 t267] 43 (0, 0)) (by (with_reducible repeat (first | refine blk_drewN ?_ _ | refine blk_drew ?_ | refine blk_alloc ?_ _)); exact BK268.out) hb)
                  have n1_ := Aside0.mk (below_step (by repeat (first | (with_reducible first | exact HB.out | apply below_alloc | apply pwB_ | apply below_drew1 | refine below_set ?_ GE268.out) | exact HB.out)) hb)
                  clear BK268
                  clear HB
                  have BK268 := n0_
                  have HB := n1_
                  clear n0_ n1_
                  (try clear hb)
                  (try clear hb2)
                  (try clear hk)
                  (try clear hi)
                  refine hK.out _ _ ⟨(blk_cell BK268.out 0).trans rfl, (blk_cell BK268.out 1).trans rfl⟩ (fun hHeld => ?_)
                  clear hK K
                  refine norm_ (a' := ?_) ?_ ?_
                  rotate_left
                  · show Act.put _ (some 42) _ = _
                    simp only [Act.put, List.setIfInBounds_toArray, List.set_cons_zero, List.set_cons_succ, i64_w, i32_w]
                    rfl
                  refine pure_ (i := 8) (N := some 11) (v := ?_) (a' := ?_) #[true, true, true, true, true, true, true, true, true, false] rfl rfl (any_of HT_.out (by kernel_rfl)) (fun _ _ _ h => h) (Or.inl ⟨by rfl, ?_⟩) ?_ ?_
                  rotate_left
                  · intro w'
                    go_simp
                    with_reducible rfl
                  rotate_left
                  · simp only [Act.put, List.setIfInBounds_toArray, List.set_cons_zero, List.set_cons_succ, i64_w, i32_w]
                    rfl
                  refine pure_ (i := 9) (N := some 12) (v := ?_) (a' := ?_) #[true, true, true, true, true, true, true, true, true, true] rfl rfl (any_of HT_.out (by kernel_rfl)) (fun _ _ _ h => h) (Or.inl ⟨by rfl, ?_⟩) ?_ ?_
                  rotate_left
                  · intro w'
                    go_simp
                    with_reducible rfl
                  rotate_left
                  · simp only [Act.put, List.setIfInBounds_toArray, List.set_cons_zero, List.set_cons_succ, i64_w, i32_w]
                    rfl
                  refine done_ (done_of HT_.out (by kernel_rfl)) ?_
                  try go_wp2
                  go_ret2
                  exact ⟨by first | rfl | (simp [*] <;> rfl), by repeat (first | (with_reducible first | exact HB.out | apply below_alloc | apply pwB_ | apply below_drew1 | refine below_set ?_ GE268.out) | exact HB.out)⟩
              · rw [if_neg c33] at H
                have c33b0 : (a1 == 1) = false := beq_eq_false_iff_ne.mpr c33
                have c33b1 : (a1 != 1) = true := bne_iff_ne.mpr c33
                by_cases c41 : a1 = 2
                · rw [if_pos c41] at H
                  have c41b0 : (a1 == 2) = true := beq_iff_eq.mpr c41
                  have c41b1 : (a1 != 2) = false := bne_eq_false_iff_eq.mpr c41
                  clear c41
                  by_cases c42 : t272 = true
                  · subst c42
                    have H1 : (some (true, 0)) = some (r1, r2) := by rw [if_pos rfl] at H; exact H
                    clear H
                    have H := H1
                    clear H1
                    simp only [Option.some.injEq, Prod.mk.injEq] at H
                    obtain ⟨rfl, rfl⟩ := H
                    try go_wp2
                    have n0_ := Aside0.mk (blk_drew BK268.out)
                    have n1_ := Aside0.mk (below_drew1 HB.out)
                    clear BK268
                    clear HB
                    have BK268 := n0_
                    have HB := n1_
                    clear n0_ n1_
                    refine start_ (n := 10) (S := fun w' => w'.cell? ⟨gb268, 0, none⟩ = some (.int .i64 t266) ∧ w'.cell? ⟨gb268, 1, none⟩ = some (.int .i64 t267)) (ds := []) #[false, false, false, false, false, false, false, false, false, false] (by kernel_rfl) rfl rfl ⟨(blk_cell BK268.out 0).trans rfl, (blk_cell BK268.out 1).trans rfl⟩ (fun hHeld => ?_); refine with_tabW floats_Rel.tab6 floats_Rel.bits6 (fun HT_ HW_ => ?_)
                    generalize wc.drew = w43 at BK268 HB hHeld ⊢
                    refine pure_ (i := 1) (N := some 36) (v := ?_) (a' := ?_) #[false, true, false, false, false, false, false, false, false, false] rfl rfl (any_of HT_.out (by kernel_rfl)) (fun _ _ _ h => h) (Or.inl ⟨by rfl, ?_⟩) ?_ ?_
                    rotate_left
                    · intro w'
                      go_simp
                      with_reducible rfl
                    rotate_left
                    · simp only [Act.put, List.setIfInBounds_toArray, List.set_cons_zero, List.set_cons_succ, i64_w, i32_w]
                      rfl
                    refine pure_ (i := 2) (N := some 37) (v := ?_) (a' := ?_) #[false, true, true, false, false, false, false, false, false, false] rfl rfl (any_of HT_.out (by kernel_rfl)) (fun _ _ _ h => h) (Or.inl ⟨by rfl, ?_⟩) ?_ ?_
                    rotate_left
                    · intro w'
                      go_simp
                      with_reducible rfl
                    rotate_left
                    · simp only [Act.put, List.setIfInBounds_toArray, List.set_cons_zero, List.set_cons_succ, i64_w, i32_w]
                      rfl
                    refine pure_ (i := 5) (N := some 40) (v := ?_) (a' := ?_) #[false, true, true, false, false, true, false, false, false, false] rfl rfl (any_of HT_.out (by kernel_rfl)) (fun _ _ _ h => h) (Or.inl ⟨by rfl, ?_⟩) ?_ ?_
                    rotate_left
                    · intro w'
                      go_simp
                      with_reducible rfl
                    rotate_left
                    · simp only [Act.put, List.setIfInBounds_toArray, List.set_cons_zero, List.set_cons_succ, i64_w, i32_w]
                      rfl
                    refine pure_ (i := 6) (N := some 41) (v := ?_) (a' := ?_) #[false, true, true, false, false, true, true, false, false, false] rfl rfl (any_of HT_.out (by kernel_rfl)) (fun _ _ _ h => h) (Or.inl ⟨by rfl, ?_⟩) ?_ ?_
                    rotate_left
                    · intro w'
                      go_simp
                      with_reducible rfl
                    rotate_left
                    · simp only [Act.put, List.setIfInBounds_toArray, List.set_cons_zero, List.set_cons_succ, i64_w, i32_w]
                      rfl
                    refine take_ (i := 0) (N := some 35) (v := ?_) (a' := ?_) #[true, true, true, false, false, true, true, false, false, false] rfl rfl (take_ofW HT_.out HW_.out (by kernel_rfl)) (fun _ _ _ h => h) (Or.inl ⟨by rfl, ?_⟩) hHeld ?_ ?_
                    rotate_left
                    · rintro w' ⟨s0, s1⟩
                      go_simp
                      with_reducible rfl
                    rotate_left
                    · simp only [Act.put, List.setIfInBounds_toArray, List.set_cons_zero, List.set_cons_succ, i64_w, i32_w]
                      rfl
                    refine take_ (i := 4) (N := some 39) (v := ?_) (a' := ?_) #[true, true, true, false, true, true, true, false, false, false] rfl rfl (take_ofW HT_.out HW_.out (by kernel_rfl)) (fun _ _ _ h => h) (Or.inl ⟨by rfl, ?_⟩) hHeld ?_ ?_
                    rotate_left
                    · rintro w' ⟨s0, s1⟩
                      go_simp
                      with_reducible rfl
                    rotate_left
                    · simp only [Act.put, List.setIfInBounds_toArray, List.set_cons_zero, List.set_cons_succ, i64_w, i32_w]
                      rfl
                    refine one_ (i := 3) (N := some 38) #[true, true, true, true, true, true, true, false, false, false] rfl rfl (one_of HT_.out (by kernel_rfl)) (by decide) (fun K hK => ?_)
                    refine goes_ Try.func41 (by kernel_rfl) rfl #[.agg #[.int .i64 t266, .int .i64 t267], .int .u64 a2, .int .u64 a3] (by rfl) rfl rfl (by (try simp only [List.map_toArray, List.map_cons, List.map_nil]); first | done | rfl) ?_
                    with_reducible refine (ff_less.calls t266 t267 a2 a3 true _ A31.out).mono ?_
                    rintro e w44 ⟨rfl, hb⟩
                    refine ⟨_, rfl, ?_⟩
                    have n0_ := Aside0.mk (blk_below (g := gb268) (o := .cells #[.int .i64 t266, .int .i64 t267] 43 (0, 0)) (by (with_reducible repeat (first | refine blk_drewN ?_ _ | refine blk_drew ?_ | refine blk_alloc ?_ _)); exact BK268.out) hb)
                    have n1_ := Aside0.mk (below_step (by repeat (first | (with_reducible first | exact HB.out | apply below_alloc | apply pwB_ | apply below_drew1 | refine below_set ?_ GE268.out) | exact HB.out)) hb)
                    clear BK268
                    clear HB
                    have BK268 := n0_
                    have HB := n1_
                    clear n0_ n1_
                    (try clear hb)
                    (try clear hb2)
                    (try clear hk)
                    (try clear hi)
                    refine hK.out _ _ ⟨(blk_cell BK268.out 0).trans rfl, (blk_cell BK268.out 1).trans rfl⟩ (fun hHeld => ?_)
                    clear hK K
                    refine norm_ (a' := ?_) ?_ ?_
                    rotate_left
                    · show Act.put _ (some 38) _ = _
                      simp only [Act.put, List.setIfInBounds_toArray, List.set_cons_zero, List.set_cons_succ, i64_w, i32_w]
                      rfl
                    refine one_ (i := 7) (N := some 42) #[true, true, true, true, true, true, true, true, false, false] rfl rfl (one_of HT_.out (by kernel_rfl)) (by decide) (fun K hK => ?_)
                    refine goes_ Try.func41 (by kernel_rfl) rfl #[.agg #[.int .i64 t266, .int .i64 t267], .int .u64 a3, .int .u64 a2] (by rfl) rfl rfl (by (try simp only [List.map_toArray, List.map_cons, List.map_nil]); first | done | rfl) ?_
                    with_reducible refine (ff_less.calls t266 t267 a3 a2 t273 _ A32.out).mono ?_
                    rintro e w45 ⟨rfl, hb⟩
                    refine ⟨_, rfl, ?_⟩
                    have n0_ := Aside0.mk (blk_below (g := gb268) (o := .cells #[.int .i64 t266, .int .i64 t267] 43 (0, 0)) (by (with_reducible repeat (first | refine blk_drewN ?_ _ | refine blk_drew ?_ | refine blk_alloc ?_ _)); exact BK268.out) hb)
                    have n1_ := Aside0.mk (below_step (by repeat (first | (with_reducible first | exact HB.out | apply below_alloc | apply pwB_ | apply below_drew1 | refine below_set ?_ GE268.out) | exact HB.out)) hb)
                    clear BK268
                    clear HB
                    have BK268 := n0_
                    have HB := n1_
                    clear n0_ n1_
                    (try clear hb)
                    (try clear hb2)
                    (try clear hk)
                    (try clear hi)
                    refine hK.out _ _ ⟨(blk_cell BK268.out 0).trans rfl, (blk_cell BK268.out 1).trans rfl⟩ (fun hHeld => ?_)
                    clear hK K
                    refine norm_ (a' := ?_) ?_ ?_
                    rotate_left
                    · show Act.put _ (some 42) _ = _
                      simp only [Act.put, List.setIfInBounds_toArray, List.set_cons_zero, List.set_cons_succ, i64_w, i32_w]
                      rfl
                    refine pure_ (i := 8) (N := some 11) (v := ?_) (a' := ?_) #[true, true, true, true, true, true, true, true, true, false] rfl rfl (any_of HT_.out (by kernel_rfl)) (fun _ _ _ h => h) (Or.inl ⟨by rfl, ?_⟩) ?_ ?_
                    rotate_left
                    · intro w'
                      go_simp
                      with_reducible rfl
                    rotate_left
                    · simp only [Act.put, List.setIfInBounds_toArray, List.set_cons_zero, List.set_cons_succ, i64_w, i32_w]
                      rfl
                    refine pure_ (i := 9) (N := some 12) (v := ?_) (a' := ?_) #[true, true, true, true, true, true, true, true, true, true] rfl rfl (any_of HT_.out (by kernel_rfl)) (fun _ _ _ h => h) (Or.inl ⟨by rfl, ?_⟩) ?_ ?_
                    rotate_left
                    · intro w'
                      go_simp
                      with_reducible rfl
                    rotate_left
                    · simp only [Act.put, List.setIfInBounds_toArray, List.set_cons_zero, List.set_cons_succ, i64_w, i32_w]
                      rfl
                    refine done_ (done_of HT_.out (by kernel_rfl)) ?_
                    try go_wp2
                    go_ret2
                    exact ⟨by first | rfl | (simp [*] <;> rfl), by repeat (first | (with_reducible first | exact HB.out | apply below_alloc | apply pwB_ | apply below_drew1 | refine below_set ?_ GE268.out) | exact HB.out)⟩
                  · replace c42 := Bool.eq_false_iff.mpr c42
                    subst c42
                    have H1 : (some (t273, 0)) = some (r1, r2) := by rw [if_neg (show ¬ (false = true) by decide)] at H; exact H
                    clear H
                    have H := H1
                    clear H1
                    simp only [Option.some.injEq, Prod.mk.injEq] at H
                    obtain ⟨rfl, rfl⟩ := H
                    try go_wp2
                    have n0_ := Aside0.mk (blk_drew BK268.out)
                    have n1_ := Aside0.mk (below_drew1 HB.out)
                    clear BK268
                    clear HB
                    have BK268 := n0_
                    have HB := n1_
                    clear n0_ n1_
                    refine start_ (n := 10) (S := fun w' => w'.cell? ⟨gb268, 0, none⟩ = some (.int .i64 t266) ∧ w'.cell? ⟨gb268, 1, none⟩ = some (.int .i64 t267)) (ds := []) #[false, false, false, false, false, false, false, false, false, false] (by kernel_rfl) rfl rfl ⟨(blk_cell BK268.out 0).trans rfl, (blk_cell BK268.out 1).trans rfl⟩ (fun hHeld => ?_); refine with_tabW floats_Rel.tab6 floats_Rel.bits6 (fun HT_ HW_ => ?_)
                    generalize wc.drew = w46 at BK268 HB hHeld ⊢
                    refine pure_ (i := 1) (N := some 36) (v := ?_) (a' := ?_) #[false, true, false, false, false, false, false, false, false, false] rfl rfl (any_of HT_.out (by kernel_rfl)) (fun _ _ _ h => h) (Or.inl ⟨by rfl, ?_⟩) ?_ ?_
                    rotate_left
                    · intro w'
                      go_simp
                      with_reducible rfl
                    rotate_left
                    · simp only [Act.put, List.setIfInBounds_toArray, List.set_cons_zero, List.set_cons_succ, i64_w, i32_w]
                      rfl
                    refine pure_ (i := 2) (N := some 37) (v := ?_) (a' := ?_) #[false, true, true, false, false, false, false, false, false, false] rfl rfl (any_of HT_.out (by kernel_rfl)) (fun _ _ _ h => h) (Or.inl ⟨by rfl, ?_⟩) ?_ ?_
                    rotate_left
                    · intro w'
                      go_simp
                      with_reducible rfl
                    rotate_left
                    · simp only [Act.put, List.setIfInBounds_toArray, List.set_cons_zero, List.set_cons_succ, i64_w, i32_w]
                      rfl
                    refine pure_ (i := 5) (N := some 40) (v := ?_) (a' := ?_) #[false, true, true, false, false, true, false, false, false, false] rfl rfl (any_of HT_.out (by kernel_rfl)) (fun _ _ _ h => h) (Or.inl ⟨by rfl, ?_⟩) ?_ ?_
                    rotate_left
                    · intro w'
                      go_simp
                      with_reducible rfl
                    rotate_left
                    · simp only [Act.put, List.setIfInBounds_toArray, List.set_cons_zero, List.set_cons_succ, i64_w, i32_w]
                      rfl
                    refine pure_ (i := 6) (N := some 41) (v := ?_) (a' := ?_) #[false, true, true, false, false, true, true, false, false, false] rfl rfl (any_of HT_.out (by kernel_rfl)) (fun _ _ _ h => h) (Or.inl ⟨by rfl, ?_⟩) ?_ ?_
                    rotate_left
                    · intro w'
                      go_simp
                      with_reducible rfl
                    rotate_left
                    · simp only [Act.put, List.setIfInBounds_toArray, List.set_cons_zero, List.set_cons_succ, i64_w, i32_w]
                      rfl
                    refine take_ (i := 0) (N := some 35) (v := ?_) (a' := ?_) #[true, true, true, false, false, true, true, false, false, false] rfl rfl (take_ofW HT_.out HW_.out (by kernel_rfl)) (fun _ _ _ h => h) (Or.inl ⟨by rfl, ?_⟩) hHeld ?_ ?_
                    rotate_left
                    · rintro w' ⟨s0, s1⟩
                      go_simp
                      with_reducible rfl
                    rotate_left
                    · simp only [Act.put, List.setIfInBounds_toArray, List.set_cons_zero, List.set_cons_succ, i64_w, i32_w]
                      rfl
                    refine take_ (i := 4) (N := some 39) (v := ?_) (a' := ?_) #[true, true, true, false, true, true, true, false, false, false] rfl rfl (take_ofW HT_.out HW_.out (by kernel_rfl)) (fun _ _ _ h => h) (Or.inl ⟨by rfl, ?_⟩) hHeld ?_ ?_
                    rotate_left
                    · rintro w' ⟨s0, s1⟩
                      go_simp
                      with_reducible rfl
                    rotate_left
                    · simp only [Act.put, List.setIfInBounds_toArray, List.set_cons_zero, List.set_cons_succ, i64_w, i32_w]
                      rfl
                    refine one_ (i := 3) (N := some 38) #[true, true, true, true, true, true, true, false, false, false] rfl rfl (one_of HT_.out (by kernel_rfl)) (by decide) (fun K hK => ?_)
                    refine goes_ Try.func41 (by kernel_rfl) rfl #[.agg #[.int .i64 t266, .int .i64 t267], .int .u64 a2, .int .u64 a3] (by rfl) rfl rfl (by (try simp only [List.map_toArray, List.map_cons, List.map_nil]); first | done | rfl) ?_
                    with_reducible refine (ff_less.calls t266 t267 a2 a3 false _ A31.out).mono ?_
                    rintro e w47 ⟨rfl, hb⟩
                    refine ⟨_, rfl, ?_⟩
                    have n0_ := Aside0.mk (blk_below (g := gb268) (o := .cells #[.int .i64 t266, .int .i64 t267] 43 (0, 0)) (by (with_reducible repeat (first | refine blk_drewN ?_ _ | refine blk_drew ?_ | refine blk_alloc ?_ _)); exact BK268.out) hb)
                    have n1_ := Aside0.mk (below_step (by repeat (first | (with_reducible first | exact HB.out | apply below_alloc | apply pwB_ | apply below_drew1 | refine below_set ?_ GE268.out) | exact HB.out)) hb)
                    clear BK268
                    clear HB
                    have BK268 := n0_
                    have HB := n1_
                    clear n0_ n1_
                    (try clear hb)
                    (try clear hb2)
                    (try clear hk)
                    (try clear hi)
                    refine hK.out _ _ ⟨(blk_cell BK268.out 0).trans rfl, (blk_cell BK268.out 1).trans rfl⟩ (fun hHeld => ?_)
                    clear hK K
                    refine norm_ (a' := ?_) ?_ ?_
                    rotate_left
                    · show Act.put _ (some 38) _ = _
                      simp only [Act.put, List.setIfInBounds_toArray, List.set_cons_zero, List.set_cons_succ, i64_w, i32_w]
                      rfl
                    refine one_ (i := 7) (N := some 42) #[true, true, true, true, true, true, true, true, false, false] rfl rfl (one_of HT_.out (by kernel_rfl)) (by decide) (fun K hK => ?_)
                    refine goes_ Try.func41 (by kernel_rfl) rfl #[.agg #[.int .i64 t266, .int .i64 t267], .int .u64 a3, .int .u64 a2] (by rfl) rfl rfl (by (try simp only [List.map_toArray, List.map_cons, List.map_nil]); first | done | rfl) ?_
                    with_reducible refine (ff_less.calls t266 t267 a3 a2 t273 _ A32.out).mono ?_
                    rintro e w48 ⟨rfl, hb⟩
                    refine ⟨_, rfl, ?_⟩
                    have n0_ := Aside0.mk (blk_below (g := gb268) (o := .cells #[.int .i64 t266, .int .i64 t267] 43 (0, 0)) (by (with_reducible repeat (first | refine blk_drewN ?_ _ | refine blk_drew ?_ | refine blk_alloc ?_ _)); exact BK268.out) hb)
                    have n1_ := Aside0.mk (below_step (by repeat (first | (with_reducible first | exact HB.out | apply below_alloc | apply pwB_ | apply below_drew1 | refine below_set ?_ GE268.out) | exact HB.out)) hb)
                    clear BK268
                    clear HB
                    have BK268 := n0_
                    have HB := n1_
                    clear n0_ n1_
                    (try clear hb)
                    (try clear hb2)
                    (try clear hk)
                    (try clear hi)
                    refine hK.out _ _ ⟨(blk_cell BK268.out 0).trans rfl, (blk_cell BK268.out 1).trans rfl⟩ (fun hHeld => ?_)
                    clear hK K
                    refine norm_ (a' := ?_) ?_ ?_
                    rotate_left
                    · show Act.put _ (some 42) _ = _
                      simp only [Act.put, List.setIfInBounds_toArray, List.set_cons_zero, List.set_cons_succ, i64_w, i32_w]
                      rfl
                    refine pure_ (i := 8) (N := some 11) (v := ?_) (a' := ?_) #[true, true, true, true, true, true, true, true, true, false] rfl rfl (any_of HT_.out (by kernel_rfl)) (fun _ _ _ h => h) (Or.inl ⟨by rfl, ?_⟩) ?_ ?_
                    rotate_left
                    · intro w'
                      go_simp
                      with_reducible rfl
                    rotate_left
                    · simp only [Act.put, List.setIfInBounds_toArray, List.set_cons_zero, List.set_cons_succ, i64_w, i32_w]
                      rfl
                    refine pure_ (i := 9) (N := some 12) (v := ?_) (a' := ?_) #[true, true, true, true, true, true, true, true, true, true] rfl rfl (any_of HT_.out (by kernel_rfl)) (fun _ _ _ h => h) (Or.inl ⟨by rfl, ?_⟩) ?_ ?_
                    rotate_left
                    · intro w'
                      go_simp
                      with_reducible rfl
                    rotate_left
                    · simp only [Act.put, List.setIfInBounds_toArray, List.set_cons_zero, List.set_cons_succ, i64_w, i32_w]
                      rfl
                    refine done_ (done_of HT_.out (by kernel_rfl)) ?_
                    try go_wp2
                    go_ret2
                    exact ⟨by first | rfl | (simp [*] <;> rfl), by repeat (first | (with_reducible first | exact HB.out | apply below_alloc | apply pwB_ | apply below_drew1 | refine below_set ?_ GE268.out) | exact HB.out)⟩
                · rw [if_neg c41] at H
                  have c41b0 : (a1 == 2) = false := beq_eq_false_iff_ne.mpr c41
                  have c41b1 : (a1 != 2) = true := bne_iff_ne.mpr c41
                  by_cases c49 : a1 = 3
                  · rw [if_pos c49] at H
                    have c49b0 : (a1 == 3) = true := beq_iff_eq.mpr c49
                    have c49b1 : (a1 != 3) = false := bne_eq_false_iff_eq.mpr c49
                    clear c49
                    simp only [Option.some.injEq, Prod.mk.injEq] at H
                    obtain ⟨rfl, rfl⟩ := H
                    try go_wp2
                    have n0_ := Aside0.mk (blk_drew BK268.out)
                    have n1_ := Aside0.mk (below_drew1 HB.out)
                    clear BK268
                    clear HB
                    have BK268 := n0_
                    have HB := n1_
                    clear n0_ n1_
                    refine start_ (n := 10) (S := fun w' => w'.cell? ⟨gb268, 0, none⟩ = some (.int .i64 t266) ∧ w'.cell? ⟨gb268, 1, none⟩ = some (.int .i64 t267)) (ds := []) #[false, false, false, false, false, false, false, false, false, false] (by kernel_rfl) rfl rfl ⟨(blk_cell BK268.out 0).trans rfl, (blk_cell BK268.out 1).trans rfl⟩ (fun hHeld => ?_); refine with_tabW floats_Rel.tab6 floats_Rel.bits6 (fun HT_ HW_ => ?_)
                    generalize wc.drew = w50 at BK268 HB hHeld ⊢
                    refine pure_ (i := 1) (N := some 36) (v := ?_) (a' := ?_) #[false, true, false, false, false, false, false, false, false, false] rfl rfl (any_of HT_.out (by kernel_rfl)) (fun _ _ _ h => h) (Or.inl ⟨by rfl, ?_⟩) ?_ ?_
                    rotate_left
                    · intro w'
                      go_simp
                      with_reducible rfl
                    rotate_left
                    · simp only [Act.put, List.setIfInBounds_toArray, List.set_cons_zero, List.set_cons_succ, i64_w, i32_w]
                      rfl
                    refine pure_ (i := 2) (N := some 37) (v := ?_) (a' := ?_) #[false, true, true, false, false, false, false, false, false, false] rfl rfl (any_of HT_.out (by kernel_rfl)) (fun _ _ _ h => h) (Or.inl ⟨by rfl, ?_⟩) ?_ ?_
                    rotate_left
                    · intro w'
                      go_simp
                      with_reducible rfl
                    rotate_left
                    · simp only [Act.put, List.setIfInBounds_toArray, List.set_cons_zero, List.set_cons_succ, i64_w, i32_w]
                      rfl
                    refine pure_ (i := 5) (N := some 40) (v := ?_) (a' := ?_) #[false, true, true, false, false, true, false, false, false, false] rfl rfl (any_of HT_.out (by kernel_rfl)) (fun _ _ _ h => h) (Or.inl ⟨by rfl, ?_⟩) ?_ ?_
                    rotate_left
                    · intro w'
                      go_simp
                      with_reducible rfl
                    rotate_left
                    · simp only [Act.put, List.setIfInBounds_toArray, List.set_cons_zero, List.set_cons_succ, i64_w, i32_w]
                      rfl
                    refine pure_ (i := 6) (N := some 41) (v := ?_) (a' := ?_) #[false, true, true, false, false, true, true, false, false, false] rfl rfl (any_of HT_.out (by kernel_rfl)) (fun _ _ _ h => h) (Or.inl ⟨by rfl, ?_⟩) ?_ ?_
                    rotate_left
                    · intro w'
                      go_simp
                      with_reducible rfl
                    rotate_left
                    · simp only [Act.put, List.setIfInBounds_toArray, List.set_cons_zero, List.set_cons_succ, i64_w, i32_w]
                      rfl
                    refine take_ (i := 0) (N := some 35) (v := ?_) (a' := ?_) #[true, true, true, false, false, true, true, false, false, false] rfl rfl (take_ofW HT_.out HW_.out (by kernel_rfl)) (fun _ _ _ h => h) (Or.inl ⟨by rfl, ?_⟩) hHeld ?_ ?_
                    rotate_left
                    · rintro w' ⟨s0, s1⟩
                      go_simp
                      with_reducible rfl
                    rotate_left
                    · simp only [Act.put, List.setIfInBounds_toArray, List.set_cons_zero, List.set_cons_succ, i64_w, i32_w]
                      rfl
                    refine take_ (i := 4) (N := some 39) (v := ?_) (a' := ?_) #[true, true, true, false, true, true, true, false, false, false] rfl rfl (take_ofW HT_.out HW_.out (by kernel_rfl)) (fun _ _ _ h => h) (Or.inl ⟨by rfl, ?_⟩) hHeld ?_ ?_
                    rotate_left
                    · rintro w' ⟨s0, s1⟩
                      go_simp
                      with_reducible rfl
                    rotate_left
                    · simp only [Act.put, List.setIfInBounds_toArray, List.set_cons_zero, List.set_cons_succ, i64_w, i32_w]
                      rfl
                    refine one_ (i := 3) (N := some 38) #[true, true, true, true, true, true, true, false, false, false] rfl rfl (one_of HT_.out (by kernel_rfl)) (by decide) (fun K hK => ?_)
                    refine goes_ Try.func41 (by kernel_rfl) rfl #[.agg #[.int .i64 t266, .int .i64 t267], .int .u64 a2, .int .u64 a3] (by rfl) rfl rfl (by (try simp only [List.map_toArray, List.map_cons, List.map_nil]); first | done | rfl) ?_
                    with_reducible refine (ff_less.calls t266 t267 a2 a3 t272 _ A31.out).mono ?_
                    rintro e w51 ⟨rfl, hb⟩
                    refine ⟨_, rfl, ?_⟩
                    have n0_ := Aside0.mk (blk_below (g := gb268) (o := .cells #[.int .i64 t266, .int .i64 t267] 43 (0, 0)) (by (with_reducible repeat (first | refine blk_drewN ?_ _ | refine blk_drew ?_ | refine blk_alloc ?_ _)); exact BK268.out) hb)
                    have n1_ := Aside0.mk (below_step (by repeat (first | (with_reducible first | exact HB.out | apply below_alloc | apply pwB_ | apply below_drew1 | refine below_set ?_ GE268.out) | exact HB.out)) hb)
                    clear BK268
                    clear HB
                    have BK268 := n0_
                    have HB := n1_
                    clear n0_ n1_
                    (try clear hb)
                    (try clear hb2)
                    (try clear hk)
                    (try clear hi)
                    refine hK.out _ _ ⟨(blk_cell BK268.out 0).trans rfl, (blk_cell BK268.out 1).trans rfl⟩ (fun hHeld => ?_)
                    clear hK K
                    refine norm_ (a' := ?_) ?_ ?_
                    rotate_left
                    · show Act.put _ (some 38) _ = _
                      simp only [Act.put, List.setIfInBounds_toArray, List.set_cons_zero, List.set_cons_succ, i64_w, i32_w]
                      rfl
                    refine one_ (i := 7) (N := some 42) #[true, true, true, true, true, true, true, true, false, false] rfl rfl (one_of HT_.out (by kernel_rfl)) (by decide) (fun K hK => ?_)
                    refine goes_ Try.func41 (by kernel_rfl) rfl #[.agg #[.int .i64 t266, .int .i64 t267], .int .u64 a3, .int .u64 a2] (by rfl) rfl rfl (by (try simp only [List.map_toArray, List.map_cons, List.map_nil]); first | done | rfl) ?_
                    with_reducible refine (ff_less.calls t266 t267 a3 a2 t273 _ A32.out).mono ?_
                    rintro e w52 ⟨rfl, hb⟩
                    refine ⟨_, rfl, ?_⟩
                    have n0_ := Aside0.mk (blk_below (g := gb268) (o := .cells #[.int .i64 t266, .int .i64 t267] 43 (0, 0)) (by (with_reducible repeat (first | refine blk_drewN ?_ _ | refine blk_drew ?_ | refine blk_alloc ?_ _)); exact BK268.out) hb)
                    have n1_ := Aside0.mk (below_step (by repeat (first | (with_reducible first | exact HB.out | apply below_alloc | apply pwB_ | apply below_drew1 | refine below_set ?_ GE268.out) | exact HB.out)) hb)
                    clear BK268
                    clear HB
                    have BK268 := n0_
                    have HB := n1_
                    clear n0_ n1_
                    (try clear hb)
                    (try clear hb2)
                    (try clear hk)
                    (try clear hi)
                    refine hK.out _ _ ⟨(blk_cell BK268.out 0).trans rfl, (blk_cell BK268.out 1).trans rfl⟩ (fun hHeld => ?_)
                    clear hK K
                    refine norm_ (a' := ?_) ?_ ?_
                    rotate_left
                    · show Act.put _ (some 42) _ = _
                      simp only [Act.put, List.setIfInBounds_toArray, List.set_cons_zero, List.set_cons_succ, i64_w, i32_w]
                      rfl
                    refine pure_ (i := 8) (N := some 11) (v := ?_) (a' := ?_) #[true, true, true, true, true, true, true, true, true, false] rfl rfl (any_of HT_.out (by kernel_rfl)) (fun _ _ _ h => h) (Or.inl ⟨by rfl, ?_⟩) ?_ ?_
                    rotate_left
                    · intro w'
                      go_simp
                      with_reducible rfl
                    rotate_left
                    · simp only [Act.put, List.setIfInBounds_toArray, List.set_cons_zero, List.set_cons_succ, i64_w, i32_w]
                      rfl
                    refine pure_ (i := 9) (N := some 12) (v := ?_) (a' := ?_) #[true, true, true, true, true, true, true, true, true, true] rfl rfl (any_of HT_.out (by kernel_rfl)) (fun _ _ _ h => h) (Or.inl ⟨by rfl, ?_⟩) ?_ ?_
                    rotate_left
                    · intro w'
                      go_simp
                      with_reducible rfl
                    rotate_left
                    · simp only [Act.put, List.setIfInBounds_toArray, List.set_cons_zero, List.set_cons_succ, i64_w, i32_w]
                      rfl
                    refine done_ (done_of HT_.out (by kernel_rfl)) ?_
                    try go_wp2
                    go_ret2
                    exact ⟨by first | rfl | (simp [*] <;> rfl), by repeat (first | (with_reducible first | exact HB.out | apply below_alloc | apply pwB_ | apply below_drew1 | refine below_set ?_ GE268.out) | exact HB.out)⟩
                  · rw [if_neg c49] at H
                    have c49b0 : (a1 == 3) = false := beq_eq_false_iff_ne.mpr c49
                    have c49b1 : (a1 != 3) = true := bne_iff_ne.mpr c49
                    by_cases c53 : a1 = 4
                    · rw [if_pos c53] at H
                      have c53b0 : (a1 == 4) = true := beq_iff_eq.mpr c53
                      have c53b1 : (a1 != 4) = false := bne_eq_false_iff_eq.mpr c53
                      clear c53
                      simp only [Option.some.injEq, Prod.mk.injEq] at H
                      obtain ⟨rfl, rfl⟩ := H
                      try go_wp2
                      have n0_ := Aside0.mk (blk_drew BK268.out)
                      have n1_ := Aside0.mk (below_drew1 HB.out)
                      clear BK268
                      clear HB
                      have BK268 := n0_
                      have HB := n1_
                      clear n0_ n1_
                      refine start_ (n := 10) (S := fun w' => w'.cell? ⟨gb268, 0, none⟩ = some (.int .i64 t266) ∧ w'.cell? ⟨gb268, 1, none⟩ = some (.int .i64 t267)) (ds := []) #[false, false, false, false, false, false, false, false, false, false] (by kernel_rfl) rfl rfl ⟨(blk_cell BK268.out 0).trans rfl, (blk_cell BK268.out 1).trans rfl⟩ (fun hHeld => ?_); refine with_tabW floats_Rel.tab6 floats_Rel.bits6 (fun HT_ HW_ => ?_)
                      generalize wc.drew = w54 at BK268 HB hHeld ⊢
                      refine pure_ (i := 1) (N := some 36) (v := ?_) (a' := ?_) #[false, true, false, false, false, false, false, false, false, false] rfl rfl (any_of HT_.out (by kernel_rfl)) (fun _ _ _ h => h) (Or.inl ⟨by rfl, ?_⟩) ?_ ?_
                      rotate_left
                      · intro w'
                        go_simp
                        with_reducible rfl
                      rotate_left
                      · simp only [Act.put, List.setIfInBounds_toArray, List.set_cons_zero, List.set_cons_succ, i64_w, i32_w]
                        rfl
                      refine pure_ (i := 2) (N := some 37) (v := ?_) (a' := ?_) #[false, true, true, false, false, false, false, false, false, false] rfl rfl (any_of HT_.out (by kernel_rfl)) (fun _ _ _ h => h) (Or.inl ⟨by rfl, ?_⟩) ?_ ?_
                      rotate_left
                      · intro w'
                        go_simp
                        with_reducible rfl
                      rotate_left
                      · simp only [Act.put, List.setIfInBounds_toArray, List.set_cons_zero, List.set_cons_succ, i64_w, i32_w]
                        rfl
                      refine pure_ (i := 5) (N := some 40) (v := ?_) (a' := ?_) #[false, true, true, false, false, true, false, false, false, false] rfl rfl (any_of HT_.out (by kernel_rfl)) (fun _ _ _ h => h) (Or.inl ⟨by rfl, ?_⟩) ?_ ?_
                      rotate_left
                      · intro w'
                        go_simp
                        with_reducible rfl
                      rotate_left
                      · simp only [Act.put, List.setIfInBounds_toArray, List.set_cons_zero, List.set_cons_succ, i64_w, i32_w]
                        rfl
                      refine pure_ (i := 6) (N := some 41) (v := ?_) (a' := ?_) #[false, true, true, false, false, true, true, false, false, false] rfl rfl (any_of HT_.out (by kernel_rfl)) (fun _ _ _ h => h) (Or.inl ⟨by rfl, ?_⟩) ?_ ?_
                      rotate_left
                      · intro w'
                        go_simp
                        with_reducible rfl
                      rotate_left
                      · simp only [Act.put, List.setIfInBounds_toArray, List.set_cons_zero, List.set_cons_succ, i64_w, i32_w]
                        rfl
                      refine take_ (i := 0) (N := some 35) (v := ?_) (a' := ?_) #[true, true, true, false, false, true, true, false, false, false] rfl rfl (take_ofW HT_.out HW_.out (by kernel_rfl)) (fun _ _ _ h => h) (Or.inl ⟨by rfl, ?_⟩) hHeld ?_ ?_
                      rotate_left
                      · rintro w' ⟨s0, s1⟩
                        go_simp
                        with_reducible rfl
                      rotate_left
                      · simp only [Act.put, List.setIfInBounds_toArray, List.set_cons_zero, List.set_cons_succ, i64_w, i32_w]
                        rfl
                      refine take_ (i := 4) (N := some 39) (v := ?_) (a' := ?_) #[true, true, true, false, true, true, true, false, false, false] rfl rfl (take_ofW HT_.out HW_.out (by kernel_rfl)) (fun _ _ _ h => h) (Or.inl ⟨by rfl, ?_⟩) hHeld ?_ ?_
                      rotate_left
                      · rintro w' ⟨s0, s1⟩
                        go_simp
                        with_reducible rfl
                      rotate_left
                      · simp only [Act.put, List.setIfInBounds_toArray, List.set_cons_zero, List.set_cons_succ, i64_w, i32_w]
                        rfl
                      refine one_ (i := 3) (N := some 38) #[true, true, true, true, true, true, true, false, false, false] rfl rfl (one_of HT_.out (by kernel_rfl)) (by decide) (fun K hK => ?_)
                      refine goes_ Try.func41 (by kernel_rfl) rfl #[.agg #[.int .i64 t266, .int .i64 t267], .int .u64 a2, .int .u64 a3] (by rfl) rfl rfl (by (try simp only [List.map_toArray, List.map_cons, List.map_nil]); first | done | rfl) ?_
                      with_reducible refine (ff_less.calls t266 t267 a2 a3 t272 _ A31.out).mono ?_
                      rintro e w55 ⟨rfl, hb⟩
                      refine ⟨_, rfl, ?_⟩
                      have n0_ := Aside0.mk (blk_below (g := gb268) (o := .cells #[.int .i64 t266, .int .i64 t267] 43 (0, 0)) (by (with_reducible repeat (first | refine blk_drewN ?_ _ | refine blk_drew ?_ | refine blk_alloc ?_ _)); exact BK268.out) hb)
                      have n1_ := Aside0.mk (below_step (by repeat (first | (with_reducible first | exact HB.out | apply below_alloc | apply pwB_ | apply below_drew1 | refine below_set ?_ GE268.out) | exact HB.out)) hb)
                      clear BK268
                      clear HB
                      have BK268 := n0_
                      have HB := n1_
                      clear n0_ n1_
                      (try clear hb)
                      (try clear hb2)
                      (try clear hk)
                      (try clear hi)
                      refine hK.out _ _ ⟨(blk_cell BK268.out 0).trans rfl, (blk_cell BK268.out 1).trans rfl⟩ (fun hHeld => ?_)
                      clear hK K
                      refine norm_ (a' := ?_) ?_ ?_
                      rotate_left
                      · show Act.put _ (some 38) _ = _
                        simp only [Act.put, List.setIfInBounds_toArray, List.set_cons_zero, List.set_cons_succ, i64_w, i32_w]
                        rfl
                      refine one_ (i := 7) (N := some 42) #[true, true, true, true, true, true, true, true, false, false] rfl rfl (one_of HT_.out (by kernel_rfl)) (by decide) (fun K hK => ?_)
                      refine goes_ Try.func41 (by kernel_rfl) rfl #[.agg #[.int .i64 t266, .int .i64 t267], .int .u64 a3, .int .u64 a2] (by rfl) rfl rfl (by (try simp only [List.map_toArray, List.map_cons, List.map_nil]); first | done | rfl) ?_
                      with_reducible refine (ff_less.calls t266 t267 a3 a2 t273 _ A32.out).mono ?_
                      rintro e w56 ⟨rfl, hb⟩
                      refine ⟨_, rfl, ?_⟩
                      have n0_ := Aside0.mk (blk_below (g := gb268) (o := .cells #[.int .i64 t266, .int .i64 t267] 43 (0, 0)) (by (with_reducible repeat (first | refine blk_drewN ?_ _ | refine blk_drew ?_ | refine blk_alloc ?_ _)); exact BK268.out) hb)
                      have n1_ := Aside0.mk (below_step (by repeat (first | (with_reducible first | exact HB.out | apply below_alloc | apply pwB_ | apply below_drew1 | refine below_set ?_ GE268.out) | exact HB.out)) hb)
                      clear BK268
                      clear HB
                      have BK268 := n0_
                      have HB := n1_
                      clear n0_ n1_
                      (try clear hb)
                      (try clear hb2)
                      (try clear hk)
                      (try clear hi)
                      refine hK.out _ _ ⟨(blk_cell BK268.out 0).trans rfl, (blk_cell BK268.out 1).trans rfl⟩ (fun hHeld => ?_)
                      clear hK K
                      refine norm_ (a' := ?_) ?_ ?_
                      rotate_left
                      · show Act.put _ (some 42) _ = _
                        simp only [Act.put, List.setIfInBounds_toArray, List.set_cons_zero, List.set_cons_succ, i64_w, i32_w]
                        rfl
                      refine pure_ (i := 8) (N := some 11) (v := ?_) (a' := ?_) #[true, true, true, true, true, true, true, true, true, false] rfl rfl (any_of HT_.out (by kernel_rfl)) (fun _ _ _ h => h) (Or.inl ⟨by rfl, ?_⟩) ?_ ?_
                      rotate_left
                      · intro w'
                        go_simp
                        with_reducible rfl
                      rotate_left
                      · simp only [Act.put, List.setIfInBounds_toArray, List.set_cons_zero, List.set_cons_succ, i64_w, i32_w]
                        rfl
                      refine pure_ (i := 9) (N := some 12) (v := ?_) (a' := ?_) #[true, true, true, true, true, true, true, true, true, true] rfl rfl (any_of HT_.out (by kernel_rfl)) (fun _ _ _ h => h) (Or.inl ⟨by rfl, ?_⟩) ?_ ?_
                      rotate_left
                      · intro w'
                        go_simp
                        with_reducible rfl
                      rotate_left
                      · simp only [Act.put, List.setIfInBounds_toArray, List.set_cons_zero, List.set_cons_succ, i64_w, i32_w]
                        rfl
                      refine done_ (done_of HT_.out (by kernel_rfl)) ?_
                      try go_wp2
                      go_ret2
                      exact ⟨by first | rfl | (simp [*] <;> rfl), by repeat (first | (with_reducible first | exact HB.out | apply below_alloc | apply pwB_ | apply below_drew1 | refine below_set ?_ GE268.out) | exact HB.out)⟩
                    · rw [if_neg c53] at H
                      have c53b0 : (a1 == 4) = false := beq_eq_false_iff_ne.mpr c53
                      have c53b1 : (a1 != 4) = true := bne_iff_ne.mpr c53
                      by_cases c57 : a1 = 5
                      · rw [if_pos c57] at H
                        have c57b0 : (a1 == 5) = true := beq_iff_eq.mpr c57
                        have c57b1 : (a1 != 5) = false := bne_eq_false_iff_eq.mpr c57
                        clear c57
                        simp only [Option.some.injEq, Prod.mk.injEq] at H
                        obtain ⟨rfl, rfl⟩ := H
                        try go_wp2
                        have n0_ := Aside0.mk (blk_drew BK268.out)
                        have n1_ := Aside0.mk (below_drew1 HB.out)
                        clear BK268
                        clear HB
                        have BK268 := n0_
                        have HB := n1_
                        clear n0_ n1_
                        refine start_ (n := 10) (S := fun w' => w'.cell? ⟨gb268, 0, none⟩ = some (.int .i64 t266) ∧ w'.cell? ⟨gb268, 1, none⟩ = some (.int .i64 t267)) (ds := []) #[false, false, false, false, false, false, false, false, false, false] (by kernel_rfl) rfl rfl ⟨(blk_cell BK268.out 0).trans rfl, (blk_cell BK268.out 1).trans rfl⟩ (fun hHeld => ?_); refine with_tabW floats_Rel.tab6 floats_Rel.bits6 (fun HT_ HW_ => ?_)
                        generalize wc.drew = w58 at BK268 HB hHeld ⊢
                        refine pure_ (i := 1) (N := some 36) (v := ?_) (a' := ?_) #[false, true, false, false, false, false, false, false, false, false] rfl rfl (any_of HT_.out (by kernel_rfl)) (fun _ _ _ h => h) (Or.inl ⟨by rfl, ?_⟩) ?_ ?_
                        rotate_left
                        · intro w'
                          go_simp
                          with_reducible rfl
                        rotate_left
                        · simp only [Act.put, List.setIfInBounds_toArray, List.set_cons_zero, List.set_cons_succ, i64_w, i32_w]
                          rfl
                        refine pure_ (i := 2) (N := some 37) (v := ?_) (a' := ?_) #[false, true, true, false, false, false, false, false, false, false] rfl rfl (any_of HT_.out (by kernel_rfl)) (fun _ _ _ h => h) (Or.inl ⟨by rfl, ?_⟩) ?_ ?_
                        rotate_left
                        · intro w'
                          go_simp
                          with_reducible rfl
                        rotate_left
                        · simp only [Act.put, List.setIfInBounds_toArray, List.set_cons_zero, List.set_cons_succ, i64_w, i32_w]
                          rfl
                        refine pure_ (i := 5) (N := some 40) (v := ?_) (a' := ?_) #[false, true, true, false, false, true, false, false, false, false] rfl rfl (any_of HT_.out (by kernel_rfl)) (fun _ _ _ h => h) (Or.inl ⟨by rfl, ?_⟩) ?_ ?_
                        rotate_left
                        · intro w'
                          go_simp
                          with_reducible rfl
                        rotate_left
                        · simp only [Act.put, List.setIfInBounds_toArray, List.set_cons_zero, List.set_cons_succ, i64_w, i32_w]
                          rfl
                        refine pure_ (i := 6) (N := some 41) (v := ?_) (a' := ?_) #[false, true, true, false, false, true, true, false, false, false] rfl rfl (any_of HT_.out (by kernel_rfl)) (fun _ _ _ h => h) (Or.inl ⟨by rfl, ?_⟩) ?_ ?_
                        rotate_left
                        · intro w'
                          go_simp
                          with_reducible rfl
                        rotate_left
                        · simp only [Act.put, List.setIfInBounds_toArray, List.set_cons_zero, List.set_cons_succ, i64_w, i32_w]
                          rfl
                        refine take_ (i := 0) (N := some 35) (v := ?_) (a' := ?_) #[true, true, true, false, false, true, true, false, false, false] rfl rfl (take_ofW HT_.out HW_.out (by kernel_rfl)) (fun _ _ _ h => h) (Or.inl ⟨by rfl, ?_⟩) hHeld ?_ ?_
                        rotate_left
                        · rintro w' ⟨s0, s1⟩
                          go_simp
                          with_reducible rfl
                        rotate_left
                        · simp only [Act.put, List.setIfInBounds_toArray, List.set_cons_zero, List.set_cons_succ, i64_w, i32_w]
                          rfl
                        refine take_ (i := 4) (N := some 39) (v := ?_) (a' := ?_) #[true, true, true, false, true, true, true, false, false, false] rfl rfl (take_ofW HT_.out HW_.out (by kernel_rfl)) (fun _ _ _ h => h) (Or.inl ⟨by rfl, ?_⟩) hHeld ?_ ?_
                        rotate_left
                        · rintro w' ⟨s0, s1⟩
                          go_simp
                          with_reducible rfl
                        rotate_left
                        · simp only [Act.put, List.setIfInBounds_toArray, List.set_cons_zero, List.set_cons_succ, i64_w, i32_w]
                          rfl
                        refine one_ (i := 3) (N := some 38) #[true, true, true, true, true, true, true, false, false, false] rfl rfl (one_of HT_.out (by kernel_rfl)) (by decide) (fun K hK => ?_)
                        refine goes_ Try.func41 (by kernel_rfl) rfl #[.agg #[.int .i64 t266, .int .i64 t267], .int .u64 a2, .int .u64 a3] (by rfl) rfl rfl (by (try simp only [List.map_toArray, List.map_cons, List.map_nil]); first | done | rfl) ?_
                        with_reducible refine (ff_less.calls t266 t267 a2 a3 t272 _ A31.out).mono ?_
                        rintro e w59 ⟨rfl, hb⟩
                        refine ⟨_, rfl, ?_⟩
                        have n0_ := Aside0.mk (blk_below (g := gb268) (o := .cells #[.int .i64 t266, .int .i64 t267] 43 (0, 0)) (by (with_reducible repeat (first | refine blk_drewN ?_ _ | refine blk_drew ?_ | refine blk_alloc ?_ _)); exact BK268.out) hb)
                        have n1_ := Aside0.mk (below_step (by repeat (first | (with_reducible first | exact HB.out | apply below_alloc | apply pwB_ | apply below_drew1 | refine below_set ?_ GE268.out) | exact HB.out)) hb)
                        clear BK268
                        clear HB
                        have BK268 := n0_
                        have HB := n1_
                        clear n0_ n1_
                        (try clear hb)
                        (try clear hb2)
                        (try clear hk)
                        (try clear hi)
                        refine hK.out _ _ ⟨(blk_cell BK268.out 0).trans rfl, (blk_cell BK268.out 1).trans rfl⟩ (fun hHeld => ?_)
                        clear hK K
                        refine norm_ (a' := ?_) ?_ ?_
                        rotate_left
                        · show Act.put _ (some 38) _ = _
                          simp only [Act.put, List.setIfInBounds_toArray, List.set_cons_zero, List.set_cons_succ, i64_w, i32_w]
                          rfl
                        refine one_ (i := 7) (N := some 42) #[true, true, true, true, true, true, true, true, false, false] rfl rfl (one_of HT_.out (by kernel_rfl)) (by decide) (fun K hK => ?_)
                        refine goes_ Try.func41 (by kernel_rfl) rfl #[.agg #[.int .i64 t266, .int .i64 t267], .int .u64 a3, .int .u64 a2] (by rfl) rfl rfl (by (try simp only [List.map_toArray, List.map_cons, List.map_nil]); first | done | rfl) ?_
                        with_reducible refine (ff_less.calls t266 t267 a3 a2 t273 _ A32.out).mono ?_
                        rintro e w60 ⟨rfl, hb⟩
                        refine ⟨_, rfl, ?_⟩
                        have n0_ := Aside0.mk (blk_below (g := gb268) (o := .cells #[.int .i64 t266, .int .i64 t267] 43 (0, 0)) (by (with_reducible repeat (first | refine blk_drewN ?_ _ | refine blk_drew ?_ | refine blk_alloc ?_ _)); exact BK268.out) hb)
                        have n1_ := Aside0.mk (below_step (by repeat (first | (with_reducible first | exact HB.out | apply below_alloc | apply pwB_ | apply below_drew1 | refine below_set ?_ GE268.out) | exact HB.out)) hb)
                        clear BK268
                        clear HB
                        have BK268 := n0_
                        have HB := n1_
                        clear n0_ n1_
                        (try clear hb)
                        (try clear hb2)
                        (try clear hk)
                        (try clear hi)
                        refine hK.out _ _ ⟨(blk_cell BK268.out 0).trans rfl, (blk_cell BK268.out 1).trans rfl⟩ (fun hHeld => ?_)
                        clear hK K
                        refine norm_ (a' := ?_) ?_ ?_
                        rotate_left
                        · show Act.put _ (some 42) _ = _
                          simp only [Act.put, List.setIfInBounds_toArray, List.set_cons_zero, List.set_cons_succ, i64_w, i32_w]
                          rfl
                        refine pure_ (i := 8) (N := some 11) (v := ?_) (a' := ?_) #[true, true, true, true, true, true, true, true, true, false] rfl rfl (any_of HT_.out (by kernel_rfl)) (fun _ _ _ h => h) (Or.inl ⟨by rfl, ?_⟩) ?_ ?_
                        rotate_left
                        · intro w'
                          go_simp
                          with_reducible rfl
                        rotate_left
                        · simp only [Act.put, List.setIfInBounds_toArray, List.set_cons_zero, List.set_cons_succ, i64_w, i32_w]
                          rfl
                        refine pure_ (i := 9) (N := some 12) (v := ?_) (a' := ?_) #[true, true, true, true, true, true, true, true, true, true] rfl rfl (any_of HT_.out (by kernel_rfl)) (fun _ _ _ h => h) (Or.inl ⟨by rfl, ?_⟩) ?_ ?_
                        rotate_left
                        · intro w'
                          go_simp
                          with_reducible rfl
                        rotate_left
                        · simp only [Act.put, List.setIfInBounds_toArray, List.set_cons_zero, List.set_cons_succ, i64_w, i32_w]
                          rfl
                        refine done_ (done_of HT_.out (by kernel_rfl)) ?_
                        try go_wp2
                        go_ret2
                        exact ⟨by first | rfl | (simp [*] <;> rfl), by repeat (first | (with_reducible first | exact HB.out | apply below_alloc | apply pwB_ | apply below_drew1 | refine below_set ?_ GE268.out) | exact HB.out)⟩
                      · rw [if_neg c57] at H
                        have c57b0 : (a1 == 5) = false := beq_eq_false_iff_ne.mpr c57
                        have c57b1 : (a1 != 5) = true := bne_iff_ne.mpr c57
                        simp only [Option.some.injEq, Prod.mk.injEq] at H
                        obtain ⟨rfl, rfl⟩ := H
                        try go_wp2
                        have n0_ := Aside0.mk (blk_drew BK268.out)
                        have n1_ := Aside0.mk (below_drew1 HB.out)
                        clear BK268
                        clear HB
                        have BK268 := n0_
                        have HB := n1_
                        clear n0_ n1_
                        refine start_ (n := 10) (S := fun w' => w'.cell? ⟨gb268, 0, none⟩ = some (.int .i64 t266) ∧ w'.cell? ⟨gb268, 1, none⟩ = some (.int .i64 t267)) (ds := []) #[false, false, false, false, false, false, false, false, false, false] (by kernel_rfl) rfl rfl ⟨(blk_cell BK268.out 0).trans rfl, (blk_cell BK268.out 1).trans rfl⟩ (fun hHeld => ?_); refine with_tabW floats_Rel.tab6 floats_Rel.bits6 (fun HT_ HW_ => ?_)
                        generalize wc.drew = w61 at BK268 HB hHeld ⊢
                        refine pure_ (i := 1) (N := some 36) (v := ?_) (a' := ?_) #[false, true, false, false, false, false, false, false, false, false] rfl rfl (any_of HT_.out (by kernel_rfl)) (fun _ _ _ h => h) (Or.inl ⟨by rfl, ?_⟩) ?_ ?_
                        rotate_left
                        · intro w'
                          go_simp
                          with_reducible rfl
                        rotate_left
                        · simp only [Act.put, List.setIfInBounds_toArray, List.set_cons_zero, List.set_cons_succ, i64_w, i32_w]
                          rfl
                        refine pure_ (i := 2) (N := some 37) (v := ?_) (a' := ?_) #[false, true, true, false, false, false, false, false, false, false] rfl rfl (any_of HT_.out (by kernel_rfl)) (fun _ _ _ h => h) (Or.inl ⟨by rfl, ?_⟩) ?_ ?_
                        rotate_left
                        · intro w'
                          go_simp
                          with_reducible rfl
                        rotate_left
                        · simp only [Act.put, List.setIfInBounds_toArray, List.set_cons_zero, List.set_cons_succ, i64_w, i32_w]
                          rfl
                        refine pure_ (i := 5) (N := some 40) (v := ?_) (a' := ?_) #[false, true, true, false, false, true, false, false, false, false] rfl rfl (any_of HT_.out (by kernel_rfl)) (fun _ _ _ h => h) (Or.inl ⟨by rfl, ?_⟩) ?_ ?_
                        rotate_left
                        · intro w'
                          go_simp
                          with_reducible rfl
                        rotate_left
                        · simp only [Act.put, List.setIfInBounds_toArray, List.set_cons_zero, List.set_cons_succ, i64_w, i32_w]
                          rfl
                        refine pure_ (i := 6) (N := some 41) (v := ?_) (a' := ?_) #[false, true, true, false, false, true, true, false, false, false] rfl rfl (any_of HT_.out (by kernel_rfl)) (fun _ _ _ h => h) (Or.inl ⟨by rfl, ?_⟩) ?_ ?_
                        rotate_left
                        · intro w'
                          go_simp
                          with_reducible rfl
                        rotate_left
                        · simp only [Act.put, List.setIfInBounds_toArray, List.set_cons_zero, List.set_cons_succ, i64_w, i32_w]
                          rfl
                        refine take_ (i := 0) (N := some 35) (v := ?_) (a' := ?_) #[true, true, true, false, false, true, true, false, false, false] rfl rfl (take_ofW HT_.out HW_.out (by kernel_rfl)) (fun _ _ _ h => h) (Or.inl ⟨by rfl, ?_⟩) hHeld ?_ ?_
                        rotate_left
                        · rintro w' ⟨s0, s1⟩
                          go_simp
                          with_reducible rfl
                        rotate_left
                        · simp only [Act.put, List.setIfInBounds_toArray, List.set_cons_zero, List.set_cons_succ, i64_w, i32_w]
                          rfl
                        refine take_ (i := 4) (N := some 39) (v := ?_) (a' := ?_) #[true, true, true, false, true, true, true, false, false, false] rfl rfl (take_ofW HT_.out HW_.out (by kernel_rfl)) (fun _ _ _ h => h) (Or.inl ⟨by rfl, ?_⟩) hHeld ?_ ?_
                        rotate_left
                        · rintro w' ⟨s0, s1⟩
                          go_simp
                          with_reducible rfl
                        rotate_left
                        · simp only [Act.put, List.setIfInBounds_toArray, List.set_cons_zero, List.set_cons_succ, i64_w, i32_w]
                          rfl
                        refine one_ (i := 3) (N := some 38) #[true, true, true, true, true, true, true, false, false, false] rfl rfl (one_of HT_.out (by kernel_rfl)) (by decide) (fun K hK => ?_)
                        refine goes_ Try.func41 (by kernel_rfl) rfl #[.agg #[.int .i64 t266, .int .i64 t267], .int .u64 a2, .int .u64 a3] (by rfl) rfl rfl (by (try simp only [List.map_toArray, List.map_cons, List.map_nil]); first | done | rfl) ?_
                        with_reducible refine (ff_less.calls t266 t267 a2 a3 t272 _ A31.out).mono ?_
                        rintro e w62 ⟨rfl, hb⟩
                        refine ⟨_, rfl, ?_⟩
                        have n0_ := Aside0.mk (blk_below (g := gb268) (o := .cells #[.int .i64 t266, .int .i64 t267] 43 (0, 0)) (by (with_reducible repeat (first | refine blk_drewN ?_ _ | refine blk_drew ?_ | refine blk_alloc ?_ _)); exact BK268.out) hb)
                        have n1_ := Aside0.mk (below_step (by repeat (first | (with_reducible first | exact HB.out | apply below_alloc | apply pwB_ | apply below_drew1 | refine below_set ?_ GE268.out) | exact HB.out)) hb)
                        clear BK268
                        clear HB
                        have BK268 := n0_
                        have HB := n1_
                        clear n0_ n1_
                        (try clear hb)
                        (try clear hb2)
                        (try clear hk)
                        (try clear hi)
                        refine hK.out _ _ ⟨(blk_cell BK268.out 0).trans rfl, (blk_cell BK268.out 1).trans rfl⟩ (fun hHeld => ?_)
                        clear hK K
                        refine norm_ (a' := ?_) ?_ ?_
                        rotate_left
                        · show Act.put _ (some 38) _ = _
                          simp only [Act.put, List.setIfInBounds_toArray, List.set_cons_zero, List.set_cons_succ, i64_w, i32_w]
                          rfl
                        refine one_ (i := 7) (N := some 42) #[true, true, true, true, true, true, true, true, false, false] rfl rfl (one_of HT_.out (by kernel_rfl)) (by decide) (fun K hK => ?_)
                        refine goes_ Try.func41 (by kernel_rfl) rfl #[.agg #[.int .i64 t266, .int .i64 t267], .int .u64 a3, .int .u64 a2] (by rfl) rfl rfl (by (try simp only [List.map_toArray, List.map_cons, List.map_nil]); first | done | rfl) ?_
                        with_reducible refine (ff_less.calls t266 t267 a3 a2 t273 _ A32.out).mono ?_
                        rintro e w63 ⟨rfl, hb⟩
                        refine ⟨_, rfl, ?_⟩
                        have n0_ := Aside0.mk (blk_below (g := gb268) (o := .cells #[.int .i64 t266, .int .i64 t267] 43 (0, 0)) (by (with_reducible repeat (first | refine blk_drewN ?_ _ | refine blk_drew ?_ | refine blk_alloc ?_ _)); exact BK268.out) hb)
                        have n1_ := Aside0.mk (below_step (by repeat (first | (with_reducible first | exact HB.out | apply below_alloc | apply pwB_ | apply below_drew1 | refine below_set ?_ GE268.out) | exact HB.out)) hb)
                        clear BK268
                        clear HB
                        have BK268 := n0_
                        have HB := n1_
                        clear n0_ n1_
                        (try clear hb)
                        (try clear hb2)
                        (try clear hk)
                        (try clear hi)
                        refine hK.out _ _ ⟨(blk_cell BK268.out 0).trans rfl, (blk_cell BK268.out 1).trans rfl⟩ (fun hHeld => ?_)
                        clear hK K
                        refine norm_ (a' := ?_) ?_ ?_
                        rotate_left
                        · show Act.put _ (some 42) _ = _
                          simp only [Act.put, List.setIfInBounds_toArray, List.set_cons_zero, List.set_cons_succ, i64_w, i32_w]
                          rfl
                        refine pure_ (i := 8) (N := some 11) (v := ?_) (a' := ?_) #[true, true, true, true, true, true, true, true, true, false] rfl rfl (any_of HT_.out (by kernel_rfl)) (fun _ _ _ h => h) (Or.inl ⟨by rfl, ?_⟩) ?_ ?_
                        rotate_left
                        · intro w'
                          go_simp
                          with_reducible rfl
                        rotate_left
                        · simp only [Act.put, List.setIfInBounds_toArray, List.set_cons_zero, List.set_cons_succ, i64_w, i32_w]
                          rfl
                        refine pure_ (i := 9) (N := some 12) (v := ?_) (a' := ?_) #[true, true, true, true, true, true, true, true, true, true] rfl rfl (any_of HT_.out (by kernel_rfl)) (fun _ _ _ h => h) (Or.inl ⟨by rfl, ?_⟩) ?_ ?_
                        rotate_left
                        · intro w'
                          go_simp
                          with_reducible rfl
                        rotate_left
                        · simp only [Act.put, List.setIfInBounds_toArray, List.set_cons_zero, List.set_cons_succ, i64_w, i32_w]
                          rfl
                        refine done_ (done_of HT_.out (by kernel_rfl)) ?_
                        try go_wp2
                        go_ret2
                        exact ⟨by first | rfl | (simp [*] <;> rfl), by repeat (first | (with_reducible first | exact HB.out | apply below_alloc | apply pwB_ | apply below_drew1 | refine below_set ?_ GE268.out) | exact HB.out)⟩
end Go.Proofs.Ytjfmomogidgbpaa.PFl
namespace Go.Proofs.Ytjfmomogidgbpaa.PFl
open Go.RowKit Go.Proofs.YtjfmomogidgbpaaW.PrintWords Go.Proofs.YtjfmomogidgbpaaW.PrintLast Go.Proofs.YtjfmomogidgbpaaW.PrintMore
attribute [local go_sem] max2_int min2_int max_two min_two max_three min_three max_four min_four
set_option linter.unusedVariables false
set_option linter.unusedSimpArgs false
def floats_Kind.f (a0 : Int) (a1 : Int) : Option (Int) := (floats_of.f a0).bind fun bt274 => ((ff_size.f bt274.1 bt274.2 a1).bind fun t277 => ((ff_none.f bt274.1 bt274.2).bind fun t278 => (if t278 = true then (some 0) else (if t277 = 0 then (some 1) else ((ff_infinity.f bt274.1 bt274.2).bind fun t279 => (if t277 < t279 then (some 2) else ((ff_infinity.f bt274.1 bt274.2).bind fun t280 => (if t277 = t280 then (some 3) else (some 4)))))))))
set_option maxHeartbeats 8000000 in
set_option maxRecDepth 100000 in
theorem floats_Kind.calls (a0 : Int) (a1 : Int) (r : Int) (w : World) (h : floats_Kind.f a0 a1 = some r) :
    Calls Try.prog 22 #[.int .i64 a0, .int .u64 a1] w fun e w' => e = .returned (.int .i64 r) ∧ Below w.heap.size w w' := by
  have hu43 := Try.underlying43
  have HB := Aside0.mk (Below.refl w.heap.size w)
  have H : ((floats_of.f a0).bind fun bt274 => ((ff_size.f bt274.1 bt274.2 a1).bind fun t277 => ((ff_none.f bt274.1 bt274.2).bind fun t278 => (if t278 = true then (some 0) else (if t277 = 0 then (some 1) else ((ff_infinity.f bt274.1 bt274.2).bind fun t279 => (if t277 < t279 then (some 2) else ((ff_infinity.f bt274.1 bt274.2).bind fun t280 => (if t277 = t280 then (some 3) else (some 4)))))))))) = some r := h
  clear h
  replace H := Option.bind_eq_some_iff.mp H
  obtain ⟨⟨t274, t275⟩, A30, H⟩ := H
  replace H : ((ff_size.f t274 t275 a1).bind fun t277 => ((ff_none.f t274 t275).bind fun t278 => (if t278 = true then (some 0) else (if t277 = 0 then (some 1) else ((ff_infinity.f t274 t275).bind fun t279 => (if t277 < t279 then (some 2) else ((ff_infinity.f t274 t275).bind fun t280 => (if t277 = t280 then (some 3) else (some 4))))))))) = some r := H
  have A3 := Aside0.mk A30
  clear A30
  replace H := Option.bind_eq_some_iff.mp H
  obtain ⟨t277, A40, H⟩ := H
  replace H : ((ff_none.f t274 t275).bind fun t278 => (if t278 = true then (some 0) else (if t277 = 0 then (some 1) else ((ff_infinity.f t274 t275).bind fun t279 => (if t277 < t279 then (some 2) else ((ff_infinity.f t274 t275).bind fun t280 => (if t277 = t280 then (some 3) else (some 4)))))))) = some r := H
  have A4 := Aside0.mk A40
  clear A40
  replace H := Option.bind_eq_some_iff.mp H
  obtain ⟨t278, A50, H⟩ := H
  replace H : (if t278 = true then (some 0) else (if t277 = 0 then (some 1) else ((ff_infinity.f t274 t275).bind fun t279 => (if t277 < t279 then (some 2) else ((ff_infinity.f t274 t275).bind fun t280 => (if t277 = t280 then (some 3) else (some 4))))))) = some r := H
  have A5 := Aside0.mk A50
  clear A50
  by_cases c6 : t278 = true
  · subst c6
    have H1 : (some 0) = some r := by rw [if_pos rfl] at H; exact H
    clear H
    have H := H1
    clear H1
    obtain rfl := Option.some.inj H
    go_enter Try.func22, Try.ntmps22
    go_wp2_with (first | ((with_reducible refine gate_callee (f := 31) rfl ?_); refine goesL_ (some 8) rfl rfl Try.func31 (by kernel_rfl) rfl #[.int .i64 a0] rfl (by (try simp only [List.map_toArray, List.map_cons, List.map_nil]); first | done | rfl) ?_; (with_reducible refine (floats_of.calls a0 t274 t275 _ A3.out).mono ?_); rintro e w7 ⟨rfl, hb⟩; refine ⟨_, rfl, ?_⟩; have n0_ := Aside0.mk (below_step (by repeat (first | (with_reducible first | exact HB.out | apply below_alloc | apply pwB_ | apply below_drew1) | exact HB.out)) hb); clear HB; have HB := n0_; clear n0_; (try clear hb); (try clear hb2); (try clear hk); (try clear hi)) | ((with_reducible refine gate_dst (N := 5) rfl ?_); refine box_event ?hg (N := 5) ?hd (cs := #[.int .i64 0, .int .i64 0]) (t := 43) ?hr ?_; (case hd => rfl); (case hg => rfl); (case hr => first | (go_simp; done) | (go_simp; rfl)); intro gb276 hg w8 hbox hb; have n0_ := Aside0.mk (below_step (by repeat (first | (with_reducible first | exact HB.out | apply below_alloc | apply pwB_ | apply below_drew1) | exact HB.out)) hb); have n1_ := Aside0.mk (hbox); have n2_ := Aside0.mk ((by rw [hg]; exact (below_size (by repeat (first | (with_reducible first | exact HB.out | apply below_alloc | apply pwB_ | apply below_drew1) | exact HB.out))) : w.heap.size ≤ gb276)); have n3_ := Aside0.mk ((by rw [hg]; exact (below_size (by repeat (first | (with_reducible first | exact HB.out | apply below_alloc | apply pwB_ | apply below_drew1) | exact HB.out))) : w.heap.size ≤ gb276)); clear HB; have HB := n0_; have BK276 := n1_; have GW276 := n2_; have GE276 := n3_; clear n0_ n1_ n2_ n3_; clear hb hbox hg; have hcz9_0 : w8.cell? ⟨gb276, 0, none⟩ = some (.int .i64 0) := (blk_cell BK276.out 0).trans rfl; have hcz9_1 : w8.cell? ⟨gb276, 1, none⟩ = some (.int .i64 0) := (blk_cell BK276.out 1).trans rfl; have hfz9_0 := blk_frozen BK276.out 0; have hfz9_1 := blk_frozen BK276.out 1) | ((with_reducible refine gate_callee (f := 40) rfl ?_); refine goesL_ (some 11) rfl rfl Try.func40 (by kernel_rfl) rfl #[.agg #[.int .i64 t274, .int .i64 t275], .int .u64 a1] rfl (by (try simp only [List.map_toArray, List.map_cons, List.map_nil]); first | done | rfl) ?_; (with_reducible refine (ff_size.calls t274 t275 a1 t277 _ A4.out).mono ?_); rintro e w10 ⟨rfl, hb⟩; refine ⟨_, rfl, ?_⟩; have n0_ := Aside0.mk (blk_below (g := gb276) (o := .cells #[.int .i64 t274, .int .i64 t275] 43 (0, 0)) (by (with_reducible repeat (first | refine blk_drewN ?_ _ | refine blk_drew ?_ | refine blk_alloc ?_ _)); refine blk_put (cs := #[.int .i64 t274, .int .i64 0]) ?_ 1 _ rfl; (with_reducible repeat (first | refine blk_drewN ?_ _ | refine blk_drew ?_ | refine blk_alloc ?_ _)); refine blk_put (cs := #[.int .i64 0, .int .i64 0]) ?_ 0 _ rfl; (with_reducible repeat (first | refine blk_drewN ?_ _ | refine blk_drew ?_ | refine blk_alloc ?_ _)); exact BK276.out) hb); have n1_ := Aside0.mk (below_step (by repeat (first | (with_reducible first | exact HB.out | apply below_alloc | apply pwB_ | apply below_drew1 | refine below_set ?_ GE276.out) | exact HB.out)) hb); clear BK276; clear HB; have BK276 := n0_; have HB := n1_; clear n0_ n1_; (try clear hb); (try clear hb2); (try clear hk); (try clear hi); have hcz11_0 : w10.cell? ⟨gb276, 0, none⟩ = some (.int .i64 t274) := (blk_cell BK276.out 0).trans rfl; have hcz11_1 : w10.cell? ⟨gb276, 1, none⟩ = some (.int .i64 t275) := (blk_cell BK276.out 1).trans rfl; have hfz11_0 := blk_frozen BK276.out 0; have hfz11_1 := blk_frozen BK276.out 1) | ((with_reducible refine gate_callee (f := 32) rfl ?_); refine goesL_ (some 14) rfl rfl Try.func32 (by kernel_rfl) rfl #[.agg #[.int .i64 t274, .int .i64 t275]] rfl (by (try simp only [List.map_toArray, List.map_cons, List.map_nil]); first | done | rfl) ?_; (with_reducible refine (ff_none.calls t274 t275 true _ A5.out).mono ?_); rintro e w12 ⟨rfl, hb⟩; refine ⟨_, rfl, ?_⟩; have n0_ := Aside0.mk (blk_below (g := gb276) (o := .cells #[.int .i64 t274, .int .i64 t275] 43 (0, 0)) (by (with_reducible repeat (first | refine blk_drewN ?_ _ | refine blk_drew ?_ | refine blk_alloc ?_ _)); exact BK276.out) hb); have n1_ := Aside0.mk (below_step (by repeat (first | (with_reducible first | exact HB.out | apply below_alloc | apply pwB_ | apply below_drew1 | refine below_set ?_ GE276.out) | exact HB.out)) hb); clear BK276; clear HB; have BK276 := n0_; have HB := n1_; clear n0_ n1_; (try clear hb); (try clear hb2); (try clear hk); (try clear hi)))
    go_ret
    exact ⟨by first | rfl | (simp [*] <;> rfl), by repeat (first | (with_reducible first | exact HB.out | apply below_alloc | apply pwB_ | apply below_drew1 | refine below_set ?_ GE276.out) | exact HB.out)⟩
  · replace c6 := Bool.eq_false_iff.mpr c6
    subst c6
    have H1 : (if t277 = 0 then (some 1) else ((ff_infinity.f t274 t275).bind fun t279 => (if t277 < t279 then (some 2) else ((ff_infinity.f t274 t275).bind fun t280 => (if t277 = t280 then (some 3) else (some 4)))))) = some r := by rw [if_neg (show ¬ (false = true) by decide)] at H; exact H
    clear H
    have H := H1
    clear H1
    by_cases c13 : t277 = 0
    · rw [if_pos c13] at H
      have c13b0 : (t277 == 0) = true := beq_iff_eq.mpr c13
      have c13b1 : (t277 != 0) = false := bne_eq_false_iff_eq.mpr c13
      clear c13
      obtain rfl := Option.some.inj H
      go_enter Try.func22, Try.ntmps22
      go_wp2_with (first | ((with_reducible refine gate_callee (f := 31) rfl ?_); refine goesL_ (some 8) rfl rfl Try.func31 (by kernel_rfl) rfl #[.int .i64 a0] rfl (by (try simp only [List.map_toArray, List.map_cons, List.map_nil]); first | done | rfl) ?_; (with_reducible refine (floats_of.calls a0 t274 t275 _ A3.out).mono ?_); rintro e w14 ⟨rfl, hb⟩; refine ⟨_, rfl, ?_⟩; have n0_ := Aside0.mk (below_step (by repeat (first | (with_reducible first | exact HB.out | apply below_alloc | apply pwB_ | apply below_drew1) | exact HB.out)) hb); clear HB; have HB := n0_; clear n0_; (try clear hb); (try clear hb2); (try clear hk); (try clear hi)) | ((with_reducible refine gate_dst (N := 5) rfl ?_); refine box_event ?hg (N := 5) ?hd (cs := #[.int .i64 0, .int .i64 0]) (t := 43) ?hr ?_; (case hd => rfl); (case hg => rfl); (case hr => first | (go_simp; done) | (go_simp; rfl)); intro gb276 hg w15 hbox hb; have n0_ := Aside0.mk (below_step (by repeat (first | (with_reducible first | exact HB.out | apply below_alloc | apply pwB_ | apply below_drew1) | exact HB.out)) hb); have n1_ := Aside0.mk (hbox); have n2_ := Aside0.mk ((by rw [hg]; exact (below_size (by repeat (first | (with_reducible first | exact HB.out | apply below_alloc | apply pwB_ | apply below_drew1) | exact HB.out))) : w.heap.size ≤ gb276)); have n3_ := Aside0.mk ((by rw [hg]; exact (below_size (by repeat (first | (with_reducible first | exact HB.out | apply below_alloc | apply pwB_ | apply below_drew1) | exact HB.out))) : w.heap.size ≤ gb276)); clear HB; have HB := n0_; have BK276 := n1_; have GW276 := n2_; have GE276 := n3_; clear n0_ n1_ n2_ n3_; clear hb hbox hg; have hcz16_0 : w15.cell? ⟨gb276, 0, none⟩ = some (.int .i64 0) := (blk_cell BK276.out 0).trans rfl; have hcz16_1 : w15.cell? ⟨gb276, 1, none⟩ = some (.int .i64 0) := (blk_cell BK276.out 1).trans rfl; have hfz16_0 := blk_frozen BK276.out 0; have hfz16_1 := blk_frozen BK276.out 1) | ((with_reducible refine gate_callee (f := 40) rfl ?_); refine goesL_ (some 11) rfl rfl Try.func40 (by kernel_rfl) rfl #[.agg #[.int .i64 t274, .int .i64 t275], .int .u64 a1] rfl (by (try simp only [List.map_toArray, List.map_cons, List.map_nil]); first | done | rfl) ?_; (with_reducible refine (ff_size.calls t274 t275 a1 t277 _ A4.out).mono ?_); rintro e w17 ⟨rfl, hb⟩; refine ⟨_, rfl, ?_⟩; have n0_ := Aside0.mk (blk_below (g := gb276) (o := .cells #[.int .i64 t274, .int .i64 t275] 43 (0, 0)) (by (with_reducible repeat (first | refine blk_drewN ?_ _ | refine blk_drew ?_ | refine blk_alloc ?_ _)); refine blk_put (cs := #[.int .i64 t274, .int .i64 0]) ?_ 1 _ rfl; (with_reducible repeat (first | refine blk_drewN ?_ _ | refine blk_drew ?_ | refine blk_alloc ?_ _)); refine blk_put (cs := #[.int .i64 0, .int .i64 0]) ?_ 0 _ rfl; (with_reducible repeat (first | refine blk_drewN ?_ _ | refine blk_drew ?_ | refine blk_alloc ?_ _)); exact BK276.out) hb); have n1_ := Aside0.mk (below_step (by repeat (first | (with_reducible first | exact HB.out | apply below_alloc | apply pwB_ | apply below_drew1 | refine below_set ?_ GE276.out) | exact HB.out)) hb); clear BK276; clear HB; have BK276 := n0_; have HB := n1_; clear n0_ n1_; (try clear hb); (try clear hb2); (try clear hk); (try clear hi); have hcz18_0 : w17.cell? ⟨gb276, 0, none⟩ = some (.int .i64 t274) := (blk_cell BK276.out 0).trans rfl; have hcz18_1 : w17.cell? ⟨gb276, 1, none⟩ = some (.int .i64 t275) := (blk_cell BK276.out 1).trans rfl; have hfz18_0 := blk_frozen BK276.out 0; have hfz18_1 := blk_frozen BK276.out 1) | ((with_reducible refine gate_callee (f := 32) rfl ?_); refine goesL_ (some 14) rfl rfl Try.func32 (by kernel_rfl) rfl #[.agg #[.int .i64 t274, .int .i64 t275]] rfl (by (try simp only [List.map_toArray, List.map_cons, List.map_nil]); first | done | rfl) ?_; (with_reducible refine (ff_none.calls t274 t275 false _ A5.out).mono ?_); rintro e w19 ⟨rfl, hb⟩; refine ⟨_, rfl, ?_⟩; have n0_ := Aside0.mk (blk_below (g := gb276) (o := .cells #[.int .i64 t274, .int .i64 t275] 43 (0, 0)) (by (with_reducible repeat (first | refine blk_drewN ?_ _ | refine blk_drew ?_ | refine blk_alloc ?_ _)); exact BK276.out) hb); have n1_ := Aside0.mk (below_step (by repeat (first | (with_reducible first | exact HB.out | apply below_alloc | apply pwB_ | apply below_drew1 | refine below_set ?_ GE276.out) | exact HB.out)) hb); clear BK276; clear HB; have BK276 := n0_; have HB := n1_; clear n0_ n1_; (try clear hb); (try clear hb2); (try clear hk); (try clear hi)))
      go_ret
      exact ⟨by first | rfl | (simp [*] <;> rfl), by repeat (first | (with_reducible first | exact HB.out | apply below_alloc | apply pwB_ | apply below_drew1 | refine below_set ?_ GE276.out) | exact HB.out)⟩
    · rw [if_neg c13] at H
      have c13b0 : (t277 == 0) = false := beq_eq_false_iff_ne.mpr c13
      have c13b1 : (t277 != 0) = true := bne_iff_ne.mpr c13
      replace H := Option.bind_eq_some_iff.mp H
      obtain ⟨t279, A200, H⟩ := H
      replace H : (if t277 < t279 then (some 2) else ((ff_infinity.f t274 t275).bind fun t280 => (if t277 = t280 then (some 3) else (some 4)))) = some r := H
      have A20 := Aside0.mk A200
      clear A200
      by_cases c21 : t277 < t279
      · rw [if_pos c21] at H
        have c21b0 : decide (t277 < t279) = true := decide_eq_true c21
        clear c21
        obtain rfl := Option.some.inj H
        go_enter Try.func22, Try.ntmps22
        go_wp2_with (first | ((with_reducible refine gate_callee (f := 31) rfl ?_); refine goesL_ (some 8) rfl rfl Try.func31 (by kernel_rfl) rfl #[.int .i64 a0] rfl (by (try simp only [List.map_toArray, List.map_cons, List.map_nil]); first | done | rfl) ?_; (with_reducible refine (floats_of.calls a0 t274 t275 _ A3.out).mono ?_); rintro e w22 ⟨rfl, hb⟩; refine ⟨_, rfl, ?_⟩; have n0_ := Aside0.mk (below_step (by repeat (first | (with_reducible first | exact HB.out | apply below_alloc | apply pwB_ | apply below_drew1) | exact HB.out)) hb); clear HB; have HB := n0_; clear n0_; (try clear hb); (try clear hb2); (try clear hk); (try clear hi)) | ((with_reducible refine gate_dst (N := 5) rfl ?_); refine box_event ?hg (N := 5) ?hd (cs := #[.int .i64 0, .int .i64 0]) (t := 43) ?hr ?_; (case hd => rfl); (case hg => rfl); (case hr => first | (go_simp; done) | (go_simp; rfl)); intro gb276 hg w23 hbox hb; have n0_ := Aside0.mk (below_step (by repeat (first | (with_reducible first | exact HB.out | apply below_alloc | apply pwB_ | apply below_drew1) | exact HB.out)) hb); have n1_ := Aside0.mk (hbox); have n2_ := Aside0.mk ((by rw [hg]; exact (below_size (by repeat (first | (with_reducible first | exact HB.out | apply below_alloc | apply pwB_ | apply below_drew1) | exact HB.out))) : w.heap.size ≤ gb276)); have n3_ := Aside0.mk ((by rw [hg]; exact (below_size (by repeat (first | (with_reducible first | exact HB.out | apply below_alloc | apply pwB_ | apply below_drew1) | exact HB.out))) : w.heap.size ≤ gb276)); clear HB; have HB := n0_; have BK276 := n1_; have GW276 := n2_; have GE276 := n3_; clear n0_ n1_ n2_ n3_; clear hb hbox hg; have hcz24_0 : w23.cell? ⟨gb276, 0, none⟩ = some (.int .i64 0) := (blk_cell BK276.out 0).trans rfl; have hcz24_1 : w23.cell? ⟨gb276, 1, none⟩ = some (.int .i64 0) := (blk_cell BK276.out 1).trans rfl; have hfz24_0 := blk_frozen BK276.out 0; have hfz24_1 := blk_frozen BK276.out 1) | ((with_reducible refine gate_callee (f := 40) rfl ?_); refine goesL_ (some 11) rfl rfl Try.func40 (by kernel_rfl) rfl #[.agg #[.int .i64 t274, .int .i64 t275], .int .u64 a1] rfl (by (try simp only [List.map_toArray, List.map_cons, List.map_nil]); first | done | rfl) ?_; (with_reducible refine (ff_size.calls t274 t275 a1 t277 _ A4.out).mono ?_); rintro e w25 ⟨rfl, hb⟩; refine ⟨_, rfl, ?_⟩; have n0_ := Aside0.mk (blk_below (g := gb276) (o := .cells #[.int .i64 t274, .int .i64 t275] 43 (0, 0)) (by (with_reducible repeat (first | refine blk_drewN ?_ _ | refine blk_drew ?_ | refine blk_alloc ?_ _)); refine blk_put (cs := #[.int .i64 t274, .int .i64 0]) ?_ 1 _ rfl; (with_reducible repeat (first | refine blk_drewN ?_ _ | refine blk_drew ?_ | refine blk_alloc ?_ _)); refine blk_put (cs := #[.int .i64 0, .int .i64 0]) ?_ 0 _ rfl; (with_reducible repeat (first | refine blk_drewN ?_ _ | refine blk_drew ?_ | refine blk_alloc ?_ _)); exact BK276.out) hb); have n1_ := Aside0.mk (below_step (by repeat (first | (with_reducible first | exact HB.out | apply below_alloc | apply pwB_ | apply below_drew1 | refine below_set ?_ GE276.out) | exact HB.out)) hb); clear BK276; clear HB; have BK276 := n0_; have HB := n1_; clear n0_ n1_; (try clear hb); (try clear hb2); (try clear hk); (try clear hi); have hcz26_0 : w25.cell? ⟨gb276, 0, none⟩ = some (.int .i64 t274) := (blk_cell BK276.out 0).trans rfl; have hcz26_1 : w25.cell? ⟨gb276, 1, none⟩ = some (.int .i64 t275) := (blk_cell BK276.out 1).trans rfl; have hfz26_0 := blk_frozen BK276.out 0; have hfz26_1 := blk_frozen BK276.out 1) | ((with_reducible refine gate_callee (f := 32) rfl ?_); refine goesL_ (some 14) rfl rfl Try.func32 (by kernel_rfl) rfl #[.agg #[.int .i64 t274, .int .i64 t275]] rfl (by (try simp only [List.map_toArray, List.map_cons, List.map_nil]); first | done | rfl) ?_; (with_reducible refine (ff_none.calls t274 t275 false _ A5.out).mono ?_); rintro e w27 ⟨rfl, hb⟩; refine ⟨_, rfl, ?_⟩; have n0_ := Aside0.mk (blk_below (g := gb276) (o := .cells #[.int .i64 t274, .int .i64 t275] 43 (0, 0)) (by (with_reducible repeat (first | refine blk_drewN ?_ _ | refine blk_drew ?_ | refine blk_alloc ?_ _)); exact BK276.out) hb); have n1_ := Aside0.mk (below_step (by repeat (first | (with_reducible first | exact HB.out | apply below_alloc | apply pwB_ | apply below_drew1 | refine below_set ?_ GE276.out) | exact HB.out)) hb); clear BK276; clear HB; have BK276 := n0_; have HB := n1_; clear n0_ n1_; (try clear hb); (try clear hb2); (try clear hk); (try clear hi); have hcz28_0 : w27.cell? ⟨gb276, 0, none⟩ = some (.int .i64 t274) := (blk_cell BK276.out 0).trans rfl; have hcz28_1 : w27.cell? ⟨gb276, 1, none⟩ = some (.int .i64 t275) := (blk_cell BK276.out 1).trans rfl; have hfz28_0 := blk_frozen BK276.out 0; have hfz28_1 := blk_frozen BK276.out 1) | ((with_reducible refine gate_callee (f := 50) rfl ?_); refine goesL_ (some 21) rfl rfl Try.func50 (by kernel_rfl) rfl #[.agg #[.int .i64 t274, .int .i64 t275]] rfl (by (try simp only [List.map_toArray, List.map_cons, List.map_nil]); first | done | rfl) ?_; (with_reducible refine (ff_infinity.calls t274 t275 t279 _ A20.out).mono ?_); rintro e w29 ⟨rfl, hb⟩; refine ⟨_, rfl, ?_⟩; have n0_ := Aside0.mk (blk_below (g := gb276) (o := .cells #[.int .i64 t274, .int .i64 t275] 43 (0, 0)) (by (with_reducible repeat (first | refine blk_drewN ?_ _ | refine blk_drew ?_ | refine blk_alloc ?_ _)); exact BK276.out) hb); have n1_ := Aside0.mk (below_step (by repeat (first | (with_reducible first | exact HB.out | apply below_alloc | apply pwB_ | apply below_drew1 | refine below_set ?_ GE276.out) | exact HB.out)) hb); clear BK276; clear HB; have BK276 := n0_; have HB := n1_; clear n0_ n1_; (try clear hb); (try clear hb2); (try clear hk); (try clear hi)))
        go_ret
        exact ⟨by first | rfl | (simp [*] <;> rfl), by repeat (first | (with_reducible first | exact HB.out | apply below_alloc | apply pwB_ | apply below_drew1 | refine below_set ?_ GE276.out) | exact HB.out)⟩
      · rw [if_neg c21] at H
        have c21b0 : decide (t277 < t279) = false := decide_eq_false c21
        clear c21
        replace H := Option.bind_eq_some_iff.mp H
        obtain ⟨t280, A300, H⟩ := H
        replace H : (if t277 = t280 then (some 3) else (some 4)) = some r := H
        have A30 := Aside0.mk A300
        clear A300
        by_cases c31 : t277 = t280
        · rw [if_pos c31] at H
          have c31b0 : (t277 == t280) = true := beq_iff_eq.mpr c31
          have c31b1 : (t277 != t280) = false := bne_eq_false_iff_eq.mpr c31
          clear c31
          obtain rfl := Option.some.inj H
          go_enter Try.func22, Try.ntmps22
          go_wp2_with (first | ((with_reducible refine gate_callee (f := 31) rfl ?_); refine goesL_ (some 8) rfl rfl Try.func31 (by kernel_rfl) rfl #[.int .i64 a0] rfl (by (try simp only [List.map_toArray, List.map_cons, List.map_nil]); first | done | rfl) ?_; (with_reducible refine (floats_of.calls a0 t274 t275 _ A3.out).mono ?_); rintro e w32 ⟨rfl, hb⟩; refine ⟨_, rfl, ?_⟩; have n0_ := Aside0.mk (below_step (by repeat (first | (with_reducible first | exact HB.out | apply below_alloc | apply pwB_ | apply below_drew1) | exact HB.out)) hb); clear HB; have HB := n0_; clear n0_; (try clear hb); (try clear hb2); (try clear hk); (try clear hi)) | ((with_reducible refine gate_dst (N := 5) rfl ?_); refine box_event ?hg (N := 5) ?hd (cs := #[.int .i64 0, .int .i64 0]) (t := 43) ?hr ?_; (case hd => rfl); (case hg => rfl); (case hr => first | (go_simp; done) | (go_simp; rfl)); intro gb276 hg w33 hbox hb; have n0_ := Aside0.mk (below_step (by repeat (first | (with_reducible first | exact HB.out | apply below_alloc | apply pwB_ | apply below_drew1) | exact HB.out)) hb); have n1_ := Aside0.mk (hbox); have n2_ := Aside0.mk ((by rw [hg]; exact (below_size (by repeat (first | (with_reducible first | exact HB.out | apply below_alloc | apply pwB_ | apply below_drew1) | exact HB.out))) : w.heap.size ≤ gb276)); have n3_ := Aside0.mk ((by rw [hg]; exact (below_size (by repeat (first | (with_reducible first | exact HB.out | apply below_alloc | apply pwB_ | apply below_drew1) | exact HB.out))) : w.heap.size ≤ gb276)); clear HB; have HB := n0_; have BK276 := n1_; have GW276 := n2_; have GE276 := n3_; clear n0_ n1_ n2_ n3_; clear hb hbox hg; have hcz34_0 : w33.cell? ⟨gb276, 0, none⟩ = some (.int .i64 0) := (blk_cell BK276.out 0).trans rfl; have hcz34_1 : w33.cell? ⟨gb276, 1, none⟩ = some (.int .i64 0) := (blk_cell BK276.out 1).trans rfl; have hfz34_0 := blk_frozen BK276.out 0; have hfz34_1 := blk_frozen BK276.out 1) | ((with_reducible refine gate_callee (f := 40) rfl ?_); refine goesL_ (some 11) rfl rfl Try.func40 (by kernel_rfl) rfl #[.agg #[.int .i64 t274, .int .i64 t275], .int .u64 a1] rfl (by (try simp only [List.map_toArray, List.map_cons, List.map_nil]); first | done | rfl) ?_; (with_reducible refine (ff_size.calls t274 t275 a1 t277 _ A4.out).mono ?_); rintro e w35 ⟨rfl, hb⟩; refine ⟨_, rfl, ?_⟩; have n0_ := Aside0.mk (blk_below (g := gb276) (o := .cells #[.int .i64 t274, .int .i64 t275] 43 (0, 0)) (by (with_reducible repeat (first | refine blk_drewN ?_ _ | refine blk_drew ?_ | refine blk_alloc ?_ _)); refine blk_put (cs := #[.int .i64 t274, .int .i64 0]) ?_ 1 _ rfl; (with_reducible repeat (first | refine blk_drewN ?_ _ | refine blk_drew ?_ | refine blk_alloc ?_ _)); refine blk_put (cs := #[.int .i64 0, .int .i64 0]) ?_ 0 _ rfl; (with_reducible repeat (first | refine blk_drewN ?_ _ | refine blk_drew ?_ | refine blk_alloc ?_ _)); exact BK276.out) hb); have n1_ := Aside0.mk (below_step (by repeat (first | (with_reducible first | exact HB.out | apply below_alloc | apply pwB_ | apply below_drew1 | refine below_set ?_ GE276.out) | exact HB.out)) hb); clear BK276; clear HB; have BK276 := n0_; have HB := n1_; clear n0_ n1_; (try clear hb); (try clear hb2); (try clear hk); (try clear hi); have hcz36_0 : w35.cell? ⟨gb276, 0, none⟩ = some (.int .i64 t274) := (blk_cell BK276.out 0).trans rfl; have hcz36_1 : w35.cell? ⟨gb276, 1, none⟩ = some (.int .i64 t275) := (blk_cell BK276.out 1).trans rfl; have hfz36_0 := blk_frozen BK276.out 0; have hfz36_1 := blk_frozen BK276.out 1) | ((with_reducible refine gate_callee (f := 32) rfl ?_); refine goesL_ (some 14) rfl rfl Try.func32 (by kernel_rfl) rfl #[.agg #[.int .i64 t274, .int .i64 t275]] rfl (by (try simp only [List.map_toArray, List.map_cons, List.map_nil]); first | done | rfl) ?_; (with_reducible refine (ff_none.calls t274 t275 false _ A5.out).mono ?_); rintro e w37 ⟨rfl, hb⟩; refine ⟨_, rfl, ?_⟩; have n0_ := Aside0.mk (blk_below (g := gb276) (o := .cells #[.int .i64 t274, .int .i64 t275] 43 (0, 0)) (by (with_reducible repeat (first | refine blk_drewN ?_ _ | refine blk_drew ?_ | refine blk_alloc ?_ _)); exact BK276.out) hb); have n1_ := Aside0.mk (below_step (by repeat (first | (with_reducible first | exact HB.out | apply below_alloc | apply pwB_ | apply below_drew1 | refine below_set ?_ GE276.out) | exact HB.out)) hb); clear BK276; clear HB; have BK276 := n0_; have HB := n1_; clear n0_ n1_; (try clear hb); (try clear hb2); (try clear hk); (try clear hi); have hcz38_0 : w37.cell? ⟨gb276, 0, none⟩ = some (.int .i64 t274) := (blk_cell BK276.out 0).trans rfl; have hcz38_1 : w37.cell? ⟨gb276, 1, none⟩ = some (.int .i64 t275) := (blk_cell BK276.out 1).trans rfl; have hfz38_0 := blk_frozen BK276.out 0; have hfz38_1 := blk_frozen BK276.out 1) | ((with_reducible refine gate_callee (f := 50) rfl ?_); refine goesL_ (some 21) rfl rfl Try.func50 (by kernel_rfl) rfl #[.agg #[.int .i64 t274, .int .i64 t275]] rfl (by (try simp only [List.map_toArray, List.map_cons, List.map_nil]); first | done | rfl) ?_; (with_reducible refine (ff_infinity.calls t274 t275 t279 _ A20.out).mono ?_); rintro e w39 ⟨rfl, hb⟩; refine ⟨_, rfl, ?_⟩; have n0_ := Aside0.mk (blk_below (g := gb276) (o := .cells #[.int .i64 t274, .int .i64 t275] 43 (0, 0)) (by (with_reducible repeat (first | refine blk_drewN ?_ _ | refine blk_drew ?_ | refine blk_alloc ?_ _)); exact BK276.out) hb); have n1_ := Aside0.mk (below_step (by repeat (first | (with_reducible first | exact HB.out | apply below_alloc | apply pwB_ | apply below_drew1 | refine below_set ?_ GE276.out) | exact HB.out)) hb); clear BK276; clear HB; have BK276 := n0_; have HB := n1_; clear n0_ n1_; (try clear hb); (try clear hb2); (try clear hk); (try clear hi); have hcz40_0 : w39.cell? ⟨gb276, 0, none⟩ = some (.int .i64 t274) := (blk_cell BK276.out 0).trans rfl; have hcz40_1 : w39.cell? ⟨gb276, 1, none⟩ = some (.int .i64 t275) := (blk_cell BK276.out 1).trans rfl; have hfz40_0 := blk_frozen BK276.out 0; have hfz40_1 := blk_frozen BK276.out 1) | ((with_reducible refine gate_callee (f := 50) rfl ?_); refine goesL_ (some 26) rfl rfl Try.func50 (by kernel_rfl) rfl #[.agg #[.int .i64 t274, .int .i64 t275]] rfl (by (try simp only [List.map_toArray, List.map_cons, List.map_nil]); first | done | rfl) ?_; (with_reducible refine (ff_infinity.calls t274 t275 t280 _ A30.out).mono ?_); rintro e w41 ⟨rfl, hb⟩; refine ⟨_, rfl, ?_⟩; have n0_ := Aside0.mk (blk_below (g := gb276) (o := .cells #[.int .i64 t274, .int .i64 t275] 43 (0, 0)) (by (with_reducible repeat (first | refine blk_drewN ?_ _ | refine blk_drew ?_ | refine blk_alloc ?_ _)); exact BK276.out) hb); have n1_ := Aside0.mk (below_step (by repeat (first | (with_reducible first | exact HB.out | apply below_alloc | apply pwB_ | apply below_drew1 | refine below_set ?_ GE276.out) | exact HB.out)) hb); clear BK276; clear HB; have BK276 := n0_; have HB := n1_; clear n0_ n1_; (try clear hb); (try clear hb2); (try clear hk); (try clear hi)))
          go_ret
          exact ⟨by first | rfl | (simp [*] <;> rfl), by repeat (first | (with_reducible first | exact HB.out | apply below_alloc | apply pwB_ | apply below_drew1 | refine below_set ?_ GE276.out) | exact HB.out)⟩
        · rw [if_neg c31] at H
          have c31b0 : (t277 == t280) = false := beq_eq_false_iff_ne.mpr c31
          have c31b1 : (t277 != t280) = true := bne_iff_ne.mpr c31
          obtain rfl := Option.some.inj H
          go_enter Try.func22, Try.ntmps22
          go_wp2_with (first | ((with_reducible refine gate_callee (f := 31) rfl ?_); refine goesL_ (some 8) rfl rfl Try.func31 (by kernel_rfl) rfl #[.int .i64 a0] rfl (by (try simp only [List.map_toArray, List.map_cons, List.map_nil]); first | done | rfl) ?_; (with_reducible refine (floats_of.calls a0 t274 t275 _ A3.out).mono ?_); rintro e w42 ⟨rfl, hb⟩; refine ⟨_, rfl, ?_⟩; have n0_ := Aside0.mk (below_step (by repeat (first | (with_reducible first | exact HB.out | apply below_alloc | apply pwB_ | apply below_drew1) | exact HB.out)) hb); clear HB; have HB := n0_; clear n0_; (try clear hb); (try clear hb2); (try clear hk); (try clear hi)) | ((with_reducible refine gate_dst (N := 5) rfl ?_); refine box_event ?hg (N := 5) ?hd (cs := #[.int .i64 0, .int .i64 0]) (t := 43) ?hr ?_; (case hd => rfl); (case hg => rfl); (case hr => first | (go_simp; done) | (go_simp; rfl)); intro gb276 hg w43 hbox hb; have n0_ := Aside0.mk (below_step (by repeat (first | (with_reducible first | exact HB.out | apply below_alloc | apply pwB_ | apply below_drew1) | exact HB.out)) hb); have n1_ := Aside0.mk (hbox); have n2_ := Aside0.mk ((by rw [hg]; exact (below_size (by repeat (first | (with_reducible first | exact HB.out | apply below_alloc | apply pwB_ | apply below_drew1) | exact HB.out))) : w.heap.size ≤ gb276)); have n3_ := Aside0.mk ((by rw [hg]; exact (below_size (by repeat (first | (with_reducible first | exact HB.out | apply below_alloc | apply pwB_ | apply below_drew1) | exact HB.out))) : w.heap.size ≤ gb276)); clear HB; have HB := n0_; have BK276 := n1_; have GW276 := n2_; have GE276 := n3_; clear n0_ n1_ n2_ n3_; clear hb hbox hg; have hcz44_0 : w43.cell? ⟨gb276, 0, none⟩ = some (.int .i64 0) := (blk_cell BK276.out 0).trans rfl; have hcz44_1 : w43.cell? ⟨gb276, 1, none⟩ = some (.int .i64 0) := (blk_cell BK276.out 1).trans rfl; have hfz44_0 := blk_frozen BK276.out 0; have hfz44_1 := blk_frozen BK276.out 1) | ((with_reducible refine gate_callee (f := 40) rfl ?_); refine goesL_ (some 11) rfl rfl Try.func40 (by kernel_rfl) rfl #[.agg #[.int .i64 t274, .int .i64 t275], .int .u64 a1] rfl (by (try simp only [List.map_toArray, List.map_cons, List.map_nil]); first | done | rfl) ?_; (with_reducible refine (ff_size.calls t274 t275 a1 t277 _ A4.out).mono ?_); rintro e w45 ⟨rfl, hb⟩; refine ⟨_, rfl, ?_⟩; have n0_ := Aside0.mk (blk_below (g := gb276) (o := .cells #[.int .i64 t274, .int .i64 t275] 43 (0, 0)) (by (with_reducible repeat (first | refine blk_drewN ?_ _ | refine blk_drew ?_ | refine blk_alloc ?_ _)); refine blk_put (cs := #[.int .i64 t274, .int .i64 0]) ?_ 1 _ rfl; (with_reducible repeat (first | refine blk_drewN ?_ _ | refine blk_drew ?_ | refine blk_alloc ?_ _)); refine blk_put (cs := #[.int .i64 0, .int .i64 0]) ?_ 0 _ rfl; (with_reducible repeat (first | refine blk_drewN ?_ _ | refine blk_drew ?_ | refine blk_alloc ?_ _)); exact BK276.out) hb); have n1_ := Aside0.mk (below_step (by repeat (first | (with_reducible first | exact HB.out | apply below_alloc | apply pwB_ | apply below_drew1 | refine below_set ?_ GE276.out) | exact HB.out)) hb); clear BK276; clear HB; have BK276 := n0_; have HB := n1_; clear n0_ n1_; (try clear hb); (try clear hb2); (try clear hk); (try clear hi); have hcz46_0 : w45.cell? ⟨gb276, 0, none⟩ = some (.int .i64 t274) := (blk_cell BK276.out 0).trans rfl; have hcz46_1 : w45.cell? ⟨gb276, 1, none⟩ = some (.int .i64 t275) := (blk_cell BK276.out 1).trans rfl; have hfz46_0 := blk_frozen BK276.out 0; have hfz46_1 := blk_frozen BK276.out 1) | ((with_reducible refine gate_callee (f := 32) rfl ?_); refine goesL_ (some 14) rfl rfl Try.func32 (by kernel_rfl) rfl #[.agg #[.int .i64 t274, .int .i64 t275]] rfl (by (try simp only [List.map_toArray, List.map_cons, List.map_nil]); first | done | rfl) ?_; (with_reducible refine (ff_none.calls t274 t275 false _ A5.out).mono ?_); rintro e w47 ⟨rfl, hb⟩; refine ⟨_, rfl, ?_⟩; have n0_ := Aside0.mk (blk_below (g := gb276) (o := .cells #[.int .i64 t274, .int .i64 t275] 43 (0, 0)) (by (with_reducible repeat (first | refine blk_drewN ?_ _ | refine blk_drew ?_ | refine blk_alloc ?_ _)); exact BK276.out) hb); have n1_ := Aside0.mk (below_step (by repeat (first | (with_reducible first | exact HB.out | apply below_alloc | apply pwB_ | apply below_drew1 | refine below_set ?_ GE276.out) | exact HB.out)) hb); clear BK276; clear HB; have BK276 := n0_; have HB := n1_; clear n0_ n1_; (try clear hb); (try clear hb2); (try clear hk); (try clear hi); have hcz48_0 : w47.cell? ⟨gb276, 0, none⟩ = some (.int .i64 t274) := (blk_cell BK276.out 0).trans rfl; have hcz48_1 : w47.cell? ⟨gb276, 1, none⟩ = some (.int .i64 t275) := (blk_cell BK276.out 1).trans rfl; have hfz48_0 := blk_frozen BK276.out 0; have hfz48_1 := blk_frozen BK276.out 1) | ((with_reducible refine gate_callee (f := 50) rfl ?_); refine goesL_ (some 21) rfl rfl Try.func50 (by kernel_rfl) rfl #[.agg #[.int .i64 t274, .int .i64 t275]] rfl (by (try simp only [List.map_toArray, List.map_cons, List.map_nil]); first | done | rfl) ?_; (with_reducible refine (ff_infinity.calls t274 t275 t279 _ A20.out).mono ?_); rintro e w49 ⟨rfl, hb⟩; refine ⟨_, rfl, ?_⟩; have n0_ := Aside0.mk (blk_below (g := gb276) (o := .cells #[.int .i64 t274, .int .i64 t275] 43 (0, 0)) (by (with_reducible repeat (first | refine blk_drewN ?_ _ | refine blk_drew ?_ | refine blk_alloc ?_ _)); exact BK276.out) hb); have n1_ := Aside0.mk (below_step (by repeat (first | (with_reducible first | exact HB.out | apply below_alloc | apply pwB_ | apply below_drew1 | refine below_set ?_ GE276.out) | exact HB.out)) hb); clear BK276; clear HB; have BK276 := n0_; have HB := n1_; clear n0_ n1_; (try clear hb); (try clear hb2); (try clear hk); (try clear hi); have hcz50_0 : w49.cell? ⟨gb276, 0, none⟩ = some (.int .i64 t274) := (blk_cell BK276.out 0).trans rfl; have hcz50_1 : w49.cell? ⟨gb276, 1, none⟩ = some (.int .i64 t275) := (blk_cell BK276.out 1).trans rfl; have hfz50_0 := blk_frozen BK276.out 0; have hfz50_1 := blk_frozen BK276.out 1) | ((with_reducible refine gate_callee (f := 50) rfl ?_); refine goesL_ (some 26) rfl rfl Try.func50 (by kernel_rfl) rfl #[.agg #[.int .i64 t274, .int .i64 t275]] rfl (by (try simp only [List.map_toArray, List.map_cons, List.map_nil]); first | done | rfl) ?_; (with_reducible refine (ff_infinity.calls t274 t275 t280 _ A30.out).mono ?_); rintro e w51 ⟨rfl, hb⟩; refine ⟨_, rfl, ?_⟩; have n0_ := Aside0.mk (blk_below (g := gb276) (o := .cells #[.int .i64 t274, .int .i64 t275] 43 (0, 0)) (by (with_reducible repeat (first | refine blk_drewN ?_ _ | refine blk_drew ?_ | refine blk_alloc ?_ _)); exact BK276.out) hb); have n1_ := Aside0.mk (below_step (by repeat (first | (with_reducible first | exact HB.out | apply below_alloc | apply pwB_ | apply below_drew1 | refine below_set ?_ GE276.out) | exact HB.out)) hb); clear BK276; clear HB; have BK276 := n0_; have HB := n1_; clear n0_ n1_; (try clear hb); (try clear hb2); (try clear hk); (try clear hi)))
          go_ret
          exact ⟨by first | rfl | (simp [*] <;> rfl), by repeat (first | (with_reducible first | exact HB.out | apply below_alloc | apply pwB_ | apply below_drew1 | refine below_set ?_ GE276.out) | exact HB.out)⟩
def floats_Canonical.f (a0 : Int) : Option (Int) := (floats_of.f a0).bind fun bt281 => ((ff_none.f bt281.1 bt281.2).bind fun t283 => (if t283 = true then (some 0) else ((floats_of.f a0).bind fun bt284 => ((ff_nan.f bt284.1 bt284.2).bind fun t286 => (some t286)))))
set_option maxHeartbeats 8000000 in
set_option maxRecDepth 100000 in
theorem floats_Canonical.calls (a0 : Int) (r : Int) (w : World) (h : floats_Canonical.f a0 = some r) :
    Calls Try.prog 26 #[.int .i64 a0] w fun e w' => e = .returned (.int .u64 r) ∧ Below w.heap.size w w' := by
  have HB := Aside0.mk (Below.refl w.heap.size w)
  have H : ((floats_of.f a0).bind fun bt281 => ((ff_none.f bt281.1 bt281.2).bind fun t283 => (if t283 = true then (some 0) else ((floats_of.f a0).bind fun bt284 => ((ff_nan.f bt284.1 bt284.2).bind fun t286 => (some t286)))))) = some r := h
  clear h
  replace H := Option.bind_eq_some_iff.mp H
  obtain ⟨⟨t281, t282⟩, A20, H⟩ := H
  replace H : ((ff_none.f t281 t282).bind fun t283 => (if t283 = true then (some 0) else ((floats_of.f a0).bind fun bt284 => ((ff_nan.f bt284.1 bt284.2).bind fun t286 => (some t286))))) = some r := H
  have A2 := Aside0.mk A20
  clear A20
  replace H := Option.bind_eq_some_iff.mp H
  obtain ⟨t283, A30, H⟩ := H
  replace H : (if t283 = true then (some 0) else ((floats_of.f a0).bind fun bt284 => ((ff_nan.f bt284.1 bt284.2).bind fun t286 => (some t286)))) = some r := H
  have A3 := Aside0.mk A30
  clear A30
  by_cases c4 : t283 = true
  · subst c4
    have H1 : (some 0) = some r := by rw [if_pos rfl] at H; exact H
    clear H
    have H := H1
    clear H1
    obtain rfl := Option.some.inj H
    go_enter Try.func26, Try.ntmps26
    go_wp2_with (first | ((with_reducible refine gate_callee (f := 31) rfl ?_); refine goesL_ (some 4) rfl rfl Try.func31 (by kernel_rfl) rfl #[.int .i64 a0] rfl (by (try simp only [List.map_toArray, List.map_cons, List.map_nil]); first | done | rfl) ?_; (with_reducible refine (floats_of.calls a0 t281 t282 _ A2.out).mono ?_); rintro e w5 ⟨rfl, hb⟩; refine ⟨_, rfl, ?_⟩; have n0_ := Aside0.mk (below_step (by repeat (first | (with_reducible first | exact HB.out | apply below_alloc | apply pwB_ | apply below_drew1) | exact HB.out)) hb); clear HB; have HB := n0_; clear n0_; (try clear hb); (try clear hb2); (try clear hk); (try clear hi)) | ((with_reducible refine gate_callee (f := 32) rfl ?_); refine goesL_ (some 5) rfl rfl Try.func32 (by kernel_rfl) rfl #[.agg #[.int .i64 t281, .int .i64 t282]] rfl (by (try simp only [List.map_toArray, List.map_cons, List.map_nil]); first | done | rfl) ?_; (with_reducible refine (ff_none.calls t281 t282 true _ A3.out).mono ?_); rintro e w6 ⟨rfl, hb⟩; refine ⟨_, rfl, ?_⟩; have n0_ := Aside0.mk (below_step (by repeat (first | (with_reducible first | exact HB.out | apply below_alloc | apply pwB_ | apply below_drew1) | exact HB.out)) hb); clear HB; have HB := n0_; clear n0_; (try clear hb); (try clear hb2); (try clear hk); (try clear hi)))
    go_ret
    exact ⟨by first | rfl | (simp [*] <;> rfl), by repeat (first | (with_reducible first | exact HB.out | apply below_alloc | apply pwB_ | apply below_drew1) | exact HB.out)⟩
  · replace c4 := Bool.eq_false_iff.mpr c4
    subst c4
    have H1 : ((floats_of.f a0).bind fun bt284 => ((ff_nan.f bt284.1 bt284.2).bind fun t286 => (some t286))) = some r := by rw [if_neg (show ¬ (false = true) by decide)] at H; exact H
    clear H
    have H := H1
    clear H1
    replace H := Option.bind_eq_some_iff.mp H
    obtain ⟨⟨t284, t285⟩, A70, H⟩ := H
    replace H : ((ff_nan.f t284 t285).bind fun t286 => (some t286)) = some r := H
    have A7 := Aside0.mk A70
    clear A70
    replace H := Option.bind_eq_some_iff.mp H
    obtain ⟨t286, A80, H⟩ := H
    replace H : (some t286) = some r := H
    have A8 := Aside0.mk A80
    clear A80
    obtain rfl := Option.some.inj H
    go_enter Try.func26, Try.ntmps26
    go_wp2_with (first | ((with_reducible refine gate_callee (f := 31) rfl ?_); refine goesL_ (some 4) rfl rfl Try.func31 (by kernel_rfl) rfl #[.int .i64 a0] rfl (by (try simp only [List.map_toArray, List.map_cons, List.map_nil]); first | done | rfl) ?_; (with_reducible refine (floats_of.calls a0 t281 t282 _ A2.out).mono ?_); rintro e w9 ⟨rfl, hb⟩; refine ⟨_, rfl, ?_⟩; have n0_ := Aside0.mk (below_step (by repeat (first | (with_reducible first | exact HB.out | apply below_alloc | apply pwB_ | apply below_drew1) | exact HB.out)) hb); clear HB; have HB := n0_; clear n0_; (try clear hb); (try clear hb2); (try clear hk); (try clear hi)) | ((with_reducible refine gate_callee (f := 32) rfl ?_); refine goesL_ (some 5) rfl rfl Try.func32 (by kernel_rfl) rfl #[.agg #[.int .i64 t281, .int .i64 t282]] rfl (by (try simp only [List.map_toArray, List.map_cons, List.map_nil]); first | done | rfl) ?_; (with_reducible refine (ff_none.calls t281 t282 false _ A3.out).mono ?_); rintro e w10 ⟨rfl, hb⟩; refine ⟨_, rfl, ?_⟩; have n0_ := Aside0.mk (below_step (by repeat (first | (with_reducible first | exact HB.out | apply below_alloc | apply pwB_ | apply below_drew1) | exact HB.out)) hb); clear HB; have HB := n0_; clear n0_; (try clear hb); (try clear hb2); (try clear hk); (try clear hi)) | ((with_reducible refine gate_callee (f := 31) rfl ?_); refine goesL_ (some 7) rfl rfl Try.func31 (by kernel_rfl) rfl #[.int .i64 a0] rfl (by (try simp only [List.map_toArray, List.map_cons, List.map_nil]); first | done | rfl) ?_; (with_reducible refine (floats_of.calls a0 t284 t285 _ A7.out).mono ?_); rintro e w11 ⟨rfl, hb⟩; refine ⟨_, rfl, ?_⟩; have n0_ := Aside0.mk (below_step (by repeat (first | (with_reducible first | exact HB.out | apply below_alloc | apply pwB_ | apply below_drew1) | exact HB.out)) hb); clear HB; have HB := n0_; clear n0_; (try clear hb); (try clear hb2); (try clear hk); (try clear hi)) | ((with_reducible refine gate_callee (f := 42) rfl ?_); refine goesL_ (some 8) rfl rfl Try.func42 (by kernel_rfl) rfl #[.agg #[.int .i64 t284, .int .i64 t285]] rfl (by (try simp only [List.map_toArray, List.map_cons, List.map_nil]); first | done | rfl) ?_; (with_reducible refine (ff_nan.calls t284 t285 t286 _ A8.out).mono ?_); rintro e w12 ⟨rfl, hb⟩; refine ⟨_, rfl, ?_⟩; have n0_ := Aside0.mk (below_step (by repeat (first | (with_reducible first | exact HB.out | apply below_alloc | apply pwB_ | apply below_drew1) | exact HB.out)) hb); clear HB; have HB := n0_; clear n0_; (try clear hb); (try clear hb2); (try clear hk); (try clear hi)))
    go_ret
    exact ⟨by first | rfl | (simp [*] <;> rfl), by repeat (first | (with_reducible first | exact HB.out | apply below_alloc | apply pwB_ | apply below_drew1) | exact HB.out)⟩
/-- The document's examples come to true. -/
def bl_awake.f (_ : Nat) : Option Bool := some true
theorem bl_awake.mono : ∀ k, LeO (bl_awake.f k) (bl_awake.f (k + 1)) := fun _ => LeO.refl _
set_option maxHeartbeats 1000000 in
set_option maxRecDepth 100000 in
theorem bl_awake.calls (k : Nat) (r : Bool) (w : World) (h : bl_awake.f k = some r) :
    Calls Try.prog 16 #[] w fun e w' => e = .returned (.bool r) ∧ Below w.heap.size w w' := by
  obtain rfl := Option.some.inj h
  clear h
  go_enter Try.func16, Try.ntmps16
  go_wp2_with fail
  refine (floats_Bin.calls 100 32 1 1065353216 1073741824 1077936128 0 _ (by decide +kernel)).mono ?_
  rintro e w1 ⟨rfl, b1⟩
  have B1 := Aside0.mk b1
  clear b1
  go_wp2_with fail
  refine (floats_Bin.calls 100 64 4 4607182418800017408 4613937818241073152 4599676419421066581 0 _ (by decide +kernel)).mono ?_
  rintro e w2 ⟨rfl, b2⟩
  have B2 := Aside0.mk (B1.out.trans (b2.mono (Nat.le_trans (Nat.le_refl _) B1.out.size)))
  clear b2 B1
  go_wp2_with fail
  refine (floats_Un.calls 100 32 7 1075838976 1073741824 0 _ (by decide +kernel)).mono ?_
  rintro e w3 ⟨rfl, b3⟩
  have B3 := Aside0.mk (B2.out.trans (b3.mono B2.out.size))
  clear b3 B2
  go_wp2_with fail
  refine (floats_Rel.calls 100 64 1 0 9223372036854775808 true 0 _ (by decide +kernel)).mono ?_
  rintro e w4 ⟨rfl, b4⟩
  have B4 := Aside0.mk (B3.out.trans (b4.mono B3.out.size))
  clear b4 B3
  go_wp2_with fail
  refine (floats_Round.calls 100 32 true 3 (-1) false 3217031168 0 _ (by decide +kernel)).mono ?_
  rintro e w5 ⟨rfl, b5⟩
  have B5 := Aside0.mk (B4.out.trans (b5.mono B4.out.size))
  clear b5 B4
  go_wp2_with fail
  refine (floats_Kind.calls 32 2139095040 3 _ (by decide +kernel)).mono ?_
  rintro e w6 ⟨rfl, b6⟩
  have B6 := Aside0.mk (B5.out.trans (b6.mono B5.out.size))
  clear b6 B5
  go_wp2_with fail
  refine (floats_Canonical.calls 32 2143289344 _ (by decide +kernel)).mono ?_
  rintro e w7 ⟨rfl, b7⟩
  have B7 := Aside0.mk (B6.out.trans (b7.mono B6.out.size))
  clear b7 B6
  go_wp2_with fail
  go_ret
  exact ⟨rfl, B7.out⟩
end Go.Proofs.Ytjfmomogidgbpaa.PFl
namespace Go.Proofs.Ytjfmomogidgbpaa.PFl
open Go.RowKit Go.Proofs.YtjfmomogidgbpaaW.PrintWords Go.Proofs.YtjfmomogidgbpaaW.PrintLast Go.Proofs.YtjfmomogidgbpaaW.PrintMore
attribute [local go_sem] max2_int min2_int max_two min_two max_three min_three max_four min_four
set_option linter.unusedVariables false
set_option linter.unusedSimpArgs false
mutual
def br_near.j0 : Nat → Int → Int → Int → Int → Int → Int → Option (Int)
  | 0, _, _, _, _, _, _ => none
  | k + 1, x0, x1, x3, x4, x5, x13 => br_near.l0 k x0 x1 x3 x4 x5 x13
def br_near.l0 : Nat → Int → Int → Int → Int → Int → Int → Option (Int)
  | 0, _, _, _, _, _, _ => none
  | k + 1, x0, x1, x3, x4, x5, x13 => if 0 ≤ (IntKind.u64.wrap (x3)) then (if x0 ≥ (shl .u64 2 (IntKind.u64.wrap (x3))) then (br_near.j2 k x0 x1 x3 x4 x5 x13 true) else (br_near.j2 k x0 x1 x3 x4 x5 x13 (decide (x1 < x4)))) else (none)
def br_near.j2 : Nat → Int → Int → Int → Int → Int → Int → Bool → Option (Int)
  | 0, _, _, _, _, _, _, _ => none
  | k + 1, x0, x1, x3, x4, x5, x13, x31 => if x31 = true then (if (wrap64 (Int.tmod x0 2)) = 1 then (br_near.j3 k (IntKind.u64.wrap (Int.tdiv x0 2)) (wrap64 (x1 + 1)) x3 x4 x5 x13 (wrap64 (Int.tmod x0 2)) (x13 == 0)) else (br_near.j3 k (IntKind.u64.wrap (Int.tdiv x0 2)) (wrap64 (x1 + 1)) x3 x4 x5 x13 (wrap64 (Int.tmod x0 2)) false)) else (if x13 = 3 then (br_near.j4 k x0 x1 x3 x4 x5 true) else (if x13 = 2 then (br_near.j4 k x0 x1 x3 x4 x5 ((Int.tmod x0 2) == 1)) else (br_near.j4 k x0 x1 x3 x4 x5 false)))
def br_near.j3 : Nat → Int → Int → Int → Int → Int → Int → Int → Bool → Option (Int)
  | 0, _, _, _, _, _, _, _, _ => none
  | k + 1, x0, x1, x3, x4, x5, x13, x14, x44 => if x44 = true then (if x0 = 0 then (if x1 < (wrap64 (x4 - 1)) then (some 0) else (br_near.l0 k x0 x1 x3 x4 x5 2)) else (br_near.l0 k x0 x1 x3 x4 x5 2)) else (if x14 = 1 then (if x0 = 0 then (if x1 < (wrap64 (x4 - 1)) then (some 0) else (br_near.l0 k x0 x1 x3 x4 x5 3)) else (br_near.l0 k x0 x1 x3 x4 x5 3)) else (if x13 > 1 then (if x0 = 0 then (if x1 < (wrap64 (x4 - 1)) then (some 0) else (br_near.l0 k x0 x1 x3 x4 x5 1)) else (br_near.l0 k x0 x1 x3 x4 x5 1)) else (if x0 = 0 then (if x1 < (wrap64 (x4 - 1)) then (some 0) else (br_near.l0 k x0 x1 x3 x4 x5 x13)) else (br_near.l0 k x0 x1 x3 x4 x5 x13))))
def br_near.j4 : Nat → Int → Int → Int → Int → Int → Bool → Option (Int)
  | 0, _, _, _, _, _, _ => none
  | k + 1, x0, x1, x3, x4, x5, x67 => if x67 = true then (br_near.j5 k (IntKind.u64.wrap (x0 + 1)) x1 x3 x4 x5) else (br_near.j5 k x0 x1 x3 x4 x5)
def br_near.j5 : Nat → Int → Int → Int → Int → Int → Option (Int)
  | 0, _, _, _, _, _ => none
  | k + 1, x0, x1, x3, x4, x5 => br_near.l1 k x0 x1 x3 x4 x5
def br_near.j7 : Nat → Int → Int → Int → Int → Int → Option (Int)
  | 0, _, _, _, _, _ => none
  | k + 1, x0, x1, x3, x4, x5 => if 0 ≤ (IntKind.u64.wrap (x3)) then (if x0 ≥ (shl .u64 2 (IntKind.u64.wrap (x3))) then (br_near.j8 k (IntKind.u64.wrap (Int.tdiv x0 2)) (wrap64 (x1 + 1)) x3 x4 x5) else (br_near.j8 k x0 x1 x3 x4 x5)) else (none)
def br_near.j8 : Nat → Int → Int → Int → Int → Int → Option (Int)
  | 0, _, _, _, _, _ => none
  | k + 1, x0, x1, x3, x4, x5 => if 0 ≤ (IntKind.u64.wrap (x3)) then (if x0 < (shl .u64 1 (IntKind.u64.wrap (x3))) then (some x0) else (if (wrap64 (x1 - x4)) > 3000 then (some x5) else (if (IntKind.u64.wrap ((shl .u64 (IntKind.u64.wrap (wrap64 (x1 - x4))) (IntKind.u64.wrap (x3))) + x0)) > x5 then (some x5) else (some (IntKind.u64.wrap ((shl .u64 (IntKind.u64.wrap (wrap64 (x1 - x4))) (IntKind.u64.wrap (x3))) + x0)))))) else (none)
def br_near.l1 : Nat → Int → Int → Int → Int → Int → Option (Int)
  | 0, _, _, _, _, _ => none
  | k + 1, x0, x1, x3, x4, x5 => if 0 ≤ (IntKind.u64.wrap (x3)) then (if x0 < (shl .u64 1 (IntKind.u64.wrap (x3))) then (if x1 > x4 then (br_near.l1 k (IntKind.u64.wrap (x0 * 2)) (wrap64 (x1 - 1)) x3 x4 x5) else (br_near.j7 k x0 x1 x3 x4 x5)) else (br_near.j7 k x0 x1 x3 x4 x5)) else (none)
end
def br_near.f (k : Nat) (a0 : Int) (a1 : Int) (a2 : Bool) (a3 : Int) (a4 : Int) (a5 : Int) : Option (Int) := if a1 > 3000 then (some a5) else (if a1 < (-3000) then (some 0) else (if a2 = true then (br_near.j0 k a0 a1 a3 a4 a5 1) else (br_near.j0 k a0 a1 a3 a4 a5 0)))
theorem br_near.mono_l : ∀ k, (∀ y0 y1 y2 y3 y4 y5, LeO (br_near.j0 k y0 y1 y2 y3 y4 y5) (br_near.j0 (k + 1) y0 y1 y2 y3 y4 y5)) ∧ (∀ y0 y1 y2 y3 y4 y5, LeO (br_near.l0 k y0 y1 y2 y3 y4 y5) (br_near.l0 (k + 1) y0 y1 y2 y3 y4 y5)) ∧ (∀ y0 y1 y2 y3 y4 y5 y6, LeO (br_near.j2 k y0 y1 y2 y3 y4 y5 y6) (br_near.j2 (k + 1) y0 y1 y2 y3 y4 y5 y6)) ∧ (∀ y0 y1 y2 y3 y4 y5 y6 y7, LeO (br_near.j3 k y0 y1 y2 y3 y4 y5 y6 y7) (br_near.j3 (k + 1) y0 y1 y2 y3 y4 y5 y6 y7)) ∧ (∀ y0 y1 y2 y3 y4 y5, LeO (br_near.j4 k y0 y1 y2 y3 y4 y5) (br_near.j4 (k + 1) y0 y1 y2 y3 y4 y5)) ∧ (∀ y0 y1 y2 y3 y4, LeO (br_near.j5 k y0 y1 y2 y3 y4) (br_near.j5 (k + 1) y0 y1 y2 y3 y4)) ∧ (∀ y0 y1 y2 y3 y4, LeO (br_near.j7 k y0 y1 y2 y3 y4) (br_near.j7 (k + 1) y0 y1 y2 y3 y4)) ∧ (∀ y0 y1 y2 y3 y4, LeO (br_near.j8 k y0 y1 y2 y3 y4) (br_near.j8 (k + 1) y0 y1 y2 y3 y4)) ∧ (∀ y0 y1 y2 y3 y4, LeO (br_near.l1 k y0 y1 y2 y3 y4) (br_near.l1 (k + 1) y0 y1 y2 y3 y4)) := by
  intro k
  induction k with
  | zero => exact ⟨fun _ _ _ _ _ _ r h => by simp [br_near.j0] at h, fun _ _ _ _ _ _ r h => by simp [br_near.l0] at h, fun _ _ _ _ _ _ _ r h => by simp [br_near.j2] at h, fun _ _ _ _ _ _ _ _ r h => by simp [br_near.j3] at h, fun _ _ _ _ _ _ r h => by simp [br_near.j4] at h, fun _ _ _ _ _ r h => by simp [br_near.j5] at h, fun _ _ _ _ _ r h => by simp [br_near.j7] at h, fun _ _ _ _ _ r h => by simp [br_near.j8] at h, fun _ _ _ _ _ r h => by simp [br_near.l1] at h⟩
  | succ k ih =>
    obtain ⟨ih0, ih1, ih2, ih3, ih4, ih5, ih6, ih7, ih8⟩ := ih
    refine ⟨?_, ?_, ?_, ?_, ?_, ?_, ?_, ?_, ?_⟩
    · intro y0 y1 y2 y3 y4 y5
      unfold br_near.j0
      repeat' first
      | (with_reducible exact ih0 _ _ _ _ _ _)
      | (with_reducible exact ih1 _ _ _ _ _ _)
      | (with_reducible exact ih2 _ _ _ _ _ _ _)
      | (with_reducible exact ih3 _ _ _ _ _ _ _ _)
      | (with_reducible exact ih4 _ _ _ _ _ _)
      | (with_reducible exact ih5 _ _ _ _ _)
      | (with_reducible exact ih6 _ _ _ _ _)
      | (with_reducible exact ih7 _ _ _ _ _)
      | (with_reducible exact ih8 _ _ _ _ _)
      | (with_reducible exact LeO.refl _)
      | (with_reducible exact LeO.none _)
      | (with_reducible refine LeO.ite ?_ ?_)
      | (with_reducible refine LeO.bind ?_ (fun _ => ?_))
      | exact ih0 _ _ _ _ _ _
      | exact ih1 _ _ _ _ _ _
      | exact ih2 _ _ _ _ _ _ _
      | exact ih3 _ _ _ _ _ _ _ _
      | exact ih4 _ _ _ _ _ _
      | exact ih5 _ _ _ _ _
      | exact ih6 _ _ _ _ _
      | exact ih7 _ _ _ _ _
      | exact ih8 _ _ _ _ _
      | exact LeO.none _
      | refine LeO.ite ?_ ?_
      | refine LeO.bind ?_ (fun _ => ?_)
    · intro y0 y1 y2 y3 y4 y5
      unfold br_near.l0
      repeat' first
      | (with_reducible exact ih0 _ _ _ _ _ _)
      | (with_reducible exact ih1 _ _ _ _ _ _)
      | (with_reducible exact ih2 _ _ _ _ _ _ _)
      | (with_reducible exact ih3 _ _ _ _ _ _ _ _)
      | (with_reducible exact ih4 _ _ _ _ _ _)
      | (with_reducible exact ih5 _ _ _ _ _)
      | (with_reducible exact ih6 _ _ _ _ _)
      | (with_reducible exact ih7 _ _ _ _ _)
      | (with_reducible exact ih8 _ _ _ _ _)
      | (with_reducible exact LeO.refl _)
      | (with_reducible exact LeO.none _)
      | (with_reducible refine LeO.ite ?_ ?_)
      | (with_reducible refine LeO.bind ?_ (fun _ => ?_))
      | exact ih0 _ _ _ _ _ _
      | exact ih1 _ _ _ _ _ _
      | exact ih2 _ _ _ _ _ _ _
      | exact ih3 _ _ _ _ _ _ _ _
      | exact ih4 _ _ _ _ _ _
      | exact ih5 _ _ _ _ _
      | exact ih6 _ _ _ _ _
      | exact ih7 _ _ _ _ _
      | exact ih8 _ _ _ _ _
      | exact LeO.none _
      | refine LeO.ite ?_ ?_
      | refine LeO.bind ?_ (fun _ => ?_)
    · intro y0 y1 y2 y3 y4 y5 y6
      unfold br_near.j2
      repeat' first
      | (with_reducible exact ih0 _ _ _ _ _ _)
      | (with_reducible exact ih1 _ _ _ _ _ _)
      | (with_reducible exact ih2 _ _ _ _ _ _ _)
      | (with_reducible exact ih3 _ _ _ _ _ _ _ _)
      | (with_reducible exact ih4 _ _ _ _ _ _)
      | (with_reducible exact ih5 _ _ _ _ _)
      | (with_reducible exact ih6 _ _ _ _ _)
      | (with_reducible exact ih7 _ _ _ _ _)
      | (with_reducible exact ih8 _ _ _ _ _)
      | (with_reducible exact LeO.refl _)
      | (with_reducible exact LeO.none _)
      | (with_reducible refine LeO.ite ?_ ?_)
      | (with_reducible refine LeO.bind ?_ (fun _ => ?_))
      | exact ih0 _ _ _ _ _ _
      | exact ih1 _ _ _ _ _ _
      | exact ih2 _ _ _ _ _ _ _
      | exact ih3 _ _ _ _ _ _ _ _
      | exact ih4 _ _ _ _ _ _
      | exact ih5 _ _ _ _ _
      | exact ih6 _ _ _ _ _
      | exact ih7 _ _ _ _ _
      | exact ih8 _ _ _ _ _
      | exact LeO.none _
      | refine LeO.ite ?_ ?_
      | refine LeO.bind ?_ (fun _ => ?_)
    · intro y0 y1 y2 y3 y4 y5 y6 y7
      unfold br_near.j3
      repeat' first
      | (with_reducible exact ih0 _ _ _ _ _ _)
      | (with_reducible exact ih1 _ _ _ _ _ _)
      | (with_reducible exact ih2 _ _ _ _ _ _ _)
      | (with_reducible exact ih3 _ _ _ _ _ _ _ _)
      | (with_reducible exact ih4 _ _ _ _ _ _)
      | (with_reducible exact ih5 _ _ _ _ _)
      | (with_reducible exact ih6 _ _ _ _ _)
      | (with_reducible exact ih7 _ _ _ _ _)
      | (with_reducible exact ih8 _ _ _ _ _)
      | (with_reducible exact LeO.refl _)
      | (with_reducible exact LeO.none _)
      | (with_reducible refine LeO.ite ?_ ?_)
      | (with_reducible refine LeO.bind ?_ (fun _ => ?_))
      | exact ih0 _ _ _ _ _ _
      | exact ih1 _ _ _ _ _ _
      | exact ih2 _ _ _ _ _ _ _
      | exact ih3 _ _ _ _ _ _ _ _
      | exact ih4 _ _ _ _ _ _
      | exact ih5 _ _ _ _ _
      | exact ih6 _ _ _ _ _
      | exact ih7 _ _ _ _ _
      | exact ih8 _ _ _ _ _
      | exact LeO.none _
      | refine LeO.ite ?_ ?_
      | refine LeO.bind ?_ (fun _ => ?_)
    · intro y0 y1 y2 y3 y4 y5
      unfold br_near.j4
      repeat' first
      | (with_reducible exact ih0 _ _ _ _ _ _)
      | (with_reducible exact ih1 _ _ _ _ _ _)
      | (with_reducible exact ih2 _ _ _ _ _ _ _)
      | (with_reducible exact ih3 _ _ _ _ _ _ _ _)
      | (with_reducible exact ih4 _ _ _ _ _ _)
      | (with_reducible exact ih5 _ _ _ _ _)
      | (with_reducible exact ih6 _ _ _ _ _)
      | (with_reducible exact ih7 _ _ _ _ _)
      | (with_reducible exact ih8 _ _ _ _ _)
      | (with_reducible exact LeO.refl _)
      | (with_reducible exact LeO.none _)
      | (with_reducible refine LeO.ite ?_ ?_)
      | (with_reducible refine LeO.bind ?_ (fun _ => ?_))
      | exact ih0 _ _ _ _ _ _
      | exact ih1 _ _ _ _ _ _
      | exact ih2 _ _ _ _ _ _ _
      | exact ih3 _ _ _ _ _ _ _ _
      | exact ih4 _ _ _ _ _ _
      | exact ih5 _ _ _ _ _
      | exact ih6 _ _ _ _ _
      | exact ih7 _ _ _ _ _
      | exact ih8 _ _ _ _ _
      | exact LeO.none _
      | refine LeO.ite ?_ ?_
      | refine LeO.bind ?_ (fun _ => ?_)
    · intro y0 y1 y2 y3 y4
      unfold br_near.j5
      repeat' first
      | (with_reducible exact ih0 _ _ _ _ _ _)
      | (with_reducible exact ih1 _ _ _ _ _ _)
      | (with_reducible exact ih2 _ _ _ _ _ _ _)
      | (with_reducible exact ih3 _ _ _ _ _ _ _ _)
      | (with_reducible exact ih4 _ _ _ _ _ _)
      | (with_reducible exact ih5 _ _ _ _ _)
      | (with_reducible exact ih6 _ _ _ _ _)
      | (with_reducible exact ih7 _ _ _ _ _)
      | (with_reducible exact ih8 _ _ _ _ _)
      | (with_reducible exact LeO.refl _)
      | (with_reducible exact LeO.none _)
      | (with_reducible refine LeO.ite ?_ ?_)
      | (with_reducible refine LeO.bind ?_ (fun _ => ?_))
      | exact ih0 _ _ _ _ _ _
      | exact ih1 _ _ _ _ _ _
      | exact ih2 _ _ _ _ _ _ _
      | exact ih3 _ _ _ _ _ _ _ _
      | exact ih4 _ _ _ _ _ _
      | exact ih5 _ _ _ _ _
      | exact ih6 _ _ _ _ _
      | exact ih7 _ _ _ _ _
      | exact ih8 _ _ _ _ _
      | exact LeO.none _
      | refine LeO.ite ?_ ?_
      | refine LeO.bind ?_ (fun _ => ?_)
    · intro y0 y1 y2 y3 y4
      unfold br_near.j7
      repeat' first
      | (with_reducible exact ih0 _ _ _ _ _ _)
      | (with_reducible exact ih1 _ _ _ _ _ _)
      | (with_reducible exact ih2 _ _ _ _ _ _ _)
      | (with_reducible exact ih3 _ _ _ _ _ _ _ _)
      | (with_reducible exact ih4 _ _ _ _ _ _)
      | (with_reducible exact ih5 _ _ _ _ _)
      | (with_reducible exact ih6 _ _ _ _ _)
      | (with_reducible exact ih7 _ _ _ _ _)
      | (with_reducible exact ih8 _ _ _ _ _)
      | (with_reducible exact LeO.refl _)
      | (with_reducible exact LeO.none _)
      | (with_reducible refine LeO.ite ?_ ?_)
      | (with_reducible refine LeO.bind ?_ (fun _ => ?_))
      | exact ih0 _ _ _ _ _ _
      | exact ih1 _ _ _ _ _ _
      | exact ih2 _ _ _ _ _ _ _
      | exact ih3 _ _ _ _ _ _ _ _
      | exact ih4 _ _ _ _ _ _
      | exact ih5 _ _ _ _ _
      | exact ih6 _ _ _ _ _
      | exact ih7 _ _ _ _ _
      | exact ih8 _ _ _ _ _
      | exact LeO.none _
      | refine LeO.ite ?_ ?_
      | refine LeO.bind ?_ (fun _ => ?_)
    · intro y0 y1 y2 y3 y4
      unfold br_near.j8
      repeat' first
      | (with_reducible exact ih0 _ _ _ _ _ _)
      | (with_reducible exact ih1 _ _ _ _ _ _)
      | (with_reducible exact ih2 _ _ _ _ _ _ _)
      | (with_reducible exact ih3 _ _ _ _ _ _ _ _)
      | (with_reducible exact ih4 _ _ _ _ _ _)
      | (with_reducible exact ih5 _ _ _ _ _)
      | (with_reducible exact ih6 _ _ _ _ _)
      | (with_reducible exact ih7 _ _ _ _ _)
      | (with_reducible exact ih8 _ _ _ _ _)
      | (with_reducible exact LeO.refl _)
      | (with_reducible exact LeO.none _)
      | (with_reducible refine LeO.ite ?_ ?_)
      | (with_reducible refine LeO.bind ?_ (fun _ => ?_))
      | exact ih0 _ _ _ _ _ _
      | exact ih1 _ _ _ _ _ _
      | exact ih2 _ _ _ _ _ _ _
      | exact ih3 _ _ _ _ _ _ _ _
      | exact ih4 _ _ _ _ _ _
      | exact ih5 _ _ _ _ _
      | exact ih6 _ _ _ _ _
      | exact ih7 _ _ _ _ _
      | exact ih8 _ _ _ _ _
      | exact LeO.none _
      | refine LeO.ite ?_ ?_
      | refine LeO.bind ?_ (fun _ => ?_)
    · intro y0 y1 y2 y3 y4
      unfold br_near.l1
      repeat' first
      | (with_reducible exact ih0 _ _ _ _ _ _)
      | (with_reducible exact ih1 _ _ _ _ _ _)
      | (with_reducible exact ih2 _ _ _ _ _ _ _)
      | (with_reducible exact ih3 _ _ _ _ _ _ _ _)
      | (with_reducible exact ih4 _ _ _ _ _ _)
      | (with_reducible exact ih5 _ _ _ _ _)
      | (with_reducible exact ih6 _ _ _ _ _)
      | (with_reducible exact ih7 _ _ _ _ _)
      | (with_reducible exact ih8 _ _ _ _ _)
      | (with_reducible exact LeO.refl _)
      | (with_reducible exact LeO.none _)
      | (with_reducible refine LeO.ite ?_ ?_)
      | (with_reducible refine LeO.bind ?_ (fun _ => ?_))
      | exact ih0 _ _ _ _ _ _
      | exact ih1 _ _ _ _ _ _
      | exact ih2 _ _ _ _ _ _ _
      | exact ih3 _ _ _ _ _ _ _ _
      | exact ih4 _ _ _ _ _ _
      | exact ih5 _ _ _ _ _
      | exact ih6 _ _ _ _ _
      | exact ih7 _ _ _ _ _
      | exact ih8 _ _ _ _ _
      | exact LeO.none _
      | refine LeO.ite ?_ ?_
      | refine LeO.bind ?_ (fun _ => ?_)
theorem br_near.mono : ∀ a0 a1 a2 a3 a4 a5 k, LeO (br_near.f k a0 a1 a2 a3 a4 a5) (br_near.f (k + 1) a0 a1 a2 a3 a4 a5) := by
  intro a0 a1 a2 a3 a4 a5 k
  obtain ⟨ih0, ih1, ih2, ih3, ih4, ih5, ih6, ih7, ih8⟩ := br_near.mono_l k
  unfold br_near.f
  repeat' first
      | (with_reducible exact ih0 _ _ _ _ _ _)
      | (with_reducible exact ih1 _ _ _ _ _ _)
      | (with_reducible exact ih2 _ _ _ _ _ _ _)
      | (with_reducible exact ih3 _ _ _ _ _ _ _ _)
      | (with_reducible exact ih4 _ _ _ _ _ _)
      | (with_reducible exact ih5 _ _ _ _ _)
      | (with_reducible exact ih6 _ _ _ _ _)
      | (with_reducible exact ih7 _ _ _ _ _)
      | (with_reducible exact ih8 _ _ _ _ _)
      | (with_reducible exact LeO.refl _)
      | (with_reducible exact LeO.none _)
      | (with_reducible refine LeO.ite ?_ ?_)
      | (with_reducible refine LeO.bind ?_ (fun _ => ?_))
      | exact ih0 _ _ _ _ _ _
      | exact ih1 _ _ _ _ _ _
      | exact ih2 _ _ _ _ _ _ _
      | exact ih3 _ _ _ _ _ _ _ _
      | exact ih4 _ _ _ _ _ _
      | exact ih5 _ _ _ _ _
      | exact ih6 _ _ _ _ _
      | exact ih7 _ _ _ _ _
      | exact ih8 _ _ _ _ _
      | exact LeO.none _
      | refine LeO.ite ?_ ?_
      | refine LeO.bind ?_ (fun _ => ?_)
end Go.Proofs.Ytjfmomogidgbpaa.PFl
namespace Go.Proofs.Ytjfmomogidgbpaa.PFl
open Go.RowKit Go.Proofs.YtjfmomogidgbpaaW.PrintWords Go.Proofs.YtjfmomogidgbpaaW.PrintLast Go.Proofs.YtjfmomogidgbpaaW.PrintMore
attribute [local go_sem] max2_int min2_int max_two min_two max_three min_three max_four min_four
set_option linter.unusedVariables false
set_option linter.unusedSimpArgs false
def br_sign.f (a0 : Int) : Option (Int) := if a0 = 32 then (some 2147483648) else (some 9223372036854775808)
mutual
def br_Round.j0 : Nat → Int → Bool → Int → Int → Bool → Bool → Option (Int × Int)
  | 0, _, _, _, _, _, _ => none
  | k + 1, x0, x1, x2, x3, x4, x28 => if x28 = true then (some (0, 1)) else (if x0 = 64 then (br_Round.j1 k x0 x1 x2 x3 x4 52 (-1074) 9218868437227405312) else (br_Round.j1 k x0 x1 x2 x3 x4 23 (-149) 2139095040))
def br_Round.j1 : Nat → Int → Bool → Int → Int → Bool → Int → Int → Int → Option (Int × Int)
  | 0, _, _, _, _, _, _, _, _ => none
  | k + 1, x0, x1, x2, x3, x4, x12, x13, x14 => if x2 > 0 then ((br_near.f k x2 x3 x4 x12 x13 x14).bind fun t299 => (if x1 = true then ((br_sign.f x0).bind fun t300 => (some (IntKind.u64.wrap (t299 + t300), 0))) else (some (t299, 0)))) else (if x1 = true then ((br_sign.f x0).bind fun t301 => (some (IntKind.u64.wrap (0 + t301), 0))) else (some (0, 0)))
end
def br_Round.f (k : Nat) (a0 : Int) (a1 : Bool) (a2 : Int) (a3 : Int) (a4 : Bool) : Option (Int × Int) := if a0 = 32 then (if a4 = true then (br_Round.j0 k a0 a1 a2 a3 a4 (decide (a2 < 288230376151711744))) else (br_Round.j0 k a0 a1 a2 a3 a4 false)) else (if a0 = 64 then (if a4 = true then (br_Round.j0 k a0 a1 a2 a3 a4 (decide (a2 < 288230376151711744))) else (br_Round.j0 k a0 a1 a2 a3 a4 false)) else (br_Round.j0 k a0 a1 a2 a3 a4 true))
theorem br_Round.mono_l : ∀ k, (∀ y0 y1 y2 y3 y4 y5, LeO (br_Round.j0 k y0 y1 y2 y3 y4 y5) (br_Round.j0 (k + 1) y0 y1 y2 y3 y4 y5)) ∧ (∀ y0 y1 y2 y3 y4 y5 y6 y7, LeO (br_Round.j1 k y0 y1 y2 y3 y4 y5 y6 y7) (br_Round.j1 (k + 1) y0 y1 y2 y3 y4 y5 y6 y7)) := by
  intro k
  induction k with
  | zero => exact ⟨fun _ _ _ _ _ _ r h => by simp [br_Round.j0] at h, fun _ _ _ _ _ _ _ _ r h => by simp [br_Round.j1] at h⟩
  | succ k ih =>
    obtain ⟨ih0, ih1⟩ := ih
    refine ⟨?_, ?_⟩
    · intro y0 y1 y2 y3 y4 y5
      unfold br_Round.j0
      repeat' first
      | (with_reducible exact ih0 _ _ _ _ _ _)
      | (with_reducible exact ih1 _ _ _ _ _ _ _ _)
      | (with_reducible exact br_near.mono _ _ _ _ _ _ _)
      | (with_reducible exact LeO.refl _)
      | (with_reducible exact LeO.none _)
      | (with_reducible refine LeO.ite ?_ ?_)
      | (with_reducible refine LeO.bind ?_ (fun _ => ?_))
      | exact ih0 _ _ _ _ _ _
      | exact ih1 _ _ _ _ _ _ _ _
      | exact br_near.mono _ _ _ _ _ _ _
      | exact LeO.none _
      | refine LeO.ite ?_ ?_
      | refine LeO.bind ?_ (fun _ => ?_)
    · intro y0 y1 y2 y3 y4 y5 y6 y7
      unfold br_Round.j1
      repeat' first
      | (with_reducible exact ih0 _ _ _ _ _ _)
      | (with_reducible exact ih1 _ _ _ _ _ _ _ _)
      | (with_reducible exact br_near.mono _ _ _ _ _ _ _)
      | (with_reducible exact LeO.refl _)
      | (with_reducible exact LeO.none _)
      | (with_reducible refine LeO.ite ?_ ?_)
      | (with_reducible refine LeO.bind ?_ (fun _ => ?_))
      | exact ih0 _ _ _ _ _ _
      | exact ih1 _ _ _ _ _ _ _ _
      | exact br_near.mono _ _ _ _ _ _ _
      | exact LeO.none _
      | refine LeO.ite ?_ ?_
      | refine LeO.bind ?_ (fun _ => ?_)
theorem br_Round.mono : ∀ a0 a1 a2 a3 a4 k, LeO (br_Round.f k a0 a1 a2 a3 a4) (br_Round.f (k + 1) a0 a1 a2 a3 a4) := by
  intro a0 a1 a2 a3 a4 k
  obtain ⟨ih0, ih1⟩ := br_Round.mono_l k
  unfold br_Round.f
  repeat' first
      | (with_reducible exact ih0 _ _ _ _ _ _)
      | (with_reducible exact ih1 _ _ _ _ _ _ _ _)
      | (with_reducible exact br_near.mono _ _ _ _ _ _ _)
      | (with_reducible exact LeO.refl _)
      | (with_reducible exact LeO.none _)
      | (with_reducible refine LeO.ite ?_ ?_)
      | (with_reducible refine LeO.bind ?_ (fun _ => ?_))
      | exact ih0 _ _ _ _ _ _
      | exact ih1 _ _ _ _ _ _ _ _
      | exact br_near.mono _ _ _ _ _ _ _
      | exact LeO.none _
      | refine LeO.ite ?_ ?_
      | refine LeO.bind ?_ (fun _ => ?_)
def bl_FloatsRounds.f (k : Nat) (a0 : Int) (a1 : Bool) (a2 : Int) (a3 : Int) (a4 : Bool) : Option (Bool) := (bl_awake.f k).bind fun t302 => (if t302 = true then ((floats_Round.f k a0 a1 a2 a3 a4).bind fun bt303 => ((br_Round.f k a0 a1 a2 a3 a4).bind fun bt305 => (if bt303.1 = bt305.1 then (some (bt303.2 == bt305.2)) else (some false)))) else (some false))
theorem bl_FloatsRounds.mono : ∀ a0 a1 a2 a3 a4 k, LeO (bl_FloatsRounds.f k a0 a1 a2 a3 a4) (bl_FloatsRounds.f (k + 1) a0 a1 a2 a3 a4) := by
  intro a0 a1 a2 a3 a4 k
  unfold bl_FloatsRounds.f
  repeat' first
      | (with_reducible exact bl_awake.mono _)
      | (with_reducible exact br_Round.mono _ _ _ _ _ _)
      | (with_reducible exact floats_Round.mono _ _ _ _ _ _)
      | (with_reducible exact LeO.refl _)
      | (with_reducible exact LeO.none _)
      | (with_reducible refine LeO.ite ?_ ?_)
      | (with_reducible refine LeO.bind ?_ (fun _ => ?_))
      | exact bl_awake.mono _
      | exact br_Round.mono _ _ _ _ _ _
      | exact floats_Round.mono _ _ _ _ _ _
      | exact LeO.none _
      | refine LeO.ite ?_ ?_
      | refine LeO.bind ?_ (fun _ => ?_)
/-- THE ONE PURE STATEMENT of bl_FloatsRounds: yours. -/
def bl_FloatsRounds.Pure : Prop := ∀ (a0 : Int) (a1 : Bool) (a2 : Int) (a3 : Int) (a4 : Bool), (Lit.int .i64 a0).wf = true → (Lit.int .u64 a2).wf = true → (Lit.int .i64 a3).wf = true → ∃ k, bl_FloatsRounds.f k a0 a1 a2 a3 a4 = some true
def bl_FloatsTurns.j0 : Nat → Int → Int → Int → Int → Option (Bool)
  | 0, _, _, _, _ => none
  | k + 1, x0, x1, x2, x3 => (floats_Bin.f k x0 1 x1 x2).bind fun bt308 => ((floats_Bin.f k x0 1 x2 x1).bind fun bt310 => ((floats_Bin.f k x0 3 x1 x2).bind fun bt312 => ((floats_Bin.f k x0 3 x2 x1).bind fun bt314 => ((floats_Un.f k x0 2 x2).bind fun bt316 => ((floats_Un.f k x0 2 bt316.1).bind fun bt318 => ((floats_Bin.f k x0 2 x1 bt316.1).bind fun bt320 => ((floats_Round.f k x0 false (IntKind.u64.wrap (Int.tmod x3 4096)) 0 false).bind fun bt322 => ((floats_Bin.f k x0 3 bt322.1 bt322.1).bind fun bt324 => ((floats_Un.f k x0 3 bt324.1).bind fun bt326 => ((floats_Un.f k x0 5 x1).bind fun bt328 => ((floats_Un.f k x0 4 x1).bind fun bt330 => ((floats_Rel.f k x0 5 bt328.1 x1).bind fun bt332 => ((floats_Rel.f k x0 5 x1 bt330.1).bind fun bt334 => ((floats_Kind.f x0 x1).bind fun t336 => ((floats_Bin.f k x0 7 x2 x2).bind fun bt337 => (if bt308.1 = bt310.1 then (if bt312.1 = bt314.1 then (if bt320.1 = bt308.1 then (if bt318.1 = bt337.1 then (if bt326.1 = bt322.1 then (if (bt332.1 == (!(t336 == 4))) = true then (some (bt334.1 == (!(t336 == 4)))) else (some false)) else (some false)) else (some false)) else (some false)) else (some false)) else (some false)))))))))))))))))
def bl_FloatsTurns.f (k : Nat) (a0 : Int) (a1 : Int) (a2 : Int) (a3 : Int) : Option (Bool) := (bl_awake.f k).bind fun t307 => (if t307 = true then (if a0 = 32 then (bl_FloatsTurns.j0 k a0 a1 a2 a3) else (bl_FloatsTurns.j0 k 64 a1 a2 a3)) else (some false))
theorem bl_FloatsTurns.mono_l : ∀ k, (∀ y0 y1 y2 y3, LeO (bl_FloatsTurns.j0 k y0 y1 y2 y3) (bl_FloatsTurns.j0 (k + 1) y0 y1 y2 y3)) := by
  intro k
  induction k with
  | zero => exact fun _ _ _ _ r h => by simp [bl_FloatsTurns.j0] at h
  | succ k ih =>
    have ih0 := ih
    · intro y0 y1 y2 y3
      unfold bl_FloatsTurns.j0
      repeat' first
      | (with_reducible exact ih0 _ _ _ _)
      | (with_reducible exact bl_awake.mono _)
      | (with_reducible exact floats_Bin.mono _ _ _ _ _)
      | (with_reducible exact floats_Rel.mono _ _ _ _ _)
      | (with_reducible exact floats_Round.mono _ _ _ _ _ _)
      | (with_reducible exact floats_Un.mono _ _ _ _)
      | (with_reducible exact LeO.refl _)
      | (with_reducible exact LeO.none _)
      | (with_reducible refine LeO.ite ?_ ?_)
      | (with_reducible refine LeO.bind ?_ (fun _ => ?_))
      | exact ih0 _ _ _ _
      | exact bl_awake.mono _
      | exact floats_Bin.mono _ _ _ _ _
      | exact floats_Rel.mono _ _ _ _ _
      | exact floats_Round.mono _ _ _ _ _ _
      | exact floats_Un.mono _ _ _ _
      | exact LeO.none _
      | refine LeO.ite ?_ ?_
      | refine LeO.bind ?_ (fun _ => ?_)
theorem bl_FloatsTurns.mono : ∀ a0 a1 a2 a3 k, LeO (bl_FloatsTurns.f k a0 a1 a2 a3) (bl_FloatsTurns.f (k + 1) a0 a1 a2 a3) := by
  intro a0 a1 a2 a3 k
  have ih0 := bl_FloatsTurns.mono_l k
  unfold bl_FloatsTurns.f
  repeat' first
      | (with_reducible exact ih0 _ _ _ _)
      | (with_reducible exact bl_awake.mono _)
      | (with_reducible exact floats_Bin.mono _ _ _ _ _)
      | (with_reducible exact floats_Rel.mono _ _ _ _ _)
      | (with_reducible exact floats_Round.mono _ _ _ _ _ _)
      | (with_reducible exact floats_Un.mono _ _ _ _)
      | (with_reducible exact LeO.refl _)
      | (with_reducible exact LeO.none _)
      | (with_reducible refine LeO.ite ?_ ?_)
      | (with_reducible refine LeO.bind ?_ (fun _ => ?_))
      | exact ih0 _ _ _ _
      | exact bl_awake.mono _
      | exact floats_Bin.mono _ _ _ _ _
      | exact floats_Rel.mono _ _ _ _ _
      | exact floats_Round.mono _ _ _ _ _ _
      | exact floats_Un.mono _ _ _ _
      | exact LeO.none _
      | refine LeO.ite ?_ ?_
      | refine LeO.bind ?_ (fun _ => ?_)
/-- THE ONE PURE STATEMENT of bl_FloatsTurns: yours. -/
def bl_FloatsTurns.Pure : Prop := ∀ (a0 : Int) (a1 : Int) (a2 : Int) (a3 : Int), (Lit.int .i64 a0).wf = true → (Lit.int .u64 a1).wf = true → (Lit.int .u64 a2).wf = true → (Lit.int .u32 a3).wf = true → ∃ k, bl_FloatsTurns.f k a0 a1 a2 a3 = some true
-- NOT PRINTED: function 71 (math_Float32frombits)
-- NOT PRINTED: function 55 (br_F32)
-- NOT PRINTED: function 80 (math_Float64frombits)
-- NOT PRINTED: function 69 (br_F64)
-- NOT PRINTED: function 51 (br_value)
-- NOT PRINTED: function 23 (br_Rel)
-- NOT PRINTED: function 5 (bl_FloatsStand)
def br_Canonical.f (a0 : Int) : Option (Int) := if a0 = 32 then (some 2143289344) else (if a0 = 64 then (some 9221120237041090560) else (some 0))
set_option maxHeartbeats 8000000 in
set_option maxRecDepth 100000 in
theorem br_Canonical.calls (a0 : Int) (r : Int) (w : World) (h : br_Canonical.f a0 = some r) :
    Calls Try.prog 27 #[.int .i64 a0] w fun e w' => e = .returned (.int .u64 r) ∧ Drawn0 w w' := by
  have H : (if a0 = 32 then (some 2143289344) else (if a0 = 64 then (some 9221120237041090560) else (some 0))) = some r := h
  clear h
  by_cases c2 : a0 = 32
  · rw [if_pos c2] at H
    have c2b0 : (a0 == 32) = true := beq_iff_eq.mpr c2
    have c2b1 : (a0 != 32) = false := bne_eq_false_iff_eq.mpr c2
    clear c2
    obtain rfl := Option.some.inj H
    go_enter Try.func27, Try.ntmps27
    go_wp2
    go_ret
    exact ⟨by first | rfl | (simp; done) | (simp [*]; done), by repeat (first | exact Drawn0.refl _ | apply Drawn0.step)⟩
  · rw [if_neg c2] at H
    have c2b0 : (a0 == 32) = false := beq_eq_false_iff_ne.mpr c2
    have c2b1 : (a0 != 32) = true := bne_iff_ne.mpr c2
    by_cases c3 : a0 = 64
    · rw [if_pos c3] at H
      have c3b0 : (a0 == 64) = true := beq_iff_eq.mpr c3
      have c3b1 : (a0 != 64) = false := bne_eq_false_iff_eq.mpr c3
      clear c3
      obtain rfl := Option.some.inj H
      go_enter Try.func27, Try.ntmps27
      go_wp2
      go_ret
      exact ⟨by first | rfl | (simp; done) | (simp [*]; done), by repeat (first | exact Drawn0.refl _ | apply Drawn0.step)⟩
    · rw [if_neg c3] at H
      have c3b0 : (a0 == 64) = false := beq_eq_false_iff_ne.mpr c3
      have c3b1 : (a0 != 64) = true := bne_iff_ne.mpr c3
      obtain rfl := Option.some.inj H
      go_enter Try.func27, Try.ntmps27
      go_wp2
      go_ret
      exact ⟨by first | rfl | (simp; done) | (simp [*]; done), by repeat (first | exact Drawn0.refl _ | apply Drawn0.step)⟩
def br_cut.f (a0 : Int) (a1 : Int) : Option (Int) := if a0 = 32 then (some (Int.tmod a1 4294967296)) else (some a1)
-- NOT PRINTED: function 70 (math_Float64bits)
-- NOT PRINTED: function 53 (br_B64)
-- NOT PRINTED: function 54 (br_worked)
-- NOT PRINTED: function 72 (math_Float32bits)
-- NOT PRINTED: function 56 (br_B32)
-- NOT PRINTED: function 24 (br_Bin)
-- NOT PRINTED: function 25 (br_Kind)
-- NOT PRINTED: function 6 (bl_FloatsBin)
-- NOT PRINTED: function 7 (bl_FloatsSums)
-- NOT PRINTED: function 8 (bl_FloatsProducts)
-- NOT PRINTED: function 9 (bl_FloatsQuotients)
-- NOT PRINTED: function 10 (bl_FloatsEnds)
end Go.Proofs.Ytjfmomogidgbpaa.PFl
namespace Go.Proofs.Ytjfmomogidgbpaa.PFl
open Go.RowKit Go.Proofs.YtjfmomogidgbpaaW.PrintWords Go.Proofs.YtjfmomogidgbpaaW.PrintLast Go.Proofs.YtjfmomogidgbpaaW.PrintMore
attribute [local go_sem] max2_int min2_int max_two min_two max_three min_three max_four min_four
set_option linter.unusedVariables false
set_option linter.unusedSimpArgs false
def floats_Parts.j0 : Nat → Int → Int → Bool → Option (Bool × Int × Int × Int)
  | 0, _, _, _ => none
  | k + 1, x0, x1, x19 => if x19 = true then (some (false, 0, 0, 1)) else ((floats_of.f x0).bind fun bt360 => ((ff_parts.f bt360.1 bt360.2 x1).bind fun bt362 => ((floats_of.f x0).bind fun bt364 => ((ff_neg.f bt364.1 bt364.2 x1).bind fun t366 => (some (t366, bt362.1, bt362.2, 0))))))
def floats_Parts.f (k : Nat) (a0 : Int) (a1 : Int) : Option (Bool × Int × Int × Int) := (floats_Kind.f a0 a1).bind fun t359 => (if t359 = 1 then (floats_Parts.j0 k a0 a1 false) else (floats_Parts.j0 k a0 a1 (t359 != 2)))
theorem floats_Parts.mono_l : ∀ k, (∀ y0 y1 y2, LeO (floats_Parts.j0 k y0 y1 y2) (floats_Parts.j0 (k + 1) y0 y1 y2)) := by
  intro k
  induction k with
  | zero => exact fun _ _ _ r h => by simp [floats_Parts.j0] at h
  | succ k ih =>
    have ih0 := ih
    · intro y0 y1 y2
      unfold floats_Parts.j0
      repeat' first
      | (with_reducible exact ih0 _ _ _)
      | (with_reducible exact LeO.refl _)
      | (with_reducible exact LeO.none _)
      | (with_reducible refine LeO.ite ?_ ?_)
      | (with_reducible refine LeO.bind ?_ (fun _ => ?_))
      | exact ih0 _ _ _
      | exact LeO.none _
      | refine LeO.ite ?_ ?_
      | refine LeO.bind ?_ (fun _ => ?_)
theorem floats_Parts.mono : ∀ a0 a1 k, LeO (floats_Parts.f k a0 a1) (floats_Parts.f (k + 1) a0 a1) := by
  intro a0 a1 k
  have ih0 := floats_Parts.mono_l k
  unfold floats_Parts.f
  repeat' first
      | (with_reducible exact ih0 _ _ _)
      | (with_reducible exact LeO.refl _)
      | (with_reducible exact LeO.none _)
      | (with_reducible refine LeO.ite ?_ ?_)
      | (with_reducible refine LeO.bind ?_ (fun _ => ?_))
      | exact ih0 _ _ _
      | exact LeO.none _
      | refine LeO.ite ?_ ?_
      | refine LeO.bind ?_ (fun _ => ?_)
-- NOT PRINTED: function 29 (br_Parts)
-- NOT PRINTED: function 11 (bl_FloatsParts)
-- NOT PRINTED: function 73 (math_sqrt)
-- NOT PRINTED: function 58 (math_Sqrt)
-- NOT PRINTED: function 74 (math_archCeil)
-- NOT PRINTED: function 76 (math_archFloor)
-- NOT PRINTED: function 81 (math_IsNaN)
-- NOT PRINTED: function 84 (math_Abs)
-- NOT PRINTED: function 82 (math_IsInf)
-- NOT PRINTED: function 78 (math_archTrunc)
-- NOT PRINTED: function 85 (math_Copysign)
-- NOT PRINTED: function 79 (math_trunc)
-- NOT PRINTED: function 61 (math_Trunc)
-- NOT PRINTED: function 83 (math_Modf)
-- NOT PRINTED: function 77 (math_floor)
-- NOT PRINTED: function 60 (math_Floor)
-- NOT PRINTED: function 75 (math_ceil)
-- NOT PRINTED: function 59 (math_Ceil)
-- NOT PRINTED: function 62 (math_RoundToEven)
-- NOT PRINTED: function 30 (br_Un)
-- NOT PRINTED: function 12 (bl_FloatsAll)
-- NOT PRINTED: function 13 (bl_FloatsOne)
-- NOT PRINTED: function 14 (bl_FloatsRoots)
-- NOT PRINTED: function 15 (bl_FloatsWhole)
end Go.Proofs.Ytjfmomogidgbpaa.PFl
namespace Go.Proofs.Ytjfmomogidgbpaa.Ref
set_option linter.unusedVariables false
set_option linter.unusedSimpArgs false
open Go.RowKit Go.Proofs.YtjfmomogidgbpaaW.PrintWords Go.Proofs.Ytjfmomogidgbpaa.Fl
theorem bin_all (n op a b : Int) (w : World) (a0 : 0 ≤ a) (a1 : a < 18446744073709551616) (b0 : 0 ≤ b) (b1 : b < 18446744073709551616) :
    Calls Try.prog 24 #[.int .i64 n, .int .i64 op, .int .u64 a, .int .u64 b] w (Pq (binF n op a b) w) := by
  by_cases hn : n = 32 ∨ n = 64
  · have c := sizeB hn
    by_cases ho : op < 1 ∨ 9 < op
    · have e : binF n op a b = (0, 1) := by unfold binF; rw [if_pos (by omega)]
      rw [e]; exact bin_op n op a b w c ho
    · have hr : ¬ ((n ≠ 32 ∧ n ≠ 64) ∨ op < 1 ∨ 9 < op) := by omega
      by_cases o7 : op = 7
      · subst o7
        have e : binF n 7 a b = ((wOf n a : Int) % sgnI n + (wOf n b : Int) - (wOf n b : Int) % sgnI n, 0) := by unfold binF; rw [if_neg hr]; rfl
        rw [e]; exact bin7 n a b w c a0 a1 b0 b1
      by_cases o8 : op = 8
      · subst o8
        have e : binF n 8 a b = (if ordOf n b a = some .lt then (wOf n b : Int) else (wOf n a : Int), 0) := by unfold binF; rw [if_neg hr]; rfl
        rw [e]
        by_cases h : ordOf n b a = some .lt
        · rw [if_pos h]; exact bin8y n a b w c a0 a1 b0 b1 h
        · rw [if_neg h]; exact bin8n n a b w c a0 a1 b0 b1 h
      by_cases o9 : op = 9
      · subst o9
        have e : binF n 9 a b = (if ordOf n a b = some .lt then (wOf n b : Int) else (wOf n a : Int), 0) := by unfold binF; rw [if_neg hr]; rfl
        rw [e]
        by_cases h : ordOf n a b = some .lt
        · rw [if_pos h]; exact bin9y n a b w c a0 a1 b0 b1 h
        · rw [if_neg h]; exact bin9n n a b w c a0 a1 b0 b1 h
      by_cases hnan : (nanW (fmtOf n) (wOf n a) || nanW (fmtOf n) (wOf n b)) = true
      · have e : binF n op a b = (canon n, 0) := by
          unfold binF; rw [if_neg hr]; simp only; rw [if_neg o7, if_neg o8, if_neg o9, if_pos hnan]
        rw [e]; exact bin_nan n op a b w c a0 a1 b0 b1 (by omega) (by omega) hn hnan
      · have hAB : ¬ (fmtOf n).infRung < rungOf (fmtOf n) (wOf n a) ∧ ¬ (fmtOf n).infRung < rungOf (fmtOf n) (wOf n b) := by
          have h2 := Bool.eq_false_iff.2 hnan
          rw [Bool.or_eq_false_iff] at h2
          exact ⟨of_decide_eq_false h2.1, of_decide_eq_false h2.2⟩
        obtain ⟨hA, hB⟩ := hAB
        by_cases o56 : op = 5 ∨ op = 6
        · have e : binF n op a b = (if rungOf (fmtOf n) (wOf n a) = 0 ∧ rungOf (fmtOf n) (wOf n b) = 0 then (if (op = 5 ↔ sgnI n ≤ (wOf n a : Int)) then (wOf n a : Int) else (wOf n b : Int))
              else if (ordOf n a b = some .lt ↔ op = 5) then (wOf n a : Int) else (wOf n b : Int), 0) := by
            unfold binF; rw [if_neg hr]; simp only; rw [if_neg o7, if_neg o8, if_neg o9, if_neg hnan, if_pos o56]
          rw [e]
          by_cases z : rungOf (fmtOf n) (wOf n a) = 0 ∧ rungOf (fmtOf n) (wOf n b) = 0
          · rw [if_pos z]
            by_cases s : sgnI n ≤ (wOf n a : Int)
            · rcases o56 with rfl | rfl
              · rw [if_pos (by simp [s])]; exact bin5zg n a b w c a0 a1 b0 b1 hA hB z.1 z.2 s
              · rw [if_neg (by simp [s])]; exact bin6zg n a b w c a0 a1 b0 b1 hA hB z.1 z.2 s
            · rcases o56 with rfl | rfl
              · rw [if_neg (by simp [s])]; exact bin5zl n a b w c a0 a1 b0 b1 hA hB z.1 z.2 (by omega)
              · rw [if_pos (by simp [s])]; exact bin6zl n a b w c a0 a1 b0 b1 hA hB z.1 z.2 (by omega)
          · rw [if_neg z]
            by_cases l : ordOf n a b = some .lt
            · rcases o56 with rfl | rfl
              · rw [if_pos (by simp [l])]; exact bin5l n a b w c a0 a1 b0 b1 hA hB z l
              · rw [if_neg (by simp [l])]; exact bin6l n a b w c a0 a1 b0 b1 hA hB z l
            · rcases o56 with rfl | rfl
              · rw [if_neg (by simp [l])]; exact bin5g n a b w c a0 a1 b0 b1 hA hB z l
              · rw [if_pos (by simp [l])]; exact bin6g n a b w c a0 a1 b0 b1 hA hB z l
        · have e : binF n op a b = (if op = 1 then (resOf n ((fmtOf n).add (wOf n a) (wOf n b)), 0) else if op = 2 then (resOf n ((fmtOf n).sub (wOf n a) (wOf n b)), 0) else
              if op = 3 then (resOf n ((fmtOf n).mul (wOf n a) (wOf n b)), 0) else (resOf n ((fmtOf n).div (wOf n a) (wOf n b)), 0)) := by
            unfold binF; rw [if_neg hr]; simp only; rw [if_neg o7, if_neg o8, if_neg o9, if_neg hnan, if_neg o56]
          rw [e]
          have : op = 1 ∨ op = 2 ∨ op = 3 ∨ op = 4 := by omega
          rcases this with rfl | rfl | rfl | rfl <;> rcases hn with rfl | rfl
          · exact bin1_32 a b w a0 a1 b0 b1 hA hB
          · exact bin1_64 a b w a0 a1 b0 b1 hA hB
          · exact bin2_32 a b w a0 a1 b0 b1 hA hB
          · exact bin2_64 a b w a0 a1 b0 b1 hA hB
          · exact bin3_32 a b w a0 a1 b0 b1 hA hB
          · exact bin3_64 a b w a0 a1 b0 b1 hA hB
          · exact bin4_32 a b w a0 a1 b0 b1 hA hB
          · exact bin4_64 a b w a0 a1 b0 b1 hA hB
  · have e : binF n op a b = (0, 1) := by unfold binF; rw [if_pos (by omega)]
    rw [e]; exact bin_wrong n op a b w ⟨bne_iff_ne.2 (by omega), bne_iff_ne.2 (by omega)⟩
end Go.Proofs.Ytjfmomogidgbpaa.Ref
namespace Go.Proofs.Ytjfmomogidgbpaa.PFl
open Go.RowKit Go.Proofs.YtjfmomogidgbpaaW.PrintWords Go.Proofs.Ytjfmomogidgbpaa.Fl Go.Proofs.Ytjfmomogidgbpaa.Ref
def br_Kind.f (a0 : Int) (a1 : Int) : Option Int := some (kindF a0 a1)
theorem br_Kind.calls (a0 : Int) (a1 : Int) (r : Int) (w : World) (h : br_Kind.f a0 a1 = some r) :
    Calls Try.prog 25 #[.int .i64 a0, .int .u64 a1] w fun e w' => e = .returned (.int .i64 r) ∧ Drawn0 w w' := by
  obtain rfl := Option.some.inj h
  by_cases c : a0 = 32 ∨ a0 = 64
  · exact kind_right a0 a1 w c
  · rw [show kindF a0 a1 = 0 from by unfold kindF; rw [if_pos (by omega)]]
    exact kind_wrong a0 a1 w (by omega) (by omega)
def br_Bin.f (a0 : Int) (a1 : Int) (a2 : Int) (a3 : Int) : Option (Int × Int) :=
  if 0 ≤ a2 ∧ a2 < 18446744073709551616 ∧ 0 ≤ a3 ∧ a3 < 18446744073709551616 then some (binF a0 a1 a2 a3) else none
theorem br_Bin.calls (a0 : Int) (a1 : Int) (a2 : Int) (a3 : Int) (r1 : Int) (r2 : Int) (w : World) (h : br_Bin.f a0 a1 a2 a3 = some (r1, r2)) :
    Calls Try.prog 24 #[.int .i64 a0, .int .i64 a1, .int .u64 a2, .int .u64 a3] w fun e w' => e = .returned (.tuple #[.int .u64 r1, .int .i64 r2]) ∧ Below w.heap.size w w' := by
  unfold br_Bin.f at h
  split at h
  · rename_i hb
    have e := Option.some.inj h
    refine (bin_all a0 a1 a2 a3 w hb.1 hb.2.1 hb.2.2.1 hb.2.2.2).mono fun e' w' hq => ?_
    have := hq.out
    rw [e] at this
    exact this
  · cases h
def br_Un.f (a0 : Int) (a1 : Int) (a2 : Int) : Option (Int × Int) :=
  if 0 ≤ a2 ∧ a2 < 18446744073709551616 then some (unF a0 a1 a2) else none
def br_Rel.f (a0 : Int) (a1 : Int) (a2 : Int) (a3 : Int) : Option (Bool × Int) := some (relF a0 a1 a2 a3)
end Go.Proofs.Ytjfmomogidgbpaa.PFl
namespace Go.Proofs.Ytjfmomogidgbpaa.PFm
open Go.RowKit Go.Proofs.Ytjfmomogidgbpaa.PFl Go.Proofs.YtjfmomogidgbpaaW.PrintWords Go.Proofs.YtjfmomogidgbpaaW.PrintLast Go.Proofs.YtjfmomogidgbpaaW.PrintMore
attribute [local go_sem] max2_int min2_int max_two min_two max_three min_three max_four min_four
set_option linter.unusedVariables false
set_option linter.unusedSimpArgs false
def errW : Option Int → Value
  | none => .nilIface
  | some c => .iface 0 (.int .i64 c)
theorem errW_none : errW none = .nilIface := rfl
theorem errW_some (c : Int) : errW (some c) = .iface 0 (.int .i64 c) := rfl
-- the values' own types
end Go.Proofs.Ytjfmomogidgbpaa.PFm
namespace Go.Proofs.Ytjfmomogidgbpaa.PFm
open Go.RowKit Go.Proofs.Ytjfmomogidgbpaa.PFl Go.Proofs.YtjfmomogidgbpaaW.PrintWords Go.Proofs.YtjfmomogidgbpaaW.PrintLast Go.Proofs.YtjfmomogidgbpaaW.PrintMore
attribute [local go_sem] max2_int min2_int max_two min_two max_three min_three max_four min_four
set_option linter.unusedVariables false
set_option linter.unusedSimpArgs false
-- given: function 20 (floats_Un)
-- given: function 21 (floats_Rel)
-- given: function 22 (floats_Kind)
-- given: function 26 (floats_Canonical)
-- given: function 16 (bl_awake)
-- NOT PRINTED: function 71 (math_Float32frombits)
-- NOT PRINTED: function 55 (br_F32)
-- NOT PRINTED: function 80 (math_Float64frombits)
-- NOT PRINTED: function 69 (br_F64)
-- NOT PRINTED: function 51 (br_value)
-- given: function 23 (br_Rel)
mutual
def bl_FloatsStand.l0 : Nat → Int → Int → Int → Option (Bool)
  | 0, _, _, _ => none
  | k + 1, x0, x1, x6 => if x6 ≤ 64 then (bl_FloatsStand.l1 k x0 x1 x6 1) else (some true)
def bl_FloatsStand.l1 : Nat → Int → Int → Int → Int → Option (Bool)
  | 0, _, _, _, _ => none
  | k + 1, x0, x1, x6, x7 => if x7 ≤ 6 then ((floats_Rel.f k x6 x7 x0 x1).bind fun bt231 => ((br_Rel.f x6 x7 x0 x1).bind fun bt233 => (if (bt231.1 != bt233.1) = true then (some false) else (if bt231.2 = bt233.2 then (bl_FloatsStand.l1 k x0 x1 x6 (wrap64 (x7 + 1))) else (some false))))) else (bl_FloatsStand.l0 k x0 x1 (wrap64 (x6 + 32)))
end
def bl_FloatsStand.f (k : Nat) (a0 : Int) (a1 : Int) : Option (Bool) := (bl_awake.f k).bind fun t230 => (if t230 = true then (bl_FloatsStand.l0 k a0 a1 32) else (some false))
theorem bl_FloatsStand.mono_l : ∀ k, (∀ y0 y1 y2, LeO (bl_FloatsStand.l0 k y0 y1 y2) (bl_FloatsStand.l0 (k + 1) y0 y1 y2)) ∧ (∀ y0 y1 y2 y3, LeO (bl_FloatsStand.l1 k y0 y1 y2 y3) (bl_FloatsStand.l1 (k + 1) y0 y1 y2 y3)) := by
  intro k
  induction k with
  | zero => exact ⟨fun _ _ _ r h => by simp [bl_FloatsStand.l0] at h, fun _ _ _ _ r h => by simp [bl_FloatsStand.l1] at h⟩
  | succ k ih =>
    obtain ⟨ih0, ih1⟩ := ih
    refine ⟨?_, ?_⟩
    · intro y0 y1 y2
      unfold bl_FloatsStand.l0
      repeat' first
      | (with_reducible exact ih0 _ _ _)
      | (with_reducible exact ih1 _ _ _ _)
      | (with_reducible exact bl_awake.mono _)
      | (with_reducible exact floats_Rel.mono _ _ _ _ _)
      | (with_reducible exact LeO.refl _)
      | (with_reducible exact LeO.none _)
      | (with_reducible refine LeO.ite ?_ ?_)
      | (with_reducible refine LeO.bind ?_ (fun _ => ?_))
      | exact ih0 _ _ _
      | exact ih1 _ _ _ _
      | exact bl_awake.mono _
      | exact floats_Rel.mono _ _ _ _ _
      | exact LeO.none _
      | refine LeO.ite ?_ ?_
      | refine LeO.bind ?_ (fun _ => ?_)
    · intro y0 y1 y2 y3
      unfold bl_FloatsStand.l1
      repeat' first
      | (with_reducible exact ih0 _ _ _)
      | (with_reducible exact ih1 _ _ _ _)
      | (with_reducible exact bl_awake.mono _)
      | (with_reducible exact floats_Rel.mono _ _ _ _ _)
      | (with_reducible exact LeO.refl _)
      | (with_reducible exact LeO.none _)
      | (with_reducible refine LeO.ite ?_ ?_)
      | (with_reducible refine LeO.bind ?_ (fun _ => ?_))
      | exact ih0 _ _ _
      | exact ih1 _ _ _ _
      | exact bl_awake.mono _
      | exact floats_Rel.mono _ _ _ _ _
      | exact LeO.none _
      | refine LeO.ite ?_ ?_
      | refine LeO.bind ?_ (fun _ => ?_)
theorem bl_FloatsStand.mono : ∀ a0 a1 k, LeO (bl_FloatsStand.f k a0 a1) (bl_FloatsStand.f (k + 1) a0 a1) := by
  intro a0 a1 k
  obtain ⟨ih0, ih1⟩ := bl_FloatsStand.mono_l k
  unfold bl_FloatsStand.f
  repeat' first
      | (with_reducible exact ih0 _ _ _)
      | (with_reducible exact ih1 _ _ _ _)
      | (with_reducible exact bl_awake.mono _)
      | (with_reducible exact floats_Rel.mono _ _ _ _ _)
      | (with_reducible exact LeO.refl _)
      | (with_reducible exact LeO.none _)
      | (with_reducible refine LeO.ite ?_ ?_)
      | (with_reducible refine LeO.bind ?_ (fun _ => ?_))
      | exact ih0 _ _ _
      | exact ih1 _ _ _ _
      | exact bl_awake.mono _
      | exact floats_Rel.mono _ _ _ _ _
      | exact LeO.none _
      | refine LeO.ite ?_ ?_
      | refine LeO.bind ?_ (fun _ => ?_)
/-- THE ONE PURE STATEMENT of bl_FloatsStand: yours. -/
def bl_FloatsStand.Pure : Prop := ∀ (a0 : Int) (a1 : Int), (Lit.int .u64 a0).wf = true → (Lit.int .u64 a1).wf = true → ∃ k, bl_FloatsStand.f k a0 a1 = some true
-- given: function 27 (br_Canonical)
-- given: function 35 (br_sign)
-- given: function 52 (br_cut)
-- NOT PRINTED: function 70 (math_Float64bits)
-- NOT PRINTED: function 53 (br_B64)
-- NOT PRINTED: function 54 (br_worked)
-- NOT PRINTED: function 72 (math_Float32bits)
-- NOT PRINTED: function 56 (br_B32)
-- given: function 24 (br_Bin)
-- given: function 25 (br_Kind)
def bl_FloatsBin.f (k : Nat) (a0 : Int) (a1 : Int) (a2 : Int) (a3 : Int) : Option (Bool) := (bl_awake.f k).bind fun t235 => (if t235 = true then ((floats_Bin.f k a0 a1 a2 a3).bind fun bt236 => ((br_Bin.f a0 a1 a2 a3).bind fun bt238 => (if bt236.1 = bt238.1 then (if bt236.2 = bt238.2 then ((floats_Kind.f a0 a2).bind fun t240 => ((br_Kind.f a0 a2).bind fun t241 => (if t240 = t241 then ((floats_Canonical.f a0).bind fun t242 => ((br_Canonical.f a0).bind fun t243 => (some (t242 == t243)))) else (some false)))) else (some false)) else (some false)))) else (some false))
theorem bl_FloatsBin.mono : ∀ a0 a1 a2 a3 k, LeO (bl_FloatsBin.f k a0 a1 a2 a3) (bl_FloatsBin.f (k + 1) a0 a1 a2 a3) := by
  intro a0 a1 a2 a3 k
  unfold bl_FloatsBin.f
  repeat' first
      | (with_reducible exact bl_awake.mono _)
      | (with_reducible exact floats_Bin.mono _ _ _ _ _)
      | (with_reducible exact LeO.refl _)
      | (with_reducible exact LeO.none _)
      | (with_reducible refine LeO.ite ?_ ?_)
      | (with_reducible refine LeO.bind ?_ (fun _ => ?_))
      | exact bl_awake.mono _
      | exact floats_Bin.mono _ _ _ _ _
      | exact LeO.none _
      | refine LeO.ite ?_ ?_
      | refine LeO.bind ?_ (fun _ => ?_)
set_option maxHeartbeats 8000000 in
set_option maxRecDepth 100000 in
theorem bl_FloatsBin.calls (k : Nat) (a0 : Int) (a1 : Int) (a2 : Int) (a3 : Int) (r : Bool) (w : World) (h : bl_FloatsBin.f k a0 a1 a2 a3 = some r) :
    Calls Try.prog 6 #[.int .i64 a0, .int .i64 a1, .int .u64 a2, .int .u64 a3] w fun e w' => e = .returned (.bool r) ∧ Below w.heap.size w w' := by
  have HB := Aside0.mk (Below.refl w.heap.size w)
  have H : ((bl_awake.f k).bind fun t235 => (if t235 = true then ((floats_Bin.f k a0 a1 a2 a3).bind fun bt236 => ((br_Bin.f a0 a1 a2 a3).bind fun bt238 => (if bt236.1 = bt238.1 then (if bt236.2 = bt238.2 then ((floats_Kind.f a0 a2).bind fun t240 => ((br_Kind.f a0 a2).bind fun t241 => (if t240 = t241 then ((floats_Canonical.f a0).bind fun t242 => ((br_Canonical.f a0).bind fun t243 => (some (t242 == t243)))) else (some false)))) else (some false)) else (some false)))) else (some false))) = some r := h
  clear h
  replace H := Option.bind_eq_some_iff.mp H
  obtain ⟨t235, A50, H⟩ := H
  replace H : (if t235 = true then ((floats_Bin.f k a0 a1 a2 a3).bind fun bt236 => ((br_Bin.f a0 a1 a2 a3).bind fun bt238 => (if bt236.1 = bt238.1 then (if bt236.2 = bt238.2 then ((floats_Kind.f a0 a2).bind fun t240 => ((br_Kind.f a0 a2).bind fun t241 => (if t240 = t241 then ((floats_Canonical.f a0).bind fun t242 => ((br_Canonical.f a0).bind fun t243 => (some (t242 == t243)))) else (some false)))) else (some false)) else (some false)))) else (some false)) = some r := H
  have A5 := Aside0.mk A50
  clear A50
  by_cases c6 : t235 = true
  · subst c6
    have H1 : ((floats_Bin.f k a0 a1 a2 a3).bind fun bt236 => ((br_Bin.f a0 a1 a2 a3).bind fun bt238 => (if bt236.1 = bt238.1 then (if bt236.2 = bt238.2 then ((floats_Kind.f a0 a2).bind fun t240 => ((br_Kind.f a0 a2).bind fun t241 => (if t240 = t241 then ((floats_Canonical.f a0).bind fun t242 => ((br_Canonical.f a0).bind fun t243 => (some (t242 == t243)))) else (some false)))) else (some false)) else (some false)))) = some r := by rw [if_pos rfl] at H; exact H
    clear H
    have H := H1
    clear H1
    replace H := Option.bind_eq_some_iff.mp H
    obtain ⟨⟨t236, t237⟩, A70, H⟩ := H
    replace H : ((br_Bin.f a0 a1 a2 a3).bind fun bt238 => (if t236 = bt238.1 then (if t237 = bt238.2 then ((floats_Kind.f a0 a2).bind fun t240 => ((br_Kind.f a0 a2).bind fun t241 => (if t240 = t241 then ((floats_Canonical.f a0).bind fun t242 => ((br_Canonical.f a0).bind fun t243 => (some (t242 == t243)))) else (some false)))) else (some false)) else (some false))) = some r := H
    have A7 := Aside0.mk A70
    clear A70
    replace H := Option.bind_eq_some_iff.mp H
    obtain ⟨⟨t238, t239⟩, A80, H⟩ := H
    replace H : (if t236 = t238 then (if t237 = t239 then ((floats_Kind.f a0 a2).bind fun t240 => ((br_Kind.f a0 a2).bind fun t241 => (if t240 = t241 then ((floats_Canonical.f a0).bind fun t242 => ((br_Canonical.f a0).bind fun t243 => (some (t242 == t243)))) else (some false)))) else (some false)) else (some false)) = some r := H
    have A8 := Aside0.mk A80
    clear A80
    by_cases c9 : t236 = t238
    · rw [if_pos c9] at H
      have c9b0 : (t236 == t238) = true := beq_iff_eq.mpr c9
      have c9b1 : (t236 != t238) = false := bne_eq_false_iff_eq.mpr c9
      clear c9
      by_cases c10 : t237 = t239
      · rw [if_pos c10] at H
        have c10b0 : (t237 == t239) = true := beq_iff_eq.mpr c10
        have c10b1 : (t237 != t239) = false := bne_eq_false_iff_eq.mpr c10
        clear c10
        replace H := Option.bind_eq_some_iff.mp H
        obtain ⟨t240, A110, H⟩ := H
        replace H : ((br_Kind.f a0 a2).bind fun t241 => (if t240 = t241 then ((floats_Canonical.f a0).bind fun t242 => ((br_Canonical.f a0).bind fun t243 => (some (t242 == t243)))) else (some false))) = some r := H
        have A11 := Aside0.mk A110
        clear A110
        replace H := Option.bind_eq_some_iff.mp H
        obtain ⟨t241, A120, H⟩ := H
        replace H : (if t240 = t241 then ((floats_Canonical.f a0).bind fun t242 => ((br_Canonical.f a0).bind fun t243 => (some (t242 == t243)))) else (some false)) = some r := H
        have A12 := Aside0.mk A120
        clear A120
        by_cases c13 : t240 = t241
        · rw [if_pos c13] at H
          have c13b0 : (t240 == t241) = true := beq_iff_eq.mpr c13
          have c13b1 : (t240 != t241) = false := bne_eq_false_iff_eq.mpr c13
          clear c13
          replace H := Option.bind_eq_some_iff.mp H
          obtain ⟨t242, A140, H⟩ := H
          replace H : ((br_Canonical.f a0).bind fun t243 => (some (t242 == t243))) = some r := H
          have A14 := Aside0.mk A140
          clear A140
          replace H := Option.bind_eq_some_iff.mp H
          obtain ⟨t243, A150, H⟩ := H
          replace H : (some (t242 == t243)) = some r := H
          have A15 := Aside0.mk A150
          clear A150
          obtain rfl := Option.some.inj H
          go_enter Try.func6, Try.ntmps6
          go_wp2_with (first | ((with_reducible refine gate_callee (f := 16) rfl ?_); refine goesL_ (some 14) rfl rfl Try.func16 (by kernel_rfl) rfl #[] rfl (by (try simp only [List.map_toArray, List.map_cons, List.map_nil]); first | done | rfl) ?_; (with_reducible refine (bl_awake.calls k  true _ A5.out).mono ?_); rintro e w16 ⟨rfl, hb⟩; refine ⟨_, rfl, ?_⟩; have n0_ := Aside0.mk (below_step (by repeat (first | (with_reducible first | exact HB.out | apply below_alloc | apply pwB_ | apply below_drew1) | exact HB.out)) hb); clear HB; have HB := n0_; clear n0_; (try clear hb); (try clear hb2); (try clear hk); (try clear hi)) | ((with_reducible refine gate_callee (f := 19) rfl ?_); refine goesL_ (some 22) rfl rfl Try.func19 (by kernel_rfl) rfl #[.int .i64 a0, .int .i64 a1, .int .u64 a2, .int .u64 a3] rfl (by (try simp only [List.map_toArray, List.map_cons, List.map_nil]); first | done | rfl) ?_; (with_reducible refine (floats_Bin.calls k a0 a1 a2 a3 t236 t237 _ A7.out).mono ?_); rintro e w17 ⟨rfl, hb⟩; refine ⟨_, rfl, ?_⟩; have n0_ := Aside0.mk (below_step (by repeat (first | (with_reducible first | exact HB.out | apply below_alloc | apply pwB_ | apply below_drew1) | exact HB.out)) hb); clear HB; have HB := n0_; clear n0_; (try clear hb); (try clear hb2); (try clear hk); (try clear hi)) | ((with_reducible refine gate_callee (f := 24) rfl ?_); refine goesL_ (some 30) rfl rfl Try.func24 (by kernel_rfl) rfl #[.int .i64 a0, .int .i64 a1, .int .u64 a2, .int .u64 a3] rfl (by (try simp only [List.map_toArray, List.map_cons, List.map_nil]); first | done | rfl) ?_; (with_reducible refine (br_Bin.calls a0 a1 a2 a3 t238 t239 _ A8.out).mono ?_); rintro e w18 ⟨rfl, hb⟩; refine ⟨_, rfl, ?_⟩; have n0_ := Aside0.mk (below_step (by repeat (first | (with_reducible first | exact HB.out | apply below_alloc | apply pwB_ | apply below_drew1) | exact HB.out)) hb); clear HB; have HB := n0_; clear n0_; (try clear hb); (try clear hb2); (try clear hk); (try clear hi)) | (go_at_call 22; (with_reducible refine (floats_Kind.calls a0 a2 t240 _ A11.out).mono ?_); rintro e w19 ⟨rfl, hb⟩; have n0_ := Aside0.mk (below_step (by repeat (first | (with_reducible first | exact HB.out | apply below_alloc | apply pwB_ | apply below_drew1) | exact HB.out)) hb); clear HB; have HB := n0_; clear n0_; (try clear hb); (try clear hb2); (try clear hk); (try clear hi)) | (go_at_call 25; (with_reducible refine (br_Kind.calls a0 a2 t241 _ A12.out).mono ?_); rintro e w' ⟨rfl, ⟨nd, rfl⟩⟩) | (go_at_call 26; (with_reducible refine (floats_Canonical.calls a0 t242 _ A14.out).mono ?_); rintro e w20 ⟨rfl, hb⟩; have n0_ := Aside0.mk (below_step (by repeat (first | (with_reducible first | exact HB.out | apply below_alloc | apply pwB_ | apply below_drew1) | exact HB.out)) hb); clear HB; have HB := n0_; clear n0_; (try clear hb); (try clear hb2); (try clear hk); (try clear hi)) | (go_at_call 27; (with_reducible refine (br_Canonical.calls a0 t243 _ A15.out).mono ?_); rintro e w' ⟨rfl, ⟨nd, rfl⟩⟩))
          go_ret
          exact ⟨by first | rfl | (simp [*] <;> rfl), by repeat (first | (with_reducible first | exact HB.out | apply below_alloc | apply pwB_ | apply below_drew1) | exact HB.out)⟩
        · rw [if_neg c13] at H
          have c13b0 : (t240 == t241) = false := beq_eq_false_iff_ne.mpr c13
          have c13b1 : (t240 != t241) = true := bne_iff_ne.mpr c13
          obtain rfl := Option.some.inj H
          go_enter Try.func6, Try.ntmps6
          go_wp2_with (first | ((with_reducible refine gate_callee (f := 16) rfl ?_); refine goesL_ (some 14) rfl rfl Try.func16 (by kernel_rfl) rfl #[] rfl (by (try simp only [List.map_toArray, List.map_cons, List.map_nil]); first | done | rfl) ?_; (with_reducible refine (bl_awake.calls k  true _ A5.out).mono ?_); rintro e w21 ⟨rfl, hb⟩; refine ⟨_, rfl, ?_⟩; have n0_ := Aside0.mk (below_step (by repeat (first | (with_reducible first | exact HB.out | apply below_alloc | apply pwB_ | apply below_drew1) | exact HB.out)) hb); clear HB; have HB := n0_; clear n0_; (try clear hb); (try clear hb2); (try clear hk); (try clear hi)) | ((with_reducible refine gate_callee (f := 19) rfl ?_); refine goesL_ (some 22) rfl rfl Try.func19 (by kernel_rfl) rfl #[.int .i64 a0, .int .i64 a1, .int .u64 a2, .int .u64 a3] rfl (by (try simp only [List.map_toArray, List.map_cons, List.map_nil]); first | done | rfl) ?_; (with_reducible refine (floats_Bin.calls k a0 a1 a2 a3 t236 t237 _ A7.out).mono ?_); rintro e w22 ⟨rfl, hb⟩; refine ⟨_, rfl, ?_⟩; have n0_ := Aside0.mk (below_step (by repeat (first | (with_reducible first | exact HB.out | apply below_alloc | apply pwB_ | apply below_drew1) | exact HB.out)) hb); clear HB; have HB := n0_; clear n0_; (try clear hb); (try clear hb2); (try clear hk); (try clear hi)) | ((with_reducible refine gate_callee (f := 24) rfl ?_); refine goesL_ (some 30) rfl rfl Try.func24 (by kernel_rfl) rfl #[.int .i64 a0, .int .i64 a1, .int .u64 a2, .int .u64 a3] rfl (by (try simp only [List.map_toArray, List.map_cons, List.map_nil]); first | done | rfl) ?_; (with_reducible refine (br_Bin.calls a0 a1 a2 a3 t238 t239 _ A8.out).mono ?_); rintro e w23 ⟨rfl, hb⟩; refine ⟨_, rfl, ?_⟩; have n0_ := Aside0.mk (below_step (by repeat (first | (with_reducible first | exact HB.out | apply below_alloc | apply pwB_ | apply below_drew1) | exact HB.out)) hb); clear HB; have HB := n0_; clear n0_; (try clear hb); (try clear hb2); (try clear hk); (try clear hi)) | (go_at_call 22; (with_reducible refine (floats_Kind.calls a0 a2 t240 _ A11.out).mono ?_); rintro e w24 ⟨rfl, hb⟩; have n0_ := Aside0.mk (below_step (by repeat (first | (with_reducible first | exact HB.out | apply below_alloc | apply pwB_ | apply below_drew1) | exact HB.out)) hb); clear HB; have HB := n0_; clear n0_; (try clear hb); (try clear hb2); (try clear hk); (try clear hi)) | (go_at_call 25; (with_reducible refine (br_Kind.calls a0 a2 t241 _ A12.out).mono ?_); rintro e w' ⟨rfl, ⟨nd, rfl⟩⟩))
          go_ret
          exact ⟨by first | rfl | (simp [*] <;> rfl), by repeat (first | (with_reducible first | exact HB.out | apply below_alloc | apply pwB_ | apply below_drew1) | exact HB.out)⟩
      · rw [if_neg c10] at H
        have c10b0 : (t237 == t239) = false := beq_eq_false_iff_ne.mpr c10
        have c10b1 : (t237 != t239) = true := bne_iff_ne.mpr c10
        obtain rfl := Option.some.inj H
        go_enter Try.func6, Try.ntmps6
        go_wp2_with (first | ((with_reducible refine gate_callee (f := 16) rfl ?_); refine goesL_ (some 14) rfl rfl Try.func16 (by kernel_rfl) rfl #[] rfl (by (try simp only [List.map_toArray, List.map_cons, List.map_nil]); first | done | rfl) ?_; (with_reducible refine (bl_awake.calls k  true _ A5.out).mono ?_); rintro e w25 ⟨rfl, hb⟩; refine ⟨_, rfl, ?_⟩; have n0_ := Aside0.mk (below_step (by repeat (first | (with_reducible first | exact HB.out | apply below_alloc | apply pwB_ | apply below_drew1) | exact HB.out)) hb); clear HB; have HB := n0_; clear n0_; (try clear hb); (try clear hb2); (try clear hk); (try clear hi)) | ((with_reducible refine gate_callee (f := 19) rfl ?_); refine goesL_ (some 22) rfl rfl Try.func19 (by kernel_rfl) rfl #[.int .i64 a0, .int .i64 a1, .int .u64 a2, .int .u64 a3] rfl (by (try simp only [List.map_toArray, List.map_cons, List.map_nil]); first | done | rfl) ?_; (with_reducible refine (floats_Bin.calls k a0 a1 a2 a3 t236 t237 _ A7.out).mono ?_); rintro e w26 ⟨rfl, hb⟩; refine ⟨_, rfl, ?_⟩; have n0_ := Aside0.mk (below_step (by repeat (first | (with_reducible first | exact HB.out | apply below_alloc | apply pwB_ | apply below_drew1) | exact HB.out)) hb); clear HB; have HB := n0_; clear n0_; (try clear hb); (try clear hb2); (try clear hk); (try clear hi)) | ((with_reducible refine gate_callee (f := 24) rfl ?_); refine goesL_ (some 30) rfl rfl Try.func24 (by kernel_rfl) rfl #[.int .i64 a0, .int .i64 a1, .int .u64 a2, .int .u64 a3] rfl (by (try simp only [List.map_toArray, List.map_cons, List.map_nil]); first | done | rfl) ?_; (with_reducible refine (br_Bin.calls a0 a1 a2 a3 t238 t239 _ A8.out).mono ?_); rintro e w27 ⟨rfl, hb⟩; refine ⟨_, rfl, ?_⟩; have n0_ := Aside0.mk (below_step (by repeat (first | (with_reducible first | exact HB.out | apply below_alloc | apply pwB_ | apply below_drew1) | exact HB.out)) hb); clear HB; have HB := n0_; clear n0_; (try clear hb); (try clear hb2); (try clear hk); (try clear hi)))
        go_ret
        exact ⟨by first | rfl | (simp [*] <;> rfl), by repeat (first | (with_reducible first | exact HB.out | apply below_alloc | apply pwB_ | apply below_drew1) | exact HB.out)⟩
    · rw [if_neg c9] at H
      have c9b0 : (t236 == t238) = false := beq_eq_false_iff_ne.mpr c9
      have c9b1 : (t236 != t238) = true := bne_iff_ne.mpr c9
      obtain rfl := Option.some.inj H
      go_enter Try.func6, Try.ntmps6
      go_wp2_with (first | ((with_reducible refine gate_callee (f := 16) rfl ?_); refine goesL_ (some 14) rfl rfl Try.func16 (by kernel_rfl) rfl #[] rfl (by (try simp only [List.map_toArray, List.map_cons, List.map_nil]); first | done | rfl) ?_; (with_reducible refine (bl_awake.calls k  true _ A5.out).mono ?_); rintro e w28 ⟨rfl, hb⟩; refine ⟨_, rfl, ?_⟩; have n0_ := Aside0.mk (below_step (by repeat (first | (with_reducible first | exact HB.out | apply below_alloc | apply pwB_ | apply below_drew1) | exact HB.out)) hb); clear HB; have HB := n0_; clear n0_; (try clear hb); (try clear hb2); (try clear hk); (try clear hi)) | ((with_reducible refine gate_callee (f := 19) rfl ?_); refine goesL_ (some 22) rfl rfl Try.func19 (by kernel_rfl) rfl #[.int .i64 a0, .int .i64 a1, .int .u64 a2, .int .u64 a3] rfl (by (try simp only [List.map_toArray, List.map_cons, List.map_nil]); first | done | rfl) ?_; (with_reducible refine (floats_Bin.calls k a0 a1 a2 a3 t236 t237 _ A7.out).mono ?_); rintro e w29 ⟨rfl, hb⟩; refine ⟨_, rfl, ?_⟩; have n0_ := Aside0.mk (below_step (by repeat (first | (with_reducible first | exact HB.out | apply below_alloc | apply pwB_ | apply below_drew1) | exact HB.out)) hb); clear HB; have HB := n0_; clear n0_; (try clear hb); (try clear hb2); (try clear hk); (try clear hi)) | ((with_reducible refine gate_callee (f := 24) rfl ?_); refine goesL_ (some 30) rfl rfl Try.func24 (by kernel_rfl) rfl #[.int .i64 a0, .int .i64 a1, .int .u64 a2, .int .u64 a3] rfl (by (try simp only [List.map_toArray, List.map_cons, List.map_nil]); first | done | rfl) ?_; (with_reducible refine (br_Bin.calls a0 a1 a2 a3 t238 t239 _ A8.out).mono ?_); rintro e w30 ⟨rfl, hb⟩; refine ⟨_, rfl, ?_⟩; have n0_ := Aside0.mk (below_step (by repeat (first | (with_reducible first | exact HB.out | apply below_alloc | apply pwB_ | apply below_drew1) | exact HB.out)) hb); clear HB; have HB := n0_; clear n0_; (try clear hb); (try clear hb2); (try clear hk); (try clear hi)))
      go_ret
      exact ⟨by first | rfl | (simp [*] <;> rfl), by repeat (first | (with_reducible first | exact HB.out | apply below_alloc | apply pwB_ | apply below_drew1) | exact HB.out)⟩
  · replace c6 := Bool.eq_false_iff.mpr c6
    subst c6
    have H1 : (some false) = some r := by rw [if_neg (show ¬ (false = true) by decide)] at H; exact H
    clear H
    have H := H1
    clear H1
    obtain rfl := Option.some.inj H
    go_enter Try.func6, Try.ntmps6
    go_wp2_with (first | ((with_reducible refine gate_callee (f := 16) rfl ?_); refine goesL_ (some 14) rfl rfl Try.func16 (by kernel_rfl) rfl #[] rfl (by (try simp only [List.map_toArray, List.map_cons, List.map_nil]); first | done | rfl) ?_; (with_reducible refine (bl_awake.calls k  false _ A5.out).mono ?_); rintro e w31 ⟨rfl, hb⟩; refine ⟨_, rfl, ?_⟩; have n0_ := Aside0.mk (below_step (by repeat (first | (with_reducible first | exact HB.out | apply below_alloc | apply pwB_ | apply below_drew1) | exact HB.out)) hb); clear HB; have HB := n0_; clear n0_; (try clear hb); (try clear hb2); (try clear hk); (try clear hi)))
    go_ret
    exact ⟨by first | rfl | (simp [*] <;> rfl), by repeat (first | (with_reducible first | exact HB.out | apply below_alloc | apply pwB_ | apply below_drew1) | exact HB.out)⟩
/-- THE ONE PURE STATEMENT of bl_FloatsBin: yours. -/
def bl_FloatsBin.Pure : Prop := ∀ (a0 : Int) (a1 : Int) (a2 : Int) (a3 : Int), (Lit.int .i64 a0).wf = true → (Lit.int .i64 a1).wf = true → (Lit.int .u64 a2).wf = true → (Lit.int .u64 a3).wf = true → ∃ k, bl_FloatsBin.f k a0 a1 a2 a3 = some true
theorem bl_FloatsBin.walk (P : bl_FloatsBin.Pure) (a0 : Int) (a1 : Int) (a2 : Int) (a3 : Int) (w : World) (w0 : (Lit.int .i64 a0).wf = true) (w1 : (Lit.int .i64 a1).wf = true) (w2 : (Lit.int .u64 a2).wf = true) (w3 : (Lit.int .u64 a3).wf = true) :
    Calls Try.prog 6 #[.int .i64 a0, .int .i64 a1, .int .u64 a2, .int .u64 a3] w fun e w' => e = .returned (.bool true) ∧ Below w.heap.size w w' := by
  obtain ⟨k, h⟩ := P a0 a1 a2 a3 w0 w1 w2 w3
  refine (bl_FloatsBin.calls k a0 a1 a2 a3 true w h).mono ?_
  rintro e w' ⟨rfl, hd⟩
  exact ⟨rfl, hd⟩
mutual
def bl_FloatsSums.l0 : Nat → Int → Int → Int → Option (Bool)
  | 0, _, _, _ => none
  | k + 1, x0, x1, x6 => if x6 ≤ 64 then (bl_FloatsSums.l1 k x0 x1 x6 1) else (some true)
def bl_FloatsSums.l1 : Nat → Int → Int → Int → Int → Option (Bool)
  | 0, _, _, _, _ => none
  | k + 1, x0, x1, x6, x7 => if x7 ≤ 2 then ((floats_Bin.f k x6 x7 x0 x1).bind fun bt245 => ((br_Bin.f x6 x7 x0 x1).bind fun bt247 => (if bt245.1 = bt247.1 then (if bt245.2 = bt247.2 then (bl_FloatsSums.l1 k x0 x1 x6 (wrap64 (x7 + 1))) else (some false)) else (some false)))) else (bl_FloatsSums.l0 k x0 x1 (wrap64 (x6 + 32)))
end
def bl_FloatsSums.f (k : Nat) (a0 : Int) (a1 : Int) : Option (Bool) := (bl_awake.f k).bind fun t244 => (if t244 = true then (bl_FloatsSums.l0 k a0 a1 32) else (some false))
theorem bl_FloatsSums.mono_l : ∀ k, (∀ y0 y1 y2, LeO (bl_FloatsSums.l0 k y0 y1 y2) (bl_FloatsSums.l0 (k + 1) y0 y1 y2)) ∧ (∀ y0 y1 y2 y3, LeO (bl_FloatsSums.l1 k y0 y1 y2 y3) (bl_FloatsSums.l1 (k + 1) y0 y1 y2 y3)) := by
  intro k
  induction k with
  | zero => exact ⟨fun _ _ _ r h => by simp [bl_FloatsSums.l0] at h, fun _ _ _ _ r h => by simp [bl_FloatsSums.l1] at h⟩
  | succ k ih =>
    obtain ⟨ih0, ih1⟩ := ih
    refine ⟨?_, ?_⟩
    · intro y0 y1 y2
      unfold bl_FloatsSums.l0
      repeat' first
      | (with_reducible exact ih0 _ _ _)
      | (with_reducible exact ih1 _ _ _ _)
      | (with_reducible exact bl_awake.mono _)
      | (with_reducible exact floats_Bin.mono _ _ _ _ _)
      | (with_reducible exact LeO.refl _)
      | (with_reducible exact LeO.none _)
      | (with_reducible refine LeO.ite ?_ ?_)
      | (with_reducible refine LeO.bind ?_ (fun _ => ?_))
      | exact ih0 _ _ _
      | exact ih1 _ _ _ _
      | exact bl_awake.mono _
      | exact floats_Bin.mono _ _ _ _ _
      | exact LeO.none _
      | refine LeO.ite ?_ ?_
      | refine LeO.bind ?_ (fun _ => ?_)
    · intro y0 y1 y2 y3
      unfold bl_FloatsSums.l1
      repeat' first
      | (with_reducible exact ih0 _ _ _)
      | (with_reducible exact ih1 _ _ _ _)
      | (with_reducible exact bl_awake.mono _)
      | (with_reducible exact floats_Bin.mono _ _ _ _ _)
      | (with_reducible exact LeO.refl _)
      | (with_reducible exact LeO.none _)
      | (with_reducible refine LeO.ite ?_ ?_)
      | (with_reducible refine LeO.bind ?_ (fun _ => ?_))
      | exact ih0 _ _ _
      | exact ih1 _ _ _ _
      | exact bl_awake.mono _
      | exact floats_Bin.mono _ _ _ _ _
      | exact LeO.none _
      | refine LeO.ite ?_ ?_
      | refine LeO.bind ?_ (fun _ => ?_)
theorem bl_FloatsSums.mono : ∀ a0 a1 k, LeO (bl_FloatsSums.f k a0 a1) (bl_FloatsSums.f (k + 1) a0 a1) := by
  intro a0 a1 k
  obtain ⟨ih0, ih1⟩ := bl_FloatsSums.mono_l k
  unfold bl_FloatsSums.f
  repeat' first
      | (with_reducible exact ih0 _ _ _)
      | (with_reducible exact ih1 _ _ _ _)
      | (with_reducible exact bl_awake.mono _)
      | (with_reducible exact floats_Bin.mono _ _ _ _ _)
      | (with_reducible exact LeO.refl _)
      | (with_reducible exact LeO.none _)
      | (with_reducible refine LeO.ite ?_ ?_)
      | (with_reducible refine LeO.bind ?_ (fun _ => ?_))
      | exact ih0 _ _ _
      | exact ih1 _ _ _ _
      | exact bl_awake.mono _
      | exact floats_Bin.mono _ _ _ _ _
      | exact LeO.none _
      | refine LeO.ite ?_ ?_
      | refine LeO.bind ?_ (fun _ => ?_)
/-- THE ONE PURE STATEMENT of bl_FloatsSums: yours. -/
def bl_FloatsSums.Pure : Prop := ∀ (a0 : Int) (a1 : Int), (Lit.int .u64 a0).wf = true → (Lit.int .u64 a1).wf = true → ∃ k, bl_FloatsSums.f k a0 a1 = some true
mutual
def bl_FloatsProducts.l0 : Nat → Int → Int → Int → Option (Bool)
  | 0, _, _, _ => none
  | k + 1, x0, x1, x6 => if x6 ≤ 64 then (bl_FloatsProducts.l1 k x0 x1 x6 3) else (some true)
def bl_FloatsProducts.l1 : Nat → Int → Int → Int → Int → Option (Bool)
  | 0, _, _, _, _ => none
  | k + 1, x0, x1, x6, x7 => if x7 ≤ 3 then ((floats_Bin.f k x6 x7 x0 x1).bind fun bt250 => ((br_Bin.f x6 x7 x0 x1).bind fun bt252 => (if bt250.1 = bt252.1 then (if bt250.2 = bt252.2 then (bl_FloatsProducts.l1 k x0 x1 x6 (wrap64 (x7 + 1))) else (some false)) else (some false)))) else (bl_FloatsProducts.l0 k x0 x1 (wrap64 (x6 + 32)))
end
def bl_FloatsProducts.f (k : Nat) (a0 : Int) (a1 : Int) : Option (Bool) := (bl_awake.f k).bind fun t249 => (if t249 = true then (bl_FloatsProducts.l0 k a0 a1 32) else (some false))
theorem bl_FloatsProducts.mono_l : ∀ k, (∀ y0 y1 y2, LeO (bl_FloatsProducts.l0 k y0 y1 y2) (bl_FloatsProducts.l0 (k + 1) y0 y1 y2)) ∧ (∀ y0 y1 y2 y3, LeO (bl_FloatsProducts.l1 k y0 y1 y2 y3) (bl_FloatsProducts.l1 (k + 1) y0 y1 y2 y3)) := by
  intro k
  induction k with
  | zero => exact ⟨fun _ _ _ r h => by simp [bl_FloatsProducts.l0] at h, fun _ _ _ _ r h => by simp [bl_FloatsProducts.l1] at h⟩
  | succ k ih =>
    obtain ⟨ih0, ih1⟩ := ih
    refine ⟨?_, ?_⟩
    · intro y0 y1 y2
      unfold bl_FloatsProducts.l0
      repeat' first
      | (with_reducible exact ih0 _ _ _)
      | (with_reducible exact ih1 _ _ _ _)
      | (with_reducible exact bl_awake.mono _)
      | (with_reducible exact floats_Bin.mono _ _ _ _ _)
      | (with_reducible exact LeO.refl _)
      | (with_reducible exact LeO.none _)
      | (with_reducible refine LeO.ite ?_ ?_)
      | (with_reducible refine LeO.bind ?_ (fun _ => ?_))
      | exact ih0 _ _ _
      | exact ih1 _ _ _ _
      | exact bl_awake.mono _
      | exact floats_Bin.mono _ _ _ _ _
      | exact LeO.none _
      | refine LeO.ite ?_ ?_
      | refine LeO.bind ?_ (fun _ => ?_)
    · intro y0 y1 y2 y3
      unfold bl_FloatsProducts.l1
      repeat' first
      | (with_reducible exact ih0 _ _ _)
      | (with_reducible exact ih1 _ _ _ _)
      | (with_reducible exact bl_awake.mono _)
      | (with_reducible exact floats_Bin.mono _ _ _ _ _)
      | (with_reducible exact LeO.refl _)
      | (with_reducible exact LeO.none _)
      | (with_reducible refine LeO.ite ?_ ?_)
      | (with_reducible refine LeO.bind ?_ (fun _ => ?_))
      | exact ih0 _ _ _
      | exact ih1 _ _ _ _
      | exact bl_awake.mono _
      | exact floats_Bin.mono _ _ _ _ _
      | exact LeO.none _
      | refine LeO.ite ?_ ?_
      | refine LeO.bind ?_ (fun _ => ?_)
theorem bl_FloatsProducts.mono : ∀ a0 a1 k, LeO (bl_FloatsProducts.f k a0 a1) (bl_FloatsProducts.f (k + 1) a0 a1) := by
  intro a0 a1 k
  obtain ⟨ih0, ih1⟩ := bl_FloatsProducts.mono_l k
  unfold bl_FloatsProducts.f
  repeat' first
      | (with_reducible exact ih0 _ _ _)
      | (with_reducible exact ih1 _ _ _ _)
      | (with_reducible exact bl_awake.mono _)
      | (with_reducible exact floats_Bin.mono _ _ _ _ _)
      | (with_reducible exact LeO.refl _)
      | (with_reducible exact LeO.none _)
      | (with_reducible refine LeO.ite ?_ ?_)
      | (with_reducible refine LeO.bind ?_ (fun _ => ?_))
      | exact ih0 _ _ _
      | exact ih1 _ _ _ _
      | exact bl_awake.mono _
      | exact floats_Bin.mono _ _ _ _ _
      | exact LeO.none _
      | refine LeO.ite ?_ ?_
      | refine LeO.bind ?_ (fun _ => ?_)
/-- THE ONE PURE STATEMENT of bl_FloatsProducts: yours. -/
def bl_FloatsProducts.Pure : Prop := ∀ (a0 : Int) (a1 : Int), (Lit.int .u64 a0).wf = true → (Lit.int .u64 a1).wf = true → ∃ k, bl_FloatsProducts.f k a0 a1 = some true
end Go.Proofs.Ytjfmomogidgbpaa.PFm
namespace Go.Proofs.Ytjfmomogidgbpaa.Pure
set_option linter.unusedVariables false
set_option linter.unusedSimpArgs false
open Go.RowKit Go.Proofs.Ytjfmomogidgbpaa.PFl Go.Proofs.Ytjfmomogidgbpaa.Fl Go.Proofs.YtjfmomogidgbpaaW.PrintWords
/-- The two formats, as the program has them. -/
def Pq (p q : Int) (f : Ieee.Format) : Prop := (p = 23 ∧ q = 8 ∧ f = Ieee.single) ∨ (p = 52 ∧ q = 11 ∧ f = Ieee.double)
theorem and_mask (A k : Nat) (hA : A < 18446744073709551616) (hk : k ≤ 64) : Go.bits .and .u64 (A : Int) ((2 ^ k : Nat) - 1 : Int) = ((A % 2 ^ k : Nat) : Int) := by
  unfold Go.bits
  have h2 : 2 ^ k ≤ 18446744073709551616 := by
    have : 2 ^ k ≤ 2 ^ 64 := Nat.pow_le_pow_right (by decide) hk
    exact this
  have hp := pw_pos k
  have e : ((2 ^ k : Nat) - 1 : Int) = ((2 ^ k - 1 : Nat) : Int) := by omega
  have hb : IntKind.bits .u64 = 64 := rfl
  simp only [e]
  rw [IntKind.wrap_u64, BitVec.toNat_and, BitVec.ofInt_natCast, BitVec.ofInt_natCast, BitVec.toNat_ofNat, BitVec.toNat_ofNat, hb]
  rw [Nat.mod_eq_of_lt (show A < 2 ^ 64 from hA), Nat.mod_eq_of_lt (show 2 ^ k - 1 < 2 ^ 64 by omega), Nat.and_two_pow_sub_one_eq_mod]
  have := Nat.mod_lt A hp
  omega
theorem and_pow (A k : Nat) : A &&& 2 ^ k = if A / 2 ^ k % 2 = 1 then 2 ^ k else 0 := by
  apply Nat.eq_of_testBit_eq
  intro i
  rw [Nat.testBit_and, Nat.testBit_two_pow]
  by_cases h : A / 2 ^ k % 2 = 1
  · rw [if_pos h, Nat.testBit_two_pow]
    by_cases e : k = i
    · subst e
      rw [Nat.testBit_eq_decide_div_mod_eq, decide_eq_true h]; simp
    · simp [e]
  · rw [if_neg h, Nat.zero_testBit]
    by_cases e : k = i
    · subst e
      rw [Nat.testBit_eq_decide_div_mod_eq, decide_eq_false h]; simp
    · simp [e]
theorem and_bit (A k : Nat) (hA : A < 18446744073709551616) (hk : k ≤ 63) : (Go.bits .and .u64 (A : Int) ((2 ^ k : Nat) : Int) != 0) = (A / 2 ^ k % 2 == 1) := by
  unfold Go.bits
  have h2 : 2 ^ k < 18446744073709551616 := by
    have : 2 ^ k < 2 ^ 64 := Nat.pow_lt_pow_right (by decide) (by omega)
    exact this
  have hb : IntKind.bits .u64 = 64 := rfl
  simp only
  rw [IntKind.wrap_u64, BitVec.toNat_and, BitVec.ofInt_natCast, BitVec.ofInt_natCast, BitVec.toNat_ofNat, BitVec.toNat_ofNat, hb]
  rw [Nat.mod_eq_of_lt (show A < 2 ^ 64 from hA), Nat.mod_eq_of_lt (show 2 ^ k < 2 ^ 64 from h2), and_pow]
  have hp := pw_pos k
  by_cases h : A / 2 ^ k % 2 = 1
  · rw [if_pos h, h, beq_self_eq_true, bne_iff_ne]
    omega
  · rw [if_neg h]
    have : A / 2 ^ k % 2 = 0 := by omega
    rw [this]; rfl
theorem or_top (A k : Nat) (hA : A < 2 ^ k) (hk : k ≤ 63) : Go.bits .or .u64 (A : Int) ((2 ^ k : Nat) : Int) = ((2 ^ k + A : Nat) : Int) := by
  unfold Go.bits
  have h2 : 2 ^ k < 2 ^ 64 := Nat.pow_lt_pow_right (by decide) (by omega)
  have h3 : 2 ^ (k + 1) ≤ 2 ^ 64 := Nat.pow_le_pow_right (by decide) (by omega)
  have h4 : 2 ^ (k + 1) = 2 * 2 ^ k := by rw [Nat.pow_succ, Nat.mul_comm]
  have hb : IntKind.bits .u64 = 64 := rfl
  simp only
  rw [IntKind.wrap_u64, BitVec.toNat_or, BitVec.ofInt_natCast, BitVec.ofInt_natCast, BitVec.toNat_ofNat, BitVec.toNat_ofNat, hb]
  rw [Nat.mod_eq_of_lt (show A < 2 ^ 64 by omega), Nat.mod_eq_of_lt h2]
  have e : A ||| 2 ^ k = 2 ^ k + A := by
    rw [Nat.or_comm]
    have := Nat.two_pow_add_eq_or_of_lt hA 1
    rw [Nat.mul_one] at this
    exact this.symm
  rw [e]
  have : 2 ^ 64 = 18446744073709551616 := by decide
  omega
theorem c_sign {p q f} (h : Pq p q f) : ff_sign.f p q = some (f.signWeight : Int) := by
  rcases h with ⟨rfl, rfl, rfl⟩ | ⟨rfl, rfl, rfl⟩ <;> decide +kernel
theorem c_inf {p q f} (h : Pq p q f) : ff_infinity.f p q = some (f.infRung : Int) := by
  rcases h with ⟨rfl, rfl, rfl⟩ | ⟨rfl, rfl, rfl⟩ <;> decide +kernel
theorem c_least {p q f} (h : Pq p q f) : ff_least.f p q = some f.leastPlace := by
  rcases h with ⟨rfl, rfl, rfl⟩ | ⟨rfl, rfl, rfl⟩ <;> decide +kernel
theorem c_none {p q f} (h : Pq p q f) : ff_none.f p q = some false := by
  rcases h with ⟨rfl, rfl, rfl⟩ | ⟨rfl, rfl, rfl⟩ <;> decide +kernel
/-- The sign's place. -/
theorem sgn_pow {p q f} (h : Pq p q f) : ∃ k : Nat, k ≤ 63 ∧ 31 ≤ k ∧ f.signWeight = 2 ^ k := by
  rcases h with ⟨rfl, rfl, rfl⟩ | ⟨rfl, rfl, rfl⟩
  · exact ⟨31, by decide, by decide, rfl⟩
  · exact ⟨63, by decide, by decide, rfl⟩
theorem bin_ok {p q f} (h : Pq p q f) : f.binade ≤ f.infRung := by
  rcases h with ⟨rfl, rfl, rfl⟩ | ⟨rfl, rfl, rfl⟩
  · exact bin_single
  · exact bin_double
theorem c_size {p q f} (h : Pq p q f) (A : Nat) (hA : A < 18446744073709551616) : ff_size.f p q A = some (rungOf f A : Int) := by
  obtain ⟨k, hk, hk2, e⟩ := sgn_pow h
  unfold ff_size.f
  rw [c_sign h]
  simp only [Option.bind_some]
  have h2 : 2 ^ k ≤ 2 ^ 63 := Nat.pow_le_pow_right (by decide) hk
  have hp := pw_pos k
  rw [e, IntKind.wrap_u64, show (((2 ^ k : Nat) : Int) - 1) % 18446744073709551616 = ((2 ^ k : Nat) : Int) - 1 from by omega, and_mask A k hA (by omega)]
  unfold rungOf
  rw [e]
theorem c_neg {p q f} (h : Pq p q f) (A : Nat) (hA : A < 18446744073709551616) : ff_neg.f p q A = some (negOf f A) := by
  obtain ⟨k, hk, hk2, e⟩ := sgn_pow h
  unfold ff_neg.f
  rw [c_sign h]
  simp only [Option.bind_some]
  rw [e, and_bit A k hA hk]
  unfold negOf
  rw [e]
theorem c_signed {p q f} (h : Pq p q f) (neg : Bool) (r : Nat) (hr : r < f.signWeight) : ff_signed.f p q neg r = some (f.word neg r : Int) := by
  obtain ⟨k, hk, hk2, e⟩ := sgn_pow h
  unfold ff_signed.f Ieee.Format.word
  cases neg
  · rfl
  · rw [if_pos rfl, if_pos rfl, c_sign h]
    simp only [Option.bind_some]
    rw [e] at hr ⊢
    rw [or_top r k hr hk]
theorem c_cut {p q f} (h : Pq p q f) (A : Nat) (hA : A < 18446744073709551616) : ff_cut.f p q A = some ((A % (2 * f.signWeight) : Nat) : Int) := by
  obtain ⟨k, hk, hk2, e⟩ := sgn_pow h
  unfold ff_cut.f
  rw [c_sign h]
  simp only [Option.bind_some]
  have h4 : 2 * 2 ^ k = 2 ^ (k + 1) := by rw [Nat.pow_succ, Nat.mul_comm]
  have key : IntKind.u64.wrap (IntKind.u64.wrap ((f.signWeight : Int) * 2) - 1) = ((2 ^ (k + 1) : Nat) : Int) - 1 := by
    rw [IntKind.wrap_u64, IntKind.wrap_u64, e]
    rcases h with ⟨rfl, rfl, rfl⟩ | ⟨rfl, rfl, rfl⟩
    · have : 2 ^ k = 2147483648 := e.symm
      rw [← h4, this]; decide
    · have : 2 ^ k = 9223372036854775808 := e.symm
      rw [← h4, this]; decide
  rw [key, and_mask A (k + 1) hA (by omega), ← h4, e]
theorem c_nan {p q f} (h : Pq p q f) : ff_isNaN.f p q = fun A => (ff_size.f p q A).bind fun s => some (decide ((f.infRung : Int) < s)) := by
  funext A
  unfold ff_isNaN.f
  rw [c_inf h]
  rfl
theorem c_isNaN {p q f} (h : Pq p q f) (A : Nat) (hA : A < 18446744073709551616) : ff_isNaN.f p q A = some (nanW f A) := by
  rw [c_nan h]
  simp only
  rw [c_size h A hA]
  simp only [Option.bind_some]
  unfold nanW
  refine congrArg some ?_
  rw [decide_eq_decide]
  omega
end Go.Proofs.Ytjfmomogidgbpaa.Pure
namespace Go.Proofs.Ytjfmomogidgbpaa.Pure
set_option linter.unusedVariables false
set_option linter.unusedSimpArgs false
open Go.RowKit Go.Proofs.Ytjfmomogidgbpaa.PFl Go.Proofs.Ytjfmomogidgbpaa.Fl Go.Proofs.YtjfmomogidgbpaaW.PrintWords
theorem bitLen_log2 : ∀ (n x : Nat), x < 2 ^ n → n ≤ 64 → x ≠ 0 → Lib.bitLen x = x.log2 + 1
  | 0, x, h, _, h0 => by simp at h; omega
  | n + 1, x, h, hn, h0 => by
    have hx : x < 2 ^ 64 := Nat.lt_of_lt_of_le h (Nat.pow_le_pow_right (by decide) hn)
    rw [Lib.bitLen_half x h0 hx]
    by_cases c : x / 2 = 0
    · have : x = 1 := by omega
      subst this
      decide
    · rw [bitLen_log2 n (x / 2) (by rw [Nat.pow_succ] at h; omega) (by omega) c]
      have := log2_cut x 1 (by rw [Nat.pow_one]; exact c)
      rw [Nat.pow_one] at this
      omega
theorem c_len (M : Nat) (hM : M < 18446744073709551616) (h0 : M ≠ 0) : bits_Len64.f (M : Int) = some ((M.log2 + 1 : Nat) : Int) := by
  unfold bits_Len64.f
  rw [if_pos (by omega), show ((M : Int)).toNat = M from by omega, bitLen_log2 64 M hM (by decide) h0]
/-- A number that is too great is infinity. -/
theorem nearest_big (f : Ieee.Format) (neg : Bool) (N : Nat) (p : Int) (h0 : N ≠ 0) (hp : f.leastPlace + 2 ^ f.exponentBits + f.fractionBits ≤ p) : f.nearest neg N p = f.word neg f.infRung := by
  rw [nearest_eq f neg N p h0]
  have hl : f.leastPlace + 2 ^ f.exponentBits ≤ lastOf f N p := by unfold lastOf; omega
  have h1 : 2 ^ f.exponentBits ≤ (lastOf f N p - f.leastPlace).toNat := by
    have : ((2 ^ f.exponentBits : Nat) : Int) = (2 : Int) ^ f.exponentBits := by rw [Int.natCast_pow]; rfl
    omega
  have h2 : f.infRung ≤ (lastOf f N p - f.leastPlace).toNat * f.binade := by
    unfold Ieee.Format.infRung
    exact Nat.mul_le_mul_right _ (by omega)
  rw [Nat.min_eq_right (by omega)]
/-- A number that is too small is nought. -/
theorem nearest_small (f : Ieee.Format) (neg : Bool) (N : Nat) (p : Int) (hp : p + N.log2 + 2 ≤ f.leastPlace) (hw : 0 ≤ f.infRung) : f.nearest neg N p = f.word neg 0 := by
  by_cases h0 : N = 0
  · subst h0; exact nearest_zero ..
  · have hl : lastOf f N p = f.leastPlace := by unfold lastOf; omega
    rw [nearest_eq f neg N p h0, hl]
    have h1 : N < 2 ^ (N.log2 + 1) := Nat.lt_log2_self
    have : rneP N (p - f.leastPlace) = 0 := by
      unfold rneP
      rw [show (p - f.leastPlace).toNat = 0 from by omega, Nat.pow_zero, Nat.mul_one]
      apply rne_small
      have : 2 ^ (N.log2 + 2) ≤ 2 ^ (-(p - f.leastPlace)).toNat := Nat.pow_le_pow_right (by decide) (by omega)
      have : 2 ^ (N.log2 + 2) = 2 * 2 ^ (N.log2 + 1) := by rw [Nat.pow_succ 2 (N.log2 + 1), Nat.mul_comm]
      omega
    rw [this, Int.sub_self]
    simp
theorem shl_nat (x d : Nat) (h : x * 2 ^ d < 18446744073709551616) (hd : d ≤ 64) : shl .u64 (x : Int) (d : Int) = ((x * 2 ^ d : Nat) : Int) := by
  unfold shl
  rw [IntKind.wrap_u64, show min (d : Int).toNat IntKind.u64.bits = d from by rw [Int.toNat_natCast]; exact Nat.min_eq_left hd]
  have : (x : Int) * 2 ^ d = ((x * 2 ^ d : Nat) : Int) := by rw [Int.natCast_mul, Int.natCast_pow]; rfl
  rw [this]
  omega
theorem shr_nat (x d : Nat) (hd : d ≤ 64) : shr .u64 (x : Int) (d : Int) = ((x / 2 ^ d : Nat) : Int) := by
  unfold shr
  rw [show min (d : Int).toNat IntKind.u64.bits = d from by rw [Int.toNat_natCast]; exact Nat.min_eq_left hd]
  rw [Int.natCast_ediv, Int.natCast_pow]; rfl
/-- The widths, as numbers. -/
theorem c_w {p q f} (h : Pq p q f) : p = (f.fractionBits : Int) ∧ q = (f.exponentBits : Int) ∧ f.fractionBits ≤ 52 ∧ 23 ≤ f.fractionBits ∧ f.exponentBits ≤ 11 ∧ 8 ≤ f.exponentBits ∧ -1074 ≤ f.leastPlace ∧ f.leastPlace ≤ -149 ∧
    f.signWeight ≤ 9223372036854775808 ∧ f.binade ≤ 4503599627370496 ∧ f.signWeight = 2 ^ f.exponentBits * f.binade ∧ f.infRung < f.signWeight := by
  rcases h with ⟨rfl, rfl, rfl⟩ | ⟨rfl, rfl, rfl⟩
  · refine ⟨rfl, rfl, by decide, by decide, by decide, by decide, by rw [s_least]; decide, by rw [s_least]; decide, by rw [s_sgn]; decide, by rw [s_bin]; decide, by decide +kernel, by decide +kernel⟩
  · refine ⟨rfl, rfl, by decide, by decide, by decide, by decide, by rw [d_least]; decide, by rw [d_least]; decide, by rw [d_sgn]; decide, by rw [d_bin]; decide, by decide +kernel, by decide +kernel⟩
/-- The end of a rounding: the exponent's field and the kept digits, no more than infinity. -/
theorem c_j0 {p q f} (h : Pq p q f) (neg : Bool) (K : Nat) (L e : Int) (he : -5000 ≤ e ∧ e ≤ 5000) (hL : f.leastPlace ≤ L) (hL2 : L ≤ 5100) (hK : K ≤ 2 * f.binade) (hK2 : f.leastPlace < L → f.binade ≤ K) (k : Nat) :
    ff_round.j0 (k + 2) neg K e (L - e) p q = some ((f.word neg (min ((L - f.leastPlace).toNat * f.binade + K) f.infRung) : Nat) : Int) := by
  obtain ⟨w1, w2, w3, w4, w5, w6, w7, w8, w9, w10, w11, w12⟩ := c_w h
  have hmin : min ((L - f.leastPlace).toNat * f.binade + K) f.infRung < f.signWeight := Nat.lt_of_le_of_lt (Nat.min_le_right _ _) w12
  have hs : shl .u64 1 (IntKind.u64.wrap p) = (f.binade : Int) := by
    rw [IntKind.wrap_u64, w1, show (f.fractionBits : Int) % 18446744073709551616 = f.fractionBits from by omega]
    have := shl_nat 1 f.fractionBits (by rw [Nat.one_mul]; exact Nat.lt_of_le_of_lt w10 (by decide)) (by omega)
    rw [Nat.one_mul] at this
    exact this
  have hq : shl .i64 1 (IntKind.u64.wrap q) = ((2 ^ f.exponentBits : Nat) : Int) := by
    rcases h with ⟨rfl, rfl, rfl⟩ | ⟨rfl, rfl, rfl⟩ <;> decide +kernel
  have j1 : ∀ l : Nat, l ≤ 20000 → (l * f.binade + K = (L - f.leastPlace).toNat * f.binade + K) →
      ff_round.j1 (k + 1) neg K (l : Int) p q = some ((f.word neg (min ((L - f.leastPlace).toNat * f.binade + K) f.infRung) : Nat) : Int) := by
    intro l hl hlb
    simp only [ff_round.j1]
    rw [if_pos (by rw [IntKind.wrap_u64]; omega), hq, ← hlb]
    have hexp : f.infRung < 2 ^ f.exponentBits * f.binade := by rw [← w11]; exact w12
    by_cases c : (l : Int) ≥ ((2 ^ f.exponentBits : Nat) : Int)
    · rw [if_pos c, c_inf h]
      simp only [Option.bind_some]
      have h1 : 2 ^ f.exponentBits * f.binade ≤ l * f.binade := Nat.mul_le_mul_right _ (by omega)
      rw [c_signed h neg f.infRung w12, Nat.min_eq_right (by omega)]
      rfl
    · rw [if_neg c, if_pos (by rw [IntKind.wrap_u64]; omega), c_inf h]
      simp only [Option.bind_some]
      have h1 : (l + 1) * f.binade ≤ 2 ^ f.exponentBits * f.binade := Nat.mul_le_mul_right _ (by omega)
      rw [Nat.add_mul, Nat.one_mul, ← w11] at h1
      have e1 : shl .u64 (IntKind.u64.wrap (l : Int)) (IntKind.u64.wrap p) = ((l * f.binade : Nat) : Int) := by
        rw [IntKind.wrap_u64, IntKind.wrap_u64, w1, show (l : Int) % 18446744073709551616 = (l : Int) from by omega, show (f.fractionBits : Int) % 18446744073709551616 = f.fractionBits from by omega]
        exact shl_nat l f.fractionBits (by show l * f.binade < _; omega) (by omega)
      rw [e1, IntKind.wrap_u64]
      have e2 : mn ((((l * f.binade : Nat) : Int) + (K : Int)) % 18446744073709551616) (f.infRung : Int) = ((min (l * f.binade + K) f.infRung : Nat) : Int) := by
        rw [show (((l * f.binade : Nat) : Int) + (K : Int)) % 18446744073709551616 = ((l * f.binade + K : Nat) : Int) from by omega]
        unfold mn
        split <;> omega
      rw [e2, c_signed h neg _ (by rw [hlb]; exact hmin)]
      rfl
  simp only [ff_round.j0]
  rw [if_pos (by rw [IntKind.wrap_u64]; omega), hs]
  by_cases c : (K : Int) ≥ (f.binade : Int)
  · rw [if_pos c, c_least h]
    simp only [Option.bind_some]
    rw [show wrap64 (wrap64 (e + (L - e)) - f.leastPlace) = (((L - f.leastPlace).toNat : Nat) : Int) from by unfold wrap64; omega]
    exact j1 _ (by omega) rfl
  · rw [if_neg c]
    have hLe : L = f.leastPlace := by
      apply Classical.byContradiction; intro x
      have := hK2 (by omega); omega
    exact j1 0 (by omega) (by rw [hLe, Int.sub_self]; rfl)
/-- What is kept of a number, as the code reckons it. -/
theorem kept_up (M D : Nat) (b : Bool) (h1 : 1 ≤ D) (h2 : D ≤ 64) (hM : M < 18446744073709551616) :
    shl .u64 (M : Int) ((64 - D : Nat) : Int) = ((M % 2 ^ D * 2 ^ (64 - D) : Nat) : Int) ∧ shr .u64 ((M : Int) / 2) ((D - 1 : Nat) : Int) = ((M / 2 ^ D : Nat) : Int) ∧
    rne (2 * M + b.toNat) (D + 1) = M / 2 ^ D + (if 2 ^ D < 2 * (M % 2 ^ D) ∨ (2 ^ D = 2 * (M % 2 ^ D) ∧ (b = true ∨ M / 2 ^ D % 2 = 1)) then 1 else 0) := by
  have hp := pw_pos D
  refine ⟨?_, ?_, ?_⟩
  · unfold shl
    rw [IntKind.wrap_u64, Int.toNat_natCast, show min (64 - D) IntKind.u64.bits = 64 - D from Nat.min_eq_left (by show 64 - D ≤ 64; omega)]
    have e : (M : Int) * 2 ^ (64 - D) = ((M * 2 ^ (64 - D) : Nat) : Int) := by rw [Int.natCast_mul, Int.natCast_pow]; rfl
    rw [e]
    have e2 : (18446744073709551616 : Nat) = 2 ^ D * 2 ^ (64 - D) := by rw [← Nat.pow_add, show D + (64 - D) = 64 from by omega]
    have : (M * 2 ^ (64 - D)) % 18446744073709551616 = M % 2 ^ D * 2 ^ (64 - D) := by rw [e2, Nat.mul_mod_mul_right]
    omega
  · unfold shr
    rw [Int.toNat_natCast, show min (D - 1) IntKind.u64.bits = D - 1 from Nat.min_eq_left (by show D - 1 ≤ 64; omega)]
    have : M / 2 / 2 ^ (D - 1) = M / 2 ^ D := by rw [Nat.div_div_eq_div_mul, ← Nat.pow_succ', show (D - 1).succ = D from by omega]
    rw [← this, Int.natCast_ediv, Int.natCast_ediv, Int.natCast_pow]; rfl
  · unfold rne
    have hd := Nat.div_add_mod M (2 ^ D)
    have hm := Nat.mod_lt M hp
    have hb : b.toNat ≤ 1 := by cases b <;> decide
    have hp2 : 2 ^ (D + 1) = 2 * 2 ^ D := by rw [Nat.pow_succ, Nat.mul_comm]
    have e : 2 * M + b.toNat = 2 ^ (D + 1) * (M / 2 ^ D) + (2 * (M % 2 ^ D) + b.toNat) := by
      rw [hp2, Nat.mul_assoc]; omega
    rw [e, Nat.mul_add_div (pw_pos _), Nat.mul_add_mod, Nat.div_eq_of_lt (show 2 * (M % 2 ^ D) + b.toNat < 2 ^ (D + 1) by omega), Nat.mod_eq_of_lt (show 2 * (M % 2 ^ D) + b.toNat < 2 ^ (D + 1) by omega), Nat.add_zero, hp2]
    have hev : ∃ c, 2 ^ D = 2 * c := ⟨2 ^ (D - 1), by rw [← Nat.pow_succ', show (D - 1).succ = D from by omega]⟩
    obtain ⟨c, hc⟩ := hev
    congr 1
    clear e hp2 hd
    generalize M % 2 ^ D = r at *
    generalize M / 2 ^ D = m at *
    rw [hc]
    rw [hc] at hm
    clear hp
    cases b
    · simp only [Bool.toNat, cond_false, Nat.add_zero, Bool.false_eq_true, false_or]
      by_cases x : 2 * c < 2 * r ∨ (2 * c = 2 * r ∧ m % 2 = 1)
      · rw [if_pos x, if_pos (by omega)]
      · rw [if_neg x, if_neg (by omega)]
    · simp only [Bool.toNat, cond_true, true_or, and_true]
      by_cases x : 2 * c < 2 * r ∨ 2 * c = 2 * r
      · rw [if_pos (by omega), if_pos (by omega)]
      · rw [if_neg (by omega), if_neg (by omega)]
theorem odd_bit (m : Nat) (hm : m < 18446744073709551616) : (Go.bits .and .u64 (m : Int) 1 = 1) = (m % 2 = 1) := by
  have := and_mask m 1 hm (by decide)
  rw [show ((2 ^ 1 : Nat) - 1 : Int) = 1 from by decide] at this
  rw [this, Nat.pow_one]
  apply propext
  omega
/-- The rounding itself, of a power that is not out of reach. -/
theorem c_round_in {p q f} (h : Pq p q f) (neg : Bool) (M : Nat) (hM : M < 18446744073709551616) (h0 : M ≠ 0) (e : Int) (he : -5000 ≤ e ∧ e ≤ 5000) (more : Bool) (hm : more = true → 288230376151711744 ≤ M) (a3 : Int) (ha : mn (mx a3 (-5000)) 5000 = e) (k : Nat) :
    ff_round.f (k + 2) p q neg M a3 more = some ((f.nearest neg (2 * M + more.toNat) (e - 1) : Nat) : Int) := by
  obtain ⟨w1, w2, w3, w4, w5, w6, w7, w8, w9, w10, w11, w12⟩ := c_w h
  have hb : more.toNat ≤ 1 := by cases more <;> decide
  have hlog : M.log2 ≤ 63 := by have := (Nat.log2_lt (n := M) (k := 64) h0).2 hM; omega
  have hlogN : (2 * M + more.toNat).log2 = M.log2 + 1 := by
    have h1 := Nat.log2_self_le h0
    have h2 : M < 2 ^ (M.log2 + 1) := Nat.lt_log2_self
    refine (Nat.log2_eq_iff (by omega)).2 ⟨?_, ?_⟩
    · rw [Nat.pow_succ]; omega
    · rw [Nat.pow_succ 2 (M.log2 + 1)]; omega
  have hlast : lastOf f (2 * M + more.toNat) (e - 1) = lastOf f M e := by unfold lastOf; rw [hlogN]; omega
  have hNe := nearest_eq f neg (2 * M + more.toNat) (e - 1) (by omega)
  have kb := kept_bounds f (2 * M + more.toNat) (e - 1) (by omega)
  rw [hlast] at hNe kb
  have hLge : f.leastPlace ≤ lastOf f M e := by unfold lastOf; omega
  have hLle : lastOf f M e ≤ 5100 := by unfold lastOf; omega
  have hLge2 : -5100 ≤ lastOf f M e - e ∧ lastOf f M e - e ≤ 5100 := by unfold lastOf; omega
  rw [hNe]
  have fin : ∀ K : Nat, K = rneP (2 * M + more.toNat) (e - 1 - lastOf f M e) → ff_round.j0 (k + 2) neg (K : Int) e (lastOf f M e - e) p q =
      some ((f.word neg (min ((lastOf f M e - f.leastPlace).toNat * f.binade + rneP (2 * M + more.toNat) (e - 1 - lastOf f M e)) f.infRung) : Nat) : Int) := by
    intro K hK
    rw [← hK] at kb ⊢
    exact c_j0 h neg K (lastOf f M e) e he hLge hLle kb.1 kb.2 k
  have hD : wrap64 (mx (wrap64 (wrap64 (wrap64 ((((M.log2 + 1 : Nat) : Int)) + e) - 1) - p)) f.leastPlace - e) = lastOf f M e - e := by
    unfold wrap64 mx lastOf
    rw [w1]
    split <;> omega
  unfold ff_round.f
  rw [if_neg (by omega), c_len M hM h0, c_least h, ha]
  simp only [Option.bind_some]
  rw [hD]
  obtain ⟨L, hL⟩ : ∃ L, L = lastOf f M e := ⟨_, rfl⟩
  rw [← hL] at fin hLge2 ⊢
  have hk1 : ¬ L - e ≤ 0 → 1 ≤ (L - e).toNat := by omega
  by_cases c1 : L - e ≤ 0
  · rw [if_pos c1, if_pos (by rw [IntKind.wrap_u64]; omega)]
    -- nothing is dropped: a little more there would have dropped digits
    have hmf : more = false := by
      cases hmo : more
      · rfl
      · have := hm hmo
        have : 58 ≤ M.log2 := (Nat.le_log2 h0).2 (by show 2 ^ 58 ≤ M; omega)
        exfalso
        unfold lastOf at hL
        omega
    subst hmf
    obtain ⟨d, hd⟩ : ∃ d : Nat, L - e = -(d : Int) := ⟨(-(L - e)).toNat, by omega⟩
    have hkept : rneP (2 * M + false.toNat) (e - 1 - L) = M * 2 ^ d := by
      have s := rneP_scale M 1 (e - 1 - L)
      rw [Nat.pow_one, Nat.mul_comm] at s
      show rneP (2 * M) _ = _
      rw [s]
      unfold rneP
      rw [show (e - 1 - L + ((1 : Nat) : Int)).toNat = d from by omega, show (-(e - 1 - L + ((1 : Nat) : Int))).toNat = 0 from by omega, rne_zero]
    have hdl : d ≤ 64 := by
      unfold lastOf at hL
      omega
    have hlt : M * 2 ^ d < 18446744073709551616 := by
      have := kb.1
      rw [← hL, hkept] at this
      omega
    have e1 : shl .u64 (M : Int) (IntKind.u64.wrap (wrap64 (-(L - e)))) = ((M * 2 ^ d : Nat) : Int) := by
      rw [show IntKind.u64.wrap (wrap64 (-(L - e))) = (d : Int) from by rw [IntKind.wrap_u64]; unfold wrap64; omega]
      exact shl_nat M d hlt hdl
    rw [e1]
    exact fin _ hkept.symm
  · rw [if_neg c1]
    obtain ⟨D, hD⟩ : ∃ D : Nat, L - e = (D : Int) := ⟨(L - e).toNat, by omega⟩
    have hkept : rneP (2 * M + more.toNat) (e - 1 - L) = rne (2 * M + more.toNat) (D + 1) := by
      unfold rneP
      rw [show (e - 1 - L).toNat = 0 from by omega, show (-(e - 1 - L)).toNat = D + 1 from by omega, Nat.pow_zero, Nat.mul_one]
    by_cases c2 : L - e > 64
    · rw [if_pos c2]
      have hz : rneP (2 * M + more.toNat) (e - 1 - L) = 0 := by
        rw [hkept]
        apply rne_small
        have : 2 ^ 66 ≤ 2 ^ (D + 1) := Nat.pow_le_pow_right (by decide) (by omega)
        omega
      exact fin 0 hz.symm
    · rw [if_neg c2, if_pos (by rw [IntKind.wrap_u64]; omega), if_pos (by rw [IntKind.wrap_u64]; omega)]
      have hD1 : 1 ≤ D := by omega
      have hD2 : D ≤ 64 := by omega
      obtain ⟨u1, u2, u3⟩ := kept_up M D more hD1 hD2 hM
      rw [show IntKind.u64.wrap (wrap64 (64 - (L - e))) = ((64 - D : Nat) : Int) from by rw [IntKind.wrap_u64]; unfold wrap64; omega,
        show IntKind.u64.wrap (wrap64 (L - e - 1)) = ((D - 1 : Nat) : Int) from by rw [IntKind.wrap_u64]; unfold wrap64; omega]
      rw [u1, u2]
      have e2 : (18446744073709551616 : Nat) = 2 ^ D * 2 ^ (64 - D) := by rw [← Nat.pow_add, show D + (64 - D) = 64 from by omega]
      have hp2 := pw_pos (64 - D)
      have gt : ((M % 2 ^ D * 2 ^ (64 - D) : Nat) : Int) > 9223372036854775808 ↔ 2 ^ D < 2 * (M % 2 ^ D) := by
        constructor
        · intro x
          have : 2 ^ D * 2 ^ (64 - D) < 2 * (M % 2 ^ D) * 2 ^ (64 - D) := by rw [← e2, Nat.mul_assoc]; omega
          exact Nat.lt_of_mul_lt_mul_right this
        · intro x
          have : 2 ^ D * 2 ^ (64 - D) < 2 * (M % 2 ^ D) * 2 ^ (64 - D) := Nat.mul_lt_mul_of_pos_right x hp2
          rw [← e2, Nat.mul_assoc] at this
          omega
      have eq : ((M % 2 ^ D * 2 ^ (64 - D) : Nat) : Int) = 9223372036854775808 ↔ 2 ^ D = 2 * (M % 2 ^ D) := by
        constructor
        · intro x
          have : 2 ^ D * 2 ^ (64 - D) = 2 * (M % 2 ^ D) * 2 ^ (64 - D) := by rw [← e2, Nat.mul_assoc]; omega
          exact Nat.eq_of_mul_eq_mul_right hp2 this
        · intro x
          have : 2 ^ D * 2 ^ (64 - D) = 2 * (M % 2 ^ D) * 2 ^ (64 - D) := congrArg (fun z => z * 2 ^ (64 - D)) x
          rw [← e2, Nat.mul_assoc] at this
          omega
      have hmle : M / 2 ^ D < 18446744073709551616 := Nat.lt_of_le_of_lt (Nat.div_le_self _ _) hM
      have hmle2 : M / 2 ^ D ≤ 9223372036854775808 := by
        have : M / 2 ^ D ≤ M / 2 ^ 1 := Nat.div_le_div_left (Nat.pow_le_pow_right (by decide) hD1) (by decide)
        omega
      have ew : IntKind.u64.wrap (((M / 2 ^ D : Nat) : Int) + 1) = ((M / 2 ^ D + 1 : Nat) : Int) := by
        generalize M / 2 ^ D = m at hmle2
        rw [IntKind.wrap_u64]; omega
      rw [ew]
      have ob : Go.bits .and .u64 ((M / 2 ^ D : Nat) : Int) 1 = 1 ↔ M / 2 ^ D % 2 = 1 := iff_of_eq (odd_bit _ hmle)
      by_cases g1 : 2 ^ D < 2 * (M % 2 ^ D)
      · rw [if_pos (gt.2 g1)]
        exact fin _ (by rw [hkept, u3, if_pos (.inl g1)])
      · rw [if_neg (fun x => g1 (gt.1 x))]
        by_cases g2 : 2 ^ D = 2 * (M % 2 ^ D)
        · rw [if_pos (eq.2 g2)]
          cases hmo : more
          · rw [hmo] at fin hkept u3
            rw [if_neg (by decide)]
            by_cases g3 : M / 2 ^ D % 2 = 1
            · rw [if_pos (ob.2 g3)]
              exact fin _ (by rw [hkept, u3, if_pos (.inr ⟨g2, .inr g3⟩)])
            · rw [if_neg (fun x => g3 (ob.1 x))]
              exact fin _ (by rw [hkept, u3, if_neg (by rintro (x | ⟨_, x | x⟩) <;> first | (exact g1 x) | (cases x; done) | (exact g3 x)), Nat.add_zero])
          · rw [hmo] at fin hkept u3
            rw [if_pos rfl]
            exact fin _ (by rw [hkept, u3, if_pos (.inr ⟨g2, .inl rfl⟩)])
        · rw [if_neg (fun x => g2 (eq.1 x))]
          exact fin _ (by rw [hkept, u3, if_neg (by rintro (x | ⟨x, _⟩) <;> first | (exact g1 x) | (exact g2 x)), Nat.add_zero])
/-- The rounding: the float nearest to the number, whatever the power. -/
theorem c_round {p q f} (h : Pq p q f) (neg : Bool) (M : Nat) (hM : M < 18446744073709551616) (e : Int) (more : Bool) (hm : more = true → 288230376151711744 ≤ M) (k : Nat) :
    ff_round.f (k + 2) p q neg M e more = some ((f.nearest neg (2 * M + more.toNat) (e - 1) : Nat) : Int) := by
  obtain ⟨w1, w2, w3, w4, w5, w6, w7, w8, w9, w10, w11, w12⟩ := c_w h
  by_cases h0 : M = 0
  · subst h0
    have : more = false := by
      cases hmo : more
      · rfl
      · have := hm hmo; omega
    subst this
    unfold ff_round.f
    rw [if_pos (by rfl)]
    have := c_signed h neg 0 (by omega)
    rw [show ((0 : Nat) : Int) = 0 from rfl] at this
    rw [this]
    simp only [Option.bind_some]
    rw [show 2 * 0 + false.toNat = 0 from rfl, nearest_zero]
  · have hb : more.toNat ≤ 1 := by cases more <;> decide
    have hlogN : (2 * M + more.toNat).log2 ≤ 64 := by
      have := (Nat.log2_lt (n := 2 * M + more.toNat) (k := 65) (by omega)).2 (by show _ < 2 ^ 65; omega); omega
    by_cases c1 : e > 5000
    · rw [c_round_in h neg M hM h0 5000 (by decide) more hm e (by unfold mn mx; (repeat' split) <;> omega) k]
      have h2 : f.leastPlace + 2 ^ f.exponentBits + f.fractionBits ≤ 4999 := by
        have : (2 : Int) ^ f.exponentBits ≤ 2048 := by
          have : ((2 ^ f.exponentBits : Nat) : Int) = (2 : Int) ^ f.exponentBits := by rw [Int.natCast_pow]; rfl
          have : 2 ^ f.exponentBits ≤ 2 ^ 11 := Nat.pow_le_pow_right (by decide) w5
          omega
        omega
      rw [nearest_big f neg _ (5000 - 1) (by omega) (by omega), nearest_big f neg _ (e - 1) (by omega) (by omega)]
    · by_cases c2 : e < -5000
      · rw [c_round_in h neg M hM h0 (-5000) (by decide) more hm e (by unfold mn mx; (repeat' split) <;> omega) k]
        rw [nearest_small f neg _ (-5000 - 1) (by omega) (Nat.zero_le _), nearest_small f neg _ (e - 1) (by omega) (Nat.zero_le _)]
      · exact c_round_in h neg M hM h0 e (by omega) more hm e (by unfold mn mx; (repeat' split) <;> omega) k
/-- The same, of any more rounds than two. -/
theorem c_round' {p q f} (h : Pq p q f) (neg : Bool) (M : Nat) (hM : M < 18446744073709551616) (e : Int) (more : Bool) (hm : more = true → 288230376151711744 ≤ M) (k : Nat) (hk : 2 ≤ k) :
    ff_round.f k p q neg M e more = some ((f.nearest neg (2 * M + more.toNat) (e - 1) : Nat) : Int) := by
  obtain ⟨k, rfl⟩ : ∃ m, k = m + 2 := ⟨k - 2, by omega⟩
  exact c_round h neg M hM e more hm k
end Go.Proofs.Ytjfmomogidgbpaa.Pure
namespace Go.Proofs.Ytjfmomogidgbpaa.Pure
set_option linter.unusedVariables false
set_option linter.unusedSimpArgs false
open Go.RowKit Go.Proofs.Ytjfmomogidgbpaa.PFl Go.Proofs.Ytjfmomogidgbpaa.Fl Go.Proofs.YtjfmomogidgbpaaW.PrintWords
theorem or_nat (x y : Nat) (hx : x < 18446744073709551616) (hy : y < 18446744073709551616) : Go.bits .or .u64 (x : Int) (y : Int) = ((x ||| y : Nat) : Int) := by
  unfold Go.bits
  have hb : IntKind.bits .u64 = 64 := rfl
  simp only
  rw [IntKind.wrap_u64, BitVec.toNat_or, BitVec.ofInt_natCast, BitVec.ofInt_natCast, BitVec.toNat_ofNat, BitVec.toNat_ofNat, hb,
    Nat.mod_eq_of_lt (show x < 2 ^ 64 from hx), Nat.mod_eq_of_lt (show y < 2 ^ 64 from hy)]
  have : x ||| y < 2 ^ 64 := Nat.or_lt_two_pow hx hy
  omega
theorem or_one (x : Nat) (hx : x < 18446744073709551616) : Go.bits .or .u64 (x : Int) 1 = ((x / 2 * 2 + 1 : Nat) : Int) := by
  have := or_nat x 1 hx (by decide)
  rw [show ((1 : Nat) : Int) = 1 from rfl] at this
  rw [this]
  have e : x ||| 1 = x / 2 * 2 + 1 := by
    have h : 2 ^ 1 * (x / 2) ||| (x % 2 ||| 1) = 2 ^ 1 * (x / 2) + (x % 2 ||| 1) := by
      exact (Nat.two_pow_add_eq_or_of_lt (by rcases Nat.mod_two_eq_zero_or_one x with h | h <;> rw [h] <;> decide) (x / 2)).symm
    have h2 : x = 2 ^ 1 * (x / 2) ||| x % 2 := by
      rw [← Nat.two_pow_add_eq_or_of_lt (Nat.mod_lt _ (by decide)) (x / 2)]
      omega
    conv => lhs; rw [h2, Nat.or_assoc, h]
    rcases Nat.mod_two_eq_zero_or_one x with h | h <;> rw [h]
    · show 2 ^ 1 * (x / 2) + 1 = _; omega
    · show 2 ^ 1 * (x / 2) + 1 = _; omega
  rw [e]
theorem word_of (f : Ieee.Format) (A : Nat) (h : A < 2 * f.signWeight) : f.word (negOf f A) (rungOf f A) = A := by
  have hs : 0 < f.signWeight := pw_pos _
  unfold Ieee.Format.word negOf rungOf
  have hd := Nat.div_add_mod A f.signWeight
  have hm := Nat.mod_lt A hs
  by_cases c : A < f.signWeight
  · rw [Nat.div_eq_of_lt c, Nat.mod_eq_of_lt c]; rfl
  · have h1 : A / f.signWeight = 1 := (Nat.div_eq_iff hs).2 ⟨by omega, by omega⟩
    rw [h1] at hd ⊢
    rw [if_pos (by rfl)]
    omega
theorem c_parts {p q f} (h : Pq p q f) (A : Nat) (hA : A < 18446744073709551616) :
    ff_parts.f p q A = some ((magOf f (rungOf f A) : Int), f.leastPlace + (plOf f (rungOf f A) : Int)) := by
  obtain ⟨w1, w2, w3, w4, w5, w6, w7, w8, w9, w10, w11, w12⟩ := c_w h
  have hr : rungOf f A < f.signWeight := Nat.mod_lt _ (pw_pos _)
  have hb : 0 < f.binade := pw_pos _
  generalize hR : rungOf f A = r at *
  have e1 : IntKind.u64.wrap p = (f.fractionBits : Int) := by rw [IntKind.wrap_u64, w1]; omega
  have e2 : shr .u64 (r : Int) (f.fractionBits : Int) = ((r / f.binade : Nat) : Int) := shr_nat r f.fractionBits (by omega)
  have e3 : shl .u64 1 (f.fractionBits : Int) = (f.binade : Int) := by
    have := shl_nat 1 f.fractionBits (by rw [Nat.one_mul]; exact Nat.lt_of_le_of_lt w10 (by decide)) (by omega)
    rw [Nat.one_mul] at this
    exact this
  have e4 : Go.bits .and .u64 (r : Int) (IntKind.u64.wrap ((f.binade : Int) - 1)) = ((r % f.binade : Nat) : Int) := by
    rw [IntKind.wrap_u64, show ((f.binade : Int) - 1) % 18446744073709551616 = (f.binade : Int) - 1 from by omega]
    exact and_mask r f.fractionBits (by omega) (by omega)
  have hx : r / f.binade ≤ r := Nat.div_le_self _ _
  have hx2 : r / f.binade < 4096 := by
    refine (Nat.div_lt_iff_lt_mul hb).2 ?_
    rw [w11] at hr
    have : 2 ^ f.exponentBits ≤ 2 ^ 11 := Nat.pow_le_pow_right (by decide) w5
    have := Nat.mul_le_mul_right f.binade this
    omega
  have hm : r % f.binade < f.binade := Nat.mod_lt _ hb
  unfold ff_parts.f
  rw [c_size h A hA, hR]
  simp only [Option.bind_some]
  rw [if_pos (by rw [IntKind.wrap_u64]; omega), e1, e2, e3, e4, c_least h]
  simp only [Option.bind_some]
  rw [show wrap64 ((r / f.binade : Nat) : Int) = ((r / f.binade : Nat) : Int) from by
    generalize r / f.binade = z at *
    unfold wrap64; omega]
  have zl : r < f.binade ↔ r / f.binade = 0 := by
    constructor
    · exact Nat.div_eq_of_lt
    · intro e
      have := Nat.div_add_mod r f.binade
      rw [e] at this; omega
  by_cases c : r < f.binade
  · have z := zl.1 c
    rw [if_pos (by rw [z]; rfl)]
    unfold magOf plOf
    rw [if_pos c, z, Nat.mod_eq_of_lt c]
    refine congrArg some (Prod.ext rfl ?_)
    show f.leastPlace = f.leastPlace + ((0 - 1 : Nat) : Int)
    omega
  · have z := mt zl.2 c
    rw [if_neg (by omega)]
    unfold magOf plOf
    rw [if_neg c]
    have e5 : Go.bits .or .u64 ((r % f.binade : Nat) : Int) (f.binade : Int) = ((f.binade + r % f.binade : Nat) : Int) := or_top (r % f.binade) f.fractionBits hm (by omega)
    rw [e5]
    refine congrArg some (Prod.ext rfl ?_)
    show wrap64 (wrap64 (f.leastPlace + ((r / f.binade : Nat) : Int)) - 1) = _
    generalize r / f.binade = y at *
    unfold wrap64
    omega
theorem c_jam (A j : Nat) (hA : A < 18446744073709551616) (hj : 63 < j → A < 9223372036854775808) (hj2 : j < 9223372036854775808) : floats_jam.f (A : Int) (j : Int) = some ((jam A j : Nat) : Int) := by
  unfold floats_jam.f
  by_cases c : (j : Int) > 63
  · have hA2 := hj (by omega)
    rw [if_pos c]
    have : jam A j = if A = 0 then 0 else 1 := by
      by_cases z : A = 0
      · subst z; rw [if_pos rfl]; unfold jam; simp
      · rw [if_neg z]
        refine jam_big A j ?_ z
        have : 2 ^ 63 ≤ 2 ^ j := Nat.pow_le_pow_right (by decide) (by omega)
        omega
    rw [this, show (A : Int) / 9223372036854775808 = 0 from by omega]
    by_cases z : A = 0
    · subst z; rw [if_pos rfl, if_pos (by decide +kernel)]; rfl
    · rw [if_neg z, if_neg (by rw [IntKind.wrap_u64]; omega)]; decide +kernel
  · rw [if_neg c, if_pos (by rw [IntKind.wrap_u64]; omega), show IntKind.u64.wrap (j : Int) = (j : Int) from by rw [IntKind.wrap_u64]; omega, shr_nat A j (by omega)]
    have hp := pw_pos j
    have hd := Nat.div_add_mod A (2 ^ j)
    have hle : A / 2 ^ j * 2 ^ j ≤ A := Nat.div_mul_le_self _ _
    rw [shl_nat (A / 2 ^ j) j (by omega) (by omega)]
    unfold jam
    by_cases z : A % 2 ^ j = 0
    · rw [if_pos z, if_pos (by rw [z, Nat.mul_comm] at hd; omega)]
    · rw [if_neg z, if_neg (by rw [Nat.mul_comm] at hd; omega), or_one _ (by have := Nat.div_le_self A (2 ^ j); omega)]
/-- How the program tells which one is less. -/
def lessF (f : Ieee.Format) (A B : Nat) : Bool :=
  if rungOf f A = 0 ∧ rungOf f B = 0 then false else if negOf f A ≠ negOf f B then negOf f A else if negOf f A then decide (rungOf f B < rungOf f A) else decide (rungOf f A < rungOf f B)
theorem lessF_order (f : Ieee.Format) (A B : Nat) (hi : f.binade ≤ f.infRung) (hA : rungOf f A ≤ f.infRung) (hB : rungOf f B ≤ f.infRung) : (f.order A B == some .lt) = lessF f A B := by
  rw [order_key f A B hi hA hB]
  have cmp : ∀ a b : Int, compare a b = if a < b then .lt else if a = b then .eq else .gt := fun a b => rfl
  have e : (some (compare (Fl.keyOf f A) (Fl.keyOf f B)) == some Ordering.lt) = decide (Fl.keyOf f A < Fl.keyOf f B) := by
    rw [cmp]
    by_cases l : Fl.keyOf f A < Fl.keyOf f B
    · rw [if_pos l, decide_eq_true l]; rfl
    · rw [if_neg l, decide_eq_false l]
      by_cases m : Fl.keyOf f A = Fl.keyOf f B
      · rw [if_pos m]; rfl
      · rw [if_neg m]; rfl
  rw [e]
  unfold lessF Fl.keyOf
  by_cases z : rungOf f A = 0 ∧ rungOf f B = 0
  · rw [if_pos z, z.1, z.2]
    cases negOf f A <;> cases negOf f B <;> rfl
  · rw [if_neg z]
    cases negOf f A <;> cases negOf f B <;> simp only [Bool.false_eq_true, if_false, if_true, ne_eq, not_true_eq_false, not_false_eq_true, reduceCtorEq]
    · rw [decide_eq_decide]; omega
    · rw [decide_eq_false (by omega)]
    · rw [decide_eq_true (by omega)]
    · rw [decide_eq_decide]; omega
/-- A result, or the NaN that is answered. -/
def resP (p : Int) : Option Nat → Int
  | some r => r
  | none => if p = 23 then canon 32 else canon 64
theorem c_nanv {p q f} (h : Pq p q f) : ff_nan.f p q = some (resP p none) := by
  rcases h with ⟨rfl, rfl, rfl⟩ | ⟨rfl, rfl, rfl⟩ <;> decide +kernel
theorem write_inf (f : Ieee.Format) (A : Nat) (h : A < 2 * f.signWeight) (hi : rungOf f A = f.infRung) : f.write (.infinity (negOf f A)) = A := by
  show f.word (negOf f A) f.infRung = A
  rw [← hi]; exact word_of f A h
theorem nearest_word (f : Ieee.Format) (A : Nat) (h : A < 2 * f.signWeight) (hw : f.binade ≤ f.infRung) (hi : rungOf f A < f.infRung) :
    f.nearest (negOf f A) (magOf f (rungOf f A)) (f.leastPlace + (plOf f (rungOf f A) : Nat)) = A := by
  rw [nearest_read f _ _ hw hi]; exact word_of f A h
theorem c_add_j1 {p q f} (h : Pq p q f) (A B : Nat) (hA : A < 18446744073709551616) (hB : B < 18446744073709551616) (iA : rungOf f A < f.infRung) (le : rungOf f B ≤ rungOf f A) (k : Nat) :
    ff_add.j1 (k + 3) A B (negOf f A != negOf f B) p q = some (resP p (((f.read A).sum (f.read B)).map f.write)) := by
  obtain ⟨w1, w2, w3, w4, w5, w6, w7, w8, w9, w10, w11, w12⟩ := c_w h
  have hb := bin_ok h
  have mA := mag_lt f (rungOf f A); have mB := mag_lt f (rungOf f B)
  have lp := pl_mono f _ _ le
  have plA : plOf f (rungOf f A) ≤ 4096 := by
    unfold plOf
    have : 2 ^ f.exponentBits ≤ 2 ^ 11 := Nat.pow_le_pow_right (by decide) w5
    have := Nat.mul_le_mul_right f.binade this
    have hlt : rungOf f A < 4096 * f.binade := by omega
    have : rungOf f A / f.binade < 4096 := (Nat.div_lt_iff_lt_mul (pw_pos f.fractionBits)).2 hlt
    omega
  have sp := sum_prog f (negOf f A) (negOf f B) (magOf f (rungOf f A)) (magOf f (rungOf f B)) (f.leastPlace + (plOf f (rungOf f A) : Nat)) (f.leastPlace + (plOf f (rungOf f B) : Nat))
    (plOf f (rungOf f A) - plOf f (rungOf f B)) (by omega) (fun x => mag_ge f _ (by omega)) mB (by
      by_cases e : rungOf f B = rungOf f A
      · rw [e, Nat.sub_self, Nat.pow_zero, Nat.mul_one]; exact Nat.le_refl _
      · exact Nat.le_of_lt (rung_lt f _ _ (by omega)))
  rw [read_num f A iA, read_num f B (by omega), sp.2]
  have s1 := sp.1
  simp only [ff_add.j1]
  rw [c_parts h A hA, c_parts h B hB]
  simp only [Option.bind_some]
  generalize hj : plOf f (rungOf f A) - plOf f (rungOf f B) = j at *
  have ej : wrap64 (f.leastPlace + ((plOf f (rungOf f A) : Nat) : Int) - (f.leastPlace + ((plOf f (rungOf f B) : Nat) : Int))) = (j : Int) := by unfold wrap64; omega
  have em : IntKind.u64.wrap (((magOf f (rungOf f B) : Nat) : Int) * 1024) = ((magOf f (rungOf f B) * 2 ^ 10 : Nat) : Int) := by rw [IntKind.wrap_u64]; omega
  have en : IntKind.u64.wrap (((magOf f (rungOf f A) : Nat) : Int) * 1024) = ((magOf f (rungOf f A) * 2 ^ 10 : Nat) : Int) := by rw [IntKind.wrap_u64]; omega
  rw [ej, em, en, c_jam _ j (by omega) (fun _ => by omega) (by omega)]
  simp only [Option.bind_some]
  have hx : magOf f (rungOf f A) * 2 ^ 10 < 9223372036854775808 := by omega
  obtain ⟨y, hy⟩ : ∃ y, y = jam (magOf f (rungOf f B) * 2 ^ 10) j := ⟨_, rfl⟩
  rw [← hy] at s1 ⊢
  obtain ⟨x, hx'⟩ : ∃ x, x = magOf f (rungOf f A) * 2 ^ 10 := ⟨_, rfl⟩
  rw [← hx'] at s1 hx ⊢
  clear hy hx' em en sp
  have e1 : IntKind.u64.wrap ((x : Int) - (y : Int)) = ((x - y : Nat) : Int) := by rw [IntKind.wrap_u64]; omega
  have e2 : IntKind.u64.wrap ((x : Int) + (y : Int)) = ((x + y : Nat) : Int) := by rw [IntKind.wrap_u64]; omega
  have e3 : wrap64 (f.leastPlace + ((plOf f (rungOf f A) : Nat) : Int) - 10) = f.leastPlace + ((plOf f (rungOf f A) : Nat) : Int) - 10 := by unfold wrap64; omega
  have rd : ∀ neg (M : Nat) (hM : M < 18446744073709551616), ff_round.f (k + 2) p q neg M (f.leastPlace + ((plOf f (rungOf f A) : Nat) : Int) - 10) false =
      some ((f.nearest neg M (f.leastPlace + ((plOf f (rungOf f A) : Nat) : Int) - 10) : Nat) : Int) := by
    intro neg M hM
    rw [c_round h neg M hM _ false (fun x => by cases x) k]
    have s := nearest_scale f neg M 1 (f.leastPlace + ((plOf f (rungOf f A) : Nat) : Int) - 10 - 1)
    rw [Nat.pow_one, Nat.mul_comm] at s
    show some ((f.nearest neg (2 * M) _ : Nat) : Int) = _
    rw [s, show f.leastPlace + ((plOf f (rungOf f A) : Nat) : Int) - 10 - 1 + ((1 : Nat) : Int) = f.leastPlace + ((plOf f (rungOf f A) : Nat) : Int) - 10 from by omega]
  rw [e1, e2, e3, c_neg h A hA]
  simp only [Option.bind_some]
  have eb : (((x : Nat) : Int) != ((y : Nat) : Int)) = (x != y) := by
    rw [Bool.eq_iff_iff, bne_iff_ne, bne_iff_ne]; omega
  cases sA : negOf f A <;> cases sB : negOf f B
  · rw [if_neg (by decide), rd _ _ (by omega), if_pos rfl]; rfl
  · rw [if_pos (by decide), if_neg (by decide), rd _ _ (by omega), if_neg (by decide)]; rfl
  · rw [if_pos (by decide), if_pos rfl, eb, rd _ _ (by omega), if_neg (by decide)]; rfl
  · rw [if_neg (by decide), rd _ _ (by omega), if_pos rfl]; rfl
theorem c_add_j0 {p q f} (h : Pq p q f) (A B : Nat) (hA : A < 2 * f.signWeight) (hB : B < 2 * f.signWeight) (iA : rungOf f A ≤ f.infRung) (le : rungOf f B ≤ rungOf f A) (k : Nat) :
    ff_add.j0 (k + 4) A B p q = some (resP p (((f.read A).sum (f.read B)).map f.write)) := by
  obtain ⟨w1, w2, w3, w4, w5, w6, w7, w8, w9, w10, w11, w12⟩ := c_w h
  have hb := bin_ok h
  have hA' : A < 18446744073709551616 := by omega
  have hB' : B < 18446744073709551616 := by omega
  simp only [ff_add.j0]
  rw [c_neg h A hA', c_neg h B hB', c_size h A hA', c_size h B hB', c_inf h]
  simp only [Option.bind_some]
  by_cases ci : rungOf f A = f.infRung
  · rw [if_pos (by omega), read_inf f A hb ci]
    by_cases cj : rungOf f B = f.infRung
    · rw [read_inf f B hb cj]
      by_cases s : negOf f A = negOf f B
      · rw [if_neg (by rw [s]; simp)]
        simp only [Ieee.Datum.sum]
        rw [if_pos s, Option.map_some, write_inf f A hA ci]; rfl
      · rw [if_pos (by rw [bne_iff_ne]; exact s), if_pos (by omega), c_nanv h]
        simp only [Option.bind_some, Ieee.Datum.sum]
        rw [if_neg s]; rfl
    · rw [read_num f B (by omega)]
      simp only [Ieee.Datum.sum, Option.map_some]
      rw [write_inf f A hA ci]
      by_cases s : (negOf f A != negOf f B) = true
      · rw [if_pos s, if_neg (by omega)]; rfl
      · rw [if_neg s]; rfl
  · rw [if_neg (by omega)]
    have hj1 := c_add_j1 h A B hA' hB' (by omega) le k
    by_cases z : rungOf f B = 0
    · rw [if_pos (by omega)]
      by_cases z2 : (rungOf f A : Int) > 0
      · rw [if_pos z2, read_num f A (by omega), read_num f B (by omega), (mag_zero f (rungOf f B)).2 z]
        have hm0 : magOf f (rungOf f A) ≠ 0 := fun e => by have := (mag_zero f _).1 e; omega
        have pl0 : plOf f (rungOf f B) = 0 := by unfold plOf; rw [z, Nat.zero_div]
        have bp : 0 < f.binade := pw_pos _
        have sp := sum_prog f (negOf f A) (negOf f B) (magOf f (rungOf f A)) 0 (f.leastPlace + (plOf f (rungOf f A) : Nat)) (f.leastPlace + (plOf f (rungOf f B) : Nat))
          (plOf f (rungOf f A)) (by omega) (fun x => mag_ge f _ (by omega)) (by omega) (Nat.zero_le _)
        rw [sp.2, show 0 * 2 ^ 10 = 0 from rfl, (jam_eq_zero 0 _).2 rfl]
        have nw := nearest_word f A hA hb (by omega)
        have s := nearest_scale f (negOf f A) (magOf f (rungOf f A)) 10 (f.leastPlace + (plOf f (rungOf f A) : Nat) - 10)
        rw [show f.leastPlace + ((plOf f (rungOf f A) : Nat) : Int) - 10 + ((10 : Nat) : Int) = f.leastPlace + ((plOf f (rungOf f A) : Nat) : Int) from by omega, nw] at s
        rw [Nat.add_zero, Nat.sub_zero]
        have ne : (magOf f (rungOf f A) * 2 ^ 10 != 0) = true := by
          rw [bne_iff_ne]; have := Nat.mul_pos (Nat.pos_of_ne_zero hm0) (pw_pos 10); omega
        rw [ne, Bool.and_true, s]
        by_cases c : negOf f A = negOf f B
        · rw [if_pos c]; rfl
        · rw [if_neg c]; rfl
      · rw [if_neg z2]; exact hj1
    · rw [if_neg (by omega)]; exact hj1
/-- The sum of two words that are no NaNs. -/
theorem c_add {p q f} (h : Pq p q f) (A B : Nat) (hA : A < 2 * f.signWeight) (hB : B < 2 * f.signWeight) (iA : rungOf f A ≤ f.infRung) (iB : rungOf f B ≤ f.infRung) (k : Nat) :
    ff_add.f (k + 4) p q A B = some (resP p (f.add A B)) := by
  obtain ⟨w1, w2, w3, w4, w5, w6, w7, w8, w9, w10, w11, w12⟩ := c_w h
  unfold ff_add.f
  rw [c_size h A (by omega), c_size h B (by omega)]
  simp only [Option.bind_some]
  unfold Ieee.Format.add
  by_cases c : (rungOf f A : Int) < (rungOf f B : Int)
  · rw [if_pos c, c_add_j0 h B A hB hA iB (by omega) k, sum_comm]
  · rw [if_neg c, c_add_j0 h A B hA hB iA (by omega) k]
end Go.Proofs.Ytjfmomogidgbpaa.Pure
