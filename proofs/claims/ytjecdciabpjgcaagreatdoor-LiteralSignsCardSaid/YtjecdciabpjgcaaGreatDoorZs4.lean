/-
  Texts that the kit's print.py has written for this claim (called by this session's own script), put together, without what is not used.
-/
import Derived.Test.YtjecdciabpjgcaaGreatDoorZs0
import Derived.Test.YtjecdciabpjgcaaGreatDoorZs2
import Derived.Test.YtjecdciabpjgcaaGreatDoorZs3
namespace Go.Proofs.YtjecdciabpjgcaaGreatDoor.PLz
open Go.RowKit Go.Proofs.YtjecdciabpjgcaaGreatDoorW.PrintWords Go.Proofs.YtjecdciabpjgcaaGreatDoorW.PrintLast Go.Proofs.YtjecdciabpjgcaaGreatDoorW.PrintMore
attribute [local go_sem] max2_int min2_int max_two min_two max_three min_three max_four min_four
set_option linter.unusedVariables false
set_option linter.unusedSimpArgs false
mutual
def floats_format_round.j0 : Nat → Bool → Int → Int → Int → Int → Int → Option (Int)
  | 0, _, _, _, _, _, _ => none
  | k + 1, x1, x2, x3, x11, x126000, x126001 => if 0 ≤ (IntKind.u64.wrap (x126000)) then (if x2 ≥ (shl .u64 1 (IntKind.u64.wrap (x126000))) then ((floats_format_least.f x126000 x126001).bind fun t129 => (floats_format_round.j1 k x1 x2 (wrap64 ((wrap64 (x3 + x11)) - t129)) x126000 x126001)) else (floats_format_round.j1 k x1 x2 0 x126000 x126001)) else (none)
def floats_format_round.j1 : Nat → Bool → Int → Int → Int → Int → Option (Int)
  | 0, _, _, _, _, _ => none
  | k + 1, x1, x2, x13, x126000, x126001 => if 0 ≤ (IntKind.u64.wrap (x126001)) then (if x13 ≥ (shl .i64 1 (IntKind.u64.wrap (x126001))) then ((floats_format_infinity.f x126000 x126001).bind fun t130 => ((floats_format_signed.f x126000 x126001 x1 t130).bind fun t131 => (some t131))) else (if 0 ≤ (IntKind.u64.wrap (x126000)) then ((floats_format_infinity.f x126000 x126001).bind fun t132 => ((floats_format_signed.f x126000 x126001 x1 (mn (IntKind.u64.wrap ((shl .u64 (IntKind.u64.wrap (x13)) (IntKind.u64.wrap (x126000))) + x2)) t132)).bind fun t133 => (some t133))) else (none))) else (none)
end
def floats_format_round.f (k : Nat) (a0_0 : Int) (a0_1 : Int) (a1 : Bool) (a2 : Int) (a3 : Int) (a4 : Bool) : Option (Int) := if a2 = 0 then ((floats_format_signed.f a0_0 a0_1 a1 0).bind fun t126 => (some t126)) else ((bits_Len64.f a2).bind fun t127 => ((floats_format_least.f a0_0 a0_1).bind fun t128 => (if (wrap64 ((mx (wrap64 ((wrap64 ((wrap64 (t127 + (mn (mx a3 (-5000)) 5000))) - 1)) - a0_0)) t128) - (mn (mx a3 (-5000)) 5000))) ≤ 0 then (if 0 ≤ (IntKind.u64.wrap (wrap64 (-(wrap64 ((mx (wrap64 ((wrap64 ((wrap64 (t127 + (mn (mx a3 (-5000)) 5000))) - 1)) - a0_0)) t128) - (mn (mx a3 (-5000)) 5000)))))) then (floats_format_round.j0 k a1 (shl .u64 a2 (IntKind.u64.wrap (wrap64 (-(wrap64 ((mx (wrap64 ((wrap64 ((wrap64 (t127 + (mn (mx a3 (-5000)) 5000))) - 1)) - a0_0)) t128) - (mn (mx a3 (-5000)) 5000))))))) (mn (mx a3 (-5000)) 5000) (wrap64 ((mx (wrap64 ((wrap64 ((wrap64 (t127 + (mn (mx a3 (-5000)) 5000))) - 1)) - a0_0)) t128) - (mn (mx a3 (-5000)) 5000))) a0_0 a0_1) else (none)) else (if (wrap64 ((mx (wrap64 ((wrap64 ((wrap64 (t127 + (mn (mx a3 (-5000)) 5000))) - 1)) - a0_0)) t128) - (mn (mx a3 (-5000)) 5000))) > 64 then (floats_format_round.j0 k a1 0 (mn (mx a3 (-5000)) 5000) (wrap64 ((mx (wrap64 ((wrap64 ((wrap64 (t127 + (mn (mx a3 (-5000)) 5000))) - 1)) - a0_0)) t128) - (mn (mx a3 (-5000)) 5000))) a0_0 a0_1) else (if 0 ≤ (IntKind.u64.wrap (wrap64 (64 - (wrap64 ((mx (wrap64 ((wrap64 ((wrap64 (t127 + (mn (mx a3 (-5000)) 5000))) - 1)) - a0_0)) t128) - (mn (mx a3 (-5000)) 5000)))))) then (if 0 ≤ (IntKind.u64.wrap (wrap64 ((wrap64 ((mx (wrap64 ((wrap64 ((wrap64 (t127 + (mn (mx a3 (-5000)) 5000))) - 1)) - a0_0)) t128) - (mn (mx a3 (-5000)) 5000))) - 1))) then (if (shl .u64 a2 (IntKind.u64.wrap (wrap64 (64 - (wrap64 ((mx (wrap64 ((wrap64 ((wrap64 (t127 + (mn (mx a3 (-5000)) 5000))) - 1)) - a0_0)) t128) - (mn (mx a3 (-5000)) 5000))))))) > 9223372036854775808 then (floats_format_round.j0 k a1 (IntKind.u64.wrap ((shr .u64 (a2 / 2) (IntKind.u64.wrap (wrap64 ((wrap64 ((mx (wrap64 ((wrap64 ((wrap64 (t127 + (mn (mx a3 (-5000)) 5000))) - 1)) - a0_0)) t128) - (mn (mx a3 (-5000)) 5000))) - 1)))) + 1)) (mn (mx a3 (-5000)) 5000) (wrap64 ((mx (wrap64 ((wrap64 ((wrap64 (t127 + (mn (mx a3 (-5000)) 5000))) - 1)) - a0_0)) t128) - (mn (mx a3 (-5000)) 5000))) a0_0 a0_1) else (if (shl .u64 a2 (IntKind.u64.wrap (wrap64 (64 - (wrap64 ((mx (wrap64 ((wrap64 ((wrap64 (t127 + (mn (mx a3 (-5000)) 5000))) - 1)) - a0_0)) t128) - (mn (mx a3 (-5000)) 5000))))))) = 9223372036854775808 then (if a4 = true then (floats_format_round.j0 k a1 (IntKind.u64.wrap ((shr .u64 (a2 / 2) (IntKind.u64.wrap (wrap64 ((wrap64 ((mx (wrap64 ((wrap64 ((wrap64 (t127 + (mn (mx a3 (-5000)) 5000))) - 1)) - a0_0)) t128) - (mn (mx a3 (-5000)) 5000))) - 1)))) + 1)) (mn (mx a3 (-5000)) 5000) (wrap64 ((mx (wrap64 ((wrap64 ((wrap64 (t127 + (mn (mx a3 (-5000)) 5000))) - 1)) - a0_0)) t128) - (mn (mx a3 (-5000)) 5000))) a0_0 a0_1) else (if (Go.bits .and .u64 (shr .u64 (a2 / 2) (IntKind.u64.wrap (wrap64 ((wrap64 ((mx (wrap64 ((wrap64 ((wrap64 (t127 + (mn (mx a3 (-5000)) 5000))) - 1)) - a0_0)) t128) - (mn (mx a3 (-5000)) 5000))) - 1)))) 1) = 1 then (floats_format_round.j0 k a1 (IntKind.u64.wrap ((shr .u64 (a2 / 2) (IntKind.u64.wrap (wrap64 ((wrap64 ((mx (wrap64 ((wrap64 ((wrap64 (t127 + (mn (mx a3 (-5000)) 5000))) - 1)) - a0_0)) t128) - (mn (mx a3 (-5000)) 5000))) - 1)))) + 1)) (mn (mx a3 (-5000)) 5000) (wrap64 ((mx (wrap64 ((wrap64 ((wrap64 (t127 + (mn (mx a3 (-5000)) 5000))) - 1)) - a0_0)) t128) - (mn (mx a3 (-5000)) 5000))) a0_0 a0_1) else (floats_format_round.j0 k a1 (shr .u64 (a2 / 2) (IntKind.u64.wrap (wrap64 ((wrap64 ((mx (wrap64 ((wrap64 ((wrap64 (t127 + (mn (mx a3 (-5000)) 5000))) - 1)) - a0_0)) t128) - (mn (mx a3 (-5000)) 5000))) - 1)))) (mn (mx a3 (-5000)) 5000) (wrap64 ((mx (wrap64 ((wrap64 ((wrap64 (t127 + (mn (mx a3 (-5000)) 5000))) - 1)) - a0_0)) t128) - (mn (mx a3 (-5000)) 5000))) a0_0 a0_1))) else (floats_format_round.j0 k a1 (shr .u64 (a2 / 2) (IntKind.u64.wrap (wrap64 ((wrap64 ((mx (wrap64 ((wrap64 ((wrap64 (t127 + (mn (mx a3 (-5000)) 5000))) - 1)) - a0_0)) t128) - (mn (mx a3 (-5000)) 5000))) - 1)))) (mn (mx a3 (-5000)) 5000) (wrap64 ((mx (wrap64 ((wrap64 ((wrap64 (t127 + (mn (mx a3 (-5000)) 5000))) - 1)) - a0_0)) t128) - (mn (mx a3 (-5000)) 5000))) a0_0 a0_1))) else (none)) else (none))))))
theorem floats_format_round.mono_l : ∀ k, (∀ y0 y1 y2 y3 y4 y5, LeO (floats_format_round.j0 k y0 y1 y2 y3 y4 y5) (floats_format_round.j0 (k + 1) y0 y1 y2 y3 y4 y5)) ∧ (∀ y0 y1 y2 y3 y4, LeO (floats_format_round.j1 k y0 y1 y2 y3 y4) (floats_format_round.j1 (k + 1) y0 y1 y2 y3 y4)) := by
  intro k
  induction k with
  | zero => exact ⟨fun _ _ _ _ _ _ r h => by simp [floats_format_round.j0] at h, fun _ _ _ _ _ r h => by simp [floats_format_round.j1] at h⟩
  | succ k ih =>
    obtain ⟨ih0, ih1⟩ := ih
    refine ⟨?_, ?_⟩
    · intro y0 y1 y2 y3 y4 y5
      unfold floats_format_round.j0
      repeat' first
      | (with_reducible exact ih0 _ _ _ _ _ _)
      | (with_reducible exact ih1 _ _ _ _ _)
      | (with_reducible exact LeO.refl _)
      | (with_reducible exact LeO.none _)
      | (with_reducible refine LeO.ite ?_ ?_)
      | (with_reducible refine LeO.bind ?_ (fun _ => ?_))
      | exact ih0 _ _ _ _ _ _
      | exact ih1 _ _ _ _ _
      | exact LeO.none _
      | refine LeO.ite ?_ ?_
      | refine LeO.bind ?_ (fun _ => ?_)
    · intro y0 y1 y2 y3 y4
      unfold floats_format_round.j1
      repeat' first
      | (with_reducible exact ih0 _ _ _ _ _ _)
      | (with_reducible exact ih1 _ _ _ _ _)
      | (with_reducible exact LeO.refl _)
      | (with_reducible exact LeO.none _)
      | (with_reducible refine LeO.ite ?_ ?_)
      | (with_reducible refine LeO.bind ?_ (fun _ => ?_))
      | exact ih0 _ _ _ _ _ _
      | exact ih1 _ _ _ _ _
      | exact LeO.none _
      | refine LeO.ite ?_ ?_
      | refine LeO.bind ?_ (fun _ => ?_)
theorem floats_format_round.mono : ∀ a0 a1 a2 a3 a4 a5 k, LeO (floats_format_round.f k a0 a1 a2 a3 a4 a5) (floats_format_round.f (k + 1) a0 a1 a2 a3 a4 a5) := by
  intro a0 a1 a2 a3 a4 a5 k
  obtain ⟨ih0, ih1⟩ := floats_format_round.mono_l k
  unfold floats_format_round.f
  repeat' first
      | (with_reducible exact ih0 _ _ _ _ _ _)
      | (with_reducible exact ih1 _ _ _ _ _)
      | (with_reducible exact LeO.refl _)
      | (with_reducible exact LeO.none _)
      | (with_reducible refine LeO.ite ?_ ?_)
      | (with_reducible refine LeO.bind ?_ (fun _ => ?_))
      | exact ih0 _ _ _ _ _ _
      | exact ih1 _ _ _ _ _
      | exact LeO.none _
      | refine LeO.ite ?_ ?_
      | refine LeO.bind ?_ (fun _ => ?_)
def floats_format_round.T4 : Bool × List (List Nat × List Nat) := (true, [([], []), ([0], [0]), ([], []), ([1, 2], [1, 2]), ([3], [3]), ([], []), ([5], [5]), ([4, 6], [4, 6]), ([], []), ([8, 1], [8]), ([7, 9], [7, 9]), ([], []), ([10, 11], [10, 11]), ([12, 9, 0, 1, 2, 3, 4, 5, 6, 7, 8, 9, 10, 11, 12], [12])])
def floats_format_round.B4 : List Nat := [0, 1, 0, 7, 15, 0, 32, 127, 0, 259, 1023, 0, 4095, 8191]
theorem floats_format_round.tab4 : rtab .any (opsOf Tryz.f73 4) = floats_format_round.T4 := by kernel_rfl
theorem floats_format_round.bits4 : waitsOk floats_format_round.T4.2 floats_format_round.B4 = true := by kernel_rfl
def floats_format_round.T18 : Bool × List (List Nat × List Nat) := (true, [([], []), ([], []), ([], []), ([2], [2]), ([], []), ([4], [4]), ([5], [5]), ([3, 6], [3, 6]), ([], []), ([7, 8], [7, 8]), ([], []), ([10], [10]), ([9, 11], [9, 11]), ([0, 1, 12, 11], [0, 1, 12]), ([13, 13, 0, 1, 2, 3, 4, 5, 6, 7, 8, 9, 10, 11, 12, 13], [13])])
def floats_format_round.B18 : List Nat := [0, 0, 0, 4, 0, 16, 48, 124, 0, 508, 0, 1024, 4092, 8191, 16383]
theorem floats_format_round.tab18 : rtab .any (opsOf Tryz.f73 18) = floats_format_round.T18 := by kernel_rfl
theorem floats_format_round.bits18 : waitsOk floats_format_round.T18.2 floats_format_round.B18 = true := by kernel_rfl
set_option maxHeartbeats 8000000 in
set_option maxRecDepth 100000 in
theorem floats_format_round.calls (k : Nat) (a0_0 : Int) (a0_1 : Int) (a1 : Bool) (a2 : Int) (a3 : Int) (a4 : Bool) (r : Int) (w : World) (h : floats_format_round.f k a0_0 a0_1 a1 a2 a3 a4 = some r) :
    Calls Tryz.prog 73 #[.agg #[.int .i64 a0_0, .int .i64 a0_1], .bool a1, .int .u64 a2, .int .i64 a3, .bool a4] w fun e w' => e = .returned (.int .u64 r) ∧ Below w.heap.size w w' := by
  have hu95 := Tryz.underlying95
  have HB := Aside0.mk (Below.refl w.heap.size w)
  have H : (if a2 = 0 then ((floats_format_signed.f a0_0 a0_1 a1 0).bind fun t126 => (some t126)) else ((bits_Len64.f a2).bind fun t127 => ((floats_format_least.f a0_0 a0_1).bind fun t128 => (if (wrap64 ((mx (wrap64 ((wrap64 ((wrap64 (t127 + (mn (mx a3 (-5000)) 5000))) - 1)) - a0_0)) t128) - (mn (mx a3 (-5000)) 5000))) ≤ 0 then (if 0 ≤ (IntKind.u64.wrap (wrap64 (-(wrap64 ((mx (wrap64 ((wrap64 ((wrap64 (t127 + (mn (mx a3 (-5000)) 5000))) - 1)) - a0_0)) t128) - (mn (mx a3 (-5000)) 5000)))))) then (floats_format_round.j0 k a1 (shl .u64 a2 (IntKind.u64.wrap (wrap64 (-(wrap64 ((mx (wrap64 ((wrap64 ((wrap64 (t127 + (mn (mx a3 (-5000)) 5000))) - 1)) - a0_0)) t128) - (mn (mx a3 (-5000)) 5000))))))) (mn (mx a3 (-5000)) 5000) (wrap64 ((mx (wrap64 ((wrap64 ((wrap64 (t127 + (mn (mx a3 (-5000)) 5000))) - 1)) - a0_0)) t128) - (mn (mx a3 (-5000)) 5000))) a0_0 a0_1) else (none)) else (if (wrap64 ((mx (wrap64 ((wrap64 ((wrap64 (t127 + (mn (mx a3 (-5000)) 5000))) - 1)) - a0_0)) t128) - (mn (mx a3 (-5000)) 5000))) > 64 then (floats_format_round.j0 k a1 0 (mn (mx a3 (-5000)) 5000) (wrap64 ((mx (wrap64 ((wrap64 ((wrap64 (t127 + (mn (mx a3 (-5000)) 5000))) - 1)) - a0_0)) t128) - (mn (mx a3 (-5000)) 5000))) a0_0 a0_1) else (if 0 ≤ (IntKind.u64.wrap (wrap64 (64 - (wrap64 ((mx (wrap64 ((wrap64 ((wrap64 (t127 + (mn (mx a3 (-5000)) 5000))) - 1)) - a0_0)) t128) - (mn (mx a3 (-5000)) 5000)))))) then (if 0 ≤ (IntKind.u64.wrap (wrap64 ((wrap64 ((mx (wrap64 ((wrap64 ((wrap64 (t127 + (mn (mx a3 (-5000)) 5000))) - 1)) - a0_0)) t128) - (mn (mx a3 (-5000)) 5000))) - 1))) then (if (shl .u64 a2 (IntKind.u64.wrap (wrap64 (64 - (wrap64 ((mx (wrap64 ((wrap64 ((wrap64 (t127 + (mn (mx a3 (-5000)) 5000))) - 1)) - a0_0)) t128) - (mn (mx a3 (-5000)) 5000))))))) > 9223372036854775808 then (floats_format_round.j0 k a1 (IntKind.u64.wrap ((shr .u64 (a2 / 2) (IntKind.u64.wrap (wrap64 ((wrap64 ((mx (wrap64 ((wrap64 ((wrap64 (t127 + (mn (mx a3 (-5000)) 5000))) - 1)) - a0_0)) t128) - (mn (mx a3 (-5000)) 5000))) - 1)))) + 1)) (mn (mx a3 (-5000)) 5000) (wrap64 ((mx (wrap64 ((wrap64 ((wrap64 (t127 + (mn (mx a3 (-5000)) 5000))) - 1)) - a0_0)) t128) - (mn (mx a3 (-5000)) 5000))) a0_0 a0_1) else (if (shl .u64 a2 (IntKind.u64.wrap (wrap64 (64 - (wrap64 ((mx (wrap64 ((wrap64 ((wrap64 (t127 + (mn (mx a3 (-5000)) 5000))) - 1)) - a0_0)) t128) - (mn (mx a3 (-5000)) 5000))))))) = 9223372036854775808 then (if a4 = true then (floats_format_round.j0 k a1 (IntKind.u64.wrap ((shr .u64 (a2 / 2) (IntKind.u64.wrap (wrap64 ((wrap64 ((mx (wrap64 ((wrap64 ((wrap64 (t127 + (mn (mx a3 (-5000)) 5000))) - 1)) - a0_0)) t128) - (mn (mx a3 (-5000)) 5000))) - 1)))) + 1)) (mn (mx a3 (-5000)) 5000) (wrap64 ((mx (wrap64 ((wrap64 ((wrap64 (t127 + (mn (mx a3 (-5000)) 5000))) - 1)) - a0_0)) t128) - (mn (mx a3 (-5000)) 5000))) a0_0 a0_1) else (if (Go.bits .and .u64 (shr .u64 (a2 / 2) (IntKind.u64.wrap (wrap64 ((wrap64 ((mx (wrap64 ((wrap64 ((wrap64 (t127 + (mn (mx a3 (-5000)) 5000))) - 1)) - a0_0)) t128) - (mn (mx a3 (-5000)) 5000))) - 1)))) 1) = 1 then (floats_format_round.j0 k a1 (IntKind.u64.wrap ((shr .u64 (a2 / 2) (IntKind.u64.wrap (wrap64 ((wrap64 ((mx (wrap64 ((wrap64 ((wrap64 (t127 + (mn (mx a3 (-5000)) 5000))) - 1)) - a0_0)) t128) - (mn (mx a3 (-5000)) 5000))) - 1)))) + 1)) (mn (mx a3 (-5000)) 5000) (wrap64 ((mx (wrap64 ((wrap64 ((wrap64 (t127 + (mn (mx a3 (-5000)) 5000))) - 1)) - a0_0)) t128) - (mn (mx a3 (-5000)) 5000))) a0_0 a0_1) else (floats_format_round.j0 k a1 (shr .u64 (a2 / 2) (IntKind.u64.wrap (wrap64 ((wrap64 ((mx (wrap64 ((wrap64 ((wrap64 (t127 + (mn (mx a3 (-5000)) 5000))) - 1)) - a0_0)) t128) - (mn (mx a3 (-5000)) 5000))) - 1)))) (mn (mx a3 (-5000)) 5000) (wrap64 ((mx (wrap64 ((wrap64 ((wrap64 (t127 + (mn (mx a3 (-5000)) 5000))) - 1)) - a0_0)) t128) - (mn (mx a3 (-5000)) 5000))) a0_0 a0_1))) else (floats_format_round.j0 k a1 (shr .u64 (a2 / 2) (IntKind.u64.wrap (wrap64 ((wrap64 ((mx (wrap64 ((wrap64 ((wrap64 (t127 + (mn (mx a3 (-5000)) 5000))) - 1)) - a0_0)) t128) - (mn (mx a3 (-5000)) 5000))) - 1)))) (mn (mx a3 (-5000)) 5000) (wrap64 ((mx (wrap64 ((wrap64 ((wrap64 (t127 + (mn (mx a3 (-5000)) 5000))) - 1)) - a0_0)) t128) - (mn (mx a3 (-5000)) 5000))) a0_0 a0_1))) else (none)) else (none))))))) = some r := h
  clear h
  by_cases c6 : a2 = 0
  · rw [if_pos c6] at H
    have c6b0 : (a2 == 0) = true := beq_iff_eq.mpr c6
    have c6b1 : (a2 != 0) = false := bne_eq_false_iff_eq.mpr c6
    clear c6
    replace H := Option.bind_eq_some_iff.mp H
    obtain ⟨t126, A70, H⟩ := H
    replace H : (some t126) = some r := H
    have A7 := Aside0.mk A70
    clear A70
    obtain rfl := Option.some.inj H
    go_enter Tryz.func73, Tryz.ntmps73
    go_wp2_with (first | ((with_reducible refine gate_dst (N := 5) rfl ?_); refine box_event ?hg (N := 5) ?hd (cs := #[.int .i64 a0_0, .int .i64 a0_1]) (t := 95) ?hr ?_; (case hd => rfl); (case hg => rfl); (case hr => first | (go_simp; done) | (go_simp; rfl)); intro gb125 hg w8 hbox hb; have n0_ := Aside0.mk (below_step (by repeat (first | (with_reducible first | exact HB.out | apply below_alloc | apply pw_below_drewN | apply below_drew1) | exact HB.out)) hb); have n1_ := Aside0.mk (hbox); have n2_ := Aside0.mk ((by rw [hg]; exact (below_size (by repeat (first | (with_reducible first | exact HB.out | apply below_alloc | apply pw_below_drewN | apply below_drew1) | exact HB.out))) : w.heap.size ≤ gb125)); have n3_ := Aside0.mk ((by rw [hg]; exact (below_size (by repeat (first | (with_reducible first | exact HB.out | apply below_alloc | apply pw_below_drewN | apply below_drew1) | exact HB.out))) : w.heap.size ≤ gb125)); clear HB; have HB := n0_; have BK125 := n1_; have GW125 := n2_; have GE125 := n3_; clear n0_ n1_ n2_ n3_; clear hb hbox hg; have hcz9_0 : w8.cell? ⟨gb125, 0, none⟩ = some (.int .i64 a0_0) := (blk_cell BK125.out 0).trans rfl; have hcz9_1 : w8.cell? ⟨gb125, 1, none⟩ = some (.int .i64 a0_1) := (blk_cell BK125.out 1).trans rfl; have hfz9_0 := blk_frozen BK125.out 0; have hfz9_1 := blk_frozen BK125.out 1) | ((with_reducible refine gate_callee (f := 110) rfl ?_); refine goesL_ (some 18) rfl rfl Tryz.func110 (by kernel_rfl) rfl #[.agg #[.int .i64 a0_0, .int .i64 a0_1], .bool a1, .int .u64 0] rfl (by (try simp only [List.map_toArray, List.map_cons, List.map_nil]); first | done | rfl | (simp only [List.length_drop, List.length_take]; rfl)) ?_; (with_reducible refine (floats_format_signed.calls a0_0 a0_1 a1 0 t126 _ A7.out).mono ?_); rintro e w10 ⟨rfl, hb⟩; refine ⟨_, rfl, ?_⟩; have n0_ := Aside0.mk (blk_below (g := gb125) (o := .cells #[.int .i64 a0_0, .int .i64 a0_1] 95 (0, 0)) (by (with_reducible repeat (first | refine blk_drewN ?_ _ | refine blk_drew ?_ | refine blk_alloc ?_ _)); exact BK125.out) hb); have n1_ := Aside0.mk (below_step (by repeat (first | (with_reducible first | exact HB.out | apply below_alloc | apply pw_below_drewN | apply below_drew1 | refine below_set ?_ GE125.out) | exact HB.out)) hb); clear BK125; clear HB; have BK125 := n0_; have HB := n1_; clear n0_ n1_; (try clear hb); (try clear hb2); (try clear hk); (try clear hi)))
    go_ret
    exact ⟨by first | rfl | (simp [errW_none, errW_some] <;> rfl) | (simp [*, errW_none, errW_some] <;> rfl), by repeat (first | (with_reducible first | exact HB.out | apply below_alloc | apply pw_below_drewN | apply below_drew1 | refine below_set ?_ GE125.out) | exact HB.out)⟩
  · rw [if_neg c6] at H
    have c6b0 : (a2 == 0) = false := beq_eq_false_iff_ne.mpr c6
    have c6b1 : (a2 != 0) = true := bne_iff_ne.mpr c6
    obtain ⟨ji11, hji11⟩ : ∃ j_ : Int, (mx a3 (-5000)) = j_ := ⟨_, rfl⟩
    replace H : ((bits_Len64.f a2).bind fun t127 => ((floats_format_least.f a0_0 a0_1).bind fun t128 => (if (wrap64 ((mx (wrap64 ((wrap64 ((wrap64 (t127 + (mn (ji11) 5000))) - 1)) - a0_0)) t128) - (mn (ji11) 5000))) ≤ 0 then (if 0 ≤ (IntKind.u64.wrap (wrap64 (-(wrap64 ((mx (wrap64 ((wrap64 ((wrap64 (t127 + (mn (ji11) 5000))) - 1)) - a0_0)) t128) - (mn (ji11) 5000)))))) then (floats_format_round.j0 k a1 (shl .u64 a2 (IntKind.u64.wrap (wrap64 (-(wrap64 ((mx (wrap64 ((wrap64 ((wrap64 (t127 + (mn (ji11) 5000))) - 1)) - a0_0)) t128) - (mn (ji11) 5000))))))) (mn (ji11) 5000) (wrap64 ((mx (wrap64 ((wrap64 ((wrap64 (t127 + (mn (ji11) 5000))) - 1)) - a0_0)) t128) - (mn (ji11) 5000))) a0_0 a0_1) else (none)) else (if (wrap64 ((mx (wrap64 ((wrap64 ((wrap64 (t127 + (mn (ji11) 5000))) - 1)) - a0_0)) t128) - (mn (ji11) 5000))) > 64 then (floats_format_round.j0 k a1 0 (mn (ji11) 5000) (wrap64 ((mx (wrap64 ((wrap64 ((wrap64 (t127 + (mn (ji11) 5000))) - 1)) - a0_0)) t128) - (mn (ji11) 5000))) a0_0 a0_1) else (if 0 ≤ (IntKind.u64.wrap (wrap64 (64 - (wrap64 ((mx (wrap64 ((wrap64 ((wrap64 (t127 + (mn (ji11) 5000))) - 1)) - a0_0)) t128) - (mn (ji11) 5000)))))) then (if 0 ≤ (IntKind.u64.wrap (wrap64 ((wrap64 ((mx (wrap64 ((wrap64 ((wrap64 (t127 + (mn (ji11) 5000))) - 1)) - a0_0)) t128) - (mn (ji11) 5000))) - 1))) then (if (shl .u64 a2 (IntKind.u64.wrap (wrap64 (64 - (wrap64 ((mx (wrap64 ((wrap64 ((wrap64 (t127 + (mn (ji11) 5000))) - 1)) - a0_0)) t128) - (mn (ji11) 5000))))))) > 9223372036854775808 then (floats_format_round.j0 k a1 (IntKind.u64.wrap ((shr .u64 (a2 / 2) (IntKind.u64.wrap (wrap64 ((wrap64 ((mx (wrap64 ((wrap64 ((wrap64 (t127 + (mn (ji11) 5000))) - 1)) - a0_0)) t128) - (mn (ji11) 5000))) - 1)))) + 1)) (mn (ji11) 5000) (wrap64 ((mx (wrap64 ((wrap64 ((wrap64 (t127 + (mn (ji11) 5000))) - 1)) - a0_0)) t128) - (mn (ji11) 5000))) a0_0 a0_1) else (if (shl .u64 a2 (IntKind.u64.wrap (wrap64 (64 - (wrap64 ((mx (wrap64 ((wrap64 ((wrap64 (t127 + (mn (ji11) 5000))) - 1)) - a0_0)) t128) - (mn (ji11) 5000))))))) = 9223372036854775808 then (if a4 = true then (floats_format_round.j0 k a1 (IntKind.u64.wrap ((shr .u64 (a2 / 2) (IntKind.u64.wrap (wrap64 ((wrap64 ((mx (wrap64 ((wrap64 ((wrap64 (t127 + (mn (ji11) 5000))) - 1)) - a0_0)) t128) - (mn (ji11) 5000))) - 1)))) + 1)) (mn (ji11) 5000) (wrap64 ((mx (wrap64 ((wrap64 ((wrap64 (t127 + (mn (ji11) 5000))) - 1)) - a0_0)) t128) - (mn (ji11) 5000))) a0_0 a0_1) else (if (Go.bits .and .u64 (shr .u64 (a2 / 2) (IntKind.u64.wrap (wrap64 ((wrap64 ((mx (wrap64 ((wrap64 ((wrap64 (t127 + (mn (ji11) 5000))) - 1)) - a0_0)) t128) - (mn (ji11) 5000))) - 1)))) 1) = 1 then (floats_format_round.j0 k a1 (IntKind.u64.wrap ((shr .u64 (a2 / 2) (IntKind.u64.wrap (wrap64 ((wrap64 ((mx (wrap64 ((wrap64 ((wrap64 (t127 + (mn (ji11) 5000))) - 1)) - a0_0)) t128) - (mn (ji11) 5000))) - 1)))) + 1)) (mn (ji11) 5000) (wrap64 ((mx (wrap64 ((wrap64 ((wrap64 (t127 + (mn (ji11) 5000))) - 1)) - a0_0)) t128) - (mn (ji11) 5000))) a0_0 a0_1) else (floats_format_round.j0 k a1 (shr .u64 (a2 / 2) (IntKind.u64.wrap (wrap64 ((wrap64 ((mx (wrap64 ((wrap64 ((wrap64 (t127 + (mn (ji11) 5000))) - 1)) - a0_0)) t128) - (mn (ji11) 5000))) - 1)))) (mn (ji11) 5000) (wrap64 ((mx (wrap64 ((wrap64 ((wrap64 (t127 + (mn (ji11) 5000))) - 1)) - a0_0)) t128) - (mn (ji11) 5000))) a0_0 a0_1))) else (floats_format_round.j0 k a1 (shr .u64 (a2 / 2) (IntKind.u64.wrap (wrap64 ((wrap64 ((mx (wrap64 ((wrap64 ((wrap64 (t127 + (mn (ji11) 5000))) - 1)) - a0_0)) t128) - (mn (ji11) 5000))) - 1)))) (mn (ji11) 5000) (wrap64 ((mx (wrap64 ((wrap64 ((wrap64 (t127 + (mn (ji11) 5000))) - 1)) - a0_0)) t128) - (mn (ji11) 5000))) a0_0 a0_1))) else (none)) else (none)))))) = some r := by first | (rw [hji11] at H; exact H) | (simp only [hji11] at H ⊢; exact H)
    have hji11_ : (if a3 < (-5000) then (-5000) else a3) = ji11 := hji11
    obtain ⟨ji12, hji12⟩ : ∃ j_ : Int, (mn (ji11) 5000) = j_ := ⟨_, rfl⟩
    replace H : ((bits_Len64.f a2).bind fun t127 => ((floats_format_least.f a0_0 a0_1).bind fun t128 => (if (wrap64 ((mx (wrap64 ((wrap64 ((wrap64 (t127 + (ji12))) - 1)) - a0_0)) t128) - (ji12))) ≤ 0 then (if 0 ≤ (IntKind.u64.wrap (wrap64 (-(wrap64 ((mx (wrap64 ((wrap64 ((wrap64 (t127 + (ji12))) - 1)) - a0_0)) t128) - (ji12)))))) then (floats_format_round.j0 k a1 (shl .u64 a2 (IntKind.u64.wrap (wrap64 (-(wrap64 ((mx (wrap64 ((wrap64 ((wrap64 (t127 + (ji12))) - 1)) - a0_0)) t128) - (ji12))))))) ji12 (wrap64 ((mx (wrap64 ((wrap64 ((wrap64 (t127 + (ji12))) - 1)) - a0_0)) t128) - (ji12))) a0_0 a0_1) else (none)) else (if (wrap64 ((mx (wrap64 ((wrap64 ((wrap64 (t127 + (ji12))) - 1)) - a0_0)) t128) - (ji12))) > 64 then (floats_format_round.j0 k a1 0 ji12 (wrap64 ((mx (wrap64 ((wrap64 ((wrap64 (t127 + (ji12))) - 1)) - a0_0)) t128) - (ji12))) a0_0 a0_1) else (if 0 ≤ (IntKind.u64.wrap (wrap64 (64 - (wrap64 ((mx (wrap64 ((wrap64 ((wrap64 (t127 + (ji12))) - 1)) - a0_0)) t128) - (ji12)))))) then (if 0 ≤ (IntKind.u64.wrap (wrap64 ((wrap64 ((mx (wrap64 ((wrap64 ((wrap64 (t127 + (ji12))) - 1)) - a0_0)) t128) - (ji12))) - 1))) then (if (shl .u64 a2 (IntKind.u64.wrap (wrap64 (64 - (wrap64 ((mx (wrap64 ((wrap64 ((wrap64 (t127 + (ji12))) - 1)) - a0_0)) t128) - (ji12))))))) > 9223372036854775808 then (floats_format_round.j0 k a1 (IntKind.u64.wrap ((shr .u64 (a2 / 2) (IntKind.u64.wrap (wrap64 ((wrap64 ((mx (wrap64 ((wrap64 ((wrap64 (t127 + (ji12))) - 1)) - a0_0)) t128) - (ji12))) - 1)))) + 1)) ji12 (wrap64 ((mx (wrap64 ((wrap64 ((wrap64 (t127 + (ji12))) - 1)) - a0_0)) t128) - (ji12))) a0_0 a0_1) else (if (shl .u64 a2 (IntKind.u64.wrap (wrap64 (64 - (wrap64 ((mx (wrap64 ((wrap64 ((wrap64 (t127 + (ji12))) - 1)) - a0_0)) t128) - (ji12))))))) = 9223372036854775808 then (if a4 = true then (floats_format_round.j0 k a1 (IntKind.u64.wrap ((shr .u64 (a2 / 2) (IntKind.u64.wrap (wrap64 ((wrap64 ((mx (wrap64 ((wrap64 ((wrap64 (t127 + (ji12))) - 1)) - a0_0)) t128) - (ji12))) - 1)))) + 1)) ji12 (wrap64 ((mx (wrap64 ((wrap64 ((wrap64 (t127 + (ji12))) - 1)) - a0_0)) t128) - (ji12))) a0_0 a0_1) else (if (Go.bits .and .u64 (shr .u64 (a2 / 2) (IntKind.u64.wrap (wrap64 ((wrap64 ((mx (wrap64 ((wrap64 ((wrap64 (t127 + (ji12))) - 1)) - a0_0)) t128) - (ji12))) - 1)))) 1) = 1 then (floats_format_round.j0 k a1 (IntKind.u64.wrap ((shr .u64 (a2 / 2) (IntKind.u64.wrap (wrap64 ((wrap64 ((mx (wrap64 ((wrap64 ((wrap64 (t127 + (ji12))) - 1)) - a0_0)) t128) - (ji12))) - 1)))) + 1)) ji12 (wrap64 ((mx (wrap64 ((wrap64 ((wrap64 (t127 + (ji12))) - 1)) - a0_0)) t128) - (ji12))) a0_0 a0_1) else (floats_format_round.j0 k a1 (shr .u64 (a2 / 2) (IntKind.u64.wrap (wrap64 ((wrap64 ((mx (wrap64 ((wrap64 ((wrap64 (t127 + (ji12))) - 1)) - a0_0)) t128) - (ji12))) - 1)))) ji12 (wrap64 ((mx (wrap64 ((wrap64 ((wrap64 (t127 + (ji12))) - 1)) - a0_0)) t128) - (ji12))) a0_0 a0_1))) else (floats_format_round.j0 k a1 (shr .u64 (a2 / 2) (IntKind.u64.wrap (wrap64 ((wrap64 ((mx (wrap64 ((wrap64 ((wrap64 (t127 + (ji12))) - 1)) - a0_0)) t128) - (ji12))) - 1)))) ji12 (wrap64 ((mx (wrap64 ((wrap64 ((wrap64 (t127 + (ji12))) - 1)) - a0_0)) t128) - (ji12))) a0_0 a0_1))) else (none)) else (none)))))) = some r := by first | (rw [hji12] at H; exact H) | (simp only [hji12] at H ⊢; exact H)
    have hji12_ : (if 5000 < (ji11) then 5000 else (ji11)) = ji12 := hji12
    replace H := Option.bind_eq_some_iff.mp H
    obtain ⟨t127, A130, H⟩ := H
    replace H : ((floats_format_least.f a0_0 a0_1).bind fun t128 => (if (wrap64 ((mx (wrap64 ((wrap64 ((wrap64 (t127 + (ji12))) - 1)) - a0_0)) t128) - (ji12))) ≤ 0 then (if 0 ≤ (IntKind.u64.wrap (wrap64 (-(wrap64 ((mx (wrap64 ((wrap64 ((wrap64 (t127 + (ji12))) - 1)) - a0_0)) t128) - (ji12)))))) then (floats_format_round.j0 k a1 (shl .u64 a2 (IntKind.u64.wrap (wrap64 (-(wrap64 ((mx (wrap64 ((wrap64 ((wrap64 (t127 + (ji12))) - 1)) - a0_0)) t128) - (ji12))))))) ji12 (wrap64 ((mx (wrap64 ((wrap64 ((wrap64 (t127 + (ji12))) - 1)) - a0_0)) t128) - (ji12))) a0_0 a0_1) else (none)) else (if (wrap64 ((mx (wrap64 ((wrap64 ((wrap64 (t127 + (ji12))) - 1)) - a0_0)) t128) - (ji12))) > 64 then (floats_format_round.j0 k a1 0 ji12 (wrap64 ((mx (wrap64 ((wrap64 ((wrap64 (t127 + (ji12))) - 1)) - a0_0)) t128) - (ji12))) a0_0 a0_1) else (if 0 ≤ (IntKind.u64.wrap (wrap64 (64 - (wrap64 ((mx (wrap64 ((wrap64 ((wrap64 (t127 + (ji12))) - 1)) - a0_0)) t128) - (ji12)))))) then (if 0 ≤ (IntKind.u64.wrap (wrap64 ((wrap64 ((mx (wrap64 ((wrap64 ((wrap64 (t127 + (ji12))) - 1)) - a0_0)) t128) - (ji12))) - 1))) then (if (shl .u64 a2 (IntKind.u64.wrap (wrap64 (64 - (wrap64 ((mx (wrap64 ((wrap64 ((wrap64 (t127 + (ji12))) - 1)) - a0_0)) t128) - (ji12))))))) > 9223372036854775808 then (floats_format_round.j0 k a1 (IntKind.u64.wrap ((shr .u64 (a2 / 2) (IntKind.u64.wrap (wrap64 ((wrap64 ((mx (wrap64 ((wrap64 ((wrap64 (t127 + (ji12))) - 1)) - a0_0)) t128) - (ji12))) - 1)))) + 1)) ji12 (wrap64 ((mx (wrap64 ((wrap64 ((wrap64 (t127 + (ji12))) - 1)) - a0_0)) t128) - (ji12))) a0_0 a0_1) else (if (shl .u64 a2 (IntKind.u64.wrap (wrap64 (64 - (wrap64 ((mx (wrap64 ((wrap64 ((wrap64 (t127 + (ji12))) - 1)) - a0_0)) t128) - (ji12))))))) = 9223372036854775808 then (if a4 = true then (floats_format_round.j0 k a1 (IntKind.u64.wrap ((shr .u64 (a2 / 2) (IntKind.u64.wrap (wrap64 ((wrap64 ((mx (wrap64 ((wrap64 ((wrap64 (t127 + (ji12))) - 1)) - a0_0)) t128) - (ji12))) - 1)))) + 1)) ji12 (wrap64 ((mx (wrap64 ((wrap64 ((wrap64 (t127 + (ji12))) - 1)) - a0_0)) t128) - (ji12))) a0_0 a0_1) else (if (Go.bits .and .u64 (shr .u64 (a2 / 2) (IntKind.u64.wrap (wrap64 ((wrap64 ((mx (wrap64 ((wrap64 ((wrap64 (t127 + (ji12))) - 1)) - a0_0)) t128) - (ji12))) - 1)))) 1) = 1 then (floats_format_round.j0 k a1 (IntKind.u64.wrap ((shr .u64 (a2 / 2) (IntKind.u64.wrap (wrap64 ((wrap64 ((mx (wrap64 ((wrap64 ((wrap64 (t127 + (ji12))) - 1)) - a0_0)) t128) - (ji12))) - 1)))) + 1)) ji12 (wrap64 ((mx (wrap64 ((wrap64 ((wrap64 (t127 + (ji12))) - 1)) - a0_0)) t128) - (ji12))) a0_0 a0_1) else (floats_format_round.j0 k a1 (shr .u64 (a2 / 2) (IntKind.u64.wrap (wrap64 ((wrap64 ((mx (wrap64 ((wrap64 ((wrap64 (t127 + (ji12))) - 1)) - a0_0)) t128) - (ji12))) - 1)))) ji12 (wrap64 ((mx (wrap64 ((wrap64 ((wrap64 (t127 + (ji12))) - 1)) - a0_0)) t128) - (ji12))) a0_0 a0_1))) else (floats_format_round.j0 k a1 (shr .u64 (a2 / 2) (IntKind.u64.wrap (wrap64 ((wrap64 ((mx (wrap64 ((wrap64 ((wrap64 (t127 + (ji12))) - 1)) - a0_0)) t128) - (ji12))) - 1)))) ji12 (wrap64 ((mx (wrap64 ((wrap64 ((wrap64 (t127 + (ji12))) - 1)) - a0_0)) t128) - (ji12))) a0_0 a0_1))) else (none)) else (none))))) = some r := H
    have A13 := Aside0.mk A130
    clear A130
    replace H := Option.bind_eq_some_iff.mp H
    obtain ⟨t128, A140, H⟩ := H
    replace H : (if (wrap64 ((mx (wrap64 ((wrap64 ((wrap64 (t127 + (ji12))) - 1)) - a0_0)) t128) - (ji12))) ≤ 0 then (if 0 ≤ (IntKind.u64.wrap (wrap64 (-(wrap64 ((mx (wrap64 ((wrap64 ((wrap64 (t127 + (ji12))) - 1)) - a0_0)) t128) - (ji12)))))) then (floats_format_round.j0 k a1 (shl .u64 a2 (IntKind.u64.wrap (wrap64 (-(wrap64 ((mx (wrap64 ((wrap64 ((wrap64 (t127 + (ji12))) - 1)) - a0_0)) t128) - (ji12))))))) ji12 (wrap64 ((mx (wrap64 ((wrap64 ((wrap64 (t127 + (ji12))) - 1)) - a0_0)) t128) - (ji12))) a0_0 a0_1) else (none)) else (if (wrap64 ((mx (wrap64 ((wrap64 ((wrap64 (t127 + (ji12))) - 1)) - a0_0)) t128) - (ji12))) > 64 then (floats_format_round.j0 k a1 0 ji12 (wrap64 ((mx (wrap64 ((wrap64 ((wrap64 (t127 + (ji12))) - 1)) - a0_0)) t128) - (ji12))) a0_0 a0_1) else (if 0 ≤ (IntKind.u64.wrap (wrap64 (64 - (wrap64 ((mx (wrap64 ((wrap64 ((wrap64 (t127 + (ji12))) - 1)) - a0_0)) t128) - (ji12)))))) then (if 0 ≤ (IntKind.u64.wrap (wrap64 ((wrap64 ((mx (wrap64 ((wrap64 ((wrap64 (t127 + (ji12))) - 1)) - a0_0)) t128) - (ji12))) - 1))) then (if (shl .u64 a2 (IntKind.u64.wrap (wrap64 (64 - (wrap64 ((mx (wrap64 ((wrap64 ((wrap64 (t127 + (ji12))) - 1)) - a0_0)) t128) - (ji12))))))) > 9223372036854775808 then (floats_format_round.j0 k a1 (IntKind.u64.wrap ((shr .u64 (a2 / 2) (IntKind.u64.wrap (wrap64 ((wrap64 ((mx (wrap64 ((wrap64 ((wrap64 (t127 + (ji12))) - 1)) - a0_0)) t128) - (ji12))) - 1)))) + 1)) ji12 (wrap64 ((mx (wrap64 ((wrap64 ((wrap64 (t127 + (ji12))) - 1)) - a0_0)) t128) - (ji12))) a0_0 a0_1) else (if (shl .u64 a2 (IntKind.u64.wrap (wrap64 (64 - (wrap64 ((mx (wrap64 ((wrap64 ((wrap64 (t127 + (ji12))) - 1)) - a0_0)) t128) - (ji12))))))) = 9223372036854775808 then (if a4 = true then (floats_format_round.j0 k a1 (IntKind.u64.wrap ((shr .u64 (a2 / 2) (IntKind.u64.wrap (wrap64 ((wrap64 ((mx (wrap64 ((wrap64 ((wrap64 (t127 + (ji12))) - 1)) - a0_0)) t128) - (ji12))) - 1)))) + 1)) ji12 (wrap64 ((mx (wrap64 ((wrap64 ((wrap64 (t127 + (ji12))) - 1)) - a0_0)) t128) - (ji12))) a0_0 a0_1) else (if (Go.bits .and .u64 (shr .u64 (a2 / 2) (IntKind.u64.wrap (wrap64 ((wrap64 ((mx (wrap64 ((wrap64 ((wrap64 (t127 + (ji12))) - 1)) - a0_0)) t128) - (ji12))) - 1)))) 1) = 1 then (floats_format_round.j0 k a1 (IntKind.u64.wrap ((shr .u64 (a2 / 2) (IntKind.u64.wrap (wrap64 ((wrap64 ((mx (wrap64 ((wrap64 ((wrap64 (t127 + (ji12))) - 1)) - a0_0)) t128) - (ji12))) - 1)))) + 1)) ji12 (wrap64 ((mx (wrap64 ((wrap64 ((wrap64 (t127 + (ji12))) - 1)) - a0_0)) t128) - (ji12))) a0_0 a0_1) else (floats_format_round.j0 k a1 (shr .u64 (a2 / 2) (IntKind.u64.wrap (wrap64 ((wrap64 ((mx (wrap64 ((wrap64 ((wrap64 (t127 + (ji12))) - 1)) - a0_0)) t128) - (ji12))) - 1)))) ji12 (wrap64 ((mx (wrap64 ((wrap64 ((wrap64 (t127 + (ji12))) - 1)) - a0_0)) t128) - (ji12))) a0_0 a0_1))) else (floats_format_round.j0 k a1 (shr .u64 (a2 / 2) (IntKind.u64.wrap (wrap64 ((wrap64 ((mx (wrap64 ((wrap64 ((wrap64 (t127 + (ji12))) - 1)) - a0_0)) t128) - (ji12))) - 1)))) ji12 (wrap64 ((mx (wrap64 ((wrap64 ((wrap64 (t127 + (ji12))) - 1)) - a0_0)) t128) - (ji12))) a0_0 a0_1))) else (none)) else (none)))) = some r := H
    have A14 := Aside0.mk A140
    clear A140
    obtain ⟨ji15, hji15⟩ : ∃ j_ : Int, (mx (wrap64 ((wrap64 ((wrap64 (t127 + (ji12))) - 1)) - a0_0)) t128) = j_ := ⟨_, rfl⟩
    replace H : (if (wrap64 ((ji15) - (ji12))) ≤ 0 then (if 0 ≤ (IntKind.u64.wrap (wrap64 (-(wrap64 ((ji15) - (ji12)))))) then (floats_format_round.j0 k a1 (shl .u64 a2 (IntKind.u64.wrap (wrap64 (-(wrap64 ((ji15) - (ji12))))))) ji12 (wrap64 ((ji15) - (ji12))) a0_0 a0_1) else (none)) else (if (wrap64 ((ji15) - (ji12))) > 64 then (floats_format_round.j0 k a1 0 ji12 (wrap64 ((ji15) - (ji12))) a0_0 a0_1) else (if 0 ≤ (IntKind.u64.wrap (wrap64 (64 - (wrap64 ((ji15) - (ji12)))))) then (if 0 ≤ (IntKind.u64.wrap (wrap64 ((wrap64 ((ji15) - (ji12))) - 1))) then (if (shl .u64 a2 (IntKind.u64.wrap (wrap64 (64 - (wrap64 ((ji15) - (ji12))))))) > 9223372036854775808 then (floats_format_round.j0 k a1 (IntKind.u64.wrap ((shr .u64 (a2 / 2) (IntKind.u64.wrap (wrap64 ((wrap64 ((ji15) - (ji12))) - 1)))) + 1)) ji12 (wrap64 ((ji15) - (ji12))) a0_0 a0_1) else (if (shl .u64 a2 (IntKind.u64.wrap (wrap64 (64 - (wrap64 ((ji15) - (ji12))))))) = 9223372036854775808 then (if a4 = true then (floats_format_round.j0 k a1 (IntKind.u64.wrap ((shr .u64 (a2 / 2) (IntKind.u64.wrap (wrap64 ((wrap64 ((ji15) - (ji12))) - 1)))) + 1)) ji12 (wrap64 ((ji15) - (ji12))) a0_0 a0_1) else (if (Go.bits .and .u64 (shr .u64 (a2 / 2) (IntKind.u64.wrap (wrap64 ((wrap64 ((ji15) - (ji12))) - 1)))) 1) = 1 then (floats_format_round.j0 k a1 (IntKind.u64.wrap ((shr .u64 (a2 / 2) (IntKind.u64.wrap (wrap64 ((wrap64 ((ji15) - (ji12))) - 1)))) + 1)) ji12 (wrap64 ((ji15) - (ji12))) a0_0 a0_1) else (floats_format_round.j0 k a1 (shr .u64 (a2 / 2) (IntKind.u64.wrap (wrap64 ((wrap64 ((ji15) - (ji12))) - 1)))) ji12 (wrap64 ((ji15) - (ji12))) a0_0 a0_1))) else (floats_format_round.j0 k a1 (shr .u64 (a2 / 2) (IntKind.u64.wrap (wrap64 ((wrap64 ((ji15) - (ji12))) - 1)))) ji12 (wrap64 ((ji15) - (ji12))) a0_0 a0_1))) else (none)) else (none)))) = some r := by first | (rw [hji15] at H; exact H) | (simp only [hji15] at H ⊢; exact H)
    (try rw [hji15] at A13)
    (try rw [hji15] at A14)
    have hji15_ : (if (wrap64 ((wrap64 ((wrap64 (t127 + (ji12))) - 1)) - a0_0)) < t128 then t128 else (wrap64 ((wrap64 ((wrap64 (t127 + (ji12))) - 1)) - a0_0))) = ji15 := hji15
    have HC16 := Aside0.mk H
    clear H
    go_enter Tryz.func73, Tryz.ntmps73
    try go_wp2_with (first | ((with_reducible refine gate_dst (N := 5) rfl ?_); refine box_event ?hg (N := 5) ?hd (cs := #[.int .i64 a0_0, .int .i64 a0_1]) (t := 95) ?hr ?_; (case hd => rfl); (case hg => rfl); (case hr => first | (go_simp; done) | (go_simp; rfl)); intro gb125 hg w17 hbox hb; have n0_ := Aside0.mk (below_step (by repeat (first | (with_reducible first | exact HB.out | apply below_alloc | apply pw_below_drewN | apply below_drew1) | exact HB.out)) hb); have n1_ := Aside0.mk (hbox); have n2_ := Aside0.mk ((by rw [hg]; exact (below_size (by repeat (first | (with_reducible first | exact HB.out | apply below_alloc | apply pw_below_drewN | apply below_drew1) | exact HB.out))) : w.heap.size ≤ gb125)); have n3_ := Aside0.mk ((by rw [hg]; exact (below_size (by repeat (first | (with_reducible first | exact HB.out | apply below_alloc | apply pw_below_drewN | apply below_drew1) | exact HB.out))) : w.heap.size ≤ gb125)); clear HB; have HB := n0_; have BK125 := n1_; have GW125 := n2_; have GE125 := n3_; clear n0_ n1_ n2_ n3_; clear hb hbox hg))
    have n0_ := Aside0.mk (blk_drew BK125.out)
    have n1_ := Aside0.mk (below_drew1 HB.out)
    clear BK125
    clear HB
    have BK125 := n0_
    have HB := n1_
    clear n0_ n1_
    refine start_ (n := 14) (S := fun w' => w'.cell? ⟨gb125, 0, none⟩ = some (.int .i64 a0_0) ∧ w'.cell? ⟨gb125, 1, none⟩ = some (.int .i64 a0_1)) (ds := []) #[false, false, false, false, false, false, false, false, false, false, false, false, false, false] (by kernel_rfl) rfl rfl ⟨(blk_cell BK125.out 0).trans rfl, (blk_cell BK125.out 1).trans rfl⟩ (fun hHeld => ?_); refine with_tabW floats_format_round.tab4 floats_format_round.bits4 (fun HT_ HW_ => ?_)
    generalize w17.drew = w18 at BK125 HB hHeld ⊢
    refine pure_ (i := 0) (N := some 22) (v := ?_) (a' := ?_) #[true, false, false, false, false, false, false, false, false, false, false, false, false, false] rfl rfl (any_of HT_.out (by kernel_rfl)) (fun _ _ _ h => h) (Or.inl ⟨by rfl, ?_⟩) ?_ ?_
    rotate_left
    · intro w'
      go_simp
      with_reducible rfl
    rotate_left
    · simp only [Act.put, List.setIfInBounds_toArray, List.set_cons_zero, List.set_cons_succ, i64_w, i32_w]
      rfl
    refine pure_ (i := 2) (N := some 24) (v := ?_) (a' := ?_) #[true, false, true, false, false, false, false, false, false, false, false, false, false, false] rfl rfl (any_of HT_.out (by kernel_rfl)) (fun _ _ _ h => h) (Or.inl ⟨by rfl, ?_⟩) ?_ ?_
    rotate_left
    · intro w'
      go_simp
      with_reducible rfl
    rotate_left
    · simp only [Act.put, List.setIfInBounds_toArray, List.set_cons_zero, List.set_cons_succ, i64_w, i32_w]
      rfl
    refine pure_ (i := 5) (N := some 27) (v := ?_) (a' := ?_) #[true, false, true, false, false, true, false, false, false, false, false, false, false, false] rfl rfl (any_of HT_.out (by kernel_rfl)) (fun _ _ _ h => h) (Or.inl ⟨by rfl, ?_⟩) ?_ ?_
    rotate_left
    · intro w'
      go_simp
      with_reducible rfl
    rotate_left
    · simp only [Act.put, List.setIfInBounds_toArray, List.set_cons_zero, List.set_cons_succ, i64_w, i32_w]
      rfl
    refine pure_ (i := 11) (N := some 33) (v := ?_) (a' := ?_) #[true, false, true, false, false, true, false, false, false, false, false, true, false, false] rfl rfl (any_of HT_.out (by kernel_rfl)) (fun _ _ _ h => h) (Or.inl ⟨by rfl, ?_⟩) ?_ ?_
    rotate_left
    · intro w'
      go_simp
      with_reducible rfl
    rotate_left
    · simp only [Act.put, List.setIfInBounds_toArray, List.set_cons_zero, List.set_cons_succ, i64_w, i32_w]
      rfl
    refine take_ (i := 6) (N := some 28) (v := ?_) (a' := ?_) #[true, false, true, false, false, true, true, false, false, false, false, true, false, false] rfl rfl (take_ofW HT_.out HW_.out (by kernel_rfl)) (fun _ _ _ h => h) (Or.inl ⟨by rfl, ?_⟩) hHeld ?_ ?_
    rotate_left
    · rintro w' ⟨s0, s1⟩
      go_simp
      with_reducible rfl
    rotate_left
    · simp only [Act.put, List.setIfInBounds_toArray, List.set_cons_zero, List.set_cons_succ, i64_w, i32_w]
      rfl
    refine take_ (i := 8) (N := some 30) (v := ?_) (a' := ?_) #[true, false, true, false, false, true, true, false, true, false, false, true, false, false] rfl rfl (take_ofW HT_.out HW_.out (by kernel_rfl)) (fun _ _ _ h => h) (Or.inl ⟨by rfl, ?_⟩) hHeld ?_ ?_
    rotate_left
    · rintro w' ⟨s0, s1⟩
      go_simp
      with_reducible rfl
    rotate_left
    · simp only [Act.put, List.setIfInBounds_toArray, List.set_cons_zero, List.set_cons_succ, i64_w, i32_w]
      rfl
    refine one_ (i := 1) (N := some 23) #[true, true, true, false, false, true, true, false, true, false, false, true, false, false] rfl rfl (one_of HT_.out (by kernel_rfl)) (by decide) (fun K hK => ?_)
    refine goes_ Tryz.func111 (by kernel_rfl) rfl #[.int .u64 a2] (by rfl) rfl rfl (by (try simp only [List.map_toArray, List.map_cons, List.map_nil]); first | done | rfl | (simp only [List.length_drop, List.length_take]; rfl)) ?_
    with_reducible refine (bits_Len64.calls a2 t127 _ A13.out).mono ?_
    rintro e w' ⟨rfl, ⟨nd, rfl⟩⟩
    refine ⟨_, rfl, ?_⟩
    refine hK.out _ _ ⟨(blk_cell BK125.out 0).trans rfl, (blk_cell BK125.out 1).trans rfl⟩ (fun hHeld => ?_)
    clear hK K
    refine norm_ (a' := ?_) ?_ ?_
    rotate_left
    · show Act.put _ (some 23) _ = _
      simp only [Act.put, List.setIfInBounds_toArray, List.set_cons_zero, List.set_cons_succ, i64_w, i32_w]
      rfl
    refine pure_ (i := 3) (N := some 25) (v := ?_) (a' := ?_) #[true, true, true, true, false, true, true, false, true, false, false, true, false, false] rfl rfl (any_of HT_.out (by kernel_rfl)) (fun _ _ _ h => h) (Or.inl ⟨by rfl, ?_⟩) ?_ ?_
    rotate_left
    · intro w'
      go_simp
      with_reducible rfl
    rotate_left
    · simp only [Act.put, List.setIfInBounds_toArray, List.set_cons_zero, List.set_cons_succ, i64_w, i32_w]
      rfl
    refine pure_ (i := 4) (N := some 26) (v := ?_) (a' := ?_) #[true, true, true, true, true, true, true, false, true, false, false, true, false, false] rfl rfl (any_of HT_.out (by kernel_rfl)) (fun _ _ _ h => h) (Or.inl ⟨by rfl, ?_⟩) ?_ ?_
    rotate_left
    · intro w'
      go_simp
      with_reducible rfl
    rotate_left
    · simp only [Act.put, List.setIfInBounds_toArray, List.set_cons_zero, List.set_cons_succ, i64_w, i32_w]
      rfl
    refine pure_ (i := 7) (N := some 29) (v := ?_) (a' := ?_) #[true, true, true, true, true, true, true, true, true, false, false, true, false, false] rfl rfl (any_of HT_.out (by kernel_rfl)) (fun _ _ _ h => h) (Or.inl ⟨by rfl, ?_⟩) ?_ ?_
    rotate_left
    · intro w'
      go_simp
      with_reducible rfl
    rotate_left
    · simp only [Act.put, List.setIfInBounds_toArray, List.set_cons_zero, List.set_cons_succ, i64_w, i32_w]
      rfl
    refine one_ (i := 9) (N := some 31) #[true, true, true, true, true, true, true, true, true, true, false, true, false, false] rfl rfl (one_of HT_.out (by kernel_rfl)) (by decide) (fun K hK => ?_)
    refine goes_ Tryz.func112 (by kernel_rfl) rfl #[.agg #[.int .i64 a0_0, .int .i64 a0_1]] (by rfl) rfl rfl (by (try simp only [List.map_toArray, List.map_cons, List.map_nil]); first | done | rfl | (simp only [List.length_drop, List.length_take]; rfl)) ?_
    with_reducible refine (floats_format_least.calls a0_0 a0_1 t128 _ A14.out).mono ?_
    rintro e w19 ⟨rfl, hb⟩
    refine ⟨_, rfl, ?_⟩
    have n0_ := Aside0.mk (blk_below (g := gb125) (o := .cells #[.int .i64 a0_0, .int .i64 a0_1] 95 (0, 0)) (by (with_reducible repeat (first | refine blk_drewN ?_ _ | refine blk_drew ?_ | refine blk_alloc ?_ _)); exact BK125.out) hb)
    have n1_ := Aside0.mk (below_step (by repeat (first | (with_reducible first | exact HB.out | apply below_alloc | apply pw_below_drewN | apply below_drew1 | refine below_set ?_ GE125.out) | exact HB.out)) hb)
    clear BK125
    clear HB
    have BK125 := n0_
    have HB := n1_
    clear n0_ n1_
    (try clear hb)
    (try clear hb2)
    (try clear hk)
    (try clear hi)
    refine hK.out _ _ ⟨(blk_cell BK125.out 0).trans rfl, (blk_cell BK125.out 1).trans rfl⟩ (fun hHeld => ?_)
    clear hK K
    refine norm_ (a' := ?_) ?_ ?_
    rotate_left
    · show Act.put _ (some 31) _ = _
      simp only [Act.put, List.setIfInBounds_toArray, List.set_cons_zero, List.set_cons_succ, i64_w, i32_w]
      rfl
    refine pure_ (i := 10) (N := some 32) (v := ?_) (a' := ?_) #[true, true, true, true, true, true, true, true, true, true, true, true, false, false] rfl rfl (any_of HT_.out (by kernel_rfl)) (fun _ _ _ h => h) (Or.inl ⟨by rfl, ?_⟩) ?_ ?_
    rotate_left
    · intro w'
      go_simp
      with_reducible rfl
    rotate_left
    · simp only [Act.put, List.setIfInBounds_toArray, List.set_cons_zero, List.set_cons_succ, i64_w, i32_w]
      rfl
    refine pure_ (i := 12) (N := some 34) (v := ?_) (a' := ?_) #[true, true, true, true, true, true, true, true, true, true, true, true, true, false] rfl rfl (any_of HT_.out (by kernel_rfl)) (fun _ _ _ h => h) (Or.inl ⟨by rfl, ?_⟩) ?_ ?_
    rotate_left
    · intro w'
      go_simp
      with_reducible rfl
    rotate_left
    · simp only [Act.put, List.setIfInBounds_toArray, List.set_cons_zero, List.set_cons_succ, i64_w, i32_w]
      rfl
    refine pure_ (i := 13) (N := some 11) (v := ?_) (a' := ?_) #[true, true, true, true, true, true, true, true, true, true, true, true, true, true] rfl rfl (any_of HT_.out (by kernel_rfl)) (fun _ _ _ h => h) (Or.inl ⟨by rfl, ?_⟩) ?_ ?_
    rotate_left
    · intro w'
      go_simp
      with_reducible rfl
    rotate_left
    · simp only [Act.put, List.setIfInBounds_toArray, List.set_cons_zero, List.set_cons_succ, i64_w, i32_w]
      rfl
    refine done_ (done_of HT_.out (by kernel_rfl)) ?_
    go_upto_block 0 with (fail)
    go_cut [2] (fun v2 wc => ∃ (kq : Nat) (x2_15 : Int), v2 = .int .u64 x2_15 ∧ Aside0 (floats_format_round.j0 kq a1 x2_15 ji12 (wrap64 ((ji15) - (ji12))) a0_0 a0_1 = some r) ∧ Aside0 (kq ≤ k) ∧ Aside0 (wc.heap[gb125]? = some (.cells #[.int .i64 a0_0, .int .i64 a0_1] 95 (0, 0))) ∧ Aside0 (Below w.heap.size w wc))
    case first =>
      have H := HC16.out
      clear HC16
      by_cases c20 : (wrap64 ((ji15) - (ji12))) ≤ 0
      · rw [if_pos c20] at H
        have c20b0 : decide ((wrap64 ((ji15) - (ji12))) ≤ 0) = true := decide_eq_true c20
        clear c20
        (first | rw [c20b0] | (simp only [i64_w, i32_w]; rw [c20b0]) | skip)
        obtain ⟨ji21, hji21⟩ : ∃ j_ : Int, (IntKind.u64.wrap (wrap64 (-(wrap64 ((ji15) - (ji12)))))) = j_ := ⟨_, rfl⟩
        replace H : (if 0 ≤ (ji21) then (floats_format_round.j0 k a1 (shl .u64 a2 (ji21)) ji12 (wrap64 ((ji15) - (ji12))) a0_0 a0_1) else (none)) = some r := by first | (rw [hji21] at H; exact H) | (simp only [hji21] at H ⊢; exact H)
        by_cases c22 : 0 ≤ (ji21)
        · rw [if_pos c22] at H
          have c22b0 := eq_true c22
          have c22b1 : decide (0 ≤ (ji21)) = true := decide_eq_true c22
          clear c22
          obtain ⟨ji23, hji23⟩ : ∃ j_ : Int, (shl .u64 a2 (ji21)) = j_ := ⟨_, rfl⟩
          replace H : (floats_format_round.j0 k a1 ji23 ji12 (wrap64 ((ji15) - (ji12))) a0_0 a0_1) = some r := by first | (rw [hji23] at H; exact H) | (simp only [hji23] at H ⊢; exact H)
          have hji23_ : (IntKind.u64.wrap (a2 * 2 ^ min (ji21).toNat 64)) = ji23 := hji23
          have hji23z : (ji21) ≤ 64 → (IntKind.u64.wrap (a2 * 2 ^ (ji21).toNat)) = ji23 := shl_small hji23
          have H' := Aside0.mk H
          clear H
          go_wp2
          go_meet
          case rel => exact ⟨_, (ji23), (by first | rfl | (simp; done) | (simp only [← hji23] <;> (first | rfl | simp)) | (simp [*]; done)), H', ⟨by first | omega | exact Nat.le_refl _⟩, ⟨by (with_reducible repeat (first | refine blk_drewN ?_ _ | refine blk_drew ?_ | refine blk_alloc ?_ _)); exact BK125.out⟩, ⟨by repeat (first | (with_reducible first | exact HB.out | apply below_alloc | apply pw_below_drewN | apply below_drew1 | refine below_set ?_ GE125.out) | exact HB.out)⟩⟩
        · rw [if_neg c22] at H
          exact absurd H (by simp)
      · rw [if_neg c20] at H
        have c20b0 : decide ((wrap64 ((ji15) - (ji12))) ≤ 0) = false := decide_eq_false c20
        clear c20
        (first | rw [c20b0] | (simp only [i64_w, i32_w]; rw [c20b0]) | skip)
        by_cases c24 : (wrap64 ((ji15) - (ji12))) > 64
        · rw [if_pos c24] at H
          have c24b0 : decide (64 < (wrap64 ((ji15) - (ji12)))) = true := decide_eq_true c24
          clear c24
          have H' := Aside0.mk H
          clear H
          go_wp2
          go_meet
          case rel => exact ⟨_, (0), (by first | rfl | (simp; done) | (simp [*]; done)), H', ⟨by first | omega | exact Nat.le_refl _⟩, ⟨by (with_reducible repeat (first | refine blk_drewN ?_ _ | refine blk_drew ?_ | refine blk_alloc ?_ _)); exact BK125.out⟩, ⟨by repeat (first | (with_reducible first | exact HB.out | apply below_alloc | apply pw_below_drewN | apply below_drew1 | refine below_set ?_ GE125.out) | exact HB.out)⟩⟩
        · rw [if_neg c24] at H
          have c24b0 : decide (64 < (wrap64 ((ji15) - (ji12)))) = false := decide_eq_false c24
          clear c24
          obtain ⟨ji25, hji25⟩ : ∃ j_ : Int, (IntKind.u64.wrap (wrap64 (64 - (wrap64 ((ji15) - (ji12)))))) = j_ := ⟨_, rfl⟩
          replace H : (if 0 ≤ (ji25) then (if 0 ≤ (IntKind.u64.wrap (wrap64 ((wrap64 ((ji15) - (ji12))) - 1))) then (if (shl .u64 a2 (ji25)) > 9223372036854775808 then (floats_format_round.j0 k a1 (IntKind.u64.wrap ((shr .u64 (a2 / 2) (IntKind.u64.wrap (wrap64 ((wrap64 ((ji15) - (ji12))) - 1)))) + 1)) ji12 (wrap64 ((ji15) - (ji12))) a0_0 a0_1) else (if (shl .u64 a2 (ji25)) = 9223372036854775808 then (if a4 = true then (floats_format_round.j0 k a1 (IntKind.u64.wrap ((shr .u64 (a2 / 2) (IntKind.u64.wrap (wrap64 ((wrap64 ((ji15) - (ji12))) - 1)))) + 1)) ji12 (wrap64 ((ji15) - (ji12))) a0_0 a0_1) else (if (Go.bits .and .u64 (shr .u64 (a2 / 2) (IntKind.u64.wrap (wrap64 ((wrap64 ((ji15) - (ji12))) - 1)))) 1) = 1 then (floats_format_round.j0 k a1 (IntKind.u64.wrap ((shr .u64 (a2 / 2) (IntKind.u64.wrap (wrap64 ((wrap64 ((ji15) - (ji12))) - 1)))) + 1)) ji12 (wrap64 ((ji15) - (ji12))) a0_0 a0_1) else (floats_format_round.j0 k a1 (shr .u64 (a2 / 2) (IntKind.u64.wrap (wrap64 ((wrap64 ((ji15) - (ji12))) - 1)))) ji12 (wrap64 ((ji15) - (ji12))) a0_0 a0_1))) else (floats_format_round.j0 k a1 (shr .u64 (a2 / 2) (IntKind.u64.wrap (wrap64 ((wrap64 ((ji15) - (ji12))) - 1)))) ji12 (wrap64 ((ji15) - (ji12))) a0_0 a0_1))) else (none)) else (none)) = some r := by first | (rw [hji25] at H; exact H) | (simp only [hji25] at H ⊢; exact H)
          by_cases c26 : 0 ≤ (ji25)
          · rw [if_pos c26] at H
            have c26b0 := eq_true c26
            have c26b1 : decide (0 ≤ (ji25)) = true := decide_eq_true c26
            clear c26
            obtain ⟨ji27, hji27⟩ : ∃ j_ : Int, (shl .u64 a2 (ji25)) = j_ := ⟨_, rfl⟩
            replace H : (if 0 ≤ (IntKind.u64.wrap (wrap64 ((wrap64 ((ji15) - (ji12))) - 1))) then (if (ji27) > 9223372036854775808 then (floats_format_round.j0 k a1 (IntKind.u64.wrap ((shr .u64 (a2 / 2) (IntKind.u64.wrap (wrap64 ((wrap64 ((ji15) - (ji12))) - 1)))) + 1)) ji12 (wrap64 ((ji15) - (ji12))) a0_0 a0_1) else (if (ji27) = 9223372036854775808 then (if a4 = true then (floats_format_round.j0 k a1 (IntKind.u64.wrap ((shr .u64 (a2 / 2) (IntKind.u64.wrap (wrap64 ((wrap64 ((ji15) - (ji12))) - 1)))) + 1)) ji12 (wrap64 ((ji15) - (ji12))) a0_0 a0_1) else (if (Go.bits .and .u64 (shr .u64 (a2 / 2) (IntKind.u64.wrap (wrap64 ((wrap64 ((ji15) - (ji12))) - 1)))) 1) = 1 then (floats_format_round.j0 k a1 (IntKind.u64.wrap ((shr .u64 (a2 / 2) (IntKind.u64.wrap (wrap64 ((wrap64 ((ji15) - (ji12))) - 1)))) + 1)) ji12 (wrap64 ((ji15) - (ji12))) a0_0 a0_1) else (floats_format_round.j0 k a1 (shr .u64 (a2 / 2) (IntKind.u64.wrap (wrap64 ((wrap64 ((ji15) - (ji12))) - 1)))) ji12 (wrap64 ((ji15) - (ji12))) a0_0 a0_1))) else (floats_format_round.j0 k a1 (shr .u64 (a2 / 2) (IntKind.u64.wrap (wrap64 ((wrap64 ((ji15) - (ji12))) - 1)))) ji12 (wrap64 ((ji15) - (ji12))) a0_0 a0_1))) else (none)) = some r := by first | (rw [hji27] at H; exact H) | (simp only [hji27] at H ⊢; exact H)
            have hji27_ : (IntKind.u64.wrap (a2 * 2 ^ min (ji25).toNat 64)) = ji27 := hji27
            have hji27z : (ji25) ≤ 64 → (IntKind.u64.wrap (a2 * 2 ^ (ji25).toNat)) = ji27 := shl_small hji27
            obtain ⟨ji28, hji28⟩ : ∃ j_ : Int, (IntKind.u64.wrap (wrap64 ((wrap64 ((ji15) - (ji12))) - 1))) = j_ := ⟨_, rfl⟩
            replace H : (if 0 ≤ (ji28) then (if (ji27) > 9223372036854775808 then (floats_format_round.j0 k a1 (IntKind.u64.wrap ((shr .u64 (a2 / 2) (ji28)) + 1)) ji12 (wrap64 ((ji15) - (ji12))) a0_0 a0_1) else (if (ji27) = 9223372036854775808 then (if a4 = true then (floats_format_round.j0 k a1 (IntKind.u64.wrap ((shr .u64 (a2 / 2) (ji28)) + 1)) ji12 (wrap64 ((ji15) - (ji12))) a0_0 a0_1) else (if (Go.bits .and .u64 (shr .u64 (a2 / 2) (ji28)) 1) = 1 then (floats_format_round.j0 k a1 (IntKind.u64.wrap ((shr .u64 (a2 / 2) (ji28)) + 1)) ji12 (wrap64 ((ji15) - (ji12))) a0_0 a0_1) else (floats_format_round.j0 k a1 (shr .u64 (a2 / 2) (ji28)) ji12 (wrap64 ((ji15) - (ji12))) a0_0 a0_1))) else (floats_format_round.j0 k a1 (shr .u64 (a2 / 2) (ji28)) ji12 (wrap64 ((ji15) - (ji12))) a0_0 a0_1))) else (none)) = some r := by first | (rw [hji28] at H; exact H) | (simp only [hji28] at H ⊢; exact H)
            by_cases c29 : 0 ≤ (ji28)
            · rw [if_pos c29] at H
              have c29b0 := eq_true c29
              have c29b1 : decide (0 ≤ (ji28)) = true := decide_eq_true c29
              clear c29
              obtain ⟨ji30, hji30⟩ : ∃ j_ : Int, (shr .u64 (a2 / 2) (ji28)) = j_ := ⟨_, rfl⟩
              replace H : (if (ji27) > 9223372036854775808 then (floats_format_round.j0 k a1 (IntKind.u64.wrap ((ji30) + 1)) ji12 (wrap64 ((ji15) - (ji12))) a0_0 a0_1) else (if (ji27) = 9223372036854775808 then (if a4 = true then (floats_format_round.j0 k a1 (IntKind.u64.wrap ((ji30) + 1)) ji12 (wrap64 ((ji15) - (ji12))) a0_0 a0_1) else (if (Go.bits .and .u64 (ji30) 1) = 1 then (floats_format_round.j0 k a1 (IntKind.u64.wrap ((ji30) + 1)) ji12 (wrap64 ((ji15) - (ji12))) a0_0 a0_1) else (floats_format_round.j0 k a1 ji30 ji12 (wrap64 ((ji15) - (ji12))) a0_0 a0_1))) else (floats_format_round.j0 k a1 ji30 ji12 (wrap64 ((ji15) - (ji12))) a0_0 a0_1))) = some r := by first | (rw [hji30] at H; exact H) | (simp only [hji30] at H ⊢; exact H)
              have hji30_ : ((a2 / 2) / 2 ^ min (ji28).toNat 64) = ji30 := hji30
              have hji30z : (ji28) ≤ 64 → ((a2 / 2) / 2 ^ (ji28).toNat) = ji30 := shr_small hji30
              by_cases c31 : (ji27) > 9223372036854775808
              · rw [if_pos c31] at H
                have c31b0 : decide (9223372036854775808 < (ji27)) = true := decide_eq_true c31
                clear c31
                have H' := Aside0.mk H
                clear H
                go_wp2
                go_meet
                case rel => exact ⟨_, (IntKind.u64.wrap ((ji30) + 1)), (by first | rfl | (simp; done) | (simp only [← hji30] <;> (first | rfl | simp)) | (simp [*]; done)), H', ⟨by first | omega | exact Nat.le_refl _⟩, ⟨by (with_reducible repeat (first | refine blk_drewN ?_ _ | refine blk_drew ?_ | refine blk_alloc ?_ _)); exact BK125.out⟩, ⟨by repeat (first | (with_reducible first | exact HB.out | apply below_alloc | apply pw_below_drewN | apply below_drew1 | refine below_set ?_ GE125.out) | exact HB.out)⟩⟩
              · rw [if_neg c31] at H
                have c31b0 : decide (9223372036854775808 < (ji27)) = false := decide_eq_false c31
                clear c31
                by_cases c32 : (ji27) = 9223372036854775808
                · rw [if_pos c32] at H
                  have c32b0 : ((ji27) == 9223372036854775808) = true := beq_iff_eq.mpr c32
                  have c32b1 : ((ji27) != 9223372036854775808) = false := bne_eq_false_iff_eq.mpr c32
                  clear c32
                  by_cases c33 : a4 = true
                  · subst c33
                    have H1 : (floats_format_round.j0 k a1 (IntKind.u64.wrap ((ji30) + 1)) ji12 (wrap64 ((ji15) - (ji12))) a0_0 a0_1) = some r := by rw [if_pos rfl] at H; exact H
                    clear H
                    have H := H1
                    clear H1
                    have H' := Aside0.mk H
                    clear H
                    go_wp2
                    go_meet
                    case rel => exact ⟨_, (IntKind.u64.wrap ((ji30) + 1)), (by first | rfl | (simp; done) | (simp only [← hji30] <;> (first | rfl | simp)) | (simp [*]; done)), H', ⟨by first | omega | exact Nat.le_refl _⟩, ⟨by (with_reducible repeat (first | refine blk_drewN ?_ _ | refine blk_drew ?_ | refine blk_alloc ?_ _)); exact BK125.out⟩, ⟨by repeat (first | (with_reducible first | exact HB.out | apply below_alloc | apply pw_below_drewN | apply below_drew1 | refine below_set ?_ GE125.out) | exact HB.out)⟩⟩
                  · replace c33 := Bool.eq_false_iff.mpr c33
                    subst c33
                    have H1 : (if (Go.bits .and .u64 (ji30) 1) = 1 then (floats_format_round.j0 k a1 (IntKind.u64.wrap ((ji30) + 1)) ji12 (wrap64 ((ji15) - (ji12))) a0_0 a0_1) else (floats_format_round.j0 k a1 ji30 ji12 (wrap64 ((ji15) - (ji12))) a0_0 a0_1)) = some r := by rw [if_neg (show ¬ (false = true) by decide)] at H; exact H
                    clear H
                    have H := H1
                    clear H1
                    by_cases c34 : (Go.bits .and .u64 (ji30) 1) = 1
                    · rw [if_pos c34] at H
                      have c34b0 : ((Go.bits .and .u64 (ji30) 1) == 1) = true := beq_iff_eq.mpr c34
                      have c34b1 : ((Go.bits .and .u64 (ji30) 1) != 1) = false := bne_eq_false_iff_eq.mpr c34
                      clear c34
                      have H' := Aside0.mk H
                      clear H
                      go_wp2
                      go_meet
                      case rel => exact ⟨_, (IntKind.u64.wrap ((ji30) + 1)), (by first | rfl | (simp; done) | (simp only [← hji30] <;> (first | rfl | simp)) | (simp [*]; done)), H', ⟨by first | omega | exact Nat.le_refl _⟩, ⟨by (with_reducible repeat (first | refine blk_drewN ?_ _ | refine blk_drew ?_ | refine blk_alloc ?_ _)); exact BK125.out⟩, ⟨by repeat (first | (with_reducible first | exact HB.out | apply below_alloc | apply pw_below_drewN | apply below_drew1 | refine below_set ?_ GE125.out) | exact HB.out)⟩⟩
                    · rw [if_neg c34] at H
                      have c34b0 : ((Go.bits .and .u64 (ji30) 1) == 1) = false := beq_eq_false_iff_ne.mpr c34
                      have c34b1 : ((Go.bits .and .u64 (ji30) 1) != 1) = true := bne_iff_ne.mpr c34
                      have H' := Aside0.mk H
                      clear H
                      go_wp2
                      go_meet
                      case rel => exact ⟨_, (ji30), (by first | rfl | (simp; done) | (simp only [← hji30] <;> (first | rfl | simp)) | (simp [*]; done)), H', ⟨by first | omega | exact Nat.le_refl _⟩, ⟨by (with_reducible repeat (first | refine blk_drewN ?_ _ | refine blk_drew ?_ | refine blk_alloc ?_ _)); exact BK125.out⟩, ⟨by repeat (first | (with_reducible first | exact HB.out | apply below_alloc | apply pw_below_drewN | apply below_drew1 | refine below_set ?_ GE125.out) | exact HB.out)⟩⟩
                · rw [if_neg c32] at H
                  have c32b0 : ((ji27) == 9223372036854775808) = false := beq_eq_false_iff_ne.mpr c32
                  have c32b1 : ((ji27) != 9223372036854775808) = true := bne_iff_ne.mpr c32
                  have H' := Aside0.mk H
                  clear H
                  go_wp2
                  go_meet
                  case rel => exact ⟨_, (ji30), (by first | rfl | (simp; done) | (simp only [← hji30] <;> (first | rfl | simp)) | (simp [*]; done)), H', ⟨by first | omega | exact Nat.le_refl _⟩, ⟨by (with_reducible repeat (first | refine blk_drewN ?_ _ | refine blk_drew ?_ | refine blk_alloc ?_ _)); exact BK125.out⟩, ⟨by repeat (first | (with_reducible first | exact HB.out | apply below_alloc | apply pw_below_drewN | apply below_drew1 | refine below_set ?_ GE125.out) | exact HB.out)⟩⟩
            · rw [if_neg c29] at H
              exact absurd H (by simp)
          · rw [if_neg c26] at H
            exact absurd H (by simp)
    case rest =>
      clear HC16
      try clear c1
      try clear c2
      try clear p2
      try clear c3
      try clear c6
      try clear c6b0
      try clear c6b1
      try clear p6
      try clear c7
      try clear c11
      try clear c20
      try clear c20b0
      try clear c22
      try clear c22b0
      try clear c22b1
      try clear c24
      try clear c24b0
      try clear c26
      try clear c26b0
      try clear c26b1
      try clear c29
      try clear c29b0
      try clear c29b1
      try clear c31
      try clear c31b0
      try clear c32
      try clear c32b0
      try clear c32b1
      try clear c33
      try clear c34
      try clear c34b0
      try clear c34b1
      try clear hcz9_0
      try clear hcz9_1
      try clear hfz9_0
      try clear hfz9_1
      obtain ⟨kq, x2_15, rfl, HA, HJ15, BK125, HB⟩ := hcut
      cases kq with
      | zero => exact absurd HA.out (by simp [floats_format_round.j0])
      | succ kj15 =>
        have H := HA.out
        clear HA
        simp only [floats_format_round.j0] at H
        obtain ⟨ji35, hji35⟩ : ∃ j_ : Int, (IntKind.u64.wrap (a0_0)) = j_ := ⟨_, rfl⟩
        replace H : (if 0 ≤ (ji35) then (if x2_15 ≥ (shl .u64 1 (ji35)) then ((floats_format_least.f a0_0 a0_1).bind fun t129 => (floats_format_round.j1 kj15 a1 x2_15 (wrap64 ((wrap64 (ji12 + (wrap64 ((ji15) - (ji12))))) - t129)) a0_0 a0_1)) else (floats_format_round.j1 kj15 a1 x2_15 0 a0_0 a0_1)) else (none)) = some r := by first | (rw [hji35] at H; exact H) | (simp only [hji35] at H ⊢; exact H)
        by_cases c36 : 0 ≤ (ji35)
        · rw [if_pos c36] at H
          have c36b0 := eq_true c36
          have c36b1 : decide (0 ≤ (ji35)) = true := decide_eq_true c36
          clear c36
          obtain ⟨ji37, hji37⟩ : ∃ j_ : Int, (shl .u64 1 (ji35)) = j_ := ⟨_, rfl⟩
          replace H : (if x2_15 ≥ (ji37) then ((floats_format_least.f a0_0 a0_1).bind fun t129 => (floats_format_round.j1 kj15 a1 x2_15 (wrap64 ((wrap64 (ji12 + (wrap64 ((ji15) - (ji12))))) - t129)) a0_0 a0_1)) else (floats_format_round.j1 kj15 a1 x2_15 0 a0_0 a0_1)) = some r := by first | (rw [hji37] at H; exact H) | (simp only [hji37] at H ⊢; exact H)
          have hji37_ : (IntKind.u64.wrap (1 * 2 ^ min (ji35).toNat 64)) = ji37 := hji37
          have hji37z : (ji35) ≤ 64 → (IntKind.u64.wrap (1 * 2 ^ (ji35).toNat)) = ji37 := shl_small hji37
          have hji37u : (IntKind.u64.wrap (2 ^ min (ji35).toNat 64)) = ji37 := by have h_ := hji37_; rw [Int.one_mul] at h_; exact h_
          have hji37v : (ji35) ≤ 64 → (IntKind.u64.wrap (2 ^ (ji35).toNat)) = ji37 := fun hle_ => by have h_ := hji37z hle_; rw [Int.one_mul] at h_; exact h_
          have HC38 := Aside0.mk H
          clear H
          have hcz39_0 : wc.cell? ⟨gb125, 0, none⟩ = some (.int .i64 a0_0) := (blk_cell BK125.out 0).trans rfl
          have hcz39_1 : wc.cell? ⟨gb125, 1, none⟩ = some (.int .i64 a0_1) := (blk_cell BK125.out 1).trans rfl
          have hfz39_0 := blk_frozen BK125.out 0
          have hfz39_1 := blk_frozen BK125.out 1
          go_upto_if 78 with (fail)
          go_cut [13] (fun v13 wc => ∃ (kq : Nat) (x13_37 : Int), v13 = .int .i64 x13_37 ∧ Aside0 (floats_format_round.j1 kq a1 x2_15 x13_37 a0_0 a0_1 = some r) ∧ Aside0 (kq ≤ kj15) ∧ Aside0 (wc.heap[gb125]? = some (.cells #[.int .i64 a0_0, .int .i64 a0_1] 95 (0, 0))) ∧ Aside0 (Below w.heap.size w wc))
          case first =>
            have H := HC38.out
            clear HC38
            by_cases c40 : x2_15 ≥ (ji37)
            · rw [if_pos c40] at H
              have c40b0 : decide ((ji37) ≤ x2_15) = true := decide_eq_true c40
              clear c40
              (first | rw [c40b0] | (simp only [i64_w, i32_w]; rw [c40b0]) | skip)
              replace H := Option.bind_eq_some_iff.mp H
              obtain ⟨t129, A410, H⟩ := H
              replace H : (floats_format_round.j1 kj15 a1 x2_15 (wrap64 ((wrap64 (ji12 + (wrap64 ((ji15) - (ji12))))) - t129)) a0_0 a0_1) = some r := H
              have A41 := Aside0.mk A410
              clear A410
              have H' := Aside0.mk H
              clear H
              have hcz42_0 : wc.cell? ⟨gb125, 0, none⟩ = some (.int .i64 a0_0) := (blk_cell BK125.out 0).trans rfl
              have hcz42_1 : wc.cell? ⟨gb125, 1, none⟩ = some (.int .i64 a0_1) := (blk_cell BK125.out 1).trans rfl
              have hfz42_0 := blk_frozen BK125.out 0
              have hfz42_1 := blk_frozen BK125.out 1
              go_wp2_with (first | ((with_reducible refine gate_callee (f := 112) rfl ?_); refine goesL_ (some 83) rfl rfl Tryz.func112 (by kernel_rfl) rfl #[.agg #[.int .i64 a0_0, .int .i64 a0_1]] rfl (by (try simp only [List.map_toArray, List.map_cons, List.map_nil]); first | done | rfl | (simp only [List.length_drop, List.length_take]; rfl)) ?_; (with_reducible refine (floats_format_least.calls a0_0 a0_1 t129 _ A41.out).mono ?_); rintro e w43 ⟨rfl, hb⟩; refine ⟨_, rfl, ?_⟩; have n0_ := Aside0.mk (blk_below (g := gb125) (o := .cells #[.int .i64 a0_0, .int .i64 a0_1] 95 (0, 0)) (by (with_reducible repeat (first | refine blk_drewN ?_ _ | refine blk_drew ?_ | refine blk_alloc ?_ _)); exact BK125.out) hb); have n1_ := Aside0.mk (below_step (by repeat (first | (with_reducible first | exact HB.out | apply below_alloc | apply pw_below_drewN | apply below_drew1 | refine below_set ?_ GE125.out) | exact HB.out)) hb); clear BK125; clear HB; have BK125 := n0_; have HB := n1_; clear n0_ n1_; (try clear hb); (try clear hb2); (try clear hk); (try clear hi)))
              go_meet
              case rel => exact ⟨_, (wrap64 ((wrap64 (ji12 + (wrap64 ((ji15) - (ji12))))) - t129)), (by first | rfl | (simp; done) | (simp only [← hji12, ← hji15] <;> (first | rfl | simp)) | (simp [*]; done)), H', ⟨by have := HJ15.out; first | omega | exact Nat.le_refl _⟩, ⟨by (with_reducible repeat (first | refine blk_drewN ?_ _ | refine blk_drew ?_ | refine blk_alloc ?_ _)); exact BK125.out⟩, ⟨by repeat (first | (with_reducible first | exact HB.out | apply below_alloc | apply pw_below_drewN | apply below_drew1 | refine below_set ?_ GE125.out) | exact HB.out)⟩⟩
            · rw [if_neg c40] at H
              have c40b0 : decide ((ji37) ≤ x2_15) = false := decide_eq_false c40
              clear c40
              (first | rw [c40b0] | (simp only [i64_w, i32_w]; rw [c40b0]) | skip)
              have H' := Aside0.mk H
              clear H
              go_wp2
              go_meet
              case rel => exact ⟨_, (0), (by first | rfl | (simp; done) | (simp [*]; done)), H', ⟨by have := HJ15.out; first | omega | exact Nat.le_refl _⟩, ⟨by (with_reducible repeat (first | refine blk_drewN ?_ _ | refine blk_drew ?_ | refine blk_alloc ?_ _)); exact BK125.out⟩, ⟨by repeat (first | (with_reducible first | exact HB.out | apply below_alloc | apply pw_below_drewN | apply below_drew1 | refine below_set ?_ GE125.out) | exact HB.out)⟩⟩
          case rest =>
            clear HC38
            try clear c1
            try clear c2
            try clear p2
            try clear c3
            try clear c4
            try clear c6
            try clear c6b0
            try clear c6b1
            try clear p6
            try clear c7
            try clear c11
            try clear c20
            try clear c20b0
            try clear c22
            try clear c22b0
            try clear c22b1
            try clear c24
            try clear c24b0
            try clear c26
            try clear c26b0
            try clear c26b1
            try clear c29
            try clear c29b0
            try clear c29b1
            try clear c31
            try clear c31b0
            try clear c32
            try clear c32b0
            try clear c32b1
            try clear c33
            try clear c34
            try clear c34b0
            try clear c34b1
            try clear c36
            try clear c36b0
            try clear c36b1
            try clear c40
            try clear c40b0
            try clear hcz39_0
            try clear hcz39_1
            try clear hcz42_0
            try clear hcz42_1
            try clear hcz9_0
            try clear hcz9_1
            try clear hfz39_0
            try clear hfz39_1
            try clear hfz42_0
            try clear hfz42_1
            try clear hfz9_0
            try clear hfz9_1
            try clear p2
            try clear p6
            obtain ⟨kq, x13_37, rfl, HA, HJ37, BK125, HB⟩ := hcut
            cases kq with
            | zero => exact absurd HA.out (by simp [floats_format_round.j1])
            | succ kj37 =>
              have H := HA.out
              clear HA
              simp only [floats_format_round.j1] at H
              obtain ⟨ji44, hji44⟩ : ∃ j_ : Int, (IntKind.u64.wrap (a0_1)) = j_ := ⟨_, rfl⟩
              replace H : (if 0 ≤ (ji44) then (if x13_37 ≥ (shl .i64 1 (ji44)) then ((floats_format_infinity.f a0_0 a0_1).bind fun t130 => ((floats_format_signed.f a0_0 a0_1 a1 t130).bind fun t131 => (some t131))) else (if 0 ≤ (IntKind.u64.wrap (a0_0)) then ((floats_format_infinity.f a0_0 a0_1).bind fun t132 => ((floats_format_signed.f a0_0 a0_1 a1 (mn (IntKind.u64.wrap ((shl .u64 (IntKind.u64.wrap (x13_37)) (IntKind.u64.wrap (a0_0))) + x2_15)) t132)).bind fun t133 => (some t133))) else (none))) else (none)) = some r := by first | (rw [hji44] at H; exact H) | (simp only [hji44] at H ⊢; exact H)
              by_cases c45 : 0 ≤ (ji44)
              · rw [if_pos c45] at H
                have c45b0 := eq_true c45
                have c45b1 : decide (0 ≤ (ji44)) = true := decide_eq_true c45
                clear c45
                obtain ⟨ji46, hji46⟩ : ∃ j_ : Int, (shl .i64 1 (ji44)) = j_ := ⟨_, rfl⟩
                replace H : (if x13_37 ≥ (ji46) then ((floats_format_infinity.f a0_0 a0_1).bind fun t130 => ((floats_format_signed.f a0_0 a0_1 a1 t130).bind fun t131 => (some t131))) else (if 0 ≤ (IntKind.u64.wrap (a0_0)) then ((floats_format_infinity.f a0_0 a0_1).bind fun t132 => ((floats_format_signed.f a0_0 a0_1 a1 (mn (IntKind.u64.wrap ((shl .u64 (IntKind.u64.wrap (x13_37)) (IntKind.u64.wrap (a0_0))) + x2_15)) t132)).bind fun t133 => (some t133))) else (none))) = some r := by first | (rw [hji46] at H; exact H) | (simp only [hji46] at H ⊢; exact H)
                have hji46_ : (IntKind.i64.wrap (1 * 2 ^ min (ji44).toNat 64)) = ji46 := hji46
                have hji46z : (ji44) ≤ 64 → (IntKind.i64.wrap (1 * 2 ^ (ji44).toNat)) = ji46 := shl_small hji46
                have hji46u : (IntKind.i64.wrap (2 ^ min (ji44).toNat 64)) = ji46 := by have h_ := hji46_; rw [Int.one_mul] at h_; exact h_
                have hji46v : (ji44) ≤ 64 → (IntKind.i64.wrap (2 ^ (ji44).toNat)) = ji46 := fun hle_ => by have h_ := hji46z hle_; rw [Int.one_mul] at h_; exact h_
                have hji46y : (wrap64 (1 * 2 ^ min (ji44).toNat 64)) = ji46 := (i64_w _).symm.trans hji46_
                have hji46x : (ji44) ≤ 64 → (wrap64 (1 * 2 ^ (ji44).toNat)) = ji46 := fun h_ => (i64_w _).symm.trans (hji46z h_)
                by_cases c47 : x13_37 ≥ (ji46)
                · rw [if_pos c47] at H
                  have c47b0 : decide ((ji46) ≤ x13_37) = true := decide_eq_true c47
                  clear c47
                  replace H := Option.bind_eq_some_iff.mp H
                  obtain ⟨t130, A480, H⟩ := H
                  replace H : ((floats_format_signed.f a0_0 a0_1 a1 t130).bind fun t131 => (some t131)) = some r := H
                  have A48 := Aside0.mk A480
                  clear A480
                  replace H := Option.bind_eq_some_iff.mp H
                  obtain ⟨t131, A490, H⟩ := H
                  replace H : (some t131) = some r := H
                  have A49 := Aside0.mk A490
                  clear A490
                  obtain rfl := Option.some.inj H
                  have hcz50_0 : wc.cell? ⟨gb125, 0, none⟩ = some (.int .i64 a0_0) := (blk_cell BK125.out 0).trans rfl
                  have hcz50_1 : wc.cell? ⟨gb125, 1, none⟩ = some (.int .i64 a0_1) := (blk_cell BK125.out 1).trans rfl
                  have hfz50_0 := blk_frozen BK125.out 0
                  have hfz50_1 := blk_frozen BK125.out 1
                  try go_wp2
                  have n0_ := Aside0.mk (blk_drew BK125.out)
                  have n1_ := Aside0.mk (below_drew1 HB.out)
                  clear BK125
                  clear HB
                  have BK125 := n0_
                  have HB := n1_
                  clear n0_ n1_
                  refine start_ (n := 6) (S := fun w' => w'.cell? ⟨gb125, 0, none⟩ = some (.int .i64 a0_0) ∧ w'.cell? ⟨gb125, 1, none⟩ = some (.int .i64 a0_1)) (ds := []) #[false, false, false, false, false, false] (by kernel_rfl) rfl rfl ⟨(blk_cell BK125.out 0).trans rfl, (blk_cell BK125.out 1).trans rfl⟩ (fun hHeld => ?_)
                  generalize wc.drew = w51 at BK125 HB hHeld ⊢
                  refine pure_ (i := 1) (N := some 92) (v := ?_) (a' := ?_) #[false, true, false, false, false, false] rfl rfl (by kernel_rfl) (fun _ _ _ h => h) (Or.inl ⟨by rfl, ?_⟩) ?_ ?_
                  rotate_left
                  · intro w'
                    go_simp
                    with_reducible rfl
                  rotate_left
                  · simp only [Act.put, List.setIfInBounds_toArray, List.set_cons_zero, List.set_cons_succ, i64_w, i32_w]
                    rfl
                  refine take_ (i := 0) (N := some 91) (v := ?_) (a' := ?_) #[true, true, false, false, false, false] rfl rfl (by kernel_rfl) (fun _ _ _ h => h) (Or.inl ⟨by rfl, ?_⟩) hHeld ?_ ?_
                  rotate_left
                  · rintro w' ⟨s0, s1⟩
                    go_simp
                    with_reducible rfl
                  rotate_left
                  · simp only [Act.put, List.setIfInBounds_toArray, List.set_cons_zero, List.set_cons_succ, i64_w, i32_w]
                    rfl
                  refine take_ (i := 2) (N := some 93) (v := ?_) (a' := ?_) #[true, true, true, false, false, false] rfl rfl (by kernel_rfl) (fun _ _ _ h => h) (Or.inl ⟨by rfl, ?_⟩) hHeld ?_ ?_
                  rotate_left
                  · rintro w' ⟨s0, s1⟩
                    go_simp
                    with_reducible rfl
                  rotate_left
                  · simp only [Act.put, List.setIfInBounds_toArray, List.set_cons_zero, List.set_cons_succ, i64_w, i32_w]
                    rfl
                  refine one_ (i := 3) (N := some 94) #[true, true, true, true, false, false] rfl rfl (by kernel_rfl) (by decide) (fun K hK => ?_)
                  refine goes_ Tryz.func71 (by kernel_rfl) rfl #[.agg #[.int .i64 a0_0, .int .i64 a0_1]] (by rfl) rfl rfl (by (try simp only [List.map_toArray, List.map_cons, List.map_nil]); first | done | rfl | (simp only [List.length_drop, List.length_take]; rfl)) ?_
                  with_reducible refine (floats_format_infinity.calls a0_0 a0_1 t130 _ A48.out).mono ?_
                  rintro e w52 ⟨rfl, hb⟩
                  refine ⟨_, rfl, ?_⟩
                  have n0_ := Aside0.mk (blk_below (g := gb125) (o := .cells #[.int .i64 a0_0, .int .i64 a0_1] 95 (0, 0)) (by (with_reducible repeat (first | refine blk_drewN ?_ _ | refine blk_drew ?_ | refine blk_alloc ?_ _)); exact BK125.out) hb)
                  have n1_ := Aside0.mk (below_step (by repeat (first | (with_reducible first | exact HB.out | apply below_alloc | apply pw_below_drewN | apply below_drew1 | refine below_set ?_ GE125.out) | exact HB.out)) hb)
                  clear BK125
                  clear HB
                  have BK125 := n0_
                  have HB := n1_
                  clear n0_ n1_
                  (try clear hb)
                  (try clear hb2)
                  (try clear hk)
                  (try clear hi)
                  refine hK.out _ _ ⟨(blk_cell BK125.out 0).trans rfl, (blk_cell BK125.out 1).trans rfl⟩ (fun hHeld => ?_)
                  clear hK K
                  refine norm_ (a' := ?_) ?_ ?_
                  rotate_left
                  · show Act.put _ (some 94) _ = _
                    simp only [Act.put, List.setIfInBounds_toArray, List.set_cons_zero, List.set_cons_succ, i64_w, i32_w]
                    rfl
                  refine one_ (i := 4) (N := some 95) #[true, true, true, true, true, false] rfl rfl (by kernel_rfl) (by decide) (fun K hK => ?_)
                  refine goes_ Tryz.func110 (by kernel_rfl) rfl #[.agg #[.int .i64 a0_0, .int .i64 a0_1], .bool a1, .int .u64 t130] (by rfl) rfl rfl (by (try simp only [List.map_toArray, List.map_cons, List.map_nil]); first | done | rfl | (simp only [List.length_drop, List.length_take]; rfl)) ?_
                  with_reducible refine (floats_format_signed.calls a0_0 a0_1 a1 t130 t131 _ A49.out).mono ?_
                  rintro e w53 ⟨rfl, hb⟩
                  refine ⟨_, rfl, ?_⟩
                  have n0_ := Aside0.mk (blk_below (g := gb125) (o := .cells #[.int .i64 a0_0, .int .i64 a0_1] 95 (0, 0)) (by (with_reducible repeat (first | refine blk_drewN ?_ _ | refine blk_drew ?_ | refine blk_alloc ?_ _)); exact BK125.out) hb)
                  have n1_ := Aside0.mk (below_step (by repeat (first | (with_reducible first | exact HB.out | apply below_alloc | apply pw_below_drewN | apply below_drew1 | refine below_set ?_ GE125.out) | exact HB.out)) hb)
                  clear BK125
                  clear HB
                  have BK125 := n0_
                  have HB := n1_
                  clear n0_ n1_
                  (try clear hb)
                  (try clear hb2)
                  (try clear hk)
                  (try clear hi)
                  refine hK.out _ _ ⟨(blk_cell BK125.out 0).trans rfl, (blk_cell BK125.out 1).trans rfl⟩ (fun hHeld => ?_)
                  clear hK K
                  refine norm_ (a' := ?_) ?_ ?_
                  rotate_left
                  · show Act.put _ (some 95) _ = _
                    simp only [Act.put, List.setIfInBounds_toArray, List.set_cons_zero, List.set_cons_succ, i64_w, i32_w]
                    rfl
                  refine pure_ (i := 5) (N := some 10) (v := ?_) (a' := ?_) #[true, true, true, true, true, true] rfl rfl (by kernel_rfl) (fun _ _ _ h => h) (Or.inl ⟨by rfl, ?_⟩) ?_ ?_
                  rotate_left
                  · intro w'
                    go_simp
                    with_reducible rfl
                  rotate_left
                  · simp only [Act.put, List.setIfInBounds_toArray, List.set_cons_zero, List.set_cons_succ, i64_w, i32_w]
                    rfl
                  refine done_ (by kernel_rfl) ?_
                  try go_wp2
                  go_ret
                  exact ⟨by first | rfl | (simp [errW_none, errW_some] <;> rfl) | (simp only [← hji11, ← hji12, ← hji15, ← hji35, ← hji37, ← hji44, ← hji46]; first | rfl | (simp [errW_none, errW_some] <;> rfl)) | (simp [*, errW_none, errW_some] <;> rfl), by repeat (first | (with_reducible first | exact HB.out | apply below_alloc | apply pw_below_drewN | apply below_drew1 | refine below_set ?_ GE125.out) | exact HB.out)⟩
                · rw [if_neg c47] at H
                  have c47b0 : decide ((ji46) ≤ x13_37) = false := decide_eq_false c47
                  clear c47
                  obtain ⟨ji54, hji54⟩ : ∃ j_ : Int, (IntKind.u64.wrap (a0_0)) = j_ := ⟨_, rfl⟩
                  have hMEND : ji54 = ji35 := hji54.symm.trans hji35
                  subst hMEND
                  have hMENDx : (0 ≤ ji54) = True := eq_true (by rw [← hji54, IntKind.wrap_u64]; omega)
                  have hMENDy : decide (0 ≤ ji54) = true := decide_eq_true (by rw [← hji54, IntKind.wrap_u64]; omega)
                  replace H : (if 0 ≤ (ji54) then ((floats_format_infinity.f a0_0 a0_1).bind fun t132 => ((floats_format_signed.f a0_0 a0_1 a1 (mn (IntKind.u64.wrap ((shl .u64 (IntKind.u64.wrap (x13_37)) (ji54)) + x2_15)) t132)).bind fun t133 => (some t133))) else (none)) = some r := by first | (rw [hji54] at H; exact H) | (simp only [hji54] at H ⊢; exact H)
                  by_cases c55 : 0 ≤ (ji54)
                  · rw [if_pos c55] at H
                    have c55b0 := eq_true c55
                    have c55b1 : decide (0 ≤ (ji54)) = true := decide_eq_true c55
                    clear c55
                    obtain ⟨ji56, hji56⟩ : ∃ j_ : Int, (shl .u64 (IntKind.u64.wrap (x13_37)) (ji54)) = j_ := ⟨_, rfl⟩
                    replace H : ((floats_format_infinity.f a0_0 a0_1).bind fun t132 => ((floats_format_signed.f a0_0 a0_1 a1 (mn (IntKind.u64.wrap ((ji56) + x2_15)) t132)).bind fun t133 => (some t133))) = some r := by first | (rw [hji56] at H; exact H) | (simp only [hji56] at H ⊢; exact H)
                    have hji56_ : (IntKind.u64.wrap ((IntKind.u64.wrap (x13_37)) * 2 ^ min (ji54).toNat 64)) = ji56 := hji56
                    have hji56z : (ji54) ≤ 64 → (IntKind.u64.wrap ((IntKind.u64.wrap (x13_37)) * 2 ^ (ji54).toNat)) = ji56 := shl_small hji56
                    replace H := Option.bind_eq_some_iff.mp H
                    obtain ⟨t132, A570, H⟩ := H
                    replace H : ((floats_format_signed.f a0_0 a0_1 a1 (mn (IntKind.u64.wrap ((ji56) + x2_15)) t132)).bind fun t133 => (some t133)) = some r := H
                    have A57 := Aside0.mk A570
                    clear A570
                    obtain ⟨ji58, hji58⟩ : ∃ j_ : Int, (mn (IntKind.u64.wrap ((ji56) + x2_15)) t132) = j_ := ⟨_, rfl⟩
                    replace H : ((floats_format_signed.f a0_0 a0_1 a1 (ji58)).bind fun t133 => (some t133)) = some r := by first | (rw [hji58] at H; exact H) | (simp only [hji58] at H ⊢; exact H)
                    (try rw [hji58] at A57)
                    have hji58_ : (if t132 < (IntKind.u64.wrap ((ji56) + x2_15)) then t132 else (IntKind.u64.wrap ((ji56) + x2_15))) = ji58 := hji58
                    replace H := Option.bind_eq_some_iff.mp H
                    obtain ⟨t133, A590, H⟩ := H
                    replace H : (some t133) = some r := H
                    have A59 := Aside0.mk A590
                    clear A590
                    obtain rfl := Option.some.inj H
                    have hcz60_0 : wc.cell? ⟨gb125, 0, none⟩ = some (.int .i64 a0_0) := (blk_cell BK125.out 0).trans rfl
                    have hcz60_1 : wc.cell? ⟨gb125, 1, none⟩ = some (.int .i64 a0_1) := (blk_cell BK125.out 1).trans rfl
                    have hfz60_0 := blk_frozen BK125.out 0
                    have hfz60_1 := blk_frozen BK125.out 1
                    try go_wp2
                    have n0_ := Aside0.mk (blk_drew BK125.out)
                    have n1_ := Aside0.mk (below_drew1 HB.out)
                    clear BK125
                    clear HB
                    have BK125 := n0_
                    have HB := n1_
                    clear n0_ n1_
                    refine start_ (n := 15) (S := fun w' => w'.cell? ⟨gb125, 0, none⟩ = some (.int .i64 a0_0) ∧ w'.cell? ⟨gb125, 1, none⟩ = some (.int .i64 a0_1)) (ds := []) #[false, false, false, false, false, false, false, false, false, false, false, false, false, false, false] (by kernel_rfl) rfl rfl ⟨(blk_cell BK125.out 0).trans rfl, (blk_cell BK125.out 1).trans rfl⟩ (fun hHeld => ?_); refine with_tabW floats_format_round.tab18 floats_format_round.bits18 (fun HT_ HW_ => ?_)
                    generalize wc.drew = w61 at BK125 HB hHeld ⊢
                    refine pure_ (i := 1) (N := some 97) (v := ?_) (a' := ?_) #[false, true, false, false, false, false, false, false, false, false, false, false, false, false, false] rfl rfl (any_of HT_.out (by kernel_rfl)) (fun _ _ _ h => h) (Or.inl ⟨by rfl, ?_⟩) ?_ ?_
                    rotate_left
                    · intro w'
                      go_simp
                      with_reducible rfl
                    rotate_left
                    · simp only [Act.put, List.setIfInBounds_toArray, List.set_cons_zero, List.set_cons_succ, i64_w, i32_w]
                      rfl
                    refine pure_ (i := 2) (N := some 98) (v := ?_) (a' := ?_) #[false, true, true, false, false, false, false, false, false, false, false, false, false, false, false] rfl rfl (any_of HT_.out (by kernel_rfl)) (fun _ _ _ h => h) (Or.inl ⟨by rfl, ?_⟩) ?_ ?_
                    rotate_left
                    · intro w'
                      go_simp
                      with_reducible rfl
                    rotate_left
                    · simp only [Act.put, List.setIfInBounds_toArray, List.set_cons_zero, List.set_cons_succ, i64_w, i32_w]
                      rfl
                    refine pure_ (i := 3) (N := some 99) (v := ?_) (a' := ?_) #[false, true, true, true, false, false, false, false, false, false, false, false, false, false, false] rfl rfl (any_of HT_.out (by kernel_rfl)) (fun _ _ _ h => h) (Or.inl ⟨by rfl, ?_⟩) ?_ ?_
                    rotate_left
                    · intro w'
                      go_simp
                      with_reducible rfl
                    rotate_left
                    · simp only [Act.put, List.setIfInBounds_toArray, List.set_cons_zero, List.set_cons_succ, i64_w, i32_w]
                      rfl
                    refine pure_ (i := 4) (N := some 100) (v := ?_) (a' := ?_) #[false, true, true, true, true, false, false, false, false, false, false, false, false, false, false] rfl rfl (any_of HT_.out (by kernel_rfl)) (fun _ _ _ h => h) (Or.inl ⟨by rfl, ?_⟩) ?_ ?_
                    rotate_left
                    · intro w'
                      go_simp
                      with_reducible rfl
                    rotate_left
                    · simp only [Act.put, List.setIfInBounds_toArray, List.set_cons_zero, List.set_cons_succ, i64_w, i32_w]
                      rfl
                    refine pure_ (i := 8) (N := some 104) (v := ?_) (a' := ?_) #[false, true, true, true, true, false, false, false, true, false, false, false, false, false, false] rfl rfl (any_of HT_.out (by kernel_rfl)) (fun _ _ _ h => h) (Or.inl ⟨by rfl, ?_⟩) ?_ ?_
                    rotate_left
                    · intro w'
                      go_simp
                      with_reducible rfl
                    rotate_left
                    · simp only [Act.put, List.setIfInBounds_toArray, List.set_cons_zero, List.set_cons_succ, i64_w, i32_w]
                      rfl
                    refine take_ (i := 0) (N := some 96) (v := ?_) (a' := ?_) #[true, true, true, true, true, false, false, false, true, false, false, false, false, false, false] rfl rfl (take_ofW HT_.out HW_.out (by kernel_rfl)) (fun _ _ _ h => h) (Or.inl ⟨by rfl, ?_⟩) hHeld ?_ ?_
                    rotate_left
                    · rintro w' ⟨s0, s1⟩
                      go_simp
                      with_reducible rfl
                    rotate_left
                    · simp only [Act.put, List.setIfInBounds_toArray, List.set_cons_zero, List.set_cons_succ, i64_w, i32_w]
                      rfl
                    refine take_ (i := 5) (N := some 101) (v := ?_) (a' := ?_) #[true, true, true, true, true, true, false, false, true, false, false, false, false, false, false] rfl rfl (take_ofW HT_.out HW_.out (by kernel_rfl)) (fun _ _ _ h => h) (Or.inl ⟨by rfl, ?_⟩) hHeld ?_ ?_
                    rotate_left
                    · rintro w' ⟨s0, s1⟩
                      go_simp
                      with_reducible rfl
                    rotate_left
                    · simp only [Act.put, List.setIfInBounds_toArray, List.set_cons_zero, List.set_cons_succ, i64_w, i32_w]
                      rfl
                    refine pure_ (i := 6) (N := some 102) (v := ?_) (a' := ?_) #[true, true, true, true, true, true, true, false, true, false, false, false, false, false, false] rfl rfl (any_of HT_.out (by kernel_rfl)) (fun _ _ _ h => h) (Or.inl ⟨by rfl, ?_⟩) ?_ ?_
                    rotate_left
                    · intro w'
                      go_simp
                      with_reducible rfl
                    rotate_left
                    · simp only [Act.put, List.setIfInBounds_toArray, List.set_cons_zero, List.set_cons_succ, i64_w, i32_w]
                      rfl
                    refine pure_ (i := 7) (N := some 103) (v := ?_) (a' := ?_) #[true, true, true, true, true, true, true, true, true, false, false, false, false, false, false] rfl rfl (any_of HT_.out (by kernel_rfl)) (fun _ _ _ h => h) (Or.inl ⟨by rfl, ?_⟩) ?_ ?_
                    rotate_left
                    · intro w'
                      go_simp
                      with_reducible rfl
                    rotate_left
                    · simp only [Act.put, List.setIfInBounds_toArray, List.set_cons_zero, List.set_cons_succ, i64_w, i32_w]
                      rfl
                    refine pure_ (i := 9) (N := some 105) (v := ?_) (a' := ?_) #[true, true, true, true, true, true, true, true, true, true, false, false, false, false, false] rfl rfl (any_of HT_.out (by kernel_rfl)) (fun _ _ _ h => h) (Or.inl ⟨by rfl, ?_⟩) ?_ ?_
                    rotate_left
                    · intro w'
                      go_simp
                      with_reducible rfl
                    rotate_left
                    · simp only [Act.put, List.setIfInBounds_toArray, List.set_cons_zero, List.set_cons_succ, i64_w, i32_w]
                      rfl
                    refine take_ (i := 10) (N := some 106) (v := ?_) (a' := ?_) #[true, true, true, true, true, true, true, true, true, true, true, false, false, false, false] rfl rfl (take_ofW HT_.out HW_.out (by kernel_rfl)) (fun _ _ _ h => h) (Or.inl ⟨by rfl, ?_⟩) hHeld ?_ ?_
                    rotate_left
                    · rintro w' ⟨s0, s1⟩
                      go_simp
                      with_reducible rfl
                    rotate_left
                    · simp only [Act.put, List.setIfInBounds_toArray, List.set_cons_zero, List.set_cons_succ, i64_w, i32_w]
                      rfl
                    refine one_ (i := 11) (N := some 107) #[true, true, true, true, true, true, true, true, true, true, true, true, false, false, false] rfl rfl (one_of HT_.out (by kernel_rfl)) (by decide) (fun K hK => ?_)
                    refine goes_ Tryz.func71 (by kernel_rfl) rfl #[.agg #[.int .i64 a0_0, .int .i64 a0_1]] (by rfl) rfl rfl (by (try simp only [List.map_toArray, List.map_cons, List.map_nil]); first | done | rfl | (simp only [List.length_drop, List.length_take]; rfl)) ?_
                    with_reducible refine (floats_format_infinity.calls a0_0 a0_1 t132 _ A57.out).mono ?_
                    rintro e w62 ⟨rfl, hb⟩
                    refine ⟨_, rfl, ?_⟩
                    have n0_ := Aside0.mk (blk_below (g := gb125) (o := .cells #[.int .i64 a0_0, .int .i64 a0_1] 95 (0, 0)) (by (with_reducible repeat (first | refine blk_drewN ?_ _ | refine blk_drew ?_ | refine blk_alloc ?_ _)); exact BK125.out) hb)
                    have n1_ := Aside0.mk (below_step (by repeat (first | (with_reducible first | exact HB.out | apply below_alloc | apply pw_below_drewN | apply below_drew1 | refine below_set ?_ GE125.out) | exact HB.out)) hb)
                    clear BK125
                    clear HB
                    have BK125 := n0_
                    have HB := n1_
                    clear n0_ n1_
                    (try clear hb)
                    (try clear hb2)
                    (try clear hk)
                    (try clear hi)
                    refine hK.out _ _ ⟨(blk_cell BK125.out 0).trans rfl, (blk_cell BK125.out 1).trans rfl⟩ (fun hHeld => ?_)
                    clear hK K
                    refine norm_ (a' := ?_) ?_ ?_
                    rotate_left
                    · show Act.put _ (some 107) _ = _
                      simp only [Act.put, List.setIfInBounds_toArray, List.set_cons_zero, List.set_cons_succ, i64_w, i32_w]
                      rfl
                    refine pure_ (i := 12) (N := some 108) (v := ?_) (a' := ?_) #[true, true, true, true, true, true, true, true, true, true, true, true, true, false, false] rfl rfl (any_of HT_.out (by kernel_rfl)) (fun _ _ _ h => h) (Or.inl ⟨by rfl, ?_⟩) ?_ ?_
                    rotate_left
                    · intro w'
                      go_simp
                      with_reducible rfl
                    rotate_left
                    · simp only [Act.put, List.setIfInBounds_toArray, List.set_cons_zero, List.set_cons_succ, i64_w, i32_w]
                      rfl
                    refine one_ (i := 13) (N := some 109) #[true, true, true, true, true, true, true, true, true, true, true, true, true, true, false] rfl rfl (one_of HT_.out (by kernel_rfl)) (by decide) (fun K hK => ?_)
                    refine goes_ Tryz.func110 (by kernel_rfl) rfl #[.agg #[.int .i64 a0_0, .int .i64 a0_1], .bool a1, .int .u64 ji58] (by rfl) rfl rfl (by (try simp only [List.map_toArray, List.map_cons, List.map_nil]); first | done | (simp only [hji58]; rfl) | rfl | (simp only [List.length_drop, List.length_take]; rfl)) ?_
                    with_reducible refine (floats_format_signed.calls a0_0 a0_1 a1 ji58 t133 _ A59.out).mono ?_
                    rintro e w63 ⟨rfl, hb⟩
                    refine ⟨_, rfl, ?_⟩
                    have n0_ := Aside0.mk (blk_below (g := gb125) (o := .cells #[.int .i64 a0_0, .int .i64 a0_1] 95 (0, 0)) (by (with_reducible repeat (first | refine blk_drewN ?_ _ | refine blk_drew ?_ | refine blk_alloc ?_ _)); exact BK125.out) hb)
                    have n1_ := Aside0.mk (below_step (by repeat (first | (with_reducible first | exact HB.out | apply below_alloc | apply pw_below_drewN | apply below_drew1 | refine below_set ?_ GE125.out) | exact HB.out)) hb)
                    clear BK125
                    clear HB
                    have BK125 := n0_
                    have HB := n1_
                    clear n0_ n1_
                    (try clear hb)
                    (try clear hb2)
                    (try clear hk)
                    (try clear hi)
                    refine hK.out _ _ ⟨(blk_cell BK125.out 0).trans rfl, (blk_cell BK125.out 1).trans rfl⟩ (fun hHeld => ?_)
                    clear hK K
                    refine norm_ (a' := ?_) ?_ ?_
                    rotate_left
                    · show Act.put _ (some 109) _ = _
                      simp only [Act.put, List.setIfInBounds_toArray, List.set_cons_zero, List.set_cons_succ, i64_w, i32_w]
                      rfl
                    refine pure_ (i := 14) (N := some 10) (v := ?_) (a' := ?_) #[true, true, true, true, true, true, true, true, true, true, true, true, true, true, true] rfl rfl (any_of HT_.out (by kernel_rfl)) (fun _ _ _ h => h) (Or.inl ⟨by rfl, ?_⟩) ?_ ?_
                    rotate_left
                    · intro w'
                      go_simp
                      with_reducible rfl
                    rotate_left
                    · simp only [Act.put, List.setIfInBounds_toArray, List.set_cons_zero, List.set_cons_succ, i64_w, i32_w]
                      rfl
                    refine done_ (done_of HT_.out (by kernel_rfl)) ?_
                    try go_wp2
                    go_ret
                    exact ⟨by first | rfl | (simp [errW_none, errW_some] <;> rfl) | (simp only [← hji11, ← hji12, ← hji15, ← hji35, ← hji37, ← hji44, ← hji46, ← hji54, ← hji56, ← hji58]; first | rfl | (simp [errW_none, errW_some] <;> rfl)) | (simp [*, errW_none, errW_some] <;> rfl), by repeat (first | (with_reducible first | exact HB.out | apply below_alloc | apply pw_below_drewN | apply below_drew1 | refine below_set ?_ GE125.out) | exact HB.out)⟩
                  · rw [if_neg c55] at H
                    exact absurd H (by simp)
              · rw [if_neg c45] at H
                exact absurd H (by simp)
        · rw [if_neg c36] at H
          exact absurd H (by simp)
end Go.Proofs.YtjecdciabpjgcaaGreatDoor.PLz
