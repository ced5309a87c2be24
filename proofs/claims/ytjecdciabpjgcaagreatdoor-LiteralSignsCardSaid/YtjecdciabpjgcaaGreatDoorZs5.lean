/-
  The program's small functions over formats, in closed form: signs, sizes, parts. No condition but that a word is one.
  The program's rounding, in closed form: the float nearest to a number times a power of 2, and perhaps a little more. No condition but the code's own.
  The walk of chapter 8's long.bits. Condition: what comes in is a number in words, no longer than 1000000 of them.
  The walk of chapter 8's long.left. Condition: what comes in is a number in words, no longer than 1000000 of them; it is moved by at most 1000000.
-/
import Derived.Test.YtjecdciabpjgcaaGreatDoorZs0
import Derived.Test.YtjecdciabpjgcaaGreatDoorZs1
import Derived.Test.YtjecdciabpjgcaaGreatDoorZs2
import Derived.Test.YtjecdciabpjgcaaGreatDoorZs3
import Derived.Test.YtjecdciabpjgcaaGreatDoorZs4
namespace Go.Proofs.YtjecdciabpjgcaaGreatDoor.PLz
open Go.RowKit Go.Proofs.YtjecdciabpjgcaaGreatDoorW.PrintWords Go.Proofs.YtjecdciabpjgcaaGreatDoorW.PrintLast Go.Proofs.YtjecdciabpjgcaaGreatDoorW.PrintMore
attribute [local go_sem] max2_int min2_int max_two min_two max_three min_three max_four min_four
set_option linter.unusedVariables false
set_option linter.unusedSimpArgs false
def floats_Round.j0 : Nat → Int → Bool → Int → Int → Bool → Bool → Option (Int × Int)
  | 0, _, _, _, _, _, _ => none
  | k + 1, x0, x1, x2, x3, x4, x21 => if x21 = true then (some (0, 1)) else ((floats_of.f x0).bind fun bt137 => ((floats_format_round.f k bt137.1 bt137.2 x1 x2 x3 x4).bind fun t139 => (some (t139, 0))))
def floats_Round.f (k : Nat) (a0 : Int) (a1 : Bool) (a2 : Int) (a3 : Int) (a4 : Bool) : Option (Int × Int) := (floats_of.f a0).bind fun bt134 => ((floats_format_none.f bt134.1 bt134.2).bind fun t136 => (if t136 = true then (floats_Round.j0 k a0 a1 a2 a3 a4 true) else (if a4 = true then (floats_Round.j0 k a0 a1 a2 a3 a4 (decide (a2 < 288230376151711744))) else (floats_Round.j0 k a0 a1 a2 a3 a4 false))))
theorem floats_Round.mono_l : ∀ k, (∀ y0 y1 y2 y3 y4 y5, LeO (floats_Round.j0 k y0 y1 y2 y3 y4 y5) (floats_Round.j0 (k + 1) y0 y1 y2 y3 y4 y5)) := by
  intro k
  induction k with
  | zero => exact fun _ _ _ _ _ _ r h => by simp [floats_Round.j0] at h
  | succ k ih =>
    have ih0 := ih
    · intro y0 y1 y2 y3 y4 y5
      unfold floats_Round.j0
      repeat' first
      | (with_reducible exact ih0 _ _ _ _ _ _)
      | (with_reducible exact floats_format_round.mono _ _ _ _ _ _ _)
      | (with_reducible exact LeO.refl _)
      | (with_reducible exact LeO.none _)
      | (with_reducible refine LeO.ite ?_ ?_)
      | (with_reducible refine LeO.bind ?_ (fun _ => ?_))
      | exact ih0 _ _ _ _ _ _
      | exact floats_format_round.mono _ _ _ _ _ _ _
      | exact LeO.none _
      | refine LeO.ite ?_ ?_
      | refine LeO.bind ?_ (fun _ => ?_)
theorem floats_Round.mono : ∀ a0 a1 a2 a3 a4 k, LeO (floats_Round.f k a0 a1 a2 a3 a4) (floats_Round.f (k + 1) a0 a1 a2 a3 a4) := by
  intro a0 a1 a2 a3 a4 k
  have ih0 := floats_Round.mono_l k
  unfold floats_Round.f
  repeat' first
      | (with_reducible exact ih0 _ _ _ _ _ _)
      | (with_reducible exact floats_format_round.mono _ _ _ _ _ _ _)
      | (with_reducible exact LeO.refl _)
      | (with_reducible exact LeO.none _)
      | (with_reducible refine LeO.ite ?_ ?_)
      | (with_reducible refine LeO.bind ?_ (fun _ => ?_))
      | exact ih0 _ _ _ _ _ _
      | exact floats_format_round.mono _ _ _ _ _ _ _
      | exact LeO.none _
      | refine LeO.ite ?_ ?_
      | refine LeO.bind ?_ (fun _ => ?_)
set_option maxHeartbeats 8000000 in
set_option maxRecDepth 100000 in
theorem floats_Round.calls (k : Nat) (a0 : Int) (a1 : Bool) (a2 : Int) (a3 : Int) (a4 : Bool) (r1 : Int) (r2 : Int) (w : World) (h : floats_Round.f k a0 a1 a2 a3 a4 = some (r1, r2)) :
    Calls Tryz.prog 37 #[.int .i64 a0, .bool a1, .int .u64 a2, .int .i64 a3, .bool a4] w fun e w' => e = .returned (.tuple #[.int .u64 r1, .int .i64 r2]) ∧ Below w.heap.size w w' := by
  have HB := Aside0.mk (Below.refl w.heap.size w)
  have H : ((floats_of.f a0).bind fun bt134 => ((floats_format_none.f bt134.1 bt134.2).bind fun t136 => (if t136 = true then (floats_Round.j0 k a0 a1 a2 a3 a4 true) else (if a4 = true then (floats_Round.j0 k a0 a1 a2 a3 a4 (decide (a2 < 288230376151711744))) else (floats_Round.j0 k a0 a1 a2 a3 a4 false))))) = some (r1, r2) := h
  clear h
  have HC6 := Aside0.mk H
  clear H
  go_enter Tryz.func37, Tryz.ntmps37
  go_upto_region 1 with (fail)
  go_cut [21] (fun v21 wc => ∃ (kq : Nat) (x21_5 : Bool), v21 = .bool x21_5 ∧ Aside0 (floats_Round.j0 kq a0 a1 a2 a3 a4 x21_5 = some (r1, r2)) ∧ Aside0 (kq ≤ k) ∧ Aside0 (Below w.heap.size w wc))
  case first =>
    have H := HC6.out
    clear HC6
    replace H := Option.bind_eq_some_iff.mp H
    obtain ⟨⟨t134, t135⟩, A70, H⟩ := H
    replace H : ((floats_format_none.f t134 t135).bind fun t136 => (if t136 = true then (floats_Round.j0 k a0 a1 a2 a3 a4 true) else (if a4 = true then (floats_Round.j0 k a0 a1 a2 a3 a4 (decide (a2 < 288230376151711744))) else (floats_Round.j0 k a0 a1 a2 a3 a4 false)))) = some (r1, r2) := H
    have A7 := Aside0.mk A70
    clear A70
    replace H := Option.bind_eq_some_iff.mp H
    obtain ⟨t136, A80, H⟩ := H
    replace H : (if t136 = true then (floats_Round.j0 k a0 a1 a2 a3 a4 true) else (if a4 = true then (floats_Round.j0 k a0 a1 a2 a3 a4 (decide (a2 < 288230376151711744))) else (floats_Round.j0 k a0 a1 a2 a3 a4 false))) = some (r1, r2) := H
    have A8 := Aside0.mk A80
    clear A80
    by_cases c9 : t136 = true
    · subst c9
      have H1 : (floats_Round.j0 k a0 a1 a2 a3 a4 true) = some (r1, r2) := by rw [if_pos rfl] at H; exact H
      clear H
      have H := H1
      clear H1
      have H' := Aside0.mk H
      clear H
      go_wp2_with (first | ((with_reducible refine gate_callee (f := 68) rfl ?_); refine goesL_ (some 13) rfl rfl Tryz.func68 (by kernel_rfl) rfl #[.int .i64 a0] rfl (by (try simp only [List.map_toArray, List.map_cons, List.map_nil]); first | done | rfl | (simp only [List.length_drop, List.length_take]; rfl)) ?_; (with_reducible refine (floats_of.calls a0 t134 t135 _ A7.out).mono ?_); rintro e w10 ⟨rfl, hb⟩; refine ⟨_, rfl, ?_⟩; have n0_ := Aside0.mk (below_step (by repeat (first | (with_reducible first | exact HB.out | apply below_alloc | apply pw_below_drewN | apply below_drew1) | exact HB.out)) hb); clear HB; have HB := n0_; clear n0_; (try clear hb); (try clear hb2); (try clear hk); (try clear hi)) | ((with_reducible refine gate_callee (f := 70) rfl ?_); refine goesL_ (some 14) rfl rfl Tryz.func70 (by kernel_rfl) rfl #[.agg #[.int .i64 t134, .int .i64 t135]] rfl (by (try simp only [List.map_toArray, List.map_cons, List.map_nil]); first | done | rfl | (simp only [List.length_drop, List.length_take]; rfl)) ?_; (with_reducible refine (floats_format_none.calls t134 t135 true _ A8.out).mono ?_); rintro e w11 ⟨rfl, hb⟩; refine ⟨_, rfl, ?_⟩; have n0_ := Aside0.mk (below_step (by repeat (first | (with_reducible first | exact HB.out | apply below_alloc | apply pw_below_drewN | apply below_drew1) | exact HB.out)) hb); clear HB; have HB := n0_; clear n0_; (try clear hb); (try clear hb2); (try clear hk); (try clear hi)))
      go_meet
      case rel => exact ⟨_, (true), (by first | rfl | (simp; done) | (simp [*]; done)), H', ⟨by first | omega | exact Nat.le_refl _⟩, ⟨by repeat (first | (with_reducible first | exact HB.out | apply below_alloc | apply pw_below_drewN | apply below_drew1) | exact HB.out)⟩⟩
    · replace c9 := Bool.eq_false_iff.mpr c9
      subst c9
      have H1 : (if a4 = true then (floats_Round.j0 k a0 a1 a2 a3 a4 (decide (a2 < 288230376151711744))) else (floats_Round.j0 k a0 a1 a2 a3 a4 false)) = some (r1, r2) := by rw [if_neg (show ¬ (false = true) by decide)] at H; exact H
      clear H
      have H := H1
      clear H1
      by_cases c12 : a4 = true
      · subst c12
        have H1 : (floats_Round.j0 k a0 a1 a2 a3 true (decide (a2 < 288230376151711744))) = some (r1, r2) := by rw [if_pos rfl] at H; exact H
        clear H
        have H := H1
        clear H1
        have H' := Aside0.mk H
        clear H
        go_wp2_with (first | ((with_reducible refine gate_callee (f := 68) rfl ?_); refine goesL_ (some 13) rfl rfl Tryz.func68 (by kernel_rfl) rfl #[.int .i64 a0] rfl (by (try simp only [List.map_toArray, List.map_cons, List.map_nil]); first | done | rfl | (simp only [List.length_drop, List.length_take]; rfl)) ?_; (with_reducible refine (floats_of.calls a0 t134 t135 _ A7.out).mono ?_); rintro e w13 ⟨rfl, hb⟩; refine ⟨_, rfl, ?_⟩; have n0_ := Aside0.mk (below_step (by repeat (first | (with_reducible first | exact HB.out | apply below_alloc | apply pw_below_drewN | apply below_drew1) | exact HB.out)) hb); clear HB; have HB := n0_; clear n0_; (try clear hb); (try clear hb2); (try clear hk); (try clear hi)) | ((with_reducible refine gate_callee (f := 70) rfl ?_); refine goesL_ (some 14) rfl rfl Tryz.func70 (by kernel_rfl) rfl #[.agg #[.int .i64 t134, .int .i64 t135]] rfl (by (try simp only [List.map_toArray, List.map_cons, List.map_nil]); first | done | rfl | (simp only [List.length_drop, List.length_take]; rfl)) ?_; (with_reducible refine (floats_format_none.calls t134 t135 false _ A8.out).mono ?_); rintro e w14 ⟨rfl, hb⟩; refine ⟨_, rfl, ?_⟩; have n0_ := Aside0.mk (below_step (by repeat (first | (with_reducible first | exact HB.out | apply below_alloc | apply pw_below_drewN | apply below_drew1) | exact HB.out)) hb); clear HB; have HB := n0_; clear n0_; (try clear hb); (try clear hb2); (try clear hk); (try clear hi)))
        go_meet
        case rel => exact ⟨_, (decide (a2 < 288230376151711744)), (by first | rfl | (simp; done) | (simp [*]; done)), H', ⟨by first | omega | exact Nat.le_refl _⟩, ⟨by repeat (first | (with_reducible first | exact HB.out | apply below_alloc | apply pw_below_drewN | apply below_drew1) | exact HB.out)⟩⟩
      · replace c12 := Bool.eq_false_iff.mpr c12
        subst c12
        have H1 : (floats_Round.j0 k a0 a1 a2 a3 false false) = some (r1, r2) := by rw [if_neg (show ¬ (false = true) by decide)] at H; exact H
        clear H
        have H := H1
        clear H1
        have H' := Aside0.mk H
        clear H
        go_wp2_with (first | ((with_reducible refine gate_callee (f := 68) rfl ?_); refine goesL_ (some 13) rfl rfl Tryz.func68 (by kernel_rfl) rfl #[.int .i64 a0] rfl (by (try simp only [List.map_toArray, List.map_cons, List.map_nil]); first | done | rfl | (simp only [List.length_drop, List.length_take]; rfl)) ?_; (with_reducible refine (floats_of.calls a0 t134 t135 _ A7.out).mono ?_); rintro e w15 ⟨rfl, hb⟩; refine ⟨_, rfl, ?_⟩; have n0_ := Aside0.mk (below_step (by repeat (first | (with_reducible first | exact HB.out | apply below_alloc | apply pw_below_drewN | apply below_drew1) | exact HB.out)) hb); clear HB; have HB := n0_; clear n0_; (try clear hb); (try clear hb2); (try clear hk); (try clear hi)) | ((with_reducible refine gate_callee (f := 70) rfl ?_); refine goesL_ (some 14) rfl rfl Tryz.func70 (by kernel_rfl) rfl #[.agg #[.int .i64 t134, .int .i64 t135]] rfl (by (try simp only [List.map_toArray, List.map_cons, List.map_nil]); first | done | rfl | (simp only [List.length_drop, List.length_take]; rfl)) ?_; (with_reducible refine (floats_format_none.calls t134 t135 false _ A8.out).mono ?_); rintro e w16 ⟨rfl, hb⟩; refine ⟨_, rfl, ?_⟩; have n0_ := Aside0.mk (below_step (by repeat (first | (with_reducible first | exact HB.out | apply below_alloc | apply pw_below_drewN | apply below_drew1) | exact HB.out)) hb); clear HB; have HB := n0_; clear n0_; (try clear hb); (try clear hb2); (try clear hk); (try clear hi)))
        go_meet
        case rel => exact ⟨_, (false), (by first | rfl | (simp; done) | (simp [*]; done)), H', ⟨by first | omega | exact Nat.le_refl _⟩, ⟨by repeat (first | (with_reducible first | exact HB.out | apply below_alloc | apply pw_below_drewN | apply below_drew1) | exact HB.out)⟩⟩
  case rest =>
    clear HC6
    try clear c1
    try clear p2
    try clear c3
    try clear c6
    try clear c7
    try clear c9
    try clear c12
    obtain ⟨kq, x21_5, rfl, HA, HJ5, HB⟩ := hcut
    cases kq with
    | zero => exact absurd HA.out (by simp [floats_Round.j0])
    | succ kj5 =>
      have H := HA.out
      clear HA
      simp only [floats_Round.j0] at H
      by_cases c17 : x21_5 = true
      · subst c17
        have H1 : (some (0, 1)) = some (r1, r2) := by rw [if_pos rfl] at H; exact H
        clear H
        have H := H1
        clear H1
        simp only [Option.some.injEq, Prod.mk.injEq] at H
        obtain ⟨rfl, rfl⟩ := H
        go_wp2
        go_ret2
        exact ⟨by first | rfl | (simp [errW_none, errW_some] <;> rfl) | (simp [*, errW_none, errW_some] <;> rfl), by repeat (first | (with_reducible first | exact HB.out | apply below_alloc | apply pw_below_drewN | apply below_drew1) | exact HB.out)⟩
      · replace c17 := Bool.eq_false_iff.mpr c17
        subst c17
        have H1 : ((floats_of.f a0).bind fun bt137 => ((floats_format_round.f kj5 bt137.1 bt137.2 a1 a2 a3 a4).bind fun t139 => (some (t139, 0)))) = some (r1, r2) := by rw [if_neg (show ¬ (false = true) by decide)] at H; exact H
        clear H
        have H := H1
        clear H1
        replace H := Option.bind_eq_some_iff.mp H
        obtain ⟨⟨t137, t138⟩, A180, H⟩ := H
        replace H : ((floats_format_round.f kj5 t137 t138 a1 a2 a3 a4).bind fun t139 => (some (t139, 0))) = some (r1, r2) := H
        have A18 := Aside0.mk A180
        clear A180
        replace H := Option.bind_eq_some_iff.mp H
        obtain ⟨t139, A190, H⟩ := H
        replace H : (some (t139, 0)) = some (r1, r2) := H
        have A19 := Aside0.mk A190
        clear A190
        simp only [Option.some.injEq, Prod.mk.injEq] at H
        obtain ⟨rfl, rfl⟩ := H
        go_wp2_with (first | ((with_reducible refine gate_callee (f := 68) rfl ?_); refine goesL_ (some 23) rfl rfl Tryz.func68 (by kernel_rfl) rfl #[.int .i64 a0] rfl (by (try simp only [List.map_toArray, List.map_cons, List.map_nil]); first | done | rfl | (simp only [List.length_drop, List.length_take]; rfl)) ?_; (with_reducible refine (floats_of.calls a0 t137 t138 _ A18.out).mono ?_); rintro e w20 ⟨rfl, hb⟩; refine ⟨_, rfl, ?_⟩; have n0_ := Aside0.mk (below_step (by repeat (first | (with_reducible first | exact HB.out | apply below_alloc | apply pw_below_drewN | apply below_drew1) | exact HB.out)) hb); clear HB; have HB := n0_; clear n0_; (try clear hb); (try clear hb2); (try clear hk); (try clear hi)) | ((with_reducible refine gate_callee (f := 73) rfl ?_); refine goesL_ (some 28) rfl rfl Tryz.func73 (by kernel_rfl) rfl #[.agg #[.int .i64 t137, .int .i64 t138], .bool a1, .int .u64 a2, .int .i64 a3, .bool a4] rfl (by (try simp only [List.map_toArray, List.map_cons, List.map_nil]); first | done | rfl | (simp only [List.length_drop, List.length_take]; rfl)) ?_; (with_reducible refine (floats_format_round.calls kj5 t137 t138 a1 a2 a3 a4 t139 _ A19.out).mono ?_); rintro e w21 ⟨rfl, hb⟩; refine ⟨_, rfl, ?_⟩; have n0_ := Aside0.mk (below_step (by repeat (first | (with_reducible first | exact HB.out | apply below_alloc | apply pw_below_drewN | apply below_drew1) | exact HB.out)) hb); clear HB; have HB := n0_; clear n0_; (try clear hb); (try clear hb2); (try clear hk); (try clear hi)))
        go_ret2
        exact ⟨by first | rfl | (simp [errW_none, errW_some] <;> rfl) | (simp [*, errW_none, errW_some] <;> rfl), by repeat (first | (with_reducible first | exact HB.out | apply below_alloc | apply pw_below_drewN | apply below_drew1) | exact HB.out)⟩
def floats_format_parts.f (a0_0 : Int) (a0_1 : Int) (a1 : Int) : Option (Int × Int) := (floats_format_size.f a0_0 a0_1 a1).bind fun t141 => (if 0 ≤ (IntKind.u64.wrap (a0_0)) then (if (wrap64 (shr .u64 t141 (IntKind.u64.wrap (a0_0)))) = 0 then ((floats_format_least.f a0_0 a0_1).bind fun t142 => (some (Go.bits .and .u64 t141 (IntKind.u64.wrap ((shl .u64 1 (IntKind.u64.wrap (a0_0))) - 1)), t142))) else ((floats_format_least.f a0_0 a0_1).bind fun t143 => (some (Go.bits .or .u64 (Go.bits .and .u64 t141 (IntKind.u64.wrap ((shl .u64 1 (IntKind.u64.wrap (a0_0))) - 1))) (shl .u64 1 (IntKind.u64.wrap (a0_0))), wrap64 ((wrap64 (t143 + (wrap64 (shr .u64 t141 (IntKind.u64.wrap (a0_0)))))) - 1))))) else (none))
def floats_format_parts.T6 : Bool × List (List Nat × List Nat) := (true, [([], []), ([], []), ([1], [1]), ([2], [2]), ([3], [3]), ([0, 4], [0, 4]), ([], []), ([6], [6]), ([], []), ([7, 8], [7, 8]), ([9], [9]), ([5, 7, 0, 1, 2, 3, 4, 5], [5]), ([10, 11, 0, 1, 2, 3, 4, 5, 6, 7, 8, 9, 10, 11], [10])])
def floats_format_parts.B6 : List Nat := [0, 0, 2, 6, 14, 31, 0, 64, 0, 448, 960, 255, 4095]
theorem floats_format_parts.tab6 : rtab .any (opsOf Tryz.f75 6) = floats_format_parts.T6 := by kernel_rfl
theorem floats_format_parts.bits6 : waitsOk floats_format_parts.T6.2 floats_format_parts.B6 = true := by kernel_rfl
set_option maxHeartbeats 8000000 in
set_option maxRecDepth 100000 in
theorem floats_format_parts.calls (a0_0 : Int) (a0_1 : Int) (a1 : Int) (r1 : Int) (r2 : Int) (w : World) (h : floats_format_parts.f a0_0 a0_1 a1 = some (r1, r2)) :
    Calls Tryz.prog 75 #[.agg #[.int .i64 a0_0, .int .i64 a0_1], .int .u64 a1] w fun e w' => e = .returned (.tuple #[.int .u64 r1, .int .i64 r2]) ∧ Below w.heap.size w w' := by
  have hu95 := Tryz.underlying95
  have HB := Aside0.mk (Below.refl w.heap.size w)
  have H : ((floats_format_size.f a0_0 a0_1 a1).bind fun t141 => (if 0 ≤ (IntKind.u64.wrap (a0_0)) then (if (wrap64 (shr .u64 t141 (IntKind.u64.wrap (a0_0)))) = 0 then ((floats_format_least.f a0_0 a0_1).bind fun t142 => (some (Go.bits .and .u64 t141 (IntKind.u64.wrap ((shl .u64 1 (IntKind.u64.wrap (a0_0))) - 1)), t142))) else ((floats_format_least.f a0_0 a0_1).bind fun t143 => (some (Go.bits .or .u64 (Go.bits .and .u64 t141 (IntKind.u64.wrap ((shl .u64 1 (IntKind.u64.wrap (a0_0))) - 1))) (shl .u64 1 (IntKind.u64.wrap (a0_0))), wrap64 ((wrap64 (t143 + (wrap64 (shr .u64 t141 (IntKind.u64.wrap (a0_0)))))) - 1))))) else (none))) = some (r1, r2) := h
  clear h
  replace H := Option.bind_eq_some_iff.mp H
  obtain ⟨t141, A30, H⟩ := H
  replace H : (if 0 ≤ (IntKind.u64.wrap (a0_0)) then (if (wrap64 (shr .u64 t141 (IntKind.u64.wrap (a0_0)))) = 0 then ((floats_format_least.f a0_0 a0_1).bind fun t142 => (some (Go.bits .and .u64 t141 (IntKind.u64.wrap ((shl .u64 1 (IntKind.u64.wrap (a0_0))) - 1)), t142))) else ((floats_format_least.f a0_0 a0_1).bind fun t143 => (some (Go.bits .or .u64 (Go.bits .and .u64 t141 (IntKind.u64.wrap ((shl .u64 1 (IntKind.u64.wrap (a0_0))) - 1))) (shl .u64 1 (IntKind.u64.wrap (a0_0))), wrap64 ((wrap64 (t143 + (wrap64 (shr .u64 t141 (IntKind.u64.wrap (a0_0)))))) - 1))))) else (none)) = some (r1, r2) := H
  have A3 := Aside0.mk A30
  clear A30
  obtain ⟨ji4, hji4⟩ : ∃ j_ : Int, (IntKind.u64.wrap (a0_0)) = j_ := ⟨_, rfl⟩
  replace H : (if 0 ≤ (ji4) then (if (wrap64 (shr .u64 t141 (ji4))) = 0 then ((floats_format_least.f a0_0 a0_1).bind fun t142 => (some (Go.bits .and .u64 t141 (IntKind.u64.wrap ((shl .u64 1 (ji4)) - 1)), t142))) else ((floats_format_least.f a0_0 a0_1).bind fun t143 => (some (Go.bits .or .u64 (Go.bits .and .u64 t141 (IntKind.u64.wrap ((shl .u64 1 (ji4)) - 1))) (shl .u64 1 (ji4)), wrap64 ((wrap64 (t143 + (wrap64 (shr .u64 t141 (ji4))))) - 1))))) else (none)) = some (r1, r2) := by first | (rw [hji4] at H; exact H) | (simp only [hji4] at H ⊢; exact H)
  (try rw [hji4] at A3)
  by_cases c5 : 0 ≤ (ji4)
  · rw [if_pos c5] at H
    have c5b0 := eq_true c5
    have c5b1 : decide (0 ≤ (ji4)) = true := decide_eq_true c5
    clear c5
    obtain ⟨ji6, hji6⟩ : ∃ j_ : Int, (shr .u64 t141 (ji4)) = j_ := ⟨_, rfl⟩
    replace H : (if (wrap64 (ji6)) = 0 then ((floats_format_least.f a0_0 a0_1).bind fun t142 => (some (Go.bits .and .u64 t141 (IntKind.u64.wrap ((shl .u64 1 (ji4)) - 1)), t142))) else ((floats_format_least.f a0_0 a0_1).bind fun t143 => (some (Go.bits .or .u64 (Go.bits .and .u64 t141 (IntKind.u64.wrap ((shl .u64 1 (ji4)) - 1))) (shl .u64 1 (ji4)), wrap64 ((wrap64 (t143 + (wrap64 (ji6)))) - 1))))) = some (r1, r2) := by first | (rw [hji6] at H; exact H) | (simp only [hji6] at H ⊢; exact H)
    (try rw [hji6] at A3)
    have hji6_ : (t141 / 2 ^ min (ji4).toNat 64) = ji6 := hji6
    have hji6z : (ji4) ≤ 64 → (t141 / 2 ^ (ji4).toNat) = ji6 := shr_small hji6
    have c7b0 := eq_true (of_decide_eq_true (by first | (with_reducible assumption) | assumption) : 0 ≤ (ji4))
    obtain ⟨ji8, hji8⟩ : ∃ j_ : Int, (shl .u64 1 (ji4)) = j_ := ⟨_, rfl⟩
    replace H : (if (wrap64 (ji6)) = 0 then ((floats_format_least.f a0_0 a0_1).bind fun t142 => (some (Go.bits .and .u64 t141 (IntKind.u64.wrap ((ji8) - 1)), t142))) else ((floats_format_least.f a0_0 a0_1).bind fun t143 => (some (Go.bits .or .u64 (Go.bits .and .u64 t141 (IntKind.u64.wrap ((ji8) - 1))) (ji8), wrap64 ((wrap64 (t143 + (wrap64 (ji6)))) - 1))))) = some (r1, r2) := by first | (rw [hji8] at H; exact H) | (simp only [hji8] at H ⊢; exact H)
    (try rw [hji8] at A3)
    have hji8_ : (IntKind.u64.wrap (1 * 2 ^ min (ji4).toNat 64)) = ji8 := hji8
    have hji8z : (ji4) ≤ 64 → (IntKind.u64.wrap (1 * 2 ^ (ji4).toNat)) = ji8 := shl_small hji8
    have hji8u : (IntKind.u64.wrap (2 ^ min (ji4).toNat 64)) = ji8 := by have h_ := hji8_; rw [Int.one_mul] at h_; exact h_
    have hji8v : (ji4) ≤ 64 → (IntKind.u64.wrap (2 ^ (ji4).toNat)) = ji8 := fun hle_ => by have h_ := hji8z hle_; rw [Int.one_mul] at h_; exact h_
    by_cases c9 : (wrap64 (ji6)) = 0
    · rw [if_pos c9] at H
      have c9b0 : ((wrap64 (ji6)) == 0) = true := beq_iff_eq.mpr c9
      have c9b1 : ((wrap64 (ji6)) != 0) = false := bne_eq_false_iff_eq.mpr c9
      clear c9
      replace H := Option.bind_eq_some_iff.mp H
      obtain ⟨t142, A100, H⟩ := H
      replace H : (some (Go.bits .and .u64 t141 (IntKind.u64.wrap ((ji8) - 1)), t142)) = some (r1, r2) := H
      have A10 := Aside0.mk A100
      clear A100
      simp only [Option.some.injEq, Prod.mk.injEq] at H
      obtain ⟨rfl, rfl⟩ := H
      go_enter Tryz.func75, Tryz.ntmps75
      go_wp2_with (first | ((with_reducible refine gate_dst (N := 2) rfl ?_); refine box_event ?hg (N := 2) ?hd (cs := #[.int .i64 a0_0, .int .i64 a0_1]) (t := 95) ?hr ?_; (case hd => rfl); (case hg => rfl); (case hr => first | (go_simp; done) | (go_simp; rfl)); intro gb140 hg w11 hbox hb; have n0_ := Aside0.mk (below_step (by repeat (first | (with_reducible first | exact HB.out | apply below_alloc | apply pw_below_drewN | apply below_drew1) | exact HB.out)) hb); have n1_ := Aside0.mk (hbox); have n2_ := Aside0.mk ((by rw [hg]; exact (below_size (by repeat (first | (with_reducible first | exact HB.out | apply below_alloc | apply pw_below_drewN | apply below_drew1) | exact HB.out))) : w.heap.size ≤ gb140)); have n3_ := Aside0.mk ((by rw [hg]; exact (below_size (by repeat (first | (with_reducible first | exact HB.out | apply below_alloc | apply pw_below_drewN | apply below_drew1) | exact HB.out))) : w.heap.size ≤ gb140)); clear HB; have HB := n0_; have BK140 := n1_; have GW140 := n2_; have GE140 := n3_; clear n0_ n1_ n2_ n3_; clear hb hbox hg; have hcz12_0 : w11.cell? ⟨gb140, 0, none⟩ = some (.int .i64 a0_0) := (blk_cell BK140.out 0).trans rfl; have hcz12_1 : w11.cell? ⟨gb140, 1, none⟩ = some (.int .i64 a0_1) := (blk_cell BK140.out 1).trans rfl; have hfz12_0 := blk_frozen BK140.out 0; have hfz12_1 := blk_frozen BK140.out 1) | ((with_reducible refine gate_callee (f := 69) rfl ?_); refine goesL_ (some 11) rfl rfl Tryz.func69 (by kernel_rfl) rfl #[.agg #[.int .i64 a0_0, .int .i64 a0_1], .int .u64 a1] rfl (by (try simp only [List.map_toArray, List.map_cons, List.map_nil]); first | done | rfl | (simp only [List.length_drop, List.length_take]; rfl)) ?_; (with_reducible refine (floats_format_size.calls a0_0 a0_1 a1 t141 _ A3.out).mono ?_); rintro e w13 ⟨rfl, hb⟩; refine ⟨_, rfl, ?_⟩; have n0_ := Aside0.mk (blk_below (g := gb140) (o := .cells #[.int .i64 a0_0, .int .i64 a0_1] 95 (0, 0)) (by (with_reducible repeat (first | refine blk_drewN ?_ _ | refine blk_drew ?_ | refine blk_alloc ?_ _)); exact BK140.out) hb); have n1_ := Aside0.mk (below_step (by repeat (first | (with_reducible first | exact HB.out | apply below_alloc | apply pw_below_drewN | apply below_drew1 | refine below_set ?_ GE140.out) | exact HB.out)) hb); clear BK140; clear HB; have BK140 := n0_; have HB := n1_; clear n0_ n1_; (try clear hb); (try clear hb2); (try clear hk); (try clear hi); have hcz14_0 : w13.cell? ⟨gb140, 0, none⟩ = some (.int .i64 a0_0) := (blk_cell BK140.out 0).trans rfl; have hcz14_1 : w13.cell? ⟨gb140, 1, none⟩ = some (.int .i64 a0_1) := (blk_cell BK140.out 1).trans rfl; have hfz14_0 := blk_frozen BK140.out 0; have hfz14_1 := blk_frozen BK140.out 1) | ((with_reducible refine gate_callee (f := 112) rfl ?_); refine goesL_ (some 29) rfl rfl Tryz.func112 (by kernel_rfl) rfl #[.agg #[.int .i64 a0_0, .int .i64 a0_1]] rfl (by (try simp only [List.map_toArray, List.map_cons, List.map_nil]); first | done | rfl | (simp only [List.length_drop, List.length_take]; rfl)) ?_; (with_reducible refine (floats_format_least.calls a0_0 a0_1 t142 _ A10.out).mono ?_); rintro e w15 ⟨rfl, hb⟩; refine ⟨_, rfl, ?_⟩; have n0_ := Aside0.mk (blk_below (g := gb140) (o := .cells #[.int .i64 a0_0, .int .i64 a0_1] 95 (0, 0)) (by (with_reducible repeat (first | refine blk_drewN ?_ _ | refine blk_drew ?_ | refine blk_alloc ?_ _)); exact BK140.out) hb); have n1_ := Aside0.mk (below_step (by repeat (first | (with_reducible first | exact HB.out | apply below_alloc | apply pw_below_drewN | apply below_drew1 | refine below_set ?_ GE140.out) | exact HB.out)) hb); clear BK140; clear HB; have BK140 := n0_; have HB := n1_; clear n0_ n1_; (try clear hb); (try clear hb2); (try clear hk); (try clear hi)))
      go_ret2
      exact ⟨by first | rfl | (simp [errW_none, errW_some] <;> rfl) | (simp only [← hji4, ← hji6, ← hji8]; first | rfl | (simp [errW_none, errW_some] <;> rfl)) | (simp [*, errW_none, errW_some] <;> rfl), by repeat (first | (with_reducible first | exact HB.out | apply below_alloc | apply pw_below_drewN | apply below_drew1 | refine below_set ?_ GE140.out) | exact HB.out)⟩
    · rw [if_neg c9] at H
      have c9b0 : ((wrap64 (ji6)) == 0) = false := beq_eq_false_iff_ne.mpr c9
      have c9b1 : ((wrap64 (ji6)) != 0) = true := bne_iff_ne.mpr c9
      have c16b0 := eq_true (of_decide_eq_true (by first | (with_reducible assumption) | assumption) : 0 ≤ (ji4))
      replace H := Option.bind_eq_some_iff.mp H
      obtain ⟨t143, A180, H⟩ := H
      replace H : (some (Go.bits .or .u64 (Go.bits .and .u64 t141 (IntKind.u64.wrap ((ji8) - 1))) (ji8), wrap64 ((wrap64 (t143 + (wrap64 (ji6)))) - 1))) = some (r1, r2) := H
      have A18 := Aside0.mk A180
      clear A180
      simp only [Option.some.injEq, Prod.mk.injEq] at H
      obtain ⟨rfl, rfl⟩ := H
      go_enter Tryz.func75, Tryz.ntmps75
      try go_wp2_with (first | ((with_reducible refine gate_dst (N := 2) rfl ?_); refine box_event ?hg (N := 2) ?hd (cs := #[.int .i64 a0_0, .int .i64 a0_1]) (t := 95) ?hr ?_; (case hd => rfl); (case hg => rfl); (case hr => first | (go_simp; done) | (go_simp; rfl)); intro gb140 hg w19 hbox hb; have n0_ := Aside0.mk (below_step (by repeat (first | (with_reducible first | exact HB.out | apply below_alloc | apply pw_below_drewN | apply below_drew1) | exact HB.out)) hb); have n1_ := Aside0.mk (hbox); have n2_ := Aside0.mk ((by rw [hg]; exact (below_size (by repeat (first | (with_reducible first | exact HB.out | apply below_alloc | apply pw_below_drewN | apply below_drew1) | exact HB.out))) : w.heap.size ≤ gb140)); have n3_ := Aside0.mk ((by rw [hg]; exact (below_size (by repeat (first | (with_reducible first | exact HB.out | apply below_alloc | apply pw_below_drewN | apply below_drew1) | exact HB.out))) : w.heap.size ≤ gb140)); clear HB; have HB := n0_; have BK140 := n1_; have GW140 := n2_; have GE140 := n3_; clear n0_ n1_ n2_ n3_; clear hb hbox hg; have hcz20_0 : w19.cell? ⟨gb140, 0, none⟩ = some (.int .i64 a0_0) := (blk_cell BK140.out 0).trans rfl; have hcz20_1 : w19.cell? ⟨gb140, 1, none⟩ = some (.int .i64 a0_1) := (blk_cell BK140.out 1).trans rfl; have hfz20_0 := blk_frozen BK140.out 0; have hfz20_1 := blk_frozen BK140.out 1) | ((with_reducible refine gate_callee (f := 69) rfl ?_); refine goesL_ (some 11) rfl rfl Tryz.func69 (by kernel_rfl) rfl #[.agg #[.int .i64 a0_0, .int .i64 a0_1], .int .u64 a1] rfl (by (try simp only [List.map_toArray, List.map_cons, List.map_nil]); first | done | rfl | (simp only [List.length_drop, List.length_take]; rfl)) ?_; (with_reducible refine (floats_format_size.calls a0_0 a0_1 a1 t141 _ A3.out).mono ?_); rintro e w21 ⟨rfl, hb⟩; refine ⟨_, rfl, ?_⟩; have n0_ := Aside0.mk (blk_below (g := gb140) (o := .cells #[.int .i64 a0_0, .int .i64 a0_1] 95 (0, 0)) (by (with_reducible repeat (first | refine blk_drewN ?_ _ | refine blk_drew ?_ | refine blk_alloc ?_ _)); exact BK140.out) hb); have n1_ := Aside0.mk (below_step (by repeat (first | (with_reducible first | exact HB.out | apply below_alloc | apply pw_below_drewN | apply below_drew1 | refine below_set ?_ GE140.out) | exact HB.out)) hb); clear BK140; clear HB; have BK140 := n0_; have HB := n1_; clear n0_ n1_; (try clear hb); (try clear hb2); (try clear hk); (try clear hi); have hcz22_0 : w21.cell? ⟨gb140, 0, none⟩ = some (.int .i64 a0_0) := (blk_cell BK140.out 0).trans rfl; have hcz22_1 : w21.cell? ⟨gb140, 1, none⟩ = some (.int .i64 a0_1) := (blk_cell BK140.out 1).trans rfl; have hfz22_0 := blk_frozen BK140.out 0; have hfz22_1 := blk_frozen BK140.out 1))
      have n0_ := Aside0.mk (blk_drew BK140.out)
      have n1_ := Aside0.mk (below_drew1 HB.out)
      clear BK140
      clear HB
      have BK140 := n0_
      have HB := n1_
      clear n0_ n1_
      refine start_ (n := 13) (S := fun w' => w'.cell? ⟨gb140, 0, none⟩ = some (.int .i64 a0_0) ∧ w'.cell? ⟨gb140, 1, none⟩ = some (.int .i64 a0_1)) (ds := []) #[false, false, false, false, false, false, false, false, false, false, false, false, false] (by kernel_rfl) rfl rfl ⟨(blk_cell BK140.out 0).trans rfl, (blk_cell BK140.out 1).trans rfl⟩ (fun hHeld => ?_); refine with_tabW floats_format_parts.tab6 floats_format_parts.bits6 (fun HT_ HW_ => ?_)
      generalize w21.drew = w23 at BK140 HB hHeld ⊢
      refine pure_ (i := 0) (N := some 30) (v := ?_) (a' := ?_) #[true, false, false, false, false, false, false, false, false, false, false, false, false] rfl rfl (any_of HT_.out (by kernel_rfl)) (fun _ _ _ h => h) (Or.inl ⟨by rfl, ?_⟩) ?_ ?_
      rotate_left
      · intro w'
        go_simp
        with_reducible rfl
      rotate_left
      · simp only [Act.put, List.setIfInBounds_toArray, List.set_cons_zero, List.set_cons_succ, i64_w, i32_w]
        rfl
      refine pure_ (i := 1) (N := some 31) (v := ?_) (a' := ?_) #[true, true, false, false, false, false, false, false, false, false, false, false, false] rfl rfl (any_of HT_.out (by kernel_rfl)) (fun _ _ _ h => h) (Or.inl ⟨by rfl, ?_⟩) ?_ ?_
      rotate_left
      · intro w'
        go_simp
        with_reducible rfl
      rotate_left
      · simp only [Act.put, List.setIfInBounds_toArray, List.set_cons_zero, List.set_cons_succ, i64_w, i32_w]
        rfl
      refine pure_ (i := 8) (N := some 38) (v := ?_) (a' := ?_) #[true, true, false, false, false, false, false, false, true, false, false, false, false] rfl rfl (any_of HT_.out (by kernel_rfl)) (fun _ _ _ h => h) (Or.inl ⟨by rfl, ?_⟩) ?_ ?_
      rotate_left
      · intro w'
        go_simp
        with_reducible rfl
      rotate_left
      · simp only [Act.put, List.setIfInBounds_toArray, List.set_cons_zero, List.set_cons_succ, i64_w, i32_w]
        rfl
      refine take_ (i := 2) (N := some 32) (v := ?_) (a' := ?_) #[true, true, true, false, false, false, false, false, true, false, false, false, false] rfl rfl (take_ofW HT_.out HW_.out (by kernel_rfl)) (fun _ _ _ h => h) (Or.inl ⟨by rfl, ?_⟩) hHeld ?_ ?_
      rotate_left
      · rintro w' ⟨s0, s1⟩
        go_simp
        with_reducible rfl
      rotate_left
      · simp only [Act.put, List.setIfInBounds_toArray, List.set_cons_zero, List.set_cons_succ, i64_w, i32_w]
        rfl
      refine pure_ (i := 3) (N := some 33) (v := ?_) (a' := ?_) #[true, true, true, true, false, false, false, false, true, false, false, false, false] rfl rfl (any_of HT_.out (by kernel_rfl)) (fun _ _ _ h => h) (Or.inl ⟨by rfl, ?_⟩) ?_ ?_
      rotate_left
      · intro w'
        go_simp
        with_reducible rfl
      rotate_left
      · simp only [Act.put, List.setIfInBounds_toArray, List.set_cons_zero, List.set_cons_succ, i64_w, i32_w]
        rfl
      refine pure_ (i := 4) (N := some 34) (v := ?_) (a' := ?_) #[true, true, true, true, true, false, false, false, true, false, false, false, false] rfl rfl (any_of HT_.out (by kernel_rfl)) (fun _ _ _ h => h) (Or.inl ⟨by rfl, ?_⟩) ?_ ?_
      rotate_left
      · intro w'
        go_simp
        with_reducible rfl
      rotate_left
      · simp only [Act.put, List.setIfInBounds_toArray, List.set_cons_zero, List.set_cons_succ, i64_w, i32_w]
        rfl
      refine pure_ (i := 5) (N := some 35) (v := ?_) (a' := ?_) #[true, true, true, true, true, true, false, false, true, false, false, false, false] rfl rfl (any_of HT_.out (by kernel_rfl)) (fun _ _ _ h => h) (Or.inl ⟨by rfl, ?_⟩) ?_ ?_
      rotate_left
      · intro w'
        go_simp
        with_reducible rfl
      rotate_left
      · simp only [Act.put, List.setIfInBounds_toArray, List.set_cons_zero, List.set_cons_succ, i64_w, i32_w]
        rfl
      refine take_ (i := 6) (N := some 36) (v := ?_) (a' := ?_) #[true, true, true, true, true, true, true, false, true, false, false, false, false] rfl rfl (take_ofW HT_.out HW_.out (by kernel_rfl)) (fun _ _ _ h => h) (Or.inl ⟨by rfl, ?_⟩) hHeld ?_ ?_
      rotate_left
      · rintro w' ⟨s0, s1⟩
        go_simp
        with_reducible rfl
      rotate_left
      · simp only [Act.put, List.setIfInBounds_toArray, List.set_cons_zero, List.set_cons_succ, i64_w, i32_w]
        rfl
      refine one_ (i := 7) (N := some 37) #[true, true, true, true, true, true, true, true, true, false, false, false, false] rfl rfl (one_of HT_.out (by kernel_rfl)) (by decide) (fun K hK => ?_)
      refine goes_ Tryz.func112 (by kernel_rfl) rfl #[.agg #[.int .i64 a0_0, .int .i64 a0_1]] (by rfl) rfl rfl (by (try simp only [List.map_toArray, List.map_cons, List.map_nil]); first | done | rfl | (simp only [List.length_drop, List.length_take]; rfl)) ?_
      with_reducible refine (floats_format_least.calls a0_0 a0_1 t143 _ A18.out).mono ?_
      rintro e w24 ⟨rfl, hb⟩
      refine ⟨_, rfl, ?_⟩
      have n0_ := Aside0.mk (blk_below (g := gb140) (o := .cells #[.int .i64 a0_0, .int .i64 a0_1] 95 (0, 0)) (by (with_reducible repeat (first | refine blk_drewN ?_ _ | refine blk_drew ?_ | refine blk_alloc ?_ _)); exact BK140.out) hb)
      have n1_ := Aside0.mk (below_step (by repeat (first | (with_reducible first | exact HB.out | apply below_alloc | apply pw_below_drewN | apply below_drew1 | refine below_set ?_ GE140.out) | exact HB.out)) hb)
      clear BK140
      clear HB
      have BK140 := n0_
      have HB := n1_
      clear n0_ n1_
      (try clear hb)
      (try clear hb2)
      (try clear hk)
      (try clear hi)
      refine hK.out _ _ ⟨(blk_cell BK140.out 0).trans rfl, (blk_cell BK140.out 1).trans rfl⟩ (fun hHeld => ?_)
      clear hK K
      refine norm_ (a' := ?_) ?_ ?_
      rotate_left
      · show Act.put _ (some 37) _ = _
        simp only [Act.put, List.setIfInBounds_toArray, List.set_cons_zero, List.set_cons_succ, i64_w, i32_w]
        rfl
      refine pure_ (i := 9) (N := some 39) (v := ?_) (a' := ?_) #[true, true, true, true, true, true, true, true, true, true, false, false, false] rfl rfl (any_of HT_.out (by kernel_rfl)) (fun _ _ _ h => h) (Or.inl ⟨by rfl, ?_⟩) ?_ ?_
      rotate_left
      · intro w'
        go_simp
        with_reducible rfl
      rotate_left
      · simp only [Act.put, List.setIfInBounds_toArray, List.set_cons_zero, List.set_cons_succ, i64_w, i32_w]
        rfl
      refine pure_ (i := 10) (N := some 40) (v := ?_) (a' := ?_) #[true, true, true, true, true, true, true, true, true, true, true, false, false] rfl rfl (any_of HT_.out (by kernel_rfl)) (fun _ _ _ h => h) (Or.inl ⟨by rfl, ?_⟩) ?_ ?_
      rotate_left
      · intro w'
        go_simp
        with_reducible rfl
      rotate_left
      · simp only [Act.put, List.setIfInBounds_toArray, List.set_cons_zero, List.set_cons_succ, i64_w, i32_w]
        rfl
      refine pure_ (i := 11) (N := some 4) (v := ?_) (a' := ?_) #[true, true, true, true, true, true, true, true, true, true, true, true, false] rfl rfl (any_of HT_.out (by kernel_rfl)) (fun _ _ _ h => h) (Or.inl ⟨by rfl, ?_⟩) ?_ ?_
      rotate_left
      · intro w'
        go_simp
        with_reducible rfl
      rotate_left
      · simp only [Act.put, List.setIfInBounds_toArray, List.set_cons_zero, List.set_cons_succ, i64_w, i32_w]
        rfl
      refine pure_ (i := 12) (N := some 5) (v := ?_) (a' := ?_) #[true, true, true, true, true, true, true, true, true, true, true, true, true] rfl rfl (any_of HT_.out (by kernel_rfl)) (fun _ _ _ h => h) (Or.inl ⟨by rfl, ?_⟩) ?_ ?_
      rotate_left
      · intro w'
        go_simp
        with_reducible rfl
      rotate_left
      · simp only [Act.put, List.setIfInBounds_toArray, List.set_cons_zero, List.set_cons_succ, i64_w, i32_w]
        rfl
      refine done_ (done_of HT_.out (by kernel_rfl)) ?_
      try go_wp2
      go_ret2
      exact ⟨by first | rfl | (simp [errW_none, errW_some] <;> rfl) | (simp only [← hji4, ← hji6, ← hji8]; first | rfl | (simp [errW_none, errW_some] <;> rfl)) | (simp [*, errW_none, errW_some] <;> rfl), by repeat (first | (with_reducible first | exact HB.out | apply below_alloc | apply pw_below_drewN | apply below_drew1 | refine below_set ?_ GE140.out) | exact HB.out)⟩
  · rw [if_neg c5] at H
    exact absurd H (by simp)
def floats_format_neg.f (a0_0 : Int) (a0_1 : Int) (a1 : Int) : Option (Bool) := (floats_format_sign.f a0_0 a0_1).bind fun t145 => (some ((Go.bits .and .u64 a1 t145) != 0))
set_option maxHeartbeats 8000000 in
set_option maxRecDepth 100000 in
theorem floats_format_neg.calls (a0_0 : Int) (a0_1 : Int) (a1 : Int) (r : Bool) (w : World) (h : floats_format_neg.f a0_0 a0_1 a1 = some r) :
    Calls Tryz.prog 76 #[.agg #[.int .i64 a0_0, .int .i64 a0_1], .int .u64 a1] w fun e w' => e = .returned (.bool r) ∧ Below w.heap.size w w' := by
  have hu95 := Tryz.underlying95
  have HB := Aside0.mk (Below.refl w.heap.size w)
  have H : ((floats_format_sign.f a0_0 a0_1).bind fun t145 => (some ((Go.bits .and .u64 a1 t145) != 0))) = some r := h
  clear h
  replace H := Option.bind_eq_some_iff.mp H
  obtain ⟨t145, A30, H⟩ := H
  replace H : (some ((Go.bits .and .u64 a1 t145) != 0)) = some r := H
  have A3 := Aside0.mk A30
  clear A30
  obtain rfl := Option.some.inj H
  go_enter Tryz.func76, Tryz.ntmps76
  go_wp2_with (first | ((with_reducible refine gate_dst (N := 2) rfl ?_); refine box_event ?hg (N := 2) ?hd (cs := #[.int .i64 a0_0, .int .i64 a0_1]) (t := 95) ?hr ?_; (case hd => rfl); (case hg => rfl); (case hr => first | (go_simp; done) | (go_simp; rfl)); intro gb144 hg w4 hbox hb; have n0_ := Aside0.mk (below_step (by repeat (first | (with_reducible first | exact HB.out | apply below_alloc | apply pw_below_drewN | apply below_drew1) | exact HB.out)) hb); have n1_ := Aside0.mk (hbox); have n2_ := Aside0.mk ((by rw [hg]; exact (below_size (by repeat (first | (with_reducible first | exact HB.out | apply below_alloc | apply pw_below_drewN | apply below_drew1) | exact HB.out))) : w.heap.size ≤ gb144)); have n3_ := Aside0.mk ((by rw [hg]; exact (below_size (by repeat (first | (with_reducible first | exact HB.out | apply below_alloc | apply pw_below_drewN | apply below_drew1) | exact HB.out))) : w.heap.size ≤ gb144)); clear HB; have HB := n0_; have BK144 := n1_; have GW144 := n2_; have GE144 := n3_; clear n0_ n1_ n2_ n3_; clear hb hbox hg; have hcz5_0 : w4.cell? ⟨gb144, 0, none⟩ = some (.int .i64 a0_0) := (blk_cell BK144.out 0).trans rfl; have hcz5_1 : w4.cell? ⟨gb144, 1, none⟩ = some (.int .i64 a0_1) := (blk_cell BK144.out 1).trans rfl; have hfz5_0 := blk_frozen BK144.out 0; have hfz5_1 := blk_frozen BK144.out 1) | ((with_reducible refine gate_callee (f := 109) rfl ?_); refine goesL_ (some 7) rfl rfl Tryz.func109 (by kernel_rfl) rfl #[.agg #[.int .i64 a0_0, .int .i64 a0_1]] rfl (by (try simp only [List.map_toArray, List.map_cons, List.map_nil]); first | done | rfl | (simp only [List.length_drop, List.length_take]; rfl)) ?_; (with_reducible refine (floats_format_sign.calls a0_0 a0_1 t145 _ A3.out).mono ?_); rintro e w6 ⟨rfl, hb⟩; refine ⟨_, rfl, ?_⟩; have n0_ := Aside0.mk (blk_below (g := gb144) (o := .cells #[.int .i64 a0_0, .int .i64 a0_1] 95 (0, 0)) (by (with_reducible repeat (first | refine blk_drewN ?_ _ | refine blk_drew ?_ | refine blk_alloc ?_ _)); exact BK144.out) hb); have n1_ := Aside0.mk (below_step (by repeat (first | (with_reducible first | exact HB.out | apply below_alloc | apply pw_below_drewN | apply below_drew1 | refine below_set ?_ GE144.out) | exact HB.out)) hb); clear BK144; clear HB; have BK144 := n0_; have HB := n1_; clear n0_ n1_; (try clear hb); (try clear hb2); (try clear hk); (try clear hi)))
  go_ret
  exact ⟨by first | rfl | (simp [errW_none, errW_some] <;> rfl) | (simp [*, errW_none, errW_some] <;> rfl), by repeat (first | (with_reducible first | exact HB.out | apply below_alloc | apply pw_below_drewN | apply below_drew1 | refine below_set ?_ GE144.out) | exact HB.out)⟩
def floats_Parts.j0 : Nat → Int → Int → Bool → Option (Bool × Int × Int × Int)
  | 0, _, _, _ => none
  | k + 1, x0, x1, x19 => if x19 = true then (some (false, 0, 0, 1)) else ((floats_of.f x0).bind fun bt147 => ((floats_format_parts.f bt147.1 bt147.2 x1).bind fun bt149 => ((floats_of.f x0).bind fun bt151 => ((floats_format_neg.f bt151.1 bt151.2 x1).bind fun t153 => (some (t153, bt149.1, bt149.2, 0))))))
def floats_Parts.f (k : Nat) (a0 : Int) (a1 : Int) : Option (Bool × Int × Int × Int) := (floats_Kind.f a0 a1).bind fun t146 => (if t146 = 1 then (floats_Parts.j0 k a0 a1 false) else (floats_Parts.j0 k a0 a1 (t146 != 2)))
theorem floats_Parts.mono_l : ∀ k, (∀ y0 y1 y2, LeO (floats_Parts.j0 k y0 y1 y2) (floats_Parts.j0 (k + 1) y0 y1 y2)) := by
  intro k
  induction k with
  | zero => exact fun _ _ _ r h => by simp [floats_Parts.j0] at h
  | succ k ih =>
    have ih0 := ih
    · intro y0 y1 y2
      unfold floats_Parts.j0
      repeat' first
      | (with_reducible exact ih0 _ _ _)
      | (with_reducible exact LeO.refl _)
      | (with_reducible exact LeO.none _)
      | (with_reducible refine LeO.ite ?_ ?_)
      | (with_reducible refine LeO.bind ?_ (fun _ => ?_))
      | exact ih0 _ _ _
      | exact LeO.none _
      | refine LeO.ite ?_ ?_
      | refine LeO.bind ?_ (fun _ => ?_)
theorem floats_Parts.mono : ∀ a0 a1 k, LeO (floats_Parts.f k a0 a1) (floats_Parts.f (k + 1) a0 a1) := by
  intro a0 a1 k
  have ih0 := floats_Parts.mono_l k
  unfold floats_Parts.f
  repeat' first
      | (with_reducible exact ih0 _ _ _)
      | (with_reducible exact LeO.refl _)
      | (with_reducible exact LeO.none _)
      | (with_reducible refine LeO.ite ?_ ?_)
      | (with_reducible refine LeO.bind ?_ (fun _ => ?_))
      | exact ih0 _ _ _
      | exact LeO.none _
      | refine LeO.ite ?_ ?_
      | refine LeO.bind ?_ (fun _ => ?_)
set_option maxHeartbeats 8000000 in
set_option maxRecDepth 100000 in
theorem floats_Parts.calls (k : Nat) (a0 : Int) (a1 : Int) (r1 : Bool) (r2 : Int) (r3 : Int) (r4 : Int) (w : World) (h : floats_Parts.f k a0 a1 = some (r1, r2, r3, r4)) :
    Calls Tryz.prog 39 #[.int .i64 a0, .int .u64 a1] w fun e w' => e = .returned (.tuple #[.bool r1, .int .u64 r2, .int .i64 r3, .int .i64 r4]) ∧ Below w.heap.size w w' := by
  have HB := Aside0.mk (Below.refl w.heap.size w)
  have H : ((floats_Kind.f a0 a1).bind fun t146 => (if t146 = 1 then (floats_Parts.j0 k a0 a1 false) else (floats_Parts.j0 k a0 a1 (t146 != 2)))) = some (r1, r2, r3, r4) := h
  clear h
  replace H := Option.bind_eq_some_iff.mp H
  obtain ⟨t146, A30, H⟩ := H
  replace H : (if t146 = 1 then (floats_Parts.j0 k a0 a1 false) else (floats_Parts.j0 k a0 a1 (t146 != 2))) = some (r1, r2, r3, r4) := H
  have A3 := Aside0.mk A30
  clear A30
  have HC4 := Aside0.mk H
  clear H
  go_enter Tryz.func39, Tryz.ntmps39
  go_upto_region 2 with (first | ((with_reducible refine gate_callee (f := 35) rfl ?_); refine goesL_ (some 13) rfl rfl Tryz.func35 (by kernel_rfl) rfl #[.int .i64 a0, .int .u64 a1] rfl (by (try simp only [List.map_toArray, List.map_cons, List.map_nil]); first | done | rfl | (simp only [List.length_drop, List.length_take]; rfl)) ?_; (with_reducible refine (floats_Kind.calls a0 a1 t146 _ A3.out).mono ?_); rintro e w5 ⟨rfl, hb⟩; refine ⟨_, rfl, ?_⟩; have n0_ := Aside0.mk (below_step (by repeat (first | (with_reducible first | exact HB.out | apply below_alloc | apply pw_below_drewN | apply below_drew1) | exact HB.out)) hb); clear HB; have HB := n0_; clear n0_; (try clear hb); (try clear hb2); (try clear hk); (try clear hi)))
  (try simp only [Act.put, List.setIfInBounds_toArray, List.set_cons_zero, List.set_cons_succ])
  go_cut [19] (fun v19 wc => ∃ (kq : Nat) (x19_3 : Bool), v19 = .bool x19_3 ∧ Aside0 (floats_Parts.j0 kq a0 a1 x19_3 = some (r1, r2, r3, r4)) ∧ Aside0 (kq ≤ k) ∧ Aside0 (Below w.heap.size w wc))
  case first =>
    have H := HC4.out
    clear HC4
    by_cases c6 : t146 = 1
    · rw [if_pos c6] at H
      have c6b0 : (t146 == 1) = true := beq_iff_eq.mpr c6
      have c6b1 : (t146 != 1) = false := bne_eq_false_iff_eq.mpr c6
      clear c6
      (first | rw [c6b0] | (simp only [i64_w, i32_w]; rw [c6b0]) | skip)
      have H' := Aside0.mk H
      clear H
      go_wp2
      go_meet
      case rel => exact ⟨_, (false), (by first | rfl | (simp; done) | (simp [*]; done)), H', ⟨by first | omega | exact Nat.le_refl _⟩, ⟨by repeat (first | (with_reducible first | exact HB.out | apply below_alloc | apply pw_below_drewN | apply below_drew1) | exact HB.out)⟩⟩
    · rw [if_neg c6] at H
      have c6b0 : (t146 == 1) = false := beq_eq_false_iff_ne.mpr c6
      have c6b1 : (t146 != 1) = true := bne_iff_ne.mpr c6
      (first | rw [c6b0] | (simp only [i64_w, i32_w]; rw [c6b0]) | skip)
      have H' := Aside0.mk H
      clear H
      go_wp2
      go_meet
      case rel => exact ⟨_, ((t146 != 2)), (by first | rfl | (simp; done) | (simp [*]; done)), H', ⟨by first | omega | exact Nat.le_refl _⟩, ⟨by repeat (first | (with_reducible first | exact HB.out | apply below_alloc | apply pw_below_drewN | apply below_drew1) | exact HB.out)⟩⟩
  case rest =>
    clear HC4
    try clear p2
    try clear c3
    try clear c6
    try clear c6b0
    try clear c6b1
    obtain ⟨kq, x19_3, rfl, HA, HJ3, HB⟩ := hcut
    cases kq with
    | zero => exact absurd HA.out (by simp [floats_Parts.j0])
    | succ kj3 =>
      have H := HA.out
      clear HA
      simp only [floats_Parts.j0] at H
      by_cases c7 : x19_3 = true
      · subst c7
        have H1 : (some (false, 0, 0, 1)) = some (r1, r2, r3, r4) := by rw [if_pos rfl] at H; exact H
        clear H
        have H := H1
        clear H1
        simp only [Option.some.injEq, Prod.mk.injEq] at H
        obtain ⟨rfl, rfl, rfl, rfl⟩ := H
        go_wp2
        refine bodyPost_ret (results_list (rs := [.tmp 4, .tmp 5, .tmp 6, .tmp 7]) rfl (by simp) (.tmp (.tmp (.tmp (.tmp .nil))))) rfl ?_
        exact ⟨by first | rfl | (simp [errW_none, errW_some] <;> rfl) | (simp [*, errW_none, errW_some] <;> rfl), by repeat (first | (with_reducible first | exact HB.out | apply below_alloc | apply pw_below_drewN | apply below_drew1) | exact HB.out)⟩
      · replace c7 := Bool.eq_false_iff.mpr c7
        subst c7
        have H1 : ((floats_of.f a0).bind fun bt147 => ((floats_format_parts.f bt147.1 bt147.2 a1).bind fun bt149 => ((floats_of.f a0).bind fun bt151 => ((floats_format_neg.f bt151.1 bt151.2 a1).bind fun t153 => (some (t153, bt149.1, bt149.2, 0)))))) = some (r1, r2, r3, r4) := by rw [if_neg (show ¬ (false = true) by decide)] at H; exact H
        clear H
        have H := H1
        clear H1
        replace H := Option.bind_eq_some_iff.mp H
        obtain ⟨⟨t147, t148⟩, A80, H⟩ := H
        replace H : ((floats_format_parts.f t147 t148 a1).bind fun bt149 => ((floats_of.f a0).bind fun bt151 => ((floats_format_neg.f bt151.1 bt151.2 a1).bind fun t153 => (some (t153, bt149.1, bt149.2, 0))))) = some (r1, r2, r3, r4) := H
        have A8 := Aside0.mk A80
        clear A80
        replace H := Option.bind_eq_some_iff.mp H
        obtain ⟨⟨t149, t150⟩, A90, H⟩ := H
        replace H : ((floats_of.f a0).bind fun bt151 => ((floats_format_neg.f bt151.1 bt151.2 a1).bind fun t153 => (some (t153, t149, t150, 0)))) = some (r1, r2, r3, r4) := H
        have A9 := Aside0.mk A90
        clear A90
        replace H := Option.bind_eq_some_iff.mp H
        obtain ⟨⟨t151, t152⟩, A100, H⟩ := H
        replace H : ((floats_format_neg.f t151 t152 a1).bind fun t153 => (some (t153, t149, t150, 0))) = some (r1, r2, r3, r4) := H
        have A10 := Aside0.mk A100
        clear A100
        replace H := Option.bind_eq_some_iff.mp H
        obtain ⟨t153, A110, H⟩ := H
        replace H : (some (t153, t149, t150, 0)) = some (r1, r2, r3, r4) := H
        have A11 := Aside0.mk A110
        clear A110
        simp only [Option.some.injEq, Prod.mk.injEq] at H
        obtain ⟨rfl, rfl, rfl, rfl⟩ := H
        go_wp2_with (first | ((with_reducible refine gate_callee (f := 68) rfl ?_); refine goesL_ (some 22) rfl rfl Tryz.func68 (by kernel_rfl) rfl #[.int .i64 a0] rfl (by (try simp only [List.map_toArray, List.map_cons, List.map_nil]); first | done | rfl | (simp only [List.length_drop, List.length_take]; rfl)) ?_; (with_reducible refine (floats_of.calls a0 t147 t148 _ A8.out).mono ?_); rintro e w12 ⟨rfl, hb⟩; refine ⟨_, rfl, ?_⟩; have n0_ := Aside0.mk (below_step (by repeat (first | (with_reducible first | exact HB.out | apply below_alloc | apply pw_below_drewN | apply below_drew1) | exact HB.out)) hb); clear HB; have HB := n0_; clear n0_; (try clear hb); (try clear hb2); (try clear hk); (try clear hi)) | ((with_reducible refine gate_callee (f := 75) rfl ?_); refine goesL_ (some 24) rfl rfl Tryz.func75 (by kernel_rfl) rfl #[.agg #[.int .i64 t147, .int .i64 t148], .int .u64 a1] rfl (by (try simp only [List.map_toArray, List.map_cons, List.map_nil]); first | done | rfl | (simp only [List.length_drop, List.length_take]; rfl)) ?_; (with_reducible refine (floats_format_parts.calls t147 t148 a1 t149 t150 _ A9.out).mono ?_); rintro e w13 ⟨rfl, hb⟩; refine ⟨_, rfl, ?_⟩; have n0_ := Aside0.mk (below_step (by repeat (first | (with_reducible first | exact HB.out | apply below_alloc | apply pw_below_drewN | apply below_drew1) | exact HB.out)) hb); clear HB; have HB := n0_; clear n0_; (try clear hb); (try clear hb2); (try clear hk); (try clear hi)) | ((with_reducible refine gate_callee (f := 68) rfl ?_); refine goesL_ (some 28) rfl rfl Tryz.func68 (by kernel_rfl) rfl #[.int .i64 a0] rfl (by (try simp only [List.map_toArray, List.map_cons, List.map_nil]); first | done | rfl | (simp only [List.length_drop, List.length_take]; rfl)) ?_; (with_reducible refine (floats_of.calls a0 t151 t152 _ A10.out).mono ?_); rintro e w14 ⟨rfl, hb⟩; refine ⟨_, rfl, ?_⟩; have n0_ := Aside0.mk (below_step (by repeat (first | (with_reducible first | exact HB.out | apply below_alloc | apply pw_below_drewN | apply below_drew1) | exact HB.out)) hb); clear HB; have HB := n0_; clear n0_; (try clear hb); (try clear hb2); (try clear hk); (try clear hi)) | ((with_reducible refine gate_callee (f := 76) rfl ?_); refine goesL_ (some 30) rfl rfl Tryz.func76 (by kernel_rfl) rfl #[.agg #[.int .i64 t151, .int .i64 t152], .int .u64 a1] rfl (by (try simp only [List.map_toArray, List.map_cons, List.map_nil]); first | done | rfl | (simp only [List.length_drop, List.length_take]; rfl)) ?_; (with_reducible refine (floats_format_neg.calls t151 t152 a1 t153 _ A11.out).mono ?_); rintro e w15 ⟨rfl, hb⟩; refine ⟨_, rfl, ?_⟩; have n0_ := Aside0.mk (below_step (by repeat (first | (with_reducible first | exact HB.out | apply below_alloc | apply pw_below_drewN | apply below_drew1) | exact HB.out)) hb); clear HB; have HB := n0_; clear n0_; (try clear hb); (try clear hb2); (try clear hk); (try clear hi)))
        refine bodyPost_ret (results_list (rs := [.tmp 4, .tmp 5, .tmp 6, .tmp 7]) rfl (by simp) (.tmp (.tmp (.tmp (.tmp .nil))))) rfl ?_
        exact ⟨by first | rfl | (simp [errW_none, errW_some] <;> rfl) | (simp [*, errW_none, errW_some] <;> rfl), by repeat (first | (with_reducible first | exact HB.out | apply below_alloc | apply pw_below_drewN | apply below_drew1) | exact HB.out)⟩
def ints_right.f (a0 : Int) : Option (Bool) := if a0 = 8 then (some true) else (if a0 = 16 then (some true) else (if a0 = 32 then (some true) else (some (a0 == 64))))
set_option maxHeartbeats 8000000 in
set_option maxRecDepth 100000 in
theorem ints_right.calls (a0 : Int) (r : Bool) (w : World) (h : ints_right.f a0 = some r) :
    Calls Tryz.prog 67 #[.int .i64 a0] w fun e w' => e = .returned (.bool r) ∧ Drawn0 w w' := by
  have H : (if a0 = 8 then (some true) else (if a0 = 16 then (some true) else (if a0 = 32 then (some true) else (some (a0 == 64))))) = some r := h
  clear h
  by_cases c2 : a0 = 8
  · rw [if_pos c2] at H
    have c2b0 : (a0 == 8) = true := beq_iff_eq.mpr c2
    have c2b1 : (a0 != 8) = false := bne_eq_false_iff_eq.mpr c2
    clear c2
    obtain rfl := Option.some.inj H
    go_enter Tryz.func67, Tryz.ntmps67
    go_wp2
    go_ret
    exact ⟨by first | rfl | (simp; done) | (simp [*]; done), by repeat (first | exact Drawn0.refl _ | apply Drawn0.step)⟩
  · rw [if_neg c2] at H
    have c2b0 : (a0 == 8) = false := beq_eq_false_iff_ne.mpr c2
    have c2b1 : (a0 != 8) = true := bne_iff_ne.mpr c2
    by_cases c3 : a0 = 16
    · rw [if_pos c3] at H
      have c3b0 : (a0 == 16) = true := beq_iff_eq.mpr c3
      have c3b1 : (a0 != 16) = false := bne_eq_false_iff_eq.mpr c3
      clear c3
      obtain rfl := Option.some.inj H
      go_enter Tryz.func67, Tryz.ntmps67
      go_wp2
      go_ret
      exact ⟨by first | rfl | (simp; done) | (simp [*]; done), by repeat (first | exact Drawn0.refl _ | apply Drawn0.step)⟩
    · rw [if_neg c3] at H
      have c3b0 : (a0 == 16) = false := beq_eq_false_iff_ne.mpr c3
      have c3b1 : (a0 != 16) = true := bne_iff_ne.mpr c3
      by_cases c4 : a0 = 32
      · rw [if_pos c4] at H
        have c4b0 : (a0 == 32) = true := beq_iff_eq.mpr c4
        have c4b1 : (a0 != 32) = false := bne_eq_false_iff_eq.mpr c4
        clear c4
        obtain rfl := Option.some.inj H
        go_enter Tryz.func67, Tryz.ntmps67
        go_wp2
        go_ret
        exact ⟨by first | rfl | (simp; done) | (simp [*]; done), by repeat (first | exact Drawn0.refl _ | apply Drawn0.step)⟩
      · rw [if_neg c4] at H
        have c4b0 : (a0 == 32) = false := beq_eq_false_iff_ne.mpr c4
        have c4b1 : (a0 != 32) = true := bne_iff_ne.mpr c4
        obtain rfl := Option.some.inj H
        go_enter Tryz.func67, Tryz.ntmps67
        go_wp2
        go_ret
        exact ⟨by first | rfl | (simp; done) | (simp [*]; done), by repeat (first | exact Drawn0.refl _ | apply Drawn0.step)⟩
def ints_Signed.f (a0 : Int) (a1 : Int) : Option (Int) := (ints_right.f a0).bind fun t154 => (if t154 = true then (if 0 ≤ (IntKind.u64.wrap (64 - (IntKind.u64.wrap (a0)))) then (some (shr .i64 (wrap64 (shl .u64 a1 (IntKind.u64.wrap (64 - (IntKind.u64.wrap (a0)))))) (IntKind.u64.wrap (64 - (IntKind.u64.wrap (a0)))))) else (none)) else (some 0))
set_option maxHeartbeats 8000000 in
set_option maxRecDepth 100000 in
theorem ints_Signed.calls (a0 : Int) (a1 : Int) (r : Int) (w : World) (h : ints_Signed.f a0 a1 = some r) :
    Calls Tryz.prog 34 #[.int .i64 a0, .int .u64 a1] w fun e w' => e = .returned (.int .i64 r) ∧ Drawn0 w w' := by
  have H : ((ints_right.f a0).bind fun t154 => (if t154 = true then (if 0 ≤ (IntKind.u64.wrap (64 - (IntKind.u64.wrap (a0)))) then (some (shr .i64 (wrap64 (shl .u64 a1 (IntKind.u64.wrap (64 - (IntKind.u64.wrap (a0)))))) (IntKind.u64.wrap (64 - (IntKind.u64.wrap (a0)))))) else (none)) else (some 0))) = some r := h
  clear h
  replace H := Option.bind_eq_some_iff.mp H
  obtain ⟨t154, A30, H⟩ := H
  replace H : (if t154 = true then (if 0 ≤ (IntKind.u64.wrap (64 - (IntKind.u64.wrap (a0)))) then (some (shr .i64 (wrap64 (shl .u64 a1 (IntKind.u64.wrap (64 - (IntKind.u64.wrap (a0)))))) (IntKind.u64.wrap (64 - (IntKind.u64.wrap (a0)))))) else (none)) else (some 0)) = some r := H
  have A3 := Aside0.mk A30
  clear A30
  by_cases c4 : t154 = true
  · subst c4
    have H1 : (if 0 ≤ (IntKind.u64.wrap (64 - (IntKind.u64.wrap (a0)))) then (some (shr .i64 (wrap64 (shl .u64 a1 (IntKind.u64.wrap (64 - (IntKind.u64.wrap (a0)))))) (IntKind.u64.wrap (64 - (IntKind.u64.wrap (a0)))))) else (none)) = some r := by rw [if_pos rfl] at H; exact H
    clear H
    have H := H1
    clear H1
    obtain ⟨ji5, hji5⟩ : ∃ j_ : Int, (IntKind.u64.wrap (64 - (IntKind.u64.wrap (a0)))) = j_ := ⟨_, rfl⟩
    replace H : (if 0 ≤ (ji5) then (some (shr .i64 (wrap64 (shl .u64 a1 (ji5))) (ji5))) else (none)) = some r := by first | (rw [hji5] at H; exact H) | (simp only [hji5] at H ⊢; exact H)
    (try rw [hji5] at A3)
    by_cases c6 : 0 ≤ (ji5)
    · rw [if_pos c6] at H
      have c6b0 := eq_true c6
      have c6b1 : decide (0 ≤ (ji5)) = true := decide_eq_true c6
      clear c6
      obtain ⟨ji7, hji7⟩ : ∃ j_ : Int, (shl .u64 a1 (ji5)) = j_ := ⟨_, rfl⟩
      replace H : (some (shr .i64 (wrap64 (ji7)) (ji5))) = some r := by first | (rw [hji7] at H; exact H) | (simp only [hji7] at H ⊢; exact H)
      (try rw [hji7] at A3)
      have hji7_ : (IntKind.u64.wrap (a1 * 2 ^ min (ji5).toNat 64)) = ji7 := hji7
      have hji7z : (ji5) ≤ 64 → (IntKind.u64.wrap (a1 * 2 ^ (ji5).toNat)) = ji7 := shl_small hji7
      have c8b0 := eq_true (of_decide_eq_true (by first | (with_reducible assumption) | assumption) : 0 ≤ (ji5))
      obtain ⟨ji9, hji9⟩ : ∃ j_ : Int, (shr .i64 (wrap64 (ji7)) (ji5)) = j_ := ⟨_, rfl⟩
      replace H : (some ji9) = some r := by first | (rw [hji9] at H; exact H) | (simp only [hji9] at H ⊢; exact H)
      (try rw [hji9] at A3)
      have hji9_ : ((wrap64 (ji7)) / 2 ^ min (ji5).toNat 64) = ji9 := hji9
      have hji9z : (ji5) ≤ 64 → ((wrap64 (ji7)) / 2 ^ (ji5).toNat) = ji9 := shr_small hji9
      obtain rfl := Option.some.inj H
      go_enter Tryz.func34, Tryz.ntmps34
      go_wp2_with (first | ((with_reducible refine gate_callee (f := 67) rfl ?_); refine goesL_ (some 7) rfl rfl Tryz.func67 (by kernel_rfl) rfl #[.int .i64 a0] rfl (by (try simp only [List.map_toArray, List.map_cons, List.map_nil]); first | done | rfl | (simp only [List.length_drop, List.length_take]; rfl)) ?_; (with_reducible refine (ints_right.calls a0 true _ A3.out).mono ?_); rintro e w' ⟨rfl, ⟨nd, rfl⟩⟩; refine ⟨_, rfl, ?_⟩))
      go_ret
      exact ⟨by first | rfl | (simp; done) | (simp only [← hji5, ← hji7, ← hji9] <;> (first | rfl | simp)) | (simp [*]; done), by repeat (first | exact Drawn0.refl _ | apply Drawn0.step)⟩
    · rw [if_neg c6] at H
      exact absurd H (by simp)
  · replace c4 := Bool.eq_false_iff.mpr c4
    subst c4
    have H1 : (some 0) = some r := by rw [if_neg (show ¬ (false = true) by decide)] at H; exact H
    clear H
    have H := H1
    clear H1
    obtain rfl := Option.some.inj H
    go_enter Tryz.func34, Tryz.ntmps34
    go_wp2_with (first | ((with_reducible refine gate_callee (f := 67) rfl ?_); refine goesL_ (some 7) rfl rfl Tryz.func67 (by kernel_rfl) rfl #[.int .i64 a0] rfl (by (try simp only [List.map_toArray, List.map_cons, List.map_nil]); first | done | rfl | (simp only [List.length_drop, List.length_take]; rfl)) ?_; (with_reducible refine (ints_right.calls a0 false _ A3.out).mono ?_); rintro e w' ⟨rfl, ⟨nd, rfl⟩⟩; refine ⟨_, rfl, ?_⟩))
    go_ret
    exact ⟨by first | rfl | (simp; done) | (simp [*]; done), by repeat (first | exact Drawn0.refl _ | apply Drawn0.step)⟩
def bodkinref02_Right.f (a0 : Int) : Option (Bool) := if a0 = 8 then (some true) else (if a0 = 16 then (some true) else (if a0 = 32 then (some true) else (some (a0 == 64))))
/-- THE ONE PURE STATEMENT of bodkinref02_Right: yours. -/
def bodkinref02_Right.Pure : Prop := ∀ (a0 : Int), (Lit.int .i64 a0).wf = true → bodkinref02_Right.f a0 = some true
def bodkinref02_Cut.l0 : Nat → Int → Int → Int → Int → Option (Int)
  | 0, _, _, _, _ => none
  | k + 1, x0, x1, x5, x6 => if x6 < x0 then (bodkinref02_Cut.l0 k x0 x1 (IntKind.u64.wrap (x5 * 2)) (wrap64 (x6 + 1))) else (if x5 = 0 then (none) else (some (Int.tmod x1 x5)))
def bodkinref02_Cut.f (k : Nat) (a0 : Int) (a1 : Int) : Option (Int) := if a0 = 64 then (some a1) else (bodkinref02_Cut.l0 k a0 a1 1 0)
theorem bodkinref02_Cut.mono_l : ∀ k, (∀ y0 y1 y2 y3, LeO (bodkinref02_Cut.l0 k y0 y1 y2 y3) (bodkinref02_Cut.l0 (k + 1) y0 y1 y2 y3)) := by
  intro k
  induction k with
  | zero => exact fun _ _ _ _ r h => by simp [bodkinref02_Cut.l0] at h
  | succ k ih =>
    have ih0 := ih
    · intro y0 y1 y2 y3
      unfold bodkinref02_Cut.l0
      repeat' first
      | (with_reducible exact ih0 _ _ _ _)
      | (with_reducible exact LeO.refl _)
      | (with_reducible exact LeO.none _)
      | (with_reducible refine LeO.ite ?_ ?_)
      | (with_reducible refine LeO.bind ?_ (fun _ => ?_))
      | exact ih0 _ _ _ _
      | exact LeO.none _
      | refine LeO.ite ?_ ?_
      | refine LeO.bind ?_ (fun _ => ?_)
theorem bodkinref02_Cut.mono : ∀ a0 a1 k, LeO (bodkinref02_Cut.f k a0 a1) (bodkinref02_Cut.f (k + 1) a0 a1) := by
  intro a0 a1 k
  have ih0 := bodkinref02_Cut.mono_l k
  unfold bodkinref02_Cut.f
  repeat' first
      | (with_reducible exact ih0 _ _ _ _)
      | (with_reducible exact LeO.refl _)
      | (with_reducible exact LeO.none _)
      | (with_reducible refine LeO.ite ?_ ?_)
      | (with_reducible refine LeO.bind ?_ (fun _ => ?_))
      | exact ih0 _ _ _ _
      | exact LeO.none _
      | refine LeO.ite ?_ ?_
      | refine LeO.bind ?_ (fun _ => ?_)
def bodkinref02_bit.l0 : Nat → Int → Int → Int → Option (Int)
  | 0, _, _, _ => none
  | k + 1, x0, x1, x5 => if x5 < x1 then (bodkinref02_bit.l0 k (IntKind.u64.wrap (Int.tdiv x0 2)) x1 (wrap64 (x5 + 1))) else (some (Int.tmod x0 2))
def bodkinref02_bit.f (k : Nat) (a0 : Int) (a1 : Int) : Option (Int) := bodkinref02_bit.l0 k a0 a1 0
theorem bodkinref02_bit.mono_l : ∀ k, (∀ y0 y1 y2, LeO (bodkinref02_bit.l0 k y0 y1 y2) (bodkinref02_bit.l0 (k + 1) y0 y1 y2)) := by
  intro k
  induction k with
  | zero => exact fun _ _ _ r h => by simp [bodkinref02_bit.l0] at h
  | succ k ih =>
    have ih0 := ih
    · intro y0 y1 y2
      unfold bodkinref02_bit.l0
      repeat' first
      | (with_reducible exact ih0 _ _ _)
      | (with_reducible exact LeO.refl _)
      | (with_reducible exact LeO.none _)
      | (with_reducible refine LeO.ite ?_ ?_)
      | (with_reducible refine LeO.bind ?_ (fun _ => ?_))
      | exact ih0 _ _ _
      | exact LeO.none _
      | refine LeO.ite ?_ ?_
      | refine LeO.bind ?_ (fun _ => ?_)
theorem bodkinref02_bit.mono : ∀ a0 a1 k, LeO (bodkinref02_bit.f k a0 a1) (bodkinref02_bit.f (k + 1) a0 a1) := by
  intro a0 a1 k
  have ih0 := bodkinref02_bit.mono_l k
  unfold bodkinref02_bit.f
  repeat' first
      | (with_reducible exact ih0 _ _ _)
      | (with_reducible exact LeO.refl _)
      | (with_reducible exact LeO.none _)
      | (with_reducible refine LeO.ite ?_ ?_)
      | (with_reducible refine LeO.bind ?_ (fun _ => ?_))
      | exact ih0 _ _ _
      | exact LeO.none _
      | refine LeO.ite ?_ ?_
      | refine LeO.bind ?_ (fun _ => ?_)
end Go.Proofs.YtjecdciabpjgcaaGreatDoor.PLz
namespace Go.Proofs.YtjecdciabpjgcaaGreatDoor.Pure
set_option linter.unusedVariables false
set_option linter.unusedSimpArgs false
open Go.RowKit Go.Proofs.YtjecdciabpjgcaaGreatDoor.PLz Go.Proofs.YtjecdciabpjgcaaGreatDoor.Fl Go.Proofs.YtjecdciabpjgcaaGreatDoorW.PrintWords
/-- The two formats, as the program has them. -/
def Pq (p q : Int) (f : Ieee.Format) : Prop := (p = 23 ∧ q = 8 ∧ f = Ieee.single) ∨ (p = 52 ∧ q = 11 ∧ f = Ieee.double)
theorem and_mask (A k : Nat) (hA : A < 18446744073709551616) (hk : k ≤ 64) : Go.bits .and .u64 (A : Int) ((2 ^ k : Nat) - 1 : Int) = ((A % 2 ^ k : Nat) : Int) := by
  unfold Go.bits
  have h2 : 2 ^ k ≤ 18446744073709551616 := by
    have : 2 ^ k ≤ 2 ^ 64 := Nat.pow_le_pow_right (by decide) hk
    exact this
  have hp := pw_pos k
  have e : ((2 ^ k : Nat) - 1 : Int) = ((2 ^ k - 1 : Nat) : Int) := by omega
  have hb : IntKind.bits .u64 = 64 := rfl
  simp only [e]
  rw [IntKind.wrap_u64, BitVec.toNat_and, BitVec.ofInt_natCast, BitVec.ofInt_natCast, BitVec.toNat_ofNat, BitVec.toNat_ofNat, hb]
  rw [Nat.mod_eq_of_lt (show A < 2 ^ 64 from hA), Nat.mod_eq_of_lt (show 2 ^ k - 1 < 2 ^ 64 by omega), Nat.and_two_pow_sub_one_eq_mod]
  have := Nat.mod_lt A hp
  omega
theorem and_pow (A k : Nat) : A &&& 2 ^ k = if A / 2 ^ k % 2 = 1 then 2 ^ k else 0 := by
  apply Nat.eq_of_testBit_eq
  intro i
  rw [Nat.testBit_and, Nat.testBit_two_pow]
  by_cases h : A / 2 ^ k % 2 = 1
  · rw [if_pos h, Nat.testBit_two_pow]
    by_cases e : k = i
    · subst e
      rw [Nat.testBit_eq_decide_div_mod_eq, decide_eq_true h]; simp
    · simp [e]
  · rw [if_neg h, Nat.zero_testBit]
    by_cases e : k = i
    · subst e
      rw [Nat.testBit_eq_decide_div_mod_eq, decide_eq_false h]; simp
    · simp [e]
theorem and_bit (A k : Nat) (hA : A < 18446744073709551616) (hk : k ≤ 63) : (Go.bits .and .u64 (A : Int) ((2 ^ k : Nat) : Int) != 0) = (A / 2 ^ k % 2 == 1) := by
  unfold Go.bits
  have h2 : 2 ^ k < 18446744073709551616 := by
    have : 2 ^ k < 2 ^ 64 := Nat.pow_lt_pow_right (by decide) (by omega)
    exact this
  have hb : IntKind.bits .u64 = 64 := rfl
  simp only
  rw [IntKind.wrap_u64, BitVec.toNat_and, BitVec.ofInt_natCast, BitVec.ofInt_natCast, BitVec.toNat_ofNat, BitVec.toNat_ofNat, hb]
  rw [Nat.mod_eq_of_lt (show A < 2 ^ 64 from hA), Nat.mod_eq_of_lt (show 2 ^ k < 2 ^ 64 from h2), and_pow]
  have hp := pw_pos k
  by_cases h : A / 2 ^ k % 2 = 1
  · rw [if_pos h, h, beq_self_eq_true, bne_iff_ne]
    omega
  · rw [if_neg h]
    have : A / 2 ^ k % 2 = 0 := by omega
    rw [this]; rfl
theorem or_top (A k : Nat) (hA : A < 2 ^ k) (hk : k ≤ 63) : Go.bits .or .u64 (A : Int) ((2 ^ k : Nat) : Int) = ((2 ^ k + A : Nat) : Int) := by
  unfold Go.bits
  have h2 : 2 ^ k < 2 ^ 64 := Nat.pow_lt_pow_right (by decide) (by omega)
  have h3 : 2 ^ (k + 1) ≤ 2 ^ 64 := Nat.pow_le_pow_right (by decide) (by omega)
  have h4 : 2 ^ (k + 1) = 2 * 2 ^ k := by rw [Nat.pow_succ, Nat.mul_comm]
  have hb : IntKind.bits .u64 = 64 := rfl
  simp only
  rw [IntKind.wrap_u64, BitVec.toNat_or, BitVec.ofInt_natCast, BitVec.ofInt_natCast, BitVec.toNat_ofNat, BitVec.toNat_ofNat, hb]
  rw [Nat.mod_eq_of_lt (show A < 2 ^ 64 by omega), Nat.mod_eq_of_lt h2]
  have e : A ||| 2 ^ k = 2 ^ k + A := by
    rw [Nat.or_comm]
    have := Nat.two_pow_add_eq_or_of_lt hA 1
    rw [Nat.mul_one] at this
    exact this.symm
  rw [e]
  have : 2 ^ 64 = 18446744073709551616 := by decide
  omega
theorem c_sign {p q f} (h : Pq p q f) : floats_format_sign.f p q = some (f.signWeight : Int) := by
  rcases h with ⟨rfl, rfl, rfl⟩ | ⟨rfl, rfl, rfl⟩ <;> decide +kernel
theorem c_inf {p q f} (h : Pq p q f) : floats_format_infinity.f p q = some (f.infRung : Int) := by
  rcases h with ⟨rfl, rfl, rfl⟩ | ⟨rfl, rfl, rfl⟩ <;> decide +kernel
theorem c_least {p q f} (h : Pq p q f) : floats_format_least.f p q = some f.leastPlace := by
  rcases h with ⟨rfl, rfl, rfl⟩ | ⟨rfl, rfl, rfl⟩ <;> decide +kernel
theorem c_none {p q f} (h : Pq p q f) : floats_format_none.f p q = some false := by
  rcases h with ⟨rfl, rfl, rfl⟩ | ⟨rfl, rfl, rfl⟩ <;> decide +kernel
/-- The sign's place. -/
theorem sgn_pow {p q f} (h : Pq p q f) : ∃ k : Nat, k ≤ 63 ∧ 31 ≤ k ∧ f.signWeight = 2 ^ k := by
  rcases h with ⟨rfl, rfl, rfl⟩ | ⟨rfl, rfl, rfl⟩
  · exact ⟨31, by decide, by decide, rfl⟩
  · exact ⟨63, by decide, by decide, rfl⟩
theorem bin_ok {p q f} (h : Pq p q f) : f.binade ≤ f.infRung := by
  rcases h with ⟨rfl, rfl, rfl⟩ | ⟨rfl, rfl, rfl⟩
  · exact bin_single
  · exact bin_double
theorem c_size {p q f} (h : Pq p q f) (A : Nat) (hA : A < 18446744073709551616) : floats_format_size.f p q A = some (rungOf f A : Int) := by
  obtain ⟨k, hk, hk2, e⟩ := sgn_pow h
  unfold floats_format_size.f
  rw [c_sign h]
  simp only [Option.bind_some]
  have h2 : 2 ^ k ≤ 2 ^ 63 := Nat.pow_le_pow_right (by decide) hk
  have hp := pw_pos k
  rw [e, IntKind.wrap_u64, show (((2 ^ k : Nat) : Int) - 1) % 18446744073709551616 = ((2 ^ k : Nat) : Int) - 1 from by omega, and_mask A k hA (by omega)]
  unfold rungOf
  rw [e]
theorem c_neg {p q f} (h : Pq p q f) (A : Nat) (hA : A < 18446744073709551616) : floats_format_neg.f p q A = some (negOf f A) := by
  obtain ⟨k, hk, hk2, e⟩ := sgn_pow h
  unfold floats_format_neg.f
  rw [c_sign h]
  simp only [Option.bind_some]
  rw [e, and_bit A k hA hk]
  unfold negOf
  rw [e]
theorem c_signed {p q f} (h : Pq p q f) (neg : Bool) (r : Nat) (hr : r < f.signWeight) : floats_format_signed.f p q neg r = some (f.word neg r : Int) := by
  obtain ⟨k, hk, hk2, e⟩ := sgn_pow h
  unfold floats_format_signed.f Ieee.Format.word
  cases neg
  · rfl
  · rw [if_pos rfl, if_pos rfl, c_sign h]
    simp only [Option.bind_some]
    rw [e] at hr ⊢
    rw [or_top r k hr hk]
end Go.Proofs.YtjecdciabpjgcaaGreatDoor.Pure
namespace Go.Proofs.YtjecdciabpjgcaaGreatDoor.Pure
set_option linter.unusedVariables false
set_option linter.unusedSimpArgs false
open Go.RowKit Go.Proofs.YtjecdciabpjgcaaGreatDoor.PLz Go.Proofs.YtjecdciabpjgcaaGreatDoor.Fl Go.Proofs.YtjecdciabpjgcaaGreatDoorW.PrintWords
theorem bitLen_log2 : ∀ (n x : Nat), x < 2 ^ n → n ≤ 64 → x ≠ 0 → Lib.bitLen x = x.log2 + 1
  | 0, x, h, _, h0 => by simp at h; omega
  | n + 1, x, h, hn, h0 => by
    have hx : x < 2 ^ 64 := Nat.lt_of_lt_of_le h (Nat.pow_le_pow_right (by decide) hn)
    rw [Lib.bitLen_half x h0 hx]
    by_cases c : x / 2 = 0
    · have : x = 1 := by omega
      subst this
      decide
    · rw [bitLen_log2 n (x / 2) (by rw [Nat.pow_succ] at h; omega) (by omega) c]
      have := log2_cut x 1 (by rw [Nat.pow_one]; exact c)
      rw [Nat.pow_one] at this
      omega
theorem c_len (M : Nat) (hM : M < 18446744073709551616) (h0 : M ≠ 0) : bits_Len64.f (M : Int) = some ((M.log2 + 1 : Nat) : Int) := by
  unfold bits_Len64.f
  rw [if_pos (by omega), show ((M : Int)).toNat = M from by omega, bitLen_log2 64 M hM (by decide) h0]
/-- A number that is too great is infinity. -/
theorem nearest_big (f : Ieee.Format) (neg : Bool) (N : Nat) (p : Int) (h0 : N ≠ 0) (hp : f.leastPlace + 2 ^ f.exponentBits + f.fractionBits ≤ p) : f.nearest neg N p = f.word neg f.infRung := by
  rw [nearest_eq f neg N p h0]
  have hl : f.leastPlace + 2 ^ f.exponentBits ≤ lastOf f N p := by unfold lastOf; omega
  have h1 : 2 ^ f.exponentBits ≤ (lastOf f N p - f.leastPlace).toNat := by
    have : ((2 ^ f.exponentBits : Nat) : Int) = (2 : Int) ^ f.exponentBits := by rw [Int.natCast_pow]; rfl
    omega
  have h2 : f.infRung ≤ (lastOf f N p - f.leastPlace).toNat * f.binade := by
    unfold Ieee.Format.infRung
    exact Nat.mul_le_mul_right _ (by omega)
  rw [Nat.min_eq_right (by omega)]
/-- A number that is too small is nought. -/
theorem nearest_small (f : Ieee.Format) (neg : Bool) (N : Nat) (p : Int) (hp : p + N.log2 + 2 ≤ f.leastPlace) (hw : 0 ≤ f.infRung) : f.nearest neg N p = f.word neg 0 := by
  by_cases h0 : N = 0
  · subst h0; exact nearest_zero ..
  · have hl : lastOf f N p = f.leastPlace := by unfold lastOf; omega
    rw [nearest_eq f neg N p h0, hl]
    have h1 : N < 2 ^ (N.log2 + 1) := Nat.lt_log2_self
    have : rneP N (p - f.leastPlace) = 0 := by
      unfold rneP
      rw [show (p - f.leastPlace).toNat = 0 from by omega, Nat.pow_zero, Nat.mul_one]
      apply rne_small
      have : 2 ^ (N.log2 + 2) ≤ 2 ^ (-(p - f.leastPlace)).toNat := Nat.pow_le_pow_right (by decide) (by omega)
      have : 2 ^ (N.log2 + 2) = 2 * 2 ^ (N.log2 + 1) := by rw [Nat.pow_succ 2 (N.log2 + 1), Nat.mul_comm]
      omega
    rw [this, Int.sub_self]
    simp
theorem shl_nat (x d : Nat) (h : x * 2 ^ d < 18446744073709551616) (hd : d ≤ 64) : shl .u64 (x : Int) (d : Int) = ((x * 2 ^ d : Nat) : Int) := by
  unfold shl
  rw [IntKind.wrap_u64, show min (d : Int).toNat IntKind.u64.bits = d from by rw [Int.toNat_natCast]; exact Nat.min_eq_left hd]
  have : (x : Int) * 2 ^ d = ((x * 2 ^ d : Nat) : Int) := by rw [Int.natCast_mul, Int.natCast_pow]; rfl
  rw [this]
  omega
theorem shr_nat (x d : Nat) (hd : d ≤ 64) : shr .u64 (x : Int) (d : Int) = ((x / 2 ^ d : Nat) : Int) := by
  unfold shr
  rw [show min (d : Int).toNat IntKind.u64.bits = d from by rw [Int.toNat_natCast]; exact Nat.min_eq_left hd]
  rw [Int.natCast_ediv, Int.natCast_pow]; rfl
/-- The widths, as numbers. -/
theorem c_w {p q f} (h : Pq p q f) : p = (f.fractionBits : Int) ∧ q = (f.exponentBits : Int) ∧ f.fractionBits ≤ 52 ∧ 23 ≤ f.fractionBits ∧ f.exponentBits ≤ 11 ∧ 8 ≤ f.exponentBits ∧ -1074 ≤ f.leastPlace ∧ f.leastPlace ≤ -149 ∧
    f.signWeight ≤ 9223372036854775808 ∧ f.binade ≤ 4503599627370496 ∧ f.signWeight = 2 ^ f.exponentBits * f.binade ∧ f.infRung < f.signWeight := by
  rcases h with ⟨rfl, rfl, rfl⟩ | ⟨rfl, rfl, rfl⟩
  · refine ⟨rfl, rfl, by decide, by decide, by decide, by decide, by rw [s_least]; decide, by rw [s_least]; decide, by rw [s_sgn]; decide, by rw [s_bin]; decide, by decide +kernel, by decide +kernel⟩
  · refine ⟨rfl, rfl, by decide, by decide, by decide, by decide, by rw [d_least]; decide, by rw [d_least]; decide, by rw [d_sgn]; decide, by rw [d_bin]; decide, by decide +kernel, by decide +kernel⟩
/-- The end of a rounding: the exponent's field and the kept digits, no more than infinity. -/
theorem c_j0 {p q f} (h : Pq p q f) (neg : Bool) (K : Nat) (L e : Int) (he : -5000 ≤ e ∧ e ≤ 5000) (hL : f.leastPlace ≤ L) (hL2 : L ≤ 5100) (hK : K ≤ 2 * f.binade) (hK2 : f.leastPlace < L → f.binade ≤ K) (k : Nat) :
    floats_format_round.j0 (k + 2) neg K e (L - e) p q = some ((f.word neg (min ((L - f.leastPlace).toNat * f.binade + K) f.infRung) : Nat) : Int) := by
  obtain ⟨w1, w2, w3, w4, w5, w6, w7, w8, w9, w10, w11, w12⟩ := c_w h
  have hmin : min ((L - f.leastPlace).toNat * f.binade + K) f.infRung < f.signWeight := Nat.lt_of_le_of_lt (Nat.min_le_right _ _) w12
  have hs : shl .u64 1 (IntKind.u64.wrap p) = (f.binade : Int) := by
    rw [IntKind.wrap_u64, w1, show (f.fractionBits : Int) % 18446744073709551616 = f.fractionBits from by omega]
    have := shl_nat 1 f.fractionBits (by rw [Nat.one_mul]; exact Nat.lt_of_le_of_lt w10 (by decide)) (by omega)
    rw [Nat.one_mul] at this
    exact this
  have hq : shl .i64 1 (IntKind.u64.wrap q) = ((2 ^ f.exponentBits : Nat) : Int) := by
    rcases h with ⟨rfl, rfl, rfl⟩ | ⟨rfl, rfl, rfl⟩ <;> decide +kernel
  have j1 : ∀ l : Nat, l ≤ 20000 → (l * f.binade + K = (L - f.leastPlace).toNat * f.binade + K) →
      floats_format_round.j1 (k + 1) neg K (l : Int) p q = some ((f.word neg (min ((L - f.leastPlace).toNat * f.binade + K) f.infRung) : Nat) : Int) := by
    intro l hl hlb
    simp only [floats_format_round.j1]
    rw [if_pos (by rw [IntKind.wrap_u64]; omega), hq, ← hlb]
    have hexp : f.infRung < 2 ^ f.exponentBits * f.binade := by rw [← w11]; exact w12
    by_cases c : (l : Int) ≥ ((2 ^ f.exponentBits : Nat) : Int)
    · rw [if_pos c, c_inf h]
      simp only [Option.bind_some]
      have h1 : 2 ^ f.exponentBits * f.binade ≤ l * f.binade := Nat.mul_le_mul_right _ (by omega)
      rw [c_signed h neg f.infRung w12, Nat.min_eq_right (by omega)]
      rfl
    · rw [if_neg c, if_pos (by rw [IntKind.wrap_u64]; omega), c_inf h]
      simp only [Option.bind_some]
      have h1 : (l + 1) * f.binade ≤ 2 ^ f.exponentBits * f.binade := Nat.mul_le_mul_right _ (by omega)
      rw [Nat.add_mul, Nat.one_mul, ← w11] at h1
      have e1 : shl .u64 (IntKind.u64.wrap (l : Int)) (IntKind.u64.wrap p) = ((l * f.binade : Nat) : Int) := by
        rw [IntKind.wrap_u64, IntKind.wrap_u64, w1, show (l : Int) % 18446744073709551616 = (l : Int) from by omega, show (f.fractionBits : Int) % 18446744073709551616 = f.fractionBits from by omega]
        exact shl_nat l f.fractionBits (by show l * f.binade < _; omega) (by omega)
      rw [e1, IntKind.wrap_u64]
      have e2 : mn ((((l * f.binade : Nat) : Int) + (K : Int)) % 18446744073709551616) (f.infRung : Int) = ((min (l * f.binade + K) f.infRung : Nat) : Int) := by
        rw [show (((l * f.binade : Nat) : Int) + (K : Int)) % 18446744073709551616 = ((l * f.binade + K : Nat) : Int) from by omega]
        unfold mn
        split <;> omega
      rw [e2, c_signed h neg _ (by rw [hlb]; exact hmin)]
      rfl
  simp only [floats_format_round.j0]
  rw [if_pos (by rw [IntKind.wrap_u64]; omega), hs]
  by_cases c : (K : Int) ≥ (f.binade : Int)
  · rw [if_pos c, c_least h]
    simp only [Option.bind_some]
    rw [show wrap64 (wrap64 (e + (L - e)) - f.leastPlace) = (((L - f.leastPlace).toNat : Nat) : Int) from by unfold wrap64; omega]
    exact j1 _ (by omega) rfl
  · rw [if_neg c]
    have hLe : L = f.leastPlace := by
      apply Classical.byContradiction; intro x
      have := hK2 (by omega); omega
    exact j1 0 (by omega) (by rw [hLe, Int.sub_self]; rfl)
/-- What is kept of a number, as the code reckons it. -/
theorem kept_up (M D : Nat) (b : Bool) (h1 : 1 ≤ D) (h2 : D ≤ 64) (hM : M < 18446744073709551616) :
    shl .u64 (M : Int) ((64 - D : Nat) : Int) = ((M % 2 ^ D * 2 ^ (64 - D) : Nat) : Int) ∧ shr .u64 ((M : Int) / 2) ((D - 1 : Nat) : Int) = ((M / 2 ^ D : Nat) : Int) ∧
    rne (2 * M + b.toNat) (D + 1) = M / 2 ^ D + (if 2 ^ D < 2 * (M % 2 ^ D) ∨ (2 ^ D = 2 * (M % 2 ^ D) ∧ (b = true ∨ M / 2 ^ D % 2 = 1)) then 1 else 0) := by
  have hp := pw_pos D
  refine ⟨?_, ?_, ?_⟩
  · unfold shl
    rw [IntKind.wrap_u64, Int.toNat_natCast, show min (64 - D) IntKind.u64.bits = 64 - D from Nat.min_eq_left (by show 64 - D ≤ 64; omega)]
    have e : (M : Int) * 2 ^ (64 - D) = ((M * 2 ^ (64 - D) : Nat) : Int) := by rw [Int.natCast_mul, Int.natCast_pow]; rfl
    rw [e]
    have e2 : (18446744073709551616 : Nat) = 2 ^ D * 2 ^ (64 - D) := by rw [← Nat.pow_add, show D + (64 - D) = 64 from by omega]
    have : (M * 2 ^ (64 - D)) % 18446744073709551616 = M % 2 ^ D * 2 ^ (64 - D) := by rw [e2, Nat.mul_mod_mul_right]
    omega
  · unfold shr
    rw [Int.toNat_natCast, show min (D - 1) IntKind.u64.bits = D - 1 from Nat.min_eq_left (by show D - 1 ≤ 64; omega)]
    have : M / 2 / 2 ^ (D - 1) = M / 2 ^ D := by rw [Nat.div_div_eq_div_mul, ← Nat.pow_succ', show (D - 1).succ = D from by omega]
    rw [← this, Int.natCast_ediv, Int.natCast_ediv, Int.natCast_pow]; rfl
  · unfold rne
    have hd := Nat.div_add_mod M (2 ^ D)
    have hm := Nat.mod_lt M hp
    have hb : b.toNat ≤ 1 := by cases b <;> decide
    have hp2 : 2 ^ (D + 1) = 2 * 2 ^ D := by rw [Nat.pow_succ, Nat.mul_comm]
    have e : 2 * M + b.toNat = 2 ^ (D + 1) * (M / 2 ^ D) + (2 * (M % 2 ^ D) + b.toNat) := by
      rw [hp2, Nat.mul_assoc]; omega
    rw [e, Nat.mul_add_div (pw_pos _), Nat.mul_add_mod, Nat.div_eq_of_lt (show 2 * (M % 2 ^ D) + b.toNat < 2 ^ (D + 1) by omega), Nat.mod_eq_of_lt (show 2 * (M % 2 ^ D) + b.toNat < 2 ^ (D + 1) by omega), Nat.add_zero, hp2]
    have hev : ∃ c, 2 ^ D = 2 * c := ⟨2 ^ (D - 1), by rw [← Nat.pow_succ', show (D - 1).succ = D from by omega]⟩
    obtain ⟨c, hc⟩ := hev
    congr 1
    clear e hp2 hd
    generalize M % 2 ^ D = r at *
    generalize M / 2 ^ D = m at *
    rw [hc]
    rw [hc] at hm
    clear hp
    cases b
    · simp only [Bool.toNat, cond_false, Nat.add_zero, Bool.false_eq_true, false_or]
      by_cases x : 2 * c < 2 * r ∨ (2 * c = 2 * r ∧ m % 2 = 1)
      · rw [if_pos x, if_pos (by omega)]
      · rw [if_neg x, if_neg (by omega)]
    · simp only [Bool.toNat, cond_true, true_or, and_true]
      by_cases x : 2 * c < 2 * r ∨ 2 * c = 2 * r
      · rw [if_pos (by omega), if_pos (by omega)]
      · rw [if_neg (by omega), if_neg (by omega)]
theorem odd_bit (m : Nat) (hm : m < 18446744073709551616) : (Go.bits .and .u64 (m : Int) 1 = 1) = (m % 2 = 1) := by
  have := and_mask m 1 hm (by decide)
  rw [show ((2 ^ 1 : Nat) - 1 : Int) = 1 from by decide] at this
  rw [this, Nat.pow_one]
  apply propext
  omega
/-- The rounding itself, of a power that is not out of reach. -/
theorem c_round_in {p q f} (h : Pq p q f) (neg : Bool) (M : Nat) (hM : M < 18446744073709551616) (h0 : M ≠ 0) (e : Int) (he : -5000 ≤ e ∧ e ≤ 5000) (more : Bool) (hm : more = true → 288230376151711744 ≤ M) (a3 : Int) (ha : mn (mx a3 (-5000)) 5000 = e) (k : Nat) :
    floats_format_round.f (k + 2) p q neg M a3 more = some ((f.nearest neg (2 * M + more.toNat) (e - 1) : Nat) : Int) := by
  obtain ⟨w1, w2, w3, w4, w5, w6, w7, w8, w9, w10, w11, w12⟩ := c_w h
  have hb : more.toNat ≤ 1 := by cases more <;> decide
  have hlog : M.log2 ≤ 63 := by have := (Nat.log2_lt (n := M) (k := 64) h0).2 hM; omega
  have hlogN : (2 * M + more.toNat).log2 = M.log2 + 1 := by
    have h1 := Nat.log2_self_le h0
    have h2 : M < 2 ^ (M.log2 + 1) := Nat.lt_log2_self
    refine (Nat.log2_eq_iff (by omega)).2 ⟨?_, ?_⟩
    · rw [Nat.pow_succ]; omega
    · rw [Nat.pow_succ 2 (M.log2 + 1)]; omega
  have hlast : lastOf f (2 * M + more.toNat) (e - 1) = lastOf f M e := by unfold lastOf; rw [hlogN]; omega
  have hNe := nearest_eq f neg (2 * M + more.toNat) (e - 1) (by omega)
  have kb := kept_bounds f (2 * M + more.toNat) (e - 1) (by omega)
  rw [hlast] at hNe kb
  have hLge : f.leastPlace ≤ lastOf f M e := by unfold lastOf; omega
  have hLle : lastOf f M e ≤ 5100 := by unfold lastOf; omega
  have hLge2 : -5100 ≤ lastOf f M e - e ∧ lastOf f M e - e ≤ 5100 := by unfold lastOf; omega
  rw [hNe]
  have fin : ∀ K : Nat, K = rneP (2 * M + more.toNat) (e - 1 - lastOf f M e) → floats_format_round.j0 (k + 2) neg (K : Int) e (lastOf f M e - e) p q =
      some ((f.word neg (min ((lastOf f M e - f.leastPlace).toNat * f.binade + rneP (2 * M + more.toNat) (e - 1 - lastOf f M e)) f.infRung) : Nat) : Int) := by
    intro K hK
    rw [← hK] at kb ⊢
    exact c_j0 h neg K (lastOf f M e) e he hLge hLle kb.1 kb.2 k
  have hD : wrap64 (mx (wrap64 (wrap64 (wrap64 ((((M.log2 + 1 : Nat) : Int)) + e) - 1) - p)) f.leastPlace - e) = lastOf f M e - e := by
    unfold wrap64 mx lastOf
    rw [w1]
    split <;> omega
  unfold floats_format_round.f
  rw [if_neg (by omega), c_len M hM h0, c_least h, ha]
  simp only [Option.bind_some]
  rw [hD]
  obtain ⟨L, hL⟩ : ∃ L, L = lastOf f M e := ⟨_, rfl⟩
  rw [← hL] at fin hLge2 ⊢
  have hk1 : ¬ L - e ≤ 0 → 1 ≤ (L - e).toNat := by omega
  by_cases c1 : L - e ≤ 0
  · rw [if_pos c1, if_pos (by rw [IntKind.wrap_u64]; omega)]
    -- nothing is dropped: a little more there would have dropped digits
    have hmf : more = false := by
      cases hmo : more
      · rfl
      · have := hm hmo
        have : 58 ≤ M.log2 := (Nat.le_log2 h0).2 (by show 2 ^ 58 ≤ M; omega)
        exfalso
        unfold lastOf at hL
        omega
    subst hmf
    obtain ⟨d, hd⟩ : ∃ d : Nat, L - e = -(d : Int) := ⟨(-(L - e)).toNat, by omega⟩
    have hkept : rneP (2 * M + false.toNat) (e - 1 - L) = M * 2 ^ d := by
      have s := rneP_scale M 1 (e - 1 - L)
      rw [Nat.pow_one, Nat.mul_comm] at s
      show rneP (2 * M) _ = _
      rw [s]
      unfold rneP
      rw [show (e - 1 - L + ((1 : Nat) : Int)).toNat = d from by omega, show (-(e - 1 - L + ((1 : Nat) : Int))).toNat = 0 from by omega, rne_zero]
    have hdl : d ≤ 64 := by
      unfold lastOf at hL
      omega
    have hlt : M * 2 ^ d < 18446744073709551616 := by
      have := kb.1
      rw [← hL, hkept] at this
      omega
    have e1 : shl .u64 (M : Int) (IntKind.u64.wrap (wrap64 (-(L - e)))) = ((M * 2 ^ d : Nat) : Int) := by
      rw [show IntKind.u64.wrap (wrap64 (-(L - e))) = (d : Int) from by rw [IntKind.wrap_u64]; unfold wrap64; omega]
      exact shl_nat M d hlt hdl
    rw [e1]
    exact fin _ hkept.symm
  · rw [if_neg c1]
    obtain ⟨D, hD⟩ : ∃ D : Nat, L - e = (D : Int) := ⟨(L - e).toNat, by omega⟩
    have hkept : rneP (2 * M + more.toNat) (e - 1 - L) = rne (2 * M + more.toNat) (D + 1) := by
      unfold rneP
      rw [show (e - 1 - L).toNat = 0 from by omega, show (-(e - 1 - L)).toNat = D + 1 from by omega, Nat.pow_zero, Nat.mul_one]
    by_cases c2 : L - e > 64
    · rw [if_pos c2]
      have hz : rneP (2 * M + more.toNat) (e - 1 - L) = 0 := by
        rw [hkept]
        apply rne_small
        have : 2 ^ 66 ≤ 2 ^ (D + 1) := Nat.pow_le_pow_right (by decide) (by omega)
        omega
      exact fin 0 hz.symm
    · rw [if_neg c2, if_pos (by rw [IntKind.wrap_u64]; omega), if_pos (by rw [IntKind.wrap_u64]; omega)]
      have hD1 : 1 ≤ D := by omega
      have hD2 : D ≤ 64 := by omega
      obtain ⟨u1, u2, u3⟩ := kept_up M D more hD1 hD2 hM
      rw [show IntKind.u64.wrap (wrap64 (64 - (L - e))) = ((64 - D : Nat) : Int) from by rw [IntKind.wrap_u64]; unfold wrap64; omega,
        show IntKind.u64.wrap (wrap64 (L - e - 1)) = ((D - 1 : Nat) : Int) from by rw [IntKind.wrap_u64]; unfold wrap64; omega]
      rw [u1, u2]
      have e2 : (18446744073709551616 : Nat) = 2 ^ D * 2 ^ (64 - D) := by rw [← Nat.pow_add, show D + (64 - D) = 64 from by omega]
      have hp2 := pw_pos (64 - D)
      have gt : ((M % 2 ^ D * 2 ^ (64 - D) : Nat) : Int) > 9223372036854775808 ↔ 2 ^ D < 2 * (M % 2 ^ D) := by
        constructor
        · intro x
          have : 2 ^ D * 2 ^ (64 - D) < 2 * (M % 2 ^ D) * 2 ^ (64 - D) := by rw [← e2, Nat.mul_assoc]; omega
          exact Nat.lt_of_mul_lt_mul_right this
        · intro x
          have : 2 ^ D * 2 ^ (64 - D) < 2 * (M % 2 ^ D) * 2 ^ (64 - D) := Nat.mul_lt_mul_of_pos_right x hp2
          rw [← e2, Nat.mul_assoc] at this
          omega
      have eq : ((M % 2 ^ D * 2 ^ (64 - D) : Nat) : Int) = 9223372036854775808 ↔ 2 ^ D = 2 * (M % 2 ^ D) := by
        constructor
        · intro x
          have : 2 ^ D * 2 ^ (64 - D) = 2 * (M % 2 ^ D) * 2 ^ (64 - D) := by rw [← e2, Nat.mul_assoc]; omega
          exact Nat.eq_of_mul_eq_mul_right hp2 this
        · intro x
          have : 2 ^ D * 2 ^ (64 - D) = 2 * (M % 2 ^ D) * 2 ^ (64 - D) := congrArg (fun z => z * 2 ^ (64 - D)) x
          rw [← e2, Nat.mul_assoc] at this
          omega
      have hmle : M / 2 ^ D < 18446744073709551616 := Nat.lt_of_le_of_lt (Nat.div_le_self _ _) hM
      have hmle2 : M / 2 ^ D ≤ 9223372036854775808 := by
        have : M / 2 ^ D ≤ M / 2 ^ 1 := Nat.div_le_div_left (Nat.pow_le_pow_right (by decide) hD1) (by decide)
        omega
      have ew : IntKind.u64.wrap (((M / 2 ^ D : Nat) : Int) + 1) = ((M / 2 ^ D + 1 : Nat) : Int) := by
        generalize M / 2 ^ D = m at hmle2
        rw [IntKind.wrap_u64]; omega
      rw [ew]
      have ob : Go.bits .and .u64 ((M / 2 ^ D : Nat) : Int) 1 = 1 ↔ M / 2 ^ D % 2 = 1 := iff_of_eq (odd_bit _ hmle)
      by_cases g1 : 2 ^ D < 2 * (M % 2 ^ D)
      · rw [if_pos (gt.2 g1)]
        exact fin _ (by rw [hkept, u3, if_pos (.inl g1)])
      · rw [if_neg (fun x => g1 (gt.1 x))]
        by_cases g2 : 2 ^ D = 2 * (M % 2 ^ D)
        · rw [if_pos (eq.2 g2)]
          cases hmo : more
          · rw [hmo] at fin hkept u3
            rw [if_neg (by decide)]
            by_cases g3 : M / 2 ^ D % 2 = 1
            · rw [if_pos (ob.2 g3)]
              exact fin _ (by rw [hkept, u3, if_pos (.inr ⟨g2, .inr g3⟩)])
            · rw [if_neg (fun x => g3 (ob.1 x))]
              exact fin _ (by rw [hkept, u3, if_neg (by rintro (x | ⟨_, x | x⟩) <;> first | (exact g1 x) | (cases x; done) | (exact g3 x)), Nat.add_zero])
          · rw [hmo] at fin hkept u3
            rw [if_pos rfl]
            exact fin _ (by rw [hkept, u3, if_pos (.inr ⟨g2, .inl rfl⟩)])
        · rw [if_neg (fun x => g2 (eq.1 x))]
          exact fin _ (by rw [hkept, u3, if_neg (by rintro (x | ⟨x, _⟩) <;> first | (exact g1 x) | (exact g2 x)), Nat.add_zero])
/-- The rounding: the float nearest to the number, whatever the power. -/
theorem c_round {p q f} (h : Pq p q f) (neg : Bool) (M : Nat) (hM : M < 18446744073709551616) (e : Int) (more : Bool) (hm : more = true → 288230376151711744 ≤ M) (k : Nat) :
    floats_format_round.f (k + 2) p q neg M e more = some ((f.nearest neg (2 * M + more.toNat) (e - 1) : Nat) : Int) := by
  obtain ⟨w1, w2, w3, w4, w5, w6, w7, w8, w9, w10, w11, w12⟩ := c_w h
  by_cases h0 : M = 0
  · subst h0
    have : more = false := by
      cases hmo : more
      · rfl
      · have := hm hmo; omega
    subst this
    unfold floats_format_round.f
    rw [if_pos (by rfl)]
    have := c_signed h neg 0 (by omega)
    rw [show ((0 : Nat) : Int) = 0 from rfl] at this
    rw [this]
    simp only [Option.bind_some]
    rw [show 2 * 0 + false.toNat = 0 from rfl, nearest_zero]
  · have hb : more.toNat ≤ 1 := by cases more <;> decide
    have hlogN : (2 * M + more.toNat).log2 ≤ 64 := by
      have := (Nat.log2_lt (n := 2 * M + more.toNat) (k := 65) (by omega)).2 (by show _ < 2 ^ 65; omega); omega
    by_cases c1 : e > 5000
    · rw [c_round_in h neg M hM h0 5000 (by decide) more hm e (by unfold mn mx; (repeat' split) <;> omega) k]
      have h2 : f.leastPlace + 2 ^ f.exponentBits + f.fractionBits ≤ 4999 := by
        have : (2 : Int) ^ f.exponentBits ≤ 2048 := by
          have : ((2 ^ f.exponentBits : Nat) : Int) = (2 : Int) ^ f.exponentBits := by rw [Int.natCast_pow]; rfl
          have : 2 ^ f.exponentBits ≤ 2 ^ 11 := Nat.pow_le_pow_right (by decide) w5
          omega
        omega
      rw [nearest_big f neg _ (5000 - 1) (by omega) (by omega), nearest_big f neg _ (e - 1) (by omega) (by omega)]
    · by_cases c2 : e < -5000
      · rw [c_round_in h neg M hM h0 (-5000) (by decide) more hm e (by unfold mn mx; (repeat' split) <;> omega) k]
        rw [nearest_small f neg _ (-5000 - 1) (by omega) (Nat.zero_le _), nearest_small f neg _ (e - 1) (by omega) (Nat.zero_le _)]
      · exact c_round_in h neg M hM h0 e (by omega) more hm e (by unfold mn mx; (repeat' split) <;> omega) k
/-- The same, of any more rounds than two. -/
theorem c_round' {p q f} (h : Pq p q f) (neg : Bool) (M : Nat) (hM : M < 18446744073709551616) (e : Int) (more : Bool) (hm : more = true → 288230376151711744 ≤ M) (k : Nat) (hk : 2 ≤ k) :
    floats_format_round.f k p q neg M e more = some ((f.nearest neg (2 * M + more.toNat) (e - 1) : Nat) : Int) := by
  obtain ⟨k, rfl⟩ : ∃ m, k = m + 2 := ⟨k - 2, by omega⟩
  exact c_round h neg M hM e more hm k
end Go.Proofs.YtjecdciabpjgcaaGreatDoor.Pure
namespace Go.Proofs.YtjecdciabpjgcaaGreatDoor.Lz
set_option linter.unusedVariables false
set_option linter.unusedSimpArgs false
open Go.RowKit Go.Proofs.YtjecdciabpjgcaaGreatDoorW.PrintWords Go.Proofs.YtjecdciabpjgcaaGreatDoor.Lx
theorem wds_last (B : Nat) (hB : 2 ≤ B) : ∀ n, 0 < n → ∃ l x, wds B n = l ++ [x] ∧ 0 < x := by
  intro n
  induction n using Nat.strongRecOn with
  | _ n ih =>
    intro h
    rw [wds_pos B n hB h]
    rcases Nat.eq_zero_or_pos (n / B) with h0 | h0
    · have hlt : n < B := by
        rcases Nat.lt_or_ge n B with h1 | h1
        · exact h1
        · have := Nat.div_pos h1 (show 0 < B by omega); omega
      refine ⟨[], n % B, by rw [h0, wds_zero]; rfl, by rw [Nat.mod_eq_of_lt hlt]; exact h⟩
    · obtain ⟨l, x, h1, h2⟩ := ih (n / B) (Nat.div_lt_self h (by omega)) h0
      exact ⟨n % B :: l, x, by rw [h1]; rfl, h2⟩
/-- How many bits a number has. -/
def nbits (n : Nat) : Nat := if n = 0 then 0 else n.log2 + 1
theorem bits_of (n : Nat) (l : List Nat) (x : Nat) (h : wds B64 n = l ++ [x]) (hx : 0 < x) : nbits n = 64 * l.length + (x.log2 + 1) := by
  have hv := val_wds B64 B64_2 n
  rw [h, val_app] at hv
  have hv : val B64 l + B64 ^ l.length * (x + B64 * 0) = n := hv
  rw [Nat.mul_zero, Nat.add_zero] at hv
  have hl : val B64 l < B64 ^ l.length := val_lt B64 B64_2 l (fun y hy => wds_lt B64 B64_2 n y (by rw [h]; simp [hy]))
  have hB : B64 ^ l.length = 2 ^ (64 * l.length) := by
    have : B64 = 2 ^ 64 := by decide
    rw [this, ← Nat.pow_mul]
  have h1 := (Nat.le_log2 (Nat.pos_iff_ne_zero.1 hx)).1 (Nat.le_refl x.log2)
  have h2 : x < 2 ^ (x.log2 + 1) := Nat.lt_log2_self
  have hp : 0 < B64 ^ l.length := Nat.pos_of_ne_zero (by intro h; rw [h] at hl; omega)
  have hn0 : n ≠ 0 := by
    have := Nat.mul_pos hp hx
    omega
  have hlog : n.log2 = 64 * l.length + x.log2 := by
    refine (Nat.log2_eq_iff hn0).2 ⟨?_, ?_⟩
    · rw [Nat.pow_add, ← hB, ← hv]
      have := Nat.mul_le_mul_left (B64 ^ l.length) h1
      omega
    · rw [Nat.add_assoc, Nat.pow_add, ← hB, ← hv]
      have h3 : B64 ^ l.length * (x + 1) ≤ B64 ^ l.length * 2 ^ (x.log2 + 1) := Nat.mul_le_mul_left _ h2
      rw [Nat.mul_add, Nat.mul_one] at h3
      omega
  unfold nbits
  rw [if_neg hn0, hlog]
  omega
structure LbQ (w : World) (z : Int) (e : Ending) (w' : World) : Prop where mk ::
  (out : e = .returned (.int .i64 z) ∧ w' = w)
set_option maxRecDepth 1000000 in
set_option maxHeartbeats 2000000 in
theorem bits_c (n : Nat) (hlen : (wds B64 n).length ≤ 1000000) (v : Value) (w : World) (h : LW w v n) : Calls Tryz.prog 102 #[v] w (LbQ w ((nbits n : Nat) : Int)) := by
  obtain ⟨A, c, rfl, hc, hr⟩ := h.out
  rcases Nat.eq_zero_or_pos n with h0 | h0
  · subst h0
    have e : wds B64 0 = [] := wds_zero B64
    have eb : nbits 0 = 0 := rfl
    rw [e, eb]
    clear h hr hc hlen
    go_enter Tryz.func102, Tryz.ntmps102
    go_wp2
    go_ret
    exact ⟨rfl, rfl⟩
  · obtain ⟨l, x, hl, hx⟩ := wds_last B64 B64_2 n h0
    have hxB : x < B64 := wds_lt B64 B64_2 n x (by rw [hl]; simp)
    have hb := bits_of n l x hl hx
    rw [hl] at hr hlen ⊢
    have hll : (l ++ [x]).length = l.length + 1 := by simp
    obtain ⟨ad, hA, hcell⟩ := reads_at hr l.length x (by simp)
    subst hA
    have hbl : Lib.bitLen (x : Int).toNat = x.log2 + 1 := by
      rw [Int.toNat_natCast]
      exact Pure.bitLen_log2 64 x (by unfold B64 at hxB; omega) (by decide) (by omega)
    have hlz := Lib.hid (fun w => Tryz.bits_LeadingZeros64 (x : Int) w (by omega) (by unfold B64 at hxB; omega))
    rw [hbl] at hlz
    rw [hll] at hlen ⊢
    obtain ⟨k, hk⟩ : ∃ k, l.length = k := ⟨_, rfl⟩
    obtain ⟨lg, hlg⟩ : ∃ lg, x.log2 = lg := ⟨_, rfl⟩
    have hlg64 : lg < 64 := by rw [← hlg]; exact (Nat.log2_lt (by omega)).2 (by unfold B64 at hxB; omega)
    rw [hk] at hcell hlen hb ⊢
    rw [hlg] at hlz hb
    rw [hb]
    have e1 : ((k + 1 : Nat) : Int) - 1 = (k : Int) := by push_cast; omega
    have e2 : (((k + 1 : Nat) : Int) == 0) = false := by simp only [beq_eq_false_iff_ne, ne_eq]; omega
    have e3 : (k : Int) < ((k + 1 : Nat) : Int) := by omega
    have e4 : ((64 * k + (lg + 1) : Nat) : Int) = 64 * ((k + 1 : Nat) : Int) - (64 - ((lg + 1 : Nat) : Int)) := by push_cast; omega
    rw [e4]
    have e5 : IntKind.i64.wrap (64 * ((k + 1 : Nat) : Int)) = 64 * ((k + 1 : Nat) : Int) := IntWalk.i64_in _ (by omega)
    have e6 : IntKind.i64.wrap (64 * ((k + 1 : Nat) : Int) - (64 - ((lg + 1 : Nat) : Int))) = 64 * ((k + 1 : Nat) : Int) - (64 - ((lg + 1 : Nat) : Int)) := IntWalk.i64_in _ (by omega)
    clear h hr hc hl hxB hb hbl hll hk hlg e4
    go_enter Tryz.func102, Tryz.ntmps102
    go_wp2_with (go_at_call 135; refine (hlz.out _).mono ?_; rintro e w1 ⟨rfl, rfl⟩)
    go_ret
    exact ⟨rfl, rfl⟩
end Go.Proofs.YtjecdciabpjgcaaGreatDoor.Lz
namespace Go.Proofs.YtjecdciabpjgcaaGreatDoor.Lz
set_option linter.unusedVariables false
set_option linter.unusedSimpArgs false
open Go.RowKit Go.Proofs.YtjecdciabpjgcaaGreatDoorW.PrintWords Go.Proofs.YtjecdciabpjgcaaGreatDoor.Lx
def wo (l : List Nat) : Obj := .cells (l.map fun (x : Nat) => Value.int .u64 (x : Int)).toArray 23
theorem wo_cell {W : World} {g : Nat} {l : List Nat} (h : W.heap[g]? = some (wo l)) (i x : Nat) (hx : l[i]? = some x) : W.cell? ⟨g, i, none⟩ = some (.int .u64 (x : Int)) := by
  refine (blk_cell h i).trans ?_
  simp [hx]
theorem wo_frozen {W : World} {g : Nat} {l : List Nat} (h : W.heap[g]? = some (wo l)) (i : Nat) : W.frozen? ⟨g, i, none⟩ = false := blk_frozen h i
theorem wo_set {W : World} {g : Nat} {l : List Nat} (h : W.heap[g]? = some (wo l)) (i x : Nat) : (W.setCell ⟨g, i, none⟩ (.int .u64 (x : Int))).heap[g]? = some (wo (l.set i x)) := by
  refine (blk_set h i _).trans ?_
  congr 2
  apply Array.ext'
  simp [List.map_set]
theorem made_wo (m : Nat) : (.cells (madeCells #[.int .u64 0] m) 23 : Obj) = wo (List.replicate m 0) := by
  unfold wo
  congr 1
  apply Array.ext'
  have : (madeCells #[.int .u64 0] m).toList = List.replicate m (.int .u64 0) := by
    unfold madeCells
    apply List.ext_getElem
    · simp
    · intro i h1 h2
      simp [Nat.mod_one]
  rw [this]
  simp
theorem make_c (m : Nat) (hm : m ≤ 10000000) (W : World) : (Instr.makeSlice 122 (.int .i64 (m : Int)) (.int .i64 (m : Int))).run Tryz.prog W = .ok (.slice (some ⟨W.heap.size, 0, none⟩) m m) (W.alloc (wo (List.replicate m 0))) := by
  rw [← made_wo]
  exact print_make 122 23 .u64 8 Tryz.underlying122 info23 (by decide) m (by omega) W
theorem or_add (r : Nat) (hr : r < 64) (a b : Nat) (ha : a < 2 ^ r) (hb : b < B64) (hd : 2 ^ r ∣ b) : Go.bits .or .u64 (a : Int) (b : Int) = ((a + b : Nat) : Int) := by
  obtain ⟨k, rfl⟩ := hd
  have h1 : (a ||| 2 ^ r * k) = a + 2 ^ r * k := by
    rw [Nat.or_comm, Nat.add_comm]
    exact (Nat.two_pow_add_eq_or_of_lt ha k).symm
  have e : Go.bits .or .u64 (a : Int) ((2 ^ r * k : Nat) : Int) = IntKind.u64.wrap (((BitVec.ofInt 64 (a : Int) ||| BitVec.ofInt 64 ((2 ^ r * k : Nat) : Int)).toNat : Nat) : Int) := rfl
  have ha64 : a < B64 := Nat.lt_trans ha (by unfold B64; exact Nat.pow_lt_pow_right (by decide) hr)
  have t1 : (BitVec.ofInt 64 (a : Int)).toNat = a := by rw [BitVec.ofInt_natCast, BitVec.toNat_ofNat]; exact Nat.mod_eq_of_lt ha64
  have t2 : (BitVec.ofInt 64 ((2 ^ r * k : Nat) : Int)).toNat = 2 ^ r * k := by rw [BitVec.ofInt_natCast, BitVec.toNat_ofNat]; exact Nat.mod_eq_of_lt hb
  rw [e, BitVec.toNat_or, t1, t2, h1]
  have hlt : a + 2 ^ r * k < B64 := by
    rw [← h1]
    exact Nat.or_lt_two_pow (n := 64) ha64 hb
  exact IntWalk.u64_in _ (by unfold B64 at hlt; omega)
theorem wrapN64 (a : Nat) : IntKind.u64.wrap (a : Int) = ((a % B64 : Nat) : Int) := by rw [IntKind.wrap_u64]; unfold B64; omega
theorem wo_LR {W : World} {g c : Nat} {l : List Nat} (h : W.heap[g]? = some (wo l)) (hc : l.length ≤ c) (hl : l.length ≤ 100000000) : LR W (.slice (some ⟨g, 0, none⟩) l.length c) l :=
  ⟨some ⟨g, 0, none⟩, c, rfl, hc, nu_len l, by omega, fun _ => ⟨⟨g, 0, none⟩, rfl, fun j hj => by
    have hx : l[j]? = some (l[j]'hj) := List.getElem?_eq_getElem hj
    rw [get_nu l j _ hx, add_plain]
    exact wo_cell h j _ hx⟩⟩
theorem or_zero (z : Nat) (hz : z < B64) : Go.bits .or .u64 0 (z : Int) = (z : Int) := by
  have := or_add 0 (by decide) 0 z (by decide) hz (by simp)
  simpa using this
theorem shr_two (x r : Nat) (hr : r < 64) : ((x : Int) / 2 / 2 ^ (63 - r)) = ((x / 2 ^ (64 - r) : Nat) : Int) := by
  have h1 : ((x : Int) / 2 / 2 ^ (63 - r)) = ((x / 2 / 2 ^ (63 - r) : Nat) : Int) := by push_cast; rfl
  rw [h1, Nat.div_div_eq_div_mul]
  congr 2
  rw [show 64 - r = 63 - r + 1 by omega, Nat.pow_succ, Nat.mul_comm]
def LfR (w : World) (l : List Nat) (q C D : Nat) (g : Nat) (v17 : Value) (wr : World) : Prop :=
  ∃ (i cy : Nat) (pre : List Nat), v17 = .int .i64 (i : Int) ∧ i ≤ l.length ∧ cy < C ∧ pre.length = i ∧ wr.heap[g]? = some (wo (List.replicate q 0 ++ pre ++ cy :: List.replicate (l.length - i) 0)) ∧ pre ++ sh C D cy (l.drop i) = sh C D 0 l ∧ Below w.heap.size w wr
set_option maxRecDepth 1000000 in
set_option maxHeartbeats 4000000 in
theorem left_c (n k : Nat) (hk : k ≤ 1000000) (hlen : (wds B64 n).length ≤ 1000000) (v : Value) (w : World) (h : LW w v n) :
    Calls Tryz.prog 103 #[v, .int .i64 (k : Int)] w (LwQ w (n * 2 ^ k)) := by
  obtain ⟨A, c, rfl, hc, hr⟩ := h.out
  have HR := Lib.hid hr
  have HX : Hid (∀ x ∈ wds B64 n, x < B64) := Lib.hid (wds_lt B64 B64_2 n)
  have HV := Lib.hid (val_wds B64 B64_2 n)
  obtain ⟨q, hq⟩ : ∃ q, k / 64 = q := ⟨_, rfl⟩
  obtain ⟨r, hrr⟩ : ∃ r, k % 64 = r := ⟨_, rfl⟩
  have hr64 : r < 64 := by omega
  have hkq : k = 64 * q + r := by omega
  generalize wds B64 n = l at *
  have t1 : (k : Int).tdiv 64 = (q : Int) := by rw [Int.tdiv_eq_ediv_of_nonneg (by omega)]; omega
  have t2 : (k : Int).tmod 64 = (r : Int) := by rw [Int.tmod_eq_emod_of_nonneg (by omega)]; omega
  have t3 : (k : Int) / 64 = (q : Int) := by omega
  have t4 : (k : Int) % 64 = (r : Int) := by omega
  have hql : (q : Int) ≤ 1000000 := by omega
  have hll : (l.length : Int) ≤ 1000000 := by omega
  have hrI : (r : Int) < 64 := by omega
  obtain ⟨m, hm⟩ : ∃ m, l.length + q + 1 = m := ⟨_, rfl⟩
  have hmI : (l.length : Int) + (q : Int) + 1 = (m : Int) := by omega
  have hmk := make_c m (by omega) w
  have HA : Hid (LfR w l q (2 ^ r) (2 ^ (64 - r)) w.heap.size (.int .i64 0) (w.alloc (wo (List.replicate m 0)))) := Lib.hid
    ⟨0, 0, [], rfl, Nat.zero_le _, Nat.pow_pos (by decide), rfl, by
      rw [heap_alloc_new]
      congr 2
      rw [List.append_nil, Nat.sub_zero, ← List.replicate_succ, List.replicate_append_replicate]
      congr 1
      omega, rfl, (Below.refl _ _).alloc (Nat.le_refl _) _⟩
  have HKQ := Lib.hid hkq
  clear h hr hc hkq
  go_enter Tryz.func103, Tryz.ntmps103
  go_wp2
  obtain ⟨g, hg⟩ : ∃ g, g = w.heap.size := ⟨_, rfl⟩
  have HG : Hid (w.heap.size ≤ g) := Lib.hid (Nat.le_of_eq hg.symm)
  rw [← hg] at HA ⊢
  clear hg hmk
  go_loopw [17] (LfR w l q (2 ^ r) (2 ^ (64 - r)) g) (fun v17 _ => l.length - numV v17)
  case atStart => exact HA.out
  case round =>
    obtain ⟨i, cy, pre, rfl, hi, hcy, hpl, hO, hsh, hb⟩ := hrel
    have HO := Lib.hid hO
    have HB := Lib.hid hb
    have HS := Lib.hid hsh
    have HC := Lib.hid hcy
    have hi0 : 0 ≤ (i : Int) := by omega
    clear hO hb hsh hcy HA
    by_cases hlt : i < l.length
    · have hlt' : (i : Int) < (l.length : Int) := by omega
      obtain ⟨x, hx⟩ : ∃ x, l[i]? = some x := ⟨l[i]'hlt, List.getElem?_eq_getElem _⟩
      obtain ⟨ad, hA, hcx⟩ := reads_at HR.out i x hx
      subst hA
      replace hcx := (HB.out.cell (World.block_lt_of_cell? _ _ hcx)).trans hcx
      have hxB : x < B64 := HX.out x (List.mem_of_getElem? hx)
      have hdr : l.drop i = x :: l.drop (i + 1) := by
        obtain ⟨h1, h2⟩ := List.getElem?_eq_some_iff.1 hx
        rw [List.drop_eq_getElem_cons h1, h2]
      have hplen : (List.replicate q 0 ++ pre).length = q + i := by rw [List.length_append, List.length_replicate, hpl]
      have c0 := wo_cell HO.out (q + i) cy (by rw [← hplen, List.getElem?_append_right (Nat.le_refl _), Nat.sub_self]; rfl)
      have f0 := wo_frozen HO.out (q + i)
      have e1 : (i : Int) + (q : Int) < (m : Int) := by omega
      have e2 : ((i : Int) + (q : Int)).toNat = q + i := by omega
      obtain ⟨y, hy⟩ : ∃ y, y = x % 2 ^ (64 - r) * 2 ^ r := ⟨_, rfl⟩
      have hB : B64 = 2 ^ (64 - r) * 2 ^ r := by rw [← Nat.pow_add, show 64 - r + r = 64 by omega]; rfl
      have hyB : y < B64 := by
        rw [hy, hB]
        exact Nat.mul_lt_mul_of_pos_right (Nat.mod_lt _ (Nat.pow_pos (by decide))) (Nat.pow_pos (by decide))
      have hshl : IntKind.u64.wrap ((x : Int) * 2 ^ r) = (y : Int) := by
        have h1 : ((x : Int) * 2 ^ r) = ((x * 2 ^ r : Nat) : Int) := by push_cast; rfl
        rw [h1, wrapN64, hB, Nat.mul_mod_mul_right, ← hy]
      have hor : bits .or .u64 (cy : Int) (y : Int) = ((cy + y : Nat) : Int) := or_add r hr64 cy y HC.out hyB (by rw [hy]; exact Nat.dvd_mul_left _ _)
      obtain ⟨s, hs⟩ : ∃ s, s = cy + y := ⟨_, rfl⟩
      rw [← hs] at hor
      have HY := Lib.hid hy
      have HSS := Lib.hid hs
      have HDR := Lib.hid hdr
      have HXB := Lib.hid hxB
      clear hy hs hB hyB
      have HO1 : Hid ((wr.setCell ⟨g, q + i, none⟩ (.int .u64 (s : Int))).heap[g]? = some (wo (List.replicate q 0 ++ (pre ++ [s]) ++ 0 :: List.replicate (l.length - (i + 1)) 0))) := Lib.hid (by
        have h1 := wo_set HO.out (q + i) s
        rw [h1]
        congr 2
        have h2 : List.replicate (l.length - i) 0 = 0 :: List.replicate (l.length - (i + 1)) 0 := by rw [← List.replicate_succ]; congr 1; omega
        rw [h2, ← hplen, List.set_append_right _ _ (Nat.le_refl _), Nat.sub_self]
        simp)
      have hplen2 : (List.replicate q 0 ++ (pre ++ [s])).length = q + i + 1 := by simp [hpl]; omega
      have c1 := wo_cell HO1.out (q + i + 1) 0 (by rw [← hplen2, List.getElem?_append_right (Nat.le_refl _), Nat.sub_self]; rfl)
      have f1 := wo_frozen HO1.out (q + i + 1)
      go_upto_region 6 with fail
      have e3 : (i : Int) + (q : Int) + 1 < (m : Int) := by omega
      have e4 : ((i : Int) + (q : Int) + 1).toNat = q + i + 1 := by omega
      clear c0 f0 hcx hshl hor hdr
      obtain ⟨z, hz⟩ : ∃ z, z = x / 2 ^ (64 - r) := ⟨_, rfl⟩
      have hzC : z < 2 ^ r := by
        rw [hz, Nat.div_lt_iff_lt_mul (Nat.pow_pos (by decide)), ← Nat.pow_add, show r + (64 - r) = 64 by omega]
        exact HXB.out
      have hor2 : bits .or .u64 0 ((x : Int) / 2 / 2 ^ (63 - r)) = (z : Int) := by
        rw [shr_two x r hr64, ← hz]
        exact or_zero z (Nat.lt_trans hzC (by unfold B64; exact Nat.pow_lt_pow_right (by decide) hr64))
      have HO2 : Hid (((wr.setCell ⟨g, q + i, none⟩ (.int .u64 (s : Int))).setCell ⟨g, q + i + 1, none⟩ (.int .u64 (z : Int))).heap[g]? = some (wo (List.replicate q 0 ++ (pre ++ [s]) ++ z :: List.replicate (l.length - (i + 1)) 0))) := Lib.hid (by
        have h1 := wo_set HO1.out (q + i + 1) z
        rw [h1]
        congr 2
        rw [← hplen2, List.set_append_right _ _ (Nat.le_refl _), Nat.sub_self]
        rfl)
      have HSH : Hid ((pre ++ [s]) ++ sh (2 ^ r) (2 ^ (64 - r)) z (l.drop (i + 1)) = sh (2 ^ r) (2 ^ (64 - r)) 0 l) := Lib.hid (by
        rw [← HS.out, HDR.out, HSS.out, HY.out, hz, List.append_assoc]
        rfl)
      have HZ := Lib.hid hzC
      clear hz hzC hplen hplen2
      go_wp2
      go_roundw
      case rel => exact ⟨i + 1, z, pre ++ [s], by push_cast; rfl, by omega, HZ.out, by simp [hpl], HO2.out, HSH.out, (HB.out.setCell HG.out _).setCell HG.out _⟩
      case measure => simp only [numV]; omega
    · have hin : i = l.length := by omega
      have hge : (l.length : Int) ≤ (i : Int) := by omega
      obtain ⟨O, hOO⟩ : ∃ O, O = List.replicate q 0 ++ (pre ++ [cy]) := ⟨_, rfl⟩
      have hOl : O.length = m := by rw [hOO]; simp [hpl]; omega
      have hsh : pre ++ [cy] = sh (2 ^ r) (2 ^ (64 - r)) 0 l := by
        have h := HS.out
        rw [hin, List.drop_length] at h
        exact h
      have hB : B64 = 2 ^ (64 - r) * 2 ^ r := by rw [← Nat.pow_add, show 64 - r + r = 64 by omega]; rfl
      have hO2 : wr.heap[g]? = some (wo O) := by
        rw [HO.out, hOO, hin, Nat.sub_self, ← List.append_assoc]
        rfl
      have hOB : ∀ z ∈ O, z < B64 := by
        intro z hz
        rw [hOO] at hz
        rcases List.mem_append.1 hz with hz | hz
        · rw [(List.mem_replicate.1 hz).2]; decide
        · rw [hsh] at hz
          exact sh_lt B64 (2 ^ r) (2 ^ (64 - r)) hB (Nat.pow_pos (by decide)) (Nat.pow_pos (by decide)) l 0 (Nat.pow_pos (by decide)) HX.out z hz
      have hval : val B64 O = n * 2 ^ k := by
        rw [hOO, val_rep, hsh, val_sh B64 (2 ^ r) (2 ^ (64 - r)) hB (Nat.pow_pos (by decide)), HV.out, Nat.zero_add, HKQ.out, Nat.pow_add]
        have : B64 = 2 ^ 64 := by decide
        rw [this, ← Nat.pow_mul]
        ac_rfl
      have hLR := wo_LR hO2 (Nat.le_refl _) (by omega)
      have HCUT := Lib.hid (cut_c O hOB (by omega) _ wr hLR)
      rw [hval, hOl] at HCUT
      clear hOO hOl hsh hB hO2 hOB hval hLR hin hlt
      go_wp2_with fail
      refine HCUT.out.mono ?_
      intro e w2 hq
      obtain ⟨v, he, hv, hb⟩ := hq.out
      subst he
      have HB2 := Lib.hid (below_step HB.out hb)
      have HV2 := Lib.hid hv
      clear hq hb hv
      go_wp2
      go_ret
      exact ⟨_, rfl, HV2.out, HB2.out⟩
end Go.Proofs.YtjecdciabpjgcaaGreatDoor.Lz
