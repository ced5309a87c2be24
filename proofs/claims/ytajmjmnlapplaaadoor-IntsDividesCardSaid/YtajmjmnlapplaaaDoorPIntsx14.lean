-- Written by the kit's print.py for this claim, called with several roots by this session's own script (print-roots.sh)
import Derived.Test.YtajmjmnlapplaaaDoorPIntsx0
import Derived.Test.YtajmjmnlapplaaaDoorPIntsx1
import Derived.Test.YtajmjmnlapplaaaDoorPIntsx2
import Derived.Test.YtajmjmnlapplaaaDoorPIntsx3
import Derived.Test.YtajmjmnlapplaaaDoorPIntsx13
namespace Go.Proofs.YtajmjmnlapplaaaDoor.PInts
open Go.RowKit Go.Proofs.YtajmjmnlapplaaaDoorW.PrintWords Go.Proofs.YtajmjmnlapplaaaDoorW.PrintLast Go.Proofs.YtajmjmnlapplaaaDoorW.PrintMore
attribute [local go_sem] max2_int min2_int max_two min_two max_three min_three max_four min_four   -- for this text's walks alone
set_option linter.unusedVariables false
set_option linter.unusedSimpArgs false

/-! ### ints_Un: function 20 -/
def ints_Un.j0 : Nat → Int → Int → Int → Bool → Option (Int × Int)
  | 0, _, _, _, _ => none
  | k + 1, x0, x1, x2, x21 => if x21 = true then (some (0, 1)) else ((ints_mask.f x0).bind fun t126 => (if x1 = 1 then ((bits_Len64.f (Go.bits .and .u64 x2 t126)).bind fun t127 => (some (IntKind.u64.wrap (wrap64 (x0 - t127)), 0))) else (if x1 = 2 then ((bits_TrailingZeros64.f (Go.bits .and .u64 x2 t126)).bind fun t128 => (some (IntKind.u64.wrap (mn t128 x0), 0))) else (if x1 = 3 then ((bits_OnesCount64.f (Go.bits .and .u64 x2 t126)).bind fun t129 => (some (IntKind.u64.wrap (t129), 0))) else (if x1 = 7 then ((ints_Signed.f x0 (Go.bits .and .u64 x2 t126)).bind fun t130 => (if t130 ≥ 0 then (some (Go.bits .and .u64 x2 t126, 0)) else (some (Go.bits .and .u64 (IntKind.u64.wrap (-(Go.bits .and .u64 x2 t126))) t126, 0)))) else (if x1 = 8 then (some (Go.bits .and .u64 (IntKind.u64.wrap (-(Go.bits .and .u64 x2 t126))) t126, 0)) else (if 0 ≤ (IntKind.u64.wrap (wrap64 (x1 - 4))) then (if (shl .i64 8 (IntKind.u64.wrap (wrap64 (x1 - 4)))) ≥ x0 then (some (0, 1)) else ((ints_Signed.f (shl .i64 8 (IntKind.u64.wrap (wrap64 (x1 - 4)))) (Go.bits .and .u64 x2 t126)).bind fun t131 => (some (Go.bits .and .u64 (IntKind.u64.wrap (t131)) t126, 0)))) else (none))))))))
def ints_Un.f (k : Nat) (a0 : Int) (a1 : Int) (a2 : Int) : Option (Int × Int) := (ints_right.f a0).bind fun t125 => (if t125 = true then (if a1 < 1 then (ints_Un.j0 k a0 a1 a2 true) else (ints_Un.j0 k a0 a1 a2 (decide (a1 > 8)))) else (ints_Un.j0 k a0 a1 a2 true))
theorem ints_Un.mono_l : ∀ k, (∀ y0 y1 y2 y3, LeO (ints_Un.j0 k y0 y1 y2 y3) (ints_Un.j0 (k + 1) y0 y1 y2 y3)) := by
  intro k
  induction k with
  | zero => exact fun _ _ _ _ r h => by simp [ints_Un.j0] at h
  | succ k ih =>
    have ih0 := ih
    · intro y0 y1 y2 y3
      unfold ints_Un.j0
      repeat' first
      | (with_reducible exact ih0 _ _ _ _)
      | (with_reducible exact LeO.refl _)
      | (with_reducible exact LeO.none _)
      | (with_reducible refine LeO.ite ?_ ?_)
      | (with_reducible refine LeO.bind ?_ (fun _ => ?_))
      | exact ih0 _ _ _ _
      | exact LeO.none _
      | refine LeO.ite ?_ ?_
      | refine LeO.bind ?_ (fun _ => ?_)
theorem ints_Un.mono : ∀ a0 a1 a2 k, LeO (ints_Un.f k a0 a1 a2) (ints_Un.f (k + 1) a0 a1 a2) := by
  intro a0 a1 a2 k
  have ih0 := ints_Un.mono_l k
  unfold ints_Un.f
  repeat' first
      | (with_reducible exact ih0 _ _ _ _)
      | (with_reducible exact LeO.refl _)
      | (with_reducible exact LeO.none _)
      | (with_reducible refine LeO.ite ?_ ?_)
      | (with_reducible refine LeO.bind ?_ (fun _ => ?_))
      | exact ih0 _ _ _ _
      | exact LeO.none _
      | refine LeO.ite ?_ ?_
      | refine LeO.bind ?_ (fun _ => ?_)
set_option maxHeartbeats 8000000 in
set_option maxRecDepth 100000 in
theorem ints_Un.calls (k : Nat) (a0 : Int) (a1 : Int) (a2 : Int) (r1 : Int) (r2 : Int) (w : World) (h : ints_Un.f k a0 a1 a2 = some (r1, r2)) :
    Calls Tryd.prog 20 #[.int .i64 a0, .int .i64 a1, .int .u64 a2] w fun e w' => e = .returned (.tuple #[.int .u64 r1, .int .i64 r2]) ∧ Below w.heap.size w w' := by
  have HB := Aside0.mk (Below.refl w.heap.size w)
  have H : ((ints_right.f a0).bind fun t125 => (if t125 = true then (if a1 < 1 then (ints_Un.j0 k a0 a1 a2 true) else (ints_Un.j0 k a0 a1 a2 (decide (a1 > 8)))) else (ints_Un.j0 k a0 a1 a2 true))) = some (r1, r2) := h
  clear h
  have HC4 := Aside0.mk H
  clear H
  go_enter Tryd.func20, Tryd.ntmps20
  go_upto_region 1 with (fail)
  go_cut [21] (fun v21 wc => ∃ (kq : Nat) (x21_3 : Bool), v21 = .bool x21_3 ∧ Aside0 (ints_Un.j0 kq a0 a1 a2 x21_3 = some (r1, r2)) ∧ Aside0 (kq ≤ k) ∧ Aside0 (Below w.heap.size w wc))
  case first =>
    have H := HC4.out
    clear HC4
    replace H := Option.bind_eq_some_iff.mp H
    obtain ⟨t125, A50, H⟩ := H
    replace H : (if t125 = true then (if a1 < 1 then (ints_Un.j0 k a0 a1 a2 true) else (ints_Un.j0 k a0 a1 a2 (decide (a1 > 8)))) else (ints_Un.j0 k a0 a1 a2 true)) = some (r1, r2) := H
    have A5 := Aside0.mk A50
    clear A50
    by_cases c6 : t125 = true
    · subst c6
      have H1 : (if a1 < 1 then (ints_Un.j0 k a0 a1 a2 true) else (ints_Un.j0 k a0 a1 a2 (decide (a1 > 8)))) = some (r1, r2) := by rw [if_pos rfl] at H; exact H
      clear H
      have H := H1
      clear H1
      by_cases c7 : a1 < 1
      · rw [if_pos c7] at H
        have c7b0 : decide (a1 < 1) = true := decide_eq_true c7
        clear c7
        (first | rw [c7b0] | (simp only [i64_w, i32_w]; rw [c7b0]) | skip)
        have H' := Aside0.mk H
        clear H
        go_wp2_with (first | ((with_reducible refine gate_callee (f := 25) rfl ?_); refine goesL_ (some 12) rfl rfl Tryd.func25 (by kernel_rfl) rfl #[.int .i64 a0] rfl (by (try simp only [List.map_toArray, List.map_cons, List.map_nil]); first | done | rfl | (simp only [List.length_drop, List.length_take]; rfl)) ?_; (with_reducible refine (ints_right.calls a0 true _ A5.out).mono ?_); rintro e w' ⟨rfl, ⟨nd, rfl⟩⟩; refine ⟨_, rfl, ?_⟩))
        go_meet
        case rel => exact ⟨_, (true), (by first | rfl | (simp; done) | (simp [*]; done)), H', ⟨by first | omega | exact Nat.le_refl _⟩, ⟨by repeat (first | (with_reducible first | exact HB.out | apply below_alloc | apply pw_below_drewN | apply below_drew1) | exact HB.out)⟩⟩
      · rw [if_neg c7] at H
        have c7b0 : decide (a1 < 1) = false := decide_eq_false c7
        clear c7
        (first | rw [c7b0] | (simp only [i64_w, i32_w]; rw [c7b0]) | skip)
        have H' := Aside0.mk H
        clear H
        go_wp2_with (first | ((with_reducible refine gate_callee (f := 25) rfl ?_); refine goesL_ (some 12) rfl rfl Tryd.func25 (by kernel_rfl) rfl #[.int .i64 a0] rfl (by (try simp only [List.map_toArray, List.map_cons, List.map_nil]); first | done | rfl | (simp only [List.length_drop, List.length_take]; rfl)) ?_; (with_reducible refine (ints_right.calls a0 true _ A5.out).mono ?_); rintro e w' ⟨rfl, ⟨nd, rfl⟩⟩; refine ⟨_, rfl, ?_⟩))
        go_meet
        case rel => exact ⟨_, (decide (a1 > 8)), (by first | rfl | (simp; done) | (simp [*]; done)), H', ⟨by first | omega | exact Nat.le_refl _⟩, ⟨by repeat (first | (with_reducible first | exact HB.out | apply below_alloc | apply pw_below_drewN | apply below_drew1) | exact HB.out)⟩⟩
    · replace c6 := Bool.eq_false_iff.mpr c6
      subst c6
      have H1 : (ints_Un.j0 k a0 a1 a2 true) = some (r1, r2) := by rw [if_neg (show ¬ (false = true) by decide)] at H; exact H
      clear H
      have H := H1
      clear H1
      have H' := Aside0.mk H
      clear H
      go_wp2_with (first | ((with_reducible refine gate_callee (f := 25) rfl ?_); refine goesL_ (some 12) rfl rfl Tryd.func25 (by kernel_rfl) rfl #[.int .i64 a0] rfl (by (try simp only [List.map_toArray, List.map_cons, List.map_nil]); first | done | rfl | (simp only [List.length_drop, List.length_take]; rfl)) ?_; (with_reducible refine (ints_right.calls a0 false _ A5.out).mono ?_); rintro e w' ⟨rfl, ⟨nd, rfl⟩⟩; refine ⟨_, rfl, ?_⟩))
      go_meet
      case rel => exact ⟨_, (true), (by first | rfl | (simp; done) | (simp [*]; done)), H', ⟨by first | omega | exact Nat.le_refl _⟩, ⟨by repeat (first | (with_reducible first | exact HB.out | apply below_alloc | apply pw_below_drewN | apply below_drew1) | exact HB.out)⟩⟩
  case rest =>
    clear HC4
    try clear c2
    try clear p2
    try clear c6
    try clear c7
    try clear c7b0
    obtain ⟨kq, x21_3, rfl, HA, HJ3, HB⟩ := hcut
    cases kq with
    | zero => exact absurd HA.out (by simp [ints_Un.j0])
    | succ kj3 =>
      have H := HA.out
      clear HA
      simp only [ints_Un.j0] at H
      by_cases c8 : x21_3 = true
      · subst c8
        have H1 : (some (0, 1)) = some (r1, r2) := by rw [if_pos rfl] at H; exact H
        clear H
        have H := H1
        clear H1
        simp only [Option.some.injEq, Prod.mk.injEq] at H
        obtain ⟨rfl, rfl⟩ := H
        go_wp2
        go_ret2
        exact ⟨by first | rfl | (simp [errW_none, errW_some] <;> rfl) | (simp [*, errW_none, errW_some] <;> rfl), by repeat (first | (with_reducible first | exact HB.out | apply below_alloc | apply pw_below_drewN | apply below_drew1) | exact HB.out)⟩
      · replace c8 := Bool.eq_false_iff.mpr c8
        subst c8
        have H1 : ((ints_mask.f a0).bind fun t126 => (if a1 = 1 then ((bits_Len64.f (Go.bits .and .u64 a2 t126)).bind fun t127 => (some (IntKind.u64.wrap (wrap64 (a0 - t127)), 0))) else (if a1 = 2 then ((bits_TrailingZeros64.f (Go.bits .and .u64 a2 t126)).bind fun t128 => (some (IntKind.u64.wrap (mn t128 a0), 0))) else (if a1 = 3 then ((bits_OnesCount64.f (Go.bits .and .u64 a2 t126)).bind fun t129 => (some (IntKind.u64.wrap (t129), 0))) else (if a1 = 7 then ((ints_Signed.f a0 (Go.bits .and .u64 a2 t126)).bind fun t130 => (if t130 ≥ 0 then (some (Go.bits .and .u64 a2 t126, 0)) else (some (Go.bits .and .u64 (IntKind.u64.wrap (-(Go.bits .and .u64 a2 t126))) t126, 0)))) else (if a1 = 8 then (some (Go.bits .and .u64 (IntKind.u64.wrap (-(Go.bits .and .u64 a2 t126))) t126, 0)) else (if 0 ≤ (IntKind.u64.wrap (wrap64 (a1 - 4))) then (if (shl .i64 8 (IntKind.u64.wrap (wrap64 (a1 - 4)))) ≥ a0 then (some (0, 1)) else ((ints_Signed.f (shl .i64 8 (IntKind.u64.wrap (wrap64 (a1 - 4)))) (Go.bits .and .u64 a2 t126)).bind fun t131 => (some (Go.bits .and .u64 (IntKind.u64.wrap (t131)) t126, 0)))) else (none)))))))) = some (r1, r2) := by rw [if_neg (show ¬ (false = true) by decide)] at H; exact H
        clear H
        have H := H1
        clear H1
        replace H := Option.bind_eq_some_iff.mp H
        obtain ⟨t126, A90, H⟩ := H
        replace H : (if a1 = 1 then ((bits_Len64.f (Go.bits .and .u64 a2 t126)).bind fun t127 => (some (IntKind.u64.wrap (wrap64 (a0 - t127)), 0))) else (if a1 = 2 then ((bits_TrailingZeros64.f (Go.bits .and .u64 a2 t126)).bind fun t128 => (some (IntKind.u64.wrap (mn t128 a0), 0))) else (if a1 = 3 then ((bits_OnesCount64.f (Go.bits .and .u64 a2 t126)).bind fun t129 => (some (IntKind.u64.wrap (t129), 0))) else (if a1 = 7 then ((ints_Signed.f a0 (Go.bits .and .u64 a2 t126)).bind fun t130 => (if t130 ≥ 0 then (some (Go.bits .and .u64 a2 t126, 0)) else (some (Go.bits .and .u64 (IntKind.u64.wrap (-(Go.bits .and .u64 a2 t126))) t126, 0)))) else (if a1 = 8 then (some (Go.bits .and .u64 (IntKind.u64.wrap (-(Go.bits .and .u64 a2 t126))) t126, 0)) else (if 0 ≤ (IntKind.u64.wrap (wrap64 (a1 - 4))) then (if (shl .i64 8 (IntKind.u64.wrap (wrap64 (a1 - 4)))) ≥ a0 then (some (0, 1)) else ((ints_Signed.f (shl .i64 8 (IntKind.u64.wrap (wrap64 (a1 - 4)))) (Go.bits .and .u64 a2 t126)).bind fun t131 => (some (Go.bits .and .u64 (IntKind.u64.wrap (t131)) t126, 0)))) else (none))))))) = some (r1, r2) := H
        have A9 := Aside0.mk A90
        clear A90
        by_cases c10 : a1 = 1
        · rw [if_pos c10] at H
          have c10b0 : (a1 == 1) = true := beq_iff_eq.mpr c10
          have c10b1 : (a1 != 1) = false := bne_eq_false_iff_eq.mpr c10
          clear c10
          replace H := Option.bind_eq_some_iff.mp H
          obtain ⟨t127, A110, H⟩ := H
          replace H : (some (IntKind.u64.wrap (wrap64 (a0 - t127)), 0)) = some (r1, r2) := H
          have A11 := Aside0.mk A110
          clear A110
          simp only [Option.some.injEq, Prod.mk.injEq] at H
          obtain ⟨rfl, rfl⟩ := H
          go_wp2_with (first | ((with_reducible refine gate_callee (f := 26) rfl ?_); refine goesL_ (some 23) rfl rfl Tryd.func26 (by kernel_rfl) rfl #[.int .i64 a0] rfl (by (try simp only [List.map_toArray, List.map_cons, List.map_nil]); first | done | rfl | (simp only [List.length_drop, List.length_take]; rfl)) ?_; (with_reducible refine (ints_mask.calls a0 t126 _ A9.out).mono ?_); rintro e w' ⟨rfl, ⟨nd, rfl⟩⟩; refine ⟨_, rfl, ?_⟩) | ((with_reducible refine gate_callee (f := 38) rfl ?_); refine goesL_ (some 32) rfl rfl Tryd.func38 (by kernel_rfl) rfl #[.int .u64 (Go.bits .and .u64 a2 t126)] rfl (by (try simp only [List.map_toArray, List.map_cons, List.map_nil]); first | done | rfl | (simp only [List.length_drop, List.length_take]; rfl)) ?_; (with_reducible refine (bits_Len64.calls (Go.bits .and .u64 a2 t126) t127 _ A11.out).mono ?_); rintro e w' ⟨rfl, ⟨nd, rfl⟩⟩; refine ⟨_, rfl, ?_⟩))
          go_ret2
          exact ⟨by first | rfl | (simp [errW_none, errW_some] <;> rfl) | (simp [*, errW_none, errW_some] <;> rfl), by repeat (first | (with_reducible first | exact HB.out | apply below_alloc | apply pw_below_drewN | apply below_drew1) | exact HB.out)⟩
        · rw [if_neg c10] at H
          have c10b0 : (a1 == 1) = false := beq_eq_false_iff_ne.mpr c10
          have c10b1 : (a1 != 1) = true := bne_iff_ne.mpr c10
          by_cases c12 : a1 = 2
          · rw [if_pos c12] at H
            have c12b0 : (a1 == 2) = true := beq_iff_eq.mpr c12
            have c12b1 : (a1 != 2) = false := bne_eq_false_iff_eq.mpr c12
            clear c12
            replace H := Option.bind_eq_some_iff.mp H
            obtain ⟨t128, A130, H⟩ := H
            replace H : (some (IntKind.u64.wrap (mn t128 a0), 0)) = some (r1, r2) := H
            have A13 := Aside0.mk A130
            clear A130
            obtain ⟨ji14, hji14⟩ : ∃ j_ : Int, (mn t128 a0) = j_ := ⟨_, rfl⟩
            replace H : (some (IntKind.u64.wrap (ji14), 0)) = some (r1, r2) := by first | (rw [hji14] at H; exact H) | (simp only [hji14] at H ⊢; exact H)
            (try rw [hji14] at A9)
            (try rw [hji14] at A13)
            have hji14_ : (if a0 < t128 then a0 else t128) = ji14 := hji14
            simp only [Option.some.injEq, Prod.mk.injEq] at H
            obtain ⟨rfl, rfl⟩ := H
            go_wp2_with (first | ((with_reducible refine gate_callee (f := 26) rfl ?_); refine goesL_ (some 23) rfl rfl Tryd.func26 (by kernel_rfl) rfl #[.int .i64 a0] rfl (by (try simp only [List.map_toArray, List.map_cons, List.map_nil]); first | done | rfl | (simp only [List.length_drop, List.length_take]; rfl)) ?_; (with_reducible refine (ints_mask.calls a0 t126 _ A9.out).mono ?_); rintro e w' ⟨rfl, ⟨nd, rfl⟩⟩; refine ⟨_, rfl, ?_⟩) | ((with_reducible refine gate_callee (f := 39) rfl ?_); refine goesL_ (some 38) rfl rfl Tryd.func39 (by kernel_rfl) rfl #[.int .u64 (Go.bits .and .u64 a2 t126)] rfl (by (try simp only [List.map_toArray, List.map_cons, List.map_nil]); first | done | rfl | (simp only [List.length_drop, List.length_take]; rfl)) ?_; (with_reducible refine (bits_TrailingZeros64.calls (Go.bits .and .u64 a2 t126) t128 _ A13.out).mono ?_); rintro e w' ⟨rfl, ⟨nd, rfl⟩⟩; refine ⟨_, rfl, ?_⟩))
            go_ret2
            exact ⟨by first | rfl | (simp [errW_none, errW_some] <;> rfl) | (simp only [← hji14]; first | rfl | (simp [errW_none, errW_some] <;> rfl)) | (simp [*, errW_none, errW_some] <;> rfl), by repeat (first | (with_reducible first | exact HB.out | apply below_alloc | apply pw_below_drewN | apply below_drew1) | exact HB.out)⟩
          · rw [if_neg c12] at H
            have c12b0 : (a1 == 2) = false := beq_eq_false_iff_ne.mpr c12
            have c12b1 : (a1 != 2) = true := bne_iff_ne.mpr c12
            by_cases c15 : a1 = 3
            · rw [if_pos c15] at H
              have c15b0 : (a1 == 3) = true := beq_iff_eq.mpr c15
              have c15b1 : (a1 != 3) = false := bne_eq_false_iff_eq.mpr c15
              clear c15
              replace H := Option.bind_eq_some_iff.mp H
              obtain ⟨t129, A160, H⟩ := H
              replace H : (some (IntKind.u64.wrap (t129), 0)) = some (r1, r2) := H
              have A16 := Aside0.mk A160
              clear A160
              simp only [Option.some.injEq, Prod.mk.injEq] at H
              obtain ⟨rfl, rfl⟩ := H
              go_wp2_with (first | ((with_reducible refine gate_callee (f := 26) rfl ?_); refine goesL_ (some 23) rfl rfl Tryd.func26 (by kernel_rfl) rfl #[.int .i64 a0] rfl (by (try simp only [List.map_toArray, List.map_cons, List.map_nil]); first | done | rfl | (simp only [List.length_drop, List.length_take]; rfl)) ?_; (with_reducible refine (ints_mask.calls a0 t126 _ A9.out).mono ?_); rintro e w' ⟨rfl, ⟨nd, rfl⟩⟩; refine ⟨_, rfl, ?_⟩) | ((with_reducible refine gate_callee (f := 40) rfl ?_); refine goesL_ (some 45) rfl rfl Tryd.func40 (by kernel_rfl) rfl #[.int .u64 (Go.bits .and .u64 a2 t126)] rfl (by (try simp only [List.map_toArray, List.map_cons, List.map_nil]); first | done | rfl | (simp only [List.length_drop, List.length_take]; rfl)) ?_; (with_reducible refine (bits_OnesCount64.calls (Go.bits .and .u64 a2 t126) t129 _ A16.out).mono ?_); rintro e w' ⟨rfl, ⟨nd, rfl⟩⟩; refine ⟨_, rfl, ?_⟩))
              go_ret2
              exact ⟨by first | rfl | (simp [errW_none, errW_some] <;> rfl) | (simp [*, errW_none, errW_some] <;> rfl), by repeat (first | (with_reducible first | exact HB.out | apply below_alloc | apply pw_below_drewN | apply below_drew1) | exact HB.out)⟩
            · rw [if_neg c15] at H
              have c15b0 : (a1 == 3) = false := beq_eq_false_iff_ne.mpr c15
              have c15b1 : (a1 != 3) = true := bne_iff_ne.mpr c15
              by_cases c17 : a1 = 7
              · rw [if_pos c17] at H
                have c17b0 : (a1 == 7) = true := beq_iff_eq.mpr c17
                have c17b1 : (a1 != 7) = false := bne_eq_false_iff_eq.mpr c17
                clear c17
                replace H := Option.bind_eq_some_iff.mp H
                obtain ⟨t130, A180, H⟩ := H
                replace H : (if t130 ≥ 0 then (some (Go.bits .and .u64 a2 t126, 0)) else (some (Go.bits .and .u64 (IntKind.u64.wrap (-(Go.bits .and .u64 a2 t126))) t126, 0))) = some (r1, r2) := H
                have A18 := Aside0.mk A180
                clear A180
                by_cases c19 : t130 ≥ 0
                · rw [if_pos c19] at H
                  have c19b0 : decide (0 ≤ t130) = true := decide_eq_true c19
                  clear c19
                  simp only [Option.some.injEq, Prod.mk.injEq] at H
                  obtain ⟨rfl, rfl⟩ := H
                  go_wp2_with (first | ((with_reducible refine gate_callee (f := 26) rfl ?_); refine goesL_ (some 23) rfl rfl Tryd.func26 (by kernel_rfl) rfl #[.int .i64 a0] rfl (by (try simp only [List.map_toArray, List.map_cons, List.map_nil]); first | done | rfl | (simp only [List.length_drop, List.length_take]; rfl)) ?_; (with_reducible refine (ints_mask.calls a0 t126 _ A9.out).mono ?_); rintro e w' ⟨rfl, ⟨nd, rfl⟩⟩; refine ⟨_, rfl, ?_⟩) | ((with_reducible refine gate_callee (f := 22) rfl ?_); refine goesL_ (some 51) rfl rfl Tryd.func22 (by kernel_rfl) rfl #[.int .i64 a0, .int .u64 (Go.bits .and .u64 a2 t126)] rfl (by (try simp only [List.map_toArray, List.map_cons, List.map_nil]); first | done | rfl | (simp only [List.length_drop, List.length_take]; rfl)) ?_; (with_reducible refine (ints_Signed.calls a0 (Go.bits .and .u64 a2 t126) t130 _ A18.out).mono ?_); rintro e w' ⟨rfl, ⟨nd, rfl⟩⟩; refine ⟨_, rfl, ?_⟩))
                  go_ret2
                  exact ⟨by first | rfl | (simp [errW_none, errW_some] <;> rfl) | (simp [*, errW_none, errW_some] <;> rfl), by repeat (first | (with_reducible first | exact HB.out | apply below_alloc | apply pw_below_drewN | apply below_drew1) | exact HB.out)⟩
                · rw [if_neg c19] at H
                  have c19b0 : decide (0 ≤ t130) = false := decide_eq_false c19
                  clear c19
                  simp only [Option.some.injEq, Prod.mk.injEq] at H
                  obtain ⟨rfl, rfl⟩ := H
                  go_wp2_with (first | ((with_reducible refine gate_callee (f := 26) rfl ?_); refine goesL_ (some 23) rfl rfl Tryd.func26 (by kernel_rfl) rfl #[.int .i64 a0] rfl (by (try simp only [List.map_toArray, List.map_cons, List.map_nil]); first | done | rfl | (simp only [List.length_drop, List.length_take]; rfl)) ?_; (with_reducible refine (ints_mask.calls a0 t126 _ A9.out).mono ?_); rintro e w' ⟨rfl, ⟨nd, rfl⟩⟩; refine ⟨_, rfl, ?_⟩) | ((with_reducible refine gate_callee (f := 22) rfl ?_); refine goesL_ (some 51) rfl rfl Tryd.func22 (by kernel_rfl) rfl #[.int .i64 a0, .int .u64 (Go.bits .and .u64 a2 t126)] rfl (by (try simp only [List.map_toArray, List.map_cons, List.map_nil]); first | done | rfl | (simp only [List.length_drop, List.length_take]; rfl)) ?_; (with_reducible refine (ints_Signed.calls a0 (Go.bits .and .u64 a2 t126) t130 _ A18.out).mono ?_); rintro e w' ⟨rfl, ⟨nd, rfl⟩⟩; refine ⟨_, rfl, ?_⟩))
                  go_ret2
                  exact ⟨by first | rfl | (simp [errW_none, errW_some] <;> rfl) | (simp [*, errW_none, errW_some] <;> rfl), by repeat (first | (with_reducible first | exact HB.out | apply below_alloc | apply pw_below_drewN | apply below_drew1) | exact HB.out)⟩
              · rw [if_neg c17] at H
                have c17b0 : (a1 == 7) = false := beq_eq_false_iff_ne.mpr c17
                have c17b1 : (a1 != 7) = true := bne_iff_ne.mpr c17
                by_cases c20 : a1 = 8
                · rw [if_pos c20] at H
                  have c20b0 : (a1 == 8) = true := beq_iff_eq.mpr c20
                  have c20b1 : (a1 != 8) = false := bne_eq_false_iff_eq.mpr c20
                  clear c20
                  simp only [Option.some.injEq, Prod.mk.injEq] at H
                  obtain ⟨rfl, rfl⟩ := H
                  go_wp2_with (first | ((with_reducible refine gate_callee (f := 26) rfl ?_); refine goesL_ (some 23) rfl rfl Tryd.func26 (by kernel_rfl) rfl #[.int .i64 a0] rfl (by (try simp only [List.map_toArray, List.map_cons, List.map_nil]); first | done | rfl | (simp only [List.length_drop, List.length_take]; rfl)) ?_; (with_reducible refine (ints_mask.calls a0 t126 _ A9.out).mono ?_); rintro e w' ⟨rfl, ⟨nd, rfl⟩⟩; refine ⟨_, rfl, ?_⟩))
                  go_ret2
                  exact ⟨by first | rfl | (simp [errW_none, errW_some] <;> rfl) | (simp [*, errW_none, errW_some] <;> rfl), by repeat (first | (with_reducible first | exact HB.out | apply below_alloc | apply pw_below_drewN | apply below_drew1) | exact HB.out)⟩
                · rw [if_neg c20] at H
                  have c20b0 : (a1 == 8) = false := beq_eq_false_iff_ne.mpr c20
                  have c20b1 : (a1 != 8) = true := bne_iff_ne.mpr c20
                  obtain ⟨ji21, hji21⟩ : ∃ j_ : Int, (IntKind.u64.wrap (wrap64 (a1 - 4))) = j_ := ⟨_, rfl⟩
                  replace H : (if 0 ≤ (ji21) then (if (shl .i64 8 (ji21)) ≥ a0 then (some (0, 1)) else ((ints_Signed.f (shl .i64 8 (ji21)) (Go.bits .and .u64 a2 t126)).bind fun t131 => (some (Go.bits .and .u64 (IntKind.u64.wrap (t131)) t126, 0)))) else (none)) = some (r1, r2) := by first | (rw [hji21] at H; exact H) | (simp only [hji21] at H ⊢; exact H)
                  (try rw [hji21] at A9)
                  by_cases c22 : 0 ≤ (ji21)
                  · rw [if_pos c22] at H
                    have c22b0 := eq_true c22
                    have c22b1 : decide (0 ≤ (ji21)) = true := decide_eq_true c22
                    clear c22
                    obtain ⟨ji23, hji23⟩ : ∃ j_ : Int, (shl .i64 8 (ji21)) = j_ := ⟨_, rfl⟩
                    replace H : (if (ji23) ≥ a0 then (some (0, 1)) else ((ints_Signed.f (ji23) (Go.bits .and .u64 a2 t126)).bind fun t131 => (some (Go.bits .and .u64 (IntKind.u64.wrap (t131)) t126, 0)))) = some (r1, r2) := by first | (rw [hji23] at H; exact H) | (simp only [hji23] at H ⊢; exact H)
                    (try rw [hji23] at A9)
                    have hji23_ : (IntKind.i64.wrap (8 * 2 ^ min (ji21).toNat 64)) = ji23 := hji23
                    have hji23z : (ji21) ≤ 64 → (IntKind.i64.wrap (8 * 2 ^ (ji21).toNat)) = ji23 := shl_small hji23
                    have hji23y : (wrap64 (8 * 2 ^ min (ji21).toNat 64)) = ji23 := (i64_w _).symm.trans hji23_
                    have hji23x : (ji21) ≤ 64 → (wrap64 (8 * 2 ^ (ji21).toNat)) = ji23 := fun h_ => (i64_w _).symm.trans (hji23z h_)
                    by_cases c24 : (ji23) ≥ a0
                    · rw [if_pos c24] at H
                      have c24b0 : decide (a0 ≤ (ji23)) = true := decide_eq_true c24
                      clear c24
                      simp only [Option.some.injEq, Prod.mk.injEq] at H
                      obtain ⟨rfl, rfl⟩ := H
                      go_wp2_with (first | ((with_reducible refine gate_callee (f := 26) rfl ?_); refine goesL_ (some 23) rfl rfl Tryd.func26 (by kernel_rfl) rfl #[.int .i64 a0] rfl (by (try simp only [List.map_toArray, List.map_cons, List.map_nil]); first | done | rfl | (simp only [List.length_drop, List.length_take]; rfl)) ?_; (with_reducible refine (ints_mask.calls a0 t126 _ A9.out).mono ?_); rintro e w' ⟨rfl, ⟨nd, rfl⟩⟩; refine ⟨_, rfl, ?_⟩))
                      go_ret2
                      exact ⟨by first | rfl | (simp [errW_none, errW_some] <;> rfl) | (simp only [← hji21, ← hji23]; first | rfl | (simp [errW_none, errW_some] <;> rfl)) | (simp [*, errW_none, errW_some] <;> rfl), by repeat (first | (with_reducible first | exact HB.out | apply below_alloc | apply pw_below_drewN | apply below_drew1) | exact HB.out)⟩
                    · rw [if_neg c24] at H
                      have c24b0 : decide (a0 ≤ (ji23)) = false := decide_eq_false c24
                      clear c24
                      replace H := Option.bind_eq_some_iff.mp H
                      obtain ⟨t131, A250, H⟩ := H
                      replace H : (some (Go.bits .and .u64 (IntKind.u64.wrap (t131)) t126, 0)) = some (r1, r2) := H
                      have A25 := Aside0.mk A250
                      clear A250
                      simp only [Option.some.injEq, Prod.mk.injEq] at H
                      obtain ⟨rfl, rfl⟩ := H
                      go_wp2_with (first | ((with_reducible refine gate_callee (f := 26) rfl ?_); refine goesL_ (some 23) rfl rfl Tryd.func26 (by kernel_rfl) rfl #[.int .i64 a0] rfl (by (try simp only [List.map_toArray, List.map_cons, List.map_nil]); first | done | rfl | (simp only [List.length_drop, List.length_take]; rfl)) ?_; (with_reducible refine (ints_mask.calls a0 t126 _ A9.out).mono ?_); rintro e w' ⟨rfl, ⟨nd, rfl⟩⟩; refine ⟨_, rfl, ?_⟩) | ((with_reducible refine gate_callee (f := 22) rfl ?_); refine goesL_ (some 74) rfl rfl Tryd.func22 (by kernel_rfl) rfl #[.int .i64 ji23, .int .u64 (Go.bits .and .u64 a2 t126)] rfl (by (try simp only [List.map_toArray, List.map_cons, List.map_nil]); first | done | (simp only [hji23]; rfl) | rfl | (simp only [List.length_drop, List.length_take]; rfl)) ?_; (with_reducible refine (ints_Signed.calls ji23 (Go.bits .and .u64 a2 t126) t131 _ A25.out).mono ?_); rintro e w' ⟨rfl, ⟨nd, rfl⟩⟩; refine ⟨_, rfl, ?_⟩))
                      go_ret2
                      exact ⟨by first | rfl | (simp [errW_none, errW_some] <;> rfl) | (simp only [← hji21, ← hji23]; first | rfl | (simp [errW_none, errW_some] <;> rfl)) | (simp [*, errW_none, errW_some] <;> rfl), by repeat (first | (with_reducible first | exact HB.out | apply below_alloc | apply pw_below_drewN | apply below_drew1) | exact HB.out)⟩
                  · rw [if_neg c22] at H
                    exact absurd H (by simp)

end Go.Proofs.YtajmjmnlapplaaaDoor.PInts
