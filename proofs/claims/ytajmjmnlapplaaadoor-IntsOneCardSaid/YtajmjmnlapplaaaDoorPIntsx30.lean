-- Written by the kit's print.py for this claim, called with several roots by this session's own script (print-roots.sh)
import Derived.Test.YtajmjmnlapplaaaDoorA1
import Derived.Test.YtajmjmnlapplaaaDoorA2
namespace Go.Proofs.YtajmjmnlapplaaaDoor.PInts
open Go.RowKit Go.Proofs.YtajmjmnlapplaaaDoorW.PrintWords Go.Proofs.YtajmjmnlapplaaaDoorW.PrintLast Go.Proofs.YtajmjmnlapplaaaDoorW.PrintMore
attribute [local go_sem] max2_int min2_int max_two min_two max_three min_three max_four min_four   -- for this text's walks alone
set_option linter.unusedVariables false
set_option linter.unusedSimpArgs false

/-! ### bodkinref02_Rel: function 19 -/
def bodkinref02_Rel.j0 : Nat → Int → Int → Int → Int → Bool → Option (Bool × Int)
  | 0, _, _, _, _, _ => none
  | k + 1, x0, x1, x2, x3, x25 => if x25 = true then (some (false, 1)) else ((bodkinref02_Cut.f k x0 x2).bind fun t217 => ((bodkinref02_Cut.f k x0 x3).bind fun t218 => ((bodkinref02_Signed.f k x0 t217).bind fun t219 => ((bodkinref02_Signed.f k x0 t218).bind fun t220 => ((some (([false, (t217 == t218), (t217 != t218), decide (t219 < t220), decide (t217 < t218), decide (t219 > t220), decide (t217 > t218), decide (t219 ≤ t220), decide (t217 ≤ t218), decide (t219 ≥ t220), decide (t217 ≥ t218)] : List Bool) : List Bool)).bind fun y221 => (if 0 ≤ x1 then (if x1 < (y221.length : Int) then (some (rdOf false y221 x1, 0)) else (none)) else (none)))))))
def bodkinref02_Rel.f (k : Nat) (a0 : Int) (a1 : Int) (a2 : Int) (a3 : Int) : Option (Bool × Int) := (bodkinref02_Right.f a0).bind fun t216 => (if t216 = true then (if a1 < 1 then (bodkinref02_Rel.j0 k a0 a1 a2 a3 true) else (bodkinref02_Rel.j0 k a0 a1 a2 a3 (decide (a1 > 10)))) else (bodkinref02_Rel.j0 k a0 a1 a2 a3 true))
theorem bodkinref02_Rel.mono_l : ∀ k, (∀ y0 y1 y2 y3 y4, LeO (bodkinref02_Rel.j0 k y0 y1 y2 y3 y4) (bodkinref02_Rel.j0 (k + 1) y0 y1 y2 y3 y4)) := by
  intro k
  induction k with
  | zero => exact fun _ _ _ _ _ r h => by simp [bodkinref02_Rel.j0] at h
  | succ k ih =>
    have ih0 := ih
    · intro y0 y1 y2 y3 y4
      unfold bodkinref02_Rel.j0
      repeat' first
      | (with_reducible exact ih0 _ _ _ _ _)
      | (with_reducible exact bodkinref02_Cut.mono _ _ _)
      | (with_reducible exact bodkinref02_Signed.mono _ _ _)
      | (with_reducible exact LeO.refl _)
      | (with_reducible exact LeO.none _)
      | (with_reducible refine LeO.ite ?_ ?_)
      | (with_reducible refine LeO.bind ?_ (fun _ => ?_))
      | exact ih0 _ _ _ _ _
      | exact bodkinref02_Cut.mono _ _ _
      | exact bodkinref02_Signed.mono _ _ _
      | exact LeO.none _
      | refine LeO.ite ?_ ?_
      | refine LeO.bind ?_ (fun _ => ?_)
theorem bodkinref02_Rel.mono : ∀ a0 a1 a2 a3 k, LeO (bodkinref02_Rel.f k a0 a1 a2 a3) (bodkinref02_Rel.f (k + 1) a0 a1 a2 a3) := by
  intro a0 a1 a2 a3 k
  have ih0 := bodkinref02_Rel.mono_l k
  unfold bodkinref02_Rel.f
  repeat' first
      | (with_reducible exact ih0 _ _ _ _ _)
      | (with_reducible exact bodkinref02_Cut.mono _ _ _)
      | (with_reducible exact bodkinref02_Signed.mono _ _ _)
      | (with_reducible exact LeO.refl _)
      | (with_reducible exact LeO.none _)
      | (with_reducible refine LeO.ite ?_ ?_)
      | (with_reducible refine LeO.bind ?_ (fun _ => ?_))
      | exact ih0 _ _ _ _ _
      | exact bodkinref02_Cut.mono _ _ _
      | exact bodkinref02_Signed.mono _ _ _
      | exact LeO.none _
      | refine LeO.ite ?_ ?_
      | refine LeO.bind ?_ (fun _ => ?_)
set_option maxHeartbeats 8000000 in
set_option maxRecDepth 100000 in
theorem bodkinref02_Rel.calls (k : Nat) (a0 : Int) (a1 : Int) (a2 : Int) (a3 : Int) (r1 : Bool) (r2 : Int) (w : World) (h : bodkinref02_Rel.f k a0 a1 a2 a3 = some (r1, r2)) :
    Calls Tryd.prog 19 #[.int .i64 a0, .int .i64 a1, .int .u64 a2, .int .u64 a3] w fun e w' => e = .returned (.tuple #[.bool r1, .int .i64 r2]) ∧ Below w.heap.size w w' := by
  have HB := Aside0.mk (Below.refl w.heap.size w)
  have H : ((bodkinref02_Right.f a0).bind fun t216 => (if t216 = true then (if a1 < 1 then (bodkinref02_Rel.j0 k a0 a1 a2 a3 true) else (bodkinref02_Rel.j0 k a0 a1 a2 a3 (decide (a1 > 10)))) else (bodkinref02_Rel.j0 k a0 a1 a2 a3 true))) = some (r1, r2) := h
  clear h
  replace H := Option.bind_eq_some_iff.mp H
  obtain ⟨t216, A50, H⟩ := H
  replace H : (if t216 = true then (if a1 < 1 then (bodkinref02_Rel.j0 k a0 a1 a2 a3 true) else (bodkinref02_Rel.j0 k a0 a1 a2 a3 (decide (a1 > 10)))) else (bodkinref02_Rel.j0 k a0 a1 a2 a3 true)) = some (r1, r2) := H
  have A5 := Aside0.mk A50
  clear A50
  have HC6 := Aside0.mk H
  clear H
  go_enter Tryd.func19, Tryd.ntmps19
  go_upto_region 2 with (first | ((with_reducible refine gate_callee (f := 31) rfl ?_); refine goesL_ (some 15) rfl rfl Tryd.func31 (by kernel_rfl) rfl #[.int .i64 a0] rfl (by (try simp only [List.map_toArray, List.map_cons, List.map_nil]); first | done | rfl | (simp only [List.length_drop, List.length_take]; rfl)) ?_; (with_reducible refine (bodkinref02_Right.calls a0 t216 _ A5.out).mono ?_); rintro e w' ⟨rfl, ⟨nd, rfl⟩⟩; refine ⟨_, rfl, ?_⟩))
  (try simp only [Act.put, List.setIfInBounds_toArray, List.set_cons_zero, List.set_cons_succ])
  go_cut [25] (fun v25 wc => ∃ (kq : Nat) (x25_5 : Bool), v25 = .bool x25_5 ∧ Aside0 (bodkinref02_Rel.j0 kq a0 a1 a2 a3 x25_5 = some (r1, r2)) ∧ Aside0 (kq ≤ k) ∧ Aside0 (Below w.heap.size w wc))
  case first =>
    have H := HC6.out
    clear HC6
    by_cases c7 : t216 = true
    · subst c7
      have H1 : (if a1 < 1 then (bodkinref02_Rel.j0 k a0 a1 a2 a3 true) else (bodkinref02_Rel.j0 k a0 a1 a2 a3 (decide (a1 > 10)))) = some (r1, r2) := by rw [if_pos rfl] at H; exact H
      clear H
      have H := H1
      clear H1
      by_cases c8 : a1 < 1
      · rw [if_pos c8] at H
        have c8b0 : decide (a1 < 1) = true := decide_eq_true c8
        clear c8
        (first | rw [c8b0] | (simp only [i64_w, i32_w]; rw [c8b0]) | skip)
        have H' := Aside0.mk H
        clear H
        go_wp2
        go_meet
        case rel => exact ⟨_, (true), (by first | rfl | (simp; done) | (simp [*]; done)), H', ⟨by first | omega | exact Nat.le_refl _⟩, ⟨by repeat (first | (with_reducible first | exact HB.out | apply below_alloc | apply pw_below_drewN | apply below_drew1) | exact HB.out)⟩⟩
      · rw [if_neg c8] at H
        have c8b0 : decide (a1 < 1) = false := decide_eq_false c8
        clear c8
        (first | rw [c8b0] | (simp only [i64_w, i32_w]; rw [c8b0]) | skip)
        have H' := Aside0.mk H
        clear H
        go_wp2
        go_meet
        case rel => exact ⟨_, (decide (a1 > 10)), (by first | rfl | (simp; done) | (simp [*]; done)), H', ⟨by first | omega | exact Nat.le_refl _⟩, ⟨by repeat (first | (with_reducible first | exact HB.out | apply below_alloc | apply pw_below_drewN | apply below_drew1) | exact HB.out)⟩⟩
    · replace c7 := Bool.eq_false_iff.mpr c7
      subst c7
      have H1 : (bodkinref02_Rel.j0 k a0 a1 a2 a3 true) = some (r1, r2) := by rw [if_neg (show ¬ (false = true) by decide)] at H; exact H
      clear H
      have H := H1
      clear H1
      have H' := Aside0.mk H
      clear H
      go_wp2
      go_meet
      case rel => exact ⟨_, (true), (by first | rfl | (simp; done) | (simp [*]; done)), H', ⟨by first | omega | exact Nat.le_refl _⟩, ⟨by repeat (first | (with_reducible first | exact HB.out | apply below_alloc | apply pw_below_drewN | apply below_drew1) | exact HB.out)⟩⟩
  case rest =>
    clear HC6
    try clear c1
    try clear p2
    try clear c3
    try clear c7
    try clear c8
    try clear c8b0
    obtain ⟨kq, x25_5, rfl, HA, HJ5, HB⟩ := hcut
    cases kq with
    | zero => exact absurd HA.out (by simp [bodkinref02_Rel.j0])
    | succ kj5 =>
      have H := HA.out
      clear HA
      simp only [bodkinref02_Rel.j0] at H
      by_cases c9 : x25_5 = true
      · subst c9
        have H1 : (some (false, 1)) = some (r1, r2) := by rw [if_pos rfl] at H; exact H
        clear H
        have H := H1
        clear H1
        simp only [Option.some.injEq, Prod.mk.injEq] at H
        obtain ⟨rfl, rfl⟩ := H
        go_wp2
        go_ret2
        exact ⟨by first | rfl | (simp [errW_none, errW_some] <;> rfl) | (simp [*, errW_none, errW_some] <;> rfl), by repeat (first | (with_reducible first | exact HB.out | apply below_alloc | apply pw_below_drewN | apply below_drew1) | exact HB.out)⟩
      · replace c9 := Bool.eq_false_iff.mpr c9
        subst c9
        have H1 : ((bodkinref02_Cut.f kj5 a0 a2).bind fun t217 => ((bodkinref02_Cut.f kj5 a0 a3).bind fun t218 => ((bodkinref02_Signed.f kj5 a0 t217).bind fun t219 => ((bodkinref02_Signed.f kj5 a0 t218).bind fun t220 => ((some (([false, (t217 == t218), (t217 != t218), decide (t219 < t220), decide (t217 < t218), decide (t219 > t220), decide (t217 > t218), decide (t219 ≤ t220), decide (t217 ≤ t218), decide (t219 ≥ t220), decide (t217 ≥ t218)] : List Bool) : List Bool)).bind fun y221 => (if 0 ≤ a1 then (if a1 < (y221.length : Int) then (some (rdOf false y221 a1, 0)) else (none)) else (none))))))) = some (r1, r2) := by rw [if_neg (show ¬ (false = true) by decide)] at H; exact H
        clear H
        have H := H1
        clear H1
        replace H := Option.bind_eq_some_iff.mp H
        obtain ⟨t217, A100, H⟩ := H
        replace H : ((bodkinref02_Cut.f kj5 a0 a3).bind fun t218 => ((bodkinref02_Signed.f kj5 a0 t217).bind fun t219 => ((bodkinref02_Signed.f kj5 a0 t218).bind fun t220 => ((some (([false, (t217 == t218), (t217 != t218), decide (t219 < t220), decide (t217 < t218), decide (t219 > t220), decide (t217 > t218), decide (t219 ≤ t220), decide (t217 ≤ t218), decide (t219 ≥ t220), decide (t217 ≥ t218)] : List Bool) : List Bool)).bind fun y221 => (if 0 ≤ a1 then (if a1 < (y221.length : Int) then (some (rdOf false y221 a1, 0)) else (none)) else (none)))))) = some (r1, r2) := H
        have A10 := Aside0.mk A100
        clear A100
        replace H := Option.bind_eq_some_iff.mp H
        obtain ⟨t218, A110, H⟩ := H
        replace H : ((bodkinref02_Signed.f kj5 a0 t217).bind fun t219 => ((bodkinref02_Signed.f kj5 a0 t218).bind fun t220 => ((some (([false, (t217 == t218), (t217 != t218), decide (t219 < t220), decide (t217 < t218), decide (t219 > t220), decide (t217 > t218), decide (t219 ≤ t220), decide (t217 ≤ t218), decide (t219 ≥ t220), decide (t217 ≥ t218)] : List Bool) : List Bool)).bind fun y221 => (if 0 ≤ a1 then (if a1 < (y221.length : Int) then (some (rdOf false y221 a1, 0)) else (none)) else (none))))) = some (r1, r2) := H
        have A11 := Aside0.mk A110
        clear A110
        replace H := Option.bind_eq_some_iff.mp H
        obtain ⟨t219, A120, H⟩ := H
        replace H : ((bodkinref02_Signed.f kj5 a0 t218).bind fun t220 => ((some (([false, (t217 == t218), (t217 != t218), decide (t219 < t220), decide (t217 < t218), decide (t219 > t220), decide (t217 > t218), decide (t219 ≤ t220), decide (t217 ≤ t218), decide (t219 ≥ t220), decide (t217 ≥ t218)] : List Bool) : List Bool)).bind fun y221 => (if 0 ≤ a1 then (if a1 < (y221.length : Int) then (some (rdOf false y221 a1, 0)) else (none)) else (none)))) = some (r1, r2) := H
        have A12 := Aside0.mk A120
        clear A120
        replace H := Option.bind_eq_some_iff.mp H
        obtain ⟨t220, A130, H⟩ := H
        replace H : ((some (([false, (t217 == t218), (t217 != t218), decide (t219 < t220), decide (t217 < t218), decide (t219 > t220), decide (t217 > t218), decide (t219 ≤ t220), decide (t217 ≤ t218), decide (t219 ≥ t220), decide (t217 ≥ t218)] : List Bool) : List Bool)).bind fun y221 => (if 0 ≤ a1 then (if a1 < (y221.length : Int) then (some (rdOf false y221 a1, 0)) else (none)) else (none))) = some (r1, r2) := H
        have A13 := Aside0.mk A130
        clear A130
        obtain ⟨y221, hy221⟩ : ∃ y_ : List Bool, y_ = (([false, (t217 == t218), (t217 != t218), decide (t219 < t220), decide (t217 < t218), decide (t219 > t220), decide (t217 > t218), decide (t219 ≤ t220), decide (t217 ≤ t218), decide (t219 ≥ t220), decide (t217 ≥ t218)] : List Bool)) := ⟨_, rfl⟩
        replace H : (if 0 ≤ a1 then (if a1 < (y221.length : Int) then (some (rdOf false y221 a1, 0)) else (none)) else (none)) = some (r1, r2) := by first | (rw [hy221]; with_reducible exact H) | (have H2_ := (Option.bind_some _ _).symm.trans H; rw [hy221]; with_reducible exact H2_) | (have H2_ := (Option.bind_some _ _).symm.trans H; with_reducible exact H2_) | with_reducible exact H | (rw [hy221]; exact H) | exact H
        have Ny221 := Aside0.mk hy221
        clear hy221
        by_cases c14 : 0 ≤ a1
        · rw [if_pos c14] at H
          have c14b0 : decide (0 ≤ a1) = true := decide_eq_true c14
          clear c14
          by_cases c15 : a1 < (y221.length : Int)
          · rw [if_pos c15] at H
            have c15b0 : decide (a1 < (y221.length : Int)) = true := decide_eq_true c15
            clear c15
            simp only [Option.some.injEq, Prod.mk.injEq] at H
            obtain ⟨rfl, rfl⟩ := H
            go_wp2_with (first | ((with_reducible refine gate_callee (f := 24) rfl ?_); refine goesL_ (some 28) rfl rfl Tryd.func24 (by kernel_rfl) rfl #[.int .i64 a0, .int .u64 a2] rfl (by (try simp only [List.map_toArray, List.map_cons, List.map_nil]); first | done | rfl | (simp only [List.length_drop, List.length_take]; rfl)) ?_; (with_reducible refine (bodkinref02_Cut.calls kj5 a0 a2 t217 _ A10.out).mono ?_); rintro e w' ⟨rfl, ⟨nd, rfl⟩⟩; refine ⟨_, rfl, ?_⟩) | ((with_reducible refine gate_callee (f := 24) rfl ?_); refine goesL_ (some 31) rfl rfl Tryd.func24 (by kernel_rfl) rfl #[.int .i64 a0, .int .u64 a3] rfl (by (try simp only [List.map_toArray, List.map_cons, List.map_nil]); first | done | rfl | (simp only [List.length_drop, List.length_take]; rfl)) ?_; (with_reducible refine (bodkinref02_Cut.calls kj5 a0 a3 t218 _ A11.out).mono ?_); rintro e w' ⟨rfl, ⟨nd, rfl⟩⟩; refine ⟨_, rfl, ?_⟩) | ((with_reducible refine gate_callee (f := 23) rfl ?_); refine goesL_ (some 34) rfl rfl Tryd.func23 (by kernel_rfl) rfl #[.int .i64 a0, .int .u64 t217] rfl (by (try simp only [List.map_toArray, List.map_cons, List.map_nil]); first | done | rfl | (simp only [List.length_drop, List.length_take]; rfl)) ?_; (with_reducible refine (bodkinref02_Signed.calls kj5 a0 t217 t219 _ A12.out).mono ?_); rintro e w' ⟨rfl, ⟨nd, rfl⟩⟩; refine ⟨_, rfl, ?_⟩) | ((with_reducible refine gate_callee (f := 23) rfl ?_); refine goesL_ (some 37) rfl rfl Tryd.func23 (by kernel_rfl) rfl #[.int .i64 a0, .int .u64 t218] rfl (by (try simp only [List.map_toArray, List.map_cons, List.map_nil]); first | done | rfl | (simp only [List.length_drop, List.length_take]; rfl)) ?_; (with_reducible refine (bodkinref02_Signed.calls kj5 a0 t218 t220 _ A13.out).mono ?_); rintro e w' ⟨rfl, ⟨nd, rfl⟩⟩; refine ⟨_, rfl, ?_⟩) | ((with_reducible refine gate_dst (N := 68) rfl ?_); refine Kd.R_lit Kd.bool _ 4 ?hg (N := 68) ?hd (xs := ([false, (t217 == t218), (t217 != t218), decide (t219 < t220), decide (t217 < t218), decide (t219 > t220), decide (t217 > t218), decide (t219 ≤ t220), decide (t217 ≤ t218), decide (t219 ≥ t220), decide (t217 ≥ t218)] : List Bool)) (inner := [.bool false, .bool (t217 == t218), .bool (t217 != t218), .bool (decide (t219 < t220)), .bool (decide (t217 < t218)), .bool (decide (t219 > t220)), .bool (decide (t217 > t218)), .bool (decide (t219 ≤ t220)), .bool (decide (t217 ≤ t218)), .bool (decide (t219 ≥ t220)), .bool (decide (t217 ≥ t218))]) (ok := fun _ => True) (okp := fun _ => True) ?hr ?hp (fun _ hk => hk) trivial (Below.refl _ _) (Nat.le_refl _) (by simp) ?_; (case hd => rfl); (case hg => rfl); (case hr => first | (go_simp; done) | (go_simp; rfl)); (case hp => exact (Reps.one (show Kd.M Kd.bool _ _ _ false [.bool false] from rfl) (Reps.one (show Kd.M Kd.bool _ _ _ (t217 == t218) [.bool (t217 == t218)] from rfl) (Reps.one (show Kd.M Kd.bool _ _ _ (t217 != t218) [.bool (t217 != t218)] from rfl) (Reps.one (show Kd.M Kd.bool _ _ _ (decide (t219 < t220)) [.bool (decide (t219 < t220))] from rfl) (Reps.one (show Kd.M Kd.bool _ _ _ (decide (t217 < t218)) [.bool (decide (t217 < t218))] from rfl) (Reps.one (show Kd.M Kd.bool _ _ _ (decide (t219 > t220)) [.bool (decide (t219 > t220))] from rfl) (Reps.one (show Kd.M Kd.bool _ _ _ (decide (t217 > t218)) [.bool (decide (t217 > t218))] from rfl) (Reps.one (show Kd.M Kd.bool _ _ _ (decide (t219 ≤ t220)) [.bool (decide (t219 ≤ t220))] from rfl) (Reps.one (show Kd.M Kd.bool _ _ _ (decide (t217 ≤ t218)) [.bool (decide (t217 ≤ t218))] from rfl) (Reps.one (show Kd.M Kd.bool _ _ _ (decide (t219 ≥ t220)) [.bool (decide (t219 ≥ t220))] from rfl) (Reps.one (show Kd.M Kd.bool _ _ _ (decide (t217 ≥ t218)) [.bool (decide (t217 ≥ t218))] from rfl) (Reps.none _ _))))))))))))); intro v222 w16 ho17 hb hg_ hnew_; clear hg_ hnew_; (first | rw [← Ny221.out] at ho17 | (simp only [Int.reduceToNat] at ho17; rw [← Ny221.out] at ho17)); have n0_ := Aside0.mk (Kd.R_lower ho17 (below_size (by repeat (first | (with_reducible first | exact HB.out | apply below_alloc | apply pw_below_drewN | apply below_drew1) | exact HB.out)))); have n1_ := Aside0.mk (below_step (by repeat (first | (with_reducible first | exact HB.out | apply below_alloc | apply pw_below_drewN | apply below_drew1) | exact HB.out)) hb); clear HB; have HO223 := n0_; have HB := n1_; clear n0_ n1_; clear hb ho17; obtain ⟨Ao18, co18, eo18⟩ := Kd.R_slice HO223.out; subst eo18; have p224 : 0 ≤ (a1 : Int) := of_decide_eq_true (by first | (with_reducible assumption) | assumption); have q224 : a1 < (y221.length : Int) := of_decide_eq_true (by first | (with_reducible assumption) | assumption); obtain ⟨ad224, e224, hx224_0⟩ := Kd.at_bool (Kd.R_reads' HO223.out).2.2 a1 p224 q224; cases e224; replace p224 := eq_true p224; replace q224 := eq_true q224))
            go_ret2
            exact ⟨by first | rfl | (simp [errW_none, errW_some] <;> rfl) | (simp [*, errW_none, errW_some] <;> rfl), by repeat (first | (with_reducible first | exact HB.out | apply below_alloc | apply pw_below_drewN | apply below_drew1) | exact HB.out)⟩
          · rw [if_neg c15] at H
            exact absurd H (by simp)
        · rw [if_neg c14] at H
          exact absurd H (by simp)

end Go.Proofs.YtajmjmnlapplaaaDoor.PInts
