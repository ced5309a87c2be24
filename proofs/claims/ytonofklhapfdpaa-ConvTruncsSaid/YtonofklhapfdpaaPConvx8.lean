-- Written by the kit's print.py for this claim, called with several roots by this session's own script (print-roots.sh)
import Derived.Test.YtonofklhapfdpaaPConvx0
import Derived.Test.YtonofklhapfdpaaPConvx3
import Derived.Test.YtonofklhapfdpaaPConvx4
import Derived.Test.YtonofklhapfdpaaPConvx7
namespace Go.Proofs.Ytonofklhapfdpaa.PConv
open Go.RowKit Go.Proofs.YtonofklhapfdpaaW.PrintWords Go.Proofs.YtonofklhapfdpaaW.PrintLast Go.Proofs.YtonofklhapfdpaaW.PrintMore
attribute [local go_sem] max2_int min2_int max_two min_two max_three min_three max_four min_four   -- for this text's walks alone
set_option linter.unusedVariables false
set_option linter.unusedSimpArgs false

/-! ### bodkinlaw04_ConvHeld: function 3 -/
def bodkinlaw04_ConvHeld.j0 : Nat → Int → Int → Bool → Int → Int → Int → Bool → Option (Bool)
  | 0, _, _, _, _, _, _, _ => none
  | k + 1, x0, x1, x2, x3, x11, x12, x61 => if x61 = true then (some false) else (if x11 = 43 then (if x12 = 0 then ((floats_Kind.f x0 x3).bind fun t213 => (some (t213 == 4))) else (some false)) else (if 0 ≤ (IntKind.u64.wrap (wrap64 (x1 - 1))) then (if x2 = true then (if x11 = 42 then (if x12 = (IntKind.u64.wrap ((shl .u64 1 (IntKind.u64.wrap (wrap64 (x1 - 1)))) - 1)) then (some true) else (some (x12 == (IntKind.u64.wrap ((IntKind.u64.wrap ((shl .u64 1 (IntKind.u64.wrap (wrap64 (x1 - 1)))) - 1)) + 1))))) else (some false)) else (if x11 = 42 then (if x12 = (IntKind.u64.wrap ((IntKind.u64.wrap ((IntKind.u64.wrap ((shl .u64 1 (IntKind.u64.wrap (wrap64 (x1 - 1)))) - 1)) * 2)) + 1)) then (some true) else (some (x12 == 0))) else (some false))) else (none)))
def bodkinlaw04_ConvHeld.f (k : Nat) (a0 : Int) (a1 : Int) (a2 : Bool) (a3 : Int) : Option (Bool) := (bodkinlaw04_awake.f k).bind fun t208 => (if t208 = true then ((conv_Trunc.f k a0 a1 a2 false a3).bind fun bt209 => ((conv_Trunc.f k a0 a1 a2 true a3).bind fun bt211 => (if bt209.2 = 1 then (if bt211.2 = 1 then (if bt209.1 = 0 then (some (bt211.1 == 0)) else (some false)) else (some false)) else (if bt209.2 = 0 then (if bt211.2 = 0 then (some (bt209.1 == bt211.1)) else (some false)) else (if bt209.1 = 0 then (bodkinlaw04_ConvHeld.j0 k a0 a1 a2 a3 bt209.2 bt211.1 (bt211.2 != 0)) else (bodkinlaw04_ConvHeld.j0 k a0 a1 a2 a3 bt209.2 bt211.1 true)))))) else (some false))
theorem bodkinlaw04_ConvHeld.mono_l : ∀ k, (∀ y0 y1 y2 y3 y4 y5 y6, LeO (bodkinlaw04_ConvHeld.j0 k y0 y1 y2 y3 y4 y5 y6) (bodkinlaw04_ConvHeld.j0 (k + 1) y0 y1 y2 y3 y4 y5 y6)) := by
  intro k
  induction k with
  | zero => exact fun _ _ _ _ _ _ _ r h => by simp [bodkinlaw04_ConvHeld.j0] at h
  | succ k ih =>
    have ih0 := ih
    · intro y0 y1 y2 y3 y4 y5 y6
      unfold bodkinlaw04_ConvHeld.j0
      repeat' first
      | (with_reducible exact ih0 _ _ _ _ _ _ _)
      | (with_reducible exact bodkinlaw04_awake.mono _)
      | (with_reducible exact conv_Trunc.mono _ _ _ _ _ _)
      | (with_reducible exact LeO.refl _)
      | (with_reducible exact LeO.none _)
      | (with_reducible refine LeO.ite ?_ ?_)
      | (with_reducible refine LeO.bind ?_ (fun _ => ?_))
      | exact ih0 _ _ _ _ _ _ _
      | exact bodkinlaw04_awake.mono _
      | exact conv_Trunc.mono _ _ _ _ _ _
      | exact LeO.none _
      | refine LeO.ite ?_ ?_
      | refine LeO.bind ?_ (fun _ => ?_)
theorem bodkinlaw04_ConvHeld.mono : ∀ a0 a1 a2 a3 k, LeO (bodkinlaw04_ConvHeld.f k a0 a1 a2 a3) (bodkinlaw04_ConvHeld.f (k + 1) a0 a1 a2 a3) := by
  intro a0 a1 a2 a3 k
  have ih0 := bodkinlaw04_ConvHeld.mono_l k
  unfold bodkinlaw04_ConvHeld.f
  repeat' first
      | (with_reducible exact ih0 _ _ _ _ _ _ _)
      | (with_reducible exact bodkinlaw04_awake.mono _)
      | (with_reducible exact conv_Trunc.mono _ _ _ _ _ _)
      | (with_reducible exact LeO.refl _)
      | (with_reducible exact LeO.none _)
      | (with_reducible refine LeO.ite ?_ ?_)
      | (with_reducible refine LeO.bind ?_ (fun _ => ?_))
      | exact ih0 _ _ _ _ _ _ _
      | exact bodkinlaw04_awake.mono _
      | exact conv_Trunc.mono _ _ _ _ _ _
      | exact LeO.none _
      | refine LeO.ite ?_ ?_
      | refine LeO.bind ?_ (fun _ => ?_)
set_option maxHeartbeats 8000000 in
set_option maxRecDepth 100000 in
theorem bodkinlaw04_ConvHeld.calls (k : Nat) (a0 : Int) (a1 : Int) (a2 : Bool) (a3 : Int) (r : Bool) (w : World) (h : bodkinlaw04_ConvHeld.f k a0 a1 a2 a3 = some r) :
    Calls Try.prog 3 #[.int .i64 a0, .int .i64 a1, .bool a2, .int .u64 a3] w fun e w' => e = .returned (.bool r) ∧ Below w.heap.size w w' := by
  have HB := Aside0.mk (Below.refl w.heap.size w)
  have H : ((bodkinlaw04_awake.f k).bind fun t208 => (if t208 = true then ((conv_Trunc.f k a0 a1 a2 false a3).bind fun bt209 => ((conv_Trunc.f k a0 a1 a2 true a3).bind fun bt211 => (if bt209.2 = 1 then (if bt211.2 = 1 then (if bt209.1 = 0 then (some (bt211.1 == 0)) else (some false)) else (some false)) else (if bt209.2 = 0 then (if bt211.2 = 0 then (some (bt209.1 == bt211.1)) else (some false)) else (if bt209.1 = 0 then (bodkinlaw04_ConvHeld.j0 k a0 a1 a2 a3 bt209.2 bt211.1 (bt211.2 != 0)) else (bodkinlaw04_ConvHeld.j0 k a0 a1 a2 a3 bt209.2 bt211.1 true)))))) else (some false))) = some r := h
  clear h
  replace H := Option.bind_eq_some_iff.mp H
  obtain ⟨t208, A50, H⟩ := H
  replace H : (if t208 = true then ((conv_Trunc.f k a0 a1 a2 false a3).bind fun bt209 => ((conv_Trunc.f k a0 a1 a2 true a3).bind fun bt211 => (if bt209.2 = 1 then (if bt211.2 = 1 then (if bt209.1 = 0 then (some (bt211.1 == 0)) else (some false)) else (some false)) else (if bt209.2 = 0 then (if bt211.2 = 0 then (some (bt209.1 == bt211.1)) else (some false)) else (if bt209.1 = 0 then (bodkinlaw04_ConvHeld.j0 k a0 a1 a2 a3 bt209.2 bt211.1 (bt211.2 != 0)) else (bodkinlaw04_ConvHeld.j0 k a0 a1 a2 a3 bt209.2 bt211.1 true)))))) else (some false)) = some r := H
  have A5 := Aside0.mk A50
  clear A50
  by_cases c6 : t208 = true
  · subst c6
    have H1 : ((conv_Trunc.f k a0 a1 a2 false a3).bind fun bt209 => ((conv_Trunc.f k a0 a1 a2 true a3).bind fun bt211 => (if bt209.2 = 1 then (if bt211.2 = 1 then (if bt209.1 = 0 then (some (bt211.1 == 0)) else (some false)) else (some false)) else (if bt209.2 = 0 then (if bt211.2 = 0 then (some (bt209.1 == bt211.1)) else (some false)) else (if bt209.1 = 0 then (bodkinlaw04_ConvHeld.j0 k a0 a1 a2 a3 bt209.2 bt211.1 (bt211.2 != 0)) else (bodkinlaw04_ConvHeld.j0 k a0 a1 a2 a3 bt209.2 bt211.1 true)))))) = some r := by rw [if_pos rfl] at H; exact H
    clear H
    have H := H1
    clear H1
    replace H := Option.bind_eq_some_iff.mp H
    obtain ⟨⟨t209, t210⟩, A70, H⟩ := H
    replace H : ((conv_Trunc.f k a0 a1 a2 true a3).bind fun bt211 => (if t210 = 1 then (if bt211.2 = 1 then (if t209 = 0 then (some (bt211.1 == 0)) else (some false)) else (some false)) else (if t210 = 0 then (if bt211.2 = 0 then (some (t209 == bt211.1)) else (some false)) else (if t209 = 0 then (bodkinlaw04_ConvHeld.j0 k a0 a1 a2 a3 t210 bt211.1 (bt211.2 != 0)) else (bodkinlaw04_ConvHeld.j0 k a0 a1 a2 a3 t210 bt211.1 true))))) = some r := H
    have A7 := Aside0.mk A70
    clear A70
    replace H := Option.bind_eq_some_iff.mp H
    obtain ⟨⟨t211, t212⟩, A80, H⟩ := H
    replace H : (if t210 = 1 then (if t212 = 1 then (if t209 = 0 then (some (t211 == 0)) else (some false)) else (some false)) else (if t210 = 0 then (if t212 = 0 then (some (t209 == t211)) else (some false)) else (if t209 = 0 then (bodkinlaw04_ConvHeld.j0 k a0 a1 a2 a3 t210 t211 (t212 != 0)) else (bodkinlaw04_ConvHeld.j0 k a0 a1 a2 a3 t210 t211 true)))) = some r := H
    have A8 := Aside0.mk A80
    clear A80
    by_cases c9 : t210 = 1
    · rw [if_pos c9] at H
      have c9b0 : (t210 == 1) = true := beq_iff_eq.mpr c9
      have c9b1 : (t210 != 1) = false := bne_eq_false_iff_eq.mpr c9
      clear c9
      by_cases c10 : t212 = 1
      · rw [if_pos c10] at H
        have c10b0 : (t212 == 1) = true := beq_iff_eq.mpr c10
        have c10b1 : (t212 != 1) = false := bne_eq_false_iff_eq.mpr c10
        clear c10
        by_cases c11 : t209 = 0
        · rw [if_pos c11] at H
          have c11b0 : (t209 == 0) = true := beq_iff_eq.mpr c11
          have c11b1 : (t209 != 0) = false := bne_eq_false_iff_eq.mpr c11
          clear c11
          obtain rfl := Option.some.inj H
          go_enter Try.func3, Try.ntmps3
          go_wp2_with (first | ((with_reducible refine gate_callee (f := 9) rfl ?_); refine goesL_ (some 16) rfl rfl Try.func9 (by kernel_rfl) rfl #[] rfl (by (try simp only [List.map_toArray, List.map_cons, List.map_nil]); first | done | rfl | (simp only [List.length_drop, List.length_take]; rfl)) ?_; (with_reducible refine (bodkinlaw04_awake.calls k  true _ A5.out).mono ?_); rintro e w12 ⟨rfl, hb⟩; refine ⟨_, rfl, ?_⟩; have n0_ := Aside0.mk (below_step (by repeat (first | (with_reducible first | exact HB.out | apply below_alloc | apply pw_below_drewN | apply below_drew1) | exact HB.out)) hb); clear HB; have HB := n0_; clear n0_; (try clear hb); (try clear hb2); (try clear hk); (try clear hi)) | ((with_reducible refine gate_callee (f := 10) rfl ?_); refine goesL_ (some 24) rfl rfl Try.func10 (by kernel_rfl) rfl #[.int .i64 a0, .int .i64 a1, .bool a2, .bool false, .int .u64 a3] rfl (by (try simp only [List.map_toArray, List.map_cons, List.map_nil]); first | done | rfl | (simp only [List.length_drop, List.length_take]; rfl)) ?_; (with_reducible refine (conv_Trunc.calls k a0 a1 a2 false a3 t209 t210 _ A7.out).mono ?_); rintro e w13 ⟨rfl, hb⟩; refine ⟨_, rfl, ?_⟩; have n0_ := Aside0.mk (below_step (by repeat (first | (with_reducible first | exact HB.out | apply below_alloc | apply pw_below_drewN | apply below_drew1) | exact HB.out)) hb); clear HB; have HB := n0_; clear n0_; (try clear hb); (try clear hb2); (try clear hk); (try clear hi)) | ((with_reducible refine gate_callee (f := 10) rfl ?_); refine goesL_ (some 32) rfl rfl Try.func10 (by kernel_rfl) rfl #[.int .i64 a0, .int .i64 a1, .bool a2, .bool true, .int .u64 a3] rfl (by (try simp only [List.map_toArray, List.map_cons, List.map_nil]); first | done | rfl | (simp only [List.length_drop, List.length_take]; rfl)) ?_; (with_reducible refine (conv_Trunc.calls k a0 a1 a2 true a3 t211 t212 _ A8.out).mono ?_); rintro e w14 ⟨rfl, hb⟩; refine ⟨_, rfl, ?_⟩; have n0_ := Aside0.mk (below_step (by repeat (first | (with_reducible first | exact HB.out | apply below_alloc | apply pw_below_drewN | apply below_drew1) | exact HB.out)) hb); clear HB; have HB := n0_; clear n0_; (try clear hb); (try clear hb2); (try clear hk); (try clear hi)))
          go_ret
          exact ⟨by first | rfl | (simp [errW_none, errW_some] <;> rfl) | (simp [*, errW_none, errW_some] <;> rfl), by repeat (first | (with_reducible first | exact HB.out | apply below_alloc | apply pw_below_drewN | apply below_drew1) | exact HB.out)⟩
        · rw [if_neg c11] at H
          have c11b0 : (t209 == 0) = false := beq_eq_false_iff_ne.mpr c11
          have c11b1 : (t209 != 0) = true := bne_iff_ne.mpr c11
          obtain rfl := Option.some.inj H
          go_enter Try.func3, Try.ntmps3
          go_wp2_with (first | ((with_reducible refine gate_callee (f := 9) rfl ?_); refine goesL_ (some 16) rfl rfl Try.func9 (by kernel_rfl) rfl #[] rfl (by (try simp only [List.map_toArray, List.map_cons, List.map_nil]); first | done | rfl | (simp only [List.length_drop, List.length_take]; rfl)) ?_; (with_reducible refine (bodkinlaw04_awake.calls k  true _ A5.out).mono ?_); rintro e w15 ⟨rfl, hb⟩; refine ⟨_, rfl, ?_⟩; have n0_ := Aside0.mk (below_step (by repeat (first | (with_reducible first | exact HB.out | apply below_alloc | apply pw_below_drewN | apply below_drew1) | exact HB.out)) hb); clear HB; have HB := n0_; clear n0_; (try clear hb); (try clear hb2); (try clear hk); (try clear hi)) | ((with_reducible refine gate_callee (f := 10) rfl ?_); refine goesL_ (some 24) rfl rfl Try.func10 (by kernel_rfl) rfl #[.int .i64 a0, .int .i64 a1, .bool a2, .bool false, .int .u64 a3] rfl (by (try simp only [List.map_toArray, List.map_cons, List.map_nil]); first | done | rfl | (simp only [List.length_drop, List.length_take]; rfl)) ?_; (with_reducible refine (conv_Trunc.calls k a0 a1 a2 false a3 t209 t210 _ A7.out).mono ?_); rintro e w16 ⟨rfl, hb⟩; refine ⟨_, rfl, ?_⟩; have n0_ := Aside0.mk (below_step (by repeat (first | (with_reducible first | exact HB.out | apply below_alloc | apply pw_below_drewN | apply below_drew1) | exact HB.out)) hb); clear HB; have HB := n0_; clear n0_; (try clear hb); (try clear hb2); (try clear hk); (try clear hi)) | ((with_reducible refine gate_callee (f := 10) rfl ?_); refine goesL_ (some 32) rfl rfl Try.func10 (by kernel_rfl) rfl #[.int .i64 a0, .int .i64 a1, .bool a2, .bool true, .int .u64 a3] rfl (by (try simp only [List.map_toArray, List.map_cons, List.map_nil]); first | done | rfl | (simp only [List.length_drop, List.length_take]; rfl)) ?_; (with_reducible refine (conv_Trunc.calls k a0 a1 a2 true a3 t211 t212 _ A8.out).mono ?_); rintro e w17 ⟨rfl, hb⟩; refine ⟨_, rfl, ?_⟩; have n0_ := Aside0.mk (below_step (by repeat (first | (with_reducible first | exact HB.out | apply below_alloc | apply pw_below_drewN | apply below_drew1) | exact HB.out)) hb); clear HB; have HB := n0_; clear n0_; (try clear hb); (try clear hb2); (try clear hk); (try clear hi)))
          go_ret
          exact ⟨by first | rfl | (simp [errW_none, errW_some] <;> rfl) | (simp [*, errW_none, errW_some] <;> rfl), by repeat (first | (with_reducible first | exact HB.out | apply below_alloc | apply pw_below_drewN | apply below_drew1) | exact HB.out)⟩
      · rw [if_neg c10] at H
        have c10b0 : (t212 == 1) = false := beq_eq_false_iff_ne.mpr c10
        have c10b1 : (t212 != 1) = true := bne_iff_ne.mpr c10
        obtain rfl := Option.some.inj H
        go_enter Try.func3, Try.ntmps3
        go_wp2_with (first | ((with_reducible refine gate_callee (f := 9) rfl ?_); refine goesL_ (some 16) rfl rfl Try.func9 (by kernel_rfl) rfl #[] rfl (by (try simp only [List.map_toArray, List.map_cons, List.map_nil]); first | done | rfl | (simp only [List.length_drop, List.length_take]; rfl)) ?_; (with_reducible refine (bodkinlaw04_awake.calls k  true _ A5.out).mono ?_); rintro e w18 ⟨rfl, hb⟩; refine ⟨_, rfl, ?_⟩; have n0_ := Aside0.mk (below_step (by repeat (first | (with_reducible first | exact HB.out | apply below_alloc | apply pw_below_drewN | apply below_drew1) | exact HB.out)) hb); clear HB; have HB := n0_; clear n0_; (try clear hb); (try clear hb2); (try clear hk); (try clear hi)) | ((with_reducible refine gate_callee (f := 10) rfl ?_); refine goesL_ (some 24) rfl rfl Try.func10 (by kernel_rfl) rfl #[.int .i64 a0, .int .i64 a1, .bool a2, .bool false, .int .u64 a3] rfl (by (try simp only [List.map_toArray, List.map_cons, List.map_nil]); first | done | rfl | (simp only [List.length_drop, List.length_take]; rfl)) ?_; (with_reducible refine (conv_Trunc.calls k a0 a1 a2 false a3 t209 t210 _ A7.out).mono ?_); rintro e w19 ⟨rfl, hb⟩; refine ⟨_, rfl, ?_⟩; have n0_ := Aside0.mk (below_step (by repeat (first | (with_reducible first | exact HB.out | apply below_alloc | apply pw_below_drewN | apply below_drew1) | exact HB.out)) hb); clear HB; have HB := n0_; clear n0_; (try clear hb); (try clear hb2); (try clear hk); (try clear hi)) | ((with_reducible refine gate_callee (f := 10) rfl ?_); refine goesL_ (some 32) rfl rfl Try.func10 (by kernel_rfl) rfl #[.int .i64 a0, .int .i64 a1, .bool a2, .bool true, .int .u64 a3] rfl (by (try simp only [List.map_toArray, List.map_cons, List.map_nil]); first | done | rfl | (simp only [List.length_drop, List.length_take]; rfl)) ?_; (with_reducible refine (conv_Trunc.calls k a0 a1 a2 true a3 t211 t212 _ A8.out).mono ?_); rintro e w20 ⟨rfl, hb⟩; refine ⟨_, rfl, ?_⟩; have n0_ := Aside0.mk (below_step (by repeat (first | (with_reducible first | exact HB.out | apply below_alloc | apply pw_below_drewN | apply below_drew1) | exact HB.out)) hb); clear HB; have HB := n0_; clear n0_; (try clear hb); (try clear hb2); (try clear hk); (try clear hi)))
        go_ret
        exact ⟨by first | rfl | (simp [errW_none, errW_some] <;> rfl) | (simp [*, errW_none, errW_some] <;> rfl), by repeat (first | (with_reducible first | exact HB.out | apply below_alloc | apply pw_below_drewN | apply below_drew1) | exact HB.out)⟩
    · rw [if_neg c9] at H
      have c9b0 : (t210 == 1) = false := beq_eq_false_iff_ne.mpr c9
      have c9b1 : (t210 != 1) = true := bne_iff_ne.mpr c9
      by_cases c21 : t210 = 0
      · rw [if_pos c21] at H
        have c21b0 : (t210 == 0) = true := beq_iff_eq.mpr c21
        have c21b1 : (t210 != 0) = false := bne_eq_false_iff_eq.mpr c21
        clear c21
        by_cases c22 : t212 = 0
        · rw [if_pos c22] at H
          have c22b0 : (t212 == 0) = true := beq_iff_eq.mpr c22
          have c22b1 : (t212 != 0) = false := bne_eq_false_iff_eq.mpr c22
          clear c22
          obtain rfl := Option.some.inj H
          go_enter Try.func3, Try.ntmps3
          go_wp2_with (first | ((with_reducible refine gate_callee (f := 9) rfl ?_); refine goesL_ (some 16) rfl rfl Try.func9 (by kernel_rfl) rfl #[] rfl (by (try simp only [List.map_toArray, List.map_cons, List.map_nil]); first | done | rfl | (simp only [List.length_drop, List.length_take]; rfl)) ?_; (with_reducible refine (bodkinlaw04_awake.calls k  true _ A5.out).mono ?_); rintro e w23 ⟨rfl, hb⟩; refine ⟨_, rfl, ?_⟩; have n0_ := Aside0.mk (below_step (by repeat (first | (with_reducible first | exact HB.out | apply below_alloc | apply pw_below_drewN | apply below_drew1) | exact HB.out)) hb); clear HB; have HB := n0_; clear n0_; (try clear hb); (try clear hb2); (try clear hk); (try clear hi)) | ((with_reducible refine gate_callee (f := 10) rfl ?_); refine goesL_ (some 24) rfl rfl Try.func10 (by kernel_rfl) rfl #[.int .i64 a0, .int .i64 a1, .bool a2, .bool false, .int .u64 a3] rfl (by (try simp only [List.map_toArray, List.map_cons, List.map_nil]); first | done | rfl | (simp only [List.length_drop, List.length_take]; rfl)) ?_; (with_reducible refine (conv_Trunc.calls k a0 a1 a2 false a3 t209 t210 _ A7.out).mono ?_); rintro e w24 ⟨rfl, hb⟩; refine ⟨_, rfl, ?_⟩; have n0_ := Aside0.mk (below_step (by repeat (first | (with_reducible first | exact HB.out | apply below_alloc | apply pw_below_drewN | apply below_drew1) | exact HB.out)) hb); clear HB; have HB := n0_; clear n0_; (try clear hb); (try clear hb2); (try clear hk); (try clear hi)) | ((with_reducible refine gate_callee (f := 10) rfl ?_); refine goesL_ (some 32) rfl rfl Try.func10 (by kernel_rfl) rfl #[.int .i64 a0, .int .i64 a1, .bool a2, .bool true, .int .u64 a3] rfl (by (try simp only [List.map_toArray, List.map_cons, List.map_nil]); first | done | rfl | (simp only [List.length_drop, List.length_take]; rfl)) ?_; (with_reducible refine (conv_Trunc.calls k a0 a1 a2 true a3 t211 t212 _ A8.out).mono ?_); rintro e w25 ⟨rfl, hb⟩; refine ⟨_, rfl, ?_⟩; have n0_ := Aside0.mk (below_step (by repeat (first | (with_reducible first | exact HB.out | apply below_alloc | apply pw_below_drewN | apply below_drew1) | exact HB.out)) hb); clear HB; have HB := n0_; clear n0_; (try clear hb); (try clear hb2); (try clear hk); (try clear hi)))
          go_ret
          exact ⟨by first | rfl | (simp [errW_none, errW_some] <;> rfl) | (simp [*, errW_none, errW_some] <;> rfl), by repeat (first | (with_reducible first | exact HB.out | apply below_alloc | apply pw_below_drewN | apply below_drew1) | exact HB.out)⟩
        · rw [if_neg c22] at H
          have c22b0 : (t212 == 0) = false := beq_eq_false_iff_ne.mpr c22
          have c22b1 : (t212 != 0) = true := bne_iff_ne.mpr c22
          obtain rfl := Option.some.inj H
          go_enter Try.func3, Try.ntmps3
          go_wp2_with (first | ((with_reducible refine gate_callee (f := 9) rfl ?_); refine goesL_ (some 16) rfl rfl Try.func9 (by kernel_rfl) rfl #[] rfl (by (try simp only [List.map_toArray, List.map_cons, List.map_nil]); first | done | rfl | (simp only [List.length_drop, List.length_take]; rfl)) ?_; (with_reducible refine (bodkinlaw04_awake.calls k  true _ A5.out).mono ?_); rintro e w26 ⟨rfl, hb⟩; refine ⟨_, rfl, ?_⟩; have n0_ := Aside0.mk (below_step (by repeat (first | (with_reducible first | exact HB.out | apply below_alloc | apply pw_below_drewN | apply below_drew1) | exact HB.out)) hb); clear HB; have HB := n0_; clear n0_; (try clear hb); (try clear hb2); (try clear hk); (try clear hi)) | ((with_reducible refine gate_callee (f := 10) rfl ?_); refine goesL_ (some 24) rfl rfl Try.func10 (by kernel_rfl) rfl #[.int .i64 a0, .int .i64 a1, .bool a2, .bool false, .int .u64 a3] rfl (by (try simp only [List.map_toArray, List.map_cons, List.map_nil]); first | done | rfl | (simp only [List.length_drop, List.length_take]; rfl)) ?_; (with_reducible refine (conv_Trunc.calls k a0 a1 a2 false a3 t209 t210 _ A7.out).mono ?_); rintro e w27 ⟨rfl, hb⟩; refine ⟨_, rfl, ?_⟩; have n0_ := Aside0.mk (below_step (by repeat (first | (with_reducible first | exact HB.out | apply below_alloc | apply pw_below_drewN | apply below_drew1) | exact HB.out)) hb); clear HB; have HB := n0_; clear n0_; (try clear hb); (try clear hb2); (try clear hk); (try clear hi)) | ((with_reducible refine gate_callee (f := 10) rfl ?_); refine goesL_ (some 32) rfl rfl Try.func10 (by kernel_rfl) rfl #[.int .i64 a0, .int .i64 a1, .bool a2, .bool true, .int .u64 a3] rfl (by (try simp only [List.map_toArray, List.map_cons, List.map_nil]); first | done | rfl | (simp only [List.length_drop, List.length_take]; rfl)) ?_; (with_reducible refine (conv_Trunc.calls k a0 a1 a2 true a3 t211 t212 _ A8.out).mono ?_); rintro e w28 ⟨rfl, hb⟩; refine ⟨_, rfl, ?_⟩; have n0_ := Aside0.mk (below_step (by repeat (first | (with_reducible first | exact HB.out | apply below_alloc | apply pw_below_drewN | apply below_drew1) | exact HB.out)) hb); clear HB; have HB := n0_; clear n0_; (try clear hb); (try clear hb2); (try clear hk); (try clear hi)))
          go_ret
          exact ⟨by first | rfl | (simp [errW_none, errW_some] <;> rfl) | (simp [*, errW_none, errW_some] <;> rfl), by repeat (first | (with_reducible first | exact HB.out | apply below_alloc | apply pw_below_drewN | apply below_drew1) | exact HB.out)⟩
      · rw [if_neg c21] at H
        have c21b0 : (t210 == 0) = false := beq_eq_false_iff_ne.mpr c21
        have c21b1 : (t210 != 0) = true := bne_iff_ne.mpr c21
        have HC29 := Aside0.mk H
        clear H
        go_enter Try.func3, Try.ntmps3
        go_upto_region 10 with (first | ((with_reducible refine gate_callee (f := 9) rfl ?_); refine goesL_ (some 16) rfl rfl Try.func9 (by kernel_rfl) rfl #[] rfl (by (try simp only [List.map_toArray, List.map_cons, List.map_nil]); first | done | rfl | (simp only [List.length_drop, List.length_take]; rfl)) ?_; (with_reducible refine (bodkinlaw04_awake.calls k  true _ A5.out).mono ?_); rintro e w30 ⟨rfl, hb⟩; refine ⟨_, rfl, ?_⟩; have n0_ := Aside0.mk (below_step (by repeat (first | (with_reducible first | exact HB.out | apply below_alloc | apply pw_below_drewN | apply below_drew1) | exact HB.out)) hb); clear HB; have HB := n0_; clear n0_; (try clear hb); (try clear hb2); (try clear hk); (try clear hi)) | ((with_reducible refine gate_callee (f := 10) rfl ?_); refine goesL_ (some 24) rfl rfl Try.func10 (by kernel_rfl) rfl #[.int .i64 a0, .int .i64 a1, .bool a2, .bool false, .int .u64 a3] rfl (by (try simp only [List.map_toArray, List.map_cons, List.map_nil]); first | done | rfl | (simp only [List.length_drop, List.length_take]; rfl)) ?_; (with_reducible refine (conv_Trunc.calls k a0 a1 a2 false a3 t209 t210 _ A7.out).mono ?_); rintro e w31 ⟨rfl, hb⟩; refine ⟨_, rfl, ?_⟩; have n0_ := Aside0.mk (below_step (by repeat (first | (with_reducible first | exact HB.out | apply below_alloc | apply pw_below_drewN | apply below_drew1) | exact HB.out)) hb); clear HB; have HB := n0_; clear n0_; (try clear hb); (try clear hb2); (try clear hk); (try clear hi)) | ((with_reducible refine gate_callee (f := 10) rfl ?_); refine goesL_ (some 32) rfl rfl Try.func10 (by kernel_rfl) rfl #[.int .i64 a0, .int .i64 a1, .bool a2, .bool true, .int .u64 a3] rfl (by (try simp only [List.map_toArray, List.map_cons, List.map_nil]); first | done | rfl | (simp only [List.length_drop, List.length_take]; rfl)) ?_; (with_reducible refine (conv_Trunc.calls k a0 a1 a2 true a3 t211 t212 _ A8.out).mono ?_); rintro e w32 ⟨rfl, hb⟩; refine ⟨_, rfl, ?_⟩; have n0_ := Aside0.mk (below_step (by repeat (first | (with_reducible first | exact HB.out | apply below_alloc | apply pw_below_drewN | apply below_drew1) | exact HB.out)) hb); clear HB; have HB := n0_; clear n0_; (try clear hb); (try clear hb2); (try clear hk); (try clear hi)))
        (try simp only [Act.put, List.setIfInBounds_toArray, List.set_cons_zero, List.set_cons_succ])
        go_cut [61] (fun v61 wc => ∃ (kq : Nat) (x61_28 : Bool), v61 = .bool x61_28 ∧ Aside0 (bodkinlaw04_ConvHeld.j0 kq a0 a1 a2 a3 t210 t211 x61_28 = some r) ∧ Aside0 (kq ≤ k) ∧ Aside0 (Below w.heap.size w wc))
        case first =>
          have H := HC29.out
          clear HC29
          by_cases c33 : t209 = 0
          · rw [if_pos c33] at H
            have c33b0 : (t209 == 0) = true := beq_iff_eq.mpr c33
            have c33b1 : (t209 != 0) = false := bne_eq_false_iff_eq.mpr c33
            clear c33
            (first | rw [c33b0] | (simp only [i64_w, i32_w]; rw [c33b0]) | skip)
            have H' := Aside0.mk H
            clear H
            go_wp2
            go_meet
            case rel => exact ⟨_, ((t212 != 0)), (by first | rfl | (simp; done) | (simp [*]; done)), H', ⟨by first | omega | exact Nat.le_refl _⟩, ⟨by repeat (first | (with_reducible first | exact HB.out | apply below_alloc | apply pw_below_drewN | apply below_drew1) | exact HB.out)⟩⟩
          · rw [if_neg c33] at H
            have c33b0 : (t209 == 0) = false := beq_eq_false_iff_ne.mpr c33
            have c33b1 : (t209 != 0) = true := bne_iff_ne.mpr c33
            (first | rw [c33b0] | (simp only [i64_w, i32_w]; rw [c33b0]) | skip)
            have H' := Aside0.mk H
            clear H
            go_wp2
            go_meet
            case rel => exact ⟨_, (true), (by first | rfl | (simp; done) | (simp [*]; done)), H', ⟨by first | omega | exact Nat.le_refl _⟩, ⟨by repeat (first | (with_reducible first | exact HB.out | apply below_alloc | apply pw_below_drewN | apply below_drew1) | exact HB.out)⟩⟩
        case rest =>
          clear HC29
          try clear c1
          try clear c2
          try clear p2
          try clear c3
          try clear c6
          try clear c9
          try clear c9b0
          try clear c9b1
          try clear c10
          try clear c10b0
          try clear c10b1
          try clear c11
          try clear c11b0
          try clear c11b1
          try clear c21
          try clear c21b0
          try clear c21b1
          try clear c22
          try clear c22b0
          try clear c22b1
          try clear c33
          try clear c33b0
          try clear c33b1
          obtain ⟨kq, x61_28, rfl, HA, HJ28, HB⟩ := hcut
          cases kq with
          | zero => exact absurd HA.out (by simp [bodkinlaw04_ConvHeld.j0])
          | succ kj28 =>
            have H := HA.out
            clear HA
            simp only [bodkinlaw04_ConvHeld.j0] at H
            by_cases c34 : x61_28 = true
            · subst c34
              have H1 : (some false) = some r := by rw [if_pos rfl] at H; exact H
              clear H
              have H := H1
              clear H1
              obtain rfl := Option.some.inj H
              go_wp2
              go_ret
              exact ⟨by first | rfl | (simp [errW_none, errW_some] <;> rfl) | (simp [*, errW_none, errW_some] <;> rfl), by repeat (first | (with_reducible first | exact HB.out | apply below_alloc | apply pw_below_drewN | apply below_drew1) | exact HB.out)⟩
            · replace c34 := Bool.eq_false_iff.mpr c34
              subst c34
              have H1 : (if t210 = 43 then (if t211 = 0 then ((floats_Kind.f a0 a3).bind fun t213 => (some (t213 == 4))) else (some false)) else (if 0 ≤ (IntKind.u64.wrap (wrap64 (a1 - 1))) then (if a2 = true then (if t210 = 42 then (if t211 = (IntKind.u64.wrap ((shl .u64 1 (IntKind.u64.wrap (wrap64 (a1 - 1)))) - 1)) then (some true) else (some (t211 == (IntKind.u64.wrap ((IntKind.u64.wrap ((shl .u64 1 (IntKind.u64.wrap (wrap64 (a1 - 1)))) - 1)) + 1))))) else (some false)) else (if t210 = 42 then (if t211 = (IntKind.u64.wrap ((IntKind.u64.wrap ((IntKind.u64.wrap ((shl .u64 1 (IntKind.u64.wrap (wrap64 (a1 - 1)))) - 1)) * 2)) + 1)) then (some true) else (some (t211 == 0))) else (some false))) else (none))) = some r := by rw [if_neg (show ¬ (false = true) by decide)] at H; exact H
              clear H
              have H := H1
              clear H1
              by_cases c35 : t210 = 43
              · rw [if_pos c35] at H
                have c35b0 : (t210 == 43) = true := beq_iff_eq.mpr c35
                have c35b1 : (t210 != 43) = false := bne_eq_false_iff_eq.mpr c35
                clear c35
                by_cases c36 : t211 = 0
                · rw [if_pos c36] at H
                  have c36b0 : (t211 == 0) = true := beq_iff_eq.mpr c36
                  have c36b1 : (t211 != 0) = false := bne_eq_false_iff_eq.mpr c36
                  clear c36
                  replace H := Option.bind_eq_some_iff.mp H
                  obtain ⟨t213, A370, H⟩ := H
                  replace H : (some (t213 == 4)) = some r := H
                  have A37 := Aside0.mk A370
                  clear A370
                  obtain rfl := Option.some.inj H
                  go_wp2_with (first | (go_at_call 11; (with_reducible refine (floats_Kind.calls a0 a3 t213 _ A37.out).mono ?_); rintro e w38 ⟨rfl, hb⟩; have n0_ := Aside0.mk (below_step (by repeat (first | (with_reducible first | exact HB.out | apply below_alloc | apply pw_below_drewN | apply below_drew1) | exact HB.out)) hb); clear HB; have HB := n0_; clear n0_; (try clear hb); (try clear hb2); (try clear hk); (try clear hi)))
                  go_ret
                  exact ⟨by first | rfl | (simp [errW_none, errW_some] <;> rfl) | (simp [*, errW_none, errW_some] <;> rfl), by repeat (first | (with_reducible first | exact HB.out | apply below_alloc | apply pw_below_drewN | apply below_drew1) | exact HB.out)⟩
                · rw [if_neg c36] at H
                  have c36b0 : (t211 == 0) = false := beq_eq_false_iff_ne.mpr c36
                  have c36b1 : (t211 != 0) = true := bne_iff_ne.mpr c36
                  obtain rfl := Option.some.inj H
                  go_wp2
                  go_ret
                  exact ⟨by first | rfl | (simp [errW_none, errW_some] <;> rfl) | (simp [*, errW_none, errW_some] <;> rfl), by repeat (first | (with_reducible first | exact HB.out | apply below_alloc | apply pw_below_drewN | apply below_drew1) | exact HB.out)⟩
              · rw [if_neg c35] at H
                have c35b0 : (t210 == 43) = false := beq_eq_false_iff_ne.mpr c35
                have c35b1 : (t210 != 43) = true := bne_iff_ne.mpr c35
                obtain ⟨ji39, hji39⟩ : ∃ j_ : Int, (IntKind.u64.wrap (wrap64 (a1 - 1))) = j_ := ⟨_, rfl⟩
                replace H : (if 0 ≤ (ji39) then (if a2 = true then (if t210 = 42 then (if t211 = (IntKind.u64.wrap ((shl .u64 1 (ji39)) - 1)) then (some true) else (some (t211 == (IntKind.u64.wrap ((IntKind.u64.wrap ((shl .u64 1 (ji39)) - 1)) + 1))))) else (some false)) else (if t210 = 42 then (if t211 = (IntKind.u64.wrap ((IntKind.u64.wrap ((IntKind.u64.wrap ((shl .u64 1 (ji39)) - 1)) * 2)) + 1)) then (some true) else (some (t211 == 0))) else (some false))) else (none)) = some r := by first | (rw [hji39] at H; exact H) | (simp only [hji39] at H ⊢; exact H)
                by_cases c40 : 0 ≤ (ji39)
                · rw [if_pos c40] at H
                  have c40b0 := eq_true c40
                  have c40b1 : decide (0 ≤ (ji39)) = true := decide_eq_true c40
                  clear c40
                  obtain ⟨ji41, hji41⟩ : ∃ j_ : Int, (shl .u64 1 (ji39)) = j_ := ⟨_, rfl⟩
                  replace H : (if a2 = true then (if t210 = 42 then (if t211 = (IntKind.u64.wrap ((ji41) - 1)) then (some true) else (some (t211 == (IntKind.u64.wrap ((IntKind.u64.wrap ((ji41) - 1)) + 1))))) else (some false)) else (if t210 = 42 then (if t211 = (IntKind.u64.wrap ((IntKind.u64.wrap ((IntKind.u64.wrap ((ji41) - 1)) * 2)) + 1)) then (some true) else (some (t211 == 0))) else (some false))) = some r := by first | (rw [hji41] at H; exact H) | (simp only [hji41] at H ⊢; exact H)
                  have hji41_ : (IntKind.u64.wrap (1 * 2 ^ min (ji39).toNat 64)) = ji41 := hji41
                  have hji41z : (ji39) ≤ 64 → (IntKind.u64.wrap (1 * 2 ^ (ji39).toNat)) = ji41 := shl_small hji41
                  have hji41u : (IntKind.u64.wrap (2 ^ min (ji39).toNat 64)) = ji41 := by have h_ := hji41_; rw [Int.one_mul] at h_; exact h_
                  have hji41v : (ji39) ≤ 64 → (IntKind.u64.wrap (2 ^ (ji39).toNat)) = ji41 := fun hle_ => by have h_ := hji41z hle_; rw [Int.one_mul] at h_; exact h_
                  by_cases c42 : a2 = true
                  · subst c42
                    have H1 : (if t210 = 42 then (if t211 = (IntKind.u64.wrap ((ji41) - 1)) then (some true) else (some (t211 == (IntKind.u64.wrap ((IntKind.u64.wrap ((ji41) - 1)) + 1))))) else (some false)) = some r := by rw [if_pos rfl] at H; exact H
                    clear H
                    have H := H1
                    clear H1
                    by_cases c43 : t210 = 42
                    · rw [if_pos c43] at H
                      have c43b0 : (t210 == 42) = true := beq_iff_eq.mpr c43
                      have c43b1 : (t210 != 42) = false := bne_eq_false_iff_eq.mpr c43
                      clear c43
                      by_cases c44 : t211 = (IntKind.u64.wrap ((ji41) - 1))
                      · rw [if_pos c44] at H
                        have c44b0 : (t211 == (IntKind.u64.wrap ((ji41) - 1))) = true := beq_iff_eq.mpr c44
                        have c44b1 : (t211 != (IntKind.u64.wrap ((ji41) - 1))) = false := bne_eq_false_iff_eq.mpr c44
                        clear c44
                        obtain rfl := Option.some.inj H
                        go_wp2
                        go_ret
                        exact ⟨by first | rfl | (simp [errW_none, errW_some] <;> rfl) | (simp only [← hji39, ← hji41]; first | rfl | (simp [errW_none, errW_some] <;> rfl)) | (simp [*, errW_none, errW_some] <;> rfl), by repeat (first | (with_reducible first | exact HB.out | apply below_alloc | apply pw_below_drewN | apply below_drew1) | exact HB.out)⟩
                      · rw [if_neg c44] at H
                        have c44b0 : (t211 == (IntKind.u64.wrap ((ji41) - 1))) = false := beq_eq_false_iff_ne.mpr c44
                        have c44b1 : (t211 != (IntKind.u64.wrap ((ji41) - 1))) = true := bne_iff_ne.mpr c44
                        obtain rfl := Option.some.inj H
                        go_wp2
                        go_ret
                        exact ⟨by first | rfl | (simp [errW_none, errW_some] <;> rfl) | (simp only [← hji39, ← hji41]; first | rfl | (simp [errW_none, errW_some] <;> rfl)) | (simp [*, errW_none, errW_some] <;> rfl), by repeat (first | (with_reducible first | exact HB.out | apply below_alloc | apply pw_below_drewN | apply below_drew1) | exact HB.out)⟩
                    · rw [if_neg c43] at H
                      have c43b0 : (t210 == 42) = false := beq_eq_false_iff_ne.mpr c43
                      have c43b1 : (t210 != 42) = true := bne_iff_ne.mpr c43
                      obtain rfl := Option.some.inj H
                      go_wp2
                      go_ret
                      exact ⟨by first | rfl | (simp [errW_none, errW_some] <;> rfl) | (simp only [← hji39, ← hji41]; first | rfl | (simp [errW_none, errW_some] <;> rfl)) | (simp [*, errW_none, errW_some] <;> rfl), by repeat (first | (with_reducible first | exact HB.out | apply below_alloc | apply pw_below_drewN | apply below_drew1) | exact HB.out)⟩
                  · replace c42 := Bool.eq_false_iff.mpr c42
                    subst c42
                    have H1 : (if t210 = 42 then (if t211 = (IntKind.u64.wrap ((IntKind.u64.wrap ((IntKind.u64.wrap ((ji41) - 1)) * 2)) + 1)) then (some true) else (some (t211 == 0))) else (some false)) = some r := by rw [if_neg (show ¬ (false = true) by decide)] at H; exact H
                    clear H
                    have H := H1
                    clear H1
                    by_cases c45 : t210 = 42
                    · rw [if_pos c45] at H
                      have c45b0 : (t210 == 42) = true := beq_iff_eq.mpr c45
                      have c45b1 : (t210 != 42) = false := bne_eq_false_iff_eq.mpr c45
                      clear c45
                      by_cases c46 : t211 = (IntKind.u64.wrap ((IntKind.u64.wrap ((IntKind.u64.wrap ((ji41) - 1)) * 2)) + 1))
                      · rw [if_pos c46] at H
                        have c46b0 : (t211 == (IntKind.u64.wrap ((IntKind.u64.wrap ((IntKind.u64.wrap ((ji41) - 1)) * 2)) + 1))) = true := beq_iff_eq.mpr c46
                        have c46b1 : (t211 != (IntKind.u64.wrap ((IntKind.u64.wrap ((IntKind.u64.wrap ((ji41) - 1)) * 2)) + 1))) = false := bne_eq_false_iff_eq.mpr c46
                        clear c46
                        obtain rfl := Option.some.inj H
                        go_wp2
                        go_ret
                        exact ⟨by first | rfl | (simp [errW_none, errW_some] <;> rfl) | (simp only [← hji39, ← hji41]; first | rfl | (simp [errW_none, errW_some] <;> rfl)) | (simp [*, errW_none, errW_some] <;> rfl), by repeat (first | (with_reducible first | exact HB.out | apply below_alloc | apply pw_below_drewN | apply below_drew1) | exact HB.out)⟩
                      · rw [if_neg c46] at H
                        have c46b0 : (t211 == (IntKind.u64.wrap ((IntKind.u64.wrap ((IntKind.u64.wrap ((ji41) - 1)) * 2)) + 1))) = false := beq_eq_false_iff_ne.mpr c46
                        have c46b1 : (t211 != (IntKind.u64.wrap ((IntKind.u64.wrap ((IntKind.u64.wrap ((ji41) - 1)) * 2)) + 1))) = true := bne_iff_ne.mpr c46
                        obtain rfl := Option.some.inj H
                        go_wp2
                        go_ret
                        exact ⟨by first | rfl | (simp [errW_none, errW_some] <;> rfl) | (simp only [← hji39, ← hji41]; first | rfl | (simp [errW_none, errW_some] <;> rfl)) | (simp [*, errW_none, errW_some] <;> rfl), by repeat (first | (with_reducible first | exact HB.out | apply below_alloc | apply pw_below_drewN | apply below_drew1) | exact HB.out)⟩
                    · rw [if_neg c45] at H
                      have c45b0 : (t210 == 42) = false := beq_eq_false_iff_ne.mpr c45
                      have c45b1 : (t210 != 42) = true := bne_iff_ne.mpr c45
                      obtain rfl := Option.some.inj H
                      go_wp2
                      go_ret
                      exact ⟨by first | rfl | (simp [errW_none, errW_some] <;> rfl) | (simp only [← hji39, ← hji41]; first | rfl | (simp [errW_none, errW_some] <;> rfl)) | (simp [*, errW_none, errW_some] <;> rfl), by repeat (first | (with_reducible first | exact HB.out | apply below_alloc | apply pw_below_drewN | apply below_drew1) | exact HB.out)⟩
                · rw [if_neg c40] at H
                  exact absurd H (by simp)
  · replace c6 := Bool.eq_false_iff.mpr c6
    subst c6
    have H1 : (some false) = some r := by rw [if_neg (show ¬ (false = true) by decide)] at H; exact H
    clear H
    have H := H1
    clear H1
    obtain rfl := Option.some.inj H
    go_enter Try.func3, Try.ntmps3
    go_wp2_with (first | ((with_reducible refine gate_callee (f := 9) rfl ?_); refine goesL_ (some 16) rfl rfl Try.func9 (by kernel_rfl) rfl #[] rfl (by (try simp only [List.map_toArray, List.map_cons, List.map_nil]); first | done | rfl | (simp only [List.length_drop, List.length_take]; rfl)) ?_; (with_reducible refine (bodkinlaw04_awake.calls k  false _ A5.out).mono ?_); rintro e w47 ⟨rfl, hb⟩; refine ⟨_, rfl, ?_⟩; have n0_ := Aside0.mk (below_step (by repeat (first | (with_reducible first | exact HB.out | apply below_alloc | apply pw_below_drewN | apply below_drew1) | exact HB.out)) hb); clear HB; have HB := n0_; clear n0_; (try clear hb); (try clear hb2); (try clear hk); (try clear hi)))
    go_ret
    exact ⟨by first | rfl | (simp [errW_none, errW_some] <;> rfl) | (simp [*, errW_none, errW_some] <;> rfl), by repeat (first | (with_reducible first | exact HB.out | apply below_alloc | apply pw_below_drewN | apply below_drew1) | exact HB.out)⟩

/-- THE ONE PURE STATEMENT of bodkinlaw04_ConvHeld: yours. -/
def bodkinlaw04_ConvHeld.Pure : Prop := ∀ (a0 : Int) (a1 : Int) (a2 : Bool) (a3 : Int), (Lit.int .i64 a0).wf = true → (Lit.int .i64 a1).wf = true → (Lit.int .u64 a3).wf = true → ∃ k, bodkinlaw04_ConvHeld.f k a0 a1 a2 a3 = some true
theorem bodkinlaw04_ConvHeld.walk (P : bodkinlaw04_ConvHeld.Pure) (a0 : Int) (a1 : Int) (a2 : Bool) (a3 : Int) (w : World) (w0 : (Lit.int .i64 a0).wf = true) (w1 : (Lit.int .i64 a1).wf = true) (w3 : (Lit.int .u64 a3).wf = true) :
    Calls Try.prog 3 #[.int .i64 a0, .int .i64 a1, .bool a2, .int .u64 a3] w fun e w' => e = .returned (.bool true) ∧ Below w.heap.size w w' := by
  obtain ⟨k, h⟩ := P a0 a1 a2 a3 w0 w1 w3
  refine (bodkinlaw04_ConvHeld.calls k a0 a1 a2 a3 true w h).mono ?_
  rintro e w' ⟨rfl, hd⟩
  exact ⟨rfl, hd⟩

-- NOT PRINTED: function 54 (math_Float32frombits)

-- NOT PRINTED: function 40 (bodkinref03_F32)

-- NOT PRINTED: function 55 (math_Float64frombits)

-- NOT PRINTED: function 41 (bodkinref03_F64)

-- NOT PRINTED: function 32 (bodkinref03_value)

-- NOT PRINTED: function 14 (bodkinref03_Kind)

-- NOT PRINTED: function 4 (bodkinlaw04_ConvBack)

/-! ### bodkinref02_Cut: function 36 -/
def bodkinref02_Cut.l0 : Nat → Int → Int → Int → Int → Option (Int)
  | 0, _, _, _, _ => none
  | k + 1, x0, x1, x5, x6 => if x6 < x0 then (bodkinref02_Cut.l0 k x0 x1 (IntKind.u64.wrap (x5 * 2)) (wrap64 (x6 + 1))) else (if x5 = 0 then (none) else (some (Int.tmod x1 x5)))
def bodkinref02_Cut.f (k : Nat) (a0 : Int) (a1 : Int) : Option (Int) := if a0 = 64 then (some a1) else (bodkinref02_Cut.l0 k a0 a1 1 0)
theorem bodkinref02_Cut.mono_l : ∀ k, (∀ y0 y1 y2 y3, LeO (bodkinref02_Cut.l0 k y0 y1 y2 y3) (bodkinref02_Cut.l0 (k + 1) y0 y1 y2 y3)) := by
  intro k
  induction k with
  | zero => exact fun _ _ _ _ r h => by simp [bodkinref02_Cut.l0] at h
  | succ k ih =>
    have ih0 := ih
    · intro y0 y1 y2 y3
      unfold bodkinref02_Cut.l0
      repeat' first
      | (with_reducible exact ih0 _ _ _ _)
      | (with_reducible exact LeO.refl _)
      | (with_reducible exact LeO.none _)
      | (with_reducible refine LeO.ite ?_ ?_)
      | (with_reducible refine LeO.bind ?_ (fun _ => ?_))
      | exact ih0 _ _ _ _
      | exact LeO.none _
      | refine LeO.ite ?_ ?_
      | refine LeO.bind ?_ (fun _ => ?_)
theorem bodkinref02_Cut.mono : ∀ a0 a1 k, LeO (bodkinref02_Cut.f k a0 a1) (bodkinref02_Cut.f (k + 1) a0 a1) := by
  intro a0 a1 k
  have ih0 := bodkinref02_Cut.mono_l k
  unfold bodkinref02_Cut.f
  repeat' first
      | (with_reducible exact ih0 _ _ _ _)
      | (with_reducible exact LeO.refl _)
      | (with_reducible exact LeO.none _)
      | (with_reducible refine LeO.ite ?_ ?_)
      | (with_reducible refine LeO.bind ?_ (fun _ => ?_))
      | exact ih0 _ _ _ _
      | exact LeO.none _
      | refine LeO.ite ?_ ?_
      | refine LeO.bind ?_ (fun _ => ?_)
set_option maxHeartbeats 8000000 in
set_option maxRecDepth 100000 in
theorem bodkinref02_Cut.calls (k : Nat) (a0 : Int) (a1 : Int) (r : Int) (w : World) (h : bodkinref02_Cut.f k a0 a1 = some r) :
    Calls Try.prog 36 #[.int .i64 a0, .int .u64 a1] w fun e w' => e = .returned (.int .u64 r) ∧ Drawn0 w w' := by
  have H : (if a0 = 64 then (some a1) else (bodkinref02_Cut.l0 k a0 a1 1 0)) = some r := h
  clear h
  by_cases c3 : a0 = 64
  · rw [if_pos c3] at H
    have c3b0 : (a0 == 64) = true := beq_iff_eq.mpr c3
    have c3b1 : (a0 != 64) = false := bne_eq_false_iff_eq.mpr c3
    clear c3
    obtain rfl := Option.some.inj H
    go_enter Try.func36, Try.ntmps36
    go_wp2
    go_ret
    exact ⟨by first | rfl | (simp; done) | (simp [*]; done), by repeat (first | exact Drawn0.refl _ | apply Drawn0.step)⟩
  · rw [if_neg c3] at H
    have c3b0 : (a0 == 64) = false := beq_eq_false_iff_ne.mpr c3
    have c3b1 : (a0 != 64) = true := bne_iff_ne.mpr c3
    have H' := Aside0.mk H
    clear H
    go_enter Try.func36, Try.ntmps36
    go_wp2
    go_loopg [5, 6] k (fun kq v5 v6 w' => ∃ (x5_1 : Int) (x6_1 : Int), v5 = .int .u64 x5_1 ∧ v6 = .int .i64 x6_1 ∧ Aside0 (bodkinref02_Cut.l0 kq a0 a1 x5_1 x6_1 = some r) ∧ Aside0 (kq ≤ k) ∧ Drawn0 w w')
    case atStart => exact ⟨(1), (0), (by first | rfl | (simp; done) | (simp [*]; done)), (by first | rfl | (simp; done) | (simp [*]; done)), H', ⟨Nat.le_refl _⟩, by repeat (first | exact Drawn0.refl _ | apply Drawn0.step)⟩
    case round =>
      clear H'
      try clear p2
      try clear c3
      try clear c3b0
      try clear c3b1
      obtain ⟨x5_1, x6_1, rfl, rfl, HA, HK1, ⟨m1, rfl⟩⟩ := hrel
      cases gk with
      | zero => exact absurd HA.out (by simp [bodkinref02_Cut.l0])
      | succ k1 =>
        have H := HA.out
        clear HA
        simp only [bodkinref02_Cut.l0] at H
        by_cases c4 : x6_1 < a0
        · rw [if_pos c4] at H
          have c4b0 : decide (x6_1 < a0) = true := decide_eq_true c4
          clear c4
          have H' := Aside0.mk H
          clear H
          go_wp2
          go_roundg k1
          case measure => have := HK1.out; omega
          case rel => exact ⟨(IntKind.u64.wrap (x5_1 * 2)), (wrap64 (x6_1 + 1)), (by first | rfl | (simp; done) | (simp [*]; done)), (by first | rfl | (simp; done) | (simp [*]; done)), H', ⟨by have := HK1.out; omega⟩, by repeat (first | exact Drawn0.refl _ | apply Drawn0.step)⟩
        · rw [if_neg c4] at H
          have c4b0 : decide (x6_1 < a0) = false := decide_eq_false c4
          clear c4
          by_cases c5 : x5_1 = 0
          · rw [if_pos c5] at H
            exact absurd H (by simp)
          · rw [if_neg c5] at H
            have c5b0 : (x5_1 == 0) = false := beq_eq_false_iff_ne.mpr c5
            have c5b1 : (x5_1 != 0) = true := bne_iff_ne.mpr c5
            obtain rfl := Option.some.inj H
            go_wp2
            go_ret
            exact ⟨by first | rfl | (simp; done) | (simp [*]; done), by repeat (first | exact Drawn0.refl _ | apply Drawn0.step)⟩

/-! ### bodkinref02_Right: function 49 -/
def bodkinref02_Right.f (a0 : Int) : Option (Bool) := if a0 = 8 then (some true) else (if a0 = 16 then (some true) else (if a0 = 32 then (some true) else (some (a0 == 64))))
set_option maxHeartbeats 8000000 in
set_option maxRecDepth 100000 in
theorem bodkinref02_Right.calls (a0 : Int) (r : Bool) (w : World) (h : bodkinref02_Right.f a0 = some r) :
    Calls Try.prog 49 #[.int .i64 a0] w fun e w' => e = .returned (.bool r) ∧ Drawn0 w w' := by
  have H : (if a0 = 8 then (some true) else (if a0 = 16 then (some true) else (if a0 = 32 then (some true) else (some (a0 == 64))))) = some r := h
  clear h
  by_cases c2 : a0 = 8
  · rw [if_pos c2] at H
    have c2b0 : (a0 == 8) = true := beq_iff_eq.mpr c2
    have c2b1 : (a0 != 8) = false := bne_eq_false_iff_eq.mpr c2
    clear c2
    obtain rfl := Option.some.inj H
    go_enter Try.func49, Try.ntmps49
    go_wp2
    go_ret
    exact ⟨by first | rfl | (simp; done) | (simp [*]; done), by repeat (first | exact Drawn0.refl _ | apply Drawn0.step)⟩
  · rw [if_neg c2] at H
    have c2b0 : (a0 == 8) = false := beq_eq_false_iff_ne.mpr c2
    have c2b1 : (a0 != 8) = true := bne_iff_ne.mpr c2
    by_cases c3 : a0 = 16
    · rw [if_pos c3] at H
      have c3b0 : (a0 == 16) = true := beq_iff_eq.mpr c3
      have c3b1 : (a0 != 16) = false := bne_eq_false_iff_eq.mpr c3
      clear c3
      obtain rfl := Option.some.inj H
      go_enter Try.func49, Try.ntmps49
      go_wp2
      go_ret
      exact ⟨by first | rfl | (simp; done) | (simp [*]; done), by repeat (first | exact Drawn0.refl _ | apply Drawn0.step)⟩
    · rw [if_neg c3] at H
      have c3b0 : (a0 == 16) = false := beq_eq_false_iff_ne.mpr c3
      have c3b1 : (a0 != 16) = true := bne_iff_ne.mpr c3
      by_cases c4 : a0 = 32
      · rw [if_pos c4] at H
        have c4b0 : (a0 == 32) = true := beq_iff_eq.mpr c4
        have c4b1 : (a0 != 32) = false := bne_eq_false_iff_eq.mpr c4
        clear c4
        obtain rfl := Option.some.inj H
        go_enter Try.func49, Try.ntmps49
        go_wp2
        go_ret
        exact ⟨by first | rfl | (simp; done) | (simp [*]; done), by repeat (first | exact Drawn0.refl _ | apply Drawn0.step)⟩
      · rw [if_neg c4] at H
        have c4b0 : (a0 == 32) = false := beq_eq_false_iff_ne.mpr c4
        have c4b1 : (a0 != 32) = true := bne_iff_ne.mpr c4
        obtain rfl := Option.some.inj H
        go_enter Try.func49, Try.ntmps49
        go_wp2
        go_ret
        exact ⟨by first | rfl | (simp; done) | (simp [*]; done), by repeat (first | exact Drawn0.refl _ | apply Drawn0.step)⟩

/-! ### bodkinref02_bit: function 50 -/
def bodkinref02_bit.l0 : Nat → Int → Int → Int → Option (Int)
  | 0, _, _, _ => none
  | k + 1, x0, x1, x5 => if x5 < x1 then (bodkinref02_bit.l0 k (IntKind.u64.wrap (Int.tdiv x0 2)) x1 (wrap64 (x5 + 1))) else (some (Int.tmod x0 2))
def bodkinref02_bit.f (k : Nat) (a0 : Int) (a1 : Int) : Option (Int) := bodkinref02_bit.l0 k a0 a1 0
theorem bodkinref02_bit.mono_l : ∀ k, (∀ y0 y1 y2, LeO (bodkinref02_bit.l0 k y0 y1 y2) (bodkinref02_bit.l0 (k + 1) y0 y1 y2)) := by
  intro k
  induction k with
  | zero => exact fun _ _ _ r h => by simp [bodkinref02_bit.l0] at h
  | succ k ih =>
    have ih0 := ih
    · intro y0 y1 y2
      unfold bodkinref02_bit.l0
      repeat' first
      | (with_reducible exact ih0 _ _ _)
      | (with_reducible exact LeO.refl _)
      | (with_reducible exact LeO.none _)
      | (with_reducible refine LeO.ite ?_ ?_)
      | (with_reducible refine LeO.bind ?_ (fun _ => ?_))
      | exact ih0 _ _ _
      | exact LeO.none _
      | refine LeO.ite ?_ ?_
      | refine LeO.bind ?_ (fun _ => ?_)
theorem bodkinref02_bit.mono : ∀ a0 a1 k, LeO (bodkinref02_bit.f k a0 a1) (bodkinref02_bit.f (k + 1) a0 a1) := by
  intro a0 a1 k
  have ih0 := bodkinref02_bit.mono_l k
  unfold bodkinref02_bit.f
  repeat' first
      | (with_reducible exact ih0 _ _ _)
      | (with_reducible exact LeO.refl _)
      | (with_reducible exact LeO.none _)
      | (with_reducible refine LeO.ite ?_ ?_)
      | (with_reducible refine LeO.bind ?_ (fun _ => ?_))
      | exact ih0 _ _ _
      | exact LeO.none _
      | refine LeO.ite ?_ ?_
      | refine LeO.bind ?_ (fun _ => ?_)
set_option maxHeartbeats 8000000 in
set_option maxRecDepth 100000 in
theorem bodkinref02_bit.calls (k : Nat) (a0 : Int) (a1 : Int) (r : Int) (w : World) (h : bodkinref02_bit.f k a0 a1 = some r) :
    Calls Try.prog 50 #[.int .u64 a0, .int .i64 a1] w fun e w' => e = .returned (.int .u64 r) ∧ Drawn0 w w' := by
  have H : (bodkinref02_bit.l0 k a0 a1 0) = some r := h
  clear h
  have H' := Aside0.mk H
  clear H
  go_enter Try.func50, Try.ntmps50
  go_wp2
  go_loopg [0, 5] k (fun kq v0 v5 w' => ∃ (x0_1 : Int) (x5_1 : Int), v0 = .int .u64 x0_1 ∧ v5 = .int .i64 x5_1 ∧ Aside0 (bodkinref02_bit.l0 kq x0_1 a1 x5_1 = some r) ∧ Aside0 (kq ≤ k) ∧ Drawn0 w w')
  case atStart => exact ⟨(a0), (0), (by first | rfl | (simp; done) | (simp [*]; done)), (by first | rfl | (simp; done) | (simp [*]; done)), H', ⟨Nat.le_refl _⟩, by repeat (first | exact Drawn0.refl _ | apply Drawn0.step)⟩
  case round =>
    clear H'
    try clear p2
    obtain ⟨x0_1, x5_1, rfl, rfl, HA, HK1, ⟨m1, rfl⟩⟩ := hrel
    cases gk with
    | zero => exact absurd HA.out (by simp [bodkinref02_bit.l0])
    | succ k1 =>
      have H := HA.out
      clear HA
      simp only [bodkinref02_bit.l0] at H
      by_cases c3 : x5_1 < a1
      · rw [if_pos c3] at H
        have c3b0 : decide (x5_1 < a1) = true := decide_eq_true c3
        clear c3
        have H' := Aside0.mk H
        clear H
        go_wp2
        go_roundg k1
        case measure => have := HK1.out; omega
        case rel => exact ⟨(IntKind.u64.wrap (Int.tdiv x0_1 2)), (wrap64 (x5_1 + 1)), (by first | rfl | (simp; done) | (simp [*]; done)), (by first | rfl | (simp; done) | (simp [*]; done)), H', ⟨by have := HK1.out; omega⟩, by repeat (first | exact Drawn0.refl _ | apply Drawn0.step)⟩
      · rw [if_neg c3] at H
        have c3b0 : decide (x5_1 < a1) = false := decide_eq_false c3
        clear c3
        obtain rfl := Option.some.inj H
        go_wp2
        go_ret
        exact ⟨by first | rfl | (simp; done) | (simp [*]; done), by repeat (first | exact Drawn0.refl _ | apply Drawn0.step)⟩

/-! ### bodkinref02_Signed: function 37 -/
def bodkinref02_Signed.f (k : Nat) (a0 : Int) (a1 : Int) : Option (Int) := (bodkinref02_Right.f a0).bind fun t217 => (if t217 = true then ((bodkinref02_Cut.f k a0 a1).bind fun t218 => ((bodkinref02_bit.f k t218 (wrap64 (a0 - 1))).bind fun t219 => (if t219 = 1 then ((bodkinref02_Cut.f k a0 (IntKind.u64.wrap (-t218))).bind fun t220 => (some (wrap64 ((wrap64 (-(wrap64 (IntKind.u64.wrap (t220 - 1))))) - 1)))) else (some (wrap64 (t218)))))) else (some 0))
theorem bodkinref02_Signed.mono : ∀ a0 a1 k, LeO (bodkinref02_Signed.f k a0 a1) (bodkinref02_Signed.f (k + 1) a0 a1) := by
  intro a0 a1 k
  unfold bodkinref02_Signed.f
  repeat' first
      | (with_reducible exact bodkinref02_Cut.mono _ _ _)
      | (with_reducible exact bodkinref02_bit.mono _ _ _)
      | (with_reducible exact LeO.refl _)
      | (with_reducible exact LeO.none _)
      | (with_reducible refine LeO.ite ?_ ?_)
      | (with_reducible refine LeO.bind ?_ (fun _ => ?_))
      | exact bodkinref02_Cut.mono _ _ _
      | exact bodkinref02_bit.mono _ _ _
      | exact LeO.none _
      | refine LeO.ite ?_ ?_
      | refine LeO.bind ?_ (fun _ => ?_)
set_option maxHeartbeats 8000000 in
set_option maxRecDepth 100000 in
theorem bodkinref02_Signed.calls (k : Nat) (a0 : Int) (a1 : Int) (r : Int) (w : World) (h : bodkinref02_Signed.f k a0 a1 = some r) :
    Calls Try.prog 37 #[.int .i64 a0, .int .u64 a1] w fun e w' => e = .returned (.int .i64 r) ∧ Drawn0 w w' := by
  have H : ((bodkinref02_Right.f a0).bind fun t217 => (if t217 = true then ((bodkinref02_Cut.f k a0 a1).bind fun t218 => ((bodkinref02_bit.f k t218 (wrap64 (a0 - 1))).bind fun t219 => (if t219 = 1 then ((bodkinref02_Cut.f k a0 (IntKind.u64.wrap (-t218))).bind fun t220 => (some (wrap64 ((wrap64 (-(wrap64 (IntKind.u64.wrap (t220 - 1))))) - 1)))) else (some (wrap64 (t218)))))) else (some 0))) = some r := h
  clear h
  replace H := Option.bind_eq_some_iff.mp H
  obtain ⟨t217, A30, H⟩ := H
  replace H : (if t217 = true then ((bodkinref02_Cut.f k a0 a1).bind fun t218 => ((bodkinref02_bit.f k t218 (wrap64 (a0 - 1))).bind fun t219 => (if t219 = 1 then ((bodkinref02_Cut.f k a0 (IntKind.u64.wrap (-t218))).bind fun t220 => (some (wrap64 ((wrap64 (-(wrap64 (IntKind.u64.wrap (t220 - 1))))) - 1)))) else (some (wrap64 (t218)))))) else (some 0)) = some r := H
  have A3 := Aside0.mk A30
  clear A30
  by_cases c4 : t217 = true
  · subst c4
    have H1 : ((bodkinref02_Cut.f k a0 a1).bind fun t218 => ((bodkinref02_bit.f k t218 (wrap64 (a0 - 1))).bind fun t219 => (if t219 = 1 then ((bodkinref02_Cut.f k a0 (IntKind.u64.wrap (-t218))).bind fun t220 => (some (wrap64 ((wrap64 (-(wrap64 (IntKind.u64.wrap (t220 - 1))))) - 1)))) else (some (wrap64 (t218)))))) = some r := by rw [if_pos rfl] at H; exact H
    clear H
    have H := H1
    clear H1
    replace H := Option.bind_eq_some_iff.mp H
    obtain ⟨t218, A50, H⟩ := H
    replace H : ((bodkinref02_bit.f k t218 (wrap64 (a0 - 1))).bind fun t219 => (if t219 = 1 then ((bodkinref02_Cut.f k a0 (IntKind.u64.wrap (-t218))).bind fun t220 => (some (wrap64 ((wrap64 (-(wrap64 (IntKind.u64.wrap (t220 - 1))))) - 1)))) else (some (wrap64 (t218))))) = some r := H
    have A5 := Aside0.mk A50
    clear A50
    replace H := Option.bind_eq_some_iff.mp H
    obtain ⟨t219, A60, H⟩ := H
    replace H : (if t219 = 1 then ((bodkinref02_Cut.f k a0 (IntKind.u64.wrap (-t218))).bind fun t220 => (some (wrap64 ((wrap64 (-(wrap64 (IntKind.u64.wrap (t220 - 1))))) - 1)))) else (some (wrap64 (t218)))) = some r := H
    have A6 := Aside0.mk A60
    clear A60
    by_cases c7 : t219 = 1
    · rw [if_pos c7] at H
      have c7b0 : (t219 == 1) = true := beq_iff_eq.mpr c7
      have c7b1 : (t219 != 1) = false := bne_eq_false_iff_eq.mpr c7
      clear c7
      replace H := Option.bind_eq_some_iff.mp H
      obtain ⟨t220, A80, H⟩ := H
      replace H : (some (wrap64 ((wrap64 (-(wrap64 (IntKind.u64.wrap (t220 - 1))))) - 1))) = some r := H
      have A8 := Aside0.mk A80
      clear A80
      obtain rfl := Option.some.inj H
      go_enter Try.func37, Try.ntmps37
      go_wp2_with (first | ((with_reducible refine gate_callee (f := 49) rfl ?_); refine goesL_ (some 8) rfl rfl Try.func49 (by kernel_rfl) rfl #[.int .i64 a0] rfl (by (try simp only [List.map_toArray, List.map_cons, List.map_nil]); first | done | rfl | (simp only [List.length_drop, List.length_take]; rfl)) ?_; (with_reducible refine (bodkinref02_Right.calls a0 true _ A3.out).mono ?_); rintro e w' ⟨rfl, ⟨nd, rfl⟩⟩; refine ⟨_, rfl, ?_⟩) | ((with_reducible refine gate_callee (f := 36) rfl ?_); refine goesL_ (some 13) rfl rfl Try.func36 (by kernel_rfl) rfl #[.int .i64 a0, .int .u64 a1] rfl (by (try simp only [List.map_toArray, List.map_cons, List.map_nil]); first | done | rfl | (simp only [List.length_drop, List.length_take]; rfl)) ?_; (with_reducible refine (bodkinref02_Cut.calls k a0 a1 t218 _ A5.out).mono ?_); rintro e w' ⟨rfl, ⟨nd, rfl⟩⟩; refine ⟨_, rfl, ?_⟩) | ((with_reducible refine gate_callee (f := 50) rfl ?_); refine goesL_ (some 17) rfl rfl Try.func50 (by kernel_rfl) rfl #[.int .u64 t218, .int .i64 (wrap64 (a0 - 1))] rfl (by (try simp only [List.map_toArray, List.map_cons, List.map_nil]); first | done | rfl | (simp only [List.length_drop, List.length_take]; rfl)) ?_; (with_reducible refine (bodkinref02_bit.calls k t218 (wrap64 (a0 - 1)) t219 _ A6.out).mono ?_); rintro e w' ⟨rfl, ⟨nd, rfl⟩⟩; refine ⟨_, rfl, ?_⟩) | ((with_reducible refine gate_callee (f := 36) rfl ?_); refine goesL_ (some 22) rfl rfl Try.func36 (by kernel_rfl) rfl #[.int .i64 a0, .int .u64 (IntKind.u64.wrap (-t218))] rfl (by (try simp only [List.map_toArray, List.map_cons, List.map_nil]); first | done | rfl | (simp only [List.length_drop, List.length_take]; rfl)) ?_; (with_reducible refine (bodkinref02_Cut.calls k a0 (IntKind.u64.wrap (-t218)) t220 _ A8.out).mono ?_); rintro e w' ⟨rfl, ⟨nd, rfl⟩⟩; refine ⟨_, rfl, ?_⟩))
      go_ret
      exact ⟨by first | rfl | (simp; done) | (simp [*]; done), by repeat (first | exact Drawn0.refl _ | apply Drawn0.step)⟩
    · rw [if_neg c7] at H
      have c7b0 : (t219 == 1) = false := beq_eq_false_iff_ne.mpr c7
      have c7b1 : (t219 != 1) = true := bne_iff_ne.mpr c7
      obtain rfl := Option.some.inj H
      go_enter Try.func37, Try.ntmps37
      go_wp2_with (first | ((with_reducible refine gate_callee (f := 49) rfl ?_); refine goesL_ (some 8) rfl rfl Try.func49 (by kernel_rfl) rfl #[.int .i64 a0] rfl (by (try simp only [List.map_toArray, List.map_cons, List.map_nil]); first | done | rfl | (simp only [List.length_drop, List.length_take]; rfl)) ?_; (with_reducible refine (bodkinref02_Right.calls a0 true _ A3.out).mono ?_); rintro e w' ⟨rfl, ⟨nd, rfl⟩⟩; refine ⟨_, rfl, ?_⟩) | ((with_reducible refine gate_callee (f := 36) rfl ?_); refine goesL_ (some 13) rfl rfl Try.func36 (by kernel_rfl) rfl #[.int .i64 a0, .int .u64 a1] rfl (by (try simp only [List.map_toArray, List.map_cons, List.map_nil]); first | done | rfl | (simp only [List.length_drop, List.length_take]; rfl)) ?_; (with_reducible refine (bodkinref02_Cut.calls k a0 a1 t218 _ A5.out).mono ?_); rintro e w' ⟨rfl, ⟨nd, rfl⟩⟩; refine ⟨_, rfl, ?_⟩) | ((with_reducible refine gate_callee (f := 50) rfl ?_); refine goesL_ (some 17) rfl rfl Try.func50 (by kernel_rfl) rfl #[.int .u64 t218, .int .i64 (wrap64 (a0 - 1))] rfl (by (try simp only [List.map_toArray, List.map_cons, List.map_nil]); first | done | rfl | (simp only [List.length_drop, List.length_take]; rfl)) ?_; (with_reducible refine (bodkinref02_bit.calls k t218 (wrap64 (a0 - 1)) t219 _ A6.out).mono ?_); rintro e w' ⟨rfl, ⟨nd, rfl⟩⟩; refine ⟨_, rfl, ?_⟩))
      go_ret
      exact ⟨by first | rfl | (simp; done) | (simp [*]; done), by repeat (first | exact Drawn0.refl _ | apply Drawn0.step)⟩
  · replace c4 := Bool.eq_false_iff.mpr c4
    subst c4
    have H1 : (some 0) = some r := by rw [if_neg (show ¬ (false = true) by decide)] at H; exact H
    clear H
    have H := H1
    clear H1
    obtain rfl := Option.some.inj H
    go_enter Try.func37, Try.ntmps37
    go_wp2_with (first | ((with_reducible refine gate_callee (f := 49) rfl ?_); refine goesL_ (some 8) rfl rfl Try.func49 (by kernel_rfl) rfl #[.int .i64 a0] rfl (by (try simp only [List.map_toArray, List.map_cons, List.map_nil]); first | done | rfl | (simp only [List.length_drop, List.length_take]; rfl)) ?_; (with_reducible refine (bodkinref02_Right.calls a0 false _ A3.out).mono ?_); rintro e w' ⟨rfl, ⟨nd, rfl⟩⟩; refine ⟨_, rfl, ?_⟩))
    go_ret
    exact ⟨by first | rfl | (simp; done) | (simp [*]; done), by repeat (first | exact Drawn0.refl _ | apply Drawn0.step)⟩

/-! ### bodkinref03_Canonical: function 51 -/
def bodkinref03_Canonical.f (a0 : Int) : Option (Int) := if a0 = 32 then (some 2143289344) else (if a0 = 64 then (some 9221120237041090560) else (some 0))
set_option maxHeartbeats 8000000 in
set_option maxRecDepth 100000 in
theorem bodkinref03_Canonical.calls (a0 : Int) (r : Int) (w : World) (h : bodkinref03_Canonical.f a0 = some r) :
    Calls Try.prog 51 #[.int .i64 a0] w fun e w' => e = .returned (.int .u64 r) ∧ Drawn0 w w' := by
  have H : (if a0 = 32 then (some 2143289344) else (if a0 = 64 then (some 9221120237041090560) else (some 0))) = some r := h
  clear h
  by_cases c2 : a0 = 32
  · rw [if_pos c2] at H
    have c2b0 : (a0 == 32) = true := beq_iff_eq.mpr c2
    have c2b1 : (a0 != 32) = false := bne_eq_false_iff_eq.mpr c2
    clear c2
    obtain rfl := Option.some.inj H
    go_enter Try.func51, Try.ntmps51
    go_wp2
    go_ret
    exact ⟨by first | rfl | (simp; done) | (simp [*]; done), by repeat (first | exact Drawn0.refl _ | apply Drawn0.step)⟩
  · rw [if_neg c2] at H
    have c2b0 : (a0 == 32) = false := beq_eq_false_iff_ne.mpr c2
    have c2b1 : (a0 != 32) = true := bne_iff_ne.mpr c2
    by_cases c3 : a0 = 64
    · rw [if_pos c3] at H
      have c3b0 : (a0 == 64) = true := beq_iff_eq.mpr c3
      have c3b1 : (a0 != 64) = false := bne_eq_false_iff_eq.mpr c3
      clear c3
      obtain rfl := Option.some.inj H
      go_enter Try.func51, Try.ntmps51
      go_wp2
      go_ret
      exact ⟨by first | rfl | (simp; done) | (simp [*]; done), by repeat (first | exact Drawn0.refl _ | apply Drawn0.step)⟩
    · rw [if_neg c3] at H
      have c3b0 : (a0 == 64) = false := beq_eq_false_iff_ne.mpr c3
      have c3b1 : (a0 != 64) = true := bne_iff_ne.mpr c3
      obtain rfl := Option.some.inj H
      go_enter Try.func51, Try.ntmps51
      go_wp2
      go_ret
      exact ⟨by first | rfl | (simp; done) | (simp [*]; done), by repeat (first | exact Drawn0.refl _ | apply Drawn0.step)⟩

-- NOT PRINTED: function 52 (math_Float32bits)

-- NOT PRINTED: function 38 (bodkinref03_B32)

-- NOT PRINTED: function 53 (math_Float64bits)

-- NOT PRINTED: function 39 (bodkinref03_B64)

-- NOT PRINTED: function 17 (bodkinref04_Convert)

-- NOT PRINTED: function 5 (bodkinlaw04_ConvWords)

-- NOT PRINTED: function 42 (bodkinref04_value)

-- NOT PRINTED: function 56 (math_archTrunc)

-- NOT PRINTED: function 60 (math_Abs)

-- NOT PRINTED: function 61 (math_Copysign)

-- NOT PRINTED: function 57 (math_trunc)

-- NOT PRINTED: function 43 (math_Trunc)

-- NOT PRINTED: function 20 (bodkinref04_Trunc)

-- NOT PRINTED: function 8 (bodkinlaw04_ConvTruncs)

end Go.Proofs.Ytonofklhapfdpaa.PConv
