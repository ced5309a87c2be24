-- Written by the kit's print.py for this claim, called with several roots by this session's own script (print-roots.sh)
import Derived.Test.YtajmjmnlapplaaaDoorPIntsx0
import Derived.Test.YtajmjmnlapplaaaDoorPIntsx2
import Derived.Test.YtajmjmnlapplaaaDoorPIntsx3
import Derived.Test.YtajmjmnlapplaaaDoorPIntsx6
namespace Go.Proofs.YtajmjmnlapplaaaDoor.PInts
open Go.RowKit Go.Proofs.YtajmjmnlapplaaaDoorW.PrintWords Go.Proofs.YtajmjmnlapplaaaDoorW.PrintLast Go.Proofs.YtajmjmnlapplaaaDoorW.PrintMore
attribute [local go_sem] max2_int min2_int max_two min_two max_three min_three max_four min_four   -- for this text's walks alone
set_option linter.unusedVariables false
set_option linter.unusedSimpArgs false

/-! ### ints_held: function 29 -/
def ints_held.f (k : Nat) (a0 : Int) (a1 : Int) (a2 : Int) (a3 : Int) : Option (Int) := (ints_Signed.f a0 a2).bind fun t105 => ((ints_Signed.f a0 a3).bind fun t106 => ((ints_mask.f a0).bind fun t107 => ((ints_mask.f a0).bind fun t108 => (if a1 = 19 then (some (IntKind.u64.wrap (a2 - (mn a2 a3)))) else (if a1 = 17 then (some (IntKind.u64.wrap (a2 + (mn a3 (IntKind.u64.wrap (t108 - a2)))))) else (if a1 = 21 then (some (mn a2 a3)) else (if a1 = 23 then (some (mx a2 a3)) else (if a1 = 20 then (some (IntKind.u64.wrap (mn t105 t106))) else (if a1 = 22 then (some (IntKind.u64.wrap (mx t105 t106))) else (if a1 = 24 then (some (IntKind.u64.wrap ((IntKind.u64.wrap ((IntKind.u64.wrap (Int.tdiv a2 2)) + (IntKind.u64.wrap (Int.tdiv a3 2)))) + (IntKind.u64.wrap (Int.tdiv (IntKind.u64.wrap ((IntKind.u64.wrap ((Go.bits .and .u64 a2 1) + (Go.bits .and .u64 a3 1))) + 1)) 2))))) else (if a1 = 25 then (some (IntKind.u64.wrap (mn ((wrap64 ((wrap64 (t105 * t106)) + 16384)) / 32768) (wrap64 (t107 / 2))))) else (if a1 = 18 then (if t106 = (wrap64 ((wrap64 (-(wrap64 (t107 / 2)))) - 1)) then ((ints_kept.f k t105 (wrap64 (t107 / 2)) (wrap64 (t107 / 2))).bind fun t109 => ((ints_kept.f k t109 1 (wrap64 (t107 / 2))).bind fun t110 => (some (IntKind.u64.wrap (t110))))) else ((ints_kept.f k t105 (wrap64 (-t106)) (wrap64 (t107 / 2))).bind fun t111 => (some (IntKind.u64.wrap (t111))))) else ((ints_kept.f k t105 t106 (wrap64 (t107 / 2))).bind fun t112 => (some (IntKind.u64.wrap (t112))))))))))))))))
theorem ints_held.mono : ∀ a0 a1 a2 a3 k, LeO (ints_held.f k a0 a1 a2 a3) (ints_held.f (k + 1) a0 a1 a2 a3) := by
  intro a0 a1 a2 a3 k
  unfold ints_held.f
  repeat' first
      | (with_reducible exact ints_kept.mono _ _ _ _)
      | (with_reducible exact LeO.refl _)
      | (with_reducible exact LeO.none _)
      | (with_reducible refine LeO.ite ?_ ?_)
      | (with_reducible refine LeO.bind ?_ (fun _ => ?_))
      | exact ints_kept.mono _ _ _ _
      | exact LeO.none _
      | refine LeO.ite ?_ ?_
      | refine LeO.bind ?_ (fun _ => ?_)
set_option maxHeartbeats 8000000 in
set_option maxRecDepth 100000 in
theorem ints_held.calls (k : Nat) (a0 : Int) (a1 : Int) (a2 : Int) (a3 : Int) (r : Int) (w : World) (h : ints_held.f k a0 a1 a2 a3 = some r) :
    Calls Tryd.prog 29 #[.int .i64 a0, .int .i64 a1, .int .u64 a2, .int .u64 a3] w fun e w' => e = .returned (.int .u64 r) ∧ Below w.heap.size w w' := by
  have HB := Aside0.mk (Below.refl w.heap.size w)
  have H : ((ints_Signed.f a0 a2).bind fun t105 => ((ints_Signed.f a0 a3).bind fun t106 => ((ints_mask.f a0).bind fun t107 => ((ints_mask.f a0).bind fun t108 => (if a1 = 19 then (some (IntKind.u64.wrap (a2 - (mn a2 a3)))) else (if a1 = 17 then (some (IntKind.u64.wrap (a2 + (mn a3 (IntKind.u64.wrap (t108 - a2)))))) else (if a1 = 21 then (some (mn a2 a3)) else (if a1 = 23 then (some (mx a2 a3)) else (if a1 = 20 then (some (IntKind.u64.wrap (mn t105 t106))) else (if a1 = 22 then (some (IntKind.u64.wrap (mx t105 t106))) else (if a1 = 24 then (some (IntKind.u64.wrap ((IntKind.u64.wrap ((IntKind.u64.wrap (Int.tdiv a2 2)) + (IntKind.u64.wrap (Int.tdiv a3 2)))) + (IntKind.u64.wrap (Int.tdiv (IntKind.u64.wrap ((IntKind.u64.wrap ((Go.bits .and .u64 a2 1) + (Go.bits .and .u64 a3 1))) + 1)) 2))))) else (if a1 = 25 then (some (IntKind.u64.wrap (mn ((wrap64 ((wrap64 (t105 * t106)) + 16384)) / 32768) (wrap64 (t107 / 2))))) else (if a1 = 18 then (if t106 = (wrap64 ((wrap64 (-(wrap64 (t107 / 2)))) - 1)) then ((ints_kept.f k t105 (wrap64 (t107 / 2)) (wrap64 (t107 / 2))).bind fun t109 => ((ints_kept.f k t109 1 (wrap64 (t107 / 2))).bind fun t110 => (some (IntKind.u64.wrap (t110))))) else ((ints_kept.f k t105 (wrap64 (-t106)) (wrap64 (t107 / 2))).bind fun t111 => (some (IntKind.u64.wrap (t111))))) else ((ints_kept.f k t105 t106 (wrap64 (t107 / 2))).bind fun t112 => (some (IntKind.u64.wrap (t112))))))))))))))))) = some r := h
  clear h
  replace H := Option.bind_eq_some_iff.mp H
  obtain ⟨t105, A50, H⟩ := H
  replace H : ((ints_Signed.f a0 a3).bind fun t106 => ((ints_mask.f a0).bind fun t107 => ((ints_mask.f a0).bind fun t108 => (if a1 = 19 then (some (IntKind.u64.wrap (a2 - (mn a2 a3)))) else (if a1 = 17 then (some (IntKind.u64.wrap (a2 + (mn a3 (IntKind.u64.wrap (t108 - a2)))))) else (if a1 = 21 then (some (mn a2 a3)) else (if a1 = 23 then (some (mx a2 a3)) else (if a1 = 20 then (some (IntKind.u64.wrap (mn t105 t106))) else (if a1 = 22 then (some (IntKind.u64.wrap (mx t105 t106))) else (if a1 = 24 then (some (IntKind.u64.wrap ((IntKind.u64.wrap ((IntKind.u64.wrap (Int.tdiv a2 2)) + (IntKind.u64.wrap (Int.tdiv a3 2)))) + (IntKind.u64.wrap (Int.tdiv (IntKind.u64.wrap ((IntKind.u64.wrap ((Go.bits .and .u64 a2 1) + (Go.bits .and .u64 a3 1))) + 1)) 2))))) else (if a1 = 25 then (some (IntKind.u64.wrap (mn ((wrap64 ((wrap64 (t105 * t106)) + 16384)) / 32768) (wrap64 (t107 / 2))))) else (if a1 = 18 then (if t106 = (wrap64 ((wrap64 (-(wrap64 (t107 / 2)))) - 1)) then ((ints_kept.f k t105 (wrap64 (t107 / 2)) (wrap64 (t107 / 2))).bind fun t109 => ((ints_kept.f k t109 1 (wrap64 (t107 / 2))).bind fun t110 => (some (IntKind.u64.wrap (t110))))) else ((ints_kept.f k t105 (wrap64 (-t106)) (wrap64 (t107 / 2))).bind fun t111 => (some (IntKind.u64.wrap (t111))))) else ((ints_kept.f k t105 t106 (wrap64 (t107 / 2))).bind fun t112 => (some (IntKind.u64.wrap (t112)))))))))))))))) = some r := H
  have A5 := Aside0.mk A50
  clear A50
  replace H := Option.bind_eq_some_iff.mp H
  obtain ⟨t106, A60, H⟩ := H
  replace H : ((ints_mask.f a0).bind fun t107 => ((ints_mask.f a0).bind fun t108 => (if a1 = 19 then (some (IntKind.u64.wrap (a2 - (mn a2 a3)))) else (if a1 = 17 then (some (IntKind.u64.wrap (a2 + (mn a3 (IntKind.u64.wrap (t108 - a2)))))) else (if a1 = 21 then (some (mn a2 a3)) else (if a1 = 23 then (some (mx a2 a3)) else (if a1 = 20 then (some (IntKind.u64.wrap (mn t105 t106))) else (if a1 = 22 then (some (IntKind.u64.wrap (mx t105 t106))) else (if a1 = 24 then (some (IntKind.u64.wrap ((IntKind.u64.wrap ((IntKind.u64.wrap (Int.tdiv a2 2)) + (IntKind.u64.wrap (Int.tdiv a3 2)))) + (IntKind.u64.wrap (Int.tdiv (IntKind.u64.wrap ((IntKind.u64.wrap ((Go.bits .and .u64 a2 1) + (Go.bits .and .u64 a3 1))) + 1)) 2))))) else (if a1 = 25 then (some (IntKind.u64.wrap (mn ((wrap64 ((wrap64 (t105 * t106)) + 16384)) / 32768) (wrap64 (t107 / 2))))) else (if a1 = 18 then (if t106 = (wrap64 ((wrap64 (-(wrap64 (t107 / 2)))) - 1)) then ((ints_kept.f k t105 (wrap64 (t107 / 2)) (wrap64 (t107 / 2))).bind fun t109 => ((ints_kept.f k t109 1 (wrap64 (t107 / 2))).bind fun t110 => (some (IntKind.u64.wrap (t110))))) else ((ints_kept.f k t105 (wrap64 (-t106)) (wrap64 (t107 / 2))).bind fun t111 => (some (IntKind.u64.wrap (t111))))) else ((ints_kept.f k t105 t106 (wrap64 (t107 / 2))).bind fun t112 => (some (IntKind.u64.wrap (t112))))))))))))))) = some r := H
  have A6 := Aside0.mk A60
  clear A60
  replace H := Option.bind_eq_some_iff.mp H
  obtain ⟨t107, A70, H⟩ := H
  replace H : ((ints_mask.f a0).bind fun t108 => (if a1 = 19 then (some (IntKind.u64.wrap (a2 - (mn a2 a3)))) else (if a1 = 17 then (some (IntKind.u64.wrap (a2 + (mn a3 (IntKind.u64.wrap (t108 - a2)))))) else (if a1 = 21 then (some (mn a2 a3)) else (if a1 = 23 then (some (mx a2 a3)) else (if a1 = 20 then (some (IntKind.u64.wrap (mn t105 t106))) else (if a1 = 22 then (some (IntKind.u64.wrap (mx t105 t106))) else (if a1 = 24 then (some (IntKind.u64.wrap ((IntKind.u64.wrap ((IntKind.u64.wrap (Int.tdiv a2 2)) + (IntKind.u64.wrap (Int.tdiv a3 2)))) + (IntKind.u64.wrap (Int.tdiv (IntKind.u64.wrap ((IntKind.u64.wrap ((Go.bits .and .u64 a2 1) + (Go.bits .and .u64 a3 1))) + 1)) 2))))) else (if a1 = 25 then (some (IntKind.u64.wrap (mn ((wrap64 ((wrap64 (t105 * t106)) + 16384)) / 32768) (wrap64 (t107 / 2))))) else (if a1 = 18 then (if t106 = (wrap64 ((wrap64 (-(wrap64 (t107 / 2)))) - 1)) then ((ints_kept.f k t105 (wrap64 (t107 / 2)) (wrap64 (t107 / 2))).bind fun t109 => ((ints_kept.f k t109 1 (wrap64 (t107 / 2))).bind fun t110 => (some (IntKind.u64.wrap (t110))))) else ((ints_kept.f k t105 (wrap64 (-t106)) (wrap64 (t107 / 2))).bind fun t111 => (some (IntKind.u64.wrap (t111))))) else ((ints_kept.f k t105 t106 (wrap64 (t107 / 2))).bind fun t112 => (some (IntKind.u64.wrap (t112)))))))))))))) = some r := H
  have A7 := Aside0.mk A70
  clear A70
  replace H := Option.bind_eq_some_iff.mp H
  obtain ⟨t108, A80, H⟩ := H
  replace H : (if a1 = 19 then (some (IntKind.u64.wrap (a2 - (mn a2 a3)))) else (if a1 = 17 then (some (IntKind.u64.wrap (a2 + (mn a3 (IntKind.u64.wrap (t108 - a2)))))) else (if a1 = 21 then (some (mn a2 a3)) else (if a1 = 23 then (some (mx a2 a3)) else (if a1 = 20 then (some (IntKind.u64.wrap (mn t105 t106))) else (if a1 = 22 then (some (IntKind.u64.wrap (mx t105 t106))) else (if a1 = 24 then (some (IntKind.u64.wrap ((IntKind.u64.wrap ((IntKind.u64.wrap (Int.tdiv a2 2)) + (IntKind.u64.wrap (Int.tdiv a3 2)))) + (IntKind.u64.wrap (Int.tdiv (IntKind.u64.wrap ((IntKind.u64.wrap ((Go.bits .and .u64 a2 1) + (Go.bits .and .u64 a3 1))) + 1)) 2))))) else (if a1 = 25 then (some (IntKind.u64.wrap (mn ((wrap64 ((wrap64 (t105 * t106)) + 16384)) / 32768) (wrap64 (t107 / 2))))) else (if a1 = 18 then (if t106 = (wrap64 ((wrap64 (-(wrap64 (t107 / 2)))) - 1)) then ((ints_kept.f k t105 (wrap64 (t107 / 2)) (wrap64 (t107 / 2))).bind fun t109 => ((ints_kept.f k t109 1 (wrap64 (t107 / 2))).bind fun t110 => (some (IntKind.u64.wrap (t110))))) else ((ints_kept.f k t105 (wrap64 (-t106)) (wrap64 (t107 / 2))).bind fun t111 => (some (IntKind.u64.wrap (t111))))) else ((ints_kept.f k t105 t106 (wrap64 (t107 / 2))).bind fun t112 => (some (IntKind.u64.wrap (t112))))))))))))) = some r := H
  have A8 := Aside0.mk A80
  clear A80
  by_cases c9 : a1 = 19
  · rw [if_pos c9] at H
    have c9b0 : (a1 == 19) = true := beq_iff_eq.mpr c9
    have c9b1 : (a1 != 19) = false := bne_eq_false_iff_eq.mpr c9
    clear c9
    obtain ⟨ji10, hji10⟩ : ∃ j_ : Int, (mn a2 a3) = j_ := ⟨_, rfl⟩
    replace H : (some (IntKind.u64.wrap (a2 - (ji10)))) = some r := by first | (rw [hji10] at H; exact H) | (simp only [hji10] at H ⊢; exact H)
    (try rw [hji10] at A5)
    (try rw [hji10] at A6)
    (try rw [hji10] at A7)
    (try rw [hji10] at A8)
    have hji10_ : (if a3 < a2 then a3 else a2) = ji10 := hji10
    obtain rfl := Option.some.inj H
    go_enter Tryd.func29, Tryd.ntmps29
    go_wp2_with (first | ((with_reducible refine gate_callee (f := 22) rfl ?_); refine goesL_ (some 16) rfl rfl Tryd.func22 (by kernel_rfl) rfl #[.int .i64 a0, .int .u64 a2] rfl (by (try simp only [List.map_toArray, List.map_cons, List.map_nil]); first | done | rfl | (simp only [List.length_drop, List.length_take]; rfl)) ?_; (with_reducible refine (ints_Signed.calls a0 a2 t105 _ A5.out).mono ?_); rintro e w' ⟨rfl, ⟨nd, rfl⟩⟩; refine ⟨_, rfl, ?_⟩) | ((with_reducible refine gate_callee (f := 22) rfl ?_); refine goesL_ (some 19) rfl rfl Tryd.func22 (by kernel_rfl) rfl #[.int .i64 a0, .int .u64 a3] rfl (by (try simp only [List.map_toArray, List.map_cons, List.map_nil]); first | done | rfl | (simp only [List.length_drop, List.length_take]; rfl)) ?_; (with_reducible refine (ints_Signed.calls a0 a3 t106 _ A6.out).mono ?_); rintro e w' ⟨rfl, ⟨nd, rfl⟩⟩; refine ⟨_, rfl, ?_⟩) | ((with_reducible refine gate_callee (f := 26) rfl ?_); refine goesL_ (some 21) rfl rfl Tryd.func26 (by kernel_rfl) rfl #[.int .i64 a0] rfl (by (try simp only [List.map_toArray, List.map_cons, List.map_nil]); first | done | rfl | (simp only [List.length_drop, List.length_take]; rfl)) ?_; (with_reducible refine (ints_mask.calls a0 t107 _ A7.out).mono ?_); rintro e w' ⟨rfl, ⟨nd, rfl⟩⟩; refine ⟨_, rfl, ?_⟩) | ((with_reducible refine gate_callee (f := 26) rfl ?_); refine goesL_ (some 25) rfl rfl Tryd.func26 (by kernel_rfl) rfl #[.int .i64 a0] rfl (by (try simp only [List.map_toArray, List.map_cons, List.map_nil]); first | done | rfl | (simp only [List.length_drop, List.length_take]; rfl)) ?_; (with_reducible refine (ints_mask.calls a0 t108 _ A8.out).mono ?_); rintro e w' ⟨rfl, ⟨nd, rfl⟩⟩; refine ⟨_, rfl, ?_⟩))
    go_ret
    exact ⟨by first | rfl | (simp [errW_none, errW_some] <;> rfl) | (simp only [← hji10]; first | rfl | (simp [errW_none, errW_some] <;> rfl)) | (simp [*, errW_none, errW_some] <;> rfl), by repeat (first | (with_reducible first | exact HB.out | apply below_alloc | apply pw_below_drewN | apply below_drew1) | exact HB.out)⟩
  · rw [if_neg c9] at H
    have c9b0 : (a1 == 19) = false := beq_eq_false_iff_ne.mpr c9
    have c9b1 : (a1 != 19) = true := bne_iff_ne.mpr c9
    by_cases c11 : a1 = 17
    · rw [if_pos c11] at H
      have c11b0 : (a1 == 17) = true := beq_iff_eq.mpr c11
      have c11b1 : (a1 != 17) = false := bne_eq_false_iff_eq.mpr c11
      clear c11
      obtain ⟨ji12, hji12⟩ : ∃ j_ : Int, (mn a3 (IntKind.u64.wrap (t108 - a2))) = j_ := ⟨_, rfl⟩
      replace H : (some (IntKind.u64.wrap (a2 + (ji12)))) = some r := by first | (rw [hji12] at H; exact H) | (simp only [hji12] at H ⊢; exact H)
      (try rw [hji12] at A5)
      (try rw [hji12] at A6)
      (try rw [hji12] at A7)
      (try rw [hji12] at A8)
      have hji12_ : (if (IntKind.u64.wrap (t108 - a2)) < a3 then (IntKind.u64.wrap (t108 - a2)) else a3) = ji12 := hji12
      obtain rfl := Option.some.inj H
      go_enter Tryd.func29, Tryd.ntmps29
      go_wp2_with (first | ((with_reducible refine gate_callee (f := 22) rfl ?_); refine goesL_ (some 16) rfl rfl Tryd.func22 (by kernel_rfl) rfl #[.int .i64 a0, .int .u64 a2] rfl (by (try simp only [List.map_toArray, List.map_cons, List.map_nil]); first | done | rfl | (simp only [List.length_drop, List.length_take]; rfl)) ?_; (with_reducible refine (ints_Signed.calls a0 a2 t105 _ A5.out).mono ?_); rintro e w' ⟨rfl, ⟨nd, rfl⟩⟩; refine ⟨_, rfl, ?_⟩) | ((with_reducible refine gate_callee (f := 22) rfl ?_); refine goesL_ (some 19) rfl rfl Tryd.func22 (by kernel_rfl) rfl #[.int .i64 a0, .int .u64 a3] rfl (by (try simp only [List.map_toArray, List.map_cons, List.map_nil]); first | done | rfl | (simp only [List.length_drop, List.length_take]; rfl)) ?_; (with_reducible refine (ints_Signed.calls a0 a3 t106 _ A6.out).mono ?_); rintro e w' ⟨rfl, ⟨nd, rfl⟩⟩; refine ⟨_, rfl, ?_⟩) | ((with_reducible refine gate_callee (f := 26) rfl ?_); refine goesL_ (some 21) rfl rfl Tryd.func26 (by kernel_rfl) rfl #[.int .i64 a0] rfl (by (try simp only [List.map_toArray, List.map_cons, List.map_nil]); first | done | rfl | (simp only [List.length_drop, List.length_take]; rfl)) ?_; (with_reducible refine (ints_mask.calls a0 t107 _ A7.out).mono ?_); rintro e w' ⟨rfl, ⟨nd, rfl⟩⟩; refine ⟨_, rfl, ?_⟩) | ((with_reducible refine gate_callee (f := 26) rfl ?_); refine goesL_ (some 25) rfl rfl Tryd.func26 (by kernel_rfl) rfl #[.int .i64 a0] rfl (by (try simp only [List.map_toArray, List.map_cons, List.map_nil]); first | done | rfl | (simp only [List.length_drop, List.length_take]; rfl)) ?_; (with_reducible refine (ints_mask.calls a0 t108 _ A8.out).mono ?_); rintro e w' ⟨rfl, ⟨nd, rfl⟩⟩; refine ⟨_, rfl, ?_⟩))
      go_ret
      exact ⟨by first | rfl | (simp [errW_none, errW_some] <;> rfl) | (simp only [← hji12]; first | rfl | (simp [errW_none, errW_some] <;> rfl)) | (simp [*, errW_none, errW_some] <;> rfl), by repeat (first | (with_reducible first | exact HB.out | apply below_alloc | apply pw_below_drewN | apply below_drew1) | exact HB.out)⟩
    · rw [if_neg c11] at H
      have c11b0 : (a1 == 17) = false := beq_eq_false_iff_ne.mpr c11
      have c11b1 : (a1 != 17) = true := bne_iff_ne.mpr c11
      by_cases c13 : a1 = 21
      · rw [if_pos c13] at H
        have c13b0 : (a1 == 21) = true := beq_iff_eq.mpr c13
        have c13b1 : (a1 != 21) = false := bne_eq_false_iff_eq.mpr c13
        clear c13
        obtain ⟨ji14, hji14⟩ : ∃ j_ : Int, (mn a2 a3) = j_ := ⟨_, rfl⟩
        replace H : (some ji14) = some r := by first | (rw [hji14] at H; exact H) | (simp only [hji14] at H ⊢; exact H)
        (try rw [hji14] at A5)
        (try rw [hji14] at A6)
        (try rw [hji14] at A7)
        (try rw [hji14] at A8)
        have hji14_ : (if a3 < a2 then a3 else a2) = ji14 := hji14
        obtain rfl := Option.some.inj H
        go_enter Tryd.func29, Tryd.ntmps29
        go_wp2_with (first | ((with_reducible refine gate_callee (f := 22) rfl ?_); refine goesL_ (some 16) rfl rfl Tryd.func22 (by kernel_rfl) rfl #[.int .i64 a0, .int .u64 a2] rfl (by (try simp only [List.map_toArray, List.map_cons, List.map_nil]); first | done | rfl | (simp only [List.length_drop, List.length_take]; rfl)) ?_; (with_reducible refine (ints_Signed.calls a0 a2 t105 _ A5.out).mono ?_); rintro e w' ⟨rfl, ⟨nd, rfl⟩⟩; refine ⟨_, rfl, ?_⟩) | ((with_reducible refine gate_callee (f := 22) rfl ?_); refine goesL_ (some 19) rfl rfl Tryd.func22 (by kernel_rfl) rfl #[.int .i64 a0, .int .u64 a3] rfl (by (try simp only [List.map_toArray, List.map_cons, List.map_nil]); first | done | rfl | (simp only [List.length_drop, List.length_take]; rfl)) ?_; (with_reducible refine (ints_Signed.calls a0 a3 t106 _ A6.out).mono ?_); rintro e w' ⟨rfl, ⟨nd, rfl⟩⟩; refine ⟨_, rfl, ?_⟩) | ((with_reducible refine gate_callee (f := 26) rfl ?_); refine goesL_ (some 21) rfl rfl Tryd.func26 (by kernel_rfl) rfl #[.int .i64 a0] rfl (by (try simp only [List.map_toArray, List.map_cons, List.map_nil]); first | done | rfl | (simp only [List.length_drop, List.length_take]; rfl)) ?_; (with_reducible refine (ints_mask.calls a0 t107 _ A7.out).mono ?_); rintro e w' ⟨rfl, ⟨nd, rfl⟩⟩; refine ⟨_, rfl, ?_⟩) | ((with_reducible refine gate_callee (f := 26) rfl ?_); refine goesL_ (some 25) rfl rfl Tryd.func26 (by kernel_rfl) rfl #[.int .i64 a0] rfl (by (try simp only [List.map_toArray, List.map_cons, List.map_nil]); first | done | rfl | (simp only [List.length_drop, List.length_take]; rfl)) ?_; (with_reducible refine (ints_mask.calls a0 t108 _ A8.out).mono ?_); rintro e w' ⟨rfl, ⟨nd, rfl⟩⟩; refine ⟨_, rfl, ?_⟩))
        go_ret
        exact ⟨by first | rfl | (simp [errW_none, errW_some] <;> rfl) | (simp only [← hji14]; first | rfl | (simp [errW_none, errW_some] <;> rfl)) | (simp [*, errW_none, errW_some] <;> rfl), by repeat (first | (with_reducible first | exact HB.out | apply below_alloc | apply pw_below_drewN | apply below_drew1) | exact HB.out)⟩
      · rw [if_neg c13] at H
        have c13b0 : (a1 == 21) = false := beq_eq_false_iff_ne.mpr c13
        have c13b1 : (a1 != 21) = true := bne_iff_ne.mpr c13
        by_cases c15 : a1 = 23
        · rw [if_pos c15] at H
          have c15b0 : (a1 == 23) = true := beq_iff_eq.mpr c15
          have c15b1 : (a1 != 23) = false := bne_eq_false_iff_eq.mpr c15
          clear c15
          obtain ⟨ji16, hji16⟩ : ∃ j_ : Int, (mx a2 a3) = j_ := ⟨_, rfl⟩
          replace H : (some ji16) = some r := by first | (rw [hji16] at H; exact H) | (simp only [hji16] at H ⊢; exact H)
          (try rw [hji16] at A5)
          (try rw [hji16] at A6)
          (try rw [hji16] at A7)
          (try rw [hji16] at A8)
          have hji16_ : (if a2 < a3 then a3 else a2) = ji16 := hji16
          obtain rfl := Option.some.inj H
          go_enter Tryd.func29, Tryd.ntmps29
          go_wp2_with (first | ((with_reducible refine gate_callee (f := 22) rfl ?_); refine goesL_ (some 16) rfl rfl Tryd.func22 (by kernel_rfl) rfl #[.int .i64 a0, .int .u64 a2] rfl (by (try simp only [List.map_toArray, List.map_cons, List.map_nil]); first | done | rfl | (simp only [List.length_drop, List.length_take]; rfl)) ?_; (with_reducible refine (ints_Signed.calls a0 a2 t105 _ A5.out).mono ?_); rintro e w' ⟨rfl, ⟨nd, rfl⟩⟩; refine ⟨_, rfl, ?_⟩) | ((with_reducible refine gate_callee (f := 22) rfl ?_); refine goesL_ (some 19) rfl rfl Tryd.func22 (by kernel_rfl) rfl #[.int .i64 a0, .int .u64 a3] rfl (by (try simp only [List.map_toArray, List.map_cons, List.map_nil]); first | done | rfl | (simp only [List.length_drop, List.length_take]; rfl)) ?_; (with_reducible refine (ints_Signed.calls a0 a3 t106 _ A6.out).mono ?_); rintro e w' ⟨rfl, ⟨nd, rfl⟩⟩; refine ⟨_, rfl, ?_⟩) | ((with_reducible refine gate_callee (f := 26) rfl ?_); refine goesL_ (some 21) rfl rfl Tryd.func26 (by kernel_rfl) rfl #[.int .i64 a0] rfl (by (try simp only [List.map_toArray, List.map_cons, List.map_nil]); first | done | rfl | (simp only [List.length_drop, List.length_take]; rfl)) ?_; (with_reducible refine (ints_mask.calls a0 t107 _ A7.out).mono ?_); rintro e w' ⟨rfl, ⟨nd, rfl⟩⟩; refine ⟨_, rfl, ?_⟩) | ((with_reducible refine gate_callee (f := 26) rfl ?_); refine goesL_ (some 25) rfl rfl Tryd.func26 (by kernel_rfl) rfl #[.int .i64 a0] rfl (by (try simp only [List.map_toArray, List.map_cons, List.map_nil]); first | done | rfl | (simp only [List.length_drop, List.length_take]; rfl)) ?_; (with_reducible refine (ints_mask.calls a0 t108 _ A8.out).mono ?_); rintro e w' ⟨rfl, ⟨nd, rfl⟩⟩; refine ⟨_, rfl, ?_⟩))
          go_ret
          exact ⟨by first | rfl | (simp [errW_none, errW_some] <;> rfl) | (simp only [← hji16]; first | rfl | (simp [errW_none, errW_some] <;> rfl)) | (simp [*, errW_none, errW_some] <;> rfl), by repeat (first | (with_reducible first | exact HB.out | apply below_alloc | apply pw_below_drewN | apply below_drew1) | exact HB.out)⟩
        · rw [if_neg c15] at H
          have c15b0 : (a1 == 23) = false := beq_eq_false_iff_ne.mpr c15
          have c15b1 : (a1 != 23) = true := bne_iff_ne.mpr c15
          by_cases c17 : a1 = 20
          · rw [if_pos c17] at H
            have c17b0 : (a1 == 20) = true := beq_iff_eq.mpr c17
            have c17b1 : (a1 != 20) = false := bne_eq_false_iff_eq.mpr c17
            clear c17
            obtain ⟨ji18, hji18⟩ : ∃ j_ : Int, (mn t105 t106) = j_ := ⟨_, rfl⟩
            replace H : (some (IntKind.u64.wrap (ji18))) = some r := by first | (rw [hji18] at H; exact H) | (simp only [hji18] at H ⊢; exact H)
            (try rw [hji18] at A5)
            (try rw [hji18] at A6)
            (try rw [hji18] at A7)
            (try rw [hji18] at A8)
            have hji18_ : (if t106 < t105 then t106 else t105) = ji18 := hji18
            obtain rfl := Option.some.inj H
            go_enter Tryd.func29, Tryd.ntmps29
            go_wp2_with (first | ((with_reducible refine gate_callee (f := 22) rfl ?_); refine goesL_ (some 16) rfl rfl Tryd.func22 (by kernel_rfl) rfl #[.int .i64 a0, .int .u64 a2] rfl (by (try simp only [List.map_toArray, List.map_cons, List.map_nil]); first | done | rfl | (simp only [List.length_drop, List.length_take]; rfl)) ?_; (with_reducible refine (ints_Signed.calls a0 a2 t105 _ A5.out).mono ?_); rintro e w' ⟨rfl, ⟨nd, rfl⟩⟩; refine ⟨_, rfl, ?_⟩) | ((with_reducible refine gate_callee (f := 22) rfl ?_); refine goesL_ (some 19) rfl rfl Tryd.func22 (by kernel_rfl) rfl #[.int .i64 a0, .int .u64 a3] rfl (by (try simp only [List.map_toArray, List.map_cons, List.map_nil]); first | done | rfl | (simp only [List.length_drop, List.length_take]; rfl)) ?_; (with_reducible refine (ints_Signed.calls a0 a3 t106 _ A6.out).mono ?_); rintro e w' ⟨rfl, ⟨nd, rfl⟩⟩; refine ⟨_, rfl, ?_⟩) | ((with_reducible refine gate_callee (f := 26) rfl ?_); refine goesL_ (some 21) rfl rfl Tryd.func26 (by kernel_rfl) rfl #[.int .i64 a0] rfl (by (try simp only [List.map_toArray, List.map_cons, List.map_nil]); first | done | rfl | (simp only [List.length_drop, List.length_take]; rfl)) ?_; (with_reducible refine (ints_mask.calls a0 t107 _ A7.out).mono ?_); rintro e w' ⟨rfl, ⟨nd, rfl⟩⟩; refine ⟨_, rfl, ?_⟩) | ((with_reducible refine gate_callee (f := 26) rfl ?_); refine goesL_ (some 25) rfl rfl Tryd.func26 (by kernel_rfl) rfl #[.int .i64 a0] rfl (by (try simp only [List.map_toArray, List.map_cons, List.map_nil]); first | done | rfl | (simp only [List.length_drop, List.length_take]; rfl)) ?_; (with_reducible refine (ints_mask.calls a0 t108 _ A8.out).mono ?_); rintro e w' ⟨rfl, ⟨nd, rfl⟩⟩; refine ⟨_, rfl, ?_⟩))
            go_ret
            exact ⟨by first | rfl | (simp [errW_none, errW_some] <;> rfl) | (simp only [← hji18]; first | rfl | (simp [errW_none, errW_some] <;> rfl)) | (simp [*, errW_none, errW_some] <;> rfl), by repeat (first | (with_reducible first | exact HB.out | apply below_alloc | apply pw_below_drewN | apply below_drew1) | exact HB.out)⟩
          · rw [if_neg c17] at H
            have c17b0 : (a1 == 20) = false := beq_eq_false_iff_ne.mpr c17
            have c17b1 : (a1 != 20) = true := bne_iff_ne.mpr c17
            by_cases c19 : a1 = 22
            · rw [if_pos c19] at H
              have c19b0 : (a1 == 22) = true := beq_iff_eq.mpr c19
              have c19b1 : (a1 != 22) = false := bne_eq_false_iff_eq.mpr c19
              clear c19
              obtain ⟨ji20, hji20⟩ : ∃ j_ : Int, (mx t105 t106) = j_ := ⟨_, rfl⟩
              replace H : (some (IntKind.u64.wrap (ji20))) = some r := by first | (rw [hji20] at H; exact H) | (simp only [hji20] at H ⊢; exact H)
              (try rw [hji20] at A5)
              (try rw [hji20] at A6)
              (try rw [hji20] at A7)
              (try rw [hji20] at A8)
              have hji20_ : (if t105 < t106 then t106 else t105) = ji20 := hji20
              obtain rfl := Option.some.inj H
              go_enter Tryd.func29, Tryd.ntmps29
              go_wp2_with (first | ((with_reducible refine gate_callee (f := 22) rfl ?_); refine goesL_ (some 16) rfl rfl Tryd.func22 (by kernel_rfl) rfl #[.int .i64 a0, .int .u64 a2] rfl (by (try simp only [List.map_toArray, List.map_cons, List.map_nil]); first | done | rfl | (simp only [List.length_drop, List.length_take]; rfl)) ?_; (with_reducible refine (ints_Signed.calls a0 a2 t105 _ A5.out).mono ?_); rintro e w' ⟨rfl, ⟨nd, rfl⟩⟩; refine ⟨_, rfl, ?_⟩) | ((with_reducible refine gate_callee (f := 22) rfl ?_); refine goesL_ (some 19) rfl rfl Tryd.func22 (by kernel_rfl) rfl #[.int .i64 a0, .int .u64 a3] rfl (by (try simp only [List.map_toArray, List.map_cons, List.map_nil]); first | done | rfl | (simp only [List.length_drop, List.length_take]; rfl)) ?_; (with_reducible refine (ints_Signed.calls a0 a3 t106 _ A6.out).mono ?_); rintro e w' ⟨rfl, ⟨nd, rfl⟩⟩; refine ⟨_, rfl, ?_⟩) | ((with_reducible refine gate_callee (f := 26) rfl ?_); refine goesL_ (some 21) rfl rfl Tryd.func26 (by kernel_rfl) rfl #[.int .i64 a0] rfl (by (try simp only [List.map_toArray, List.map_cons, List.map_nil]); first | done | rfl | (simp only [List.length_drop, List.length_take]; rfl)) ?_; (with_reducible refine (ints_mask.calls a0 t107 _ A7.out).mono ?_); rintro e w' ⟨rfl, ⟨nd, rfl⟩⟩; refine ⟨_, rfl, ?_⟩) | ((with_reducible refine gate_callee (f := 26) rfl ?_); refine goesL_ (some 25) rfl rfl Tryd.func26 (by kernel_rfl) rfl #[.int .i64 a0] rfl (by (try simp only [List.map_toArray, List.map_cons, List.map_nil]); first | done | rfl | (simp only [List.length_drop, List.length_take]; rfl)) ?_; (with_reducible refine (ints_mask.calls a0 t108 _ A8.out).mono ?_); rintro e w' ⟨rfl, ⟨nd, rfl⟩⟩; refine ⟨_, rfl, ?_⟩))
              go_ret
              exact ⟨by first | rfl | (simp [errW_none, errW_some] <;> rfl) | (simp only [← hji20]; first | rfl | (simp [errW_none, errW_some] <;> rfl)) | (simp [*, errW_none, errW_some] <;> rfl), by repeat (first | (with_reducible first | exact HB.out | apply below_alloc | apply pw_below_drewN | apply below_drew1) | exact HB.out)⟩
            · rw [if_neg c19] at H
              have c19b0 : (a1 == 22) = false := beq_eq_false_iff_ne.mpr c19
              have c19b1 : (a1 != 22) = true := bne_iff_ne.mpr c19
              by_cases c21 : a1 = 24
              · rw [if_pos c21] at H
                have c21b0 : (a1 == 24) = true := beq_iff_eq.mpr c21
                have c21b1 : (a1 != 24) = false := bne_eq_false_iff_eq.mpr c21
                clear c21
                obtain rfl := Option.some.inj H
                go_enter Tryd.func29, Tryd.ntmps29
                go_wp2_with (first | ((with_reducible refine gate_callee (f := 22) rfl ?_); refine goesL_ (some 16) rfl rfl Tryd.func22 (by kernel_rfl) rfl #[.int .i64 a0, .int .u64 a2] rfl (by (try simp only [List.map_toArray, List.map_cons, List.map_nil]); first | done | rfl | (simp only [List.length_drop, List.length_take]; rfl)) ?_; (with_reducible refine (ints_Signed.calls a0 a2 t105 _ A5.out).mono ?_); rintro e w' ⟨rfl, ⟨nd, rfl⟩⟩; refine ⟨_, rfl, ?_⟩) | ((with_reducible refine gate_callee (f := 22) rfl ?_); refine goesL_ (some 19) rfl rfl Tryd.func22 (by kernel_rfl) rfl #[.int .i64 a0, .int .u64 a3] rfl (by (try simp only [List.map_toArray, List.map_cons, List.map_nil]); first | done | rfl | (simp only [List.length_drop, List.length_take]; rfl)) ?_; (with_reducible refine (ints_Signed.calls a0 a3 t106 _ A6.out).mono ?_); rintro e w' ⟨rfl, ⟨nd, rfl⟩⟩; refine ⟨_, rfl, ?_⟩) | ((with_reducible refine gate_callee (f := 26) rfl ?_); refine goesL_ (some 21) rfl rfl Tryd.func26 (by kernel_rfl) rfl #[.int .i64 a0] rfl (by (try simp only [List.map_toArray, List.map_cons, List.map_nil]); first | done | rfl | (simp only [List.length_drop, List.length_take]; rfl)) ?_; (with_reducible refine (ints_mask.calls a0 t107 _ A7.out).mono ?_); rintro e w' ⟨rfl, ⟨nd, rfl⟩⟩; refine ⟨_, rfl, ?_⟩) | ((with_reducible refine gate_callee (f := 26) rfl ?_); refine goesL_ (some 25) rfl rfl Tryd.func26 (by kernel_rfl) rfl #[.int .i64 a0] rfl (by (try simp only [List.map_toArray, List.map_cons, List.map_nil]); first | done | rfl | (simp only [List.length_drop, List.length_take]; rfl)) ?_; (with_reducible refine (ints_mask.calls a0 t108 _ A8.out).mono ?_); rintro e w' ⟨rfl, ⟨nd, rfl⟩⟩; refine ⟨_, rfl, ?_⟩))
                go_ret
                exact ⟨by first | rfl | (simp [errW_none, errW_some] <;> rfl) | (simp [*, errW_none, errW_some] <;> rfl), by repeat (first | (with_reducible first | exact HB.out | apply below_alloc | apply pw_below_drewN | apply below_drew1) | exact HB.out)⟩
              · rw [if_neg c21] at H
                have c21b0 : (a1 == 24) = false := beq_eq_false_iff_ne.mpr c21
                have c21b1 : (a1 != 24) = true := bne_iff_ne.mpr c21
                by_cases c22 : a1 = 25
                · rw [if_pos c22] at H
                  have c22b0 : (a1 == 25) = true := beq_iff_eq.mpr c22
                  have c22b1 : (a1 != 25) = false := bne_eq_false_iff_eq.mpr c22
                  clear c22
                  obtain ⟨ji23, hji23⟩ : ∃ j_ : Int, (mn ((wrap64 ((wrap64 (t105 * t106)) + 16384)) / 32768) (wrap64 (t107 / 2))) = j_ := ⟨_, rfl⟩
                  replace H : (some (IntKind.u64.wrap (ji23))) = some r := by first | (rw [hji23] at H; exact H) | (simp only [hji23] at H ⊢; exact H)
                  (try rw [hji23] at A5)
                  (try rw [hji23] at A6)
                  (try rw [hji23] at A7)
                  (try rw [hji23] at A8)
                  have hji23_ : (if (wrap64 (t107 / 2)) < ((wrap64 ((wrap64 (t105 * t106)) + 16384)) / 32768) then (wrap64 (t107 / 2)) else ((wrap64 ((wrap64 (t105 * t106)) + 16384)) / 32768)) = ji23 := hji23
                  obtain rfl := Option.some.inj H
                  go_enter Tryd.func29, Tryd.ntmps29
                  go_wp2_with (first | ((with_reducible refine gate_callee (f := 22) rfl ?_); refine goesL_ (some 16) rfl rfl Tryd.func22 (by kernel_rfl) rfl #[.int .i64 a0, .int .u64 a2] rfl (by (try simp only [List.map_toArray, List.map_cons, List.map_nil]); first | done | rfl | (simp only [List.length_drop, List.length_take]; rfl)) ?_; (with_reducible refine (ints_Signed.calls a0 a2 t105 _ A5.out).mono ?_); rintro e w' ⟨rfl, ⟨nd, rfl⟩⟩; refine ⟨_, rfl, ?_⟩) | ((with_reducible refine gate_callee (f := 22) rfl ?_); refine goesL_ (some 19) rfl rfl Tryd.func22 (by kernel_rfl) rfl #[.int .i64 a0, .int .u64 a3] rfl (by (try simp only [List.map_toArray, List.map_cons, List.map_nil]); first | done | rfl | (simp only [List.length_drop, List.length_take]; rfl)) ?_; (with_reducible refine (ints_Signed.calls a0 a3 t106 _ A6.out).mono ?_); rintro e w' ⟨rfl, ⟨nd, rfl⟩⟩; refine ⟨_, rfl, ?_⟩) | ((with_reducible refine gate_callee (f := 26) rfl ?_); refine goesL_ (some 21) rfl rfl Tryd.func26 (by kernel_rfl) rfl #[.int .i64 a0] rfl (by (try simp only [List.map_toArray, List.map_cons, List.map_nil]); first | done | rfl | (simp only [List.length_drop, List.length_take]; rfl)) ?_; (with_reducible refine (ints_mask.calls a0 t107 _ A7.out).mono ?_); rintro e w' ⟨rfl, ⟨nd, rfl⟩⟩; refine ⟨_, rfl, ?_⟩) | ((with_reducible refine gate_callee (f := 26) rfl ?_); refine goesL_ (some 25) rfl rfl Tryd.func26 (by kernel_rfl) rfl #[.int .i64 a0] rfl (by (try simp only [List.map_toArray, List.map_cons, List.map_nil]); first | done | rfl | (simp only [List.length_drop, List.length_take]; rfl)) ?_; (with_reducible refine (ints_mask.calls a0 t108 _ A8.out).mono ?_); rintro e w' ⟨rfl, ⟨nd, rfl⟩⟩; refine ⟨_, rfl, ?_⟩))
                  go_ret
                  exact ⟨by first | rfl | (simp [errW_none, errW_some] <;> rfl) | (simp only [← hji23]; first | rfl | (simp [errW_none, errW_some] <;> rfl)) | (simp [*, errW_none, errW_some] <;> rfl), by repeat (first | (with_reducible first | exact HB.out | apply below_alloc | apply pw_below_drewN | apply below_drew1) | exact HB.out)⟩
                · rw [if_neg c22] at H
                  have c22b0 : (a1 == 25) = false := beq_eq_false_iff_ne.mpr c22
                  have c22b1 : (a1 != 25) = true := bne_iff_ne.mpr c22
                  by_cases c24 : a1 = 18
                  · rw [if_pos c24] at H
                    have c24b0 : (a1 == 18) = true := beq_iff_eq.mpr c24
                    have c24b1 : (a1 != 18) = false := bne_eq_false_iff_eq.mpr c24
                    clear c24
                    by_cases c25 : t106 = (wrap64 ((wrap64 (-(wrap64 (t107 / 2)))) - 1))
                    · rw [if_pos c25] at H
                      have c25b0 : (t106 == (wrap64 ((wrap64 (-(wrap64 (t107 / 2)))) - 1))) = true := beq_iff_eq.mpr c25
                      have c25b1 : (t106 != (wrap64 ((wrap64 (-(wrap64 (t107 / 2)))) - 1))) = false := bne_eq_false_iff_eq.mpr c25
                      clear c25
                      replace H := Option.bind_eq_some_iff.mp H
                      obtain ⟨t109, A260, H⟩ := H
                      replace H : ((ints_kept.f k t109 1 (wrap64 (t107 / 2))).bind fun t110 => (some (IntKind.u64.wrap (t110)))) = some r := H
                      have A26 := Aside0.mk A260
                      clear A260
                      replace H := Option.bind_eq_some_iff.mp H
                      obtain ⟨t110, A270, H⟩ := H
                      replace H : (some (IntKind.u64.wrap (t110))) = some r := H
                      have A27 := Aside0.mk A270
                      clear A270
                      obtain rfl := Option.some.inj H
                      go_enter Tryd.func29, Tryd.ntmps29
                      go_wp2_with (first | ((with_reducible refine gate_callee (f := 22) rfl ?_); refine goesL_ (some 16) rfl rfl Tryd.func22 (by kernel_rfl) rfl #[.int .i64 a0, .int .u64 a2] rfl (by (try simp only [List.map_toArray, List.map_cons, List.map_nil]); first | done | rfl | (simp only [List.length_drop, List.length_take]; rfl)) ?_; (with_reducible refine (ints_Signed.calls a0 a2 t105 _ A5.out).mono ?_); rintro e w' ⟨rfl, ⟨nd, rfl⟩⟩; refine ⟨_, rfl, ?_⟩) | ((with_reducible refine gate_callee (f := 22) rfl ?_); refine goesL_ (some 19) rfl rfl Tryd.func22 (by kernel_rfl) rfl #[.int .i64 a0, .int .u64 a3] rfl (by (try simp only [List.map_toArray, List.map_cons, List.map_nil]); first | done | rfl | (simp only [List.length_drop, List.length_take]; rfl)) ?_; (with_reducible refine (ints_Signed.calls a0 a3 t106 _ A6.out).mono ?_); rintro e w' ⟨rfl, ⟨nd, rfl⟩⟩; refine ⟨_, rfl, ?_⟩) | ((with_reducible refine gate_callee (f := 26) rfl ?_); refine goesL_ (some 21) rfl rfl Tryd.func26 (by kernel_rfl) rfl #[.int .i64 a0] rfl (by (try simp only [List.map_toArray, List.map_cons, List.map_nil]); first | done | rfl | (simp only [List.length_drop, List.length_take]; rfl)) ?_; (with_reducible refine (ints_mask.calls a0 t107 _ A7.out).mono ?_); rintro e w' ⟨rfl, ⟨nd, rfl⟩⟩; refine ⟨_, rfl, ?_⟩) | ((with_reducible refine gate_callee (f := 26) rfl ?_); refine goesL_ (some 25) rfl rfl Tryd.func26 (by kernel_rfl) rfl #[.int .i64 a0] rfl (by (try simp only [List.map_toArray, List.map_cons, List.map_nil]); first | done | rfl | (simp only [List.length_drop, List.length_take]; rfl)) ?_; (with_reducible refine (ints_mask.calls a0 t108 _ A8.out).mono ?_); rintro e w' ⟨rfl, ⟨nd, rfl⟩⟩; refine ⟨_, rfl, ?_⟩) | ((with_reducible refine gate_callee (f := 41) rfl ?_); refine goesL_ (some 100) rfl rfl Tryd.func41 (by kernel_rfl) rfl #[.int .i64 t105, .int .i64 (wrap64 (t107 / 2)), .int .i64 (wrap64 (t107 / 2))] rfl (by (try simp only [List.map_toArray, List.map_cons, List.map_nil]); first | done | rfl | (simp only [List.length_drop, List.length_take]; rfl)) ?_; (with_reducible refine (ints_kept.calls k t105 (wrap64 (t107 / 2)) (wrap64 (t107 / 2)) t109 _ A26.out).mono ?_); rintro e w' ⟨rfl, ⟨nd, rfl⟩⟩; refine ⟨_, rfl, ?_⟩) | ((with_reducible refine gate_callee (f := 41) rfl ?_); refine goesL_ (some 103) rfl rfl Tryd.func41 (by kernel_rfl) rfl #[.int .i64 t109, .int .i64 1, .int .i64 (wrap64 (t107 / 2))] rfl (by (try simp only [List.map_toArray, List.map_cons, List.map_nil]); first | done | rfl | (simp only [List.length_drop, List.length_take]; rfl)) ?_; (with_reducible refine (ints_kept.calls k t109 1 (wrap64 (t107 / 2)) t110 _ A27.out).mono ?_); rintro e w' ⟨rfl, ⟨nd, rfl⟩⟩; refine ⟨_, rfl, ?_⟩))
                      go_ret
                      exact ⟨by first | rfl | (simp [errW_none, errW_some] <;> rfl) | (simp [*, errW_none, errW_some] <;> rfl), by repeat (first | (with_reducible first | exact HB.out | apply below_alloc | apply pw_below_drewN | apply below_drew1) | exact HB.out)⟩
                    · rw [if_neg c25] at H
                      have c25b0 : (t106 == (wrap64 ((wrap64 (-(wrap64 (t107 / 2)))) - 1))) = false := beq_eq_false_iff_ne.mpr c25
                      have c25b1 : (t106 != (wrap64 ((wrap64 (-(wrap64 (t107 / 2)))) - 1))) = true := bne_iff_ne.mpr c25
                      replace H := Option.bind_eq_some_iff.mp H
                      obtain ⟨t111, A280, H⟩ := H
                      replace H : (some (IntKind.u64.wrap (t111))) = some r := H
                      have A28 := Aside0.mk A280
                      clear A280
                      obtain rfl := Option.some.inj H
                      go_enter Tryd.func29, Tryd.ntmps29
                      go_wp2_with (first | ((with_reducible refine gate_callee (f := 22) rfl ?_); refine goesL_ (some 16) rfl rfl Tryd.func22 (by kernel_rfl) rfl #[.int .i64 a0, .int .u64 a2] rfl (by (try simp only [List.map_toArray, List.map_cons, List.map_nil]); first | done | rfl | (simp only [List.length_drop, List.length_take]; rfl)) ?_; (with_reducible refine (ints_Signed.calls a0 a2 t105 _ A5.out).mono ?_); rintro e w' ⟨rfl, ⟨nd, rfl⟩⟩; refine ⟨_, rfl, ?_⟩) | ((with_reducible refine gate_callee (f := 22) rfl ?_); refine goesL_ (some 19) rfl rfl Tryd.func22 (by kernel_rfl) rfl #[.int .i64 a0, .int .u64 a3] rfl (by (try simp only [List.map_toArray, List.map_cons, List.map_nil]); first | done | rfl | (simp only [List.length_drop, List.length_take]; rfl)) ?_; (with_reducible refine (ints_Signed.calls a0 a3 t106 _ A6.out).mono ?_); rintro e w' ⟨rfl, ⟨nd, rfl⟩⟩; refine ⟨_, rfl, ?_⟩) | ((with_reducible refine gate_callee (f := 26) rfl ?_); refine goesL_ (some 21) rfl rfl Tryd.func26 (by kernel_rfl) rfl #[.int .i64 a0] rfl (by (try simp only [List.map_toArray, List.map_cons, List.map_nil]); first | done | rfl | (simp only [List.length_drop, List.length_take]; rfl)) ?_; (with_reducible refine (ints_mask.calls a0 t107 _ A7.out).mono ?_); rintro e w' ⟨rfl, ⟨nd, rfl⟩⟩; refine ⟨_, rfl, ?_⟩) | ((with_reducible refine gate_callee (f := 26) rfl ?_); refine goesL_ (some 25) rfl rfl Tryd.func26 (by kernel_rfl) rfl #[.int .i64 a0] rfl (by (try simp only [List.map_toArray, List.map_cons, List.map_nil]); first | done | rfl | (simp only [List.length_drop, List.length_take]; rfl)) ?_; (with_reducible refine (ints_mask.calls a0 t108 _ A8.out).mono ?_); rintro e w' ⟨rfl, ⟨nd, rfl⟩⟩; refine ⟨_, rfl, ?_⟩) | ((with_reducible refine gate_callee (f := 41) rfl ?_); refine goesL_ (some 110) rfl rfl Tryd.func41 (by kernel_rfl) rfl #[.int .i64 t105, .int .i64 (wrap64 (-t106)), .int .i64 (wrap64 (t107 / 2))] rfl (by (try simp only [List.map_toArray, List.map_cons, List.map_nil]); first | done | rfl | (simp only [List.length_drop, List.length_take]; rfl)) ?_; (with_reducible refine (ints_kept.calls k t105 (wrap64 (-t106)) (wrap64 (t107 / 2)) t111 _ A28.out).mono ?_); rintro e w' ⟨rfl, ⟨nd, rfl⟩⟩; refine ⟨_, rfl, ?_⟩))
                      go_ret
                      exact ⟨by first | rfl | (simp [errW_none, errW_some] <;> rfl) | (simp [*, errW_none, errW_some] <;> rfl), by repeat (first | (with_reducible first | exact HB.out | apply below_alloc | apply pw_below_drewN | apply below_drew1) | exact HB.out)⟩
                  · rw [if_neg c24] at H
                    have c24b0 : (a1 == 18) = false := beq_eq_false_iff_ne.mpr c24
                    have c24b1 : (a1 != 18) = true := bne_iff_ne.mpr c24
                    replace H := Option.bind_eq_some_iff.mp H
                    obtain ⟨t112, A290, H⟩ := H
                    replace H : (some (IntKind.u64.wrap (t112))) = some r := H
                    have A29 := Aside0.mk A290
                    clear A290
                    obtain rfl := Option.some.inj H
                    go_enter Tryd.func29, Tryd.ntmps29
                    go_wp2_with (first | ((with_reducible refine gate_callee (f := 22) rfl ?_); refine goesL_ (some 16) rfl rfl Tryd.func22 (by kernel_rfl) rfl #[.int .i64 a0, .int .u64 a2] rfl (by (try simp only [List.map_toArray, List.map_cons, List.map_nil]); first | done | rfl | (simp only [List.length_drop, List.length_take]; rfl)) ?_; (with_reducible refine (ints_Signed.calls a0 a2 t105 _ A5.out).mono ?_); rintro e w' ⟨rfl, ⟨nd, rfl⟩⟩; refine ⟨_, rfl, ?_⟩) | ((with_reducible refine gate_callee (f := 22) rfl ?_); refine goesL_ (some 19) rfl rfl Tryd.func22 (by kernel_rfl) rfl #[.int .i64 a0, .int .u64 a3] rfl (by (try simp only [List.map_toArray, List.map_cons, List.map_nil]); first | done | rfl | (simp only [List.length_drop, List.length_take]; rfl)) ?_; (with_reducible refine (ints_Signed.calls a0 a3 t106 _ A6.out).mono ?_); rintro e w' ⟨rfl, ⟨nd, rfl⟩⟩; refine ⟨_, rfl, ?_⟩) | ((with_reducible refine gate_callee (f := 26) rfl ?_); refine goesL_ (some 21) rfl rfl Tryd.func26 (by kernel_rfl) rfl #[.int .i64 a0] rfl (by (try simp only [List.map_toArray, List.map_cons, List.map_nil]); first | done | rfl | (simp only [List.length_drop, List.length_take]; rfl)) ?_; (with_reducible refine (ints_mask.calls a0 t107 _ A7.out).mono ?_); rintro e w' ⟨rfl, ⟨nd, rfl⟩⟩; refine ⟨_, rfl, ?_⟩) | ((with_reducible refine gate_callee (f := 26) rfl ?_); refine goesL_ (some 25) rfl rfl Tryd.func26 (by kernel_rfl) rfl #[.int .i64 a0] rfl (by (try simp only [List.map_toArray, List.map_cons, List.map_nil]); first | done | rfl | (simp only [List.length_drop, List.length_take]; rfl)) ?_; (with_reducible refine (ints_mask.calls a0 t108 _ A8.out).mono ?_); rintro e w' ⟨rfl, ⟨nd, rfl⟩⟩; refine ⟨_, rfl, ?_⟩) | ((with_reducible refine gate_callee (f := 41) rfl ?_); refine goesL_ (some 110) rfl rfl Tryd.func41 (by kernel_rfl) rfl #[.int .i64 t105, .int .i64 t106, .int .i64 (wrap64 (t107 / 2))] rfl (by (try simp only [List.map_toArray, List.map_cons, List.map_nil]); first | done | rfl | (simp only [List.length_drop, List.length_take]; rfl)) ?_; (with_reducible refine (ints_kept.calls k t105 t106 (wrap64 (t107 / 2)) t112 _ A29.out).mono ?_); rintro e w' ⟨rfl, ⟨nd, rfl⟩⟩; refine ⟨_, rfl, ?_⟩))
                    go_ret
                    exact ⟨by first | rfl | (simp [errW_none, errW_some] <;> rfl) | (simp [*, errW_none, errW_some] <;> rfl), by repeat (first | (with_reducible first | exact HB.out | apply below_alloc | apply pw_below_drewN | apply below_drew1) | exact HB.out)⟩

end Go.Proofs.YtajmjmnlapplaaaDoor.PInts
