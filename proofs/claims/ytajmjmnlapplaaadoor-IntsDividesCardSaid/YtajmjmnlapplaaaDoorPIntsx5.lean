-- Written by the kit's print.py for this claim, called with several roots by this session's own script (print-roots.sh)
import Derived.Test.YtajmjmnlapplaaaDoorPIntsx0
import Derived.Test.YtajmjmnlapplaaaDoorPIntsx3
namespace Go.Proofs.YtajmjmnlapplaaaDoor.PInts
open Go.RowKit Go.Proofs.YtajmjmnlapplaaaDoorW.PrintWords Go.Proofs.YtajmjmnlapplaaaDoorW.PrintLast Go.Proofs.YtajmjmnlapplaaaDoorW.PrintMore
attribute [local go_sem] max2_int min2_int max_two min_two max_three min_three max_four min_four   -- for this text's walks alone
set_option linter.unusedVariables false
set_option linter.unusedSimpArgs false

/-! ### ints_moved: function 28 -/
def ints_moved.f (a0 : Int) (a1 : Int) (a2 : Int) (a3 : Int) : Option (Int) := if a1 = 12 then ((ints_Signed.f a0 a2).bind fun t104 => (if 0 ≤ a3 then (some (IntKind.u64.wrap (shr .i64 t104 a3))) else (none))) else (if a1 = 13 then (if 0 ≤ a3 then (some (shr .u64 a2 a3)) else (none)) else (if a1 = 15 then (if (IntKind.u64.wrap (a0)) = 0 then (none) else (if 0 ≤ (Int.tmod (IntKind.u64.wrap ((IntKind.u64.wrap (a0)) - a3)) (IntKind.u64.wrap (a0))) then (if 0 ≤ (IntKind.u64.wrap ((IntKind.u64.wrap (a0)) - (Int.tmod (IntKind.u64.wrap ((IntKind.u64.wrap (a0)) - a3)) (IntKind.u64.wrap (a0))))) then (some (Go.bits .or .u64 (shl .u64 a2 (Int.tmod (IntKind.u64.wrap ((IntKind.u64.wrap (a0)) - a3)) (IntKind.u64.wrap (a0)))) (shr .u64 a2 (IntKind.u64.wrap ((IntKind.u64.wrap (a0)) - (Int.tmod (IntKind.u64.wrap ((IntKind.u64.wrap (a0)) - a3)) (IntKind.u64.wrap (a0)))))))) else (none)) else (none))) else (if a1 = 14 then (if 0 ≤ a3 then (if 0 ≤ (IntKind.u64.wrap ((IntKind.u64.wrap (a0)) - a3)) then (some (Go.bits .or .u64 (shl .u64 a2 a3) (shr .u64 a2 (IntKind.u64.wrap ((IntKind.u64.wrap (a0)) - a3))))) else (none)) else (none)) else (if 0 ≤ a3 then (some (shl .u64 a2 a3)) else (none)))))
set_option maxHeartbeats 8000000 in
set_option maxRecDepth 100000 in
theorem ints_moved.calls (a0 : Int) (a1 : Int) (a2 : Int) (a3 : Int) (r : Int) (w : World) (h : ints_moved.f a0 a1 a2 a3 = some r) :
    Calls Tryd.prog 28 #[.int .i64 a0, .int .i64 a1, .int .u64 a2, .int .u64 a3] w fun e w' => e = .returned (.int .u64 r) ∧ Drawn0 w w' := by
  have H : (if a1 = 12 then ((ints_Signed.f a0 a2).bind fun t104 => (if 0 ≤ a3 then (some (IntKind.u64.wrap (shr .i64 t104 a3))) else (none))) else (if a1 = 13 then (if 0 ≤ a3 then (some (shr .u64 a2 a3)) else (none)) else (if a1 = 15 then (if (IntKind.u64.wrap (a0)) = 0 then (none) else (if 0 ≤ (Int.tmod (IntKind.u64.wrap ((IntKind.u64.wrap (a0)) - a3)) (IntKind.u64.wrap (a0))) then (if 0 ≤ (IntKind.u64.wrap ((IntKind.u64.wrap (a0)) - (Int.tmod (IntKind.u64.wrap ((IntKind.u64.wrap (a0)) - a3)) (IntKind.u64.wrap (a0))))) then (some (Go.bits .or .u64 (shl .u64 a2 (Int.tmod (IntKind.u64.wrap ((IntKind.u64.wrap (a0)) - a3)) (IntKind.u64.wrap (a0)))) (shr .u64 a2 (IntKind.u64.wrap ((IntKind.u64.wrap (a0)) - (Int.tmod (IntKind.u64.wrap ((IntKind.u64.wrap (a0)) - a3)) (IntKind.u64.wrap (a0)))))))) else (none)) else (none))) else (if a1 = 14 then (if 0 ≤ a3 then (if 0 ≤ (IntKind.u64.wrap ((IntKind.u64.wrap (a0)) - a3)) then (some (Go.bits .or .u64 (shl .u64 a2 a3) (shr .u64 a2 (IntKind.u64.wrap ((IntKind.u64.wrap (a0)) - a3))))) else (none)) else (none)) else (if 0 ≤ a3 then (some (shl .u64 a2 a3)) else (none)))))) = some r := h
  clear h
  by_cases c5 : a1 = 12
  · rw [if_pos c5] at H
    have c5b0 : (a1 == 12) = true := beq_iff_eq.mpr c5
    have c5b1 : (a1 != 12) = false := bne_eq_false_iff_eq.mpr c5
    clear c5
    replace H := Option.bind_eq_some_iff.mp H
    obtain ⟨t104, A60, H⟩ := H
    replace H : (if 0 ≤ a3 then (some (IntKind.u64.wrap (shr .i64 t104 a3))) else (none)) = some r := H
    have A6 := Aside0.mk A60
    clear A60
    by_cases c7 : 0 ≤ a3
    · rw [if_pos c7] at H
      have c7b0 := eq_true c7
      have c7b1 : decide (0 ≤ a3) = true := decide_eq_true c7
      clear c7
      obtain ⟨ji8, hji8⟩ : ∃ j_ : Int, (shr .i64 t104 a3) = j_ := ⟨_, rfl⟩
      replace H : (some (IntKind.u64.wrap (ji8))) = some r := by first | (rw [hji8] at H; exact H) | (simp only [hji8] at H ⊢; exact H)
      (try rw [hji8] at A6)
      have hji8_ : (t104 / 2 ^ min a3.toNat 64) = ji8 := hji8
      have hji8z : a3 ≤ 64 → (t104 / 2 ^ a3.toNat) = ji8 := shr_small hji8
      obtain rfl := Option.some.inj H
      go_enter Tryd.func28, Tryd.ntmps28
      go_wp2_with (first | ((with_reducible refine gate_callee (f := 22) rfl ?_); refine goesL_ (some 20) rfl rfl Tryd.func22 (by kernel_rfl) rfl #[.int .i64 a0, .int .u64 a2] rfl (by (try simp only [List.map_toArray, List.map_cons, List.map_nil]); first | done | rfl | (simp only [List.length_drop, List.length_take]; rfl)) ?_; (with_reducible refine (ints_Signed.calls a0 a2 t104 _ A6.out).mono ?_); rintro e w' ⟨rfl, ⟨nd, rfl⟩⟩; refine ⟨_, rfl, ?_⟩))
      go_ret
      exact ⟨by first | rfl | (simp; done) | (simp only [← hji8] <;> (first | rfl | simp)) | (simp [*]; done), by repeat (first | exact Drawn0.refl _ | apply Drawn0.step)⟩
    · rw [if_neg c7] at H
      exact absurd H (by simp)
  · rw [if_neg c5] at H
    have c5b0 : (a1 == 12) = false := beq_eq_false_iff_ne.mpr c5
    have c5b1 : (a1 != 12) = true := bne_iff_ne.mpr c5
    by_cases c9 : a1 = 13
    · rw [if_pos c9] at H
      have c9b0 : (a1 == 13) = true := beq_iff_eq.mpr c9
      have c9b1 : (a1 != 13) = false := bne_eq_false_iff_eq.mpr c9
      clear c9
      by_cases c10 : 0 ≤ a3
      · rw [if_pos c10] at H
        have c10b0 := eq_true c10
        have c10b1 : decide (0 ≤ a3) = true := decide_eq_true c10
        clear c10
        obtain ⟨ji11, hji11⟩ : ∃ j_ : Int, (shr .u64 a2 a3) = j_ := ⟨_, rfl⟩
        replace H : (some ji11) = some r := by first | (rw [hji11] at H; exact H) | (simp only [hji11] at H ⊢; exact H)
        have hji11_ : (a2 / 2 ^ min a3.toNat 64) = ji11 := hji11
        have hji11z : a3 ≤ 64 → (a2 / 2 ^ a3.toNat) = ji11 := shr_small hji11
        obtain rfl := Option.some.inj H
        go_enter Tryd.func28, Tryd.ntmps28
        go_wp2
        go_ret
        exact ⟨by first | rfl | (simp; done) | (simp only [← hji11] <;> (first | rfl | simp)) | (simp [*]; done), by repeat (first | exact Drawn0.refl _ | apply Drawn0.step)⟩
      · rw [if_neg c10] at H
        exact absurd H (by simp)
    · rw [if_neg c9] at H
      have c9b0 : (a1 == 13) = false := beq_eq_false_iff_ne.mpr c9
      have c9b1 : (a1 != 13) = true := bne_iff_ne.mpr c9
      by_cases c12 : a1 = 15
      · rw [if_pos c12] at H
        have c12b0 : (a1 == 15) = true := beq_iff_eq.mpr c12
        have c12b1 : (a1 != 15) = false := bne_eq_false_iff_eq.mpr c12
        clear c12
        by_cases c13 : (IntKind.u64.wrap (a0)) = 0
        · rw [if_pos c13] at H
          exact absurd H (by simp)
        · rw [if_neg c13] at H
          have c13b0 : ((IntKind.u64.wrap (a0)) == 0) = false := beq_eq_false_iff_ne.mpr c13
          have c13b1 : ((IntKind.u64.wrap (a0)) != 0) = true := bne_iff_ne.mpr c13
          obtain ⟨ji14, hji14⟩ : ∃ j_ : Int, (Int.tmod (IntKind.u64.wrap ((IntKind.u64.wrap (a0)) - a3)) (IntKind.u64.wrap (a0))) = j_ := ⟨_, rfl⟩
          replace H : (if 0 ≤ (ji14) then (if 0 ≤ (IntKind.u64.wrap ((IntKind.u64.wrap (a0)) - (ji14))) then (some (Go.bits .or .u64 (shl .u64 a2 (ji14)) (shr .u64 a2 (IntKind.u64.wrap ((IntKind.u64.wrap (a0)) - (ji14)))))) else (none)) else (none)) = some r := by first | (rw [hji14] at H; exact H) | (simp only [hji14] at H ⊢; exact H)
          by_cases c15 : 0 ≤ (ji14)
          · rw [if_pos c15] at H
            have c15b0 := eq_true c15
            have c15b1 : decide (0 ≤ (ji14)) = true := decide_eq_true c15
            clear c15
            obtain ⟨ji16, hji16⟩ : ∃ j_ : Int, (shl .u64 a2 (ji14)) = j_ := ⟨_, rfl⟩
            replace H : (if 0 ≤ (IntKind.u64.wrap ((IntKind.u64.wrap (a0)) - (ji14))) then (some (Go.bits .or .u64 (ji16) (shr .u64 a2 (IntKind.u64.wrap ((IntKind.u64.wrap (a0)) - (ji14)))))) else (none)) = some r := by first | (rw [hji16] at H; exact H) | (simp only [hji16] at H ⊢; exact H)
            have hji16_ : (IntKind.u64.wrap (a2 * 2 ^ min (ji14).toNat 64)) = ji16 := hji16
            have hji16z : (ji14) ≤ 64 → (IntKind.u64.wrap (a2 * 2 ^ (ji14).toNat)) = ji16 := shl_small hji16
            obtain ⟨ji17, hji17⟩ : ∃ j_ : Int, (IntKind.u64.wrap ((IntKind.u64.wrap (a0)) - (ji14))) = j_ := ⟨_, rfl⟩
            replace H : (if 0 ≤ (ji17) then (some (Go.bits .or .u64 (ji16) (shr .u64 a2 (ji17)))) else (none)) = some r := by first | (rw [hji17] at H; exact H) | (simp only [hji17] at H ⊢; exact H)
            by_cases c18 : 0 ≤ (ji17)
            · rw [if_pos c18] at H
              have c18b0 := eq_true c18
              have c18b1 : decide (0 ≤ (ji17)) = true := decide_eq_true c18
              clear c18
              obtain ⟨ji19, hji19⟩ : ∃ j_ : Int, (shr .u64 a2 (ji17)) = j_ := ⟨_, rfl⟩
              replace H : (some (Go.bits .or .u64 (ji16) (ji19))) = some r := by first | (rw [hji19] at H; exact H) | (simp only [hji19] at H ⊢; exact H)
              have hji19_ : (a2 / 2 ^ min (ji17).toNat 64) = ji19 := hji19
              have hji19z : (ji17) ≤ 64 → (a2 / 2 ^ (ji17).toNat) = ji19 := shr_small hji19
              obtain rfl := Option.some.inj H
              go_enter Tryd.func28, Tryd.ntmps28
              go_wp2
              go_ret
              exact ⟨by first | rfl | (simp; done) | (simp only [← hji14, ← hji16, ← hji17, ← hji19] <;> (first | rfl | simp)) | (simp [*]; done), by repeat (first | exact Drawn0.refl _ | apply Drawn0.step)⟩
            · rw [if_neg c18] at H
              exact absurd H (by simp)
          · rw [if_neg c15] at H
            exact absurd H (by simp)
      · rw [if_neg c12] at H
        have c12b0 : (a1 == 15) = false := beq_eq_false_iff_ne.mpr c12
        have c12b1 : (a1 != 15) = true := bne_iff_ne.mpr c12
        by_cases c20 : a1 = 14
        · rw [if_pos c20] at H
          have c20b0 : (a1 == 14) = true := beq_iff_eq.mpr c20
          have c20b1 : (a1 != 14) = false := bne_eq_false_iff_eq.mpr c20
          clear c20
          by_cases c21 : 0 ≤ a3
          · rw [if_pos c21] at H
            have c21b0 := eq_true c21
            have c21b1 : decide (0 ≤ a3) = true := decide_eq_true c21
            clear c21
            obtain ⟨ji22, hji22⟩ : ∃ j_ : Int, (shl .u64 a2 a3) = j_ := ⟨_, rfl⟩
            replace H : (if 0 ≤ (IntKind.u64.wrap ((IntKind.u64.wrap (a0)) - a3)) then (some (Go.bits .or .u64 (ji22) (shr .u64 a2 (IntKind.u64.wrap ((IntKind.u64.wrap (a0)) - a3))))) else (none)) = some r := by first | (rw [hji22] at H; exact H) | (simp only [hji22] at H ⊢; exact H)
            have hji22_ : (IntKind.u64.wrap (a2 * 2 ^ min a3.toNat 64)) = ji22 := hji22
            have hji22z : a3 ≤ 64 → (IntKind.u64.wrap (a2 * 2 ^ a3.toNat)) = ji22 := shl_small hji22
            obtain ⟨ji23, hji23⟩ : ∃ j_ : Int, (IntKind.u64.wrap ((IntKind.u64.wrap (a0)) - a3)) = j_ := ⟨_, rfl⟩
            replace H : (if 0 ≤ (ji23) then (some (Go.bits .or .u64 (ji22) (shr .u64 a2 (ji23)))) else (none)) = some r := by first | (rw [hji23] at H; exact H) | (simp only [hji23] at H ⊢; exact H)
            by_cases c24 : 0 ≤ (ji23)
            · rw [if_pos c24] at H
              have c24b0 := eq_true c24
              have c24b1 : decide (0 ≤ (ji23)) = true := decide_eq_true c24
              clear c24
              obtain ⟨ji25, hji25⟩ : ∃ j_ : Int, (shr .u64 a2 (ji23)) = j_ := ⟨_, rfl⟩
              replace H : (some (Go.bits .or .u64 (ji22) (ji25))) = some r := by first | (rw [hji25] at H; exact H) | (simp only [hji25] at H ⊢; exact H)
              have hji25_ : (a2 / 2 ^ min (ji23).toNat 64) = ji25 := hji25
              have hji25z : (ji23) ≤ 64 → (a2 / 2 ^ (ji23).toNat) = ji25 := shr_small hji25
              obtain rfl := Option.some.inj H
              go_enter Tryd.func28, Tryd.ntmps28
              go_wp2
              go_ret
              exact ⟨by first | rfl | (simp; done) | (simp only [← hji22, ← hji23, ← hji25] <;> (first | rfl | simp)) | (simp [*]; done), by repeat (first | exact Drawn0.refl _ | apply Drawn0.step)⟩
            · rw [if_neg c24] at H
              exact absurd H (by simp)
          · rw [if_neg c21] at H
            exact absurd H (by simp)
        · rw [if_neg c20] at H
          have c20b0 : (a1 == 14) = false := beq_eq_false_iff_ne.mpr c20
          have c20b1 : (a1 != 14) = true := bne_iff_ne.mpr c20
          by_cases c26 : 0 ≤ a3
          · rw [if_pos c26] at H
            have c26b0 := eq_true c26
            have c26b1 : decide (0 ≤ a3) = true := decide_eq_true c26
            clear c26
            obtain ⟨ji27, hji27⟩ : ∃ j_ : Int, (shl .u64 a2 a3) = j_ := ⟨_, rfl⟩
            replace H : (some ji27) = some r := by first | (rw [hji27] at H; exact H) | (simp only [hji27] at H ⊢; exact H)
            have hji27_ : (IntKind.u64.wrap (a2 * 2 ^ min a3.toNat 64)) = ji27 := hji27
            have hji27z : a3 ≤ 64 → (IntKind.u64.wrap (a2 * 2 ^ a3.toNat)) = ji27 := shl_small hji27
            obtain rfl := Option.some.inj H
            go_enter Tryd.func28, Tryd.ntmps28
            go_wp2
            go_ret
            exact ⟨by first | rfl | (simp; done) | (simp only [← hji27] <;> (first | rfl | simp)) | (simp [*]; done), by repeat (first | exact Drawn0.refl _ | apply Drawn0.step)⟩
          · rw [if_neg c26] at H
            exact absurd H (by simp)

end Go.Proofs.YtajmjmnlapplaaaDoor.PInts
