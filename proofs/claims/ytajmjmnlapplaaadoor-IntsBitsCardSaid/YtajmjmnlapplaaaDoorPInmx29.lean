-- Written by the kit's print.py for this claim, called with several roots by this session's own script (print-roots.sh)
import Derived.Test.YtajmjmnlapplaaaDoorPInmx0
namespace Go.Proofs.YtajmjmnlapplaaaDoor.PInm
open Go.RowKit Go.Proofs.YtajmjmnlapplaaaDoor.PInts Go.Proofs.YtajmjmnlapplaaaDoorW.PrintWords Go.Proofs.YtajmjmnlapplaaaDoorW.PrintLast Go.Proofs.YtajmjmnlapplaaaDoorW.PrintMore
attribute [local go_sem] max2_int min2_int max_two min_two max_three min_three max_four min_four   -- for this text's walks alone
set_option linter.unusedVariables false
set_option linter.unusedSimpArgs false

/-! ### bodkinlaw02_IntsBits: function 11 -/
mutual
def bodkinlaw02_IntsBits.l0 : Nat → Int → Int → Int → Option (Bool)
  | 0, _, _, _ => none
  | k + 1, x0, x1, x6 => if x6 ≤ 64 then (bodkinlaw02_IntsBits.l1 k x0 x1 x6 8) else (some true)
def bodkinlaw02_IntsBits.l1 : Nat → Int → Int → Int → Int → Option (Bool)
  | 0, _, _, _, _ => none
  | k + 1, x0, x1, x6, x7 => if x7 ≤ 10 then ((ints_Bin.f k x6 x7 x0 x1).bind fun bt161 => ((bodkinref02_Bin.f x6 x7 x0 x1).bind fun bt163 => (if bt161.1 = bt163.1 then (if bt161.2 = bt163.2 then (bodkinlaw02_IntsBits.l1 k x0 x1 x6 (wrap64 (x7 + 1))) else (some false)) else (some false)))) else (bodkinlaw02_IntsBits.l0 k x0 x1 (wrap64 (x6 * 2)))
end
def bodkinlaw02_IntsBits.f (k : Nat) (a0 : Int) (a1 : Int) : Option (Bool) := (bodkinlaw02_awake.f k).bind fun t160 => (if t160 = true then (bodkinlaw02_IntsBits.l0 k a0 a1 8) else (some false))
theorem bodkinlaw02_IntsBits.mono_l : ∀ k, (∀ y0 y1 y2, LeO (bodkinlaw02_IntsBits.l0 k y0 y1 y2) (bodkinlaw02_IntsBits.l0 (k + 1) y0 y1 y2)) ∧ (∀ y0 y1 y2 y3, LeO (bodkinlaw02_IntsBits.l1 k y0 y1 y2 y3) (bodkinlaw02_IntsBits.l1 (k + 1) y0 y1 y2 y3)) := by
  intro k
  induction k with
  | zero => exact ⟨fun _ _ _ r h => by simp [bodkinlaw02_IntsBits.l0] at h, fun _ _ _ _ r h => by simp [bodkinlaw02_IntsBits.l1] at h⟩
  | succ k ih =>
    obtain ⟨ih0, ih1⟩ := ih
    refine ⟨?_, ?_⟩
    · intro y0 y1 y2
      unfold bodkinlaw02_IntsBits.l0
      repeat' first
      | (with_reducible exact ih0 _ _ _)
      | (with_reducible exact ih1 _ _ _ _)
      | (with_reducible exact bodkinlaw02_awake.mono _)
      | (with_reducible exact ints_Bin.mono _ _ _ _ _)
      | (with_reducible exact LeO.refl _)
      | (with_reducible exact LeO.none _)
      | (with_reducible refine LeO.ite ?_ ?_)
      | (with_reducible refine LeO.bind ?_ (fun _ => ?_))
      | exact ih0 _ _ _
      | exact ih1 _ _ _ _
      | exact bodkinlaw02_awake.mono _
      | exact ints_Bin.mono _ _ _ _ _
      | exact LeO.none _
      | refine LeO.ite ?_ ?_
      | refine LeO.bind ?_ (fun _ => ?_)
    · intro y0 y1 y2 y3
      unfold bodkinlaw02_IntsBits.l1
      repeat' first
      | (with_reducible exact ih0 _ _ _)
      | (with_reducible exact ih1 _ _ _ _)
      | (with_reducible exact bodkinlaw02_awake.mono _)
      | (with_reducible exact ints_Bin.mono _ _ _ _ _)
      | (with_reducible exact LeO.refl _)
      | (with_reducible exact LeO.none _)
      | (with_reducible refine LeO.ite ?_ ?_)
      | (with_reducible refine LeO.bind ?_ (fun _ => ?_))
      | exact ih0 _ _ _
      | exact ih1 _ _ _ _
      | exact bodkinlaw02_awake.mono _
      | exact ints_Bin.mono _ _ _ _ _
      | exact LeO.none _
      | refine LeO.ite ?_ ?_
      | refine LeO.bind ?_ (fun _ => ?_)
theorem bodkinlaw02_IntsBits.mono : ∀ a0 a1 k, LeO (bodkinlaw02_IntsBits.f k a0 a1) (bodkinlaw02_IntsBits.f (k + 1) a0 a1) := by
  intro a0 a1 k
  obtain ⟨ih0, ih1⟩ := bodkinlaw02_IntsBits.mono_l k
  unfold bodkinlaw02_IntsBits.f
  repeat' first
      | (with_reducible exact ih0 _ _ _)
      | (with_reducible exact ih1 _ _ _ _)
      | (with_reducible exact bodkinlaw02_awake.mono _)
      | (with_reducible exact ints_Bin.mono _ _ _ _ _)
      | (with_reducible exact LeO.refl _)
      | (with_reducible exact LeO.none _)
      | (with_reducible refine LeO.ite ?_ ?_)
      | (with_reducible refine LeO.bind ?_ (fun _ => ?_))
      | exact ih0 _ _ _
      | exact ih1 _ _ _ _
      | exact bodkinlaw02_awake.mono _
      | exact ints_Bin.mono _ _ _ _ _
      | exact LeO.none _
      | refine LeO.ite ?_ ?_
      | refine LeO.bind ?_ (fun _ => ?_)
set_option maxHeartbeats 8000000 in
set_option maxRecDepth 100000 in
theorem bodkinlaw02_IntsBits.calls (k : Nat) (a0 : Int) (a1 : Int) (r : Bool) (w : World) (h : bodkinlaw02_IntsBits.f k a0 a1 = some r) :
    Calls Tryd.prog 11 #[.int .u64 a0, .int .u64 a1] w fun e w' => e = .returned (.bool r) ∧ Below w.heap.size w w' := by
  have HB := Aside0.mk (Below.refl w.heap.size w)
  have H : ((bodkinlaw02_awake.f k).bind fun t160 => (if t160 = true then (bodkinlaw02_IntsBits.l0 k a0 a1 8) else (some false))) = some r := h
  clear h
  replace H := Option.bind_eq_some_iff.mp H
  obtain ⟨t160, A30, H⟩ := H
  replace H : (if t160 = true then (bodkinlaw02_IntsBits.l0 k a0 a1 8) else (some false)) = some r := H
  have A3 := Aside0.mk A30
  clear A30
  by_cases c4 : t160 = true
  · subst c4
    have H1 : (bodkinlaw02_IntsBits.l0 k a0 a1 8) = some r := by rw [if_pos rfl] at H; exact H
    clear H
    have H := H1
    clear H1
    have H' := Aside0.mk H
    clear H
    go_enter Tryd.func11, Tryd.ntmps11
    go_wp2_with (first | ((with_reducible refine gate_callee (f := 15) rfl ?_); refine goesL_ (some 12) rfl rfl Tryd.func15 (by kernel_rfl) rfl #[] rfl (by (try simp only [List.map_toArray, List.map_cons, List.map_nil]); first | done | rfl | (simp only [List.length_drop, List.length_take]; rfl)) ?_; (with_reducible refine (bodkinlaw02_awake.calls k  true _ A3.out).mono ?_); rintro e w5 ⟨rfl, hb⟩; refine ⟨_, rfl, ?_⟩; have n0_ := Aside0.mk (below_step (by repeat (first | (with_reducible first | exact HB.out | apply below_alloc | apply pw_below_drewN | apply below_drew1) | exact HB.out)) hb); clear HB; have HB := n0_; clear n0_; (try clear hb); (try clear hb2); (try clear hk); (try clear hi)))
    go_loopg [6] k (fun kq v6 w' => ∃ (x6_1 : Int), v6 = .int .i64 x6_1 ∧ Aside0 (bodkinlaw02_IntsBits.l0 kq a0 a1 x6_1 = some r) ∧ Aside0 (kq ≤ k) ∧ Aside0 (Below w.heap.size w w'))
    case atStart => exact ⟨(8), (by first | rfl | (simp; done) | (simp [*]; done)), H', ⟨Nat.le_refl _⟩, ⟨by repeat (first | (with_reducible first | exact HB.out | apply below_alloc | apply pw_below_drewN | apply below_drew1) | exact HB.out)⟩⟩
    case round =>
      clear H'
      try clear c1
      try clear p2
      try clear c4
      obtain ⟨x6_1, rfl, HA, HK1, HB⟩ := hrel
      cases gk with
      | zero => exact absurd HA.out (by simp [bodkinlaw02_IntsBits.l0])
      | succ k1 =>
        have H := HA.out
        clear HA
        simp only [bodkinlaw02_IntsBits.l0] at H
        by_cases c6 : x6_1 ≤ 64
        · rw [if_pos c6] at H
          have c6b0 : decide (x6_1 ≤ 64) = true := decide_eq_true c6
          clear c6
          have H' := Aside0.mk H
          clear H
          go_wp2
          go_loopg [7] k1 (fun kq v7 w' => ∃ (x7_2 : Int), v7 = .int .i64 x7_2 ∧ Aside0 (bodkinlaw02_IntsBits.l1 kq a0 a1 x6_1 x7_2 = some r) ∧ Aside0 (kq ≤ k1) ∧ Aside0 (Below w.heap.size w w'))
          case atStart => exact ⟨(8), (by first | rfl | (simp; done) | (simp [*]; done)), H', ⟨Nat.le_refl _⟩, ⟨by repeat (first | (with_reducible first | exact HB.out | apply below_alloc | apply pw_below_drewN | apply below_drew1) | exact HB.out)⟩⟩
          case round =>
            clear H'
            try clear c1
            try clear p2
            try clear c4
            try clear c6
            try clear c6b0
            try clear p2
            obtain ⟨x7_2, rfl, HA, HK2, HB⟩ := hrel
            cases gk with
            | zero => exact absurd HA.out (by simp [bodkinlaw02_IntsBits.l1])
            | succ k2 =>
              have H := HA.out
              clear HA
              simp only [bodkinlaw02_IntsBits.l1] at H
              by_cases c7 : x7_2 ≤ 10
              · rw [if_pos c7] at H
                have c7b0 : decide (x7_2 ≤ 10) = true := decide_eq_true c7
                clear c7
                replace H := Option.bind_eq_some_iff.mp H
                obtain ⟨⟨t161, t162⟩, A80, H⟩ := H
                replace H : ((bodkinref02_Bin.f x6_1 x7_2 a0 a1).bind fun bt163 => (if t161 = bt163.1 then (if t162 = bt163.2 then (bodkinlaw02_IntsBits.l1 k2 a0 a1 x6_1 (wrap64 (x7_2 + 1))) else (some false)) else (some false))) = some r := H
                have A8 := Aside0.mk A80
                clear A80
                replace H := Option.bind_eq_some_iff.mp H
                obtain ⟨⟨t163, t164⟩, A90, H⟩ := H
                replace H : (if t161 = t163 then (if t162 = t164 then (bodkinlaw02_IntsBits.l1 k2 a0 a1 x6_1 (wrap64 (x7_2 + 1))) else (some false)) else (some false)) = some r := H
                have A9 := Aside0.mk A90
                clear A90
                by_cases c10 : t161 = t163
                · rw [if_pos c10] at H
                  have c10b0 : (t161 == t163) = true := beq_iff_eq.mpr c10
                  have c10b1 : (t161 != t163) = false := bne_eq_false_iff_eq.mpr c10
                  clear c10
                  by_cases c11 : t162 = t164
                  · rw [if_pos c11] at H
                    have c11b0 : (t162 == t164) = true := beq_iff_eq.mpr c11
                    have c11b1 : (t162 != t164) = false := bne_eq_false_iff_eq.mpr c11
                    clear c11
                    have H' := Aside0.mk H
                    clear H
                    go_wp2_with (first | ((with_reducible refine gate_callee (f := 16) rfl ?_); refine goesL_ (some 28) rfl rfl Tryd.func16 (by kernel_rfl) rfl #[.int .i64 x6_1, .int .i64 x7_2, .int .u64 a0, .int .u64 a1] rfl (by (try simp only [List.map_toArray, List.map_cons, List.map_nil]); first | done | rfl | (simp only [List.length_drop, List.length_take]; rfl)) ?_; (with_reducible refine (ints_Bin.calls k2 x6_1 x7_2 a0 a1 t161 t162 _ A8.out).mono ?_); rintro e w12 ⟨rfl, hb⟩; refine ⟨_, rfl, ?_⟩; have n0_ := Aside0.mk (below_step (by repeat (first | (with_reducible first | exact HB.out | apply below_alloc | apply pw_below_drewN | apply below_drew1) | exact HB.out)) hb); clear HB; have HB := n0_; clear n0_; (try clear hb); (try clear hb2); (try clear hk); (try clear hi)) | ((with_reducible refine gate_callee (f := 17) rfl ?_); refine goesL_ (some 36) rfl rfl Tryd.func17 (by kernel_rfl) rfl #[.int .i64 x6_1, .int .i64 x7_2, .int .u64 a0, .int .u64 a1] rfl (by (try simp only [List.map_toArray, List.map_cons, List.map_nil]); first | done | rfl | (simp only [List.length_drop, List.length_take]; rfl)) ?_; (with_reducible refine (bodkinref02_Bin.calls x6_1 x7_2 a0 a1 t163 t164 _ A9.out).mono ?_); rintro e w13 ⟨rfl, hb⟩; refine ⟨_, rfl, ?_⟩; have n0_ := Aside0.mk (below_step (by repeat (first | (with_reducible first | exact HB.out | apply below_alloc | apply pw_below_drewN | apply below_drew1) | exact HB.out)) hb); clear HB; have HB := n0_; clear n0_; (try clear hb); (try clear hb2); (try clear hk); (try clear hi)))
                    go_roundg k2
                    case measure => have := HK1.out; have := HK2.out; omega
                    case rel => exact ⟨(wrap64 (x7_2 + 1)), (by first | rfl | (simp; done) | (simp [*]; done)), H', ⟨by have := HK1.out; have := HK2.out; omega⟩, ⟨by repeat (first | (with_reducible first | exact HB.out | apply below_alloc | apply pw_below_drewN | apply below_drew1) | exact HB.out)⟩⟩
                  · rw [if_neg c11] at H
                    have c11b0 : (t162 == t164) = false := beq_eq_false_iff_ne.mpr c11
                    have c11b1 : (t162 != t164) = true := bne_iff_ne.mpr c11
                    obtain rfl := Option.some.inj H
                    go_wp2_with (first | ((with_reducible refine gate_callee (f := 16) rfl ?_); refine goesL_ (some 28) rfl rfl Tryd.func16 (by kernel_rfl) rfl #[.int .i64 x6_1, .int .i64 x7_2, .int .u64 a0, .int .u64 a1] rfl (by (try simp only [List.map_toArray, List.map_cons, List.map_nil]); first | done | rfl | (simp only [List.length_drop, List.length_take]; rfl)) ?_; (with_reducible refine (ints_Bin.calls k2 x6_1 x7_2 a0 a1 t161 t162 _ A8.out).mono ?_); rintro e w14 ⟨rfl, hb⟩; refine ⟨_, rfl, ?_⟩; have n0_ := Aside0.mk (below_step (by repeat (first | (with_reducible first | exact HB.out | apply below_alloc | apply pw_below_drewN | apply below_drew1) | exact HB.out)) hb); clear HB; have HB := n0_; clear n0_; (try clear hb); (try clear hb2); (try clear hk); (try clear hi)) | ((with_reducible refine gate_callee (f := 17) rfl ?_); refine goesL_ (some 36) rfl rfl Tryd.func17 (by kernel_rfl) rfl #[.int .i64 x6_1, .int .i64 x7_2, .int .u64 a0, .int .u64 a1] rfl (by (try simp only [List.map_toArray, List.map_cons, List.map_nil]); first | done | rfl | (simp only [List.length_drop, List.length_take]; rfl)) ?_; (with_reducible refine (bodkinref02_Bin.calls x6_1 x7_2 a0 a1 t163 t164 _ A9.out).mono ?_); rintro e w15 ⟨rfl, hb⟩; refine ⟨_, rfl, ?_⟩; have n0_ := Aside0.mk (below_step (by repeat (first | (with_reducible first | exact HB.out | apply below_alloc | apply pw_below_drewN | apply below_drew1) | exact HB.out)) hb); clear HB; have HB := n0_; clear n0_; (try clear hb); (try clear hb2); (try clear hk); (try clear hi)))
                    go_ret
                    exact ⟨by first | rfl | (simp [errW_none, errW_some] <;> rfl) | (simp [*, errW_none, errW_some] <;> rfl), by repeat (first | (with_reducible first | exact HB.out | apply below_alloc | apply pw_below_drewN | apply below_drew1) | exact HB.out)⟩
                · rw [if_neg c10] at H
                  have c10b0 : (t161 == t163) = false := beq_eq_false_iff_ne.mpr c10
                  have c10b1 : (t161 != t163) = true := bne_iff_ne.mpr c10
                  obtain rfl := Option.some.inj H
                  go_wp2_with (first | ((with_reducible refine gate_callee (f := 16) rfl ?_); refine goesL_ (some 28) rfl rfl Tryd.func16 (by kernel_rfl) rfl #[.int .i64 x6_1, .int .i64 x7_2, .int .u64 a0, .int .u64 a1] rfl (by (try simp only [List.map_toArray, List.map_cons, List.map_nil]); first | done | rfl | (simp only [List.length_drop, List.length_take]; rfl)) ?_; (with_reducible refine (ints_Bin.calls k2 x6_1 x7_2 a0 a1 t161 t162 _ A8.out).mono ?_); rintro e w16 ⟨rfl, hb⟩; refine ⟨_, rfl, ?_⟩; have n0_ := Aside0.mk (below_step (by repeat (first | (with_reducible first | exact HB.out | apply below_alloc | apply pw_below_drewN | apply below_drew1) | exact HB.out)) hb); clear HB; have HB := n0_; clear n0_; (try clear hb); (try clear hb2); (try clear hk); (try clear hi)) | ((with_reducible refine gate_callee (f := 17) rfl ?_); refine goesL_ (some 36) rfl rfl Tryd.func17 (by kernel_rfl) rfl #[.int .i64 x6_1, .int .i64 x7_2, .int .u64 a0, .int .u64 a1] rfl (by (try simp only [List.map_toArray, List.map_cons, List.map_nil]); first | done | rfl | (simp only [List.length_drop, List.length_take]; rfl)) ?_; (with_reducible refine (bodkinref02_Bin.calls x6_1 x7_2 a0 a1 t163 t164 _ A9.out).mono ?_); rintro e w17 ⟨rfl, hb⟩; refine ⟨_, rfl, ?_⟩; have n0_ := Aside0.mk (below_step (by repeat (first | (with_reducible first | exact HB.out | apply below_alloc | apply pw_below_drewN | apply below_drew1) | exact HB.out)) hb); clear HB; have HB := n0_; clear n0_; (try clear hb); (try clear hb2); (try clear hk); (try clear hi)))
                  go_ret
                  exact ⟨by first | rfl | (simp [errW_none, errW_some] <;> rfl) | (simp [*, errW_none, errW_some] <;> rfl), by repeat (first | (with_reducible first | exact HB.out | apply below_alloc | apply pw_below_drewN | apply below_drew1) | exact HB.out)⟩
              · rw [if_neg c7] at H
                have c7b0 : decide (x7_2 ≤ 10) = false := decide_eq_false c7
                clear c7
                have H' := Aside0.mk H
                clear H
                go_wp2
                go_roundg k2
                case measure => have := HK1.out; have := HK2.out; omega
                case rel => exact ⟨(wrap64 (x6_1 * 2)), (by first | rfl | (simp; done) | (simp [*]; done)), H', ⟨by have := HK1.out; have := HK2.out; omega⟩, ⟨by repeat (first | (with_reducible first | exact HB.out | apply below_alloc | apply pw_below_drewN | apply below_drew1) | exact HB.out)⟩⟩
        · rw [if_neg c6] at H
          have c6b0 : decide (x6_1 ≤ 64) = false := decide_eq_false c6
          clear c6
          obtain rfl := Option.some.inj H
          go_wp2
          go_ret
          exact ⟨by first | rfl | (simp [errW_none, errW_some] <;> rfl) | (simp [*, errW_none, errW_some] <;> rfl), by repeat (first | (with_reducible first | exact HB.out | apply below_alloc | apply pw_below_drewN | apply below_drew1) | exact HB.out)⟩
  · replace c4 := Bool.eq_false_iff.mpr c4
    subst c4
    have H1 : (some false) = some r := by rw [if_neg (show ¬ (false = true) by decide)] at H; exact H
    clear H
    have H := H1
    clear H1
    obtain rfl := Option.some.inj H
    go_enter Tryd.func11, Tryd.ntmps11
    go_wp2_with (first | ((with_reducible refine gate_callee (f := 15) rfl ?_); refine goesL_ (some 12) rfl rfl Tryd.func15 (by kernel_rfl) rfl #[] rfl (by (try simp only [List.map_toArray, List.map_cons, List.map_nil]); first | done | rfl | (simp only [List.length_drop, List.length_take]; rfl)) ?_; (with_reducible refine (bodkinlaw02_awake.calls k  false _ A3.out).mono ?_); rintro e w18 ⟨rfl, hb⟩; refine ⟨_, rfl, ?_⟩; have n0_ := Aside0.mk (below_step (by repeat (first | (with_reducible first | exact HB.out | apply below_alloc | apply pw_below_drewN | apply below_drew1) | exact HB.out)) hb); clear HB; have HB := n0_; clear n0_; (try clear hb); (try clear hb2); (try clear hk); (try clear hi)))
    go_ret
    exact ⟨by first | rfl | (simp [errW_none, errW_some] <;> rfl) | (simp [*, errW_none, errW_some] <;> rfl), by repeat (first | (with_reducible first | exact HB.out | apply below_alloc | apply pw_below_drewN | apply below_drew1) | exact HB.out)⟩

/-- THE ONE PURE STATEMENT of bodkinlaw02_IntsBits: yours. -/
def bodkinlaw02_IntsBits.Pure : Prop := ∀ (a0 : Int) (a1 : Int), (Lit.int .u64 a0).wf = true → (Lit.int .u64 a1).wf = true → ∃ k, bodkinlaw02_IntsBits.f k a0 a1 = some true
theorem bodkinlaw02_IntsBits.walk (P : bodkinlaw02_IntsBits.Pure) (a0 : Int) (a1 : Int) (w : World) (w0 : (Lit.int .u64 a0).wf = true) (w1 : (Lit.int .u64 a1).wf = true) :
    Calls Tryd.prog 11 #[.int .u64 a0, .int .u64 a1] w fun e w' => e = .returned (.bool true) ∧ Below w.heap.size w w' := by
  obtain ⟨k, h⟩ := P a0 a1 w0 w1
  refine (bodkinlaw02_IntsBits.calls k a0 a1 true w h).mono ?_
  rintro e w' ⟨rfl, hd⟩
  exact ⟨rfl, hd⟩

end Go.Proofs.YtajmjmnlapplaaaDoor.PInm
