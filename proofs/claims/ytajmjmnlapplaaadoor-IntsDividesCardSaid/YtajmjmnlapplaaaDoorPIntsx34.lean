-- Written by the kit's print.py for this claim, called with several roots by this session's own script (print-roots.sh)
import Derived.Test.YtajmjmnlapplaaaDoorPIntsx0
import Derived.Test.YtajmjmnlapplaaaDoorPIntsx3
import Derived.Test.YtajmjmnlapplaaaDoorPIntsx9
import Derived.Test.YtajmjmnlapplaaaDoorPIntsx14
import Derived.Test.YtajmjmnlapplaaaDoorPIntsx15
import Derived.Test.YtajmjmnlapplaaaDoorPIntsx16
namespace Go.Proofs.YtajmjmnlapplaaaDoor.PInts
open Go.RowKit Go.Proofs.YtajmjmnlapplaaaDoorW.PrintWords Go.Proofs.YtajmjmnlapplaaaDoorW.PrintLast Go.Proofs.YtajmjmnlapplaaaDoorW.PrintMore
attribute [local go_sem] max2_int min2_int max_two min_two max_three min_three max_four min_four   -- for this text's walks alone
set_option linter.unusedVariables false
set_option linter.unusedSimpArgs false

/-! ### bodkinlaw02_IntsDivides: function 6 -/
mutual
def bodkinlaw02_IntsDivides.l0 : Nat → Int → Int → Int → Option (Bool)
  | 0, _, _, _ => none
  | k + 1, x0, x1, x6 => if x6 ≤ 64 then ((bodkinref02_Cut.f k x6 x0).bind fun t264 => ((bodkinref02_Cut.f k x6 x1).bind fun t265 => (bodkinlaw02_IntsDivides.l1 k x0 x1 x6 t264 t265 0))) else (some true)
def bodkinlaw02_IntsDivides.l1 : Nat → Int → Int → Int → Int → Int → Int → Option (Bool)
  | 0, _, _, _, _, _, _ => none
  | k + 1, x0, x1, x6, x7, x8, x9 => if x9 < 2 then ((ints_Bin.f k x6 (wrap64 (5 - x9)) x0 x1).bind fun bt266 => ((ints_Bin.f k x6 (wrap64 (7 - x9)) x0 x1).bind fun bt268 => (if x8 = 0 then (if bt266.2 = 41 then (if bt268.2 = 41 then (bodkinlaw02_IntsDivides.l1 k x0 x1 x6 x7 x8 (wrap64 (x9 + 1))) else (some false)) else (some false)) else (if bt266.2 = 42 then (if x9 = 0 then (bodkinlaw02_IntsDivides.j2 k x0 x1 x6 x7 x8 x9 true) else (if bt268.2 = 0 then (if bt268.1 = 0 then ((ints_Signed.f x6 x1).bind fun t270 => (bodkinlaw02_IntsDivides.j2 k x0 x1 x6 x7 x8 x9 (t270 != (-1)))) else (bodkinlaw02_IntsDivides.j2 k x0 x1 x6 x7 x8 x9 true)) else (bodkinlaw02_IntsDivides.j2 k x0 x1 x6 x7 x8 x9 true))) else ((ints_Bin.f k x6 3 bt266.1 x1).bind fun bt271 => ((ints_Bin.f k x6 1 bt271.1 bt268.1).bind fun bt273 => (if x9 = 1 then ((ints_Un.f k x6 7 bt268.1).bind fun bt275 => ((ints_Un.f k x6 7 x1).bind fun bt277 => (bodkinlaw02_IntsDivides.j3 k x0 x1 x6 x7 x8 x9 bt266.2 bt268.2 bt273.1 (decide (bt275.1 < bt277.1))))) else (bodkinlaw02_IntsDivides.j3 k x0 x1 x6 x7 x8 x9 bt266.2 bt268.2 bt273.1 (decide (bt268.1 < x8)))))))))) else (bodkinlaw02_IntsDivides.l0 k x0 x1 (wrap64 (x6 * 2)))
def bodkinlaw02_IntsDivides.j2 : Nat → Int → Int → Int → Int → Int → Int → Bool → Option (Bool)
  | 0, _, _, _, _, _, _, _ => none
  | k + 1, x0, x1, x6, x7, x8, x9, x83 => if x83 = true then (some false) else (bodkinlaw02_IntsDivides.l1 k x0 x1 x6 x7 x8 (wrap64 (x9 + 1)))
def bodkinlaw02_IntsDivides.j3 : Nat → Int → Int → Int → Int → Int → Int → Int → Int → Int → Bool → Option (Bool)
  | 0, _, _, _, _, _, _, _, _, _, _ => none
  | k + 1, x0, x1, x6, x7, x8, x9, x11, x13, x16, x18 => if x16 = x7 then (if x18 = true then (if x11 = 0 then (bodkinlaw02_IntsDivides.j4 k x0 x1 x6 x7 x8 x9 (x13 != 0)) else (bodkinlaw02_IntsDivides.j4 k x0 x1 x6 x7 x8 x9 true)) else (bodkinlaw02_IntsDivides.j4 k x0 x1 x6 x7 x8 x9 true)) else (bodkinlaw02_IntsDivides.j4 k x0 x1 x6 x7 x8 x9 true)
def bodkinlaw02_IntsDivides.j4 : Nat → Int → Int → Int → Int → Int → Int → Bool → Option (Bool)
  | 0, _, _, _, _, _, _, _ => none
  | k + 1, x0, x1, x6, x7, x8, x9, x132 => if x132 = true then (some false) else (bodkinlaw02_IntsDivides.l1 k x0 x1 x6 x7 x8 (wrap64 (x9 + 1)))
end
def bodkinlaw02_IntsDivides.f (k : Nat) (a0 : Int) (a1 : Int) : Option (Bool) := (bodkinlaw02_awake.f k).bind fun t263 => (if t263 = true then (bodkinlaw02_IntsDivides.l0 k a0 a1 8) else (some false))
theorem bodkinlaw02_IntsDivides.mono_l : ∀ k, (∀ y0 y1 y2, LeO (bodkinlaw02_IntsDivides.l0 k y0 y1 y2) (bodkinlaw02_IntsDivides.l0 (k + 1) y0 y1 y2)) ∧ (∀ y0 y1 y2 y3 y4 y5, LeO (bodkinlaw02_IntsDivides.l1 k y0 y1 y2 y3 y4 y5) (bodkinlaw02_IntsDivides.l1 (k + 1) y0 y1 y2 y3 y4 y5)) ∧ (∀ y0 y1 y2 y3 y4 y5 y6, LeO (bodkinlaw02_IntsDivides.j2 k y0 y1 y2 y3 y4 y5 y6) (bodkinlaw02_IntsDivides.j2 (k + 1) y0 y1 y2 y3 y4 y5 y6)) ∧ (∀ y0 y1 y2 y3 y4 y5 y6 y7 y8 y9, LeO (bodkinlaw02_IntsDivides.j3 k y0 y1 y2 y3 y4 y5 y6 y7 y8 y9) (bodkinlaw02_IntsDivides.j3 (k + 1) y0 y1 y2 y3 y4 y5 y6 y7 y8 y9)) ∧ (∀ y0 y1 y2 y3 y4 y5 y6, LeO (bodkinlaw02_IntsDivides.j4 k y0 y1 y2 y3 y4 y5 y6) (bodkinlaw02_IntsDivides.j4 (k + 1) y0 y1 y2 y3 y4 y5 y6)) := by
  intro k
  induction k with
  | zero => exact ⟨fun _ _ _ r h => by simp [bodkinlaw02_IntsDivides.l0] at h, fun _ _ _ _ _ _ r h => by simp [bodkinlaw02_IntsDivides.l1] at h, fun _ _ _ _ _ _ _ r h => by simp [bodkinlaw02_IntsDivides.j2] at h, fun _ _ _ _ _ _ _ _ _ _ r h => by simp [bodkinlaw02_IntsDivides.j3] at h, fun _ _ _ _ _ _ _ r h => by simp [bodkinlaw02_IntsDivides.j4] at h⟩
  | succ k ih =>
    obtain ⟨ih0, ih1, ih2, ih3, ih4⟩ := ih
    refine ⟨?_, ?_, ?_, ?_, ?_⟩
    · intro y0 y1 y2
      unfold bodkinlaw02_IntsDivides.l0
      repeat' first
      | (with_reducible exact ih0 _ _ _)
      | (with_reducible exact ih1 _ _ _ _ _ _)
      | (with_reducible exact ih2 _ _ _ _ _ _ _)
      | (with_reducible exact ih3 _ _ _ _ _ _ _ _ _ _)
      | (with_reducible exact ih4 _ _ _ _ _ _ _)
      | (with_reducible exact bodkinlaw02_awake.mono _)
      | (with_reducible exact bodkinref02_Cut.mono _ _ _)
      | (with_reducible exact ints_Bin.mono _ _ _ _ _)
      | (with_reducible exact ints_Un.mono _ _ _ _)
      | (with_reducible exact LeO.refl _)
      | (with_reducible exact LeO.none _)
      | (with_reducible refine LeO.ite ?_ ?_)
      | (with_reducible refine LeO.bind ?_ (fun _ => ?_))
      | exact ih0 _ _ _
      | exact ih1 _ _ _ _ _ _
      | exact ih2 _ _ _ _ _ _ _
      | exact ih3 _ _ _ _ _ _ _ _ _ _
      | exact ih4 _ _ _ _ _ _ _
      | exact bodkinlaw02_awake.mono _
      | exact bodkinref02_Cut.mono _ _ _
      | exact ints_Bin.mono _ _ _ _ _
      | exact ints_Un.mono _ _ _ _
      | exact LeO.none _
      | refine LeO.ite ?_ ?_
      | refine LeO.bind ?_ (fun _ => ?_)
    · intro y0 y1 y2 y3 y4 y5
      unfold bodkinlaw02_IntsDivides.l1
      repeat' first
      | (with_reducible exact ih0 _ _ _)
      | (with_reducible exact ih1 _ _ _ _ _ _)
      | (with_reducible exact ih2 _ _ _ _ _ _ _)
      | (with_reducible exact ih3 _ _ _ _ _ _ _ _ _ _)
      | (with_reducible exact ih4 _ _ _ _ _ _ _)
      | (with_reducible exact bodkinlaw02_awake.mono _)
      | (with_reducible exact bodkinref02_Cut.mono _ _ _)
      | (with_reducible exact ints_Bin.mono _ _ _ _ _)
      | (with_reducible exact ints_Un.mono _ _ _ _)
      | (with_reducible exact LeO.refl _)
      | (with_reducible exact LeO.none _)
      | (with_reducible refine LeO.ite ?_ ?_)
      | (with_reducible refine LeO.bind ?_ (fun _ => ?_))
      | exact ih0 _ _ _
      | exact ih1 _ _ _ _ _ _
      | exact ih2 _ _ _ _ _ _ _
      | exact ih3 _ _ _ _ _ _ _ _ _ _
      | exact ih4 _ _ _ _ _ _ _
      | exact bodkinlaw02_awake.mono _
      | exact bodkinref02_Cut.mono _ _ _
      | exact ints_Bin.mono _ _ _ _ _
      | exact ints_Un.mono _ _ _ _
      | exact LeO.none _
      | refine LeO.ite ?_ ?_
      | refine LeO.bind ?_ (fun _ => ?_)
    · intro y0 y1 y2 y3 y4 y5 y6
      unfold bodkinlaw02_IntsDivides.j2
      repeat' first
      | (with_reducible exact ih0 _ _ _)
      | (with_reducible exact ih1 _ _ _ _ _ _)
      | (with_reducible exact ih2 _ _ _ _ _ _ _)
      | (with_reducible exact ih3 _ _ _ _ _ _ _ _ _ _)
      | (with_reducible exact ih4 _ _ _ _ _ _ _)
      | (with_reducible exact bodkinlaw02_awake.mono _)
      | (with_reducible exact bodkinref02_Cut.mono _ _ _)
      | (with_reducible exact ints_Bin.mono _ _ _ _ _)
      | (with_reducible exact ints_Un.mono _ _ _ _)
      | (with_reducible exact LeO.refl _)
      | (with_reducible exact LeO.none _)
      | (with_reducible refine LeO.ite ?_ ?_)
      | (with_reducible refine LeO.bind ?_ (fun _ => ?_))
      | exact ih0 _ _ _
      | exact ih1 _ _ _ _ _ _
      | exact ih2 _ _ _ _ _ _ _
      | exact ih3 _ _ _ _ _ _ _ _ _ _
      | exact ih4 _ _ _ _ _ _ _
      | exact bodkinlaw02_awake.mono _
      | exact bodkinref02_Cut.mono _ _ _
      | exact ints_Bin.mono _ _ _ _ _
      | exact ints_Un.mono _ _ _ _
      | exact LeO.none _
      | refine LeO.ite ?_ ?_
      | refine LeO.bind ?_ (fun _ => ?_)
    · intro y0 y1 y2 y3 y4 y5 y6 y7 y8 y9
      unfold bodkinlaw02_IntsDivides.j3
      repeat' first
      | (with_reducible exact ih0 _ _ _)
      | (with_reducible exact ih1 _ _ _ _ _ _)
      | (with_reducible exact ih2 _ _ _ _ _ _ _)
      | (with_reducible exact ih3 _ _ _ _ _ _ _ _ _ _)
      | (with_reducible exact ih4 _ _ _ _ _ _ _)
      | (with_reducible exact bodkinlaw02_awake.mono _)
      | (with_reducible exact bodkinref02_Cut.mono _ _ _)
      | (with_reducible exact ints_Bin.mono _ _ _ _ _)
      | (with_reducible exact ints_Un.mono _ _ _ _)
      | (with_reducible exact LeO.refl _)
      | (with_reducible exact LeO.none _)
      | (with_reducible refine LeO.ite ?_ ?_)
      | (with_reducible refine LeO.bind ?_ (fun _ => ?_))
      | exact ih0 _ _ _
      | exact ih1 _ _ _ _ _ _
      | exact ih2 _ _ _ _ _ _ _
      | exact ih3 _ _ _ _ _ _ _ _ _ _
      | exact ih4 _ _ _ _ _ _ _
      | exact bodkinlaw02_awake.mono _
      | exact bodkinref02_Cut.mono _ _ _
      | exact ints_Bin.mono _ _ _ _ _
      | exact ints_Un.mono _ _ _ _
      | exact LeO.none _
      | refine LeO.ite ?_ ?_
      | refine LeO.bind ?_ (fun _ => ?_)
    · intro y0 y1 y2 y3 y4 y5 y6
      unfold bodkinlaw02_IntsDivides.j4
      repeat' first
      | (with_reducible exact ih0 _ _ _)
      | (with_reducible exact ih1 _ _ _ _ _ _)
      | (with_reducible exact ih2 _ _ _ _ _ _ _)
      | (with_reducible exact ih3 _ _ _ _ _ _ _ _ _ _)
      | (with_reducible exact ih4 _ _ _ _ _ _ _)
      | (with_reducible exact bodkinlaw02_awake.mono _)
      | (with_reducible exact bodkinref02_Cut.mono _ _ _)
      | (with_reducible exact ints_Bin.mono _ _ _ _ _)
      | (with_reducible exact ints_Un.mono _ _ _ _)
      | (with_reducible exact LeO.refl _)
      | (with_reducible exact LeO.none _)
      | (with_reducible refine LeO.ite ?_ ?_)
      | (with_reducible refine LeO.bind ?_ (fun _ => ?_))
      | exact ih0 _ _ _
      | exact ih1 _ _ _ _ _ _
      | exact ih2 _ _ _ _ _ _ _
      | exact ih3 _ _ _ _ _ _ _ _ _ _
      | exact ih4 _ _ _ _ _ _ _
      | exact bodkinlaw02_awake.mono _
      | exact bodkinref02_Cut.mono _ _ _
      | exact ints_Bin.mono _ _ _ _ _
      | exact ints_Un.mono _ _ _ _
      | exact LeO.none _
      | refine LeO.ite ?_ ?_
      | refine LeO.bind ?_ (fun _ => ?_)
theorem bodkinlaw02_IntsDivides.mono : ∀ a0 a1 k, LeO (bodkinlaw02_IntsDivides.f k a0 a1) (bodkinlaw02_IntsDivides.f (k + 1) a0 a1) := by
  intro a0 a1 k
  obtain ⟨ih0, ih1, ih2, ih3, ih4⟩ := bodkinlaw02_IntsDivides.mono_l k
  unfold bodkinlaw02_IntsDivides.f
  repeat' first
      | (with_reducible exact ih0 _ _ _)
      | (with_reducible exact ih1 _ _ _ _ _ _)
      | (with_reducible exact ih2 _ _ _ _ _ _ _)
      | (with_reducible exact ih3 _ _ _ _ _ _ _ _ _ _)
      | (with_reducible exact ih4 _ _ _ _ _ _ _)
      | (with_reducible exact bodkinlaw02_awake.mono _)
      | (with_reducible exact bodkinref02_Cut.mono _ _ _)
      | (with_reducible exact ints_Bin.mono _ _ _ _ _)
      | (with_reducible exact ints_Un.mono _ _ _ _)
      | (with_reducible exact LeO.refl _)
      | (with_reducible exact LeO.none _)
      | (with_reducible refine LeO.ite ?_ ?_)
      | (with_reducible refine LeO.bind ?_ (fun _ => ?_))
      | exact ih0 _ _ _
      | exact ih1 _ _ _ _ _ _
      | exact ih2 _ _ _ _ _ _ _
      | exact ih3 _ _ _ _ _ _ _ _ _ _
      | exact ih4 _ _ _ _ _ _ _
      | exact bodkinlaw02_awake.mono _
      | exact bodkinref02_Cut.mono _ _ _
      | exact ints_Bin.mono _ _ _ _ _
      | exact ints_Un.mono _ _ _ _
      | exact LeO.none _
      | refine LeO.ite ?_ ?_
      | refine LeO.bind ?_ (fun _ => ?_)
set_option maxHeartbeats 8000000 in
set_option maxRecDepth 100000 in
theorem bodkinlaw02_IntsDivides.calls (k : Nat) (a0 : Int) (a1 : Int) (r : Bool) (w : World) (h : bodkinlaw02_IntsDivides.f k a0 a1 = some r) :
    Calls Tryd.prog 6 #[.int .u64 a0, .int .u64 a1] w fun e w' => e = .returned (.bool r) ∧ Below w.heap.size w w' := by
  have HB := Aside0.mk (Below.refl w.heap.size w)
  have H : ((bodkinlaw02_awake.f k).bind fun t263 => (if t263 = true then (bodkinlaw02_IntsDivides.l0 k a0 a1 8) else (some false))) = some r := h
  clear h
  replace H := Option.bind_eq_some_iff.mp H
  obtain ⟨t263, A30, H⟩ := H
  replace H : (if t263 = true then (bodkinlaw02_IntsDivides.l0 k a0 a1 8) else (some false)) = some r := H
  have A3 := Aside0.mk A30
  clear A30
  by_cases c4 : t263 = true
  · subst c4
    have H1 : (bodkinlaw02_IntsDivides.l0 k a0 a1 8) = some r := by rw [if_pos rfl] at H; exact H
    clear H
    have H := H1
    clear H1
    have H' := Aside0.mk H
    clear H
    go_enter Tryd.func6, Tryd.ntmps6
    go_wp2_with (first | ((with_reducible refine gate_callee (f := 15) rfl ?_); refine goesL_ (some 23) rfl rfl Tryd.func15 (by kernel_rfl) rfl #[] rfl (by (try simp only [List.map_toArray, List.map_cons, List.map_nil]); first | done | rfl | (simp only [List.length_drop, List.length_take]; rfl)) ?_; (with_reducible refine (bodkinlaw02_awake.calls k  true _ A3.out).mono ?_); rintro e w5 ⟨rfl, hb⟩; refine ⟨_, rfl, ?_⟩; have n0_ := Aside0.mk (below_step (by repeat (first | (with_reducible first | exact HB.out | apply below_alloc | apply pw_below_drewN | apply below_drew1) | exact HB.out)) hb); clear HB; have HB := n0_; clear n0_; (try clear hb); (try clear hb2); (try clear hk); (try clear hi)))
    go_loopg [6] k (fun kq v6 w' => ∃ (x6_1 : Int), v6 = .int .i64 x6_1 ∧ Aside0 (bodkinlaw02_IntsDivides.l0 kq a0 a1 x6_1 = some r) ∧ Aside0 (kq ≤ k) ∧ Aside0 (Below w.heap.size w w'))
    case atStart => exact ⟨(8), (by first | rfl | (simp; done) | (simp [*]; done)), H', ⟨Nat.le_refl _⟩, ⟨by repeat (first | (with_reducible first | exact HB.out | apply below_alloc | apply pw_below_drewN | apply below_drew1) | exact HB.out)⟩⟩
    case round =>
      clear H'
      try clear c1
      try clear p2
      try clear c4
      obtain ⟨x6_1, rfl, HA, HK1, HB⟩ := hrel
      cases gk with
      | zero => exact absurd HA.out (by simp [bodkinlaw02_IntsDivides.l0])
      | succ k1 =>
        have H := HA.out
        clear HA
        simp only [bodkinlaw02_IntsDivides.l0] at H
        by_cases c6 : x6_1 ≤ 64
        · rw [if_pos c6] at H
          have c6b0 : decide (x6_1 ≤ 64) = true := decide_eq_true c6
          clear c6
          replace H := Option.bind_eq_some_iff.mp H
          obtain ⟨t264, A70, H⟩ := H
          replace H : ((bodkinref02_Cut.f k1 x6_1 a1).bind fun t265 => (bodkinlaw02_IntsDivides.l1 k1 a0 a1 x6_1 t264 t265 0)) = some r := H
          have A7 := Aside0.mk A70
          clear A70
          replace H := Option.bind_eq_some_iff.mp H
          obtain ⟨t265, A80, H⟩ := H
          replace H : (bodkinlaw02_IntsDivides.l1 k1 a0 a1 x6_1 t264 t265 0) = some r := H
          have A8 := Aside0.mk A80
          clear A80
          have H' := Aside0.mk H
          clear H
          go_wp2_with (first | ((with_reducible refine gate_callee (f := 24) rfl ?_); refine goesL_ (some 32) rfl rfl Tryd.func24 (by kernel_rfl) rfl #[.int .i64 x6_1, .int .u64 a0] rfl (by (try simp only [List.map_toArray, List.map_cons, List.map_nil]); first | done | rfl | (simp only [List.length_drop, List.length_take]; rfl)) ?_; (with_reducible refine (bodkinref02_Cut.calls k1 x6_1 a0 t264 _ A7.out).mono ?_); rintro e w' ⟨rfl, ⟨nd, rfl⟩⟩; refine ⟨_, rfl, ?_⟩) | ((with_reducible refine gate_callee (f := 24) rfl ?_); refine goesL_ (some 35) rfl rfl Tryd.func24 (by kernel_rfl) rfl #[.int .i64 x6_1, .int .u64 a1] rfl (by (try simp only [List.map_toArray, List.map_cons, List.map_nil]); first | done | rfl | (simp only [List.length_drop, List.length_take]; rfl)) ?_; (with_reducible refine (bodkinref02_Cut.calls k1 x6_1 a1 t265 _ A8.out).mono ?_); rintro e w' ⟨rfl, ⟨nd, rfl⟩⟩; refine ⟨_, rfl, ?_⟩))
          go_loopg [9] k1 (fun kq v9 w' => ∃ (x9_2 : Int), v9 = .int .i64 x9_2 ∧ Aside0 (bodkinlaw02_IntsDivides.l1 kq a0 a1 x6_1 t264 t265 x9_2 = some r) ∧ Aside0 (kq ≤ k1) ∧ Aside0 (Below w.heap.size w w'))
          case atStart => exact ⟨(0), (by first | rfl | (simp; done) | (simp [*]; done)), H', ⟨Nat.le_refl _⟩, ⟨by repeat (first | (with_reducible first | exact HB.out | apply below_alloc | apply pw_below_drewN | apply below_drew1) | exact HB.out)⟩⟩
          case round =>
            clear H'
            try clear c1
            try clear c2
            try clear p2
            try clear c4
            try clear c6
            try clear c6b0
            try clear p2
            obtain ⟨x9_2, rfl, HA, HK2, HB⟩ := hrel
            cases gk with
            | zero => exact absurd HA.out (by simp [bodkinlaw02_IntsDivides.l1])
            | succ k2 =>
              have H := HA.out
              clear HA
              simp only [bodkinlaw02_IntsDivides.l1] at H
              by_cases c9 : x9_2 < 2
              · rw [if_pos c9] at H
                have c9b0 : decide (x9_2 < 2) = true := decide_eq_true c9
                clear c9
                replace H := Option.bind_eq_some_iff.mp H
                obtain ⟨⟨t266, t267⟩, A100, H⟩ := H
                replace H : ((ints_Bin.f k2 x6_1 (wrap64 (7 - x9_2)) a0 a1).bind fun bt268 => (if t265 = 0 then (if t267 = 41 then (if bt268.2 = 41 then (bodkinlaw02_IntsDivides.l1 k2 a0 a1 x6_1 t264 t265 (wrap64 (x9_2 + 1))) else (some false)) else (some false)) else (if t267 = 42 then (if x9_2 = 0 then (bodkinlaw02_IntsDivides.j2 k2 a0 a1 x6_1 t264 t265 x9_2 true) else (if bt268.2 = 0 then (if bt268.1 = 0 then ((ints_Signed.f x6_1 a1).bind fun t270 => (bodkinlaw02_IntsDivides.j2 k2 a0 a1 x6_1 t264 t265 x9_2 (t270 != (-1)))) else (bodkinlaw02_IntsDivides.j2 k2 a0 a1 x6_1 t264 t265 x9_2 true)) else (bodkinlaw02_IntsDivides.j2 k2 a0 a1 x6_1 t264 t265 x9_2 true))) else ((ints_Bin.f k2 x6_1 3 t266 a1).bind fun bt271 => ((ints_Bin.f k2 x6_1 1 bt271.1 bt268.1).bind fun bt273 => (if x9_2 = 1 then ((ints_Un.f k2 x6_1 7 bt268.1).bind fun bt275 => ((ints_Un.f k2 x6_1 7 a1).bind fun bt277 => (bodkinlaw02_IntsDivides.j3 k2 a0 a1 x6_1 t264 t265 x9_2 t267 bt268.2 bt273.1 (decide (bt275.1 < bt277.1))))) else (bodkinlaw02_IntsDivides.j3 k2 a0 a1 x6_1 t264 t265 x9_2 t267 bt268.2 bt273.1 (decide (bt268.1 < t265))))))))) = some r := H
                have A10 := Aside0.mk A100
                clear A100
                replace H := Option.bind_eq_some_iff.mp H
                obtain ⟨⟨t268, t269⟩, A110, H⟩ := H
                replace H : (if t265 = 0 then (if t267 = 41 then (if t269 = 41 then (bodkinlaw02_IntsDivides.l1 k2 a0 a1 x6_1 t264 t265 (wrap64 (x9_2 + 1))) else (some false)) else (some false)) else (if t267 = 42 then (if x9_2 = 0 then (bodkinlaw02_IntsDivides.j2 k2 a0 a1 x6_1 t264 t265 x9_2 true) else (if t269 = 0 then (if t268 = 0 then ((ints_Signed.f x6_1 a1).bind fun t270 => (bodkinlaw02_IntsDivides.j2 k2 a0 a1 x6_1 t264 t265 x9_2 (t270 != (-1)))) else (bodkinlaw02_IntsDivides.j2 k2 a0 a1 x6_1 t264 t265 x9_2 true)) else (bodkinlaw02_IntsDivides.j2 k2 a0 a1 x6_1 t264 t265 x9_2 true))) else ((ints_Bin.f k2 x6_1 3 t266 a1).bind fun bt271 => ((ints_Bin.f k2 x6_1 1 bt271.1 t268).bind fun bt273 => (if x9_2 = 1 then ((ints_Un.f k2 x6_1 7 t268).bind fun bt275 => ((ints_Un.f k2 x6_1 7 a1).bind fun bt277 => (bodkinlaw02_IntsDivides.j3 k2 a0 a1 x6_1 t264 t265 x9_2 t267 t269 bt273.1 (decide (bt275.1 < bt277.1))))) else (bodkinlaw02_IntsDivides.j3 k2 a0 a1 x6_1 t264 t265 x9_2 t267 t269 bt273.1 (decide (t268 < t265)))))))) = some r := H
                have A11 := Aside0.mk A110
                clear A110
                by_cases c12 : t265 = 0
                · rw [if_pos c12] at H
                  have c12b0 : (t265 == 0) = true := beq_iff_eq.mpr c12
                  have c12b1 : (t265 != 0) = false := bne_eq_false_iff_eq.mpr c12
                  clear c12
                  by_cases c13 : t267 = 41
                  · rw [if_pos c13] at H
                    have c13b0 : (t267 == 41) = true := beq_iff_eq.mpr c13
                    have c13b1 : (t267 != 41) = false := bne_eq_false_iff_eq.mpr c13
                    clear c13
                    by_cases c14 : t269 = 41
                    · rw [if_pos c14] at H
                      have c14b0 : (t269 == 41) = true := beq_iff_eq.mpr c14
                      have c14b1 : (t269 != 41) = false := bne_eq_false_iff_eq.mpr c14
                      clear c14
                      have H' := Aside0.mk H
                      clear H
                      go_wp2_with (first | ((with_reducible refine gate_callee (f := 16) rfl ?_); refine goesL_ (some 46) rfl rfl Tryd.func16 (by kernel_rfl) rfl #[.int .i64 x6_1, .int .i64 (wrap64 (5 - x9_2)), .int .u64 a0, .int .u64 a1] rfl (by (try simp only [List.map_toArray, List.map_cons, List.map_nil]); first | done | rfl | (simp only [List.length_drop, List.length_take]; rfl)) ?_; (with_reducible refine (ints_Bin.calls k2 x6_1 (wrap64 (5 - x9_2)) a0 a1 t266 t267 _ A10.out).mono ?_); rintro e w15 ⟨rfl, hb⟩; refine ⟨_, rfl, ?_⟩; have n0_ := Aside0.mk (below_step (by repeat (first | (with_reducible first | exact HB.out | apply below_alloc | apply pw_below_drewN | apply below_drew1) | exact HB.out)) hb); clear HB; have HB := n0_; clear n0_; (try clear hb); (try clear hb2); (try clear hk); (try clear hi)) | ((with_reducible refine gate_callee (f := 16) rfl ?_); refine goesL_ (some 55) rfl rfl Tryd.func16 (by kernel_rfl) rfl #[.int .i64 x6_1, .int .i64 (wrap64 (7 - x9_2)), .int .u64 a0, .int .u64 a1] rfl (by (try simp only [List.map_toArray, List.map_cons, List.map_nil]); first | done | rfl | (simp only [List.length_drop, List.length_take]; rfl)) ?_; (with_reducible refine (ints_Bin.calls k2 x6_1 (wrap64 (7 - x9_2)) a0 a1 t268 t269 _ A11.out).mono ?_); rintro e w16 ⟨rfl, hb⟩; refine ⟨_, rfl, ?_⟩; have n0_ := Aside0.mk (below_step (by repeat (first | (with_reducible first | exact HB.out | apply below_alloc | apply pw_below_drewN | apply below_drew1) | exact HB.out)) hb); clear HB; have HB := n0_; clear n0_; (try clear hb); (try clear hb2); (try clear hk); (try clear hi)))
                      go_roundg k2
                      case measure => have := HK1.out; have := HK2.out; omega
                      case rel => exact ⟨(wrap64 (x9_2 + 1)), (by first | rfl | (simp; done) | (simp [*]; done)), H', ⟨by have := HK1.out; have := HK2.out; omega⟩, ⟨by repeat (first | (with_reducible first | exact HB.out | apply below_alloc | apply pw_below_drewN | apply below_drew1) | exact HB.out)⟩⟩
                    · rw [if_neg c14] at H
                      have c14b0 : (t269 == 41) = false := beq_eq_false_iff_ne.mpr c14
                      have c14b1 : (t269 != 41) = true := bne_iff_ne.mpr c14
                      obtain rfl := Option.some.inj H
                      go_wp2_with (first | ((with_reducible refine gate_callee (f := 16) rfl ?_); refine goesL_ (some 46) rfl rfl Tryd.func16 (by kernel_rfl) rfl #[.int .i64 x6_1, .int .i64 (wrap64 (5 - x9_2)), .int .u64 a0, .int .u64 a1] rfl (by (try simp only [List.map_toArray, List.map_cons, List.map_nil]); first | done | rfl | (simp only [List.length_drop, List.length_take]; rfl)) ?_; (with_reducible refine (ints_Bin.calls k2 x6_1 (wrap64 (5 - x9_2)) a0 a1 t266 t267 _ A10.out).mono ?_); rintro e w17 ⟨rfl, hb⟩; refine ⟨_, rfl, ?_⟩; have n0_ := Aside0.mk (below_step (by repeat (first | (with_reducible first | exact HB.out | apply below_alloc | apply pw_below_drewN | apply below_drew1) | exact HB.out)) hb); clear HB; have HB := n0_; clear n0_; (try clear hb); (try clear hb2); (try clear hk); (try clear hi)) | ((with_reducible refine gate_callee (f := 16) rfl ?_); refine goesL_ (some 55) rfl rfl Tryd.func16 (by kernel_rfl) rfl #[.int .i64 x6_1, .int .i64 (wrap64 (7 - x9_2)), .int .u64 a0, .int .u64 a1] rfl (by (try simp only [List.map_toArray, List.map_cons, List.map_nil]); first | done | rfl | (simp only [List.length_drop, List.length_take]; rfl)) ?_; (with_reducible refine (ints_Bin.calls k2 x6_1 (wrap64 (7 - x9_2)) a0 a1 t268 t269 _ A11.out).mono ?_); rintro e w18 ⟨rfl, hb⟩; refine ⟨_, rfl, ?_⟩; have n0_ := Aside0.mk (below_step (by repeat (first | (with_reducible first | exact HB.out | apply below_alloc | apply pw_below_drewN | apply below_drew1) | exact HB.out)) hb); clear HB; have HB := n0_; clear n0_; (try clear hb); (try clear hb2); (try clear hk); (try clear hi)))
                      go_ret
                      exact ⟨by first | rfl | (simp [errW_none, errW_some] <;> rfl) | (simp [*, errW_none, errW_some] <;> rfl), by repeat (first | (with_reducible first | exact HB.out | apply below_alloc | apply pw_below_drewN | apply below_drew1) | exact HB.out)⟩
                  · rw [if_neg c13] at H
                    have c13b0 : (t267 == 41) = false := beq_eq_false_iff_ne.mpr c13
                    have c13b1 : (t267 != 41) = true := bne_iff_ne.mpr c13
                    obtain rfl := Option.some.inj H
                    go_wp2_with (first | ((with_reducible refine gate_callee (f := 16) rfl ?_); refine goesL_ (some 46) rfl rfl Tryd.func16 (by kernel_rfl) rfl #[.int .i64 x6_1, .int .i64 (wrap64 (5 - x9_2)), .int .u64 a0, .int .u64 a1] rfl (by (try simp only [List.map_toArray, List.map_cons, List.map_nil]); first | done | rfl | (simp only [List.length_drop, List.length_take]; rfl)) ?_; (with_reducible refine (ints_Bin.calls k2 x6_1 (wrap64 (5 - x9_2)) a0 a1 t266 t267 _ A10.out).mono ?_); rintro e w19 ⟨rfl, hb⟩; refine ⟨_, rfl, ?_⟩; have n0_ := Aside0.mk (below_step (by repeat (first | (with_reducible first | exact HB.out | apply below_alloc | apply pw_below_drewN | apply below_drew1) | exact HB.out)) hb); clear HB; have HB := n0_; clear n0_; (try clear hb); (try clear hb2); (try clear hk); (try clear hi)) | ((with_reducible refine gate_callee (f := 16) rfl ?_); refine goesL_ (some 55) rfl rfl Tryd.func16 (by kernel_rfl) rfl #[.int .i64 x6_1, .int .i64 (wrap64 (7 - x9_2)), .int .u64 a0, .int .u64 a1] rfl (by (try simp only [List.map_toArray, List.map_cons, List.map_nil]); first | done | rfl | (simp only [List.length_drop, List.length_take]; rfl)) ?_; (with_reducible refine (ints_Bin.calls k2 x6_1 (wrap64 (7 - x9_2)) a0 a1 t268 t269 _ A11.out).mono ?_); rintro e w20 ⟨rfl, hb⟩; refine ⟨_, rfl, ?_⟩; have n0_ := Aside0.mk (below_step (by repeat (first | (with_reducible first | exact HB.out | apply below_alloc | apply pw_below_drewN | apply below_drew1) | exact HB.out)) hb); clear HB; have HB := n0_; clear n0_; (try clear hb); (try clear hb2); (try clear hk); (try clear hi)))
                    go_ret
                    exact ⟨by first | rfl | (simp [errW_none, errW_some] <;> rfl) | (simp [*, errW_none, errW_some] <;> rfl), by repeat (first | (with_reducible first | exact HB.out | apply below_alloc | apply pw_below_drewN | apply below_drew1) | exact HB.out)⟩
                · rw [if_neg c12] at H
                  have c12b0 : (t265 == 0) = false := beq_eq_false_iff_ne.mpr c12
                  have c12b1 : (t265 != 0) = true := bne_iff_ne.mpr c12
                  by_cases c21 : t267 = 42
                  · rw [if_pos c21] at H
                    have c21b0 : (t267 == 42) = true := beq_iff_eq.mpr c21
                    have c21b1 : (t267 != 42) = false := bne_eq_false_iff_eq.mpr c21
                    clear c21
                    have HC22 := Aside0.mk H
                    clear H
                    go_upto_region 18 with (first | ((with_reducible refine gate_callee (f := 16) rfl ?_); refine goesL_ (some 46) rfl rfl Tryd.func16 (by kernel_rfl) rfl #[.int .i64 x6_1, .int .i64 (wrap64 (5 - x9_2)), .int .u64 a0, .int .u64 a1] rfl (by (try simp only [List.map_toArray, List.map_cons, List.map_nil]); first | done | rfl | (simp only [List.length_drop, List.length_take]; rfl)) ?_; (with_reducible refine (ints_Bin.calls k2 x6_1 (wrap64 (5 - x9_2)) a0 a1 t266 t267 _ A10.out).mono ?_); rintro e w23 ⟨rfl, hb⟩; refine ⟨_, rfl, ?_⟩; have n0_ := Aside0.mk (below_step (by repeat (first | (with_reducible first | exact HB.out | apply below_alloc | apply pw_below_drewN | apply below_drew1) | exact HB.out)) hb); clear HB; have HB := n0_; clear n0_; (try clear hb); (try clear hb2); (try clear hk); (try clear hi)) | ((with_reducible refine gate_callee (f := 16) rfl ?_); refine goesL_ (some 55) rfl rfl Tryd.func16 (by kernel_rfl) rfl #[.int .i64 x6_1, .int .i64 (wrap64 (7 - x9_2)), .int .u64 a0, .int .u64 a1] rfl (by (try simp only [List.map_toArray, List.map_cons, List.map_nil]); first | done | rfl | (simp only [List.length_drop, List.length_take]; rfl)) ?_; (with_reducible refine (ints_Bin.calls k2 x6_1 (wrap64 (7 - x9_2)) a0 a1 t268 t269 _ A11.out).mono ?_); rintro e w24 ⟨rfl, hb⟩; refine ⟨_, rfl, ?_⟩; have n0_ := Aside0.mk (below_step (by repeat (first | (with_reducible first | exact HB.out | apply below_alloc | apply pw_below_drewN | apply below_drew1) | exact HB.out)) hb); clear HB; have HB := n0_; clear n0_; (try clear hb); (try clear hb2); (try clear hk); (try clear hi)))
                    (try simp only [Act.put, List.setIfInBounds_toArray, List.set_cons_zero, List.set_cons_succ])
                    go_cut [83] (fun v83 wc => ∃ (kq : Nat) (x83_21 : Bool), v83 = .bool x83_21 ∧ Aside0 (bodkinlaw02_IntsDivides.j2 kq a0 a1 x6_1 t264 t265 x9_2 x83_21 = some r) ∧ Aside0 (kq ≤ k2) ∧ Aside0 (Below w.heap.size w wc))
                    case first =>
                      have H := HC22.out
                      clear HC22
                      by_cases c25 : x9_2 = 0
                      · rw [if_pos c25] at H
                        have c25b0 : (x9_2 == 0) = true := beq_iff_eq.mpr c25
                        have c25b1 : (x9_2 != 0) = false := bne_eq_false_iff_eq.mpr c25
                        clear c25
                        (first | rw [c25b0] | (simp only [i64_w, i32_w]; rw [c25b0]) | skip)
                        have H' := Aside0.mk H
                        clear H
                        go_wp2
                        go_meet
                        case rel => exact ⟨_, (true), (by first | rfl | (simp; done) | (simp [*]; done)), H', ⟨by have := HK1.out; have := HK2.out; first | omega | exact Nat.le_refl _⟩, ⟨by repeat (first | (with_reducible first | exact HB.out | apply below_alloc | apply pw_below_drewN | apply below_drew1) | exact HB.out)⟩⟩
                      · rw [if_neg c25] at H
                        have c25b0 : (x9_2 == 0) = false := beq_eq_false_iff_ne.mpr c25
                        have c25b1 : (x9_2 != 0) = true := bne_iff_ne.mpr c25
                        (first | rw [c25b0] | (simp only [i64_w, i32_w]; rw [c25b0]) | skip)
                        by_cases c26 : t269 = 0
                        · rw [if_pos c26] at H
                          have c26b0 : (t269 == 0) = true := beq_iff_eq.mpr c26
                          have c26b1 : (t269 != 0) = false := bne_eq_false_iff_eq.mpr c26
                          clear c26
                          by_cases c27 : t268 = 0
                          · rw [if_pos c27] at H
                            have c27b0 : (t268 == 0) = true := beq_iff_eq.mpr c27
                            have c27b1 : (t268 != 0) = false := bne_eq_false_iff_eq.mpr c27
                            clear c27
                            replace H := Option.bind_eq_some_iff.mp H
                            obtain ⟨t270, A280, H⟩ := H
                            replace H : (bodkinlaw02_IntsDivides.j2 k2 a0 a1 x6_1 t264 t265 x9_2 (t270 != (-1))) = some r := H
                            have A28 := Aside0.mk A280
                            clear A280
                            have H' := Aside0.mk H
                            clear H
                            go_wp2_with (first | (go_at_call 22; (with_reducible refine (ints_Signed.calls x6_1 a1 t270 _ A28.out).mono ?_); rintro e w' ⟨rfl, ⟨nd, rfl⟩⟩))
                            go_meet
                            case rel => exact ⟨_, ((t270 != (-1))), (by first | rfl | (simp; done) | (simp [*]; done)), H', ⟨by have := HK1.out; have := HK2.out; first | omega | exact Nat.le_refl _⟩, ⟨by repeat (first | (with_reducible first | exact HB.out | apply below_alloc | apply pw_below_drewN | apply below_drew1) | exact HB.out)⟩⟩
                          · rw [if_neg c27] at H
                            have c27b0 : (t268 == 0) = false := beq_eq_false_iff_ne.mpr c27
                            have c27b1 : (t268 != 0) = true := bne_iff_ne.mpr c27
                            have H' := Aside0.mk H
                            clear H
                            go_wp2
                            go_meet
                            case rel => exact ⟨_, (true), (by first | rfl | (simp; done) | (simp [*]; done)), H', ⟨by have := HK1.out; have := HK2.out; first | omega | exact Nat.le_refl _⟩, ⟨by repeat (first | (with_reducible first | exact HB.out | apply below_alloc | apply pw_below_drewN | apply below_drew1) | exact HB.out)⟩⟩
                        · rw [if_neg c26] at H
                          have c26b0 : (t269 == 0) = false := beq_eq_false_iff_ne.mpr c26
                          have c26b1 : (t269 != 0) = true := bne_iff_ne.mpr c26
                          have H' := Aside0.mk H
                          clear H
                          go_wp2
                          go_meet
                          case rel => exact ⟨_, (true), (by first | rfl | (simp; done) | (simp [*]; done)), H', ⟨by have := HK1.out; have := HK2.out; first | omega | exact Nat.le_refl _⟩, ⟨by repeat (first | (with_reducible first | exact HB.out | apply below_alloc | apply pw_below_drewN | apply below_drew1) | exact HB.out)⟩⟩
                    case rest =>
                      clear HC22
                      try clear c1
                      try clear c2
                      try clear p2
                      try clear c4
                      try clear c6
                      try clear c6b0
                      try clear p6
                      try clear c9
                      try clear c9b0
                      try clear c12
                      try clear c12b0
                      try clear c12b1
                      try clear c13
                      try clear c13b0
                      try clear c13b1
                      try clear c14
                      try clear c14b0
                      try clear c14b1
                      try clear c15
                      try clear c16
                      try clear c21
                      try clear c21b0
                      try clear c21b1
                      try clear c24
                      try clear c25
                      try clear c25b0
                      try clear c25b1
                      try clear c26
                      try clear c26b0
                      try clear c26b1
                      try clear c27
                      try clear c27b0
                      try clear c27b1
                      try clear p2
                      obtain ⟨kq, x83_21, rfl, HA, HJ21, HB⟩ := hcut
                      cases kq with
                      | zero => exact absurd HA.out (by simp [bodkinlaw02_IntsDivides.j2])
                      | succ kj21 =>
                        have H := HA.out
                        clear HA
                        simp only [bodkinlaw02_IntsDivides.j2] at H
                        by_cases c29 : x83_21 = true
                        · subst c29
                          have H1 : (some false) = some r := by rw [if_pos rfl] at H; exact H
                          clear H
                          have H := H1
                          clear H1
                          obtain rfl := Option.some.inj H
                          go_wp2
                          go_ret
                          exact ⟨by first | rfl | (simp [errW_none, errW_some] <;> rfl) | (simp [*, errW_none, errW_some] <;> rfl), by repeat (first | (with_reducible first | exact HB.out | apply below_alloc | apply pw_below_drewN | apply below_drew1) | exact HB.out)⟩
                        · replace c29 := Bool.eq_false_iff.mpr c29
                          subst c29
                          have H1 : (bodkinlaw02_IntsDivides.l1 kj21 a0 a1 x6_1 t264 t265 (wrap64 (x9_2 + 1))) = some r := by rw [if_neg (show ¬ (false = true) by decide)] at H; exact H
                          clear H
                          have H := H1
                          clear H1
                          have H' := Aside0.mk H
                          clear H
                          go_wp2
                          go_roundg kj21
                          case measure => have := HK1.out; have := HK2.out; have := HJ21.out; omega
                          case rel => exact ⟨(wrap64 (x9_2 + 1)), (by first | rfl | (simp; done) | (simp [*]; done)), H', ⟨by have := HK1.out; have := HK2.out; have := HJ21.out; omega⟩, ⟨by repeat (first | (with_reducible first | exact HB.out | apply below_alloc | apply pw_below_drewN | apply below_drew1) | exact HB.out)⟩⟩
                  · rw [if_neg c21] at H
                    have c21b0 : (t267 == 42) = false := beq_eq_false_iff_ne.mpr c21
                    have c21b1 : (t267 != 42) = true := bne_iff_ne.mpr c21
                    replace H := Option.bind_eq_some_iff.mp H
                    obtain ⟨⟨t271, t272⟩, A300, H⟩ := H
                    replace H : ((ints_Bin.f k2 x6_1 1 t271 t268).bind fun bt273 => (if x9_2 = 1 then ((ints_Un.f k2 x6_1 7 t268).bind fun bt275 => ((ints_Un.f k2 x6_1 7 a1).bind fun bt277 => (bodkinlaw02_IntsDivides.j3 k2 a0 a1 x6_1 t264 t265 x9_2 t267 t269 bt273.1 (decide (bt275.1 < bt277.1))))) else (bodkinlaw02_IntsDivides.j3 k2 a0 a1 x6_1 t264 t265 x9_2 t267 t269 bt273.1 (decide (t268 < t265))))) = some r := H
                    have A30 := Aside0.mk A300
                    clear A300
                    replace H := Option.bind_eq_some_iff.mp H
                    obtain ⟨⟨t273, t274⟩, A310, H⟩ := H
                    replace H : (if x9_2 = 1 then ((ints_Un.f k2 x6_1 7 t268).bind fun bt275 => ((ints_Un.f k2 x6_1 7 a1).bind fun bt277 => (bodkinlaw02_IntsDivides.j3 k2 a0 a1 x6_1 t264 t265 x9_2 t267 t269 t273 (decide (bt275.1 < bt277.1))))) else (bodkinlaw02_IntsDivides.j3 k2 a0 a1 x6_1 t264 t265 x9_2 t267 t269 t273 (decide (t268 < t265)))) = some r := H
                    have A31 := Aside0.mk A310
                    clear A310
                    have HC32 := Aside0.mk H
                    clear H
                    go_upto_if 102 with (first | ((with_reducible refine gate_callee (f := 16) rfl ?_); refine goesL_ (some 46) rfl rfl Tryd.func16 (by kernel_rfl) rfl #[.int .i64 x6_1, .int .i64 (wrap64 (5 - x9_2)), .int .u64 a0, .int .u64 a1] rfl (by (try simp only [List.map_toArray, List.map_cons, List.map_nil]); first | done | rfl | (simp only [List.length_drop, List.length_take]; rfl)) ?_; (with_reducible refine (ints_Bin.calls k2 x6_1 (wrap64 (5 - x9_2)) a0 a1 t266 t267 _ A10.out).mono ?_); rintro e w33 ⟨rfl, hb⟩; refine ⟨_, rfl, ?_⟩; have n0_ := Aside0.mk (below_step (by repeat (first | (with_reducible first | exact HB.out | apply below_alloc | apply pw_below_drewN | apply below_drew1) | exact HB.out)) hb); clear HB; have HB := n0_; clear n0_; (try clear hb); (try clear hb2); (try clear hk); (try clear hi)) | ((with_reducible refine gate_callee (f := 16) rfl ?_); refine goesL_ (some 55) rfl rfl Tryd.func16 (by kernel_rfl) rfl #[.int .i64 x6_1, .int .i64 (wrap64 (7 - x9_2)), .int .u64 a0, .int .u64 a1] rfl (by (try simp only [List.map_toArray, List.map_cons, List.map_nil]); first | done | rfl | (simp only [List.length_drop, List.length_take]; rfl)) ?_; (with_reducible refine (ints_Bin.calls k2 x6_1 (wrap64 (7 - x9_2)) a0 a1 t268 t269 _ A11.out).mono ?_); rintro e w34 ⟨rfl, hb⟩; refine ⟨_, rfl, ?_⟩; have n0_ := Aside0.mk (below_step (by repeat (first | (with_reducible first | exact HB.out | apply below_alloc | apply pw_below_drewN | apply below_drew1) | exact HB.out)) hb); clear HB; have HB := n0_; clear n0_; (try clear hb); (try clear hb2); (try clear hk); (try clear hi)) | ((with_reducible refine gate_callee (f := 16) rfl ?_); refine goesL_ (some 88) rfl rfl Tryd.func16 (by kernel_rfl) rfl #[.int .i64 x6_1, .int .i64 3, .int .u64 t266, .int .u64 a1] rfl (by (try simp only [List.map_toArray, List.map_cons, List.map_nil]); first | done | rfl | (simp only [List.length_drop, List.length_take]; rfl)) ?_; (with_reducible refine (ints_Bin.calls k2 x6_1 3 t266 a1 t271 t272 _ A30.out).mono ?_); rintro e w35 ⟨rfl, hb⟩; refine ⟨_, rfl, ?_⟩; have n0_ := Aside0.mk (below_step (by repeat (first | (with_reducible first | exact HB.out | apply below_alloc | apply pw_below_drewN | apply below_drew1) | exact HB.out)) hb); clear HB; have HB := n0_; clear n0_; (try clear hb); (try clear hb2); (try clear hk); (try clear hi)) | ((with_reducible refine gate_callee (f := 16) rfl ?_); refine goesL_ (some 95) rfl rfl Tryd.func16 (by kernel_rfl) rfl #[.int .i64 x6_1, .int .i64 1, .int .u64 t271, .int .u64 t268] rfl (by (try simp only [List.map_toArray, List.map_cons, List.map_nil]); first | done | rfl | (simp only [List.length_drop, List.length_take]; rfl)) ?_; (with_reducible refine (ints_Bin.calls k2 x6_1 1 t271 t268 t273 t274 _ A31.out).mono ?_); rintro e w36 ⟨rfl, hb⟩; refine ⟨_, rfl, ?_⟩; have n0_ := Aside0.mk (below_step (by repeat (first | (with_reducible first | exact HB.out | apply below_alloc | apply pw_below_drewN | apply below_drew1) | exact HB.out)) hb); clear HB; have HB := n0_; clear n0_; (try clear hb); (try clear hb2); (try clear hk); (try clear hi)))
                    (try simp only [Act.put, List.setIfInBounds_toArray, List.set_cons_zero, List.set_cons_succ])
                    go_cut [18] (fun v18 wc => ∃ (kq : Nat) (x18_31 : Bool), v18 = .bool x18_31 ∧ Aside0 (bodkinlaw02_IntsDivides.j3 kq a0 a1 x6_1 t264 t265 x9_2 t267 t269 t273 x18_31 = some r) ∧ Aside0 (kq ≤ k2) ∧ Aside0 (Below w.heap.size w wc))
                    case first =>
                      have H := HC32.out
                      clear HC32
                      by_cases c37 : x9_2 = 1
                      · rw [if_pos c37] at H
                        have c37b0 : (x9_2 == 1) = true := beq_iff_eq.mpr c37
                        have c37b1 : (x9_2 != 1) = false := bne_eq_false_iff_eq.mpr c37
                        clear c37
                        (first | rw [c37b0] | (simp only [i64_w, i32_w]; rw [c37b0]) | skip)
                        replace H := Option.bind_eq_some_iff.mp H
                        obtain ⟨⟨t275, t276⟩, A380, H⟩ := H
                        replace H : ((ints_Un.f k2 x6_1 7 a1).bind fun bt277 => (bodkinlaw02_IntsDivides.j3 k2 a0 a1 x6_1 t264 t265 x9_2 t267 t269 t273 (decide (t275 < bt277.1)))) = some r := H
                        have A38 := Aside0.mk A380
                        clear A380
                        replace H := Option.bind_eq_some_iff.mp H
                        obtain ⟨⟨t277, t278⟩, A390, H⟩ := H
                        replace H : (bodkinlaw02_IntsDivides.j3 k2 a0 a1 x6_1 t264 t265 x9_2 t267 t269 t273 (decide (t275 < t277))) = some r := H
                        have A39 := Aside0.mk A390
                        clear A390
                        have H' := Aside0.mk H
                        clear H
                        go_wp2_with (first | ((with_reducible refine gate_callee (f := 20) rfl ?_); refine goesL_ (some 106) rfl rfl Tryd.func20 (by kernel_rfl) rfl #[.int .i64 x6_1, .int .i64 7, .int .u64 t268] rfl (by (try simp only [List.map_toArray, List.map_cons, List.map_nil]); first | done | rfl | (simp only [List.length_drop, List.length_take]; rfl)) ?_; (with_reducible refine (ints_Un.calls k2 x6_1 7 t268 t275 t276 _ A38.out).mono ?_); rintro e w40 ⟨rfl, hb⟩; refine ⟨_, rfl, ?_⟩; have n0_ := Aside0.mk (below_step (by repeat (first | (with_reducible first | exact HB.out | apply below_alloc | apply pw_below_drewN | apply below_drew1) | exact HB.out)) hb); clear HB; have HB := n0_; clear n0_; (try clear hb); (try clear hb2); (try clear hk); (try clear hi)) | ((with_reducible refine gate_callee (f := 20) rfl ?_); refine goesL_ (some 112) rfl rfl Tryd.func20 (by kernel_rfl) rfl #[.int .i64 x6_1, .int .i64 7, .int .u64 a1] rfl (by (try simp only [List.map_toArray, List.map_cons, List.map_nil]); first | done | rfl | (simp only [List.length_drop, List.length_take]; rfl)) ?_; (with_reducible refine (ints_Un.calls k2 x6_1 7 a1 t277 t278 _ A39.out).mono ?_); rintro e w41 ⟨rfl, hb⟩; refine ⟨_, rfl, ?_⟩; have n0_ := Aside0.mk (below_step (by repeat (first | (with_reducible first | exact HB.out | apply below_alloc | apply pw_below_drewN | apply below_drew1) | exact HB.out)) hb); clear HB; have HB := n0_; clear n0_; (try clear hb); (try clear hb2); (try clear hk); (try clear hi)))
                        go_meet
                        case rel => exact ⟨_, (decide (t275 < t277)), (by first | rfl | (simp; done) | (simp [*]; done)), H', ⟨by have := HK1.out; have := HK2.out; first | omega | exact Nat.le_refl _⟩, ⟨by repeat (first | (with_reducible first | exact HB.out | apply below_alloc | apply pw_below_drewN | apply below_drew1) | exact HB.out)⟩⟩
                      · rw [if_neg c37] at H
                        have c37b0 : (x9_2 == 1) = false := beq_eq_false_iff_ne.mpr c37
                        have c37b1 : (x9_2 != 1) = true := bne_iff_ne.mpr c37
                        (first | rw [c37b0] | (simp only [i64_w, i32_w]; rw [c37b0]) | skip)
                        have H' := Aside0.mk H
                        clear H
                        go_wp2
                        go_meet
                        case rel => exact ⟨_, (decide (t268 < t265)), (by first | rfl | (simp; done) | (simp [*]; done)), H', ⟨by have := HK1.out; have := HK2.out; first | omega | exact Nat.le_refl _⟩, ⟨by repeat (first | (with_reducible first | exact HB.out | apply below_alloc | apply pw_below_drewN | apply below_drew1) | exact HB.out)⟩⟩
                    case rest =>
                      clear HC32
                      try clear c1
                      try clear c2
                      try clear p2
                      try clear c3
                      try clear c4
                      try clear c6
                      try clear c6b0
                      try clear p6
                      try clear c9
                      try clear c9b0
                      try clear c12
                      try clear c12b0
                      try clear c12b1
                      try clear c13
                      try clear c13b0
                      try clear c13b1
                      try clear c14
                      try clear c14b0
                      try clear c14b1
                      try clear c15
                      try clear c16
                      try clear c20
                      try clear c21
                      try clear c21b0
                      try clear c21b1
                      try clear c24
                      try clear c25
                      try clear c25b0
                      try clear c25b1
                      try clear c26
                      try clear c26b0
                      try clear c26b1
                      try clear c27
                      try clear c27b0
                      try clear c27b1
                      try clear c29
                      try clear c37
                      try clear c37b0
                      try clear c37b1
                      try clear p2
                      try clear p6
                      obtain ⟨kq, x18_31, rfl, HA, HJ31, HB⟩ := hcut
                      cases kq with
                      | zero => exact absurd HA.out (by simp [bodkinlaw02_IntsDivides.j3])
                      | succ kj31 =>
                        have H := HA.out
                        clear HA
                        simp only [bodkinlaw02_IntsDivides.j3] at H
                        have HC42 := Aside0.mk H
                        clear H
                        go_upto_region 27 with (fail)
                        go_cut [132] (fun v132 wc => ∃ (kq : Nat) (x132_41 : Bool), v132 = .bool x132_41 ∧ Aside0 (bodkinlaw02_IntsDivides.j4 kq a0 a1 x6_1 t264 t265 x9_2 x132_41 = some r) ∧ Aside0 (kq ≤ kj31) ∧ Aside0 (Below w.heap.size w wc))
                        case first =>
                          have H := HC42.out
                          clear HC42
                          by_cases c43 : t273 = t264
                          · rw [if_pos c43] at H
                            have c43b0 : (t273 == t264) = true := beq_iff_eq.mpr c43
                            have c43b1 : (t273 != t264) = false := bne_eq_false_iff_eq.mpr c43
                            clear c43
                            (first | rw [c43b0] | (simp only [i64_w, i32_w]; rw [c43b0]) | skip)
                            by_cases c44 : x18_31 = true
                            · subst c44
                              have H1 : (if t267 = 0 then (bodkinlaw02_IntsDivides.j4 kj31 a0 a1 x6_1 t264 t265 x9_2 (t269 != 0)) else (bodkinlaw02_IntsDivides.j4 kj31 a0 a1 x6_1 t264 t265 x9_2 true)) = some r := by rw [if_pos rfl] at H; exact H
                              clear H
                              have H := H1
                              clear H1
                              by_cases c45 : t267 = 0
                              · rw [if_pos c45] at H
                                have c45b0 : (t267 == 0) = true := beq_iff_eq.mpr c45
                                have c45b1 : (t267 != 0) = false := bne_eq_false_iff_eq.mpr c45
                                clear c45
                                have H' := Aside0.mk H
                                clear H
                                go_wp2
                                go_meet
                                case rel => exact ⟨_, ((t269 != 0)), (by first | rfl | (simp; done) | (simp [*]; done)), H', ⟨by have := HK1.out; have := HK2.out; have := HJ31.out; first | omega | exact Nat.le_refl _⟩, ⟨by repeat (first | (with_reducible first | exact HB.out | apply below_alloc | apply pw_below_drewN | apply below_drew1) | exact HB.out)⟩⟩
                              · rw [if_neg c45] at H
                                have c45b0 : (t267 == 0) = false := beq_eq_false_iff_ne.mpr c45
                                have c45b1 : (t267 != 0) = true := bne_iff_ne.mpr c45
                                have H' := Aside0.mk H
                                clear H
                                go_wp2
                                go_meet
                                case rel => exact ⟨_, (true), (by first | rfl | (simp; done) | (simp [*]; done)), H', ⟨by have := HK1.out; have := HK2.out; have := HJ31.out; first | omega | exact Nat.le_refl _⟩, ⟨by repeat (first | (with_reducible first | exact HB.out | apply below_alloc | apply pw_below_drewN | apply below_drew1) | exact HB.out)⟩⟩
                            · replace c44 := Bool.eq_false_iff.mpr c44
                              subst c44
                              have H1 : (bodkinlaw02_IntsDivides.j4 kj31 a0 a1 x6_1 t264 t265 x9_2 true) = some r := by rw [if_neg (show ¬ (false = true) by decide)] at H; exact H
                              clear H
                              have H := H1
                              clear H1
                              have H' := Aside0.mk H
                              clear H
                              go_wp2
                              go_meet
                              case rel => exact ⟨_, (true), (by first | rfl | (simp; done) | (simp [*]; done)), H', ⟨by have := HK1.out; have := HK2.out; have := HJ31.out; first | omega | exact Nat.le_refl _⟩, ⟨by repeat (first | (with_reducible first | exact HB.out | apply below_alloc | apply pw_below_drewN | apply below_drew1) | exact HB.out)⟩⟩
                          · rw [if_neg c43] at H
                            have c43b0 : (t273 == t264) = false := beq_eq_false_iff_ne.mpr c43
                            have c43b1 : (t273 != t264) = true := bne_iff_ne.mpr c43
                            (first | rw [c43b0] | (simp only [i64_w, i32_w]; rw [c43b0]) | skip)
                            have H' := Aside0.mk H
                            clear H
                            go_wp2
                            go_meet
                            case rel => exact ⟨_, (true), (by first | rfl | (simp; done) | (simp [*]; done)), H', ⟨by have := HK1.out; have := HK2.out; have := HJ31.out; first | omega | exact Nat.le_refl _⟩, ⟨by repeat (first | (with_reducible first | exact HB.out | apply below_alloc | apply pw_below_drewN | apply below_drew1) | exact HB.out)⟩⟩
                        case rest =>
                          clear HC42
                          try clear c1
                          try clear c2
                          try clear p2
                          try clear c3
                          try clear c4
                          try clear c6
                          try clear c6b0
                          try clear p6
                          try clear c9
                          try clear c9b0
                          try clear c12
                          try clear c12b0
                          try clear c12b1
                          try clear c13
                          try clear c13b0
                          try clear c13b1
                          try clear c14
                          try clear c14b0
                          try clear c14b1
                          try clear c15
                          try clear c16
                          try clear c20
                          try clear c21
                          try clear c21b0
                          try clear c21b1
                          try clear c24
                          try clear c25
                          try clear c25b0
                          try clear c25b1
                          try clear c26
                          try clear c26b0
                          try clear c26b1
                          try clear c27
                          try clear c27b0
                          try clear c27b1
                          try clear c29
                          try clear c37
                          try clear c37b0
                          try clear c37b1
                          try clear c43
                          try clear c43b0
                          try clear c43b1
                          try clear c44
                          try clear c45
                          try clear c45b0
                          try clear c45b1
                          try clear p2
                          try clear p6
                          obtain ⟨kq, x132_41, rfl, HA, HJ41, HB⟩ := hcut
                          cases kq with
                          | zero => exact absurd HA.out (by simp [bodkinlaw02_IntsDivides.j4])
                          | succ kj41 =>
                            have H := HA.out
                            clear HA
                            simp only [bodkinlaw02_IntsDivides.j4] at H
                            by_cases c46 : x132_41 = true
                            · subst c46
                              have H1 : (some false) = some r := by rw [if_pos rfl] at H; exact H
                              clear H
                              have H := H1
                              clear H1
                              obtain rfl := Option.some.inj H
                              go_wp2
                              go_ret
                              exact ⟨by first | rfl | (simp [errW_none, errW_some] <;> rfl) | (simp [*, errW_none, errW_some] <;> rfl), by repeat (first | (with_reducible first | exact HB.out | apply below_alloc | apply pw_below_drewN | apply below_drew1) | exact HB.out)⟩
                            · replace c46 := Bool.eq_false_iff.mpr c46
                              subst c46
                              have H1 : (bodkinlaw02_IntsDivides.l1 kj41 a0 a1 x6_1 t264 t265 (wrap64 (x9_2 + 1))) = some r := by rw [if_neg (show ¬ (false = true) by decide)] at H; exact H
                              clear H
                              have H := H1
                              clear H1
                              have H' := Aside0.mk H
                              clear H
                              go_wp2
                              go_roundg kj41
                              case measure => have := HK1.out; have := HK2.out; have := HJ31.out; have := HJ41.out; omega
                              case rel => exact ⟨(wrap64 (x9_2 + 1)), (by first | rfl | (simp; done) | (simp [*]; done)), H', ⟨by have := HK1.out; have := HK2.out; have := HJ31.out; have := HJ41.out; omega⟩, ⟨by repeat (first | (with_reducible first | exact HB.out | apply below_alloc | apply pw_below_drewN | apply below_drew1) | exact HB.out)⟩⟩
              · rw [if_neg c9] at H
                have c9b0 : decide (x9_2 < 2) = false := decide_eq_false c9
                clear c9
                have H' := Aside0.mk H
                clear H
                go_wp2
                go_roundg k2
                case measure => have := HK1.out; have := HK2.out; omega
                case rel => exact ⟨(wrap64 (x6_1 * 2)), (by first | rfl | (simp; done) | (simp [*]; done)), H', ⟨by have := HK1.out; have := HK2.out; omega⟩, ⟨by repeat (first | (with_reducible first | exact HB.out | apply below_alloc | apply pw_below_drewN | apply below_drew1) | exact HB.out)⟩⟩
        · rw [if_neg c6] at H
          have c6b0 : decide (x6_1 ≤ 64) = false := decide_eq_false c6
          clear c6
          obtain rfl := Option.some.inj H
          go_wp2
          go_ret
          exact ⟨by first | rfl | (simp [errW_none, errW_some] <;> rfl) | (simp [*, errW_none, errW_some] <;> rfl), by repeat (first | (with_reducible first | exact HB.out | apply below_alloc | apply pw_below_drewN | apply below_drew1) | exact HB.out)⟩
  · replace c4 := Bool.eq_false_iff.mpr c4
    subst c4
    have H1 : (some false) = some r := by rw [if_neg (show ¬ (false = true) by decide)] at H; exact H
    clear H
    have H := H1
    clear H1
    obtain rfl := Option.some.inj H
    go_enter Tryd.func6, Tryd.ntmps6
    go_wp2_with (first | ((with_reducible refine gate_callee (f := 15) rfl ?_); refine goesL_ (some 23) rfl rfl Tryd.func15 (by kernel_rfl) rfl #[] rfl (by (try simp only [List.map_toArray, List.map_cons, List.map_nil]); first | done | rfl | (simp only [List.length_drop, List.length_take]; rfl)) ?_; (with_reducible refine (bodkinlaw02_awake.calls k  false _ A3.out).mono ?_); rintro e w47 ⟨rfl, hb⟩; refine ⟨_, rfl, ?_⟩; have n0_ := Aside0.mk (below_step (by repeat (first | (with_reducible first | exact HB.out | apply below_alloc | apply pw_below_drewN | apply below_drew1) | exact HB.out)) hb); clear HB; have HB := n0_; clear n0_; (try clear hb); (try clear hb2); (try clear hk); (try clear hi)))
    go_ret
    exact ⟨by first | rfl | (simp [errW_none, errW_some] <;> rfl) | (simp [*, errW_none, errW_some] <;> rfl), by repeat (first | (with_reducible first | exact HB.out | apply below_alloc | apply pw_below_drewN | apply below_drew1) | exact HB.out)⟩

/-- THE ONE PURE STATEMENT of bodkinlaw02_IntsDivides: yours. -/
def bodkinlaw02_IntsDivides.Pure : Prop := ∀ (a0 : Int) (a1 : Int), (Lit.int .u64 a0).wf = true → (Lit.int .u64 a1).wf = true → ∃ k, bodkinlaw02_IntsDivides.f k a0 a1 = some true
theorem bodkinlaw02_IntsDivides.walk (P : bodkinlaw02_IntsDivides.Pure) (a0 : Int) (a1 : Int) (w : World) (w0 : (Lit.int .u64 a0).wf = true) (w1 : (Lit.int .u64 a1).wf = true) :
    Calls Tryd.prog 6 #[.int .u64 a0, .int .u64 a1] w fun e w' => e = .returned (.bool true) ∧ Below w.heap.size w w' := by
  obtain ⟨k, h⟩ := P a0 a1 w0 w1
  refine (bodkinlaw02_IntsDivides.calls k a0 a1 true w h).mono ?_
  rintro e w' ⟨rfl, hd⟩
  exact ⟨rfl, hd⟩

end Go.Proofs.YtajmjmnlapplaaaDoor.PInts
