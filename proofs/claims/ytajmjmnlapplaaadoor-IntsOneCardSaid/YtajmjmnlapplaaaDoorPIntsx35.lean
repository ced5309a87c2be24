-- Written by the kit's print.py for this claim, called with several roots by this session's own script (print-roots.sh)
import Derived.Test.YtajmjmnlapplaaaDoorA1
import Derived.Test.YtajmjmnlapplaaaDoorA2
namespace Go.Proofs.YtajmjmnlapplaaaDoor.PInts
open Go.RowKit Go.Proofs.YtajmjmnlapplaaaDoorW.PrintWords Go.Proofs.YtajmjmnlapplaaaDoorW.PrintLast Go.Proofs.YtajmjmnlapplaaaDoorW.PrintMore
attribute [local go_sem] max2_int min2_int max_two min_two max_three min_three max_four min_four   -- for this text's walks alone
set_option linter.unusedVariables false
set_option linter.unusedSimpArgs false

/-! ### bodkinlaw02_IntsRound: function 7 -/
mutual
def bodkinlaw02_IntsRound.l0 : Nat → Int → Int → Int → Option (Bool)
  | 0, _, _, _ => none
  | k + 1, x0, x1, x6 => if x6 ≤ 64 then ((bodkinref02_Cut.f k x6 x0).bind fun t280 => ((ints_Bin.f k x6 14 x0 x1).bind fun bt281 => ((ints_Bin.f k x6 15 bt281.1 x1).bind fun bt283 => ((ints_Un.f k x6 8 x0).bind fun bt285 => ((ints_Un.f k x6 8 bt285.1).bind fun bt287 => ((ints_Bin.f k x6 1 x0 bt285.1).bind fun bt289 => ((ints_Un.f k x6 3 x0).bind fun bt291 => ((ints_Un.f k x6 3 bt281.1).bind fun bt293 => (if bt283.1 = t280 then (if bt287.1 = t280 then (if bt289.1 = 0 then (bodkinlaw02_IntsRound.j1 k x0 x1 x6 (bt291.1 != bt293.1)) else (bodkinlaw02_IntsRound.j1 k x0 x1 x6 true)) else (bodkinlaw02_IntsRound.j1 k x0 x1 x6 true)) else (bodkinlaw02_IntsRound.j1 k x0 x1 x6 true)))))))))) else (some true)
def bodkinlaw02_IntsRound.j1 : Nat → Int → Int → Int → Bool → Option (Bool)
  | 0, _, _, _, _ => none
  | k + 1, x0, x1, x6, x93 => if x93 = true then (some false) else (bodkinlaw02_IntsRound.l0 k x0 x1 (wrap64 (x6 * 2)))
end
def bodkinlaw02_IntsRound.f (k : Nat) (a0 : Int) (a1 : Int) : Option (Bool) := (bodkinlaw02_awake.f k).bind fun t279 => (if t279 = true then (bodkinlaw02_IntsRound.l0 k a0 a1 8) else (some false))
theorem bodkinlaw02_IntsRound.mono_l : ∀ k, (∀ y0 y1 y2, LeO (bodkinlaw02_IntsRound.l0 k y0 y1 y2) (bodkinlaw02_IntsRound.l0 (k + 1) y0 y1 y2)) ∧ (∀ y0 y1 y2 y3, LeO (bodkinlaw02_IntsRound.j1 k y0 y1 y2 y3) (bodkinlaw02_IntsRound.j1 (k + 1) y0 y1 y2 y3)) := by
  intro k
  induction k with
  | zero => exact ⟨fun _ _ _ r h => by simp [bodkinlaw02_IntsRound.l0] at h, fun _ _ _ _ r h => by simp [bodkinlaw02_IntsRound.j1] at h⟩
  | succ k ih =>
    obtain ⟨ih0, ih1⟩ := ih
    refine ⟨?_, ?_⟩
    · intro y0 y1 y2
      unfold bodkinlaw02_IntsRound.l0
      repeat' first
      | (with_reducible exact ih0 _ _ _)
      | (with_reducible exact ih1 _ _ _ _)
      | (with_reducible exact bodkinlaw02_awake.mono _)
      | (with_reducible exact bodkinref02_Cut.mono _ _ _)
      | (with_reducible exact ints_Bin.mono _ _ _ _ _)
      | (with_reducible exact ints_Un.mono _ _ _ _)
      | (with_reducible exact LeO.refl _)
      | (with_reducible exact LeO.none _)
      | (with_reducible refine LeO.ite ?_ ?_)
      | (with_reducible refine LeO.bind ?_ (fun _ => ?_))
      | exact ih0 _ _ _
      | exact ih1 _ _ _ _
      | exact bodkinlaw02_awake.mono _
      | exact bodkinref02_Cut.mono _ _ _
      | exact ints_Bin.mono _ _ _ _ _
      | exact ints_Un.mono _ _ _ _
      | exact LeO.none _
      | refine LeO.ite ?_ ?_
      | refine LeO.bind ?_ (fun _ => ?_)
    · intro y0 y1 y2 y3
      unfold bodkinlaw02_IntsRound.j1
      repeat' first
      | (with_reducible exact ih0 _ _ _)
      | (with_reducible exact ih1 _ _ _ _)
      | (with_reducible exact bodkinlaw02_awake.mono _)
      | (with_reducible exact bodkinref02_Cut.mono _ _ _)
      | (with_reducible exact ints_Bin.mono _ _ _ _ _)
      | (with_reducible exact ints_Un.mono _ _ _ _)
      | (with_reducible exact LeO.refl _)
      | (with_reducible exact LeO.none _)
      | (with_reducible refine LeO.ite ?_ ?_)
      | (with_reducible refine LeO.bind ?_ (fun _ => ?_))
      | exact ih0 _ _ _
      | exact ih1 _ _ _ _
      | exact bodkinlaw02_awake.mono _
      | exact bodkinref02_Cut.mono _ _ _
      | exact ints_Bin.mono _ _ _ _ _
      | exact ints_Un.mono _ _ _ _
      | exact LeO.none _
      | refine LeO.ite ?_ ?_
      | refine LeO.bind ?_ (fun _ => ?_)
theorem bodkinlaw02_IntsRound.mono : ∀ a0 a1 k, LeO (bodkinlaw02_IntsRound.f k a0 a1) (bodkinlaw02_IntsRound.f (k + 1) a0 a1) := by
  intro a0 a1 k
  obtain ⟨ih0, ih1⟩ := bodkinlaw02_IntsRound.mono_l k
  unfold bodkinlaw02_IntsRound.f
  repeat' first
      | (with_reducible exact ih0 _ _ _)
      | (with_reducible exact ih1 _ _ _ _)
      | (with_reducible exact bodkinlaw02_awake.mono _)
      | (with_reducible exact bodkinref02_Cut.mono _ _ _)
      | (with_reducible exact ints_Bin.mono _ _ _ _ _)
      | (with_reducible exact ints_Un.mono _ _ _ _)
      | (with_reducible exact LeO.refl _)
      | (with_reducible exact LeO.none _)
      | (with_reducible refine LeO.ite ?_ ?_)
      | (with_reducible refine LeO.bind ?_ (fun _ => ?_))
      | exact ih0 _ _ _
      | exact ih1 _ _ _ _
      | exact bodkinlaw02_awake.mono _
      | exact bodkinref02_Cut.mono _ _ _
      | exact ints_Bin.mono _ _ _ _ _
      | exact ints_Un.mono _ _ _ _
      | exact LeO.none _
      | refine LeO.ite ?_ ?_
      | refine LeO.bind ?_ (fun _ => ?_)
set_option maxHeartbeats 8000000 in
set_option maxRecDepth 100000 in
theorem bodkinlaw02_IntsRound.calls (k : Nat) (a0 : Int) (a1 : Int) (r : Bool) (w : World) (h : bodkinlaw02_IntsRound.f k a0 a1 = some r) :
    Calls Tryd.prog 7 #[.int .u64 a0, .int .u64 a1] w fun e w' => e = .returned (.bool r) ∧ Below w.heap.size w w' := by
  have HB := Aside0.mk (Below.refl w.heap.size w)
  have H : ((bodkinlaw02_awake.f k).bind fun t279 => (if t279 = true then (bodkinlaw02_IntsRound.l0 k a0 a1 8) else (some false))) = some r := h
  clear h
  replace H := Option.bind_eq_some_iff.mp H
  obtain ⟨t279, A30, H⟩ := H
  replace H : (if t279 = true then (bodkinlaw02_IntsRound.l0 k a0 a1 8) else (some false)) = some r := H
  have A3 := Aside0.mk A30
  clear A30
  by_cases c4 : t279 = true
  · subst c4
    have H1 : (bodkinlaw02_IntsRound.l0 k a0 a1 8) = some r := by rw [if_pos rfl] at H; exact H
    clear H
    have H := H1
    clear H1
    have H' := Aside0.mk H
    clear H
    go_enter Tryd.func7, Tryd.ntmps7
    go_wp2_with (first | ((with_reducible refine gate_callee (f := 15) rfl ?_); refine goesL_ (some 22) rfl rfl Tryd.func15 (by kernel_rfl) rfl #[] rfl (by (try simp only [List.map_toArray, List.map_cons, List.map_nil]); first | done | rfl | (simp only [List.length_drop, List.length_take]; rfl)) ?_; (with_reducible refine (bodkinlaw02_awake.calls k  true _ A3.out).mono ?_); rintro e w5 ⟨rfl, hb⟩; refine ⟨_, rfl, ?_⟩; have n0_ := Aside0.mk (below_step (by repeat (first | (with_reducible first | exact HB.out | apply below_alloc | apply pw_below_drewN | apply below_drew1) | exact HB.out)) hb); clear HB; have HB := n0_; clear n0_; (try clear hb); (try clear hb2); (try clear hk); (try clear hi)))
    go_loopg [6] k (fun kq v6 w' => ∃ (x6_1 : Int), v6 = .int .i64 x6_1 ∧ Aside0 (bodkinlaw02_IntsRound.l0 kq a0 a1 x6_1 = some r) ∧ Aside0 (kq ≤ k) ∧ Aside0 (Below w.heap.size w w'))
    case atStart => exact ⟨(8), (by first | rfl | (simp; done) | (simp [*]; done)), H', ⟨Nat.le_refl _⟩, ⟨by repeat (first | (with_reducible first | exact HB.out | apply below_alloc | apply pw_below_drewN | apply below_drew1) | exact HB.out)⟩⟩
    case round =>
      clear H'
      try clear c1
      try clear p2
      try clear c4
      obtain ⟨x6_1, rfl, HA, HK1, HB⟩ := hrel
      cases gk with
      | zero => exact absurd HA.out (by simp [bodkinlaw02_IntsRound.l0])
      | succ k1 =>
        have H := HA.out
        clear HA
        simp only [bodkinlaw02_IntsRound.l0] at H
        by_cases c6 : x6_1 ≤ 64
        · rw [if_pos c6] at H
          have c6b0 : decide (x6_1 ≤ 64) = true := decide_eq_true c6
          clear c6
          replace H := Option.bind_eq_some_iff.mp H
          obtain ⟨t280, A70, H⟩ := H
          replace H : ((ints_Bin.f k1 x6_1 14 a0 a1).bind fun bt281 => ((ints_Bin.f k1 x6_1 15 bt281.1 a1).bind fun bt283 => ((ints_Un.f k1 x6_1 8 a0).bind fun bt285 => ((ints_Un.f k1 x6_1 8 bt285.1).bind fun bt287 => ((ints_Bin.f k1 x6_1 1 a0 bt285.1).bind fun bt289 => ((ints_Un.f k1 x6_1 3 a0).bind fun bt291 => ((ints_Un.f k1 x6_1 3 bt281.1).bind fun bt293 => (if bt283.1 = t280 then (if bt287.1 = t280 then (if bt289.1 = 0 then (bodkinlaw02_IntsRound.j1 k1 a0 a1 x6_1 (bt291.1 != bt293.1)) else (bodkinlaw02_IntsRound.j1 k1 a0 a1 x6_1 true)) else (bodkinlaw02_IntsRound.j1 k1 a0 a1 x6_1 true)) else (bodkinlaw02_IntsRound.j1 k1 a0 a1 x6_1 true))))))))) = some r := H
          have A7 := Aside0.mk A70
          clear A70
          replace H := Option.bind_eq_some_iff.mp H
          obtain ⟨⟨t281, t282⟩, A80, H⟩ := H
          replace H : ((ints_Bin.f k1 x6_1 15 t281 a1).bind fun bt283 => ((ints_Un.f k1 x6_1 8 a0).bind fun bt285 => ((ints_Un.f k1 x6_1 8 bt285.1).bind fun bt287 => ((ints_Bin.f k1 x6_1 1 a0 bt285.1).bind fun bt289 => ((ints_Un.f k1 x6_1 3 a0).bind fun bt291 => ((ints_Un.f k1 x6_1 3 t281).bind fun bt293 => (if bt283.1 = t280 then (if bt287.1 = t280 then (if bt289.1 = 0 then (bodkinlaw02_IntsRound.j1 k1 a0 a1 x6_1 (bt291.1 != bt293.1)) else (bodkinlaw02_IntsRound.j1 k1 a0 a1 x6_1 true)) else (bodkinlaw02_IntsRound.j1 k1 a0 a1 x6_1 true)) else (bodkinlaw02_IntsRound.j1 k1 a0 a1 x6_1 true)))))))) = some r := H
          have A8 := Aside0.mk A80
          clear A80
          replace H := Option.bind_eq_some_iff.mp H
          obtain ⟨⟨t283, t284⟩, A90, H⟩ := H
          replace H : ((ints_Un.f k1 x6_1 8 a0).bind fun bt285 => ((ints_Un.f k1 x6_1 8 bt285.1).bind fun bt287 => ((ints_Bin.f k1 x6_1 1 a0 bt285.1).bind fun bt289 => ((ints_Un.f k1 x6_1 3 a0).bind fun bt291 => ((ints_Un.f k1 x6_1 3 t281).bind fun bt293 => (if t283 = t280 then (if bt287.1 = t280 then (if bt289.1 = 0 then (bodkinlaw02_IntsRound.j1 k1 a0 a1 x6_1 (bt291.1 != bt293.1)) else (bodkinlaw02_IntsRound.j1 k1 a0 a1 x6_1 true)) else (bodkinlaw02_IntsRound.j1 k1 a0 a1 x6_1 true)) else (bodkinlaw02_IntsRound.j1 k1 a0 a1 x6_1 true))))))) = some r := H
          have A9 := Aside0.mk A90
          clear A90
          replace H := Option.bind_eq_some_iff.mp H
          obtain ⟨⟨t285, t286⟩, A100, H⟩ := H
          replace H : ((ints_Un.f k1 x6_1 8 t285).bind fun bt287 => ((ints_Bin.f k1 x6_1 1 a0 t285).bind fun bt289 => ((ints_Un.f k1 x6_1 3 a0).bind fun bt291 => ((ints_Un.f k1 x6_1 3 t281).bind fun bt293 => (if t283 = t280 then (if bt287.1 = t280 then (if bt289.1 = 0 then (bodkinlaw02_IntsRound.j1 k1 a0 a1 x6_1 (bt291.1 != bt293.1)) else (bodkinlaw02_IntsRound.j1 k1 a0 a1 x6_1 true)) else (bodkinlaw02_IntsRound.j1 k1 a0 a1 x6_1 true)) else (bodkinlaw02_IntsRound.j1 k1 a0 a1 x6_1 true)))))) = some r := H
          have A10 := Aside0.mk A100
          clear A100
          replace H := Option.bind_eq_some_iff.mp H
          obtain ⟨⟨t287, t288⟩, A110, H⟩ := H
          replace H : ((ints_Bin.f k1 x6_1 1 a0 t285).bind fun bt289 => ((ints_Un.f k1 x6_1 3 a0).bind fun bt291 => ((ints_Un.f k1 x6_1 3 t281).bind fun bt293 => (if t283 = t280 then (if t287 = t280 then (if bt289.1 = 0 then (bodkinlaw02_IntsRound.j1 k1 a0 a1 x6_1 (bt291.1 != bt293.1)) else (bodkinlaw02_IntsRound.j1 k1 a0 a1 x6_1 true)) else (bodkinlaw02_IntsRound.j1 k1 a0 a1 x6_1 true)) else (bodkinlaw02_IntsRound.j1 k1 a0 a1 x6_1 true))))) = some r := H
          have A11 := Aside0.mk A110
          clear A110
          replace H := Option.bind_eq_some_iff.mp H
          obtain ⟨⟨t289, t290⟩, A120, H⟩ := H
          replace H : ((ints_Un.f k1 x6_1 3 a0).bind fun bt291 => ((ints_Un.f k1 x6_1 3 t281).bind fun bt293 => (if t283 = t280 then (if t287 = t280 then (if t289 = 0 then (bodkinlaw02_IntsRound.j1 k1 a0 a1 x6_1 (bt291.1 != bt293.1)) else (bodkinlaw02_IntsRound.j1 k1 a0 a1 x6_1 true)) else (bodkinlaw02_IntsRound.j1 k1 a0 a1 x6_1 true)) else (bodkinlaw02_IntsRound.j1 k1 a0 a1 x6_1 true)))) = some r := H
          have A12 := Aside0.mk A120
          clear A120
          replace H := Option.bind_eq_some_iff.mp H
          obtain ⟨⟨t291, t292⟩, A130, H⟩ := H
          replace H : ((ints_Un.f k1 x6_1 3 t281).bind fun bt293 => (if t283 = t280 then (if t287 = t280 then (if t289 = 0 then (bodkinlaw02_IntsRound.j1 k1 a0 a1 x6_1 (t291 != bt293.1)) else (bodkinlaw02_IntsRound.j1 k1 a0 a1 x6_1 true)) else (bodkinlaw02_IntsRound.j1 k1 a0 a1 x6_1 true)) else (bodkinlaw02_IntsRound.j1 k1 a0 a1 x6_1 true))) = some r := H
          have A13 := Aside0.mk A130
          clear A130
          replace H := Option.bind_eq_some_iff.mp H
          obtain ⟨⟨t293, t294⟩, A140, H⟩ := H
          replace H : (if t283 = t280 then (if t287 = t280 then (if t289 = 0 then (bodkinlaw02_IntsRound.j1 k1 a0 a1 x6_1 (t291 != t293)) else (bodkinlaw02_IntsRound.j1 k1 a0 a1 x6_1 true)) else (bodkinlaw02_IntsRound.j1 k1 a0 a1 x6_1 true)) else (bodkinlaw02_IntsRound.j1 k1 a0 a1 x6_1 true)) = some r := H
          have A14 := Aside0.mk A140
          clear A140
          have HC15 := Aside0.mk H
          clear H
          go_upto_region 15 with (first | ((with_reducible refine gate_callee (f := 24) rfl ?_); refine goesL_ (some 31) rfl rfl Tryd.func24 (by kernel_rfl) rfl #[.int .i64 x6_1, .int .u64 a0] rfl (by (try simp only [List.map_toArray, List.map_cons, List.map_nil]); first | done | rfl | (simp only [List.length_drop, List.length_take]; rfl)) ?_; (with_reducible refine (bodkinref02_Cut.calls k1 x6_1 a0 t280 _ A7.out).mono ?_); rintro e w' ⟨rfl, ⟨nd, rfl⟩⟩; refine ⟨_, rfl, ?_⟩) | ((with_reducible refine gate_callee (f := 16) rfl ?_); refine goesL_ (some 36) rfl rfl Tryd.func16 (by kernel_rfl) rfl #[.int .i64 x6_1, .int .i64 14, .int .u64 a0, .int .u64 a1] rfl (by (try simp only [List.map_toArray, List.map_cons, List.map_nil]); first | done | rfl | (simp only [List.length_drop, List.length_take]; rfl)) ?_; (with_reducible refine (ints_Bin.calls k1 x6_1 14 a0 a1 t281 t282 _ A8.out).mono ?_); rintro e w16 ⟨rfl, hb⟩; refine ⟨_, rfl, ?_⟩; have n0_ := Aside0.mk (below_step (by repeat (first | (with_reducible first | exact HB.out | apply below_alloc | apply pw_below_drewN | apply below_drew1) | exact HB.out)) hb); clear HB; have HB := n0_; clear n0_; (try clear hb); (try clear hb2); (try clear hk); (try clear hi)) | ((with_reducible refine gate_callee (f := 16) rfl ?_); refine goesL_ (some 43) rfl rfl Tryd.func16 (by kernel_rfl) rfl #[.int .i64 x6_1, .int .i64 15, .int .u64 t281, .int .u64 a1] rfl (by (try simp only [List.map_toArray, List.map_cons, List.map_nil]); first | done | rfl | (simp only [List.length_drop, List.length_take]; rfl)) ?_; (with_reducible refine (ints_Bin.calls k1 x6_1 15 t281 a1 t283 t284 _ A9.out).mono ?_); rintro e w17 ⟨rfl, hb⟩; refine ⟨_, rfl, ?_⟩; have n0_ := Aside0.mk (below_step (by repeat (first | (with_reducible first | exact HB.out | apply below_alloc | apply pw_below_drewN | apply below_drew1) | exact HB.out)) hb); clear HB; have HB := n0_; clear n0_; (try clear hb); (try clear hb2); (try clear hk); (try clear hi)) | ((with_reducible refine gate_callee (f := 20) rfl ?_); refine goesL_ (some 49) rfl rfl Tryd.func20 (by kernel_rfl) rfl #[.int .i64 x6_1, .int .i64 8, .int .u64 a0] rfl (by (try simp only [List.map_toArray, List.map_cons, List.map_nil]); first | done | rfl | (simp only [List.length_drop, List.length_take]; rfl)) ?_; (with_reducible refine (ints_Un.calls k1 x6_1 8 a0 t285 t286 _ A10.out).mono ?_); rintro e w18 ⟨rfl, hb⟩; refine ⟨_, rfl, ?_⟩; have n0_ := Aside0.mk (below_step (by repeat (first | (with_reducible first | exact HB.out | apply below_alloc | apply pw_below_drewN | apply below_drew1) | exact HB.out)) hb); clear HB; have HB := n0_; clear n0_; (try clear hb); (try clear hb2); (try clear hk); (try clear hi)) | ((with_reducible refine gate_callee (f := 20) rfl ?_); refine goesL_ (some 55) rfl rfl Tryd.func20 (by kernel_rfl) rfl #[.int .i64 x6_1, .int .i64 8, .int .u64 t285] rfl (by (try simp only [List.map_toArray, List.map_cons, List.map_nil]); first | done | rfl | (simp only [List.length_drop, List.length_take]; rfl)) ?_; (with_reducible refine (ints_Un.calls k1 x6_1 8 t285 t287 t288 _ A11.out).mono ?_); rintro e w19 ⟨rfl, hb⟩; refine ⟨_, rfl, ?_⟩; have n0_ := Aside0.mk (below_step (by repeat (first | (with_reducible first | exact HB.out | apply below_alloc | apply pw_below_drewN | apply below_drew1) | exact HB.out)) hb); clear HB; have HB := n0_; clear n0_; (try clear hb); (try clear hb2); (try clear hk); (try clear hi)) | ((with_reducible refine gate_callee (f := 16) rfl ?_); refine goesL_ (some 62) rfl rfl Tryd.func16 (by kernel_rfl) rfl #[.int .i64 x6_1, .int .i64 1, .int .u64 a0, .int .u64 t285] rfl (by (try simp only [List.map_toArray, List.map_cons, List.map_nil]); first | done | rfl | (simp only [List.length_drop, List.length_take]; rfl)) ?_; (with_reducible refine (ints_Bin.calls k1 x6_1 1 a0 t285 t289 t290 _ A12.out).mono ?_); rintro e w20 ⟨rfl, hb⟩; refine ⟨_, rfl, ?_⟩; have n0_ := Aside0.mk (below_step (by repeat (first | (with_reducible first | exact HB.out | apply below_alloc | apply pw_below_drewN | apply below_drew1) | exact HB.out)) hb); clear HB; have HB := n0_; clear n0_; (try clear hb); (try clear hb2); (try clear hk); (try clear hi)) | ((with_reducible refine gate_callee (f := 20) rfl ?_); refine goesL_ (some 68) rfl rfl Tryd.func20 (by kernel_rfl) rfl #[.int .i64 x6_1, .int .i64 3, .int .u64 a0] rfl (by (try simp only [List.map_toArray, List.map_cons, List.map_nil]); first | done | rfl | (simp only [List.length_drop, List.length_take]; rfl)) ?_; (with_reducible refine (ints_Un.calls k1 x6_1 3 a0 t291 t292 _ A13.out).mono ?_); rintro e w21 ⟨rfl, hb⟩; refine ⟨_, rfl, ?_⟩; have n0_ := Aside0.mk (below_step (by repeat (first | (with_reducible first | exact HB.out | apply below_alloc | apply pw_below_drewN | apply below_drew1) | exact HB.out)) hb); clear HB; have HB := n0_; clear n0_; (try clear hb); (try clear hb2); (try clear hk); (try clear hi)) | ((with_reducible refine gate_callee (f := 20) rfl ?_); refine goesL_ (some 74) rfl rfl Tryd.func20 (by kernel_rfl) rfl #[.int .i64 x6_1, .int .i64 3, .int .u64 t281] rfl (by (try simp only [List.map_toArray, List.map_cons, List.map_nil]); first | done | rfl | (simp only [List.length_drop, List.length_take]; rfl)) ?_; (with_reducible refine (ints_Un.calls k1 x6_1 3 t281 t293 t294 _ A14.out).mono ?_); rintro e w22 ⟨rfl, hb⟩; refine ⟨_, rfl, ?_⟩; have n0_ := Aside0.mk (below_step (by repeat (first | (with_reducible first | exact HB.out | apply below_alloc | apply pw_below_drewN | apply below_drew1) | exact HB.out)) hb); clear HB; have HB := n0_; clear n0_; (try clear hb); (try clear hb2); (try clear hk); (try clear hi)))
          (try simp only [Act.put, List.setIfInBounds_toArray, List.set_cons_zero, List.set_cons_succ])
          go_cut [93] (fun v93 wc => ∃ (kq : Nat) (x93_14 : Bool), v93 = .bool x93_14 ∧ Aside0 (bodkinlaw02_IntsRound.j1 kq a0 a1 x6_1 x93_14 = some r) ∧ Aside0 (kq ≤ k1) ∧ Aside0 (Below w.heap.size w wc))
          case first =>
            have H := HC15.out
            clear HC15
            by_cases c23 : t283 = t280
            · rw [if_pos c23] at H
              have c23b0 : (t283 == t280) = true := beq_iff_eq.mpr c23
              have c23b1 : (t283 != t280) = false := bne_eq_false_iff_eq.mpr c23
              clear c23
              (first | rw [c23b0] | (simp only [i64_w, i32_w]; rw [c23b0]) | skip)
              by_cases c24 : t287 = t280
              · rw [if_pos c24] at H
                have c24b0 : (t287 == t280) = true := beq_iff_eq.mpr c24
                have c24b1 : (t287 != t280) = false := bne_eq_false_iff_eq.mpr c24
                clear c24
                by_cases c25 : t289 = 0
                · rw [if_pos c25] at H
                  have c25b0 : (t289 == 0) = true := beq_iff_eq.mpr c25
                  have c25b1 : (t289 != 0) = false := bne_eq_false_iff_eq.mpr c25
                  clear c25
                  have H' := Aside0.mk H
                  clear H
                  go_wp2
                  go_meet
                  case rel => exact ⟨_, ((t291 != t293)), (by first | rfl | (simp; done) | (simp [*]; done)), H', ⟨by have := HK1.out; first | omega | exact Nat.le_refl _⟩, ⟨by repeat (first | (with_reducible first | exact HB.out | apply below_alloc | apply pw_below_drewN | apply below_drew1) | exact HB.out)⟩⟩
                · rw [if_neg c25] at H
                  have c25b0 : (t289 == 0) = false := beq_eq_false_iff_ne.mpr c25
                  have c25b1 : (t289 != 0) = true := bne_iff_ne.mpr c25
                  have H' := Aside0.mk H
                  clear H
                  go_wp2
                  go_meet
                  case rel => exact ⟨_, (true), (by first | rfl | (simp; done) | (simp [*]; done)), H', ⟨by have := HK1.out; first | omega | exact Nat.le_refl _⟩, ⟨by repeat (first | (with_reducible first | exact HB.out | apply below_alloc | apply pw_below_drewN | apply below_drew1) | exact HB.out)⟩⟩
              · rw [if_neg c24] at H
                have c24b0 : (t287 == t280) = false := beq_eq_false_iff_ne.mpr c24
                have c24b1 : (t287 != t280) = true := bne_iff_ne.mpr c24
                have H' := Aside0.mk H
                clear H
                go_wp2
                go_meet
                case rel => exact ⟨_, (true), (by first | rfl | (simp; done) | (simp [*]; done)), H', ⟨by have := HK1.out; first | omega | exact Nat.le_refl _⟩, ⟨by repeat (first | (with_reducible first | exact HB.out | apply below_alloc | apply pw_below_drewN | apply below_drew1) | exact HB.out)⟩⟩
            · rw [if_neg c23] at H
              have c23b0 : (t283 == t280) = false := beq_eq_false_iff_ne.mpr c23
              have c23b1 : (t283 != t280) = true := bne_iff_ne.mpr c23
              (first | rw [c23b0] | (simp only [i64_w, i32_w]; rw [c23b0]) | skip)
              have H' := Aside0.mk H
              clear H
              go_wp2
              go_meet
              case rel => exact ⟨_, (true), (by first | rfl | (simp; done) | (simp [*]; done)), H', ⟨by have := HK1.out; first | omega | exact Nat.le_refl _⟩, ⟨by repeat (first | (with_reducible first | exact HB.out | apply below_alloc | apply pw_below_drewN | apply below_drew1) | exact HB.out)⟩⟩
          case rest =>
            clear HC15
            try clear c1
            try clear c2
            try clear p2
            try clear c4
            try clear c6
            try clear c6b0
            try clear c7
            try clear c15
            try clear c16
            try clear c20
            try clear c23
            try clear c23b0
            try clear c23b1
            try clear c24
            try clear c24b0
            try clear c24b1
            try clear c25
            try clear c25b0
            try clear c25b1
            try clear p2
            obtain ⟨kq, x93_14, rfl, HA, HJ14, HB⟩ := hcut
            cases kq with
            | zero => exact absurd HA.out (by simp [bodkinlaw02_IntsRound.j1])
            | succ kj14 =>
              have H := HA.out
              clear HA
              simp only [bodkinlaw02_IntsRound.j1] at H
              by_cases c26 : x93_14 = true
              · subst c26
                have H1 : (some false) = some r := by rw [if_pos rfl] at H; exact H
                clear H
                have H := H1
                clear H1
                obtain rfl := Option.some.inj H
                go_wp2
                go_ret
                exact ⟨by first | rfl | (simp [errW_none, errW_some] <;> rfl) | (simp [*, errW_none, errW_some] <;> rfl), by repeat (first | (with_reducible first | exact HB.out | apply below_alloc | apply pw_below_drewN | apply below_drew1) | exact HB.out)⟩
              · replace c26 := Bool.eq_false_iff.mpr c26
                subst c26
                have H1 : (bodkinlaw02_IntsRound.l0 kj14 a0 a1 (wrap64 (x6_1 * 2))) = some r := by rw [if_neg (show ¬ (false = true) by decide)] at H; exact H
                clear H
                have H := H1
                clear H1
                have H' := Aside0.mk H
                clear H
                go_wp2
                go_roundg kj14
                case measure => have := HK1.out; have := HJ14.out; omega
                case rel => exact ⟨(wrap64 (x6_1 * 2)), (by first | rfl | (simp; done) | (simp [*]; done)), H', ⟨by have := HK1.out; have := HJ14.out; omega⟩, ⟨by repeat (first | (with_reducible first | exact HB.out | apply below_alloc | apply pw_below_drewN | apply below_drew1) | exact HB.out)⟩⟩
        · rw [if_neg c6] at H
          have c6b0 : decide (x6_1 ≤ 64) = false := decide_eq_false c6
          clear c6
          obtain rfl := Option.some.inj H
          go_wp2
          go_ret
          exact ⟨by first | rfl | (simp [errW_none, errW_some] <;> rfl) | (simp [*, errW_none, errW_some] <;> rfl), by repeat (first | (with_reducible first | exact HB.out | apply below_alloc | apply pw_below_drewN | apply below_drew1) | exact HB.out)⟩
  · replace c4 := Bool.eq_false_iff.mpr c4
    subst c4
    have H1 : (some false) = some r := by rw [if_neg (show ¬ (false = true) by decide)] at H; exact H
    clear H
    have H := H1
    clear H1
    obtain rfl := Option.some.inj H
    go_enter Tryd.func7, Tryd.ntmps7
    go_wp2_with (first | ((with_reducible refine gate_callee (f := 15) rfl ?_); refine goesL_ (some 22) rfl rfl Tryd.func15 (by kernel_rfl) rfl #[] rfl (by (try simp only [List.map_toArray, List.map_cons, List.map_nil]); first | done | rfl | (simp only [List.length_drop, List.length_take]; rfl)) ?_; (with_reducible refine (bodkinlaw02_awake.calls k  false _ A3.out).mono ?_); rintro e w27 ⟨rfl, hb⟩; refine ⟨_, rfl, ?_⟩; have n0_ := Aside0.mk (below_step (by repeat (first | (with_reducible first | exact HB.out | apply below_alloc | apply pw_below_drewN | apply below_drew1) | exact HB.out)) hb); clear HB; have HB := n0_; clear n0_; (try clear hb); (try clear hb2); (try clear hk); (try clear hi)))
    go_ret
    exact ⟨by first | rfl | (simp [errW_none, errW_some] <;> rfl) | (simp [*, errW_none, errW_some] <;> rfl), by repeat (first | (with_reducible first | exact HB.out | apply below_alloc | apply pw_below_drewN | apply below_drew1) | exact HB.out)⟩

/-- THE ONE PURE STATEMENT of bodkinlaw02_IntsRound: yours. -/
def bodkinlaw02_IntsRound.Pure : Prop := ∀ (a0 : Int) (a1 : Int), (Lit.int .u64 a0).wf = true → (Lit.int .u64 a1).wf = true → ∃ k, bodkinlaw02_IntsRound.f k a0 a1 = some true
theorem bodkinlaw02_IntsRound.walk (P : bodkinlaw02_IntsRound.Pure) (a0 : Int) (a1 : Int) (w : World) (w0 : (Lit.int .u64 a0).wf = true) (w1 : (Lit.int .u64 a1).wf = true) :
    Calls Tryd.prog 7 #[.int .u64 a0, .int .u64 a1] w fun e w' => e = .returned (.bool true) ∧ Below w.heap.size w w' := by
  obtain ⟨k, h⟩ := P a0 a1 w0 w1
  refine (bodkinlaw02_IntsRound.calls k a0 a1 true w h).mono ?_
  rintro e w' ⟨rfl, hd⟩
  exact ⟨rfl, hd⟩

end Go.Proofs.YtajmjmnlapplaaaDoor.PInts
