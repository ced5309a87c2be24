/-
  Texts that the kit's print.py has written for this claim (called by this session's own script), put together, without what is not used.
-/
import Derived.Test.YtjfmomogidgbpaaZd0
import Derived.Test.YtjfmomogidgbpaaZd2
namespace Go.Proofs.Ytjfmomogidgbpaa.PFl
open Go.RowKit Go.Proofs.YtjfmomogidgbpaaW.PrintWords Go.Proofs.YtjfmomogidgbpaaW.PrintLast Go.Proofs.YtjfmomogidgbpaaW.PrintMore
attribute [local go_sem] max2_int min2_int max_two min_two max_three min_three max_four min_four
set_option linter.unusedVariables false
set_option linter.unusedSimpArgs false
mutual
def ff_add.j0 : Nat → Int → Int → Int → Int → Option (Int)
 | 0, _, _, _, _ => none
 | k + 1, x1, x2, x146000, x146001 => (ff_neg.f x146000 x146001 x1).bind fun t148 => ((ff_neg.f x146000 x146001 x2).bind fun t149 => ((ff_size.f x146000 x146001 x1).bind fun t150 => ((ff_infinity.f x146000 x146001).bind fun t151 => (if t150 = t151 then (if (t148 != t149) = true then ((ff_size.f x146000 x146001 x2).bind fun t152 => ((ff_infinity.f x146000 x146001).bind fun t153 => (if t152 = t153 then ((ff_nan.f x146000 x146001).bind fun t154 => (some t154)) else (some x1)))) else (some x1)) else ((ff_size.f x146000 x146001 x2).bind fun t155 => (if t155 = 0 then ((ff_size.f x146000 x146001 x1).bind fun t156 => (if t156 > 0 then (some x1) else (ff_add.j1 k x1 x2 (t148 != t149) x146000 x146001))) else (ff_add.j1 k x1 x2 (t148 != t149) x146000 x146001)))))))
def ff_add.j1 : Nat → Int → Int → Bool → Int → Int → Option (Int)
 | 0, _, _, _, _, _ => none
 | k + 1, x1, x2, x7, x146000, x146001 => (ff_parts.f x146000 x146001 x1).bind fun bt157 => ((ff_parts.f x146000 x146001 x2).bind fun bt159 => ((floats_jam.f (IntKind.u64.wrap (bt159.1 * 1024)) (wrap64 (bt157.2 - bt159.2))).bind fun t161 => (if x7 = true then ((ff_neg.f x146000 x146001 x1).bind fun t162 => (if t162 = true then ((ff_round.f k x146000 x146001 ((IntKind.u64.wrap (bt157.1 * 1024)) != t161) (IntKind.u64.wrap ((IntKind.u64.wrap (bt157.1 * 1024)) - t161)) (wrap64 (bt157.2 - 10)) false).bind fun t163 => (some t163)) else ((ff_round.f k x146000 x146001 false (IntKind.u64.wrap ((IntKind.u64.wrap (bt157.1 * 1024)) - t161)) (wrap64 (bt157.2 - 10)) false).bind fun t164 => (some t164)))) else ((ff_neg.f x146000 x146001 x1).bind fun t165 => ((ff_round.f k x146000 x146001 t165 (IntKind.u64.wrap ((IntKind.u64.wrap (bt157.1 * 1024)) + t161)) (wrap64 (bt157.2 - 10)) false).bind fun t166 => (some t166))))))
end
def ff_add.f (k : Nat) (a0_0 : Int) (a0_1 : Int) (a1 : Int) (a2 : Int) : Option (Int) := (ff_size.f a0_0 a0_1 a1).bind fun t146 => ((ff_size.f a0_0 a0_1 a2).bind fun t147 => (if t146 < t147 then (ff_add.j0 k a2 a1 a0_0 a0_1) else (ff_add.j0 k a1 a2 a0_0 a0_1)))
theorem ff_add.mono_l : ∀ k, (∀ y0 y1 y2 y3, LeO (ff_add.j0 k y0 y1 y2 y3) (ff_add.j0 (k + 1) y0 y1 y2 y3)) ∧ (∀ y0 y1 y2 y3 y4, LeO (ff_add.j1 k y0 y1 y2 y3 y4) (ff_add.j1 (k + 1) y0 y1 y2 y3 y4)) := by
 intro k
 induction k with
 | zero => exact ⟨fun _ _ _ _ r h => by simp [ff_add.j0] at h, fun _ _ _ _ _ r h => by simp [ff_add.j1] at h⟩
 | succ k ih =>
  obtain ⟨ih0, ih1⟩ := ih
  refine ⟨?_, ?_⟩
  ·intro y0 y1 y2 y3
   unfold ff_add.j0
   repeat' first
   | (with_reducible exact ih0 _ _ _ _)
   | (with_reducible exact ih1 _ _ _ _ _)
   | (with_reducible exact ff_round.mono _ _ _ _ _ _ _)
   | (with_reducible exact LeO.refl _)
   | (with_reducible exact LeO.none _)
   | (with_reducible refine LeO.ite ?_ ?_)
   | (with_reducible refine LeO.bind ?_ (fun _ => ?_))
   | exact ih0 _ _ _ _
   | exact ih1 _ _ _ _ _
   | exact ff_round.mono _ _ _ _ _ _ _
   | exact LeO.none _
   | refine LeO.ite ?_ ?_
   | refine LeO.bind ?_ (fun _ => ?_)
  ·intro y0 y1 y2 y3 y4
   unfold ff_add.j1
   repeat' first
   | (with_reducible exact ih0 _ _ _ _)
   | (with_reducible exact ih1 _ _ _ _ _)
   | (with_reducible exact ff_round.mono _ _ _ _ _ _ _)
   | (with_reducible exact LeO.refl _)
   | (with_reducible exact LeO.none _)
   | (with_reducible refine LeO.ite ?_ ?_)
   | (with_reducible refine LeO.bind ?_ (fun _ => ?_))
   | exact ih0 _ _ _ _
   | exact ih1 _ _ _ _ _
   | exact ff_round.mono _ _ _ _ _ _ _
   | exact LeO.none _
   | refine LeO.ite ?_ ?_
   | refine LeO.bind ?_ (fun _ => ?_)
theorem ff_add.mono : ∀ a0 a1 a2 a3 k, LeO (ff_add.f k a0 a1 a2 a3) (ff_add.f (k + 1) a0 a1 a2 a3) := by
 intro a0 a1 a2 a3 k
 obtain ⟨ih0, ih1⟩ := ff_add.mono_l k
 unfold ff_add.f
 repeat' first
   | (with_reducible exact ih0 _ _ _ _)
   | (with_reducible exact ih1 _ _ _ _ _)
   | (with_reducible exact ff_round.mono _ _ _ _ _ _ _)
   | (with_reducible exact LeO.refl _)
   | (with_reducible exact LeO.none _)
   | (with_reducible refine LeO.ite ?_ ?_)
   | (with_reducible refine LeO.bind ?_ (fun _ => ?_))
   | exact ih0 _ _ _ _
   | exact ih1 _ _ _ _ _
   | exact ff_round.mono _ _ _ _ _ _ _
   | exact LeO.none _
   | refine LeO.ite ?_ ?_
   | refine LeO.bind ?_ (fun _ => ?_)
def ff_add.T3 : Bool × List (List Nat × List Nat) := (true, [([], []), ([], []), ([0, 1], [0, 1]), ([], []), ([], []), ([3, 4, 2], [3, 4]), ([2, 5], [2, 5]), ([6, 5, 0, 1, 2, 3, 4, 5, 6], [6])])
def ff_add.B3 : List Nat := [0, 0, 3, 0, 0, 31, 63, 127]
theorem ff_add.tab3 : rtab .any (opsOf Try.f44 3) = ff_add.T3 := by kernel_rfl
theorem ff_add.bits3 : waitsOk ff_add.T3.2 ff_add.B3 = true := by kernel_rfl
def ff_add.T5 : Bool × List (List Nat × List Nat) := (true, [([], []), ([0], [0]), ([1], [1]), ([1], [1]), ([2, 3, 1, 1], [1, 2, 3]), ([1], [1]), ([5, 4, 1], [1, 5]), ([4, 6, 1], [1, 4, 6]), ([1, 7], [1, 7])])
def ff_add.B5 : List Nat := [0, 1, 3, 3, 15, 3, 63, 127, 255]
theorem ff_add.tab5 : rtab .any (opsOf Try.f44 5) = ff_add.T5 := by kernel_rfl
theorem ff_add.bits5 : waitsOk ff_add.T5.2 ff_add.B5 = true := by kernel_rfl
def ff_add.T14 : Bool × List (List Nat × List Nat) := (true, [([], []), ([], []), ([], []), ([1, 2], [1, 2]), ([], []), ([], []), ([4, 5], [4, 5]), ([], []), ([7], [7]), ([0, 3, 6, 8, 3], [0, 3, 6, 8]), ([9, 9, 0, 1, 2, 3, 4, 5, 6, 7, 8, 9], [9])])
def ff_add.B14 : List Nat := [0, 0, 0, 6, 0, 0, 48, 0, 128, 511, 1023]
theorem ff_add.tab14 : rtab .any (opsOf Try.f44 14) = ff_add.T14 := by kernel_rfl
theorem ff_add.bits14 : waitsOk ff_add.T14.2 ff_add.B14 = true := by kernel_rfl
def ff_add.T15 : Bool × List (List Nat × List Nat) := (true, [([], []), ([], []), ([], []), ([1, 2], [1, 2]), ([3, 3], [3]), ([4], [4]), ([4], [4]), ([5, 6, 4], [4, 5, 6]), ([4, 7], [4, 7]), ([], []), ([], []), ([9, 10], [9, 10]), ([], []), ([12], [12]), ([0, 8, 11, 13, 4], [0, 8, 11, 13]), ([14, 14, 0, 1, 2, 3, 4, 5, 6, 7, 8, 9, 10, 11, 12, 13, 14], [14])])
def ff_add.B15 : List Nat := [0, 0, 0, 6, 14, 30, 30, 126, 254, 0, 0, 1536, 0, 4096, 16383, 32767]
theorem ff_add.tab15 : rtab .any (opsOf Try.f44 15) = ff_add.T15 := by kernel_rfl
theorem ff_add.bits15 : waitsOk ff_add.T15.2 ff_add.B15 = true := by kernel_rfl
set_option maxHeartbeats 8000000 in
set_option maxRecDepth 100000 in
theorem ff_add.calls (k : Nat) (a0_0 : Int) (a0_1 : Int) (a1 : Int) (a2 : Int) (r : Int) (w : World) (h : ff_add.f k a0_0 a0_1 a1 a2 = some r) :
  Calls Try.prog 44 #[.agg #[.int .i64 a0_0, .int .i64 a0_1], .int .u64 a1, .int .u64 a2] w fun e w' => e = .returned (.int .u64 r) ∧ Below w.heap.size w w' := by
 have hu43 := Try.underlying43
 have HB := As0.mk (Below.refl w.heap.size w)
 have H : ((ff_size.f a0_0 a0_1 a1).bind fun t146 => ((ff_size.f a0_0 a0_1 a2).bind fun t147 => (if t146 < t147 then (ff_add.j0 k a2 a1 a0_0 a0_1) else (ff_add.j0 k a1 a2 a0_0 a0_1)))) = some r := h
 clear h
 replace H := zob H
 obtain ⟨t146, A40, H⟩ := H
 replace H : ((ff_size.f a0_0 a0_1 a2).bind fun t147 => (if t146 < t147 then (ff_add.j0 k a2 a1 a0_0 a0_1) else (ff_add.j0 k a1 a2 a0_0 a0_1))) = some r := H
 have A4 := As0.mk A40
 clear A40
 replace H := zob H
 obtain ⟨t147, A50, H⟩ := H
 replace H : (if t146 < t147 then (ff_add.j0 k a2 a1 a0_0 a0_1) else (ff_add.j0 k a1 a2 a0_0 a0_1)) = some r := H
 have A5 := As0.mk A50
 clear A50
 have HC6 := As0.mk H
 clear H
 go_enter Try.func44, Try.ntmps44
 try go_wp2_with (first | ((with_reducible refine gate_dst (N := 3) rfl ?_); refine box_event ?hg (N := 3) ?hd (cs := #[.int .i64 a0_0, .int .i64 a0_1]) (t := 43) ?hr ?_; (case hd => rfl); (case hg => rfl); (case hr => first | (go_simp; done) | (go_simp; rfl)); intro gb145 hg w7 hbox hb; have n0_ := As0.mk (bst (by repeat (first | (with_reducible first | exact HB.out | apply bal | apply pwB_ | apply bd1) | exact HB.out)) hb); have n1_ := As0.mk (hbox); have n2_ := As0.mk ((by rw [hg]; exact (below_size (by repeat (first | (with_reducible first | exact HB.out | apply bal | apply pwB_ | apply bd1) | exact HB.out))) : w.heap.size ≤ gb145)); have n3_ := As0.mk ((by rw [hg]; exact (below_size (by repeat (first | (with_reducible first | exact HB.out | apply bal | apply pwB_ | apply bd1) | exact HB.out))) : w.heap.size ≤ gb145)); clear HB; have HB := n0_; have BK145 := n1_; have GW145 := n2_; have GE145 := n3_; clear n0_ n1_ n2_ n3_; clear hb hbox hg))
 have n0_ := As0.mk (bkd BK145.out)
 have n1_ := As0.mk (bd1 HB.out)
 clear BK145
 clear HB
 have BK145 := n0_
 have HB := n1_
 clear n0_ n1_
 refine start_ (n := 7) (S := fun w' => w'.cell? ⟨gb145, 0, none⟩ = some (.int .i64 a0_0) ∧ w'.cell? ⟨gb145, 1, none⟩ = some (.int .i64 a0_1)) (ds := []) #[false, false, false, false, false, false, false] (by kernel_rfl) rfl rfl ⟨(bce BK145.out 0).trans rfl, (bce BK145.out 1).trans rfl⟩ (fun hHeld => ?_)
 generalize w7.drew = w8 at BK145 HB hHeld ⊢
 refine pure_ (i := 1) (N := some 13) (v := ?_) (a' := ?_) #[false, true, false, false, false, false, false] rfl rfl (by kernel_rfl) (fun _ _ _ h => h) (Or.inl ⟨by rfl, ?_⟩) ?_ ?_
 rotate_left
 ·intro w'
  go_simp
  with_reducible rfl
 rotate_left
 ·simp only [Act.put, zsi, zcz, zcs, i64_w, i32_w]
  rfl
 refine pure_ (i := 4) (N := some 16) (v := ?_) (a' := ?_) #[false, true, false, false, true, false, false] rfl rfl (by kernel_rfl) (fun _ _ _ h => h) (Or.inl ⟨by rfl, ?_⟩) ?_ ?_
 rotate_left
 ·intro w'
  go_simp
  with_reducible rfl
 rotate_left
 ·simp only [Act.put, zsi, zcz, zcs, i64_w, i32_w]
  rfl
 refine take_ (i := 0) (N := some 12) (v := ?_) (a' := ?_) #[true, true, false, false, true, false, false] rfl rfl (by kernel_rfl) (fun _ _ _ h => h) (Or.inl ⟨by rfl, ?_⟩) hHeld ?_ ?_
 rotate_left
 ·rintro w' ⟨s0, s1⟩
  go_simp
  with_reducible rfl
 rotate_left
 ·simp only [Act.put, zsi, zcz, zcs, i64_w, i32_w]
  rfl
 refine take_ (i := 3) (N := some 15) (v := ?_) (a' := ?_) #[true, true, false, true, true, false, false] rfl rfl (by kernel_rfl) (fun _ _ _ h => h) (Or.inl ⟨by rfl, ?_⟩) hHeld ?_ ?_
 rotate_left
 ·rintro w' ⟨s0, s1⟩
  go_simp
  with_reducible rfl
 rotate_left
 ·simp only [Act.put, zsi, zcz, zcs, i64_w, i32_w]
  rfl
 refine one_ (i := 2) (N := some 14) #[true, true, true, true, true, false, false] rfl rfl (by kernel_rfl) (by decide) (fun K hK => ?_)
 refine goes_ Try.func40 (by kernel_rfl) rfl #[.agg #[.int .i64 a0_0, .int .i64 a0_1], .int .u64 a1] (by rfl) rfl rfl (by (try simp only [zmt, zmc, zmn]); first | done | rfl) ?_
 with_reducible refine (ff_size.calls a0_0 a0_1 a1 t146 _ A4.out).mono ?_
 rintro e w9 ⟨rfl, hb⟩
 refine ⟨_, rfl, ?_⟩
 have n0_ := As0.mk (bkb (g := gb145) (o := .cells #[.int .i64 a0_0, .int .i64 a0_1] 43 (0, 0)) (by (with_reducible repeat (first | refine bkN ?_ _ | refine bkd ?_ | refine bka ?_ _)); exact BK145.out) hb)
 have n1_ := As0.mk (bst (by repeat (first | (with_reducible first | exact HB.out | apply bal | apply pwB_ | apply bd1 | refine bse ?_ GE145.out) | exact HB.out)) hb)
 clear BK145
 clear HB
 have BK145 := n0_
 have HB := n1_
 clear n0_ n1_
 (try clear hb)
 (try clear hb2)
 (try clear hk)
 (try clear hi)
 refine hK.out _ _ ⟨(bce BK145.out 0).trans rfl, (bce BK145.out 1).trans rfl⟩ (fun hHeld => ?_)
 clear hK K
 refine norm_ (a' := ?_) ?_ ?_
 rotate_left
 ·show Act.put _ (some 14) _ = _
  simp only [Act.put, zsi, zcz, zcs, i64_w, i32_w]
  rfl
 refine one_ (i := 5) (N := some 17) #[true, true, true, true, true, true, false] rfl rfl (by kernel_rfl) (by decide) (fun K hK => ?_)
 refine goes_ Try.func40 (by kernel_rfl) rfl #[.agg #[.int .i64 a0_0, .int .i64 a0_1], .int .u64 a2] (by rfl) rfl rfl (by (try simp only [zmt, zmc, zmn]); first | done | rfl) ?_
 with_reducible refine (ff_size.calls a0_0 a0_1 a2 t147 _ A5.out).mono ?_
 rintro e w10 ⟨rfl, hb⟩
 refine ⟨_, rfl, ?_⟩
 have n0_ := As0.mk (bkb (g := gb145) (o := .cells #[.int .i64 a0_0, .int .i64 a0_1] 43 (0, 0)) (by (with_reducible repeat (first | refine bkN ?_ _ | refine bkd ?_ | refine bka ?_ _)); exact BK145.out) hb)
 have n1_ := As0.mk (bst (by repeat (first | (with_reducible first | exact HB.out | apply bal | apply pwB_ | apply bd1 | refine bse ?_ GE145.out) | exact HB.out)) hb)
 clear BK145
 clear HB
 have BK145 := n0_
 have HB := n1_
 clear n0_ n1_
 (try clear hb)
 (try clear hb2)
 (try clear hk)
 (try clear hi)
 refine hK.out _ _ ⟨(bce BK145.out 0).trans rfl, (bce BK145.out 1).trans rfl⟩ (fun hHeld => ?_)
 clear hK K
 refine norm_ (a' := ?_) ?_ ?_
 rotate_left
 ·show Act.put _ (some 17) _ = _
  simp only [Act.put, zsi, zcz, zcs, i64_w, i32_w]
  rfl
 refine pure_ (i := 6) (N := some 18) (v := ?_) (a' := ?_) #[true, true, true, true, true, true, true] rfl rfl (by kernel_rfl) (fun _ _ _ h => h) (Or.inl ⟨by rfl, ?_⟩) ?_ ?_
 rotate_left
 ·intro w'
  go_simp
  with_reducible rfl
 rotate_left
 ·simp only [Act.put, zsi, zcz, zcs, i64_w, i32_w]
  rfl
 refine done_ (by kernel_rfl) ?_
 go_upto_if 18 with (fail)
 go_cut [1, 2] (fun v1 v2 wc => ∃ (kq : Nat) (x1_5 : Int) (x2_5 : Int), v1 = .int .u64 x1_5 ∧ v2 = .int .u64 x2_5 ∧ As0 (ff_add.j0 kq x1_5 x2_5 a0_0 a0_1 = some r) ∧ As0 (kq ≤ k) ∧ As0 (wc.heap[gb145]? = some (.cells #[.int .i64 a0_0, .int .i64 a0_1] 43 (0, 0))) ∧ As0 (Below w.heap.size w wc))
 case first =>
  have H := HC6.out
  clear HC6
  by_cases c11 : t146 < t147
  ·rw [if_pos c11] at H
   have c11b0 : decide (t146 < t147) = true := decide_eq_true c11
   clear c11
   (first | rw [c11b0] | (simp only [i64_w, i32_w]; rw [c11b0]) | skip)
   have H' := As0.mk H
   clear H
   go_wp2
   go_meet
   case rel => exact ⟨_, (a2), (a1), (by first | rfl | (simp; done) | (simp [*]; done)), (by first | rfl | (simp; done) | (simp [*]; done)), H', ⟨by first | omega | exact Nat.le_refl _⟩, ⟨by (with_reducible repeat (first | refine bkN ?_ _ | refine bkd ?_ | refine bka ?_ _)); exact BK145.out⟩, ⟨by repeat (first | (with_reducible first | exact HB.out | apply bal | apply pwB_ | apply bd1 | refine bse ?_ GE145.out) | exact HB.out)⟩⟩
  ·rw [if_neg c11] at H
   have c11b0 : decide (t146 < t147) = false := decide_eq_false c11
   clear c11
   (first | rw [c11b0] | (simp only [i64_w, i32_w]; rw [c11b0]) | skip)
   have H' := As0.mk H
   clear H
   go_wp2
   go_meet
   case rel => exact ⟨_, (a1), (a2), (by first | rfl | (simp; done) | (simp [*]; done)), (by first | rfl | (simp; done) | (simp [*]; done)), H', ⟨by first | omega | exact Nat.le_refl _⟩, ⟨by (with_reducible repeat (first | refine bkN ?_ _ | refine bkd ?_ | refine bka ?_ _)); exact BK145.out⟩, ⟨by repeat (first | (with_reducible first | exact HB.out | apply bal | apply pwB_ | apply bd1 | refine bse ?_ GE145.out) | exact HB.out)⟩⟩
 case rest =>
  clear HC6
  try clear c1
  try clear p2
  try clear c4
  try clear c11
  try clear c11b0
  obtain ⟨kq, x1_5, x2_5, rfl, rfl, HA, HJ5, BK145, HB⟩ := hcut
  cases kq with
  | zero => exact absurd HA.out (by simp [ff_add.j0])
  | succ kj5 =>
   have H := HA.out
   clear HA
   simp only [ff_add.j0] at H
   replace H := zob H
   obtain ⟨t148, A120, H⟩ := H
   replace H : ((ff_neg.f a0_0 a0_1 x2_5).bind fun t149 => ((ff_size.f a0_0 a0_1 x1_5).bind fun t150 => ((ff_infinity.f a0_0 a0_1).bind fun t151 => (if t150 = t151 then (if (t148 != t149) = true then ((ff_size.f a0_0 a0_1 x2_5).bind fun t152 => ((ff_infinity.f a0_0 a0_1).bind fun t153 => (if t152 = t153 then ((ff_nan.f a0_0 a0_1).bind fun t154 => (some t154)) else (some x1_5)))) else (some x1_5)) else ((ff_size.f a0_0 a0_1 x2_5).bind fun t155 => (if t155 = 0 then ((ff_size.f a0_0 a0_1 x1_5).bind fun t156 => (if t156 > 0 then (some x1_5) else (ff_add.j1 kj5 x1_5 x2_5 (t148 != t149) a0_0 a0_1))) else (ff_add.j1 kj5 x1_5 x2_5 (t148 != t149) a0_0 a0_1))))))) = some r := H
   have A12 := As0.mk A120
   clear A120
   replace H := zob H
   obtain ⟨t149, A130, H⟩ := H
   replace H : ((ff_size.f a0_0 a0_1 x1_5).bind fun t150 => ((ff_infinity.f a0_0 a0_1).bind fun t151 => (if t150 = t151 then (if (t148 != t149) = true then ((ff_size.f a0_0 a0_1 x2_5).bind fun t152 => ((ff_infinity.f a0_0 a0_1).bind fun t153 => (if t152 = t153 then ((ff_nan.f a0_0 a0_1).bind fun t154 => (some t154)) else (some x1_5)))) else (some x1_5)) else ((ff_size.f a0_0 a0_1 x2_5).bind fun t155 => (if t155 = 0 then ((ff_size.f a0_0 a0_1 x1_5).bind fun t156 => (if t156 > 0 then (some x1_5) else (ff_add.j1 kj5 x1_5 x2_5 (t148 != t149) a0_0 a0_1))) else (ff_add.j1 kj5 x1_5 x2_5 (t148 != t149) a0_0 a0_1)))))) = some r := H
   have A13 := As0.mk A130
   clear A130
   have HC14 := As0.mk H
   clear H
   try go_wp2
   have n0_ := As0.mk (bkd BK145.out)
   have n1_ := As0.mk (bd1 HB.out)
   clear BK145
   clear HB
   have BK145 := n0_
   have HB := n1_
   clear n0_ n1_
   refine start_ (n := 8) (S := fun w' => w'.cell? ⟨gb145, 0, none⟩ = some (.int .i64 a0_0) ∧ w'.cell? ⟨gb145, 1, none⟩ = some (.int .i64 a0_1)) (ds := []) #[false, false, false, false, false, false, false, false] (by kernel_rfl) rfl rfl ⟨(bce BK145.out 0).trans rfl, (bce BK145.out 1).trans rfl⟩ (fun hHeld => ?_); refine with_tabW ff_add.tab3 ff_add.bits3 (fun HT_ HW_ => ?_)
   generalize wc.drew = w15 at BK145 HB hHeld ⊢
   refine pure_ (i := 1) (N := some 22) (v := ?_) (a' := ?_) #[false, true, false, false, false, false, false, false] rfl rfl (any_of HT_.out (by kernel_rfl)) (fun _ _ _ h => h) (Or.inl ⟨by rfl, ?_⟩) ?_ ?_
   rotate_left
   ·intro w'
    go_simp
    with_reducible rfl
   rotate_left
   ·simp only [Act.put, zsi, zcz, zcs, i64_w, i32_w]
    rfl
   refine pure_ (i := 4) (N := some 25) (v := ?_) (a' := ?_) #[false, true, false, false, true, false, false, false] rfl rfl (any_of HT_.out (by kernel_rfl)) (fun _ _ _ h => h) (Or.inl ⟨by rfl, ?_⟩) ?_ ?_
   rotate_left
   ·intro w'
    go_simp
    with_reducible rfl
   rotate_left
   ·simp only [Act.put, zsi, zcz, zcs, i64_w, i32_w]
    rfl
   refine take_ (i := 0) (N := some 21) (v := ?_) (a' := ?_) #[true, true, false, false, true, false, false, false] rfl rfl (take_ofW HT_.out HW_.out (by kernel_rfl)) (fun _ _ _ h => h) (Or.inl ⟨by rfl, ?_⟩) hHeld ?_ ?_
   rotate_left
   ·rintro w' ⟨s0, s1⟩
    go_simp
    with_reducible rfl
   rotate_left
   ·simp only [Act.put, zsi, zcz, zcs, i64_w, i32_w]
    rfl
   refine take_ (i := 3) (N := some 24) (v := ?_) (a' := ?_) #[true, true, false, true, true, false, false, false] rfl rfl (take_ofW HT_.out HW_.out (by kernel_rfl)) (fun _ _ _ h => h) (Or.inl ⟨by rfl, ?_⟩) hHeld ?_ ?_
   rotate_left
   ·rintro w' ⟨s0, s1⟩
    go_simp
    with_reducible rfl
   rotate_left
   ·simp only [Act.put, zsi, zcz, zcs, i64_w, i32_w]
    rfl
   refine one_ (i := 2) (N := some 23) #[true, true, true, true, true, false, false, false] rfl rfl (one_of HT_.out (by kernel_rfl)) (by decide) (fun K hK => ?_)
   refine goes_ Try.func39 (by kernel_rfl) rfl #[.agg #[.int .i64 a0_0, .int .i64 a0_1], .int .u64 x1_5] (by rfl) rfl rfl (by (try simp only [zmt, zmc, zmn]); first | done | rfl) ?_
   with_reducible refine (ff_neg.calls a0_0 a0_1 x1_5 t148 _ A12.out).mono ?_
   rintro e w16 ⟨rfl, hb⟩
   refine ⟨_, rfl, ?_⟩
   have n0_ := As0.mk (bkb (g := gb145) (o := .cells #[.int .i64 a0_0, .int .i64 a0_1] 43 (0, 0)) (by (with_reducible repeat (first | refine bkN ?_ _ | refine bkd ?_ | refine bka ?_ _)); exact BK145.out) hb)
   have n1_ := As0.mk (bst (by repeat (first | (with_reducible first | exact HB.out | apply bal | apply pwB_ | apply bd1 | refine bse ?_ GE145.out) | exact HB.out)) hb)
   clear BK145
   clear HB
   have BK145 := n0_
   have HB := n1_
   clear n0_ n1_
   (try clear hb)
   (try clear hb2)
   (try clear hk)
   (try clear hi)
   refine hK.out _ _ ⟨(bce BK145.out 0).trans rfl, (bce BK145.out 1).trans rfl⟩ (fun hHeld => ?_)
   clear hK K
   refine norm_ (a' := ?_) ?_ ?_
   rotate_left
   ·show Act.put _ (some 23) _ = _
    simp only [Act.put, zsi, zcz, zcs, i64_w, i32_w]
    rfl
   refine one_ (i := 5) (N := some 26) #[true, true, true, true, true, true, false, false] rfl rfl (one_of HT_.out (by kernel_rfl)) (by decide) (fun K hK => ?_)
   refine goes_ Try.func39 (by kernel_rfl) rfl #[.agg #[.int .i64 a0_0, .int .i64 a0_1], .int .u64 x2_5] (by rfl) rfl rfl (by (try simp only [zmt, zmc, zmn]); first | done | rfl) ?_
   with_reducible refine (ff_neg.calls a0_0 a0_1 x2_5 t149 _ A13.out).mono ?_
   rintro e w17 ⟨rfl, hb⟩
   refine ⟨_, rfl, ?_⟩
   have n0_ := As0.mk (bkb (g := gb145) (o := .cells #[.int .i64 a0_0, .int .i64 a0_1] 43 (0, 0)) (by (with_reducible repeat (first | refine bkN ?_ _ | refine bkd ?_ | refine bka ?_ _)); exact BK145.out) hb)
   have n1_ := As0.mk (bst (by repeat (first | (with_reducible first | exact HB.out | apply bal | apply pwB_ | apply bd1 | refine bse ?_ GE145.out) | exact HB.out)) hb)
   clear BK145
   clear HB
   have BK145 := n0_
   have HB := n1_
   clear n0_ n1_
   (try clear hb)
   (try clear hb2)
   (try clear hk)
   (try clear hi)
   refine hK.out _ _ ⟨(bce BK145.out 0).trans rfl, (bce BK145.out 1).trans rfl⟩ (fun hHeld => ?_)
   clear hK K
   refine norm_ (a' := ?_) ?_ ?_
   rotate_left
   ·show Act.put _ (some 26) _ = _
    simp only [Act.put, zsi, zcz, zcs, i64_w, i32_w]
    rfl
   refine pure_ (i := 6) (N := some 27) (v := ?_) (a' := ?_) #[true, true, true, true, true, true, true, false] rfl rfl (any_of HT_.out (by kernel_rfl)) (fun _ _ _ h => h) (Or.inl ⟨by rfl, ?_⟩) ?_ ?_
   rotate_left
   ·intro w'
    go_simp
    with_reducible rfl
   rotate_left
   ·simp only [Act.put, zsi, zcz, zcs, i64_w, i32_w]
    rfl
   refine pure_ (i := 7) (N := some 7) (v := ?_) (a' := ?_) #[true, true, true, true, true, true, true, true] rfl rfl (any_of HT_.out (by kernel_rfl)) (fun _ _ _ h => h) (Or.inl ⟨by rfl, ?_⟩) ?_ ?_
   rotate_left
   ·intro w'
    go_simp
    with_reducible rfl
   rotate_left
   ·simp only [Act.put, zsi, zcz, zcs, i64_w, i32_w]
    rfl
   refine done_ (done_of HT_.out (by kernel_rfl)) ?_
   go_upto_block 0 with (fail)
   go_cut [] (fun wc => ∃ (kq : Nat), As0 (ff_add.j1 kq x1_5 x2_5 (t148 != t149) a0_0 a0_1 = some r) ∧ As0 (kq ≤ kj5) ∧ As0 (wc.heap[gb145]? = some (.cells #[.int .i64 a0_0, .int .i64 a0_1] 43 (0, 0))) ∧ As0 (Below w.heap.size w wc))
   case first =>
    have H := HC14.out
    clear HC14
    replace H := zob H
    obtain ⟨t150, A180, H⟩ := H
    replace H : ((ff_infinity.f a0_0 a0_1).bind fun t151 => (if t150 = t151 then (if (t148 != t149) = true then ((ff_size.f a0_0 a0_1 x2_5).bind fun t152 => ((ff_infinity.f a0_0 a0_1).bind fun t153 => (if t152 = t153 then ((ff_nan.f a0_0 a0_1).bind fun t154 => (some t154)) else (some x1_5)))) else (some x1_5)) else ((ff_size.f a0_0 a0_1 x2_5).bind fun t155 => (if t155 = 0 then ((ff_size.f a0_0 a0_1 x1_5).bind fun t156 => (if t156 > 0 then (some x1_5) else (ff_add.j1 kj5 x1_5 x2_5 (t148 != t149) a0_0 a0_1))) else (ff_add.j1 kj5 x1_5 x2_5 (t148 != t149) a0_0 a0_1))))) = some r := H
    have A18 := As0.mk A180
    clear A180
    replace H := zob H
    obtain ⟨t151, A190, H⟩ := H
    replace H : (if t150 = t151 then (if (t148 != t149) = true then ((ff_size.f a0_0 a0_1 x2_5).bind fun t152 => ((ff_infinity.f a0_0 a0_1).bind fun t153 => (if t152 = t153 then ((ff_nan.f a0_0 a0_1).bind fun t154 => (some t154)) else (some x1_5)))) else (some x1_5)) else ((ff_size.f a0_0 a0_1 x2_5).bind fun t155 => (if t155 = 0 then ((ff_size.f a0_0 a0_1 x1_5).bind fun t156 => (if t156 > 0 then (some x1_5) else (ff_add.j1 kj5 x1_5 x2_5 (t148 != t149) a0_0 a0_1))) else (ff_add.j1 kj5 x1_5 x2_5 (t148 != t149) a0_0 a0_1)))) = some r := H
    have A19 := As0.mk A190
    clear A190
    by_cases c20 : t150 = t151
    ·rw [if_pos c20] at H
     have c20b0 : (t150 == t151) = true := beq_iff_eq.mpr c20
     have c20b1 : (t150 != t151) = false := bne_eq_false_iff_eq.mpr c20
     clear c20
     (first | rw [c20b0] | (simp only [i64_w, i32_w]; rw [c20b0]) | skip)
     by_cases c21 : (t148 != t149) = true
     ·rw [if_pos c21] at H
      have c21b0 : (t148 != t149) = true := c21
      (try (have c21b1 : decide (t148 = t149) = false := by simpa using c21))
      (try (have c21b2 : (t148 == t149) = false := by simpa using c21))
      (try (have c21b3 : ¬ (t148 = t149) := by simpa using c21))
      clear c21
      replace H := zob H
      obtain ⟨t152, A220, H⟩ := H
      replace H : ((ff_infinity.f a0_0 a0_1).bind fun t153 => (if t152 = t153 then ((ff_nan.f a0_0 a0_1).bind fun t154 => (some t154)) else (some x1_5))) = some r := H
      have A22 := As0.mk A220
      clear A220
      replace H := zob H
      obtain ⟨t153, A230, H⟩ := H
      replace H : (if t152 = t153 then ((ff_nan.f a0_0 a0_1).bind fun t154 => (some t154)) else (some x1_5)) = some r := H
      have A23 := As0.mk A230
      clear A230
      by_cases c24 : t152 = t153
      ·rw [if_pos c24] at H
       have c24b0 : (t152 == t153) = true := beq_iff_eq.mpr c24
       have c24b1 : (t152 != t153) = false := bne_eq_false_iff_eq.mpr c24
       clear c24
       replace H := zob H
       obtain ⟨t154, A250, H⟩ := H
       replace H : (some t154) = some r := H
       have A25 := As0.mk A250
       clear A250
       obtain rfl := Option.some.inj H
       try go_wp2
       have n0_ := As0.mk (bkd BK145.out)
       have n1_ := As0.mk (bd1 HB.out)
       clear BK145
       clear HB
       have BK145 := n0_
       have HB := n1_
       clear n0_ n1_
       refine start_ (n := 7) (S := fun w' => w'.cell? ⟨gb145, 0, none⟩ = some (.int .i64 a0_0) ∧ w'.cell? ⟨gb145, 1, none⟩ = some (.int .i64 a0_1)) (ds := []) #[false, false, false, false, false, false, false] (by kernel_rfl) rfl rfl ⟨(bce BK145.out 0).trans rfl, (bce BK145.out 1).trans rfl⟩ (fun hHeld => ?_)
       generalize w17.drew = w26 at BK145 HB hHeld ⊢
       refine pure_ (i := 1) (N := some 30) (v := ?_) (a' := ?_) #[false, true, false, false, false, false, false] rfl rfl (by kernel_rfl) (fun _ _ _ h => h) (Or.inl ⟨by rfl, ?_⟩) ?_ ?_
       rotate_left
       ·intro w'
        go_simp
        with_reducible rfl
       rotate_left
       ·simp only [Act.put, zsi, zcz, zcs, i64_w, i32_w]
        rfl
       refine take_ (i := 0) (N := some 29) (v := ?_) (a' := ?_) #[true, true, false, false, false, false, false] rfl rfl (by kernel_rfl) (fun _ _ _ h => h) (Or.inl ⟨by rfl, ?_⟩) hHeld ?_ ?_
       rotate_left
       ·rintro w' ⟨s0, s1⟩
        go_simp
        with_reducible rfl
       rotate_left
       ·simp only [Act.put, zsi, zcz, zcs, i64_w, i32_w]
        rfl
       refine take_ (i := 3) (N := some 32) (v := ?_) (a' := ?_) #[true, true, false, true, false, false, false] rfl rfl (by kernel_rfl) (fun _ _ _ h => h) (Or.inl ⟨by rfl, ?_⟩) hHeld ?_ ?_
       rotate_left
       ·rintro w' ⟨s0, s1⟩
        go_simp
        with_reducible rfl
       rotate_left
       ·simp only [Act.put, zsi, zcz, zcs, i64_w, i32_w]
        rfl
       refine one_ (i := 2) (N := some 31) #[true, true, true, true, false, false, false] rfl rfl (by kernel_rfl) (by decide) (fun K hK => ?_)
       refine goes_ Try.func40 (by kernel_rfl) rfl #[.agg #[.int .i64 a0_0, .int .i64 a0_1], .int .u64 x1_5] (by rfl) rfl rfl (by (try simp only [zmt, zmc, zmn]); first | done | rfl) ?_
       with_reducible refine (ff_size.calls a0_0 a0_1 x1_5 t150 _ A18.out).mono ?_
       rintro e w27 ⟨rfl, hb⟩
       refine ⟨_, rfl, ?_⟩
       have n0_ := As0.mk (bkb (g := gb145) (o := .cells #[.int .i64 a0_0, .int .i64 a0_1] 43 (0, 0)) (by (with_reducible repeat (first | refine bkN ?_ _ | refine bkd ?_ | refine bka ?_ _)); exact BK145.out) hb)
       have n1_ := As0.mk (bst (by repeat (first | (with_reducible first | exact HB.out | apply bal | apply pwB_ | apply bd1 | refine bse ?_ GE145.out) | exact HB.out)) hb)
       clear BK145
       clear HB
       have BK145 := n0_
       have HB := n1_
       clear n0_ n1_
       (try clear hb)
       (try clear hb2)
       (try clear hk)
       (try clear hi)
       refine hK.out _ _ ⟨(bce BK145.out 0).trans rfl, (bce BK145.out 1).trans rfl⟩ (fun hHeld => ?_)
       clear hK K
       refine norm_ (a' := ?_) ?_ ?_
       rotate_left
       ·show Act.put _ (some 31) _ = _
        simp only [Act.put, zsi, zcz, zcs, i64_w, i32_w]
        rfl
       refine one_ (i := 4) (N := some 33) #[true, true, true, true, true, false, false] rfl rfl (by kernel_rfl) (by decide) (fun K hK => ?_)
       refine goes_ Try.func50 (by kernel_rfl) rfl #[.agg #[.int .i64 a0_0, .int .i64 a0_1]] (by rfl) rfl rfl (by (try simp only [zmt, zmc, zmn]); first | done | rfl) ?_
       with_reducible refine (ff_infinity.calls a0_0 a0_1 t151 _ A19.out).mono ?_
       rintro e w28 ⟨rfl, hb⟩
       refine ⟨_, rfl, ?_⟩
       have n0_ := As0.mk (bkb (g := gb145) (o := .cells #[.int .i64 a0_0, .int .i64 a0_1] 43 (0, 0)) (by (with_reducible repeat (first | refine bkN ?_ _ | refine bkd ?_ | refine bka ?_ _)); exact BK145.out) hb)
       have n1_ := As0.mk (bst (by repeat (first | (with_reducible first | exact HB.out | apply bal | apply pwB_ | apply bd1 | refine bse ?_ GE145.out) | exact HB.out)) hb)
       clear BK145
       clear HB
       have BK145 := n0_
       have HB := n1_
       clear n0_ n1_
       (try clear hb)
       (try clear hb2)
       (try clear hk)
       (try clear hi)
       refine hK.out _ _ ⟨(bce BK145.out 0).trans rfl, (bce BK145.out 1).trans rfl⟩ (fun hHeld => ?_)
       clear hK K
       refine norm_ (a' := ?_) ?_ ?_
       rotate_left
       ·show Act.put _ (some 33) _ = _
        simp only [Act.put, zsi, zcz, zcs, i64_w, i32_w]
        rfl
       refine pure_ (i := 5) (N := some 34) (v := ?_) (a' := ?_) #[true, true, true, true, true, true, false] rfl rfl (by kernel_rfl) (fun _ _ _ h => h) (Or.inl ⟨by rfl, ?_⟩) ?_ ?_
       rotate_left
       ·intro w'
        go_simp
        with_reducible rfl
       rotate_left
       ·simp only [Act.put, zsi, zcz, zcs, i64_w, i32_w]
        rfl
       refine pure_ (i := 6) (N := some 28) (v := ?_) (a' := ?_) #[true, true, true, true, true, true, true] rfl rfl (by kernel_rfl) (fun _ _ _ h => h) (Or.inl ⟨by rfl, ?_⟩) ?_ ?_
       rotate_left
       ·intro w'
        go_simp
        with_reducible rfl
       rotate_left
       ·simp only [Act.put, zsi, zcz, zcs, i64_w, i32_w]
        rfl
       refine done_ (by kernel_rfl) ?_
       try go_wp2
       have n0_ := As0.mk (bkd BK145.out)
       have n1_ := As0.mk (bd1 HB.out)
       clear BK145
       clear HB
       have BK145 := n0_
       have HB := n1_
       clear n0_ n1_
       refine start_ (n := 9) (S := fun w' => w'.cell? ⟨gb145, 0, none⟩ = some (.int .i64 a0_0) ∧ w'.cell? ⟨gb145, 1, none⟩ = some (.int .i64 a0_1)) (ds := []) #[false, false, false, false, false, false, false, false, false] (by kernel_rfl) rfl rfl ⟨(bce BK145.out 0).trans rfl, (bce BK145.out 1).trans rfl⟩ (fun hHeld => ?_); refine with_tabW ff_add.tab5 ff_add.bits5 (fun HT_ HW_ => ?_)
       generalize w28.drew = w29 at BK145 HB hHeld ⊢
       refine pure_ (i := 0) (N := some 35) (v := ?_) (a' := ?_) #[true, false, false, false, false, false, false, false, false] rfl rfl (any_of HT_.out (by kernel_rfl)) (fun _ _ _ h => h) (Or.inl ⟨by rfl, ?_⟩) ?_ ?_
       rotate_left
       ·intro w'
        go_simp
        with_reducible rfl
       rotate_left
       ·simp only [Act.put, zsi, zcz, zcs, i64_w, i32_w]
        rfl
       refine pure_ (i := 1) (N := some 36) (v := ?_) (a' := ?_) #[true, true, false, false, false, false, false, false, false] rfl rfl (any_of HT_.out (by kernel_rfl)) (fun _ _ _ h => h) (Or.inl ⟨by rfl, ?_⟩) ?_ ?_
       rotate_left
       ·intro w'
        go_simp
        with_reducible rfl
       rotate_left
       ·simp only [Act.put, zsi, zcz, zcs, i64_w, i32_w]
        rfl
       refine pure_ (i := 3) (N := some 38) (v := ?_) (a' := ?_) #[true, true, false, true, false, false, false, false, false] rfl rfl (any_of HT_.out (by kernel_rfl)) (fun _ _ _ h => h) (Or.inl ⟨by rfl, ?_⟩) ?_ ?_
       rotate_left
       ·intro w'
        go_simp
        with_reducible rfl
       rotate_left
       ·simp only [Act.put, zsi, zcz, zcs, i64_w, i32_w]
        rfl
       refine take_ (i := 2) (N := some 37) (v := ?_) (a' := ?_) #[true, true, true, true, false, false, false, false, false] rfl rfl (take_ofW HT_.out HW_.out (by kernel_rfl)) (fun _ _ _ h => h) (Or.inl ⟨by rfl, ?_⟩) hHeld ?_ ?_
       rotate_left
       ·rintro w' ⟨s0, s1⟩
        go_simp
        with_reducible rfl
       rotate_left
       ·simp only [Act.put, zsi, zcz, zcs, i64_w, i32_w]
        rfl
       refine take_ (i := 5) (N := some 40) (v := ?_) (a' := ?_) #[true, true, true, true, false, true, false, false, false] rfl rfl (take_ofW HT_.out HW_.out (by kernel_rfl)) (fun _ _ _ h => h) (Or.inl ⟨by rfl, ?_⟩) hHeld ?_ ?_
       rotate_left
       ·rintro w' ⟨s0, s1⟩
        go_simp
        with_reducible rfl
       rotate_left
       ·simp only [Act.put, zsi, zcz, zcs, i64_w, i32_w]
        rfl
       refine one_ (i := 4) (N := some 39) #[true, true, true, true, true, true, false, false, false] rfl rfl (one_of HT_.out (by kernel_rfl)) (by decide) (fun K hK => ?_)
       refine goes_ Try.func40 (by kernel_rfl) rfl #[.agg #[.int .i64 a0_0, .int .i64 a0_1], .int .u64 x2_5] (by rfl) rfl rfl (by (try simp only [zmt, zmc, zmn]); first | done | rfl) ?_
       with_reducible refine (ff_size.calls a0_0 a0_1 x2_5 t152 _ A22.out).mono ?_
       rintro e w30 ⟨rfl, hb⟩
       refine ⟨_, rfl, ?_⟩
       have n0_ := As0.mk (bkb (g := gb145) (o := .cells #[.int .i64 a0_0, .int .i64 a0_1] 43 (0, 0)) (by (with_reducible repeat (first | refine bkN ?_ _ | refine bkd ?_ | refine bka ?_ _)); exact BK145.out) hb)
       have n1_ := As0.mk (bst (by repeat (first | (with_reducible first | exact HB.out | apply bal | apply pwB_ | apply bd1 | refine bse ?_ GE145.out) | exact HB.out)) hb)
       clear BK145
       clear HB
       have BK145 := n0_
       have HB := n1_
       clear n0_ n1_
       (try clear hb)
       (try clear hb2)
       (try clear hk)
       (try clear hi)
       refine hK.out _ _ ⟨(bce BK145.out 0).trans rfl, (bce BK145.out 1).trans rfl⟩ (fun hHeld => ?_)
       clear hK K
       refine norm_ (a' := ?_) ?_ ?_
       rotate_left
       ·show Act.put _ (some 39) _ = _
        simp only [Act.put, zsi, zcz, zcs, i64_w, i32_w]
        rfl
       refine one_ (i := 6) (N := some 41) #[true, true, true, true, true, true, true, false, false] rfl rfl (one_of HT_.out (by kernel_rfl)) (by decide) (fun K hK => ?_)
       refine goes_ Try.func50 (by kernel_rfl) rfl #[.agg #[.int .i64 a0_0, .int .i64 a0_1]] (by rfl) rfl rfl (by (try simp only [zmt, zmc, zmn]); first | done | rfl) ?_
       with_reducible refine (ff_infinity.calls a0_0 a0_1 t153 _ A23.out).mono ?_
       rintro e w31 ⟨rfl, hb⟩
       refine ⟨_, rfl, ?_⟩
       have n0_ := As0.mk (bkb (g := gb145) (o := .cells #[.int .i64 a0_0, .int .i64 a0_1] 43 (0, 0)) (by (with_reducible repeat (first | refine bkN ?_ _ | refine bkd ?_ | refine bka ?_ _)); exact BK145.out) hb)
       have n1_ := As0.mk (bst (by repeat (first | (with_reducible first | exact HB.out | apply bal | apply pwB_ | apply bd1 | refine bse ?_ GE145.out) | exact HB.out)) hb)
       clear BK145
       clear HB
       have BK145 := n0_
       have HB := n1_
       clear n0_ n1_
       (try clear hb)
       (try clear hb2)
       (try clear hk)
       (try clear hi)
       refine hK.out _ _ ⟨(bce BK145.out 0).trans rfl, (bce BK145.out 1).trans rfl⟩ (fun hHeld => ?_)
       clear hK K
       refine norm_ (a' := ?_) ?_ ?_
       rotate_left
       ·show Act.put _ (some 41) _ = _
        simp only [Act.put, zsi, zcz, zcs, i64_w, i32_w]
        rfl
       refine pure_ (i := 7) (N := some 42) (v := ?_) (a' := ?_) #[true, true, true, true, true, true, true, true, false] rfl rfl (any_of HT_.out (by kernel_rfl)) (fun _ _ _ h => h) (Or.inl ⟨by rfl, ?_⟩) ?_ ?_
       rotate_left
       ·intro w'
        go_simp
        with_reducible rfl
       rotate_left
       ·simp only [Act.put, zsi, zcz, zcs, i64_w, i32_w]
        rfl
       refine pure_ (i := 8) (N := some 43) (v := ?_) (a' := ?_) #[true, true, true, true, true, true, true, true, true] rfl rfl (any_of HT_.out (by kernel_rfl)) (fun _ _ _ h => h) (Or.inl ⟨by rfl, ?_⟩) ?_ ?_
       rotate_left
       ·intro w'
        go_simp
        with_reducible rfl
       rotate_left
       ·simp only [Act.put, zsi, zcz, zcs, i64_w, i32_w]
        rfl
       refine done_ (done_of HT_.out (by kernel_rfl)) ?_
       have hcz32_0 : w31.cell? ⟨gb145, 0, none⟩ = some (.int .i64 a0_0) := (bce BK145.out 0).trans rfl
       have hcz32_1 : w31.cell? ⟨gb145, 1, none⟩ = some (.int .i64 a0_1) := (bce BK145.out 1).trans rfl
       have hfz32_0 := bkf BK145.out 0
       have hfz32_1 := bkf BK145.out 1
       try go_wp2_with (first | ((with_reducible refine gcl (f := 42) rfl ?_); refine goesL_ (some 45) rfl rfl Try.func42 (by kernel_rfl) rfl #[.agg #[.int .i64 a0_0, .int .i64 a0_1]] rfl (by (try simp only [zmt, zmc, zmn]); first | done | rfl) ?_; (with_reducible refine (ff_nan.calls a0_0 a0_1 t154 _ A25.out).mono ?_); rintro e w33 ⟨rfl, hb⟩; refine ⟨_, rfl, ?_⟩; have n0_ := As0.mk (bkb (g := gb145) (o := .cells #[.int .i64 a0_0, .int .i64 a0_1] 43 (0, 0)) (by (with_reducible repeat (first | refine bkN ?_ _ | refine bkd ?_ | refine bka ?_ _)); exact BK145.out) hb); have n1_ := As0.mk (bst (by repeat (first | (with_reducible first | exact HB.out | apply bal | apply pwB_ | apply bd1 | refine bse ?_ GE145.out) | exact HB.out)) hb); clear BK145; clear HB; have BK145 := n0_; have HB := n1_; clear n0_ n1_; (try clear hb); (try clear hb2); (try clear hk); (try clear hi)))
       go_ret
       exact ⟨by first | rfl | (simp [*] <;> rfl), by repeat (first | (with_reducible first | exact HB.out | apply bal | apply pwB_ | apply bd1 | refine bse ?_ GE145.out) | exact HB.out)⟩
      ·rw [if_neg c24] at H
       have c24b0 : (t152 == t153) = false := beq_eq_false_iff_ne.mpr c24
       have c24b1 : (t152 != t153) = true := bne_iff_ne.mpr c24
       obtain rfl := Option.some.inj H
       try go_wp2
       have n0_ := As0.mk (bkd BK145.out)
       have n1_ := As0.mk (bd1 HB.out)
       clear BK145
       clear HB
       have BK145 := n0_
       have HB := n1_
       clear n0_ n1_
       refine start_ (n := 7) (S := fun w' => w'.cell? ⟨gb145, 0, none⟩ = some (.int .i64 a0_0) ∧ w'.cell? ⟨gb145, 1, none⟩ = some (.int .i64 a0_1)) (ds := []) #[false, false, false, false, false, false, false] (by kernel_rfl) rfl rfl ⟨(bce BK145.out 0).trans rfl, (bce BK145.out 1).trans rfl⟩ (fun hHeld => ?_)
       generalize w17.drew = w34 at BK145 HB hHeld ⊢
       refine pure_ (i := 1) (N := some 30) (v := ?_) (a' := ?_) #[false, true, false, false, false, false, false] rfl rfl (by kernel_rfl) (fun _ _ _ h => h) (Or.inl ⟨by rfl, ?_⟩) ?_ ?_
       rotate_left
       ·intro w'
        go_simp
        with_reducible rfl
       rotate_left
       ·simp only [Act.put, zsi, zcz, zcs, i64_w, i32_w]
        rfl
       refine take_ (i := 0) (N := some 29) (v := ?_) (a' := ?_) #[true, true, false, false, false, false, false] rfl rfl (by kernel_rfl) (fun _ _ _ h => h) (Or.inl ⟨by rfl, ?_⟩) hHeld ?_ ?_
       rotate_left
       ·rintro w' ⟨s0, s1⟩
        go_simp
        with_reducible rfl
       rotate_left
       ·simp only [Act.put, zsi, zcz, zcs, i64_w, i32_w]
        rfl
       refine take_ (i := 3) (N := some 32) (v := ?_) (a' := ?_) #[true, true, false, true, false, false, false] rfl rfl (by kernel_rfl) (fun _ _ _ h => h) (Or.inl ⟨by rfl, ?_⟩) hHeld ?_ ?_
       rotate_left
       ·rintro w' ⟨s0, s1⟩
        go_simp
        with_reducible rfl
       rotate_left
       ·simp only [Act.put, zsi, zcz, zcs, i64_w, i32_w]
        rfl
       refine one_ (i := 2) (N := some 31) #[true, true, true, true, false, false, false] rfl rfl (by kernel_rfl) (by decide) (fun K hK => ?_)
       refine goes_ Try.func40 (by kernel_rfl) rfl #[.agg #[.int .i64 a0_0, .int .i64 a0_1], .int .u64 x1_5] (by rfl) rfl rfl (by (try simp only [zmt, zmc, zmn]); first | done | rfl) ?_
       with_reducible refine (ff_size.calls a0_0 a0_1 x1_5 t150 _ A18.out).mono ?_
       rintro e w35 ⟨rfl, hb⟩
       refine ⟨_, rfl, ?_⟩
       have n0_ := As0.mk (bkb (g := gb145) (o := .cells #[.int .i64 a0_0, .int .i64 a0_1] 43 (0, 0)) (by (with_reducible repeat (first | refine bkN ?_ _ | refine bkd ?_ | refine bka ?_ _)); exact BK145.out) hb)
       have n1_ := As0.mk (bst (by repeat (first | (with_reducible first | exact HB.out | apply bal | apply pwB_ | apply bd1 | refine bse ?_ GE145.out) | exact HB.out)) hb)
       clear BK145
       clear HB
       have BK145 := n0_
       have HB := n1_
       clear n0_ n1_
       (try clear hb)
       (try clear hb2)
       (try clear hk)
       (try clear hi)
       refine hK.out _ _ ⟨(bce BK145.out 0).trans rfl, (bce BK145.out 1).trans rfl⟩ (fun hHeld => ?_)
       clear hK K
       refine norm_ (a' := ?_) ?_ ?_
       rotate_left
       ·show Act.put _ (some 31) _ = _
        simp only [Act.put, zsi, zcz, zcs, i64_w, i32_w]
        rfl
       refine one_ (i := 4) (N := some 33) #[true, true, true, true, true, false, false] rfl rfl (by kernel_rfl) (by decide) (fun K hK => ?_)
       refine goes_ Try.func50 (by kernel_rfl) rfl #[.agg #[.int .i64 a0_0, .int .i64 a0_1]] (by rfl) rfl rfl (by (try simp only [zmt, zmc, zmn]); first | done | rfl) ?_
       with_reducible refine (ff_infinity.calls a0_0 a0_1 t151 _ A19.out).mono ?_
       rintro e w36 ⟨rfl, hb⟩
       refine ⟨_, rfl, ?_⟩
       have n0_ := As0.mk (bkb (g := gb145) (o := .cells #[.int .i64 a0_0, .int .i64 a0_1] 43 (0, 0)) (by (with_reducible repeat (first | refine bkN ?_ _ | refine bkd ?_ | refine bka ?_ _)); exact BK145.out) hb)
       have n1_ := As0.mk (bst (by repeat (first | (with_reducible first | exact HB.out | apply bal | apply pwB_ | apply bd1 | refine bse ?_ GE145.out) | exact HB.out)) hb)
       clear BK145
       clear HB
       have BK145 := n0_
       have HB := n1_
       clear n0_ n1_
       (try clear hb)
       (try clear hb2)
       (try clear hk)
       (try clear hi)
       refine hK.out _ _ ⟨(bce BK145.out 0).trans rfl, (bce BK145.out 1).trans rfl⟩ (fun hHeld => ?_)
       clear hK K
       refine norm_ (a' := ?_) ?_ ?_
       rotate_left
       ·show Act.put _ (some 33) _ = _
        simp only [Act.put, zsi, zcz, zcs, i64_w, i32_w]
        rfl
       refine pure_ (i := 5) (N := some 34) (v := ?_) (a' := ?_) #[true, true, true, true, true, true, false] rfl rfl (by kernel_rfl) (fun _ _ _ h => h) (Or.inl ⟨by rfl, ?_⟩) ?_ ?_
       rotate_left
       ·intro w'
        go_simp
        with_reducible rfl
       rotate_left
       ·simp only [Act.put, zsi, zcz, zcs, i64_w, i32_w]
        rfl
       refine pure_ (i := 6) (N := some 28) (v := ?_) (a' := ?_) #[true, true, true, true, true, true, true] rfl rfl (by kernel_rfl) (fun _ _ _ h => h) (Or.inl ⟨by rfl, ?_⟩) ?_ ?_
       rotate_left
       ·intro w'
        go_simp
        with_reducible rfl
       rotate_left
       ·simp only [Act.put, zsi, zcz, zcs, i64_w, i32_w]
        rfl
       refine done_ (by kernel_rfl) ?_
       try go_wp2
       have n0_ := As0.mk (bkd BK145.out)
       have n1_ := As0.mk (bd1 HB.out)
       clear BK145
       clear HB
       have BK145 := n0_
       have HB := n1_
       clear n0_ n1_
       refine start_ (n := 9) (S := fun w' => w'.cell? ⟨gb145, 0, none⟩ = some (.int .i64 a0_0) ∧ w'.cell? ⟨gb145, 1, none⟩ = some (.int .i64 a0_1)) (ds := []) #[false, false, false, false, false, false, false, false, false] (by kernel_rfl) rfl rfl ⟨(bce BK145.out 0).trans rfl, (bce BK145.out 1).trans rfl⟩ (fun hHeld => ?_); refine with_tabW ff_add.tab5 ff_add.bits5 (fun HT_ HW_ => ?_)
       generalize w36.drew = w37 at BK145 HB hHeld ⊢
       refine pure_ (i := 0) (N := some 35) (v := ?_) (a' := ?_) #[true, false, false, false, false, false, false, false, false] rfl rfl (any_of HT_.out (by kernel_rfl)) (fun _ _ _ h => h) (Or.inl ⟨by rfl, ?_⟩) ?_ ?_
       rotate_left
       ·intro w'
        go_simp
        with_reducible rfl
       rotate_left
       ·simp only [Act.put, zsi, zcz, zcs, i64_w, i32_w]
        rfl
       refine pure_ (i := 1) (N := some 36) (v := ?_) (a' := ?_) #[true, true, false, false, false, false, false, false, false] rfl rfl (any_of HT_.out (by kernel_rfl)) (fun _ _ _ h => h) (Or.inl ⟨by rfl, ?_⟩) ?_ ?_
       rotate_left
       ·intro w'
        go_simp
        with_reducible rfl
       rotate_left
       ·simp only [Act.put, zsi, zcz, zcs, i64_w, i32_w]
        rfl
       refine pure_ (i := 3) (N := some 38) (v := ?_) (a' := ?_) #[true, true, false, true, false, false, false, false, false] rfl rfl (any_of HT_.out (by kernel_rfl)) (fun _ _ _ h => h) (Or.inl ⟨by rfl, ?_⟩) ?_ ?_
       rotate_left
       ·intro w'
        go_simp
        with_reducible rfl
       rotate_left
       ·simp only [Act.put, zsi, zcz, zcs, i64_w, i32_w]
        rfl
       refine take_ (i := 2) (N := some 37) (v := ?_) (a' := ?_) #[true, true, true, true, false, false, false, false, false] rfl rfl (take_ofW HT_.out HW_.out (by kernel_rfl)) (fun _ _ _ h => h) (Or.inl ⟨by rfl, ?_⟩) hHeld ?_ ?_
       rotate_left
       ·rintro w' ⟨s0, s1⟩
        go_simp
        with_reducible rfl
       rotate_left
       ·simp only [Act.put, zsi, zcz, zcs, i64_w, i32_w]
        rfl
       refine take_ (i := 5) (N := some 40) (v := ?_) (a' := ?_) #[true, true, true, true, false, true, false, false, false] rfl rfl (take_ofW HT_.out HW_.out (by kernel_rfl)) (fun _ _ _ h => h) (Or.inl ⟨by rfl, ?_⟩) hHeld ?_ ?_
       rotate_left
       ·rintro w' ⟨s0, s1⟩
        go_simp
        with_reducible rfl
       rotate_left
       ·simp only [Act.put, zsi, zcz, zcs, i64_w, i32_w]
        rfl
       refine one_ (i := 4) (N := some 39) #[true, true, true, true, true, true, false, false, false] rfl rfl (one_of HT_.out (by kernel_rfl)) (by decide) (fun K hK => ?_)
       refine goes_ Try.func40 (by kernel_rfl) rfl #[.agg #[.int .i64 a0_0, .int .i64 a0_1], .int .u64 x2_5] (by rfl) rfl rfl (by (try simp only [zmt, zmc, zmn]); first | done | rfl) ?_
       with_reducible refine (ff_size.calls a0_0 a0_1 x2_5 t152 _ A22.out).mono ?_
       rintro e w38 ⟨rfl, hb⟩
       refine ⟨_, rfl, ?_⟩
       have n0_ := As0.mk (bkb (g := gb145) (o := .cells #[.int .i64 a0_0, .int .i64 a0_1] 43 (0, 0)) (by (with_reducible repeat (first | refine bkN ?_ _ | refine bkd ?_ | refine bka ?_ _)); exact BK145.out) hb)
       have n1_ := As0.mk (bst (by repeat (first | (with_reducible first | exact HB.out | apply bal | apply pwB_ | apply bd1 | refine bse ?_ GE145.out) | exact HB.out)) hb)
       clear BK145
       clear HB
       have BK145 := n0_
       have HB := n1_
       clear n0_ n1_
       (try clear hb)
       (try clear hb2)
       (try clear hk)
       (try clear hi)
       refine hK.out _ _ ⟨(bce BK145.out 0).trans rfl, (bce BK145.out 1).trans rfl⟩ (fun hHeld => ?_)
       clear hK K
       refine norm_ (a' := ?_) ?_ ?_
       rotate_left
       ·show Act.put _ (some 39) _ = _
        simp only [Act.put, zsi, zcz, zcs, i64_w, i32_w]
        rfl
       refine one_ (i := 6) (N := some 41) #[true, true, true, true, true, true, true, false, false] rfl rfl (one_of HT_.out (by kernel_rfl)) (by decide) (fun K hK => ?_)
       refine goes_ Try.func50 (by kernel_rfl) rfl #[.agg #[.int .i64 a0_0, .int .i64 a0_1]] (by rfl) rfl rfl (by (try simp only [zmt, zmc, zmn]); first | done | rfl) ?_
       with_reducible refine (ff_infinity.calls a0_0 a0_1 t153 _ A23.out).mono ?_
       rintro e w39 ⟨rfl, hb⟩
       refine ⟨_, rfl, ?_⟩
       have n0_ := As0.mk (bkb (g := gb145) (o := .cells #[.int .i64 a0_0, .int .i64 a0_1] 43 (0, 0)) (by (with_reducible repeat (first | refine bkN ?_ _ | refine bkd ?_ | refine bka ?_ _)); exact BK145.out) hb)
       have n1_ := As0.mk (bst (by repeat (first | (with_reducible first | exact HB.out | apply bal | apply pwB_ | apply bd1 | refine bse ?_ GE145.out) | exact HB.out)) hb)
       clear BK145
       clear HB
       have BK145 := n0_
       have HB := n1_
       clear n0_ n1_
       (try clear hb)
       (try clear hb2)
       (try clear hk)
       (try clear hi)
       refine hK.out _ _ ⟨(bce BK145.out 0).trans rfl, (bce BK145.out 1).trans rfl⟩ (fun hHeld => ?_)
       clear hK K
       refine norm_ (a' := ?_) ?_ ?_
       rotate_left
       ·show Act.put _ (some 41) _ = _
        simp only [Act.put, zsi, zcz, zcs, i64_w, i32_w]
        rfl
       refine pure_ (i := 7) (N := some 42) (v := ?_) (a' := ?_) #[true, true, true, true, true, true, true, true, false] rfl rfl (any_of HT_.out (by kernel_rfl)) (fun _ _ _ h => h) (Or.inl ⟨by rfl, ?_⟩) ?_ ?_
       rotate_left
       ·intro w'
        go_simp
        with_reducible rfl
       rotate_left
       ·simp only [Act.put, zsi, zcz, zcs, i64_w, i32_w]
        rfl
       refine pure_ (i := 8) (N := some 43) (v := ?_) (a' := ?_) #[true, true, true, true, true, true, true, true, true] rfl rfl (any_of HT_.out (by kernel_rfl)) (fun _ _ _ h => h) (Or.inl ⟨by rfl, ?_⟩) ?_ ?_
       rotate_left
       ·intro w'
        go_simp
        with_reducible rfl
       rotate_left
       ·simp only [Act.put, zsi, zcz, zcs, i64_w, i32_w]
        rfl
       refine done_ (done_of HT_.out (by kernel_rfl)) ?_
       try go_wp2
       go_ret
       exact ⟨by first | rfl | (simp [*] <;> rfl), by repeat (first | (with_reducible first | exact HB.out | apply bal | apply pwB_ | apply bd1 | refine bse ?_ GE145.out) | exact HB.out)⟩
     ·rw [if_neg c21] at H
      have c21b0 : (t148 != t149) = false := by simpa using c21
      (try (have c21b1 : decide (t148 = t149) = true := by simpa using c21))
      (try (have c21b2 : (t148 == t149) = true := by simpa using c21))
      clear c21
      obtain rfl := Option.some.inj H
      try go_wp2
      have n0_ := As0.mk (bkd BK145.out)
      have n1_ := As0.mk (bd1 HB.out)
      clear BK145
      clear HB
      have BK145 := n0_
      have HB := n1_
      clear n0_ n1_
      refine start_ (n := 7) (S := fun w' => w'.cell? ⟨gb145, 0, none⟩ = some (.int .i64 a0_0) ∧ w'.cell? ⟨gb145, 1, none⟩ = some (.int .i64 a0_1)) (ds := []) #[false, false, false, false, false, false, false] (by kernel_rfl) rfl rfl ⟨(bce BK145.out 0).trans rfl, (bce BK145.out 1).trans rfl⟩ (fun hHeld => ?_)
      generalize w17.drew = w40 at BK145 HB hHeld ⊢
      refine pure_ (i := 1) (N := some 30) (v := ?_) (a' := ?_) #[false, true, false, false, false, false, false] rfl rfl (by kernel_rfl) (fun _ _ _ h => h) (Or.inl ⟨by rfl, ?_⟩) ?_ ?_
      rotate_left
      ·intro w'
       go_simp
       with_reducible rfl
      rotate_left
      ·simp only [Act.put, zsi, zcz, zcs, i64_w, i32_w]
       rfl
      refine take_ (i := 0) (N := some 29) (v := ?_) (a' := ?_) #[true, true, false, false, false, false, false] rfl rfl (by kernel_rfl) (fun _ _ _ h => h) (Or.inl ⟨by rfl, ?_⟩) hHeld ?_ ?_
      rotate_left
      ·rintro w' ⟨s0, s1⟩
       go_simp
       with_reducible rfl
      rotate_left
      ·simp only [Act.put, zsi, zcz, zcs, i64_w, i32_w]
       rfl
      refine take_ (i := 3) (N := some 32) (v := ?_) (a' := ?_) #[true, true, false, true, false, false, false] rfl rfl (by kernel_rfl) (fun _ _ _ h => h) (Or.inl ⟨by rfl, ?_⟩) hHeld ?_ ?_
      rotate_left
      ·rintro w' ⟨s0, s1⟩
       go_simp
       with_reducible rfl
      rotate_left
      ·simp only [Act.put, zsi, zcz, zcs, i64_w, i32_w]
       rfl
      refine one_ (i := 2) (N := some 31) #[true, true, true, true, false, false, false] rfl rfl (by kernel_rfl) (by decide) (fun K hK => ?_)
      refine goes_ Try.func40 (by kernel_rfl) rfl #[.agg #[.int .i64 a0_0, .int .i64 a0_1], .int .u64 x1_5] (by rfl) rfl rfl (by (try simp only [zmt, zmc, zmn]); first | done | rfl) ?_
      with_reducible refine (ff_size.calls a0_0 a0_1 x1_5 t150 _ A18.out).mono ?_
      rintro e w41 ⟨rfl, hb⟩
      refine ⟨_, rfl, ?_⟩
      have n0_ := As0.mk (bkb (g := gb145) (o := .cells #[.int .i64 a0_0, .int .i64 a0_1] 43 (0, 0)) (by (with_reducible repeat (first | refine bkN ?_ _ | refine bkd ?_ | refine bka ?_ _)); exact BK145.out) hb)
      have n1_ := As0.mk (bst (by repeat (first | (with_reducible first | exact HB.out | apply bal | apply pwB_ | apply bd1 | refine bse ?_ GE145.out) | exact HB.out)) hb)
      clear BK145
      clear HB
      have BK145 := n0_
      have HB := n1_
      clear n0_ n1_
      (try clear hb)
      (try clear hb2)
      (try clear hk)
      (try clear hi)
      refine hK.out _ _ ⟨(bce BK145.out 0).trans rfl, (bce BK145.out 1).trans rfl⟩ (fun hHeld => ?_)
      clear hK K
      refine norm_ (a' := ?_) ?_ ?_
      rotate_left
      ·show Act.put _ (some 31) _ = _
       simp only [Act.put, zsi, zcz, zcs, i64_w, i32_w]
       rfl
      refine one_ (i := 4) (N := some 33) #[true, true, true, true, true, false, false] rfl rfl (by kernel_rfl) (by decide) (fun K hK => ?_)
      refine goes_ Try.func50 (by kernel_rfl) rfl #[.agg #[.int .i64 a0_0, .int .i64 a0_1]] (by rfl) rfl rfl (by (try simp only [zmt, zmc, zmn]); first | done | rfl) ?_
      with_reducible refine (ff_infinity.calls a0_0 a0_1 t151 _ A19.out).mono ?_
      rintro e w42 ⟨rfl, hb⟩
      refine ⟨_, rfl, ?_⟩
      have n0_ := As0.mk (bkb (g := gb145) (o := .cells #[.int .i64 a0_0, .int .i64 a0_1] 43 (0, 0)) (by (with_reducible repeat (first | refine bkN ?_ _ | refine bkd ?_ | refine bka ?_ _)); exact BK145.out) hb)
      have n1_ := As0.mk (bst (by repeat (first | (with_reducible first | exact HB.out | apply bal | apply pwB_ | apply bd1 | refine bse ?_ GE145.out) | exact HB.out)) hb)
      clear BK145
      clear HB
      have BK145 := n0_
      have HB := n1_
      clear n0_ n1_
      (try clear hb)
      (try clear hb2)
      (try clear hk)
      (try clear hi)
      refine hK.out _ _ ⟨(bce BK145.out 0).trans rfl, (bce BK145.out 1).trans rfl⟩ (fun hHeld => ?_)
      clear hK K
      refine norm_ (a' := ?_) ?_ ?_
      rotate_left
      ·show Act.put _ (some 33) _ = _
       simp only [Act.put, zsi, zcz, zcs, i64_w, i32_w]
       rfl
      refine pure_ (i := 5) (N := some 34) (v := ?_) (a' := ?_) #[true, true, true, true, true, true, false] rfl rfl (by kernel_rfl) (fun _ _ _ h => h) (Or.inl ⟨by rfl, ?_⟩) ?_ ?_
      rotate_left
      ·intro w'
       go_simp
       with_reducible rfl
      rotate_left
      ·simp only [Act.put, zsi, zcz, zcs, i64_w, i32_w]
       rfl
      refine pure_ (i := 6) (N := some 28) (v := ?_) (a' := ?_) #[true, true, true, true, true, true, true] rfl rfl (by kernel_rfl) (fun _ _ _ h => h) (Or.inl ⟨by rfl, ?_⟩) ?_ ?_
      rotate_left
      ·intro w'
       go_simp
       with_reducible rfl
      rotate_left
      ·simp only [Act.put, zsi, zcz, zcs, i64_w, i32_w]
       rfl
      refine done_ (by kernel_rfl) ?_
      try go_wp2
      have n0_ := As0.mk (bkd BK145.out)
      have n1_ := As0.mk (bd1 HB.out)
      clear BK145
      clear HB
      have BK145 := n0_
      have HB := n1_
      clear n0_ n1_
      refine start_ (n := 9) (S := fun w' => True) (ds := []) #[false, false, false, false, false, false, false, false, false] (by kernel_rfl) rfl rfl trivial (fun hHeld => ?_); refine with_tabW ff_add.tab5 ff_add.bits5 (fun HT_ HW_ => ?_)
      generalize w42.drew = w43 at BK145 HB hHeld ⊢
      refine pure_ (i := 0) (N := some 35) (v := ?_) (a' := ?_) #[true, false, false, false, false, false, false, false, false] rfl rfl (any_of HT_.out (by kernel_rfl)) (fun _ _ _ h => h) (Or.inl ⟨by rfl, ?_⟩) ?_ ?_
      rotate_left
      ·intro w'
       go_simp
       with_reducible rfl
      rotate_left
      ·simp only [Act.put, zsi, zcz, zcs, i64_w, i32_w]
       rfl
      refine pure_ (i := 1) (N := some 36) (v := ?_) (a' := ?_) #[true, true, false, false, false, false, false, false, false] rfl rfl (any_of HT_.out (by kernel_rfl)) (fun _ _ _ h => h) (Or.inl ⟨by rfl, ?_⟩) ?_ ?_
      rotate_left
      ·intro w'
       go_simp
       with_reducible rfl
      rotate_left
      ·simp only [Act.put, zsi, zcz, zcs, i64_w, i32_w]
       rfl
      refine pure_ (i := 2) (N := some 37) (v := undef) (a' := ?_) #[true, true, true, false, false, false, false, false, false] rfl rfl (any_of HT_.out (by kernel_rfl)) (fun _ _ _ h => h) (Or.inr ⟨by rfl, rfl⟩) ?_ ?_
      rotate_left
      ·simp only [Act.put, zsi, zcz, zcs, i64_w, i32_w]
       rfl
      refine pure_ (i := 3) (N := some 38) (v := undef) (a' := ?_) #[true, true, true, true, false, false, false, false, false] rfl rfl (any_of HT_.out (by kernel_rfl)) (fun _ _ _ h => h) (Or.inr ⟨by rfl, rfl⟩) ?_ ?_
      rotate_left
      ·simp only [Act.put, zsi, zcz, zcs, i64_w, i32_w]
       rfl
      refine pure_ (i := 4) (N := some 39) (v := undef) (a' := ?_) #[true, true, true, true, true, false, false, false, false] rfl rfl (any_of HT_.out (by kernel_rfl)) (fun _ _ _ h => h) (Or.inr ⟨by rfl, rfl⟩) ?_ ?_
      rotate_left
      ·simp only [Act.put, zsi, zcz, zcs, i64_w, i32_w]
       rfl
      refine pure_ (i := 5) (N := some 40) (v := undef) (a' := ?_) #[true, true, true, true, true, true, false, false, false] rfl rfl (any_of HT_.out (by kernel_rfl)) (fun _ _ _ h => h) (Or.inr ⟨by rfl, rfl⟩) ?_ ?_
      rotate_left
      ·simp only [Act.put, zsi, zcz, zcs, i64_w, i32_w]
       rfl
      refine pure_ (i := 6) (N := some 41) (v := undef) (a' := ?_) #[true, true, true, true, true, true, true, false, false] rfl rfl (any_of HT_.out (by kernel_rfl)) (fun _ _ _ h => h) (Or.inr ⟨by rfl, rfl⟩) ?_ ?_
      rotate_left
      ·simp only [Act.put, zsi, zcz, zcs, i64_w, i32_w]
       rfl
      refine pure_ (i := 7) (N := some 42) (v := undef) (a' := ?_) #[true, true, true, true, true, true, true, true, false] rfl rfl (any_of HT_.out (by kernel_rfl)) (fun _ _ _ h => h) (Or.inr ⟨by rfl, rfl⟩) ?_ ?_
      rotate_left
      ·simp only [Act.put, zsi, zcz, zcs, i64_w, i32_w]
       rfl
      refine pure_ (i := 8) (N := some 43) (v := ?_) (a' := ?_) #[true, true, true, true, true, true, true, true, true] rfl rfl (any_of HT_.out (by kernel_rfl)) (fun _ _ _ h => h) (Or.inl ⟨by rfl, ?_⟩) ?_ ?_
      rotate_left
      ·intro w'
       go_simp
       with_reducible rfl
      rotate_left
      ·simp only [Act.put, zsi, zcz, zcs, i64_w, i32_w]
       rfl
      refine done_ (done_of HT_.out (by kernel_rfl)) ?_
      try go_wp2
      go_ret
      exact ⟨by first | rfl | (simp [*] <;> rfl), by repeat (first | (with_reducible first | exact HB.out | apply bal | apply pwB_ | apply bd1 | refine bse ?_ GE145.out) | exact HB.out)⟩
    ·rw [if_neg c20] at H
     have c20b0 : (t150 == t151) = false := beq_eq_false_iff_ne.mpr c20
     have c20b1 : (t150 != t151) = true := bne_iff_ne.mpr c20
     (first | rw [c20b0] | (simp only [i64_w, i32_w]; rw [c20b0]) | skip)
     replace H := zob H
     obtain ⟨t155, A440, H⟩ := H
     replace H : (if t155 = 0 then ((ff_size.f a0_0 a0_1 x1_5).bind fun t156 => (if t156 > 0 then (some x1_5) else (ff_add.j1 kj5 x1_5 x2_5 (t148 != t149) a0_0 a0_1))) else (ff_add.j1 kj5 x1_5 x2_5 (t148 != t149) a0_0 a0_1)) = some r := H
     have A44 := As0.mk A440
     clear A440
     by_cases c45 : t155 = 0
     ·rw [if_pos c45] at H
      have c45b0 : (t155 == 0) = true := beq_iff_eq.mpr c45
      have c45b1 : (t155 != 0) = false := bne_eq_false_iff_eq.mpr c45
      clear c45
      replace H := zob H
      obtain ⟨t156, A460, H⟩ := H
      replace H : (if t156 > 0 then (some x1_5) else (ff_add.j1 kj5 x1_5 x2_5 (t148 != t149) a0_0 a0_1)) = some r := H
      have A46 := As0.mk A460
      clear A460
      by_cases c47 : t156 > 0
      ·rw [if_pos c47] at H
       have c47b0 : decide (0 < t156) = true := decide_eq_true c47
       clear c47
       obtain rfl := Option.some.inj H
       try go_wp2
       have n0_ := As0.mk (bkd BK145.out)
       have n1_ := As0.mk (bd1 HB.out)
       clear BK145
       clear HB
       have BK145 := n0_
       have HB := n1_
       clear n0_ n1_
       refine start_ (n := 7) (S := fun w' => w'.cell? ⟨gb145, 0, none⟩ = some (.int .i64 a0_0) ∧ w'.cell? ⟨gb145, 1, none⟩ = some (.int .i64 a0_1)) (ds := []) #[false, false, false, false, false, false, false] (by kernel_rfl) rfl rfl ⟨(bce BK145.out 0).trans rfl, (bce BK145.out 1).trans rfl⟩ (fun hHeld => ?_)
       generalize w17.drew = w48 at BK145 HB hHeld ⊢
       refine pure_ (i := 1) (N := some 30) (v := ?_) (a' := ?_) #[false, true, false, false, false, false, false] rfl rfl (by kernel_rfl) (fun _ _ _ h => h) (Or.inl ⟨by rfl, ?_⟩) ?_ ?_
       rotate_left
       ·intro w'
        go_simp
        with_reducible rfl
       rotate_left
       ·simp only [Act.put, zsi, zcz, zcs, i64_w, i32_w]
        rfl
       refine take_ (i := 0) (N := some 29) (v := ?_) (a' := ?_) #[true, true, false, false, false, false, false] rfl rfl (by kernel_rfl) (fun _ _ _ h => h) (Or.inl ⟨by rfl, ?_⟩) hHeld ?_ ?_
       rotate_left
       ·rintro w' ⟨s0, s1⟩
        go_simp
        with_reducible rfl
       rotate_left
       ·simp only [Act.put, zsi, zcz, zcs, i64_w, i32_w]
        rfl
       refine take_ (i := 3) (N := some 32) (v := ?_) (a' := ?_) #[true, true, false, true, false, false, false] rfl rfl (by kernel_rfl) (fun _ _ _ h => h) (Or.inl ⟨by rfl, ?_⟩) hHeld ?_ ?_
       rotate_left
       ·rintro w' ⟨s0, s1⟩
        go_simp
        with_reducible rfl
       rotate_left
       ·simp only [Act.put, zsi, zcz, zcs, i64_w, i32_w]
        rfl
       refine one_ (i := 2) (N := some 31) #[true, true, true, true, false, false, false] rfl rfl (by kernel_rfl) (by decide) (fun K hK => ?_)
       refine goes_ Try.func40 (by kernel_rfl) rfl #[.agg #[.int .i64 a0_0, .int .i64 a0_1], .int .u64 x1_5] (by rfl) rfl rfl (by (try simp only [zmt, zmc, zmn]); first | done | rfl) ?_
       with_reducible refine (ff_size.calls a0_0 a0_1 x1_5 t150 _ A18.out).mono ?_
       rintro e w49 ⟨rfl, hb⟩
       refine ⟨_, rfl, ?_⟩
       have n0_ := As0.mk (bkb (g := gb145) (o := .cells #[.int .i64 a0_0, .int .i64 a0_1] 43 (0, 0)) (by (with_reducible repeat (first | refine bkN ?_ _ | refine bkd ?_ | refine bka ?_ _)); exact BK145.out) hb)
       have n1_ := As0.mk (bst (by repeat (first | (with_reducible first | exact HB.out | apply bal | apply pwB_ | apply bd1 | refine bse ?_ GE145.out) | exact HB.out)) hb)
       clear BK145
       clear HB
       have BK145 := n0_
       have HB := n1_
       clear n0_ n1_
       (try clear hb)
       (try clear hb2)
       (try clear hk)
       (try clear hi)
       refine hK.out _ _ ⟨(bce BK145.out 0).trans rfl, (bce BK145.out 1).trans rfl⟩ (fun hHeld => ?_)
       clear hK K
       refine norm_ (a' := ?_) ?_ ?_
       rotate_left
       ·show Act.put _ (some 31) _ = _
        simp only [Act.put, zsi, zcz, zcs, i64_w, i32_w]
        rfl
       refine one_ (i := 4) (N := some 33) #[true, true, true, true, true, false, false] rfl rfl (by kernel_rfl) (by decide) (fun K hK => ?_)
       refine goes_ Try.func50 (by kernel_rfl) rfl #[.agg #[.int .i64 a0_0, .int .i64 a0_1]] (by rfl) rfl rfl (by (try simp only [zmt, zmc, zmn]); first | done | rfl) ?_
       with_reducible refine (ff_infinity.calls a0_0 a0_1 t151 _ A19.out).mono ?_
       rintro e w50 ⟨rfl, hb⟩
       refine ⟨_, rfl, ?_⟩
       have n0_ := As0.mk (bkb (g := gb145) (o := .cells #[.int .i64 a0_0, .int .i64 a0_1] 43 (0, 0)) (by (with_reducible repeat (first | refine bkN ?_ _ | refine bkd ?_ | refine bka ?_ _)); exact BK145.out) hb)
       have n1_ := As0.mk (bst (by repeat (first | (with_reducible first | exact HB.out | apply bal | apply pwB_ | apply bd1 | refine bse ?_ GE145.out) | exact HB.out)) hb)
       clear BK145
       clear HB
       have BK145 := n0_
       have HB := n1_
       clear n0_ n1_
       (try clear hb)
       (try clear hb2)
       (try clear hk)
       (try clear hi)
       refine hK.out _ _ ⟨(bce BK145.out 0).trans rfl, (bce BK145.out 1).trans rfl⟩ (fun hHeld => ?_)
       clear hK K
       refine norm_ (a' := ?_) ?_ ?_
       rotate_left
       ·show Act.put _ (some 33) _ = _
        simp only [Act.put, zsi, zcz, zcs, i64_w, i32_w]
        rfl
       refine pure_ (i := 5) (N := some 34) (v := ?_) (a' := ?_) #[true, true, true, true, true, true, false] rfl rfl (by kernel_rfl) (fun _ _ _ h => h) (Or.inl ⟨by rfl, ?_⟩) ?_ ?_
       rotate_left
       ·intro w'
        go_simp
        with_reducible rfl
       rotate_left
       ·simp only [Act.put, zsi, zcz, zcs, i64_w, i32_w]
        rfl
       refine pure_ (i := 6) (N := some 28) (v := ?_) (a' := ?_) #[true, true, true, true, true, true, true] rfl rfl (by kernel_rfl) (fun _ _ _ h => h) (Or.inl ⟨by rfl, ?_⟩) ?_ ?_
       rotate_left
       ·intro w'
        go_simp
        with_reducible rfl
       rotate_left
       ·simp only [Act.put, zsi, zcz, zcs, i64_w, i32_w]
        rfl
       refine done_ (by kernel_rfl) ?_
       have hcz51_0 : w50.cell? ⟨gb145, 0, none⟩ = some (.int .i64 a0_0) := (bce BK145.out 0).trans rfl
       have hcz51_1 : w50.cell? ⟨gb145, 1, none⟩ = some (.int .i64 a0_1) := (bce BK145.out 1).trans rfl
       have hfz51_0 := bkf BK145.out 0
       have hfz51_1 := bkf BK145.out 1
       try go_wp2_with (first | ((with_reducible refine gcl (f := 40) rfl ?_); refine goesL_ (some 50) rfl rfl Try.func40 (by kernel_rfl) rfl #[.agg #[.int .i64 a0_0, .int .i64 a0_1], .int .u64 x2_5] rfl (by (try simp only [zmt, zmc, zmn]); first | done | rfl) ?_; (with_reducible refine (ff_size.calls a0_0 a0_1 x2_5 t155 _ A44.out).mono ?_); rintro e w52 ⟨rfl, hb⟩; refine ⟨_, rfl, ?_⟩; have n0_ := As0.mk (bkb (g := gb145) (o := .cells #[.int .i64 a0_0, .int .i64 a0_1] 43 (0, 0)) (by (with_reducible repeat (first | refine bkN ?_ _ | refine bkd ?_ | refine bka ?_ _)); exact BK145.out) hb); have n1_ := As0.mk (bst (by repeat (first | (with_reducible first | exact HB.out | apply bal | apply pwB_ | apply bd1 | refine bse ?_ GE145.out) | exact HB.out)) hb); clear BK145; clear HB; have BK145 := n0_; have HB := n1_; clear n0_ n1_; (try clear hb); (try clear hb2); (try clear hk); (try clear hi); have hcz53_0 : w52.cell? ⟨gb145, 0, none⟩ = some (.int .i64 a0_0) := (bce BK145.out 0).trans rfl; have hcz53_1 : w52.cell? ⟨gb145, 1, none⟩ = some (.int .i64 a0_1) := (bce BK145.out 1).trans rfl; have hfz53_0 := bkf BK145.out 0; have hfz53_1 := bkf BK145.out 1) | (go_at_call 40; (with_reducible refine (ff_size.calls a0_0 a0_1 x1_5 t156 _ A46.out).mono ?_); rintro e w54 ⟨rfl, hb⟩; have n0_ := As0.mk (bkb (g := gb145) (o := .cells #[.int .i64 a0_0, .int .i64 a0_1] 43 (0, 0)) (by (with_reducible repeat (first | refine bkN ?_ _ | refine bkd ?_ | refine bka ?_ _)); exact BK145.out) hb); have n1_ := As0.mk (bst (by repeat (first | (with_reducible first | exact HB.out | apply bal | apply pwB_ | apply bd1 | refine bse ?_ GE145.out) | exact HB.out)) hb); clear BK145; clear HB; have BK145 := n0_; have HB := n1_; clear n0_ n1_; (try clear hb); (try clear hb2); (try clear hk); (try clear hi)))
       go_ret
       exact ⟨by first | rfl | (simp [*] <;> rfl), by repeat (first | (with_reducible first | exact HB.out | apply bal | apply pwB_ | apply bd1 | refine bse ?_ GE145.out) | exact HB.out)⟩
      ·rw [if_neg c47] at H
       have c47b0 : decide (0 < t156) = false := decide_eq_false c47
       clear c47
       have H' := As0.mk H
       clear H
       try go_wp2
       have n0_ := As0.mk (bkd BK145.out)
       have n1_ := As0.mk (bd1 HB.out)
       clear BK145
       clear HB
       have BK145 := n0_
       have HB := n1_
       clear n0_ n1_
       refine start_ (n := 7) (S := fun w' => w'.cell? ⟨gb145, 0, none⟩ = some (.int .i64 a0_0) ∧ w'.cell? ⟨gb145, 1, none⟩ = some (.int .i64 a0_1)) (ds := []) #[false, false, false, false, false, false, false] (by kernel_rfl) rfl rfl ⟨(bce BK145.out 0).trans rfl, (bce BK145.out 1).trans rfl⟩ (fun hHeld => ?_)
       generalize w17.drew = w55 at BK145 HB hHeld ⊢
       refine pure_ (i := 1) (N := some 30) (v := ?_) (a' := ?_) #[false, true, false, false, false, false, false] rfl rfl (by kernel_rfl) (fun _ _ _ h => h) (Or.inl ⟨by rfl, ?_⟩) ?_ ?_
       rotate_left
       ·intro w'
        go_simp
        with_reducible rfl
       rotate_left
       ·simp only [Act.put, zsi, zcz, zcs, i64_w, i32_w]
        rfl
       refine take_ (i := 0) (N := some 29) (v := ?_) (a' := ?_) #[true, true, false, false, false, false, false] rfl rfl (by kernel_rfl) (fun _ _ _ h => h) (Or.inl ⟨by rfl, ?_⟩) hHeld ?_ ?_
       rotate_left
       ·rintro w' ⟨s0, s1⟩
        go_simp
        with_reducible rfl
       rotate_left
       ·simp only [Act.put, zsi, zcz, zcs, i64_w, i32_w]
        rfl
       refine take_ (i := 3) (N := some 32) (v := ?_) (a' := ?_) #[true, true, false, true, false, false, false] rfl rfl (by kernel_rfl) (fun _ _ _ h => h) (Or.inl ⟨by rfl, ?_⟩) hHeld ?_ ?_
       rotate_left
       ·rintro w' ⟨s0, s1⟩
        go_simp
        with_reducible rfl
       rotate_left
       ·simp only [Act.put, zsi, zcz, zcs, i64_w, i32_w]
        rfl
       refine one_ (i := 2) (N := some 31) #[true, true, true, true, false, false, false] rfl rfl (by kernel_rfl) (by decide) (fun K hK => ?_)
       refine goes_ Try.func40 (by kernel_rfl) rfl #[.agg #[.int .i64 a0_0, .int .i64 a0_1], .int .u64 x1_5] (by rfl) rfl rfl (by (try simp only [zmt, zmc, zmn]); first | done | rfl) ?_
       with_reducible refine (ff_size.calls a0_0 a0_1 x1_5 t150 _ A18.out).mono ?_
       rintro e w56 ⟨rfl, hb⟩
       refine ⟨_, rfl, ?_⟩
       have n0_ := As0.mk (bkb (g := gb145) (o := .cells #[.int .i64 a0_0, .int .i64 a0_1] 43 (0, 0)) (by (with_reducible repeat (first | refine bkN ?_ _ | refine bkd ?_ | refine bka ?_ _)); exact BK145.out) hb)
       have n1_ := As0.mk (bst (by repeat (first | (with_reducible first | exact HB.out | apply bal | apply pwB_ | apply bd1 | refine bse ?_ GE145.out) | exact HB.out)) hb)
       clear BK145
       clear HB
       have BK145 := n0_
       have HB := n1_
       clear n0_ n1_
       (try clear hb)
       (try clear hb2)
       (try clear hk)
       (try clear hi)
       refine hK.out _ _ ⟨(bce BK145.out 0).trans rfl, (bce BK145.out 1).trans rfl⟩ (fun hHeld => ?_)
       clear hK K
       refine norm_ (a' := ?_) ?_ ?_
       rotate_left
       ·show Act.put _ (some 31) _ = _
        simp only [Act.put, zsi, zcz, zcs, i64_w, i32_w]
        rfl
       refine one_ (i := 4) (N := some 33) #[true, true, true, true, true, false, false] rfl rfl (by kernel_rfl) (by decide) (fun K hK => ?_)
       refine goes_ Try.func50 (by kernel_rfl) rfl #[.agg #[.int .i64 a0_0, .int .i64 a0_1]] (by rfl) rfl rfl (by (try simp only [zmt, zmc, zmn]); first | done | rfl) ?_
       with_reducible refine (ff_infinity.calls a0_0 a0_1 t151 _ A19.out).mono ?_
       rintro e w57 ⟨rfl, hb⟩
       refine ⟨_, rfl, ?_⟩
       have n0_ := As0.mk (bkb (g := gb145) (o := .cells #[.int .i64 a0_0, .int .i64 a0_1] 43 (0, 0)) (by (with_reducible repeat (first | refine bkN ?_ _ | refine bkd ?_ | refine bka ?_ _)); exact BK145.out) hb)
       have n1_ := As0.mk (bst (by repeat (first | (with_reducible first | exact HB.out | apply bal | apply pwB_ | apply bd1 | refine bse ?_ GE145.out) | exact HB.out)) hb)
       clear BK145
       clear HB
       have BK145 := n0_
       have HB := n1_
       clear n0_ n1_
       (try clear hb)
       (try clear hb2)
       (try clear hk)
       (try clear hi)
       refine hK.out _ _ ⟨(bce BK145.out 0).trans rfl, (bce BK145.out 1).trans rfl⟩ (fun hHeld => ?_)
       clear hK K
       refine norm_ (a' := ?_) ?_ ?_
       rotate_left
       ·show Act.put _ (some 33) _ = _
        simp only [Act.put, zsi, zcz, zcs, i64_w, i32_w]
        rfl
       refine pure_ (i := 5) (N := some 34) (v := ?_) (a' := ?_) #[true, true, true, true, true, true, false] rfl rfl (by kernel_rfl) (fun _ _ _ h => h) (Or.inl ⟨by rfl, ?_⟩) ?_ ?_
       rotate_left
       ·intro w'
        go_simp
        with_reducible rfl
       rotate_left
       ·simp only [Act.put, zsi, zcz, zcs, i64_w, i32_w]
        rfl
       refine pure_ (i := 6) (N := some 28) (v := ?_) (a' := ?_) #[true, true, true, true, true, true, true] rfl rfl (by kernel_rfl) (fun _ _ _ h => h) (Or.inl ⟨by rfl, ?_⟩) ?_ ?_
       rotate_left
       ·intro w'
        go_simp
        with_reducible rfl
       rotate_left
       ·simp only [Act.put, zsi, zcz, zcs, i64_w, i32_w]
        rfl
       refine done_ (by kernel_rfl) ?_
       have hcz58_0 : w57.cell? ⟨gb145, 0, none⟩ = some (.int .i64 a0_0) := (bce BK145.out 0).trans rfl
       have hcz58_1 : w57.cell? ⟨gb145, 1, none⟩ = some (.int .i64 a0_1) := (bce BK145.out 1).trans rfl
       have hfz58_0 := bkf BK145.out 0
       have hfz58_1 := bkf BK145.out 1
       try go_wp2_with (first | ((with_reducible refine gcl (f := 40) rfl ?_); refine goesL_ (some 50) rfl rfl Try.func40 (by kernel_rfl) rfl #[.agg #[.int .i64 a0_0, .int .i64 a0_1], .int .u64 x2_5] rfl (by (try simp only [zmt, zmc, zmn]); first | done | rfl) ?_; (with_reducible refine (ff_size.calls a0_0 a0_1 x2_5 t155 _ A44.out).mono ?_); rintro e w59 ⟨rfl, hb⟩; refine ⟨_, rfl, ?_⟩; have n0_ := As0.mk (bkb (g := gb145) (o := .cells #[.int .i64 a0_0, .int .i64 a0_1] 43 (0, 0)) (by (with_reducible repeat (first | refine bkN ?_ _ | refine bkd ?_ | refine bka ?_ _)); exact BK145.out) hb); have n1_ := As0.mk (bst (by repeat (first | (with_reducible first | exact HB.out | apply bal | apply pwB_ | apply bd1 | refine bse ?_ GE145.out) | exact HB.out)) hb); clear BK145; clear HB; have BK145 := n0_; have HB := n1_; clear n0_ n1_; (try clear hb); (try clear hb2); (try clear hk); (try clear hi); have hcz60_0 : w59.cell? ⟨gb145, 0, none⟩ = some (.int .i64 a0_0) := (bce BK145.out 0).trans rfl; have hcz60_1 : w59.cell? ⟨gb145, 1, none⟩ = some (.int .i64 a0_1) := (bce BK145.out 1).trans rfl; have hfz60_0 := bkf BK145.out 0; have hfz60_1 := bkf BK145.out 1) | (go_at_call 40; (with_reducible refine (ff_size.calls a0_0 a0_1 x1_5 t156 _ A46.out).mono ?_); rintro e w61 ⟨rfl, hb⟩; have n0_ := As0.mk (bkb (g := gb145) (o := .cells #[.int .i64 a0_0, .int .i64 a0_1] 43 (0, 0)) (by (with_reducible repeat (first | refine bkN ?_ _ | refine bkd ?_ | refine bka ?_ _)); exact BK145.out) hb); have n1_ := As0.mk (bst (by repeat (first | (with_reducible first | exact HB.out | apply bal | apply pwB_ | apply bd1 | refine bse ?_ GE145.out) | exact HB.out)) hb); clear BK145; clear HB; have BK145 := n0_; have HB := n1_; clear n0_ n1_; (try clear hb); (try clear hb2); (try clear hk); (try clear hi)))
       go_meet
       case rel => exact ⟨_, H', ⟨by have := HJ5.out; first | omega | exact Nat.le_refl _⟩, ⟨by (with_reducible repeat (first | refine bkN ?_ _ | refine bkd ?_ | refine bka ?_ _)); exact BK145.out⟩, ⟨by repeat (first | (with_reducible first | exact HB.out | apply bal | apply pwB_ | apply bd1 | refine bse ?_ GE145.out) | exact HB.out)⟩⟩
     ·rw [if_neg c45] at H
      have c45b0 : (t155 == 0) = false := beq_eq_false_iff_ne.mpr c45
      have c45b1 : (t155 != 0) = true := bne_iff_ne.mpr c45
      have H' := As0.mk H
      clear H
      try go_wp2
      have n0_ := As0.mk (bkd BK145.out)
      have n1_ := As0.mk (bd1 HB.out)
      clear BK145
      clear HB
      have BK145 := n0_
      have HB := n1_
      clear n0_ n1_
      refine start_ (n := 7) (S := fun w' => w'.cell? ⟨gb145, 0, none⟩ = some (.int .i64 a0_0) ∧ w'.cell? ⟨gb145, 1, none⟩ = some (.int .i64 a0_1)) (ds := []) #[false, false, false, false, false, false, false] (by kernel_rfl) rfl rfl ⟨(bce BK145.out 0).trans rfl, (bce BK145.out 1).trans rfl⟩ (fun hHeld => ?_)
      generalize w17.drew = w62 at BK145 HB hHeld ⊢
      refine pure_ (i := 1) (N := some 30) (v := ?_) (a' := ?_) #[false, true, false, false, false, false, false] rfl rfl (by kernel_rfl) (fun _ _ _ h => h) (Or.inl ⟨by rfl, ?_⟩) ?_ ?_
      rotate_left
      ·intro w'
       go_simp
       with_reducible rfl
      rotate_left
      ·simp only [Act.put, zsi, zcz, zcs, i64_w, i32_w]
       rfl
      refine take_ (i := 0) (N := some 29) (v := ?_) (a' := ?_) #[true, true, false, false, false, false, false] rfl rfl (by kernel_rfl) (fun _ _ _ h => h) (Or.inl ⟨by rfl, ?_⟩) hHeld ?_ ?_
      rotate_left
      ·rintro w' ⟨s0, s1⟩
       go_simp
       with_reducible rfl
      rotate_left
      ·simp only [Act.put, zsi, zcz, zcs, i64_w, i32_w]
       rfl
      refine take_ (i := 3) (N := some 32) (v := ?_) (a' := ?_) #[true, true, false, true, false, false, false] rfl rfl (by kernel_rfl) (fun _ _ _ h => h) (Or.inl ⟨by rfl, ?_⟩) hHeld ?_ ?_
      rotate_left
      ·rintro w' ⟨s0, s1⟩
       go_simp
       with_reducible rfl
      rotate_left
      ·simp only [Act.put, zsi, zcz, zcs, i64_w, i32_w]
       rfl
      refine one_ (i := 2) (N := some 31) #[true, true, true, true, false, false, false] rfl rfl (by kernel_rfl) (by decide) (fun K hK => ?_)
      refine goes_ Try.func40 (by kernel_rfl) rfl #[.agg #[.int .i64 a0_0, .int .i64 a0_1], .int .u64 x1_5] (by rfl) rfl rfl (by (try simp only [zmt, zmc, zmn]); first | done | rfl) ?_
      with_reducible refine (ff_size.calls a0_0 a0_1 x1_5 t150 _ A18.out).mono ?_
      rintro e w63 ⟨rfl, hb⟩
      refine ⟨_, rfl, ?_⟩
      have n0_ := As0.mk (bkb (g := gb145) (o := .cells #[.int .i64 a0_0, .int .i64 a0_1] 43 (0, 0)) (by (with_reducible repeat (first | refine bkN ?_ _ | refine bkd ?_ | refine bka ?_ _)); exact BK145.out) hb)
      have n1_ := As0.mk (bst (by repeat (first | (with_reducible first | exact HB.out | apply bal | apply pwB_ | apply bd1 | refine bse ?_ GE145.out) | exact HB.out)) hb)
      clear BK145
      clear HB
      have BK145 := n0_
      have HB := n1_
      clear n0_ n1_
      (try clear hb)
      (try clear hb2)
      (try clear hk)
      (try clear hi)
      refine hK.out _ _ ⟨(bce BK145.out 0).trans rfl, (bce BK145.out 1).trans rfl⟩ (fun hHeld => ?_)
      clear hK K
      refine norm_ (a' := ?_) ?_ ?_
      rotate_left
      ·show Act.put _ (some 31) _ = _
       simp only [Act.put, zsi, zcz, zcs, i64_w, i32_w]
       rfl
      refine one_ (i := 4) (N := some 33) #[true, true, true, true, true, false, false] rfl rfl (by kernel_rfl) (by decide) (fun K hK => ?_)
      refine goes_ Try.func50 (by kernel_rfl) rfl #[.agg #[.int .i64 a0_0, .int .i64 a0_1]] (by rfl) rfl rfl (by (try simp only [zmt, zmc, zmn]); first | done | rfl) ?_
      with_reducible refine (ff_infinity.calls a0_0 a0_1 t151 _ A19.out).mono ?_
      rintro e w64 ⟨rfl, hb⟩
      refine ⟨_, rfl, ?_⟩
      have n0_ := As0.mk (bkb (g := gb145) (o := .cells #[.int .i64 a0_0, .int .i64 a0_1] 43 (0, 0)) (by (with_reducible repeat (first | refine bkN ?_ _ | refine bkd ?_ | refine bka ?_ _)); exact BK145.out) hb)
      have n1_ := As0.mk (bst (by repeat (first | (with_reducible first | exact HB.out | apply bal | apply pwB_ | apply bd1 | refine bse ?_ GE145.out) | exact HB.out)) hb)
      clear BK145
      clear HB
      have BK145 := n0_
      have HB := n1_
      clear n0_ n1_
      (try clear hb)
      (try clear hb2)
      (try clear hk)
      (try clear hi)
      refine hK.out _ _ ⟨(bce BK145.out 0).trans rfl, (bce BK145.out 1).trans rfl⟩ (fun hHeld => ?_)
      clear hK K
      refine norm_ (a' := ?_) ?_ ?_
      rotate_left
      ·show Act.put _ (some 33) _ = _
       simp only [Act.put, zsi, zcz, zcs, i64_w, i32_w]
       rfl
      refine pure_ (i := 5) (N := some 34) (v := ?_) (a' := ?_) #[true, true, true, true, true, true, false] rfl rfl (by kernel_rfl) (fun _ _ _ h => h) (Or.inl ⟨by rfl, ?_⟩) ?_ ?_
      rotate_left
      ·intro w'
       go_simp
       with_reducible rfl
      rotate_left
      ·simp only [Act.put, zsi, zcz, zcs, i64_w, i32_w]
       rfl
      refine pure_ (i := 6) (N := some 28) (v := ?_) (a' := ?_) #[true, true, true, true, true, true, true] rfl rfl (by kernel_rfl) (fun _ _ _ h => h) (Or.inl ⟨by rfl, ?_⟩) ?_ ?_
      rotate_left
      ·intro w'
       go_simp
       with_reducible rfl
      rotate_left
      ·simp only [Act.put, zsi, zcz, zcs, i64_w, i32_w]
       rfl
      refine done_ (by kernel_rfl) ?_
      have hcz65_0 : w64.cell? ⟨gb145, 0, none⟩ = some (.int .i64 a0_0) := (bce BK145.out 0).trans rfl
      have hcz65_1 : w64.cell? ⟨gb145, 1, none⟩ = some (.int .i64 a0_1) := (bce BK145.out 1).trans rfl
      have hfz65_0 := bkf BK145.out 0
      have hfz65_1 := bkf BK145.out 1
      try go_wp2_with (first | ((with_reducible refine gcl (f := 40) rfl ?_); refine goesL_ (some 50) rfl rfl Try.func40 (by kernel_rfl) rfl #[.agg #[.int .i64 a0_0, .int .i64 a0_1], .int .u64 x2_5] rfl (by (try simp only [zmt, zmc, zmn]); first | done | rfl) ?_; (with_reducible refine (ff_size.calls a0_0 a0_1 x2_5 t155 _ A44.out).mono ?_); rintro e w66 ⟨rfl, hb⟩; refine ⟨_, rfl, ?_⟩; have n0_ := As0.mk (bkb (g := gb145) (o := .cells #[.int .i64 a0_0, .int .i64 a0_1] 43 (0, 0)) (by (with_reducible repeat (first | refine bkN ?_ _ | refine bkd ?_ | refine bka ?_ _)); exact BK145.out) hb); have n1_ := As0.mk (bst (by repeat (first | (with_reducible first | exact HB.out | apply bal | apply pwB_ | apply bd1 | refine bse ?_ GE145.out) | exact HB.out)) hb); clear BK145; clear HB; have BK145 := n0_; have HB := n1_; clear n0_ n1_; (try clear hb); (try clear hb2); (try clear hk); (try clear hi)))
      go_meet
      case rel => exact ⟨_, H', ⟨by have := HJ5.out; first | omega | exact Nat.le_refl _⟩, ⟨by (with_reducible repeat (first | refine bkN ?_ _ | refine bkd ?_ | refine bka ?_ _)); exact BK145.out⟩, ⟨by repeat (first | (with_reducible first | exact HB.out | apply bal | apply pwB_ | apply bd1 | refine bse ?_ GE145.out) | exact HB.out)⟩⟩
   case rest =>
    clear HC14
    try clear c2
    try clear p2
    try clear c4
    try clear c5
    try clear c20
    try clear c20b0
    try clear c20b1
    try clear c21
    try clear c21b0
    try clear c21b1
    try clear c21b2
    try clear c40
    try clear c45
    try clear c45b0
    try clear c45b1
    try clear c47
    try clear c47b0
    try clear c50
    try clear hcz51_0
    try clear hcz51_1
    try clear hcz53_0
    try clear hcz53_1
    try clear hcz58_0
    try clear hcz58_1
    try clear hcz60_0
    try clear hcz60_1
    try clear hcz65_0
    try clear hcz65_1
    try clear hfz51_0
    try clear hfz51_1
    try clear hfz53_0
    try clear hfz53_1
    try clear hfz58_0
    try clear hfz58_1
    try clear hfz60_0
    try clear hfz60_1
    try clear hfz65_0
    try clear hfz65_1
    obtain ⟨kq, HA, HJ13, BK145, HB⟩ := hcut
    cases kq with
    | zero => exact absurd HA.out (by simp [ff_add.j1])
    | succ kj13 =>
     have H := HA.out
     clear HA
     simp only [ff_add.j1] at H
     replace H := zob H
     obtain ⟨⟨t157, t158⟩, A670, H⟩ := H
     replace H : ((ff_parts.f a0_0 a0_1 x2_5).bind fun bt159 => ((floats_jam.f (IntKind.u64.wrap (bt159.1 * 1024)) (wrap64 (t158 - bt159.2))).bind fun t161 => (if (t148 != t149) = true then ((ff_neg.f a0_0 a0_1 x1_5).bind fun t162 => (if t162 = true then ((ff_round.f kj13 a0_0 a0_1 ((IntKind.u64.wrap (t157 * 1024)) != t161) (IntKind.u64.wrap ((IntKind.u64.wrap (t157 * 1024)) - t161)) (wrap64 (t158 - 10)) false).bind fun t163 => (some t163)) else ((ff_round.f kj13 a0_0 a0_1 false (IntKind.u64.wrap ((IntKind.u64.wrap (t157 * 1024)) - t161)) (wrap64 (t158 - 10)) false).bind fun t164 => (some t164)))) else ((ff_neg.f a0_0 a0_1 x1_5).bind fun t165 => ((ff_round.f kj13 a0_0 a0_1 t165 (IntKind.u64.wrap ((IntKind.u64.wrap (t157 * 1024)) + t161)) (wrap64 (t158 - 10)) false).bind fun t166 => (some t166)))))) = some r := H
     have A67 := As0.mk A670
     clear A670
     replace H := zob H
     obtain ⟨⟨t159, t160⟩, A680, H⟩ := H
     replace H : ((floats_jam.f (IntKind.u64.wrap (t159 * 1024)) (wrap64 (t158 - t160))).bind fun t161 => (if (t148 != t149) = true then ((ff_neg.f a0_0 a0_1 x1_5).bind fun t162 => (if t162 = true then ((ff_round.f kj13 a0_0 a0_1 ((IntKind.u64.wrap (t157 * 1024)) != t161) (IntKind.u64.wrap ((IntKind.u64.wrap (t157 * 1024)) - t161)) (wrap64 (t158 - 10)) false).bind fun t163 => (some t163)) else ((ff_round.f kj13 a0_0 a0_1 false (IntKind.u64.wrap ((IntKind.u64.wrap (t157 * 1024)) - t161)) (wrap64 (t158 - 10)) false).bind fun t164 => (some t164)))) else ((ff_neg.f a0_0 a0_1 x1_5).bind fun t165 => ((ff_round.f kj13 a0_0 a0_1 t165 (IntKind.u64.wrap ((IntKind.u64.wrap (t157 * 1024)) + t161)) (wrap64 (t158 - 10)) false).bind fun t166 => (some t166))))) = some r := H
     have A68 := As0.mk A680
     clear A680
     replace H := zob H
     obtain ⟨t161, A690, H⟩ := H
     replace H : (if (t148 != t149) = true then ((ff_neg.f a0_0 a0_1 x1_5).bind fun t162 => (if t162 = true then ((ff_round.f kj13 a0_0 a0_1 ((IntKind.u64.wrap (t157 * 1024)) != t161) (IntKind.u64.wrap ((IntKind.u64.wrap (t157 * 1024)) - t161)) (wrap64 (t158 - 10)) false).bind fun t163 => (some t163)) else ((ff_round.f kj13 a0_0 a0_1 false (IntKind.u64.wrap ((IntKind.u64.wrap (t157 * 1024)) - t161)) (wrap64 (t158 - 10)) false).bind fun t164 => (some t164)))) else ((ff_neg.f a0_0 a0_1 x1_5).bind fun t165 => ((ff_round.f kj13 a0_0 a0_1 t165 (IntKind.u64.wrap ((IntKind.u64.wrap (t157 * 1024)) + t161)) (wrap64 (t158 - 10)) false).bind fun t166 => (some t166)))) = some r := H
     have A69 := As0.mk A690
     clear A690
     by_cases c70 : (t148 != t149) = true
     ·rw [if_pos c70] at H
      have c70b0 : (t148 != t149) = true := c70
      (try (have c70b1 : decide (t148 = t149) = false := by simpa using c70))
      (try (have c70b2 : (t148 == t149) = false := by simpa using c70))
      (try (have c70b3 : ¬ (t148 = t149) := by simpa using c70))
      clear c70
      replace H := zob H
      obtain ⟨t162, A710, H⟩ := H
      replace H : (if t162 = true then ((ff_round.f kj13 a0_0 a0_1 ((IntKind.u64.wrap (t157 * 1024)) != t161) (IntKind.u64.wrap ((IntKind.u64.wrap (t157 * 1024)) - t161)) (wrap64 (t158 - 10)) false).bind fun t163 => (some t163)) else ((ff_round.f kj13 a0_0 a0_1 false (IntKind.u64.wrap ((IntKind.u64.wrap (t157 * 1024)) - t161)) (wrap64 (t158 - 10)) false).bind fun t164 => (some t164))) = some r := H
      have A71 := As0.mk A710
      clear A710
      by_cases c72 : t162 = true
      ·subst c72
       have H1 : ((ff_round.f kj13 a0_0 a0_1 ((IntKind.u64.wrap (t157 * 1024)) != t161) (IntKind.u64.wrap ((IntKind.u64.wrap (t157 * 1024)) - t161)) (wrap64 (t158 - 10)) false).bind fun t163 => (some t163)) = some r := by rw [if_pos rfl] at H; exact H
       clear H
       have H := H1
       clear H1
       replace H := zob H
       obtain ⟨t163, A730, H⟩ := H
       replace H : (some t163) = some r := H
       have A73 := As0.mk A730
       clear A730
       obtain rfl := Option.some.inj H
       have hcz74_0 : wc.cell? ⟨gb145, 0, none⟩ = some (.int .i64 a0_0) := (bce BK145.out 0).trans rfl
       have hcz74_1 : wc.cell? ⟨gb145, 1, none⟩ = some (.int .i64 a0_1) := (bce BK145.out 1).trans rfl
       have hfz74_0 := bkf BK145.out 0
       have hfz74_1 := bkf BK145.out 1
       try go_wp2_with (first | ((with_reducible refine gcl (f := 57) rfl ?_); refine goesL_ (some 62) rfl rfl Try.func57 (by kernel_rfl) rfl #[.agg #[.int .i64 a0_0, .int .i64 a0_1], .int .u64 x1_5] rfl (by (try simp only [zmt, zmc, zmn]); first | done | rfl) ?_; (with_reducible refine (ff_parts.calls a0_0 a0_1 x1_5 t157 t158 _ A67.out).mono ?_); rintro e w75 ⟨rfl, hb⟩; refine ⟨_, rfl, ?_⟩; have n0_ := As0.mk (bkb (g := gb145) (o := .cells #[.int .i64 a0_0, .int .i64 a0_1] 43 (0, 0)) (by (with_reducible repeat (first | refine bkN ?_ _ | refine bkd ?_ | refine bka ?_ _)); exact BK145.out) hb); have n1_ := As0.mk (bst (by repeat (first | (with_reducible first | exact HB.out | apply bal | apply pwB_ | apply bd1 | refine bse ?_ GE145.out) | exact HB.out)) hb); clear BK145; clear HB; have BK145 := n0_; have HB := n1_; clear n0_ n1_; (try clear hb); (try clear hb2); (try clear hk); (try clear hi); have hcz76_0 : w75.cell? ⟨gb145, 0, none⟩ = some (.int .i64 a0_0) := (bce BK145.out 0).trans rfl; have hcz76_1 : w75.cell? ⟨gb145, 1, none⟩ = some (.int .i64 a0_1) := (bce BK145.out 1).trans rfl; have hfz76_0 := bkf BK145.out 0; have hfz76_1 := bkf BK145.out 1) | ((with_reducible refine gcl (f := 57) rfl ?_); refine goesL_ (some 68) rfl rfl Try.func57 (by kernel_rfl) rfl #[.agg #[.int .i64 a0_0, .int .i64 a0_1], .int .u64 x2_5] rfl (by (try simp only [zmt, zmc, zmn]); first | done | rfl) ?_; (with_reducible refine (ff_parts.calls a0_0 a0_1 x2_5 t159 t160 _ A68.out).mono ?_); rintro e w77 ⟨rfl, hb⟩; refine ⟨_, rfl, ?_⟩; have n0_ := As0.mk (bkb (g := gb145) (o := .cells #[.int .i64 a0_0, .int .i64 a0_1] 43 (0, 0)) (by (with_reducible repeat (first | refine bkN ?_ _ | refine bkd ?_ | refine bka ?_ _)); exact BK145.out) hb); have n1_ := As0.mk (bst (by repeat (first | (with_reducible first | exact HB.out | apply bal | apply pwB_ | apply bd1 | refine bse ?_ GE145.out) | exact HB.out)) hb); clear BK145; clear HB; have BK145 := n0_; have HB := n1_; clear n0_ n1_; (try clear hb); (try clear hb2); (try clear hk); (try clear hi)) | ((with_reducible refine gcl (f := 65) rfl ?_); refine goesL_ (some 78) rfl rfl Try.func65 (by kernel_rfl) rfl #[.int .u64 (IntKind.u64.wrap (t159 * 1024)), .int .i64 (wrap64 (t158 - t160))] rfl (by (try simp only [zmt, zmc, zmn]); first | done | rfl) ?_; (with_reducible refine (floats_jam.calls (IntKind.u64.wrap (t159 * 1024)) (wrap64 (t158 - t160)) t161 _ A69.out).mono ?_); rintro e w' ⟨rfl, ⟨nd, rfl⟩⟩; refine ⟨_, rfl, ?_⟩))
       (try (rw [drewN_self w77]; generalize hq_ : World.drewN w77 _ = w77; have n0_ : As0 (w77.heap[gb145]? = some (.cells #[.int .i64 a0_0, .int .i64 a0_1] 43 (0, 0))) := ⟨by rw [← hq_]; exact (by (with_reducible repeat (first | refine bkN ?_ _ | refine bkd ?_ | refine bka ?_ _)); exact BK145.out)⟩; have n1_ : As0 (Below w.heap.size w w77) := ⟨by rw [← hq_]; exact (by repeat (first | (with_reducible first | exact HB.out | apply bal | apply pwB_ | apply bd1 | refine bse ?_ GE145.out) | exact HB.out))⟩; clear BK145 HB hq_; have BK145 := n0_; have HB := n1_; clear n0_ n1_))
       have n0_ := As0.mk (bkd BK145.out)
       have n1_ := As0.mk (bd1 HB.out)
       clear BK145
       clear HB
       have BK145 := n0_
       have HB := n1_
       clear n0_ n1_
       refine start_ (n := 16) (S := fun w' => w'.cell? ⟨gb145, 0, none⟩ = some (.int .i64 a0_0) ∧ w'.cell? ⟨gb145, 1, none⟩ = some (.int .i64 a0_1)) (ds := []) #[false, false, false, false, false, false, false, false, false, false, false, false, false, false, false, false] (by kernel_rfl) rfl rfl ⟨(bce BK145.out 0).trans rfl, (bce BK145.out 1).trans rfl⟩ (fun hHeld => ?_); refine with_tabW ff_add.tab15 ff_add.bits15 (fun HT_ HW_ => ?_)
       generalize w77.drew = w78 at BK145 HB hHeld ⊢
       refine pure_ (i := 2) (N := some 93) (v := ?_) (a' := ?_) #[false, false, true, false, false, false, false, false, false, false, false, false, false, false, false, false] rfl rfl (any_of HT_.out (by kernel_rfl)) (fun _ _ _ h => h) (Or.inl ⟨by rfl, ?_⟩) ?_ ?_
       rotate_left
       ·intro w'
        go_simp
        with_reducible rfl
       rotate_left
       ·simp only [Act.put, zsi, zcz, zcs, i64_w, i32_w]
        rfl
       refine pure_ (i := 9) (N := some 100) (v := ?_) (a' := ?_) #[false, false, true, false, false, false, false, false, false, true, false, false, false, false, false, false] rfl rfl (any_of HT_.out (by kernel_rfl)) (fun _ _ _ h => h) (Or.inl ⟨by rfl, ?_⟩) ?_ ?_
       rotate_left
       ·intro w'
        go_simp
        with_reducible rfl
       rotate_left
       ·simp only [Act.put, zsi, zcz, zcs, i64_w, i32_w]
        rfl
       refine pure_ (i := 10) (N := some 101) (v := ?_) (a' := ?_) #[false, false, true, false, false, false, false, false, false, true, true, false, false, false, false, false] rfl rfl (any_of HT_.out (by kernel_rfl)) (fun _ _ _ h => h) (Or.inl ⟨by rfl, ?_⟩) ?_ ?_
       rotate_left
       ·intro w'
        go_simp
        with_reducible rfl
       rotate_left
       ·simp only [Act.put, zsi, zcz, zcs, i64_w, i32_w]
        rfl
       refine pure_ (i := 11) (N := some 102) (v := ?_) (a' := ?_) #[false, false, true, false, false, false, false, false, false, true, true, true, false, false, false, false] rfl rfl (any_of HT_.out (by kernel_rfl)) (fun _ _ _ h => h) (Or.inl ⟨by rfl, ?_⟩) ?_ ?_
       rotate_left
       ·intro w'
        go_simp
        with_reducible rfl
       rotate_left
       ·simp only [Act.put, zsi, zcz, zcs, i64_w, i32_w]
        rfl
       refine pure_ (i := 12) (N := some 103) (v := ?_) (a' := ?_) #[false, false, true, false, false, false, false, false, false, true, true, true, true, false, false, false] rfl rfl (any_of HT_.out (by kernel_rfl)) (fun _ _ _ h => h) (Or.inl ⟨by rfl, ?_⟩) ?_ ?_
       rotate_left
       ·intro w'
        go_simp
        with_reducible rfl
       rotate_left
       ·simp only [Act.put, zsi, zcz, zcs, i64_w, i32_w]
        rfl
       refine pure_ (i := 13) (N := some 104) (v := ?_) (a' := ?_) #[false, false, true, false, false, false, false, false, false, true, true, true, true, true, false, false] rfl rfl (any_of HT_.out (by kernel_rfl)) (fun _ _ _ h => h) (Or.inl ⟨by rfl, ?_⟩) ?_ ?_
       rotate_left
       ·intro w'
        go_simp
        with_reducible rfl
       rotate_left
       ·simp only [Act.put, zsi, zcz, zcs, i64_w, i32_w]
        rfl
       refine take_ (i := 0) (N := some 91) (v := ?_) (a' := ?_) #[true, false, true, false, false, false, false, false, false, true, true, true, true, true, false, false] rfl rfl (take_ofW HT_.out HW_.out (by kernel_rfl)) (fun _ _ _ h => h) (Or.inl ⟨by rfl, ?_⟩) hHeld ?_ ?_
       rotate_left
       ·rintro w' ⟨s0, s1⟩
        go_simp
        with_reducible rfl
       rotate_left
       ·simp only [Act.put, zsi, zcz, zcs, i64_w, i32_w]
        rfl
       refine take_ (i := 1) (N := some 92) (v := ?_) (a' := ?_) #[true, true, true, false, false, false, false, false, false, true, true, true, true, true, false, false] rfl rfl (take_ofW HT_.out HW_.out (by kernel_rfl)) (fun _ _ _ h => h) (Or.inl ⟨by rfl, ?_⟩) hHeld ?_ ?_
       rotate_left
       ·rintro w' ⟨s0, s1⟩
        go_simp
        with_reducible rfl
       rotate_left
       ·simp only [Act.put, zsi, zcz, zcs, i64_w, i32_w]
        rfl
       refine one_ (i := 3) (N := some 94) #[true, true, true, true, false, false, false, false, false, true, true, true, true, true, false, false] rfl rfl (one_of HT_.out (by kernel_rfl)) (by decide) (fun K hK => ?_)
       refine goes_ Try.func39 (by kernel_rfl) rfl #[.agg #[.int .i64 a0_0, .int .i64 a0_1], .int .u64 x1_5] (by rfl) rfl rfl (by (try simp only [zmt, zmc, zmn]); first | done | rfl) ?_
       with_reducible refine (ff_neg.calls a0_0 a0_1 x1_5 true _ A71.out).mono ?_
       rintro e w79 ⟨rfl, hb⟩
       refine ⟨_, rfl, ?_⟩
       have n0_ := As0.mk (bkb (g := gb145) (o := .cells #[.int .i64 a0_0, .int .i64 a0_1] 43 (0, 0)) (by (with_reducible repeat (first | refine bkN ?_ _ | refine bkd ?_ | refine bka ?_ _)); exact BK145.out) hb)
       have n1_ := As0.mk (bst (by repeat (first | (with_reducible first | exact HB.out | apply bal | apply pwB_ | apply bd1 | refine bse ?_ GE145.out) | exact HB.out)) hb)
       clear BK145
       clear HB
       have BK145 := n0_
       have HB := n1_
       clear n0_ n1_
       (try clear hb)
       (try clear hb2)
       (try clear hk)
       (try clear hi)
       refine hK.out _ _ ⟨(bce BK145.out 0).trans rfl, (bce BK145.out 1).trans rfl⟩ (fun hHeld => ?_)
       clear hK K
       refine norm_ (a' := ?_) ?_ ?_
       rotate_left
       ·show Act.put _ (some 94) _ = _
        simp only [Act.put, zsi, zcz, zcs, i64_w, i32_w]
        rfl
       refine pure_ (i := 4) (N := some 95) (v := ?_) (a' := ?_) #[true, true, true, true, true, false, false, false, false, true, true, true, true, true, false, false] rfl rfl (any_of HT_.out (by kernel_rfl)) (fun _ _ _ h => h) (Or.inl ⟨by rfl, ?_⟩) ?_ ?_
       rotate_left
       ·intro w'
        go_simp
        with_reducible rfl
       rotate_left
       ·simp only [Act.put, zsi, zcz, zcs, i64_w, i32_w]
        rfl
       refine pure_ (i := 5) (N := some 96) (v := ?_) (a' := ?_) #[true, true, true, true, true, true, false, false, false, true, true, true, true, true, false, false] rfl rfl (any_of HT_.out (by kernel_rfl)) (fun _ _ _ h => h) (Or.inl ⟨by rfl, ?_⟩) ?_ ?_
       rotate_left
       ·intro w'
        go_simp
        with_reducible rfl
       rotate_left
       ·simp only [Act.put, zsi, zcz, zcs, i64_w, i32_w]
        rfl
       refine pure_ (i := 6) (N := some 97) (v := ?_) (a' := ?_) #[true, true, true, true, true, true, true, false, false, true, true, true, true, true, false, false] rfl rfl (any_of HT_.out (by kernel_rfl)) (fun _ _ _ h => h) (Or.inl ⟨by rfl, ?_⟩) ?_ ?_
       rotate_left
       ·intro w'
        go_simp
        with_reducible rfl
       rotate_left
       ·simp only [Act.put, zsi, zcz, zcs, i64_w, i32_w]
        rfl
       refine pure_ (i := 7) (N := some 98) (v := ?_) (a' := ?_) #[true, true, true, true, true, true, true, true, false, true, true, true, true, true, false, false] rfl rfl (any_of HT_.out (by kernel_rfl)) (fun _ _ _ h => h) (Or.inl ⟨by rfl, ?_⟩) ?_ ?_
       rotate_left
       ·intro w'
        go_simp
        with_reducible rfl
       rotate_left
       ·simp only [Act.put, zsi, zcz, zcs, i64_w, i32_w]
        rfl
       refine pure_ (i := 8) (N := some 99) (v := ?_) (a' := ?_) #[true, true, true, true, true, true, true, true, true, true, true, true, true, true, false, false] rfl rfl (any_of HT_.out (by kernel_rfl)) (fun _ _ _ h => h) (Or.inl ⟨by rfl, ?_⟩) ?_ ?_
       rotate_left
       ·intro w'
        go_simp
        with_reducible rfl
       rotate_left
       ·simp only [Act.put, zsi, zcz, zcs, i64_w, i32_w]
        rfl
       refine one_ (i := 14) (N := some 105) #[true, true, true, true, true, true, true, true, true, true, true, true, true, true, true, false] rfl rfl (one_of HT_.out (by kernel_rfl)) (by decide) (fun K hK => ?_)
       refine goes_ Try.func33 (by kernel_rfl) rfl #[.agg #[.int .i64 a0_0, .int .i64 a0_1], .bool ((IntKind.u64.wrap (t157 * 1024)) != t161), .int .u64 (IntKind.u64.wrap ((IntKind.u64.wrap (t157 * 1024)) - t161)), .int .i64 (wrap64 (t158 - 10)), .bool false] (by rfl) rfl rfl (by (try simp only [zmt, zmc, zmn]); first | done | rfl) ?_
       with_reducible refine (ff_round.calls kj13 a0_0 a0_1 ((IntKind.u64.wrap (t157 * 1024)) != t161) (IntKind.u64.wrap ((IntKind.u64.wrap (t157 * 1024)) - t161)) (wrap64 (t158 - 10)) false t163 _ A73.out).mono ?_
       rintro e w80 ⟨rfl, hb⟩
       refine ⟨_, rfl, ?_⟩
       have n0_ := As0.mk (bkb (g := gb145) (o := .cells #[.int .i64 a0_0, .int .i64 a0_1] 43 (0, 0)) (by (with_reducible repeat (first | refine bkN ?_ _ | refine bkd ?_ | refine bka ?_ _)); exact BK145.out) hb)
       have n1_ := As0.mk (bst (by repeat (first | (with_reducible first | exact HB.out | apply bal | apply pwB_ | apply bd1 | refine bse ?_ GE145.out) | exact HB.out)) hb)
       clear BK145
       clear HB
       have BK145 := n0_
       have HB := n1_
       clear n0_ n1_
       (try clear hb)
       (try clear hb2)
       (try clear hk)
       (try clear hi)
       refine hK.out _ _ ⟨(bce BK145.out 0).trans rfl, (bce BK145.out 1).trans rfl⟩ (fun hHeld => ?_)
       clear hK K
       refine norm_ (a' := ?_) ?_ ?_
       rotate_left
       ·show Act.put _ (some 105) _ = _
        simp only [Act.put, zsi, zcz, zcs, i64_w, i32_w]
        rfl
       refine pure_ (i := 15) (N := some 6) (v := ?_) (a' := ?_) #[true, true, true, true, true, true, true, true, true, true, true, true, true, true, true, true] rfl rfl (any_of HT_.out (by kernel_rfl)) (fun _ _ _ h => h) (Or.inl ⟨by rfl, ?_⟩) ?_ ?_
       rotate_left
       ·intro w'
        go_simp
        with_reducible rfl
       rotate_left
       ·simp only [Act.put, zsi, zcz, zcs, i64_w, i32_w]
        rfl
       refine done_ (done_of HT_.out (by kernel_rfl)) ?_
       try go_wp2
       go_ret
       exact ⟨by first | rfl | (simp [*] <;> rfl), by repeat (first | (with_reducible first | exact HB.out | apply bal | apply pwB_ | apply bd1 | refine bse ?_ GE145.out) | exact HB.out)⟩
      ·replace c72 := Bool.eq_false_iff.mpr c72
       subst c72
       have H1 : ((ff_round.f kj13 a0_0 a0_1 false (IntKind.u64.wrap ((IntKind.u64.wrap (t157 * 1024)) - t161)) (wrap64 (t158 - 10)) false).bind fun t164 => (some t164)) = some r := by rw [if_neg (show ¬ (false = true) by decide)] at H; exact H
       clear H
       have H := H1
       clear H1
       replace H := zob H
       obtain ⟨t164, A810, H⟩ := H
       replace H : (some t164) = some r := H
       have A81 := As0.mk A810
       clear A810
       obtain rfl := Option.some.inj H
       have hcz82_0 : wc.cell? ⟨gb145, 0, none⟩ = some (.int .i64 a0_0) := (bce BK145.out 0).trans rfl
       have hcz82_1 : wc.cell? ⟨gb145, 1, none⟩ = some (.int .i64 a0_1) := (bce BK145.out 1).trans rfl
       have hfz82_0 := bkf BK145.out 0
       have hfz82_1 := bkf BK145.out 1
       try go_wp2_with (first | ((with_reducible refine gcl (f := 57) rfl ?_); refine goesL_ (some 62) rfl rfl Try.func57 (by kernel_rfl) rfl #[.agg #[.int .i64 a0_0, .int .i64 a0_1], .int .u64 x1_5] rfl (by (try simp only [zmt, zmc, zmn]); first | done | rfl) ?_; (with_reducible refine (ff_parts.calls a0_0 a0_1 x1_5 t157 t158 _ A67.out).mono ?_); rintro e w83 ⟨rfl, hb⟩; refine ⟨_, rfl, ?_⟩; have n0_ := As0.mk (bkb (g := gb145) (o := .cells #[.int .i64 a0_0, .int .i64 a0_1] 43 (0, 0)) (by (with_reducible repeat (first | refine bkN ?_ _ | refine bkd ?_ | refine bka ?_ _)); exact BK145.out) hb); have n1_ := As0.mk (bst (by repeat (first | (with_reducible first | exact HB.out | apply bal | apply pwB_ | apply bd1 | refine bse ?_ GE145.out) | exact HB.out)) hb); clear BK145; clear HB; have BK145 := n0_; have HB := n1_; clear n0_ n1_; (try clear hb); (try clear hb2); (try clear hk); (try clear hi); have hcz84_0 : w83.cell? ⟨gb145, 0, none⟩ = some (.int .i64 a0_0) := (bce BK145.out 0).trans rfl; have hcz84_1 : w83.cell? ⟨gb145, 1, none⟩ = some (.int .i64 a0_1) := (bce BK145.out 1).trans rfl; have hfz84_0 := bkf BK145.out 0; have hfz84_1 := bkf BK145.out 1) | ((with_reducible refine gcl (f := 57) rfl ?_); refine goesL_ (some 68) rfl rfl Try.func57 (by kernel_rfl) rfl #[.agg #[.int .i64 a0_0, .int .i64 a0_1], .int .u64 x2_5] rfl (by (try simp only [zmt, zmc, zmn]); first | done | rfl) ?_; (with_reducible refine (ff_parts.calls a0_0 a0_1 x2_5 t159 t160 _ A68.out).mono ?_); rintro e w85 ⟨rfl, hb⟩; refine ⟨_, rfl, ?_⟩; have n0_ := As0.mk (bkb (g := gb145) (o := .cells #[.int .i64 a0_0, .int .i64 a0_1] 43 (0, 0)) (by (with_reducible repeat (first | refine bkN ?_ _ | refine bkd ?_ | refine bka ?_ _)); exact BK145.out) hb); have n1_ := As0.mk (bst (by repeat (first | (with_reducible first | exact HB.out | apply bal | apply pwB_ | apply bd1 | refine bse ?_ GE145.out) | exact HB.out)) hb); clear BK145; clear HB; have BK145 := n0_; have HB := n1_; clear n0_ n1_; (try clear hb); (try clear hb2); (try clear hk); (try clear hi)) | ((with_reducible refine gcl (f := 65) rfl ?_); refine goesL_ (some 78) rfl rfl Try.func65 (by kernel_rfl) rfl #[.int .u64 (IntKind.u64.wrap (t159 * 1024)), .int .i64 (wrap64 (t158 - t160))] rfl (by (try simp only [zmt, zmc, zmn]); first | done | rfl) ?_; (with_reducible refine (floats_jam.calls (IntKind.u64.wrap (t159 * 1024)) (wrap64 (t158 - t160)) t161 _ A69.out).mono ?_); rintro e w' ⟨rfl, ⟨nd, rfl⟩⟩; refine ⟨_, rfl, ?_⟩))
       (try (rw [drewN_self w85]; generalize hq_ : World.drewN w85 _ = w85; have n0_ : As0 (w85.heap[gb145]? = some (.cells #[.int .i64 a0_0, .int .i64 a0_1] 43 (0, 0))) := ⟨by rw [← hq_]; exact (by (with_reducible repeat (first | refine bkN ?_ _ | refine bkd ?_ | refine bka ?_ _)); exact BK145.out)⟩; have n1_ : As0 (Below w.heap.size w w85) := ⟨by rw [← hq_]; exact (by repeat (first | (with_reducible first | exact HB.out | apply bal | apply pwB_ | apply bd1 | refine bse ?_ GE145.out) | exact HB.out))⟩; clear BK145 HB hq_; have BK145 := n0_; have HB := n1_; clear n0_ n1_))
       have n0_ := As0.mk (bkd BK145.out)
       have n1_ := As0.mk (bd1 HB.out)
       clear BK145
       clear HB
       have BK145 := n0_
       have HB := n1_
       clear n0_ n1_
       refine start_ (n := 16) (S := fun w' => w'.cell? ⟨gb145, 0, none⟩ = some (.int .i64 a0_0) ∧ w'.cell? ⟨gb145, 1, none⟩ = some (.int .i64 a0_1)) (ds := []) #[false, false, false, false, false, false, false, false, false, false, false, false, false, false, false, false] (by kernel_rfl) rfl rfl ⟨(bce BK145.out 0).trans rfl, (bce BK145.out 1).trans rfl⟩ (fun hHeld => ?_); refine with_tabW ff_add.tab15 ff_add.bits15 (fun HT_ HW_ => ?_)
       generalize w85.drew = w86 at BK145 HB hHeld ⊢
       refine pure_ (i := 2) (N := some 93) (v := ?_) (a' := ?_) #[false, false, true, false, false, false, false, false, false, false, false, false, false, false, false, false] rfl rfl (any_of HT_.out (by kernel_rfl)) (fun _ _ _ h => h) (Or.inl ⟨by rfl, ?_⟩) ?_ ?_
       rotate_left
       ·intro w'
        go_simp
        with_reducible rfl
       rotate_left
       ·simp only [Act.put, zsi, zcz, zcs, i64_w, i32_w]
        rfl
       refine pure_ (i := 9) (N := some 100) (v := ?_) (a' := ?_) #[false, false, true, false, false, false, false, false, false, true, false, false, false, false, false, false] rfl rfl (any_of HT_.out (by kernel_rfl)) (fun _ _ _ h => h) (Or.inl ⟨by rfl, ?_⟩) ?_ ?_
       rotate_left
       ·intro w'
        go_simp
        with_reducible rfl
       rotate_left
       ·simp only [Act.put, zsi, zcz, zcs, i64_w, i32_w]
        rfl
       refine pure_ (i := 10) (N := some 101) (v := ?_) (a' := ?_) #[false, false, true, false, false, false, false, false, false, true, true, false, false, false, false, false] rfl rfl (any_of HT_.out (by kernel_rfl)) (fun _ _ _ h => h) (Or.inl ⟨by rfl, ?_⟩) ?_ ?_
       rotate_left
       ·intro w'
        go_simp
        with_reducible rfl
       rotate_left
       ·simp only [Act.put, zsi, zcz, zcs, i64_w, i32_w]
        rfl
       refine pure_ (i := 11) (N := some 102) (v := ?_) (a' := ?_) #[false, false, true, false, false, false, false, false, false, true, true, true, false, false, false, false] rfl rfl (any_of HT_.out (by kernel_rfl)) (fun _ _ _ h => h) (Or.inl ⟨by rfl, ?_⟩) ?_ ?_
       rotate_left
       ·intro w'
        go_simp
        with_reducible rfl
       rotate_left
       ·simp only [Act.put, zsi, zcz, zcs, i64_w, i32_w]
        rfl
       refine pure_ (i := 12) (N := some 103) (v := ?_) (a' := ?_) #[false, false, true, false, false, false, false, false, false, true, true, true, true, false, false, false] rfl rfl (any_of HT_.out (by kernel_rfl)) (fun _ _ _ h => h) (Or.inl ⟨by rfl, ?_⟩) ?_ ?_
       rotate_left
       ·intro w'
        go_simp
        with_reducible rfl
       rotate_left
       ·simp only [Act.put, zsi, zcz, zcs, i64_w, i32_w]
        rfl
       refine pure_ (i := 13) (N := some 104) (v := ?_) (a' := ?_) #[false, false, true, false, false, false, false, false, false, true, true, true, true, true, false, false] rfl rfl (any_of HT_.out (by kernel_rfl)) (fun _ _ _ h => h) (Or.inl ⟨by rfl, ?_⟩) ?_ ?_
       rotate_left
       ·intro w'
        go_simp
        with_reducible rfl
       rotate_left
       ·simp only [Act.put, zsi, zcz, zcs, i64_w, i32_w]
        rfl
       refine take_ (i := 0) (N := some 91) (v := ?_) (a' := ?_) #[true, false, true, false, false, false, false, false, false, true, true, true, true, true, false, false] rfl rfl (take_ofW HT_.out HW_.out (by kernel_rfl)) (fun _ _ _ h => h) (Or.inl ⟨by rfl, ?_⟩) hHeld ?_ ?_
       rotate_left
       ·rintro w' ⟨s0, s1⟩
        go_simp
        with_reducible rfl
       rotate_left
       ·simp only [Act.put, zsi, zcz, zcs, i64_w, i32_w]
        rfl
       refine take_ (i := 1) (N := some 92) (v := ?_) (a' := ?_) #[true, true, true, false, false, false, false, false, false, true, true, true, true, true, false, false] rfl rfl (take_ofW HT_.out HW_.out (by kernel_rfl)) (fun _ _ _ h => h) (Or.inl ⟨by rfl, ?_⟩) hHeld ?_ ?_
       rotate_left
       ·rintro w' ⟨s0, s1⟩
        go_simp
        with_reducible rfl
       rotate_left
       ·simp only [Act.put, zsi, zcz, zcs, i64_w, i32_w]
        rfl
       refine one_ (i := 3) (N := some 94) #[true, true, true, true, false, false, false, false, false, true, true, true, true, true, false, false] rfl rfl (one_of HT_.out (by kernel_rfl)) (by decide) (fun K hK => ?_)
       refine goes_ Try.func39 (by kernel_rfl) rfl #[.agg #[.int .i64 a0_0, .int .i64 a0_1], .int .u64 x1_5] (by rfl) rfl rfl (by (try simp only [zmt, zmc, zmn]); first | done | rfl) ?_
       with_reducible refine (ff_neg.calls a0_0 a0_1 x1_5 false _ A71.out).mono ?_
       rintro e w87 ⟨rfl, hb⟩
       refine ⟨_, rfl, ?_⟩
       have n0_ := As0.mk (bkb (g := gb145) (o := .cells #[.int .i64 a0_0, .int .i64 a0_1] 43 (0, 0)) (by (with_reducible repeat (first | refine bkN ?_ _ | refine bkd ?_ | refine bka ?_ _)); exact BK145.out) hb)
       have n1_ := As0.mk (bst (by repeat (first | (with_reducible first | exact HB.out | apply bal | apply pwB_ | apply bd1 | refine bse ?_ GE145.out) | exact HB.out)) hb)
       clear BK145
       clear HB
       have BK145 := n0_
       have HB := n1_
       clear n0_ n1_
       (try clear hb)
       (try clear hb2)
       (try clear hk)
       (try clear hi)
       refine hK.out _ _ ⟨(bce BK145.out 0).trans rfl, (bce BK145.out 1).trans rfl⟩ (fun hHeld => ?_)
       clear hK K
       refine norm_ (a' := ?_) ?_ ?_
       rotate_left
       ·show Act.put _ (some 94) _ = _
        simp only [Act.put, zsi, zcz, zcs, i64_w, i32_w]
        rfl
       refine pure_ (i := 4) (N := some 95) (v := ?_) (a' := ?_) #[true, true, true, true, true, false, false, false, false, true, true, true, true, true, false, false] rfl rfl (any_of HT_.out (by kernel_rfl)) (fun _ _ _ h => h) (Or.inl ⟨by rfl, ?_⟩) ?_ ?_
       rotate_left
       ·intro w'
        go_simp
        with_reducible rfl
       rotate_left
       ·simp only [Act.put, zsi, zcz, zcs, i64_w, i32_w]
        rfl
       refine pure_ (i := 5) (N := some 96) (v := undef) (a' := ?_) #[true, true, true, true, true, true, false, false, false, true, true, true, true, true, false, false] rfl rfl (any_of HT_.out (by kernel_rfl)) (fun _ _ _ h => h) (Or.inr ⟨by rfl, rfl⟩) ?_ ?_
       rotate_left
       ·simp only [Act.put, zsi, zcz, zcs, i64_w, i32_w]
        rfl
       refine pure_ (i := 6) (N := some 97) (v := undef) (a' := ?_) #[true, true, true, true, true, true, true, false, false, true, true, true, true, true, false, false] rfl rfl (any_of HT_.out (by kernel_rfl)) (fun _ _ _ h => h) (Or.inr ⟨by rfl, rfl⟩) ?_ ?_
       rotate_left
       ·simp only [Act.put, zsi, zcz, zcs, i64_w, i32_w]
        rfl
       refine pure_ (i := 7) (N := some 98) (v := undef) (a' := ?_) #[true, true, true, true, true, true, true, true, false, true, true, true, true, true, false, false] rfl rfl (any_of HT_.out (by kernel_rfl)) (fun _ _ _ h => h) (Or.inr ⟨by rfl, rfl⟩) ?_ ?_
       rotate_left
       ·simp only [Act.put, zsi, zcz, zcs, i64_w, i32_w]
        rfl
       refine pure_ (i := 8) (N := some 99) (v := ?_) (a' := ?_) #[true, true, true, true, true, true, true, true, true, true, true, true, true, true, false, false] rfl rfl (any_of HT_.out (by kernel_rfl)) (fun _ _ _ h => h) (Or.inl ⟨by rfl, ?_⟩) ?_ ?_
       rotate_left
       ·intro w'
        go_simp
        with_reducible rfl
       rotate_left
       ·simp only [Act.put, zsi, zcz, zcs, i64_w, i32_w]
        rfl
       refine one_ (i := 14) (N := some 105) #[true, true, true, true, true, true, true, true, true, true, true, true, true, true, true, false] rfl rfl (one_of HT_.out (by kernel_rfl)) (by decide) (fun K hK => ?_)
       refine goes_ Try.func33 (by kernel_rfl) rfl #[.agg #[.int .i64 a0_0, .int .i64 a0_1], .bool false, .int .u64 (IntKind.u64.wrap ((IntKind.u64.wrap (t157 * 1024)) - t161)), .int .i64 (wrap64 (t158 - 10)), .bool false] (by rfl) rfl rfl (by (try simp only [zmt, zmc, zmn]); first | done | rfl) ?_
       with_reducible refine (ff_round.calls kj13 a0_0 a0_1 false (IntKind.u64.wrap ((IntKind.u64.wrap (t157 * 1024)) - t161)) (wrap64 (t158 - 10)) false t164 _ A81.out).mono ?_
       rintro e w88 ⟨rfl, hb⟩
       refine ⟨_, rfl, ?_⟩
       have n0_ := As0.mk (bkb (g := gb145) (o := .cells #[.int .i64 a0_0, .int .i64 a0_1] 43 (0, 0)) (by (with_reducible repeat (first | refine bkN ?_ _ | refine bkd ?_ | refine bka ?_ _)); exact BK145.out) hb)
       have n1_ := As0.mk (bst (by repeat (first | (with_reducible first | exact HB.out | apply bal | apply pwB_ | apply bd1 | refine bse ?_ GE145.out) | exact HB.out)) hb)
       clear BK145
       clear HB
       have BK145 := n0_
       have HB := n1_
       clear n0_ n1_
       (try clear hb)
       (try clear hb2)
       (try clear hk)
       (try clear hi)
       refine hK.out _ _ ⟨(bce BK145.out 0).trans rfl, (bce BK145.out 1).trans rfl⟩ (fun hHeld => ?_)
       clear hK K
       refine norm_ (a' := ?_) ?_ ?_
       rotate_left
       ·show Act.put _ (some 105) _ = _
        simp only [Act.put, zsi, zcz, zcs, i64_w, i32_w]
        rfl
       refine pure_ (i := 15) (N := some 6) (v := ?_) (a' := ?_) #[true, true, true, true, true, true, true, true, true, true, true, true, true, true, true, true] rfl rfl (any_of HT_.out (by kernel_rfl)) (fun _ _ _ h => h) (Or.inl ⟨by rfl, ?_⟩) ?_ ?_
       rotate_left
       ·intro w'
        go_simp
        with_reducible rfl
       rotate_left
       ·simp only [Act.put, zsi, zcz, zcs, i64_w, i32_w]
        rfl
       refine done_ (done_of HT_.out (by kernel_rfl)) ?_
       try go_wp2
       go_ret
       exact ⟨by first | rfl | (simp [*] <;> rfl), by repeat (first | (with_reducible first | exact HB.out | apply bal | apply pwB_ | apply bd1 | refine bse ?_ GE145.out) | exact HB.out)⟩
     ·rw [if_neg c70] at H
      have c70b0 : (t148 != t149) = false := by simpa using c70
      (try (have c70b1 : decide (t148 = t149) = true := by simpa using c70))
      (try (have c70b2 : (t148 == t149) = true := by simpa using c70))
      clear c70
      replace H := zob H
      obtain ⟨t165, A890, H⟩ := H
      replace H : ((ff_round.f kj13 a0_0 a0_1 t165 (IntKind.u64.wrap ((IntKind.u64.wrap (t157 * 1024)) + t161)) (wrap64 (t158 - 10)) false).bind fun t166 => (some t166)) = some r := H
      have A89 := As0.mk A890
      clear A890
      replace H := zob H
      obtain ⟨t166, A900, H⟩ := H
      replace H : (some t166) = some r := H
      have A90 := As0.mk A900
      clear A900
      obtain rfl := Option.some.inj H
      have hcz91_0 : wc.cell? ⟨gb145, 0, none⟩ = some (.int .i64 a0_0) := (bce BK145.out 0).trans rfl
      have hcz91_1 : wc.cell? ⟨gb145, 1, none⟩ = some (.int .i64 a0_1) := (bce BK145.out 1).trans rfl
      have hfz91_0 := bkf BK145.out 0
      have hfz91_1 := bkf BK145.out 1
      try go_wp2_with (first | ((with_reducible refine gcl (f := 57) rfl ?_); refine goesL_ (some 62) rfl rfl Try.func57 (by kernel_rfl) rfl #[.agg #[.int .i64 a0_0, .int .i64 a0_1], .int .u64 x1_5] rfl (by (try simp only [zmt, zmc, zmn]); first | done | rfl) ?_; (with_reducible refine (ff_parts.calls a0_0 a0_1 x1_5 t157 t158 _ A67.out).mono ?_); rintro e w92 ⟨rfl, hb⟩; refine ⟨_, rfl, ?_⟩; have n0_ := As0.mk (bkb (g := gb145) (o := .cells #[.int .i64 a0_0, .int .i64 a0_1] 43 (0, 0)) (by (with_reducible repeat (first | refine bkN ?_ _ | refine bkd ?_ | refine bka ?_ _)); exact BK145.out) hb); have n1_ := As0.mk (bst (by repeat (first | (with_reducible first | exact HB.out | apply bal | apply pwB_ | apply bd1 | refine bse ?_ GE145.out) | exact HB.out)) hb); clear BK145; clear HB; have BK145 := n0_; have HB := n1_; clear n0_ n1_; (try clear hb); (try clear hb2); (try clear hk); (try clear hi); have hcz93_0 : w92.cell? ⟨gb145, 0, none⟩ = some (.int .i64 a0_0) := (bce BK145.out 0).trans rfl; have hcz93_1 : w92.cell? ⟨gb145, 1, none⟩ = some (.int .i64 a0_1) := (bce BK145.out 1).trans rfl; have hfz93_0 := bkf BK145.out 0; have hfz93_1 := bkf BK145.out 1) | ((with_reducible refine gcl (f := 57) rfl ?_); refine goesL_ (some 68) rfl rfl Try.func57 (by kernel_rfl) rfl #[.agg #[.int .i64 a0_0, .int .i64 a0_1], .int .u64 x2_5] rfl (by (try simp only [zmt, zmc, zmn]); first | done | rfl) ?_; (with_reducible refine (ff_parts.calls a0_0 a0_1 x2_5 t159 t160 _ A68.out).mono ?_); rintro e w94 ⟨rfl, hb⟩; refine ⟨_, rfl, ?_⟩; have n0_ := As0.mk (bkb (g := gb145) (o := .cells #[.int .i64 a0_0, .int .i64 a0_1] 43 (0, 0)) (by (with_reducible repeat (first | refine bkN ?_ _ | refine bkd ?_ | refine bka ?_ _)); exact BK145.out) hb); have n1_ := As0.mk (bst (by repeat (first | (with_reducible first | exact HB.out | apply bal | apply pwB_ | apply bd1 | refine bse ?_ GE145.out) | exact HB.out)) hb); clear BK145; clear HB; have BK145 := n0_; have HB := n1_; clear n0_ n1_; (try clear hb); (try clear hb2); (try clear hk); (try clear hi)) | ((with_reducible refine gcl (f := 65) rfl ?_); refine goesL_ (some 78) rfl rfl Try.func65 (by kernel_rfl) rfl #[.int .u64 (IntKind.u64.wrap (t159 * 1024)), .int .i64 (wrap64 (t158 - t160))] rfl (by (try simp only [zmt, zmc, zmn]); first | done | rfl) ?_; (with_reducible refine (floats_jam.calls (IntKind.u64.wrap (t159 * 1024)) (wrap64 (t158 - t160)) t161 _ A69.out).mono ?_); rintro e w' ⟨rfl, ⟨nd, rfl⟩⟩; refine ⟨_, rfl, ?_⟩))
      (try (rw [drewN_self w94]; generalize hq_ : World.drewN w94 _ = w94; have n0_ : As0 (w94.heap[gb145]? = some (.cells #[.int .i64 a0_0, .int .i64 a0_1] 43 (0, 0))) := ⟨by rw [← hq_]; exact (by (with_reducible repeat (first | refine bkN ?_ _ | refine bkd ?_ | refine bka ?_ _)); exact BK145.out)⟩; have n1_ : As0 (Below w.heap.size w w94) := ⟨by rw [← hq_]; exact (by repeat (first | (with_reducible first | exact HB.out | apply bal | apply pwB_ | apply bd1 | refine bse ?_ GE145.out) | exact HB.out))⟩; clear BK145 HB hq_; have BK145 := n0_; have HB := n1_; clear n0_ n1_))
      have n0_ := As0.mk (bkd BK145.out)
      have n1_ := As0.mk (bd1 HB.out)
      clear BK145
      clear HB
      have BK145 := n0_
      have HB := n1_
      clear n0_ n1_
      refine start_ (n := 11) (S := fun w' => w'.cell? ⟨gb145, 0, none⟩ = some (.int .i64 a0_0) ∧ w'.cell? ⟨gb145, 1, none⟩ = some (.int .i64 a0_1)) (ds := []) #[false, false, false, false, false, false, false, false, false, false, false] (by kernel_rfl) rfl rfl ⟨(bce BK145.out 0).trans rfl, (bce BK145.out 1).trans rfl⟩ (fun hHeld => ?_); refine with_tabW ff_add.tab14 ff_add.bits14 (fun HT_ HW_ => ?_)
      generalize w94.drew = w95 at BK145 HB hHeld ⊢
      refine pure_ (i := 2) (N := some 83) (v := ?_) (a' := ?_) #[false, false, true, false, false, false, false, false, false, false, false] rfl rfl (any_of HT_.out (by kernel_rfl)) (fun _ _ _ h => h) (Or.inl ⟨by rfl, ?_⟩) ?_ ?_
      rotate_left
      ·intro w'
       go_simp
       with_reducible rfl
      rotate_left
      ·simp only [Act.put, zsi, zcz, zcs, i64_w, i32_w]
       rfl
      refine pure_ (i := 4) (N := some 85) (v := ?_) (a' := ?_) #[false, false, true, false, true, false, false, false, false, false, false] rfl rfl (any_of HT_.out (by kernel_rfl)) (fun _ _ _ h => h) (Or.inl ⟨by rfl, ?_⟩) ?_ ?_
      rotate_left
      ·intro w'
       go_simp
       with_reducible rfl
      rotate_left
      ·simp only [Act.put, zsi, zcz, zcs, i64_w, i32_w]
       rfl
      refine pure_ (i := 5) (N := some 86) (v := ?_) (a' := ?_) #[false, false, true, false, true, true, false, false, false, false, false] rfl rfl (any_of HT_.out (by kernel_rfl)) (fun _ _ _ h => h) (Or.inl ⟨by rfl, ?_⟩) ?_ ?_
      rotate_left
      ·intro w'
       go_simp
       with_reducible rfl
      rotate_left
      ·simp only [Act.put, zsi, zcz, zcs, i64_w, i32_w]
       rfl
      refine pure_ (i := 6) (N := some 87) (v := ?_) (a' := ?_) #[false, false, true, false, true, true, true, false, false, false, false] rfl rfl (any_of HT_.out (by kernel_rfl)) (fun _ _ _ h => h) (Or.inl ⟨by rfl, ?_⟩) ?_ ?_
      rotate_left
      ·intro w'
       go_simp
       with_reducible rfl
      rotate_left
      ·simp only [Act.put, zsi, zcz, zcs, i64_w, i32_w]
       rfl
      refine pure_ (i := 7) (N := some 88) (v := ?_) (a' := ?_) #[false, false, true, false, true, true, true, true, false, false, false] rfl rfl (any_of HT_.out (by kernel_rfl)) (fun _ _ _ h => h) (Or.inl ⟨by rfl, ?_⟩) ?_ ?_
      rotate_left
      ·intro w'
       go_simp
       with_reducible rfl
      rotate_left
      ·simp only [Act.put, zsi, zcz, zcs, i64_w, i32_w]
       rfl
      refine pure_ (i := 8) (N := some 89) (v := ?_) (a' := ?_) #[false, false, true, false, true, true, true, true, true, false, false] rfl rfl (any_of HT_.out (by kernel_rfl)) (fun _ _ _ h => h) (Or.inl ⟨by rfl, ?_⟩) ?_ ?_
      rotate_left
      ·intro w'
       go_simp
       with_reducible rfl
      rotate_left
      ·simp only [Act.put, zsi, zcz, zcs, i64_w, i32_w]
       rfl
      refine take_ (i := 0) (N := some 81) (v := ?_) (a' := ?_) #[true, false, true, false, true, true, true, true, true, false, false] rfl rfl (take_ofW HT_.out HW_.out (by kernel_rfl)) (fun _ _ _ h => h) (Or.inl ⟨by rfl, ?_⟩) hHeld ?_ ?_
      rotate_left
      ·rintro w' ⟨s0, s1⟩
       go_simp
       with_reducible rfl
      rotate_left
      ·simp only [Act.put, zsi, zcz, zcs, i64_w, i32_w]
       rfl
      refine take_ (i := 1) (N := some 82) (v := ?_) (a' := ?_) #[true, true, true, false, true, true, true, true, true, false, false] rfl rfl (take_ofW HT_.out HW_.out (by kernel_rfl)) (fun _ _ _ h => h) (Or.inl ⟨by rfl, ?_⟩) hHeld ?_ ?_
      rotate_left
      ·rintro w' ⟨s0, s1⟩
       go_simp
       with_reducible rfl
      rotate_left
      ·simp only [Act.put, zsi, zcz, zcs, i64_w, i32_w]
       rfl
      refine one_ (i := 3) (N := some 84) #[true, true, true, true, true, true, true, true, true, false, false] rfl rfl (one_of HT_.out (by kernel_rfl)) (by decide) (fun K hK => ?_)
      refine goes_ Try.func39 (by kernel_rfl) rfl #[.agg #[.int .i64 a0_0, .int .i64 a0_1], .int .u64 x1_5] (by rfl) rfl rfl (by (try simp only [zmt, zmc, zmn]); first | done | rfl) ?_
      with_reducible refine (ff_neg.calls a0_0 a0_1 x1_5 t165 _ A89.out).mono ?_
      rintro e w96 ⟨rfl, hb⟩
      refine ⟨_, rfl, ?_⟩
      have n0_ := As0.mk (bkb (g := gb145) (o := .cells #[.int .i64 a0_0, .int .i64 a0_1] 43 (0, 0)) (by (with_reducible repeat (first | refine bkN ?_ _ | refine bkd ?_ | refine bka ?_ _)); exact BK145.out) hb)
      have n1_ := As0.mk (bst (by repeat (first | (with_reducible first | exact HB.out | apply bal | apply pwB_ | apply bd1 | refine bse ?_ GE145.out) | exact HB.out)) hb)
      clear BK145
      clear HB
      have BK145 := n0_
      have HB := n1_
      clear n0_ n1_
      (try clear hb)
      (try clear hb2)
      (try clear hk)
      (try clear hi)
      refine hK.out _ _ ⟨(bce BK145.out 0).trans rfl, (bce BK145.out 1).trans rfl⟩ (fun hHeld => ?_)
      clear hK K
      refine norm_ (a' := ?_) ?_ ?_
      rotate_left
      ·show Act.put _ (some 84) _ = _
       simp only [Act.put, zsi, zcz, zcs, i64_w, i32_w]
       rfl
      refine one_ (i := 9) (N := some 90) #[true, true, true, true, true, true, true, true, true, true, false] rfl rfl (one_of HT_.out (by kernel_rfl)) (by decide) (fun K hK => ?_)
      refine goes_ Try.func33 (by kernel_rfl) rfl #[.agg #[.int .i64 a0_0, .int .i64 a0_1], .bool t165, .int .u64 (IntKind.u64.wrap ((IntKind.u64.wrap (t157 * 1024)) + t161)), .int .i64 (wrap64 (t158 - 10)), .bool false] (by rfl) rfl rfl (by (try simp only [zmt, zmc, zmn]); first | done | rfl) ?_
      with_reducible refine (ff_round.calls kj13 a0_0 a0_1 t165 (IntKind.u64.wrap ((IntKind.u64.wrap (t157 * 1024)) + t161)) (wrap64 (t158 - 10)) false t166 _ A90.out).mono ?_
      rintro e w97 ⟨rfl, hb⟩
      refine ⟨_, rfl, ?_⟩
      have n0_ := As0.mk (bkb (g := gb145) (o := .cells #[.int .i64 a0_0, .int .i64 a0_1] 43 (0, 0)) (by (with_reducible repeat (first | refine bkN ?_ _ | refine bkd ?_ | refine bka ?_ _)); exact BK145.out) hb)
      have n1_ := As0.mk (bst (by repeat (first | (with_reducible first | exact HB.out | apply bal | apply pwB_ | apply bd1 | refine bse ?_ GE145.out) | exact HB.out)) hb)
      clear BK145
      clear HB
      have BK145 := n0_
      have HB := n1_
      clear n0_ n1_
      (try clear hb)
      (try clear hb2)
      (try clear hk)
      (try clear hi)
      refine hK.out _ _ ⟨(bce BK145.out 0).trans rfl, (bce BK145.out 1).trans rfl⟩ (fun hHeld => ?_)
      clear hK K
      refine norm_ (a' := ?_) ?_ ?_
      rotate_left
      ·show Act.put _ (some 90) _ = _
       simp only [Act.put, zsi, zcz, zcs, i64_w, i32_w]
       rfl
      refine pure_ (i := 10) (N := some 6) (v := ?_) (a' := ?_) #[true, true, true, true, true, true, true, true, true, true, true] rfl rfl (any_of HT_.out (by kernel_rfl)) (fun _ _ _ h => h) (Or.inl ⟨by rfl, ?_⟩) ?_ ?_
      rotate_left
      ·intro w'
       go_simp
       with_reducible rfl
      rotate_left
      ·simp only [Act.put, zsi, zcz, zcs, i64_w, i32_w]
       rfl
      refine done_ (done_of HT_.out (by kernel_rfl)) ?_
      try go_wp2
      go_ret
      exact ⟨by first | rfl | (simp [*] <;> rfl), by repeat (first | (with_reducible first | exact HB.out | apply bal | apply pwB_ | apply bd1 | refine bse ?_ GE145.out) | exact HB.out)⟩
end Go.Proofs.Ytjfmomogidgbpaa.PFl
namespace Go.Proofs.Ytjfmomogidgbpaa.PFl
open Go.RowKit Go.Proofs.YtjfmomogidgbpaaW.PrintWords Go.Proofs.YtjfmomogidgbpaaW.PrintLast Go.Proofs.YtjfmomogidgbpaaW.PrintMore
attribute [local go_sem] max2_int min2_int max_two min_two max_three min_three max_four min_four
set_option linter.unusedVariables false
set_option linter.unusedSimpArgs false
def bits_Mul64.f (a0 : Int) (a1 : Int) : Option (Int × Int) := some (IntKind.u64.wrap ((IntKind.u64.wrap ((IntKind.u64.wrap ((a0 / 4294967296) * (a1 / 4294967296))) + ((IntKind.u64.wrap ((IntKind.u64.wrap ((a0 / 4294967296) * (Go.bits .and .u64 a1 4294967295))) + ((IntKind.u64.wrap ((Go.bits .and .u64 a0 4294967295) * (Go.bits .and .u64 a1 4294967295))) / 4294967296))) / 4294967296))) + ((IntKind.u64.wrap ((Go.bits .and .u64 (IntKind.u64.wrap ((IntKind.u64.wrap ((a0 / 4294967296) * (Go.bits .and .u64 a1 4294967295))) + ((IntKind.u64.wrap ((Go.bits .and .u64 a0 4294967295) * (Go.bits .and .u64 a1 4294967295))) / 4294967296))) 4294967295) + (IntKind.u64.wrap ((Go.bits .and .u64 a0 4294967295) * (a1 / 4294967296))))) / 4294967296)), IntKind.u64.wrap (a0 * a1))
set_option maxHeartbeats 8000000 in
set_option maxRecDepth 100000 in
theorem bits_Mul64.calls (a0 : Int) (a1 : Int) (r1 : Int) (r2 : Int) (w : World) (h : bits_Mul64.f a0 a1 = some (r1, r2)) :
  Calls Try.prog 66 #[.int .u64 a0, .int .u64 a1] w fun e w' => e = .returned (.tuple #[.int .u64 r1, .int .u64 r2]) ∧ Drawn0 w w' := by
 have H : (some (IntKind.u64.wrap ((IntKind.u64.wrap ((IntKind.u64.wrap ((a0 / 4294967296) * (a1 / 4294967296))) + ((IntKind.u64.wrap ((IntKind.u64.wrap ((a0 / 4294967296) * (Go.bits .and .u64 a1 4294967295))) + ((IntKind.u64.wrap ((Go.bits .and .u64 a0 4294967295) * (Go.bits .and .u64 a1 4294967295))) / 4294967296))) / 4294967296))) + ((IntKind.u64.wrap ((Go.bits .and .u64 (IntKind.u64.wrap ((IntKind.u64.wrap ((a0 / 4294967296) * (Go.bits .and .u64 a1 4294967295))) + ((IntKind.u64.wrap ((Go.bits .and .u64 a0 4294967295) * (Go.bits .and .u64 a1 4294967295))) / 4294967296))) 4294967295) + (IntKind.u64.wrap ((Go.bits .and .u64 a0 4294967295) * (a1 / 4294967296))))) / 4294967296)), IntKind.u64.wrap (a0 * a1))) = some (r1, r2) := h
 clear h
 simp only [Option.some.injEq, Prod.mk.injEq] at H
 obtain ⟨rfl, rfl⟩ := H
 go_enter Try.func66, Try.ntmps66
 go_wp2
 go_ret2
 exact ⟨by first | rfl | (simp; done) | (simp [*]; done), by repeat (first | exact Drawn0.refl _ | apply Drawn0.step)⟩
mutual
def ff_mul.j0 : Nat → Int → Int → Bool → Int → Int → Bool → Int → Int → Option (Int)
 | 0, _, _, _, _, _, _, _, _ => none
 | k + 1, x1, x2, x7, x8, x9, x40, x168000, x168001 => if x40 = true then (if x8 = 0 then (ff_mul.j1 k x7 true x168000 x168001) else (ff_mul.j1 k x7 (x9 == 0) x168000 x168001)) else ((ff_parts.f x168000 x168001 x1).bind fun bt177 => ((ff_parts.f x168000 x168001 x2).bind fun bt179 => ((bits_Mul64.f bt177.1 bt179.1).bind fun bt181 => ((bits_Len64.f bt181.1).bind fun t183 => (if t183 > 0 then ((floats_jam.f bt181.2 t183).bind fun t184 => (if 0 ≤ (IntKind.u64.wrap (wrap64 (64 - t183))) then ((ff_round.f k x168000 x168001 x7 (Go.bits .or .u64 t184 (shl .u64 bt181.1 (IntKind.u64.wrap (wrap64 (64 - t183))))) (wrap64 ((wrap64 (bt177.2 + bt179.2)) + t183)) false).bind fun t185 => (some t185)) else (none))) else ((ff_round.f k x168000 x168001 x7 bt181.2 (wrap64 ((wrap64 (bt177.2 + bt179.2)) + t183)) false).bind fun t186 => (some t186)))))))
def ff_mul.j1 : Nat → Bool → Bool → Int → Int → Option (Int)
 | 0, _, _, _, _ => none
 | k + 1, x7, x46, x168000, x168001 => if x46 = true then ((ff_nan.f x168000 x168001).bind fun t174 => (some t174)) else ((ff_infinity.f x168000 x168001).bind fun t175 => ((ff_signed.f x168000 x168001 x7 t175).bind fun t176 => (some t176)))
end
def ff_mul.f (k : Nat) (a0_0 : Int) (a0_1 : Int) (a1 : Int) (a2 : Int) : Option (Int) := (ff_neg.f a0_0 a0_1 a1).bind fun t168 => ((ff_neg.f a0_0 a0_1 a2).bind fun t169 => ((ff_size.f a0_0 a0_1 a1).bind fun t170 => ((ff_size.f a0_0 a0_1 a2).bind fun t171 => ((ff_infinity.f a0_0 a0_1).bind fun t172 => (if t170 = t172 then (ff_mul.j0 k a1 a2 (t168 != t169) t170 t171 true a0_0 a0_1) else ((ff_infinity.f a0_0 a0_1).bind fun t173 => (ff_mul.j0 k a1 a2 (t168 != t169) t170 t171 (t171 == t173) a0_0 a0_1)))))))
theorem ff_mul.mono_l : ∀ k, (∀ y0 y1 y2 y3 y4 y5 y6 y7, LeO (ff_mul.j0 k y0 y1 y2 y3 y4 y5 y6 y7) (ff_mul.j0 (k + 1) y0 y1 y2 y3 y4 y5 y6 y7)) ∧ (∀ y0 y1 y2 y3, LeO (ff_mul.j1 k y0 y1 y2 y3) (ff_mul.j1 (k + 1) y0 y1 y2 y3)) := by
 intro k
 induction k with
 | zero => exact ⟨fun _ _ _ _ _ _ _ _ r h => by simp [ff_mul.j0] at h, fun _ _ _ _ r h => by simp [ff_mul.j1] at h⟩
 | succ k ih =>
  obtain ⟨ih0, ih1⟩ := ih
  refine ⟨?_, ?_⟩
  ·intro y0 y1 y2 y3 y4 y5 y6 y7
   unfold ff_mul.j0
   repeat' first
   | (with_reducible exact ih0 _ _ _ _ _ _ _ _)
   | (with_reducible exact ih1 _ _ _ _)
   | (with_reducible exact ff_round.mono _ _ _ _ _ _ _)
   | (with_reducible exact LeO.refl _)
   | (with_reducible exact LeO.none _)
   | (with_reducible refine LeO.ite ?_ ?_)
   | (with_reducible refine LeO.bind ?_ (fun _ => ?_))
   | exact ih0 _ _ _ _ _ _ _ _
   | exact ih1 _ _ _ _
   | exact ff_round.mono _ _ _ _ _ _ _
   | exact LeO.none _
   | refine LeO.ite ?_ ?_
   | refine LeO.bind ?_ (fun _ => ?_)
  ·intro y0 y1 y2 y3
   unfold ff_mul.j1
   repeat' first
   | (with_reducible exact ih0 _ _ _ _ _ _ _ _)
   | (with_reducible exact ih1 _ _ _ _)
   | (with_reducible exact ff_round.mono _ _ _ _ _ _ _)
   | (with_reducible exact LeO.refl _)
   | (with_reducible exact LeO.none _)
   | (with_reducible refine LeO.ite ?_ ?_)
   | (with_reducible refine LeO.bind ?_ (fun _ => ?_))
   | exact ih0 _ _ _ _ _ _ _ _
   | exact ih1 _ _ _ _
   | exact ff_round.mono _ _ _ _ _ _ _
   | exact LeO.none _
   | refine LeO.ite ?_ ?_
   | refine LeO.bind ?_ (fun _ => ?_)
theorem ff_mul.mono : ∀ a0 a1 a2 a3 k, LeO (ff_mul.f k a0 a1 a2 a3) (ff_mul.f (k + 1) a0 a1 a2 a3) := by
 intro a0 a1 a2 a3 k
 obtain ⟨ih0, ih1⟩ := ff_mul.mono_l k
 unfold ff_mul.f
 repeat' first
   | (with_reducible exact ih0 _ _ _ _ _ _ _ _)
   | (with_reducible exact ih1 _ _ _ _)
   | (with_reducible exact ff_round.mono _ _ _ _ _ _ _)
   | (with_reducible exact LeO.refl _)
   | (with_reducible exact LeO.none _)
   | (with_reducible refine LeO.ite ?_ ?_)
   | (with_reducible refine LeO.bind ?_ (fun _ => ?_))
   | exact ih0 _ _ _ _ _ _ _ _
   | exact ih1 _ _ _ _
   | exact ff_round.mono _ _ _ _ _ _ _
   | exact LeO.none _
   | refine LeO.ite ?_ ?_
   | refine LeO.bind ?_ (fun _ => ?_)
def ff_mul.T1 : Bool × List (List Nat × List Nat) := (true, [([], []), ([], []), ([0, 1], [0, 1]), ([], []), ([], []), ([3, 4, 2], [3, 4]), ([2, 5], [2, 5]), ([6, 5, 0, 1, 2, 3, 4, 5, 6], [6])])
def ff_mul.B1 : List Nat := [0, 0, 3, 0, 0, 31, 63, 127]
theorem ff_mul.tab1 : rtab .any (opsOf Try.f45 1) = ff_mul.T1 := by kernel_rfl
theorem ff_mul.bits1 : waitsOk ff_mul.T1.2 ff_mul.B1 = true := by kernel_rfl
def ff_mul.T2 : Bool × List (List Nat × List Nat) := (true, [([], []), ([], []), ([0, 1], [0, 1]), ([], []), ([], []), ([3, 4, 2], [3, 4]), ([2, 5, 0, 1, 2], [2]), ([5, 6, 0, 1, 2, 3, 4, 5, 6], [5])])
def ff_mul.B2 : List Nat := [0, 0, 3, 0, 0, 31, 63, 127]
theorem ff_mul.tab2 : rtab .any (opsOf Try.f45 2) = ff_mul.T2 := by kernel_rfl
theorem ff_mul.bits2 : waitsOk ff_mul.T2.2 ff_mul.B2 = true := by kernel_rfl
set_option maxHeartbeats 8000000 in
set_option maxRecDepth 100000 in
theorem ff_mul.calls (k : Nat) (a0_0 : Int) (a0_1 : Int) (a1 : Int) (a2 : Int) (r : Int) (w : World) (h : ff_mul.f k a0_0 a0_1 a1 a2 = some r) :
  Calls Try.prog 45 #[.agg #[.int .i64 a0_0, .int .i64 a0_1], .int .u64 a1, .int .u64 a2] w fun e w' => e = .returned (.int .u64 r) ∧ Below w.heap.size w w' := by
 have hu43 := Try.underlying43
 have HB := As0.mk (Below.refl w.heap.size w)
 have H : ((ff_neg.f a0_0 a0_1 a1).bind fun t168 => ((ff_neg.f a0_0 a0_1 a2).bind fun t169 => ((ff_size.f a0_0 a0_1 a1).bind fun t170 => ((ff_size.f a0_0 a0_1 a2).bind fun t171 => ((ff_infinity.f a0_0 a0_1).bind fun t172 => (if t170 = t172 then (ff_mul.j0 k a1 a2 (t168 != t169) t170 t171 true a0_0 a0_1) else ((ff_infinity.f a0_0 a0_1).bind fun t173 => (ff_mul.j0 k a1 a2 (t168 != t169) t170 t171 (t171 == t173) a0_0 a0_1)))))))) = some r := h
 clear h
 replace H := zob H
 obtain ⟨t168, A40, H⟩ := H
 replace H : ((ff_neg.f a0_0 a0_1 a2).bind fun t169 => ((ff_size.f a0_0 a0_1 a1).bind fun t170 => ((ff_size.f a0_0 a0_1 a2).bind fun t171 => ((ff_infinity.f a0_0 a0_1).bind fun t172 => (if t170 = t172 then (ff_mul.j0 k a1 a2 (t168 != t169) t170 t171 true a0_0 a0_1) else ((ff_infinity.f a0_0 a0_1).bind fun t173 => (ff_mul.j0 k a1 a2 (t168 != t169) t170 t171 (t171 == t173) a0_0 a0_1))))))) = some r := H
 have A4 := As0.mk A40
 clear A40
 replace H := zob H
 obtain ⟨t169, A50, H⟩ := H
 replace H : ((ff_size.f a0_0 a0_1 a1).bind fun t170 => ((ff_size.f a0_0 a0_1 a2).bind fun t171 => ((ff_infinity.f a0_0 a0_1).bind fun t172 => (if t170 = t172 then (ff_mul.j0 k a1 a2 (t168 != t169) t170 t171 true a0_0 a0_1) else ((ff_infinity.f a0_0 a0_1).bind fun t173 => (ff_mul.j0 k a1 a2 (t168 != t169) t170 t171 (t171 == t173) a0_0 a0_1)))))) = some r := H
 have A5 := As0.mk A50
 clear A50
 replace H := zob H
 obtain ⟨t170, A60, H⟩ := H
 replace H : ((ff_size.f a0_0 a0_1 a2).bind fun t171 => ((ff_infinity.f a0_0 a0_1).bind fun t172 => (if t170 = t172 then (ff_mul.j0 k a1 a2 (t168 != t169) t170 t171 true a0_0 a0_1) else ((ff_infinity.f a0_0 a0_1).bind fun t173 => (ff_mul.j0 k a1 a2 (t168 != t169) t170 t171 (t171 == t173) a0_0 a0_1))))) = some r := H
 have A6 := As0.mk A60
 clear A60
 replace H := zob H
 obtain ⟨t171, A70, H⟩ := H
 replace H : ((ff_infinity.f a0_0 a0_1).bind fun t172 => (if t170 = t172 then (ff_mul.j0 k a1 a2 (t168 != t169) t170 t171 true a0_0 a0_1) else ((ff_infinity.f a0_0 a0_1).bind fun t173 => (ff_mul.j0 k a1 a2 (t168 != t169) t170 t171 (t171 == t173) a0_0 a0_1)))) = some r := H
 have A7 := As0.mk A70
 clear A70
 have HC8 := As0.mk H
 clear H
 go_enter Try.func45, Try.ntmps45
 try go_wp2_with (first | ((with_reducible refine gate_dst (N := 3) rfl ?_); refine box_event ?hg (N := 3) ?hd (cs := #[.int .i64 a0_0, .int .i64 a0_1]) (t := 43) ?hr ?_; (case hd => rfl); (case hg => rfl); (case hr => first | (go_simp; done) | (go_simp; rfl)); intro gb167 hg w9 hbox hb; have n0_ := As0.mk (bst (by repeat (first | (with_reducible first | exact HB.out | apply bal | apply pwB_ | apply bd1) | exact HB.out)) hb); have n1_ := As0.mk (hbox); have n2_ := As0.mk ((by rw [hg]; exact (below_size (by repeat (first | (with_reducible first | exact HB.out | apply bal | apply pwB_ | apply bd1) | exact HB.out))) : w.heap.size ≤ gb167)); have n3_ := As0.mk ((by rw [hg]; exact (below_size (by repeat (first | (with_reducible first | exact HB.out | apply bal | apply pwB_ | apply bd1) | exact HB.out))) : w.heap.size ≤ gb167)); clear HB; have HB := n0_; have BK167 := n1_; have GW167 := n2_; have GE167 := n3_; clear n0_ n1_ n2_ n3_; clear hb hbox hg))
 have n0_ := As0.mk (bkd BK167.out)
 have n1_ := As0.mk (bd1 HB.out)
 clear BK167
 clear HB
 have BK167 := n0_
 have HB := n1_
 clear n0_ n1_
 refine start_ (n := 8) (S := fun w' => w'.cell? ⟨gb167, 0, none⟩ = some (.int .i64 a0_0) ∧ w'.cell? ⟨gb167, 1, none⟩ = some (.int .i64 a0_1)) (ds := []) #[false, false, false, false, false, false, false, false] (by kernel_rfl) rfl rfl ⟨(bce BK167.out 0).trans rfl, (bce BK167.out 1).trans rfl⟩ (fun hHeld => ?_); refine with_tabW ff_mul.tab1 ff_mul.bits1 (fun HT_ HW_ => ?_)
 generalize w9.drew = w10 at BK167 HB hHeld ⊢
 refine pure_ (i := 1) (N := some 19) (v := ?_) (a' := ?_) #[false, true, false, false, false, false, false, false] rfl rfl (any_of HT_.out (by kernel_rfl)) (fun _ _ _ h => h) (Or.inl ⟨by rfl, ?_⟩) ?_ ?_
 rotate_left
 ·intro w'
  go_simp
  with_reducible rfl
 rotate_left
 ·simp only [Act.put, zsi, zcz, zcs, i64_w, i32_w]
  rfl
 refine pure_ (i := 4) (N := some 22) (v := ?_) (a' := ?_) #[false, true, false, false, true, false, false, false] rfl rfl (any_of HT_.out (by kernel_rfl)) (fun _ _ _ h => h) (Or.inl ⟨by rfl, ?_⟩) ?_ ?_
 rotate_left
 ·intro w'
  go_simp
  with_reducible rfl
 rotate_left
 ·simp only [Act.put, zsi, zcz, zcs, i64_w, i32_w]
  rfl
 refine take_ (i := 0) (N := some 18) (v := ?_) (a' := ?_) #[true, true, false, false, true, false, false, false] rfl rfl (take_ofW HT_.out HW_.out (by kernel_rfl)) (fun _ _ _ h => h) (Or.inl ⟨by rfl, ?_⟩) hHeld ?_ ?_
 rotate_left
 ·rintro w' ⟨s0, s1⟩
  go_simp
  with_reducible rfl
 rotate_left
 ·simp only [Act.put, zsi, zcz, zcs, i64_w, i32_w]
  rfl
 refine take_ (i := 3) (N := some 21) (v := ?_) (a' := ?_) #[true, true, false, true, true, false, false, false] rfl rfl (take_ofW HT_.out HW_.out (by kernel_rfl)) (fun _ _ _ h => h) (Or.inl ⟨by rfl, ?_⟩) hHeld ?_ ?_
 rotate_left
 ·rintro w' ⟨s0, s1⟩
  go_simp
  with_reducible rfl
 rotate_left
 ·simp only [Act.put, zsi, zcz, zcs, i64_w, i32_w]
  rfl
 refine one_ (i := 2) (N := some 20) #[true, true, true, true, true, false, false, false] rfl rfl (one_of HT_.out (by kernel_rfl)) (by decide) (fun K hK => ?_)
 refine goes_ Try.func39 (by kernel_rfl) rfl #[.agg #[.int .i64 a0_0, .int .i64 a0_1], .int .u64 a1] (by rfl) rfl rfl (by (try simp only [zmt, zmc, zmn]); first | done | rfl) ?_
 with_reducible refine (ff_neg.calls a0_0 a0_1 a1 t168 _ A4.out).mono ?_
 rintro e w11 ⟨rfl, hb⟩
 refine ⟨_, rfl, ?_⟩
 have n0_ := As0.mk (bkb (g := gb167) (o := .cells #[.int .i64 a0_0, .int .i64 a0_1] 43 (0, 0)) (by (with_reducible repeat (first | refine bkN ?_ _ | refine bkd ?_ | refine bka ?_ _)); exact BK167.out) hb)
 have n1_ := As0.mk (bst (by repeat (first | (with_reducible first | exact HB.out | apply bal | apply pwB_ | apply bd1 | refine bse ?_ GE167.out) | exact HB.out)) hb)
 clear BK167
 clear HB
 have BK167 := n0_
 have HB := n1_
 clear n0_ n1_
 (try clear hb)
 (try clear hb2)
 (try clear hk)
 (try clear hi)
 refine hK.out _ _ ⟨(bce BK167.out 0).trans rfl, (bce BK167.out 1).trans rfl⟩ (fun hHeld => ?_)
 clear hK K
 refine norm_ (a' := ?_) ?_ ?_
 rotate_left
 ·show Act.put _ (some 20) _ = _
  simp only [Act.put, zsi, zcz, zcs, i64_w, i32_w]
  rfl
 refine one_ (i := 5) (N := some 23) #[true, true, true, true, true, true, false, false] rfl rfl (one_of HT_.out (by kernel_rfl)) (by decide) (fun K hK => ?_)
 refine goes_ Try.func39 (by kernel_rfl) rfl #[.agg #[.int .i64 a0_0, .int .i64 a0_1], .int .u64 a2] (by rfl) rfl rfl (by (try simp only [zmt, zmc, zmn]); first | done | rfl) ?_
 with_reducible refine (ff_neg.calls a0_0 a0_1 a2 t169 _ A5.out).mono ?_
 rintro e w12 ⟨rfl, hb⟩
 refine ⟨_, rfl, ?_⟩
 have n0_ := As0.mk (bkb (g := gb167) (o := .cells #[.int .i64 a0_0, .int .i64 a0_1] 43 (0, 0)) (by (with_reducible repeat (first | refine bkN ?_ _ | refine bkd ?_ | refine bka ?_ _)); exact BK167.out) hb)
 have n1_ := As0.mk (bst (by repeat (first | (with_reducible first | exact HB.out | apply bal | apply pwB_ | apply bd1 | refine bse ?_ GE167.out) | exact HB.out)) hb)
 clear BK167
 clear HB
 have BK167 := n0_
 have HB := n1_
 clear n0_ n1_
 (try clear hb)
 (try clear hb2)
 (try clear hk)
 (try clear hi)
 refine hK.out _ _ ⟨(bce BK167.out 0).trans rfl, (bce BK167.out 1).trans rfl⟩ (fun hHeld => ?_)
 clear hK K
 refine norm_ (a' := ?_) ?_ ?_
 rotate_left
 ·show Act.put _ (some 23) _ = _
  simp only [Act.put, zsi, zcz, zcs, i64_w, i32_w]
  rfl
 refine pure_ (i := 6) (N := some 24) (v := ?_) (a' := ?_) #[true, true, true, true, true, true, true, false] rfl rfl (any_of HT_.out (by kernel_rfl)) (fun _ _ _ h => h) (Or.inl ⟨by rfl, ?_⟩) ?_ ?_
 rotate_left
 ·intro w'
  go_simp
  with_reducible rfl
 rotate_left
 ·simp only [Act.put, zsi, zcz, zcs, i64_w, i32_w]
  rfl
 refine pure_ (i := 7) (N := some 7) (v := ?_) (a' := ?_) #[true, true, true, true, true, true, true, true] rfl rfl (any_of HT_.out (by kernel_rfl)) (fun _ _ _ h => h) (Or.inl ⟨by rfl, ?_⟩) ?_ ?_
 rotate_left
 ·intro w'
  go_simp
  with_reducible rfl
 rotate_left
 ·simp only [Act.put, zsi, zcz, zcs, i64_w, i32_w]
  rfl
 refine done_ (done_of HT_.out (by kernel_rfl)) ?_
 try go_wp2
 have n0_ := As0.mk (bkd BK167.out)
 have n1_ := As0.mk (bd1 HB.out)
 clear BK167
 clear HB
 have BK167 := n0_
 have HB := n1_
 clear n0_ n1_
 refine start_ (n := 8) (S := fun w' => w'.cell? ⟨gb167, 0, none⟩ = some (.int .i64 a0_0) ∧ w'.cell? ⟨gb167, 1, none⟩ = some (.int .i64 a0_1)) (ds := []) #[false, false, false, false, false, false, false, false] (by kernel_rfl) rfl rfl ⟨(bce BK167.out 0).trans rfl, (bce BK167.out 1).trans rfl⟩ (fun hHeld => ?_); refine with_tabW ff_mul.tab2 ff_mul.bits2 (fun HT_ HW_ => ?_)
 generalize w12.drew = w13 at BK167 HB hHeld ⊢
 refine pure_ (i := 1) (N := some 26) (v := ?_) (a' := ?_) #[false, true, false, false, false, false, false, false] rfl rfl (any_of HT_.out (by kernel_rfl)) (fun _ _ _ h => h) (Or.inl ⟨by rfl, ?_⟩) ?_ ?_
 rotate_left
 ·intro w'
  go_simp
  with_reducible rfl
 rotate_left
 ·simp only [Act.put, zsi, zcz, zcs, i64_w, i32_w]
  rfl
 refine pure_ (i := 4) (N := some 29) (v := ?_) (a' := ?_) #[false, true, false, false, true, false, false, false] rfl rfl (any_of HT_.out (by kernel_rfl)) (fun _ _ _ h => h) (Or.inl ⟨by rfl, ?_⟩) ?_ ?_
 rotate_left
 ·intro w'
  go_simp
  with_reducible rfl
 rotate_left
 ·simp only [Act.put, zsi, zcz, zcs, i64_w, i32_w]
  rfl
 refine take_ (i := 0) (N := some 25) (v := ?_) (a' := ?_) #[true, true, false, false, true, false, false, false] rfl rfl (take_ofW HT_.out HW_.out (by kernel_rfl)) (fun _ _ _ h => h) (Or.inl ⟨by rfl, ?_⟩) hHeld ?_ ?_
 rotate_left
 ·rintro w' ⟨s0, s1⟩
  go_simp
  with_reducible rfl
 rotate_left
 ·simp only [Act.put, zsi, zcz, zcs, i64_w, i32_w]
  rfl
 refine take_ (i := 3) (N := some 28) (v := ?_) (a' := ?_) #[true, true, false, true, true, false, false, false] rfl rfl (take_ofW HT_.out HW_.out (by kernel_rfl)) (fun _ _ _ h => h) (Or.inl ⟨by rfl, ?_⟩) hHeld ?_ ?_
 rotate_left
 ·rintro w' ⟨s0, s1⟩
  go_simp
  with_reducible rfl
 rotate_left
 ·simp only [Act.put, zsi, zcz, zcs, i64_w, i32_w]
  rfl
 refine one_ (i := 2) (N := some 27) #[true, true, true, true, true, false, false, false] rfl rfl (one_of HT_.out (by kernel_rfl)) (by decide) (fun K hK => ?_)
 refine goes_ Try.func40 (by kernel_rfl) rfl #[.agg #[.int .i64 a0_0, .int .i64 a0_1], .int .u64 a1] (by rfl) rfl rfl (by (try simp only [zmt, zmc, zmn]); first | done | rfl) ?_
 with_reducible refine (ff_size.calls a0_0 a0_1 a1 t170 _ A6.out).mono ?_
 rintro e w14 ⟨rfl, hb⟩
 refine ⟨_, rfl, ?_⟩
 have n0_ := As0.mk (bkb (g := gb167) (o := .cells #[.int .i64 a0_0, .int .i64 a0_1] 43 (0, 0)) (by (with_reducible repeat (first | refine bkN ?_ _ | refine bkd ?_ | refine bka ?_ _)); exact BK167.out) hb)
 have n1_ := As0.mk (bst (by repeat (first | (with_reducible first | exact HB.out | apply bal | apply pwB_ | apply bd1 | refine bse ?_ GE167.out) | exact HB.out)) hb)
 clear BK167
 clear HB
 have BK167 := n0_
 have HB := n1_
 clear n0_ n1_
 (try clear hb)
 (try clear hb2)
 (try clear hk)
 (try clear hi)
 refine hK.out _ _ ⟨(bce BK167.out 0).trans rfl, (bce BK167.out 1).trans rfl⟩ (fun hHeld => ?_)
 clear hK K
 refine norm_ (a' := ?_) ?_ ?_
 rotate_left
 ·show Act.put _ (some 27) _ = _
  simp only [Act.put, zsi, zcz, zcs, i64_w, i32_w]
  rfl
 refine one_ (i := 5) (N := some 30) #[true, true, true, true, true, true, false, false] rfl rfl (one_of HT_.out (by kernel_rfl)) (by decide) (fun K hK => ?_)
 refine goes_ Try.func40 (by kernel_rfl) rfl #[.agg #[.int .i64 a0_0, .int .i64 a0_1], .int .u64 a2] (by rfl) rfl rfl (by (try simp only [zmt, zmc, zmn]); first | done | rfl) ?_
 with_reducible refine (ff_size.calls a0_0 a0_1 a2 t171 _ A7.out).mono ?_
 rintro e w15 ⟨rfl, hb⟩
 refine ⟨_, rfl, ?_⟩
 have n0_ := As0.mk (bkb (g := gb167) (o := .cells #[.int .i64 a0_0, .int .i64 a0_1] 43 (0, 0)) (by (with_reducible repeat (first | refine bkN ?_ _ | refine bkd ?_ | refine bka ?_ _)); exact BK167.out) hb)
 have n1_ := As0.mk (bst (by repeat (first | (with_reducible first | exact HB.out | apply bal | apply pwB_ | apply bd1 | refine bse ?_ GE167.out) | exact HB.out)) hb)
 clear BK167
 clear HB
 have BK167 := n0_
 have HB := n1_
 clear n0_ n1_
 (try clear hb)
 (try clear hb2)
 (try clear hk)
 (try clear hi)
 refine hK.out _ _ ⟨(bce BK167.out 0).trans rfl, (bce BK167.out 1).trans rfl⟩ (fun hHeld => ?_)
 clear hK K
 refine norm_ (a' := ?_) ?_ ?_
 rotate_left
 ·show Act.put _ (some 30) _ = _
  simp only [Act.put, zsi, zcz, zcs, i64_w, i32_w]
  rfl
 refine pure_ (i := 6) (N := some 8) (v := ?_) (a' := ?_) #[true, true, true, true, true, true, true, false] rfl rfl (any_of HT_.out (by kernel_rfl)) (fun _ _ _ h => h) (Or.inl ⟨by rfl, ?_⟩) ?_ ?_
 rotate_left
 ·intro w'
  go_simp
  with_reducible rfl
 rotate_left
 ·simp only [Act.put, zsi, zcz, zcs, i64_w, i32_w]
  rfl
 refine pure_ (i := 7) (N := some 9) (v := ?_) (a' := ?_) #[true, true, true, true, true, true, true, true] rfl rfl (any_of HT_.out (by kernel_rfl)) (fun _ _ _ h => h) (Or.inl ⟨by rfl, ?_⟩) ?_ ?_
 rotate_left
 ·intro w'
  go_simp
  with_reducible rfl
 rotate_left
 ·simp only [Act.put, zsi, zcz, zcs, i64_w, i32_w]
  rfl
 refine done_ (done_of HT_.out (by kernel_rfl)) ?_
 go_upto_region 3 with (fail)
 go_cut [40] (fun v40 wc => ∃ (kq : Nat) (x40_7 : Bool), v40 = .bool x40_7 ∧ As0 (ff_mul.j0 kq a1 a2 (t168 != t169) t170 t171 x40_7 a0_0 a0_1 = some r) ∧ As0 (kq ≤ k) ∧ As0 (wc.heap[gb167]? = some (.cells #[.int .i64 a0_0, .int .i64 a0_1] 43 (0, 0))) ∧ As0 (Below w.heap.size w wc))
 case first =>
  have H := HC8.out
  clear HC8
  replace H := zob H
  obtain ⟨t172, A160, H⟩ := H
  replace H : (if t170 = t172 then (ff_mul.j0 k a1 a2 (t168 != t169) t170 t171 true a0_0 a0_1) else ((ff_infinity.f a0_0 a0_1).bind fun t173 => (ff_mul.j0 k a1 a2 (t168 != t169) t170 t171 (t171 == t173) a0_0 a0_1))) = some r := H
  have A16 := As0.mk A160
  clear A160
  by_cases c17 : t170 = t172
  ·rw [if_pos c17] at H
   have c17b0 : (t170 == t172) = true := beq_iff_eq.mpr c17
   have c17b1 : (t170 != t172) = false := bne_eq_false_iff_eq.mpr c17
   clear c17
   (first | rw [c17b0] | (simp only [i64_w, i32_w]; rw [c17b0]) | skip)
   have H' := As0.mk H
   clear H
   have hcz18_0 : w15.cell? ⟨gb167, 0, none⟩ = some (.int .i64 a0_0) := (bce BK167.out 0).trans rfl
   have hcz18_1 : w15.cell? ⟨gb167, 1, none⟩ = some (.int .i64 a0_1) := (bce BK167.out 1).trans rfl
   have hfz18_0 := bkf BK167.out 0
   have hfz18_1 := bkf BK167.out 1
   go_wp2_with (first | ((with_reducible refine gcl (f := 50) rfl ?_); refine goesL_ (some 33) rfl rfl Try.func50 (by kernel_rfl) rfl #[.agg #[.int .i64 a0_0, .int .i64 a0_1]] rfl (by (try simp only [zmt, zmc, zmn]); first | done | rfl) ?_; (with_reducible refine (ff_infinity.calls a0_0 a0_1 t172 _ A16.out).mono ?_); rintro e w19 ⟨rfl, hb⟩; refine ⟨_, rfl, ?_⟩; have n0_ := As0.mk (bkb (g := gb167) (o := .cells #[.int .i64 a0_0, .int .i64 a0_1] 43 (0, 0)) (by (with_reducible repeat (first | refine bkN ?_ _ | refine bkd ?_ | refine bka ?_ _)); exact BK167.out) hb); have n1_ := As0.mk (bst (by repeat (first | (with_reducible first | exact HB.out | apply bal | apply pwB_ | apply bd1 | refine bse ?_ GE167.out) | exact HB.out)) hb); clear BK167; clear HB; have BK167 := n0_; have HB := n1_; clear n0_ n1_; (try clear hb); (try clear hb2); (try clear hk); (try clear hi)))
   go_meet
   case rel => exact ⟨_, (true), (by first | rfl | (simp; done) | (simp [*]; done)), H', ⟨by first | omega | exact Nat.le_refl _⟩, ⟨by (with_reducible repeat (first | refine bkN ?_ _ | refine bkd ?_ | refine bka ?_ _)); exact BK167.out⟩, ⟨by repeat (first | (with_reducible first | exact HB.out | apply bal | apply pwB_ | apply bd1 | refine bse ?_ GE167.out) | exact HB.out)⟩⟩
  ·rw [if_neg c17] at H
   have c17b0 : (t170 == t172) = false := beq_eq_false_iff_ne.mpr c17
   have c17b1 : (t170 != t172) = true := bne_iff_ne.mpr c17
   (first | rw [c17b0] | (simp only [i64_w, i32_w]; rw [c17b0]) | skip)
   replace H := zob H
   obtain ⟨t173, A200, H⟩ := H
   replace H : (ff_mul.j0 k a1 a2 (t168 != t169) t170 t171 (t171 == t173) a0_0 a0_1) = some r := H
   have A20 := As0.mk A200
   clear A200
   have H' := As0.mk H
   clear H
   have hcz21_0 : w15.cell? ⟨gb167, 0, none⟩ = some (.int .i64 a0_0) := (bce BK167.out 0).trans rfl
   have hcz21_1 : w15.cell? ⟨gb167, 1, none⟩ = some (.int .i64 a0_1) := (bce BK167.out 1).trans rfl
   have hfz21_0 := bkf BK167.out 0
   have hfz21_1 := bkf BK167.out 1
   go_wp2_with (first | ((with_reducible refine gcl (f := 50) rfl ?_); refine goesL_ (some 33) rfl rfl Try.func50 (by kernel_rfl) rfl #[.agg #[.int .i64 a0_0, .int .i64 a0_1]] rfl (by (try simp only [zmt, zmc, zmn]); first | done | rfl) ?_; (with_reducible refine (ff_infinity.calls a0_0 a0_1 t172 _ A16.out).mono ?_); rintro e w22 ⟨rfl, hb⟩; refine ⟨_, rfl, ?_⟩; have n0_ := As0.mk (bkb (g := gb167) (o := .cells #[.int .i64 a0_0, .int .i64 a0_1] 43 (0, 0)) (by (with_reducible repeat (first | refine bkN ?_ _ | refine bkd ?_ | refine bka ?_ _)); exact BK167.out) hb); have n1_ := As0.mk (bst (by repeat (first | (with_reducible first | exact HB.out | apply bal | apply pwB_ | apply bd1 | refine bse ?_ GE167.out) | exact HB.out)) hb); clear BK167; clear HB; have BK167 := n0_; have HB := n1_; clear n0_ n1_; (try clear hb); (try clear hb2); (try clear hk); (try clear hi); have hcz23_0 : w22.cell? ⟨gb167, 0, none⟩ = some (.int .i64 a0_0) := (bce BK167.out 0).trans rfl; have hcz23_1 : w22.cell? ⟨gb167, 1, none⟩ = some (.int .i64 a0_1) := (bce BK167.out 1).trans rfl; have hfz23_0 := bkf BK167.out 0; have hfz23_1 := bkf BK167.out 1) | (go_at_call 50; (with_reducible refine (ff_infinity.calls a0_0 a0_1 t173 _ A20.out).mono ?_); rintro e w24 ⟨rfl, hb⟩; have n0_ := As0.mk (bkb (g := gb167) (o := .cells #[.int .i64 a0_0, .int .i64 a0_1] 43 (0, 0)) (by (with_reducible repeat (first | refine bkN ?_ _ | refine bkd ?_ | refine bka ?_ _)); exact BK167.out) hb); have n1_ := As0.mk (bst (by repeat (first | (with_reducible first | exact HB.out | apply bal | apply pwB_ | apply bd1 | refine bse ?_ GE167.out) | exact HB.out)) hb); clear BK167; clear HB; have BK167 := n0_; have HB := n1_; clear n0_ n1_; (try clear hb); (try clear hb2); (try clear hk); (try clear hi)))
   go_meet
   case rel => exact ⟨_, ((t171 == t173)), (by first | rfl | (simp; done) | (simp [*]; done)), H', ⟨by first | omega | exact Nat.le_refl _⟩, ⟨by (with_reducible repeat (first | refine bkN ?_ _ | refine bkd ?_ | refine bka ?_ _)); exact BK167.out⟩, ⟨by repeat (first | (with_reducible first | exact HB.out | apply bal | apply pwB_ | apply bd1 | refine bse ?_ GE167.out) | exact HB.out)⟩⟩
 case rest =>
  clear HC8
  try clear c1
  try clear p2
  try clear c3
  try clear c4
  try clear c5
  try clear c17
  try clear c17b0
  try clear c17b1
  try clear hcz18_0
  try clear hcz18_1
  try clear hcz21_0
  try clear hcz21_1
  try clear hcz23_0
  try clear hcz23_1
  try clear hfz18_0
  try clear hfz18_1
  try clear hfz21_0
  try clear hfz21_1
  try clear hfz23_0
  try clear hfz23_1
  obtain ⟨kq, x40_7, rfl, HA, HJ7, BK167, HB⟩ := hcut
  cases kq with
  | zero => exact absurd HA.out (by simp [ff_mul.j0])
  | succ kj7 =>
   have H := HA.out
   clear HA
   simp only [ff_mul.j0] at H
   by_cases c25 : x40_7 = true
   ·subst c25
    have H1 : (if t170 = 0 then (ff_mul.j1 kj7 (t168 != t169) true a0_0 a0_1) else (ff_mul.j1 kj7 (t168 != t169) (t171 == 0) a0_0 a0_1)) = some r := by rw [if_pos rfl] at H; exact H
    clear H
    have H := H1
    clear H1
    have HC26 := As0.mk H
    clear H
    go_upto_region 4 with (fail)
    go_cut [46] (fun v46 wc => ∃ (kq : Nat) (x46_25 : Bool), v46 = .bool x46_25 ∧ As0 (ff_mul.j1 kq (t168 != t169) x46_25 a0_0 a0_1 = some r) ∧ As0 (kq ≤ kj7) ∧ As0 (wc.heap[gb167]? = some (.cells #[.int .i64 a0_0, .int .i64 a0_1] 43 (0, 0))) ∧ As0 (Below w.heap.size w wc))
    case first =>
     have H := HC26.out
     clear HC26
     by_cases c27 : t170 = 0
     ·rw [if_pos c27] at H
      have c27b0 : (t170 == 0) = true := beq_iff_eq.mpr c27
      have c27b1 : (t170 != 0) = false := bne_eq_false_iff_eq.mpr c27
      clear c27
      (first | rw [c27b0] | (simp only [i64_w, i32_w]; rw [c27b0]) | skip)
      have H' := As0.mk H
      clear H
      go_wp2
      go_meet
      case rel => exact ⟨_, (true), (by first | rfl | (simp; done) | (simp [*]; done)), H', ⟨by have := HJ7.out; first | omega | exact Nat.le_refl _⟩, ⟨by (with_reducible repeat (first | refine bkN ?_ _ | refine bkd ?_ | refine bka ?_ _)); exact BK167.out⟩, ⟨by repeat (first | (with_reducible first | exact HB.out | apply bal | apply pwB_ | apply bd1 | refine bse ?_ GE167.out) | exact HB.out)⟩⟩
     ·rw [if_neg c27] at H
      have c27b0 : (t170 == 0) = false := beq_eq_false_iff_ne.mpr c27
      have c27b1 : (t170 != 0) = true := bne_iff_ne.mpr c27
      (first | rw [c27b0] | (simp only [i64_w, i32_w]; rw [c27b0]) | skip)
      have H' := As0.mk H
      clear H
      go_wp2
      go_meet
      case rel => exact ⟨_, ((t171 == 0)), (by first | rfl | (simp; done) | (simp [*]; done)), H', ⟨by have := HJ7.out; first | omega | exact Nat.le_refl _⟩, ⟨by (with_reducible repeat (first | refine bkN ?_ _ | refine bkd ?_ | refine bka ?_ _)); exact BK167.out⟩, ⟨by repeat (first | (with_reducible first | exact HB.out | apply bal | apply pwB_ | apply bd1 | refine bse ?_ GE167.out) | exact HB.out)⟩⟩
    case rest =>
     clear HC26
     try clear c1
     try clear c2
     try clear p2
     try clear c3
     try clear c4
     try clear c5
     try clear c17
     try clear c17b0
     try clear c17b1
     try clear c25
     try clear c27
     try clear c27b0
     try clear c27b1
     try clear hcz18_0
     try clear hcz18_1
     try clear hcz21_0
     try clear hcz21_1
     try clear hcz23_0
     try clear hcz23_1
     try clear hfz18_0
     try clear hfz18_1
     try clear hfz21_0
     try clear hfz21_1
     try clear hfz23_0
     try clear hfz23_1
     try clear p2
     obtain ⟨kq, x46_25, rfl, HA, HJ25, BK167, HB⟩ := hcut
     cases kq with
     | zero => exact absurd HA.out (by simp [ff_mul.j1])
     | succ kj25 =>
      have H := HA.out
      clear HA
      simp only [ff_mul.j1] at H
      by_cases c28 : x46_25 = true
      ·subst c28
       have H1 : ((ff_nan.f a0_0 a0_1).bind fun t174 => (some t174)) = some r := by rw [if_pos rfl] at H; exact H
       clear H
       have H := H1
       clear H1
       replace H := zob H
       obtain ⟨t174, A290, H⟩ := H
       replace H : (some t174) = some r := H
       have A29 := As0.mk A290
       clear A290
       obtain rfl := Option.some.inj H
       have hcz30_0 : wc.cell? ⟨gb167, 0, none⟩ = some (.int .i64 a0_0) := (bce BK167.out 0).trans rfl
       have hcz30_1 : wc.cell? ⟨gb167, 1, none⟩ = some (.int .i64 a0_1) := (bce BK167.out 1).trans rfl
       have hfz30_0 := bkf BK167.out 0
       have hfz30_1 := bkf BK167.out 1
       go_wp2_with (first | ((with_reducible refine gcl (f := 42) rfl ?_); refine goesL_ (some 48) rfl rfl Try.func42 (by kernel_rfl) rfl #[.agg #[.int .i64 a0_0, .int .i64 a0_1]] rfl (by (try simp only [zmt, zmc, zmn]); first | done | rfl) ?_; (with_reducible refine (ff_nan.calls a0_0 a0_1 t174 _ A29.out).mono ?_); rintro e w31 ⟨rfl, hb⟩; refine ⟨_, rfl, ?_⟩; have n0_ := As0.mk (bkb (g := gb167) (o := .cells #[.int .i64 a0_0, .int .i64 a0_1] 43 (0, 0)) (by (with_reducible repeat (first | refine bkN ?_ _ | refine bkd ?_ | refine bka ?_ _)); exact BK167.out) hb); have n1_ := As0.mk (bst (by repeat (first | (with_reducible first | exact HB.out | apply bal | apply pwB_ | apply bd1 | refine bse ?_ GE167.out) | exact HB.out)) hb); clear BK167; clear HB; have BK167 := n0_; have HB := n1_; clear n0_ n1_; (try clear hb); (try clear hb2); (try clear hk); (try clear hi)))
       go_ret
       exact ⟨by first | rfl | (simp [*] <;> rfl), by repeat (first | (with_reducible first | exact HB.out | apply bal | apply pwB_ | apply bd1 | refine bse ?_ GE167.out) | exact HB.out)⟩
      ·replace c28 := Bool.eq_false_iff.mpr c28
       subst c28
       have H1 : ((ff_infinity.f a0_0 a0_1).bind fun t175 => ((ff_signed.f a0_0 a0_1 (t168 != t169) t175).bind fun t176 => (some t176))) = some r := by rw [if_neg (show ¬ (false = true) by decide)] at H; exact H
       clear H
       have H := H1
       clear H1
       replace H := zob H
       obtain ⟨t175, A320, H⟩ := H
       replace H : ((ff_signed.f a0_0 a0_1 (t168 != t169) t175).bind fun t176 => (some t176)) = some r := H
       have A32 := As0.mk A320
       clear A320
       replace H := zob H
       obtain ⟨t176, A330, H⟩ := H
       replace H : (some t176) = some r := H
       have A33 := As0.mk A330
       clear A330
       obtain rfl := Option.some.inj H
       try go_wp2
       have n0_ := As0.mk (bkd BK167.out)
       have n1_ := As0.mk (bd1 HB.out)
       clear BK167
       clear HB
       have BK167 := n0_
       have HB := n1_
       clear n0_ n1_
       refine start_ (n := 6) (S := fun w' => w'.cell? ⟨gb167, 0, none⟩ = some (.int .i64 a0_0) ∧ w'.cell? ⟨gb167, 1, none⟩ = some (.int .i64 a0_1)) (ds := []) #[false, false, false, false, false, false] (by kernel_rfl) rfl rfl ⟨(bce BK167.out 0).trans rfl, (bce BK167.out 1).trans rfl⟩ (fun hHeld => ?_)
       generalize wc.drew = w34 at BK167 HB hHeld ⊢
       refine pure_ (i := 1) (N := some 50) (v := ?_) (a' := ?_) #[false, true, false, false, false, false] rfl rfl (by kernel_rfl) (fun _ _ _ h => h) (Or.inl ⟨by rfl, ?_⟩) ?_ ?_
       rotate_left
       ·intro w'
        go_simp
        with_reducible rfl
       rotate_left
       ·simp only [Act.put, zsi, zcz, zcs, i64_w, i32_w]
        rfl
       refine take_ (i := 0) (N := some 49) (v := ?_) (a' := ?_) #[true, true, false, false, false, false] rfl rfl (by kernel_rfl) (fun _ _ _ h => h) (Or.inl ⟨by rfl, ?_⟩) hHeld ?_ ?_
       rotate_left
       ·rintro w' ⟨s0, s1⟩
        go_simp
        with_reducible rfl
       rotate_left
       ·simp only [Act.put, zsi, zcz, zcs, i64_w, i32_w]
        rfl
       refine take_ (i := 2) (N := some 51) (v := ?_) (a' := ?_) #[true, true, true, false, false, false] rfl rfl (by kernel_rfl) (fun _ _ _ h => h) (Or.inl ⟨by rfl, ?_⟩) hHeld ?_ ?_
       rotate_left
       ·rintro w' ⟨s0, s1⟩
        go_simp
        with_reducible rfl
       rotate_left
       ·simp only [Act.put, zsi, zcz, zcs, i64_w, i32_w]
        rfl
       refine one_ (i := 3) (N := some 52) #[true, true, true, true, false, false] rfl rfl (by kernel_rfl) (by decide) (fun K hK => ?_)
       refine goes_ Try.func50 (by kernel_rfl) rfl #[.agg #[.int .i64 a0_0, .int .i64 a0_1]] (by rfl) rfl rfl (by (try simp only [zmt, zmc, zmn]); first | done | rfl) ?_
       with_reducible refine (ff_infinity.calls a0_0 a0_1 t175 _ A32.out).mono ?_
       rintro e w35 ⟨rfl, hb⟩
       refine ⟨_, rfl, ?_⟩
       have n0_ := As0.mk (bkb (g := gb167) (o := .cells #[.int .i64 a0_0, .int .i64 a0_1] 43 (0, 0)) (by (with_reducible repeat (first | refine bkN ?_ _ | refine bkd ?_ | refine bka ?_ _)); exact BK167.out) hb)
       have n1_ := As0.mk (bst (by repeat (first | (with_reducible first | exact HB.out | apply bal | apply pwB_ | apply bd1 | refine bse ?_ GE167.out) | exact HB.out)) hb)
       clear BK167
       clear HB
       have BK167 := n0_
       have HB := n1_
       clear n0_ n1_
       (try clear hb)
       (try clear hb2)
       (try clear hk)
       (try clear hi)
       refine hK.out _ _ ⟨(bce BK167.out 0).trans rfl, (bce BK167.out 1).trans rfl⟩ (fun hHeld => ?_)
       clear hK K
       refine norm_ (a' := ?_) ?_ ?_
       rotate_left
       ·show Act.put _ (some 52) _ = _
        simp only [Act.put, zsi, zcz, zcs, i64_w, i32_w]
        rfl
       refine one_ (i := 4) (N := some 53) #[true, true, true, true, true, false] rfl rfl (by kernel_rfl) (by decide) (fun K hK => ?_)
       refine goes_ Try.func38 (by kernel_rfl) rfl #[.agg #[.int .i64 a0_0, .int .i64 a0_1], .bool (t168 != t169), .int .u64 t175] (by rfl) rfl rfl (by (try simp only [zmt, zmc, zmn]); first | done | rfl) ?_
       with_reducible refine (ff_signed.calls a0_0 a0_1 (t168 != t169) t175 t176 _ A33.out).mono ?_
       rintro e w36 ⟨rfl, hb⟩
       refine ⟨_, rfl, ?_⟩
       have n0_ := As0.mk (bkb (g := gb167) (o := .cells #[.int .i64 a0_0, .int .i64 a0_1] 43 (0, 0)) (by (with_reducible repeat (first | refine bkN ?_ _ | refine bkd ?_ | refine bka ?_ _)); exact BK167.out) hb)
       have n1_ := As0.mk (bst (by repeat (first | (with_reducible first | exact HB.out | apply bal | apply pwB_ | apply bd1 | refine bse ?_ GE167.out) | exact HB.out)) hb)
       clear BK167
       clear HB
       have BK167 := n0_
       have HB := n1_
       clear n0_ n1_
       (try clear hb)
       (try clear hb2)
       (try clear hk)
       (try clear hi)
       refine hK.out _ _ ⟨(bce BK167.out 0).trans rfl, (bce BK167.out 1).trans rfl⟩ (fun hHeld => ?_)
       clear hK K
       refine norm_ (a' := ?_) ?_ ?_
       rotate_left
       ·show Act.put _ (some 53) _ = _
        simp only [Act.put, zsi, zcz, zcs, i64_w, i32_w]
        rfl
       refine pure_ (i := 5) (N := some 6) (v := ?_) (a' := ?_) #[true, true, true, true, true, true] rfl rfl (by kernel_rfl) (fun _ _ _ h => h) (Or.inl ⟨by rfl, ?_⟩) ?_ ?_
       rotate_left
       ·intro w'
        go_simp
        with_reducible rfl
       rotate_left
       ·simp only [Act.put, zsi, zcz, zcs, i64_w, i32_w]
        rfl
       refine done_ (by kernel_rfl) ?_
       try go_wp2
       go_ret
       exact ⟨by first | rfl | (simp [*] <;> rfl), by repeat (first | (with_reducible first | exact HB.out | apply bal | apply pwB_ | apply bd1 | refine bse ?_ GE167.out) | exact HB.out)⟩
   ·replace c25 := Bool.eq_false_iff.mpr c25
    subst c25
    have H1 : ((ff_parts.f a0_0 a0_1 a1).bind fun bt177 => ((ff_parts.f a0_0 a0_1 a2).bind fun bt179 => ((bits_Mul64.f bt177.1 bt179.1).bind fun bt181 => ((bits_Len64.f bt181.1).bind fun t183 => (if t183 > 0 then ((floats_jam.f bt181.2 t183).bind fun t184 => (if 0 ≤ (IntKind.u64.wrap (wrap64 (64 - t183))) then ((ff_round.f kj7 a0_0 a0_1 (t168 != t169) (Go.bits .or .u64 t184 (shl .u64 bt181.1 (IntKind.u64.wrap (wrap64 (64 - t183))))) (wrap64 ((wrap64 (bt177.2 + bt179.2)) + t183)) false).bind fun t185 => (some t185)) else (none))) else ((ff_round.f kj7 a0_0 a0_1 (t168 != t169) bt181.2 (wrap64 ((wrap64 (bt177.2 + bt179.2)) + t183)) false).bind fun t186 => (some t186))))))) = some r := by rw [if_neg (show ¬ (false = true) by decide)] at H; exact H
    clear H
    have H := H1
    clear H1
    replace H := zob H
    obtain ⟨⟨t177, t178⟩, A370, H⟩ := H
    replace H : ((ff_parts.f a0_0 a0_1 a2).bind fun bt179 => ((bits_Mul64.f t177 bt179.1).bind fun bt181 => ((bits_Len64.f bt181.1).bind fun t183 => (if t183 > 0 then ((floats_jam.f bt181.2 t183).bind fun t184 => (if 0 ≤ (IntKind.u64.wrap (wrap64 (64 - t183))) then ((ff_round.f kj7 a0_0 a0_1 (t168 != t169) (Go.bits .or .u64 t184 (shl .u64 bt181.1 (IntKind.u64.wrap (wrap64 (64 - t183))))) (wrap64 ((wrap64 (t178 + bt179.2)) + t183)) false).bind fun t185 => (some t185)) else (none))) else ((ff_round.f kj7 a0_0 a0_1 (t168 != t169) bt181.2 (wrap64 ((wrap64 (t178 + bt179.2)) + t183)) false).bind fun t186 => (some t186)))))) = some r := H
    have A37 := As0.mk A370
    clear A370
    replace H := zob H
    obtain ⟨⟨t179, t180⟩, A380, H⟩ := H
    replace H : ((bits_Mul64.f t177 t179).bind fun bt181 => ((bits_Len64.f bt181.1).bind fun t183 => (if t183 > 0 then ((floats_jam.f bt181.2 t183).bind fun t184 => (if 0 ≤ (IntKind.u64.wrap (wrap64 (64 - t183))) then ((ff_round.f kj7 a0_0 a0_1 (t168 != t169) (Go.bits .or .u64 t184 (shl .u64 bt181.1 (IntKind.u64.wrap (wrap64 (64 - t183))))) (wrap64 ((wrap64 (t178 + t180)) + t183)) false).bind fun t185 => (some t185)) else (none))) else ((ff_round.f kj7 a0_0 a0_1 (t168 != t169) bt181.2 (wrap64 ((wrap64 (t178 + t180)) + t183)) false).bind fun t186 => (some t186))))) = some r := H
    have A38 := As0.mk A380
    clear A380
    replace H := zob H
    obtain ⟨⟨t181, t182⟩, A390, H⟩ := H
    replace H : ((bits_Len64.f t181).bind fun t183 => (if t183 > 0 then ((floats_jam.f t182 t183).bind fun t184 => (if 0 ≤ (IntKind.u64.wrap (wrap64 (64 - t183))) then ((ff_round.f kj7 a0_0 a0_1 (t168 != t169) (Go.bits .or .u64 t184 (shl .u64 t181 (IntKind.u64.wrap (wrap64 (64 - t183))))) (wrap64 ((wrap64 (t178 + t180)) + t183)) false).bind fun t185 => (some t185)) else (none))) else ((ff_round.f kj7 a0_0 a0_1 (t168 != t169) t182 (wrap64 ((wrap64 (t178 + t180)) + t183)) false).bind fun t186 => (some t186)))) = some r := H
    have A39 := As0.mk A390
    clear A390
    replace H := zob H
    obtain ⟨t183, A400, H⟩ := H
    replace H : (if t183 > 0 then ((floats_jam.f t182 t183).bind fun t184 => (if 0 ≤ (IntKind.u64.wrap (wrap64 (64 - t183))) then ((ff_round.f kj7 a0_0 a0_1 (t168 != t169) (Go.bits .or .u64 t184 (shl .u64 t181 (IntKind.u64.wrap (wrap64 (64 - t183))))) (wrap64 ((wrap64 (t178 + t180)) + t183)) false).bind fun t185 => (some t185)) else (none))) else ((ff_round.f kj7 a0_0 a0_1 (t168 != t169) t182 (wrap64 ((wrap64 (t178 + t180)) + t183)) false).bind fun t186 => (some t186))) = some r := H
    have A40 := As0.mk A400
    clear A400
    by_cases c41 : t183 > 0
    ·rw [if_pos c41] at H
     have c41b0 : decide (0 < t183) = true := decide_eq_true c41
     clear c41
     replace H := zob H
     obtain ⟨t184, A420, H⟩ := H
     replace H : (if 0 ≤ (IntKind.u64.wrap (wrap64 (64 - t183))) then ((ff_round.f kj7 a0_0 a0_1 (t168 != t169) (Go.bits .or .u64 t184 (shl .u64 t181 (IntKind.u64.wrap (wrap64 (64 - t183))))) (wrap64 ((wrap64 (t178 + t180)) + t183)) false).bind fun t185 => (some t185)) else (none)) = some r := H
     have A42 := As0.mk A420
     clear A420
     obtain ⟨ji43, hji43⟩ : ∃ j_ : Int, (IntKind.u64.wrap (wrap64 (64 - t183))) = j_ := ⟨_, rfl⟩
     replace H : (if 0 ≤ (ji43) then ((ff_round.f kj7 a0_0 a0_1 (t168 != t169) (Go.bits .or .u64 t184 (shl .u64 t181 (ji43))) (wrap64 ((wrap64 (t178 + t180)) + t183)) false).bind fun t185 => (some t185)) else (none)) = some r := by first | (rw [hji43] at H; exact H) | (simp only [hji43] at H ⊢; exact H)
     (try rw [hji43] at A37)
     (try rw [hji43] at A38)
     (try rw [hji43] at A39)
     (try rw [hji43] at A40)
     (try rw [hji43] at A42)
     by_cases c44 : 0 ≤ (ji43)
     ·rw [if_pos c44] at H
      have c44b0 := eq_true c44
      have c44b1 : decide (0 ≤ (ji43)) = true := decide_eq_true c44
      clear c44
      obtain ⟨ji45, hji45⟩ : ∃ j_ : Int, (shl .u64 t181 (ji43)) = j_ := ⟨_, rfl⟩
      replace H : ((ff_round.f kj7 a0_0 a0_1 (t168 != t169) (Go.bits .or .u64 t184 (ji45)) (wrap64 ((wrap64 (t178 + t180)) + t183)) false).bind fun t185 => (some t185)) = some r := by first | (rw [hji45] at H; exact H) | (simp only [hji45] at H ⊢; exact H)
      (try rw [hji45] at A37)
      (try rw [hji45] at A38)
      (try rw [hji45] at A39)
      (try rw [hji45] at A40)
      (try rw [hji45] at A42)
      have hji45_ : (IntKind.u64.wrap (t181 * 2 ^ min (ji43).toNat 64)) = ji45 := hji45
      have hji45z : (ji43) ≤ 64 → (IntKind.u64.wrap (t181 * 2 ^ (ji43).toNat)) = ji45 := shl_small hji45
      replace H := zob H
      obtain ⟨t185, A460, H⟩ := H
      replace H : (some t185) = some r := H
      have A46 := As0.mk A460
      clear A460
      obtain rfl := Option.some.inj H
      have hcz47_0 : wc.cell? ⟨gb167, 0, none⟩ = some (.int .i64 a0_0) := (bce BK167.out 0).trans rfl
      have hcz47_1 : wc.cell? ⟨gb167, 1, none⟩ = some (.int .i64 a0_1) := (bce BK167.out 1).trans rfl
      have hfz47_0 := bkf BK167.out 0
      have hfz47_1 := bkf BK167.out 1
      go_wp2_with (first | ((with_reducible refine gcl (f := 57) rfl ?_); refine goesL_ (some 57) rfl rfl Try.func57 (by kernel_rfl) rfl #[.agg #[.int .i64 a0_0, .int .i64 a0_1], .int .u64 a1] rfl (by (try simp only [zmt, zmc, zmn]); first | done | rfl) ?_; (with_reducible refine (ff_parts.calls a0_0 a0_1 a1 t177 t178 _ A37.out).mono ?_); rintro e w48 ⟨rfl, hb⟩; refine ⟨_, rfl, ?_⟩; have n0_ := As0.mk (bkb (g := gb167) (o := .cells #[.int .i64 a0_0, .int .i64 a0_1] 43 (0, 0)) (by (with_reducible repeat (first | refine bkN ?_ _ | refine bkd ?_ | refine bka ?_ _)); exact BK167.out) hb); have n1_ := As0.mk (bst (by repeat (first | (with_reducible first | exact HB.out | apply bal | apply pwB_ | apply bd1 | refine bse ?_ GE167.out) | exact HB.out)) hb); clear BK167; clear HB; have BK167 := n0_; have HB := n1_; clear n0_ n1_; (try clear hb); (try clear hb2); (try clear hk); (try clear hi); have hcz49_0 : w48.cell? ⟨gb167, 0, none⟩ = some (.int .i64 a0_0) := (bce BK167.out 0).trans rfl; have hcz49_1 : w48.cell? ⟨gb167, 1, none⟩ = some (.int .i64 a0_1) := (bce BK167.out 1).trans rfl; have hfz49_0 := bkf BK167.out 0; have hfz49_1 := bkf BK167.out 1) | ((with_reducible refine gcl (f := 57) rfl ?_); refine goesL_ (some 63) rfl rfl Try.func57 (by kernel_rfl) rfl #[.agg #[.int .i64 a0_0, .int .i64 a0_1], .int .u64 a2] rfl (by (try simp only [zmt, zmc, zmn]); first | done | rfl) ?_; (with_reducible refine (ff_parts.calls a0_0 a0_1 a2 t179 t180 _ A38.out).mono ?_); rintro e w50 ⟨rfl, hb⟩; refine ⟨_, rfl, ?_⟩; have n0_ := As0.mk (bkb (g := gb167) (o := .cells #[.int .i64 a0_0, .int .i64 a0_1] 43 (0, 0)) (by (with_reducible repeat (first | refine bkN ?_ _ | refine bkd ?_ | refine bka ?_ _)); exact BK167.out) hb); have n1_ := As0.mk (bst (by repeat (first | (with_reducible first | exact HB.out | apply bal | apply pwB_ | apply bd1 | refine bse ?_ GE167.out) | exact HB.out)) hb); clear BK167; clear HB; have BK167 := n0_; have HB := n1_; clear n0_ n1_; (try clear hb); (try clear hb2); (try clear hk); (try clear hi)) | ((with_reducible refine gcl (f := 66) rfl ?_); refine goesL_ (some 69) rfl rfl Try.func66 (by kernel_rfl) rfl #[.int .u64 t177, .int .u64 t179] rfl (by (try simp only [zmt, zmc, zmn]); first | done | rfl) ?_; (with_reducible refine (bits_Mul64.calls t177 t179 t181 t182 _ A39.out).mono ?_); rintro e w' ⟨rfl, ⟨nd, rfl⟩⟩; refine ⟨_, rfl, ?_⟩) | ((with_reducible refine gcl (f := 63) rfl ?_); refine goesL_ (some 73) rfl rfl Try.func63 (by kernel_rfl) rfl #[.int .u64 t181] rfl (by (try simp only [zmt, zmc, zmn]); first | done | rfl) ?_; (with_reducible refine (bits_Len64.calls t181 t183 _ A40.out).mono ?_); rintro e w' ⟨rfl, ⟨nd, rfl⟩⟩; refine ⟨_, rfl, ?_⟩) | ((with_reducible refine gcl (f := 65) rfl ?_); refine goesL_ (some 79) rfl rfl Try.func65 (by kernel_rfl) rfl #[.int .u64 t182, .int .i64 t183] rfl (by (try simp only [zmt, zmc, zmn]); first | done | rfl) ?_; (with_reducible refine (floats_jam.calls t182 t183 t184 _ A42.out).mono ?_); rintro e w' ⟨rfl, ⟨nd, rfl⟩⟩; refine ⟨_, rfl, ?_⟩; have hcz51_0 : w50.cell? ⟨gb167, 0, none⟩ = some (.int .i64 a0_0) := (bce BK167.out 0).trans rfl; have hcz51_1 : w50.cell? ⟨gb167, 1, none⟩ = some (.int .i64 a0_1) := (bce BK167.out 1).trans rfl; have hfz51_0 := bkf BK167.out 0; have hfz51_1 := bkf BK167.out 1) | ((with_reducible refine gcl (f := 33) rfl ?_); refine goesL_ (some 94) rfl rfl Try.func33 (by kernel_rfl) rfl #[.agg #[.int .i64 a0_0, .int .i64 a0_1], .bool (t168 != t169), .int .u64 (Go.bits .or .u64 t184 (ji45)), .int .i64 (wrap64 ((wrap64 (t178 + t180)) + t183)), .bool false] rfl (by (try simp only [zmt, zmc, zmn]); first | done | (simp only [hji45]; rfl) | rfl) ?_; (with_reducible refine (ff_round.calls kj7 a0_0 a0_1 (t168 != t169) (Go.bits .or .u64 t184 (ji45)) (wrap64 ((wrap64 (t178 + t180)) + t183)) false t185 _ A46.out).mono ?_); rintro e w52 ⟨rfl, hb⟩; refine ⟨_, rfl, ?_⟩; have n0_ := As0.mk (bkb (g := gb167) (o := .cells #[.int .i64 a0_0, .int .i64 a0_1] 43 (0, 0)) (by (with_reducible repeat (first | refine bkN ?_ _ | refine bkd ?_ | refine bka ?_ _)); exact BK167.out) hb); have n1_ := As0.mk (bst (by repeat (first | (with_reducible first | exact HB.out | apply bal | apply pwB_ | apply bd1 | refine bse ?_ GE167.out) | exact HB.out)) hb); clear BK167; clear HB; have BK167 := n0_; have HB := n1_; clear n0_ n1_; (try clear hb); (try clear hb2); (try clear hk); (try clear hi)))
      go_ret
      exact ⟨by first | rfl | (simp only [← hji43, ← hji45]; first | rfl) | (simp [*] <;> rfl), by repeat (first | (with_reducible first | exact HB.out | apply bal | apply pwB_ | apply bd1 | refine bse ?_ GE167.out) | exact HB.out)⟩
     ·rw [if_neg c44] at H
      exact absurd H (by simp)
    ·rw [if_neg c41] at H
     have c41b0 : decide (0 < t183) = false := decide_eq_false c41
     clear c41
     replace H := zob H
     obtain ⟨t186, A530, H⟩ := H
     replace H : (some t186) = some r := H
     have A53 := As0.mk A530
     clear A530
     obtain rfl := Option.some.inj H
     have hcz54_0 : wc.cell? ⟨gb167, 0, none⟩ = some (.int .i64 a0_0) := (bce BK167.out 0).trans rfl
     have hcz54_1 : wc.cell? ⟨gb167, 1, none⟩ = some (.int .i64 a0_1) := (bce BK167.out 1).trans rfl
     have hfz54_0 := bkf BK167.out 0
     have hfz54_1 := bkf BK167.out 1
     go_wp2_with (first | ((with_reducible refine gcl (f := 57) rfl ?_); refine goesL_ (some 57) rfl rfl Try.func57 (by kernel_rfl) rfl #[.agg #[.int .i64 a0_0, .int .i64 a0_1], .int .u64 a1] rfl (by (try simp only [zmt, zmc, zmn]); first | done | rfl) ?_; (with_reducible refine (ff_parts.calls a0_0 a0_1 a1 t177 t178 _ A37.out).mono ?_); rintro e w55 ⟨rfl, hb⟩; refine ⟨_, rfl, ?_⟩; have n0_ := As0.mk (bkb (g := gb167) (o := .cells #[.int .i64 a0_0, .int .i64 a0_1] 43 (0, 0)) (by (with_reducible repeat (first | refine bkN ?_ _ | refine bkd ?_ | refine bka ?_ _)); exact BK167.out) hb); have n1_ := As0.mk (bst (by repeat (first | (with_reducible first | exact HB.out | apply bal | apply pwB_ | apply bd1 | refine bse ?_ GE167.out) | exact HB.out)) hb); clear BK167; clear HB; have BK167 := n0_; have HB := n1_; clear n0_ n1_; (try clear hb); (try clear hb2); (try clear hk); (try clear hi); have hcz56_0 : w55.cell? ⟨gb167, 0, none⟩ = some (.int .i64 a0_0) := (bce BK167.out 0).trans rfl; have hcz56_1 : w55.cell? ⟨gb167, 1, none⟩ = some (.int .i64 a0_1) := (bce BK167.out 1).trans rfl; have hfz56_0 := bkf BK167.out 0; have hfz56_1 := bkf BK167.out 1) | ((with_reducible refine gcl (f := 57) rfl ?_); refine goesL_ (some 63) rfl rfl Try.func57 (by kernel_rfl) rfl #[.agg #[.int .i64 a0_0, .int .i64 a0_1], .int .u64 a2] rfl (by (try simp only [zmt, zmc, zmn]); first | done | rfl) ?_; (with_reducible refine (ff_parts.calls a0_0 a0_1 a2 t179 t180 _ A38.out).mono ?_); rintro e w57 ⟨rfl, hb⟩; refine ⟨_, rfl, ?_⟩; have n0_ := As0.mk (bkb (g := gb167) (o := .cells #[.int .i64 a0_0, .int .i64 a0_1] 43 (0, 0)) (by (with_reducible repeat (first | refine bkN ?_ _ | refine bkd ?_ | refine bka ?_ _)); exact BK167.out) hb); have n1_ := As0.mk (bst (by repeat (first | (with_reducible first | exact HB.out | apply bal | apply pwB_ | apply bd1 | refine bse ?_ GE167.out) | exact HB.out)) hb); clear BK167; clear HB; have BK167 := n0_; have HB := n1_; clear n0_ n1_; (try clear hb); (try clear hb2); (try clear hk); (try clear hi)) | ((with_reducible refine gcl (f := 66) rfl ?_); refine goesL_ (some 69) rfl rfl Try.func66 (by kernel_rfl) rfl #[.int .u64 t177, .int .u64 t179] rfl (by (try simp only [zmt, zmc, zmn]); first | done | rfl) ?_; (with_reducible refine (bits_Mul64.calls t177 t179 t181 t182 _ A39.out).mono ?_); rintro e w' ⟨rfl, ⟨nd, rfl⟩⟩; refine ⟨_, rfl, ?_⟩) | ((with_reducible refine gcl (f := 63) rfl ?_); refine goesL_ (some 73) rfl rfl Try.func63 (by kernel_rfl) rfl #[.int .u64 t181] rfl (by (try simp only [zmt, zmc, zmn]); first | done | rfl) ?_; (with_reducible refine (bits_Len64.calls t181 t183 _ A40.out).mono ?_); rintro e w' ⟨rfl, ⟨nd, rfl⟩⟩; refine ⟨_, rfl, ?_⟩; have hcz58_0 : w57.cell? ⟨gb167, 0, none⟩ = some (.int .i64 a0_0) := (bce BK167.out 0).trans rfl; have hcz58_1 : w57.cell? ⟨gb167, 1, none⟩ = some (.int .i64 a0_1) := (bce BK167.out 1).trans rfl; have hfz58_0 := bkf BK167.out 0; have hfz58_1 := bkf BK167.out 1) | ((with_reducible refine gcl (f := 33) rfl ?_); refine goesL_ (some 94) rfl rfl Try.func33 (by kernel_rfl) rfl #[.agg #[.int .i64 a0_0, .int .i64 a0_1], .bool (t168 != t169), .int .u64 t182, .int .i64 (wrap64 ((wrap64 (t178 + t180)) + t183)), .bool false] rfl (by (try simp only [zmt, zmc, zmn]); first | done | rfl) ?_; (with_reducible refine (ff_round.calls kj7 a0_0 a0_1 (t168 != t169) t182 (wrap64 ((wrap64 (t178 + t180)) + t183)) false t186 _ A53.out).mono ?_); rintro e w59 ⟨rfl, hb⟩; refine ⟨_, rfl, ?_⟩; have n0_ := As0.mk (bkb (g := gb167) (o := .cells #[.int .i64 a0_0, .int .i64 a0_1] 43 (0, 0)) (by (with_reducible repeat (first | refine bkN ?_ _ | refine bkd ?_ | refine bka ?_ _)); exact BK167.out) hb); have n1_ := As0.mk (bst (by repeat (first | (with_reducible first | exact HB.out | apply bal | apply pwB_ | apply bd1 | refine bse ?_ GE167.out) | exact HB.out)) hb); clear BK167; clear HB; have BK167 := n0_; have HB := n1_; clear n0_ n1_; (try clear hb); (try clear hb2); (try clear hk); (try clear hi)))
     go_ret
     exact ⟨by first | rfl | (simp [*] <;> rfl), by repeat (first | (with_reducible first | exact HB.out | apply bal | apply pwB_ | apply bd1 | refine bse ?_ GE167.out) | exact HB.out)⟩
def bits_LeadingZeros64.f (a0 : Int) : Option (Int) := (bits_Len64.f a0).bind fun t187 => (some (wrap64 (64 - t187)))
set_option maxHeartbeats 8000000 in
set_option maxRecDepth 100000 in
theorem bits_LeadingZeros64.calls (a0 : Int) (r : Int) (w : World) (h : bits_LeadingZeros64.f a0 = some r) :
  Calls Try.prog 67 #[.int .u64 a0] w fun e w' => e = .returned (.int .i64 r) ∧ Drawn0 w w' := by
 have H : ((bits_Len64.f a0).bind fun t187 => (some (wrap64 (64 - t187)))) = some r := h
 clear h
 replace H := zob H
 obtain ⟨t187, A20, H⟩ := H
 replace H : (some (wrap64 (64 - t187))) = some r := H
 have A2 := As0.mk A20
 clear A20
 obtain rfl := Option.some.inj H
 go_enter Try.func67, Try.ntmps67
 go_wp2_with (first | ((with_reducible refine gcl (f := 63) rfl ?_); refine goesL_ (some 4) rfl rfl Try.func63 (by kernel_rfl) rfl #[.int .u64 a0] rfl (by (try simp only [zmt, zmc, zmn]); first | done | rfl) ?_; (with_reducible refine (bits_Len64.calls a0 t187 _ A2.out).mono ?_); rintro e w' ⟨rfl, ⟨nd, rfl⟩⟩; refine ⟨_, rfl, ?_⟩))
 go_ret
 exact ⟨by first | rfl | (simp; done) | (simp [*]; done), by repeat (first | exact Drawn0.refl _ | apply Drawn0.step)⟩
end Go.Proofs.Ytjfmomogidgbpaa.PFl
namespace Go.Proofs.Ytjfmomogidgbpaa.PFl
open Go.RowKit Go.Proofs.YtjfmomogidgbpaaW.PrintWords Go.Proofs.YtjfmomogidgbpaaW.PrintLast Go.Proofs.YtjfmomogidgbpaaW.PrintMore
attribute [local go_sem] max2_int min2_int max_two min_two max_three min_three max_four min_four
set_option linter.unusedVariables false
set_option linter.unusedSimpArgs false
mutual
def bits_Div64.j2 : Nat → Int → Int → Int → Int → Int → Int → Int → Int → Option (Int × Int)
 | 0, _, _, _, _, _, _, _, _ => none
 | k + 1, x2, x8, x9, x10, x11, x13, x14, x15 => if x9 = 0 then (none) else (bits_Div64.l1 k x2 x8 x9 x10 x14 x15 (IntKind.u64.wrap ((IntKind.u64.wrap ((IntKind.u64.wrap ((IntKind.u64.wrap (x11 * 4294967296)) + x13)) - (IntKind.u64.wrap (x15 * x2)))) - (IntKind.u64.wrap ((IntKind.u64.wrap (Int.tdiv (IntKind.u64.wrap ((IntKind.u64.wrap ((IntKind.u64.wrap (x11 * 4294967296)) + x13)) - (IntKind.u64.wrap (x15 * x2)))) x9)) * x9)))) (IntKind.u64.wrap ((IntKind.u64.wrap ((IntKind.u64.wrap (x11 * 4294967296)) + x13)) - (IntKind.u64.wrap (x15 * x2)))) (IntKind.u64.wrap (Int.tdiv (IntKind.u64.wrap ((IntKind.u64.wrap ((IntKind.u64.wrap (x11 * 4294967296)) + x13)) - (IntKind.u64.wrap (x15 * x2)))) x9)))
def bits_Div64.l1 : Nat → Int → Int → Int → Int → Int → Int → Int → Int → Int → Option (Int × Int)
 | 0, _, _, _, _, _, _, _, _, _ => none
 | k + 1, x2, x8, x9, x10, x14, x15, x16, x17, x18 => if x18 ≥ 4294967296 then (bits_Div64.j4 k x2 x8 x9 x10 x14 x15 x16 x17 x18 true) else (bits_Div64.j4 k x2 x8 x9 x10 x14 x15 x16 x17 x18 (decide ((IntKind.u64.wrap (x18 * x10)) > (IntKind.u64.wrap ((IntKind.u64.wrap (4294967296 * x16)) + x14)))))
def bits_Div64.j4 : Nat → Int → Int → Int → Int → Int → Int → Int → Int → Int → Bool → Option (Int × Int)
 | 0, _, _, _, _, _, _, _, _, _, _ => none
 | k + 1, x2, x8, x9, x10, x14, x15, x16, x17, x18, x113 => if x113 = true then (if (IntKind.u64.wrap (x16 + x9)) ≥ 4294967296 then (if 0 ≤ x8 then (some (IntKind.u64.wrap ((IntKind.u64.wrap (x15 * 4294967296)) + (IntKind.u64.wrap (x18 - 1))), shr .u64 (IntKind.u64.wrap ((IntKind.u64.wrap ((IntKind.u64.wrap (x17 * 4294967296)) + x14)) - (IntKind.u64.wrap ((IntKind.u64.wrap (x18 - 1)) * x2)))) x8)) else (none)) else (bits_Div64.l1 k x2 x8 x9 x10 x14 x15 (IntKind.u64.wrap (x16 + x9)) x17 (IntKind.u64.wrap (x18 - 1)))) else (if 0 ≤ x8 then (some (IntKind.u64.wrap ((IntKind.u64.wrap (x15 * 4294967296)) + x18), shr .u64 (IntKind.u64.wrap ((IntKind.u64.wrap ((IntKind.u64.wrap (x17 * 4294967296)) + x14)) - (IntKind.u64.wrap (x18 * x2)))) x8)) else (none))
def bits_Div64.l0 : Nat → Int → Int → Int → Int → Int → Int → Int → Int → Int → Option (Int × Int)
 | 0, _, _, _, _, _, _, _, _, _ => none
 | k + 1, x2, x8, x9, x10, x11, x13, x14, x15, x16 => if x15 ≥ 4294967296 then (bits_Div64.j1 k x2 x8 x9 x10 x11 x13 x14 x15 x16 true) else (bits_Div64.j1 k x2 x8 x9 x10 x11 x13 x14 x15 x16 (decide ((IntKind.u64.wrap (x15 * x10)) > (IntKind.u64.wrap ((IntKind.u64.wrap (4294967296 * x16)) + x13)))))
def bits_Div64.j1 : Nat → Int → Int → Int → Int → Int → Int → Int → Int → Int → Bool → Option (Int × Int)
 | 0, _, _, _, _, _, _, _, _, _, _ => none
 | k + 1, x2, x8, x9, x10, x11, x13, x14, x15, x16, x78 => if x78 = true then (if (IntKind.u64.wrap (x16 + x9)) ≥ 4294967296 then (bits_Div64.j2 k x2 x8 x9 x10 x11 x13 x14 (IntKind.u64.wrap (x15 - 1))) else (bits_Div64.l0 k x2 x8 x9 x10 x11 x13 x14 (IntKind.u64.wrap (x15 - 1)) (IntKind.u64.wrap (x16 + x9)))) else (bits_Div64.j2 k x2 x8 x9 x10 x11 x13 x14 x15)
end
def bits_Div64.f (k : Nat) (a0 : Int) (a1 : Int) (a2 : Int) : Option (Int × Int) := if a2 = 0 then (none) else (if a2 ≤ a0 then (none) else (if a0 = 0 then (some (IntKind.u64.wrap (Int.tdiv a1 a2), Int.tmod a1 a2)) else ((bits_LeadingZeros64.f a2).bind fun t188 => (if 0 ≤ (IntKind.u64.wrap (t188)) then (if 0 ≤ (IntKind.u64.wrap (64 - (IntKind.u64.wrap (t188)))) then (if ((shl .u64 a2 (IntKind.u64.wrap (t188))) / 4294967296) = 0 then (none) else (bits_Div64.l0 k (shl .u64 a2 (IntKind.u64.wrap (t188))) (IntKind.u64.wrap (t188)) ((shl .u64 a2 (IntKind.u64.wrap (t188))) / 4294967296) (Go.bits .and .u64 (shl .u64 a2 (IntKind.u64.wrap (t188))) 4294967295) (Go.bits .or .u64 (shl .u64 a0 (IntKind.u64.wrap (t188))) (shr .u64 a1 (IntKind.u64.wrap (64 - (IntKind.u64.wrap (t188)))))) ((shl .u64 a1 (IntKind.u64.wrap (t188))) / 4294967296) (Go.bits .and .u64 (shl .u64 a1 (IntKind.u64.wrap (t188))) 4294967295) (IntKind.u64.wrap (Int.tdiv (Go.bits .or .u64 (shl .u64 a0 (IntKind.u64.wrap (t188))) (shr .u64 a1 (IntKind.u64.wrap (64 - (IntKind.u64.wrap (t188)))))) ((shl .u64 a2 (IntKind.u64.wrap (t188))) / 4294967296))) (IntKind.u64.wrap ((Go.bits .or .u64 (shl .u64 a0 (IntKind.u64.wrap (t188))) (shr .u64 a1 (IntKind.u64.wrap (64 - (IntKind.u64.wrap (t188)))))) - (IntKind.u64.wrap ((IntKind.u64.wrap (Int.tdiv (Go.bits .or .u64 (shl .u64 a0 (IntKind.u64.wrap (t188))) (shr .u64 a1 (IntKind.u64.wrap (64 - (IntKind.u64.wrap (t188)))))) ((shl .u64 a2 (IntKind.u64.wrap (t188))) / 4294967296))) * ((shl .u64 a2 (IntKind.u64.wrap (t188))) / 4294967296))))))) else (none)) else (none)))))
theorem bits_Div64.mono_l : ∀ k, (∀ y0 y1 y2 y3 y4 y5 y6 y7, LeO (bits_Div64.j2 k y0 y1 y2 y3 y4 y5 y6 y7) (bits_Div64.j2 (k + 1) y0 y1 y2 y3 y4 y5 y6 y7)) ∧ (∀ y0 y1 y2 y3 y4 y5 y6 y7 y8, LeO (bits_Div64.l1 k y0 y1 y2 y3 y4 y5 y6 y7 y8) (bits_Div64.l1 (k + 1) y0 y1 y2 y3 y4 y5 y6 y7 y8)) ∧ (∀ y0 y1 y2 y3 y4 y5 y6 y7 y8 y9, LeO (bits_Div64.j4 k y0 y1 y2 y3 y4 y5 y6 y7 y8 y9) (bits_Div64.j4 (k + 1) y0 y1 y2 y3 y4 y5 y6 y7 y8 y9)) ∧ (∀ y0 y1 y2 y3 y4 y5 y6 y7 y8, LeO (bits_Div64.l0 k y0 y1 y2 y3 y4 y5 y6 y7 y8) (bits_Div64.l0 (k + 1) y0 y1 y2 y3 y4 y5 y6 y7 y8)) ∧ (∀ y0 y1 y2 y3 y4 y5 y6 y7 y8 y9, LeO (bits_Div64.j1 k y0 y1 y2 y3 y4 y5 y6 y7 y8 y9) (bits_Div64.j1 (k + 1) y0 y1 y2 y3 y4 y5 y6 y7 y8 y9)) := by
 intro k
 induction k with
 | zero => exact ⟨fun _ _ _ _ _ _ _ _ r h => by simp [bits_Div64.j2] at h, fun _ _ _ _ _ _ _ _ _ r h => by simp [bits_Div64.l1] at h, fun _ _ _ _ _ _ _ _ _ _ r h => by simp [bits_Div64.j4] at h, fun _ _ _ _ _ _ _ _ _ r h => by simp [bits_Div64.l0] at h, fun _ _ _ _ _ _ _ _ _ _ r h => by simp [bits_Div64.j1] at h⟩
 | succ k ih =>
  obtain ⟨ih0, ih1, ih2, ih3, ih4⟩ := ih
  refine ⟨?_, ?_, ?_, ?_, ?_⟩
  ·intro y0 y1 y2 y3 y4 y5 y6 y7
   unfold bits_Div64.j2
   repeat' first
   | (with_reducible exact ih0 _ _ _ _ _ _ _ _)
   | (with_reducible exact ih1 _ _ _ _ _ _ _ _ _)
   | (with_reducible exact ih2 _ _ _ _ _ _ _ _ _ _)
   | (with_reducible exact ih3 _ _ _ _ _ _ _ _ _)
   | (with_reducible exact ih4 _ _ _ _ _ _ _ _ _ _)
   | (with_reducible exact LeO.refl _)
   | (with_reducible exact LeO.none _)
   | (with_reducible refine LeO.ite ?_ ?_)
   | (with_reducible refine LeO.bind ?_ (fun _ => ?_))
   | exact ih0 _ _ _ _ _ _ _ _
   | exact ih1 _ _ _ _ _ _ _ _ _
   | exact ih2 _ _ _ _ _ _ _ _ _ _
   | exact ih3 _ _ _ _ _ _ _ _ _
   | exact ih4 _ _ _ _ _ _ _ _ _ _
   | exact LeO.none _
   | refine LeO.ite ?_ ?_
   | refine LeO.bind ?_ (fun _ => ?_)
  ·intro y0 y1 y2 y3 y4 y5 y6 y7 y8
   unfold bits_Div64.l1
   repeat' first
   | (with_reducible exact ih0 _ _ _ _ _ _ _ _)
   | (with_reducible exact ih1 _ _ _ _ _ _ _ _ _)
   | (with_reducible exact ih2 _ _ _ _ _ _ _ _ _ _)
   | (with_reducible exact ih3 _ _ _ _ _ _ _ _ _)
   | (with_reducible exact ih4 _ _ _ _ _ _ _ _ _ _)
   | (with_reducible exact LeO.refl _)
   | (with_reducible exact LeO.none _)
   | (with_reducible refine LeO.ite ?_ ?_)
   | (with_reducible refine LeO.bind ?_ (fun _ => ?_))
   | exact ih0 _ _ _ _ _ _ _ _
   | exact ih1 _ _ _ _ _ _ _ _ _
   | exact ih2 _ _ _ _ _ _ _ _ _ _
   | exact ih3 _ _ _ _ _ _ _ _ _
   | exact ih4 _ _ _ _ _ _ _ _ _ _
   | exact LeO.none _
   | refine LeO.ite ?_ ?_
   | refine LeO.bind ?_ (fun _ => ?_)
  ·intro y0 y1 y2 y3 y4 y5 y6 y7 y8 y9
   unfold bits_Div64.j4
   repeat' first
   | (with_reducible exact ih0 _ _ _ _ _ _ _ _)
   | (with_reducible exact ih1 _ _ _ _ _ _ _ _ _)
   | (with_reducible exact ih2 _ _ _ _ _ _ _ _ _ _)
   | (with_reducible exact ih3 _ _ _ _ _ _ _ _ _)
   | (with_reducible exact ih4 _ _ _ _ _ _ _ _ _ _)
   | (with_reducible exact LeO.refl _)
   | (with_reducible exact LeO.none _)
   | (with_reducible refine LeO.ite ?_ ?_)
   | (with_reducible refine LeO.bind ?_ (fun _ => ?_))
   | exact ih0 _ _ _ _ _ _ _ _
   | exact ih1 _ _ _ _ _ _ _ _ _
   | exact ih2 _ _ _ _ _ _ _ _ _ _
   | exact ih3 _ _ _ _ _ _ _ _ _
   | exact ih4 _ _ _ _ _ _ _ _ _ _
   | exact LeO.none _
   | refine LeO.ite ?_ ?_
   | refine LeO.bind ?_ (fun _ => ?_)
  ·intro y0 y1 y2 y3 y4 y5 y6 y7 y8
   unfold bits_Div64.l0
   repeat' first
   | (with_reducible exact ih0 _ _ _ _ _ _ _ _)
   | (with_reducible exact ih1 _ _ _ _ _ _ _ _ _)
   | (with_reducible exact ih2 _ _ _ _ _ _ _ _ _ _)
   | (with_reducible exact ih3 _ _ _ _ _ _ _ _ _)
   | (with_reducible exact ih4 _ _ _ _ _ _ _ _ _ _)
   | (with_reducible exact LeO.refl _)
   | (with_reducible exact LeO.none _)
   | (with_reducible refine LeO.ite ?_ ?_)
   | (with_reducible refine LeO.bind ?_ (fun _ => ?_))
   | exact ih0 _ _ _ _ _ _ _ _
   | exact ih1 _ _ _ _ _ _ _ _ _
   | exact ih2 _ _ _ _ _ _ _ _ _ _
   | exact ih3 _ _ _ _ _ _ _ _ _
   | exact ih4 _ _ _ _ _ _ _ _ _ _
   | exact LeO.none _
   | refine LeO.ite ?_ ?_
   | refine LeO.bind ?_ (fun _ => ?_)
  ·intro y0 y1 y2 y3 y4 y5 y6 y7 y8 y9
   unfold bits_Div64.j1
   repeat' first
   | (with_reducible exact ih0 _ _ _ _ _ _ _ _)
   | (with_reducible exact ih1 _ _ _ _ _ _ _ _ _)
   | (with_reducible exact ih2 _ _ _ _ _ _ _ _ _ _)
   | (with_reducible exact ih3 _ _ _ _ _ _ _ _ _)
   | (with_reducible exact ih4 _ _ _ _ _ _ _ _ _ _)
   | (with_reducible exact LeO.refl _)
   | (with_reducible exact LeO.none _)
   | (with_reducible refine LeO.ite ?_ ?_)
   | (with_reducible refine LeO.bind ?_ (fun _ => ?_))
   | exact ih0 _ _ _ _ _ _ _ _
   | exact ih1 _ _ _ _ _ _ _ _ _
   | exact ih2 _ _ _ _ _ _ _ _ _ _
   | exact ih3 _ _ _ _ _ _ _ _ _
   | exact ih4 _ _ _ _ _ _ _ _ _ _
   | exact LeO.none _
   | refine LeO.ite ?_ ?_
   | refine LeO.bind ?_ (fun _ => ?_)
theorem bits_Div64.mono : ∀ a0 a1 a2 k, LeO (bits_Div64.f k a0 a1 a2) (bits_Div64.f (k + 1) a0 a1 a2) := by
 intro a0 a1 a2 k
 obtain ⟨ih0, ih1, ih2, ih3, ih4⟩ := bits_Div64.mono_l k
 unfold bits_Div64.f
 repeat' first
   | (with_reducible exact ih0 _ _ _ _ _ _ _ _)
   | (with_reducible exact ih1 _ _ _ _ _ _ _ _ _)
   | (with_reducible exact ih2 _ _ _ _ _ _ _ _ _ _)
   | (with_reducible exact ih3 _ _ _ _ _ _ _ _ _)
   | (with_reducible exact ih4 _ _ _ _ _ _ _ _ _ _)
   | (with_reducible exact LeO.refl _)
   | (with_reducible exact LeO.none _)
   | (with_reducible refine LeO.ite ?_ ?_)
   | (with_reducible refine LeO.bind ?_ (fun _ => ?_))
   | exact ih0 _ _ _ _ _ _ _ _
   | exact ih1 _ _ _ _ _ _ _ _ _
   | exact ih2 _ _ _ _ _ _ _ _ _ _
   | exact ih3 _ _ _ _ _ _ _ _ _
   | exact ih4 _ _ _ _ _ _ _ _ _ _
   | exact LeO.none _
   | refine LeO.ite ?_ ?_
   | refine LeO.bind ?_ (fun _ => ?_)
set_option maxHeartbeats 8000000 in
set_option maxRecDepth 100000 in
theorem bits_Div64.calls (k : Nat) (a0 : Int) (a1 : Int) (a2 : Int) (r1 : Int) (r2 : Int) (w : World) (h : bits_Div64.f k a0 a1 a2 = some (r1, r2)) :
  Calls Try.prog 68 #[.int .u64 a0, .int .u64 a1, .int .u64 a2] w fun e w' => e = .returned (.tuple #[.int .u64 r1, .int .u64 r2]) ∧ Drawn0 w w' := by
 have H : (if a2 = 0 then (none) else (if a2 ≤ a0 then (none) else (if a0 = 0 then (some (IntKind.u64.wrap (Int.tdiv a1 a2), Int.tmod a1 a2)) else ((bits_LeadingZeros64.f a2).bind fun t188 => (if 0 ≤ (IntKind.u64.wrap (t188)) then (if 0 ≤ (IntKind.u64.wrap (64 - (IntKind.u64.wrap (t188)))) then (if ((shl .u64 a2 (IntKind.u64.wrap (t188))) / 4294967296) = 0 then (none) else (bits_Div64.l0 k (shl .u64 a2 (IntKind.u64.wrap (t188))) (IntKind.u64.wrap (t188)) ((shl .u64 a2 (IntKind.u64.wrap (t188))) / 4294967296) (Go.bits .and .u64 (shl .u64 a2 (IntKind.u64.wrap (t188))) 4294967295) (Go.bits .or .u64 (shl .u64 a0 (IntKind.u64.wrap (t188))) (shr .u64 a1 (IntKind.u64.wrap (64 - (IntKind.u64.wrap (t188)))))) ((shl .u64 a1 (IntKind.u64.wrap (t188))) / 4294967296) (Go.bits .and .u64 (shl .u64 a1 (IntKind.u64.wrap (t188))) 4294967295) (IntKind.u64.wrap (Int.tdiv (Go.bits .or .u64 (shl .u64 a0 (IntKind.u64.wrap (t188))) (shr .u64 a1 (IntKind.u64.wrap (64 - (IntKind.u64.wrap (t188)))))) ((shl .u64 a2 (IntKind.u64.wrap (t188))) / 4294967296))) (IntKind.u64.wrap ((Go.bits .or .u64 (shl .u64 a0 (IntKind.u64.wrap (t188))) (shr .u64 a1 (IntKind.u64.wrap (64 - (IntKind.u64.wrap (t188)))))) - (IntKind.u64.wrap ((IntKind.u64.wrap (Int.tdiv (Go.bits .or .u64 (shl .u64 a0 (IntKind.u64.wrap (t188))) (shr .u64 a1 (IntKind.u64.wrap (64 - (IntKind.u64.wrap (t188)))))) ((shl .u64 a2 (IntKind.u64.wrap (t188))) / 4294967296))) * ((shl .u64 a2 (IntKind.u64.wrap (t188))) / 4294967296))))))) else (none)) else (none)))))) = some (r1, r2) := h
 clear h
 by_cases c4 : a2 = 0
 ·rw [if_pos c4] at H
  exact absurd H (by simp)
 ·rw [if_neg c4] at H
  have c4b0 : (a2 == 0) = false := beq_eq_false_iff_ne.mpr c4
  have c4b1 : (a2 != 0) = true := bne_iff_ne.mpr c4
  by_cases c5 : a2 ≤ a0
  ·rw [if_pos c5] at H
   exact absurd H (by simp)
  ·rw [if_neg c5] at H
   have c5b0 : decide (a2 ≤ a0) = false := decide_eq_false c5
   clear c5
   by_cases c6 : a0 = 0
   ·rw [if_pos c6] at H
    have c6b0 : (a0 == 0) = true := beq_iff_eq.mpr c6
    have c6b1 : (a0 != 0) = false := bne_eq_false_iff_eq.mpr c6
    clear c6
    simp only [Option.some.injEq, Prod.mk.injEq] at H
    obtain ⟨rfl, rfl⟩ := H
    go_enter Try.func68, Try.ntmps68
    go_wp2
    repeat (go_quiet (fail); try go_wp2)
    go_ret2
    exact ⟨by first | rfl | (simp; done) | (simp [*]; done), by repeat (first | exact Drawn0.refl _ | apply Drawn0.step)⟩
   ·rw [if_neg c6] at H
    have c6b0 : (a0 == 0) = false := beq_eq_false_iff_ne.mpr c6
    have c6b1 : (a0 != 0) = true := bne_iff_ne.mpr c6
    replace H := zob H
    obtain ⟨t188, A70, H⟩ := H
    replace H : (if 0 ≤ (IntKind.u64.wrap (t188)) then (if 0 ≤ (IntKind.u64.wrap (64 - (IntKind.u64.wrap (t188)))) then (if ((shl .u64 a2 (IntKind.u64.wrap (t188))) / 4294967296) = 0 then (none) else (bits_Div64.l0 k (shl .u64 a2 (IntKind.u64.wrap (t188))) (IntKind.u64.wrap (t188)) ((shl .u64 a2 (IntKind.u64.wrap (t188))) / 4294967296) (Go.bits .and .u64 (shl .u64 a2 (IntKind.u64.wrap (t188))) 4294967295) (Go.bits .or .u64 (shl .u64 a0 (IntKind.u64.wrap (t188))) (shr .u64 a1 (IntKind.u64.wrap (64 - (IntKind.u64.wrap (t188)))))) ((shl .u64 a1 (IntKind.u64.wrap (t188))) / 4294967296) (Go.bits .and .u64 (shl .u64 a1 (IntKind.u64.wrap (t188))) 4294967295) (IntKind.u64.wrap (Int.tdiv (Go.bits .or .u64 (shl .u64 a0 (IntKind.u64.wrap (t188))) (shr .u64 a1 (IntKind.u64.wrap (64 - (IntKind.u64.wrap (t188)))))) ((shl .u64 a2 (IntKind.u64.wrap (t188))) / 4294967296))) (IntKind.u64.wrap ((Go.bits .or .u64 (shl .u64 a0 (IntKind.u64.wrap (t188))) (shr .u64 a1 (IntKind.u64.wrap (64 - (IntKind.u64.wrap (t188)))))) - (IntKind.u64.wrap ((IntKind.u64.wrap (Int.tdiv (Go.bits .or .u64 (shl .u64 a0 (IntKind.u64.wrap (t188))) (shr .u64 a1 (IntKind.u64.wrap (64 - (IntKind.u64.wrap (t188)))))) ((shl .u64 a2 (IntKind.u64.wrap (t188))) / 4294967296))) * ((shl .u64 a2 (IntKind.u64.wrap (t188))) / 4294967296))))))) else (none)) else (none)) = some (r1, r2) := H
    have A7 := As0.mk A70
    clear A70
    obtain ⟨ji8, hji8⟩ : ∃ j_ : Int, (IntKind.u64.wrap (t188)) = j_ := ⟨_, rfl⟩
    replace H : (if 0 ≤ (ji8) then (if 0 ≤ (IntKind.u64.wrap (64 - (ji8))) then (if ((shl .u64 a2 (ji8)) / 4294967296) = 0 then (none) else (bits_Div64.l0 k (shl .u64 a2 (ji8)) ji8 ((shl .u64 a2 (ji8)) / 4294967296) (Go.bits .and .u64 (shl .u64 a2 (ji8)) 4294967295) (Go.bits .or .u64 (shl .u64 a0 (ji8)) (shr .u64 a1 (IntKind.u64.wrap (64 - (ji8))))) ((shl .u64 a1 (ji8)) / 4294967296) (Go.bits .and .u64 (shl .u64 a1 (ji8)) 4294967295) (IntKind.u64.wrap (Int.tdiv (Go.bits .or .u64 (shl .u64 a0 (ji8)) (shr .u64 a1 (IntKind.u64.wrap (64 - (ji8))))) ((shl .u64 a2 (ji8)) / 4294967296))) (IntKind.u64.wrap ((Go.bits .or .u64 (shl .u64 a0 (ji8)) (shr .u64 a1 (IntKind.u64.wrap (64 - (ji8))))) - (IntKind.u64.wrap ((IntKind.u64.wrap (Int.tdiv (Go.bits .or .u64 (shl .u64 a0 (ji8)) (shr .u64 a1 (IntKind.u64.wrap (64 - (ji8))))) ((shl .u64 a2 (ji8)) / 4294967296))) * ((shl .u64 a2 (ji8)) / 4294967296))))))) else (none)) else (none)) = some (r1, r2) := by first | (rw [hji8] at H; exact H) | (simp only [hji8] at H ⊢; exact H)
    (try rw [hji8] at A7)
    by_cases c9 : 0 ≤ (ji8)
    ·rw [if_pos c9] at H
     have c9b0 := eq_true c9
     have c9b1 : decide (0 ≤ (ji8)) = true := decide_eq_true c9
     clear c9
     obtain ⟨ji10, hji10⟩ : ∃ j_ : Int, (shl .u64 a2 (ji8)) = j_ := ⟨_, rfl⟩
     replace H : (if 0 ≤ (IntKind.u64.wrap (64 - (ji8))) then (if ((ji10) / 4294967296) = 0 then (none) else (bits_Div64.l0 k ji10 ji8 ((ji10) / 4294967296) (Go.bits .and .u64 (ji10) 4294967295) (Go.bits .or .u64 (shl .u64 a0 (ji8)) (shr .u64 a1 (IntKind.u64.wrap (64 - (ji8))))) ((shl .u64 a1 (ji8)) / 4294967296) (Go.bits .and .u64 (shl .u64 a1 (ji8)) 4294967295) (IntKind.u64.wrap (Int.tdiv (Go.bits .or .u64 (shl .u64 a0 (ji8)) (shr .u64 a1 (IntKind.u64.wrap (64 - (ji8))))) ((ji10) / 4294967296))) (IntKind.u64.wrap ((Go.bits .or .u64 (shl .u64 a0 (ji8)) (shr .u64 a1 (IntKind.u64.wrap (64 - (ji8))))) - (IntKind.u64.wrap ((IntKind.u64.wrap (Int.tdiv (Go.bits .or .u64 (shl .u64 a0 (ji8)) (shr .u64 a1 (IntKind.u64.wrap (64 - (ji8))))) ((ji10) / 4294967296))) * ((ji10) / 4294967296))))))) else (none)) = some (r1, r2) := by first | (rw [hji10] at H; exact H) | (simp only [hji10] at H ⊢; exact H)
     (try rw [hji10] at A7)
     have hji10_ : (IntKind.u64.wrap (a2 * 2 ^ min (ji8).toNat 64)) = ji10 := hji10
     have hji10z : (ji8) ≤ 64 → (IntKind.u64.wrap (a2 * 2 ^ (ji8).toNat)) = ji10 := shl_small hji10
     have c11b0 := eq_true (of_decide_eq_true (by first | (with_reducible assumption) | assumption) : 0 ≤ (ji8))
     obtain ⟨ji12, hji12⟩ : ∃ j_ : Int, (shl .u64 a0 (ji8)) = j_ := ⟨_, rfl⟩
     replace H : (if 0 ≤ (IntKind.u64.wrap (64 - (ji8))) then (if ((ji10) / 4294967296) = 0 then (none) else (bits_Div64.l0 k ji10 ji8 ((ji10) / 4294967296) (Go.bits .and .u64 (ji10) 4294967295) (Go.bits .or .u64 (ji12) (shr .u64 a1 (IntKind.u64.wrap (64 - (ji8))))) ((shl .u64 a1 (ji8)) / 4294967296) (Go.bits .and .u64 (shl .u64 a1 (ji8)) 4294967295) (IntKind.u64.wrap (Int.tdiv (Go.bits .or .u64 (ji12) (shr .u64 a1 (IntKind.u64.wrap (64 - (ji8))))) ((ji10) / 4294967296))) (IntKind.u64.wrap ((Go.bits .or .u64 (ji12) (shr .u64 a1 (IntKind.u64.wrap (64 - (ji8))))) - (IntKind.u64.wrap ((IntKind.u64.wrap (Int.tdiv (Go.bits .or .u64 (ji12) (shr .u64 a1 (IntKind.u64.wrap (64 - (ji8))))) ((ji10) / 4294967296))) * ((ji10) / 4294967296))))))) else (none)) = some (r1, r2) := by first | (rw [hji12] at H; exact H) | (simp only [hji12] at H ⊢; exact H)
     (try rw [hji12] at A7)
     have hji12_ : (IntKind.u64.wrap (a0 * 2 ^ min (ji8).toNat 64)) = ji12 := hji12
     have hji12z : (ji8) ≤ 64 → (IntKind.u64.wrap (a0 * 2 ^ (ji8).toNat)) = ji12 := shl_small hji12
     obtain ⟨ji13, hji13⟩ : ∃ j_ : Int, (IntKind.u64.wrap (64 - (ji8))) = j_ := ⟨_, rfl⟩
     replace H : (if 0 ≤ (ji13) then (if ((ji10) / 4294967296) = 0 then (none) else (bits_Div64.l0 k ji10 ji8 ((ji10) / 4294967296) (Go.bits .and .u64 (ji10) 4294967295) (Go.bits .or .u64 (ji12) (shr .u64 a1 (ji13))) ((shl .u64 a1 (ji8)) / 4294967296) (Go.bits .and .u64 (shl .u64 a1 (ji8)) 4294967295) (IntKind.u64.wrap (Int.tdiv (Go.bits .or .u64 (ji12) (shr .u64 a1 (ji13))) ((ji10) / 4294967296))) (IntKind.u64.wrap ((Go.bits .or .u64 (ji12) (shr .u64 a1 (ji13))) - (IntKind.u64.wrap ((IntKind.u64.wrap (Int.tdiv (Go.bits .or .u64 (ji12) (shr .u64 a1 (ji13))) ((ji10) / 4294967296))) * ((ji10) / 4294967296))))))) else (none)) = some (r1, r2) := by first | (rw [hji13] at H; exact H) | (simp only [hji13] at H ⊢; exact H)
     (try rw [hji13] at A7)
     by_cases c14 : 0 ≤ (ji13)
     ·rw [if_pos c14] at H
      have c14b0 := eq_true c14
      have c14b1 : decide (0 ≤ (ji13)) = true := decide_eq_true c14
      clear c14
      obtain ⟨ji15, hji15⟩ : ∃ j_ : Int, (shr .u64 a1 (ji13)) = j_ := ⟨_, rfl⟩
      replace H : (if ((ji10) / 4294967296) = 0 then (none) else (bits_Div64.l0 k ji10 ji8 ((ji10) / 4294967296) (Go.bits .and .u64 (ji10) 4294967295) (Go.bits .or .u64 (ji12) (ji15)) ((shl .u64 a1 (ji8)) / 4294967296) (Go.bits .and .u64 (shl .u64 a1 (ji8)) 4294967295) (IntKind.u64.wrap (Int.tdiv (Go.bits .or .u64 (ji12) (ji15)) ((ji10) / 4294967296))) (IntKind.u64.wrap ((Go.bits .or .u64 (ji12) (ji15)) - (IntKind.u64.wrap ((IntKind.u64.wrap (Int.tdiv (Go.bits .or .u64 (ji12) (ji15)) ((ji10) / 4294967296))) * ((ji10) / 4294967296))))))) = some (r1, r2) := by first | (rw [hji15] at H; exact H) | (simp only [hji15] at H ⊢; exact H)
      (try rw [hji15] at A7)
      have hji15_ : (a1 / 2 ^ min (ji13).toNat 64) = ji15 := hji15
      have hji15z : (ji13) ≤ 64 → (a1 / 2 ^ (ji13).toNat) = ji15 := shr_small hji15
      have c16b0 := eq_true (of_decide_eq_true (by first | (with_reducible assumption) | assumption) : 0 ≤ (ji8))
      obtain ⟨ji17, hji17⟩ : ∃ j_ : Int, (shl .u64 a1 (ji8)) = j_ := ⟨_, rfl⟩
      replace H : (if ((ji10) / 4294967296) = 0 then (none) else (bits_Div64.l0 k ji10 ji8 ((ji10) / 4294967296) (Go.bits .and .u64 (ji10) 4294967295) (Go.bits .or .u64 (ji12) (ji15)) ((ji17) / 4294967296) (Go.bits .and .u64 (ji17) 4294967295) (IntKind.u64.wrap (Int.tdiv (Go.bits .or .u64 (ji12) (ji15)) ((ji10) / 4294967296))) (IntKind.u64.wrap ((Go.bits .or .u64 (ji12) (ji15)) - (IntKind.u64.wrap ((IntKind.u64.wrap (Int.tdiv (Go.bits .or .u64 (ji12) (ji15)) ((ji10) / 4294967296))) * ((ji10) / 4294967296))))))) = some (r1, r2) := by first | (rw [hji17] at H; exact H) | (simp only [hji17] at H ⊢; exact H)
      (try rw [hji17] at A7)
      have hji17_ : (IntKind.u64.wrap (a1 * 2 ^ min (ji8).toNat 64)) = ji17 := hji17
      have hji17z : (ji8) ≤ 64 → (IntKind.u64.wrap (a1 * 2 ^ (ji8).toNat)) = ji17 := shl_small hji17
      by_cases c18 : ((ji10) / 4294967296) = 0
      ·rw [if_pos c18] at H
       exact absurd H (by simp)
      ·rw [if_neg c18] at H
       have c18b0 : (((ji10) / 4294967296) == 0) = false := beq_eq_false_iff_ne.mpr c18
       have c18b1 : (((ji10) / 4294967296) != 0) = true := bne_iff_ne.mpr c18
       have HC19 := As0.mk H
       clear H
       go_enter Try.func68, Try.ntmps68
       go_upto_block 0 with (first | (go_at_call 67; (with_reducible refine (bits_LeadingZeros64.calls a2 t188 _ A7.out).mono ?_); rintro e w' ⟨rfl, ⟨nd, rfl⟩⟩; (try first | exact ⟨rfl, _, World.drewN_drewN _ _ _⟩ | exact ⟨rfl, _, Eq.trans (World.drewN_drewN _ _ _) (congrArg (World.drewN _) (Nat.add_assoc _ _ _))⟩)))
       repeat (go_quiet (first | (go_at_call 67; (with_reducible refine (bits_LeadingZeros64.calls a2 t188 _ A7.out).mono ?_); rintro e w' ⟨rfl, ⟨nd, rfl⟩⟩; (try first | exact ⟨rfl, _, World.drewN_drewN _ _ _⟩ | exact ⟨rfl, _, Eq.trans (World.drewN_drewN _ _ _) (congrArg (World.drewN _) (Nat.add_assoc _ _ _))⟩))); go_upto_block 0 with (first | (go_at_call 67; (with_reducible refine (bits_LeadingZeros64.calls a2 t188 _ A7.out).mono ?_); rintro e w' ⟨rfl, ⟨nd, rfl⟩⟩; (try first | exact ⟨rfl, _, World.drewN_drewN _ _ _⟩ | exact ⟨rfl, _, Eq.trans (World.drewN_drewN _ _ _) (congrArg (World.drewN _) (Nat.add_assoc _ _ _))⟩))))
       (try simp only [Act.put, zsi, zcz, zcs])
       go_cut [15] (fun v15 wc => ∃ (kq : Nat) (x15_18 : Int), v15 = .int .u64 x15_18 ∧ As0 (bits_Div64.j2 kq ji10 ji8 ((ji10) / 4294967296) (Go.bits .and .u64 (ji10) 4294967295) (Go.bits .or .u64 (ji12) (ji15)) ((ji17) / 4294967296) (Go.bits .and .u64 (ji17) 4294967295) x15_18 = some (r1, r2)) ∧ As0 (kq ≤ k) ∧ Drawn0 w wc)
       case first =>
        have H := HC19.out
        clear HC19
        have H' := As0.mk H
        clear H
        go_wp2
        repeat (go_quiet (fail); try go_wp2)
        go_loopg [15, 16] k (fun kq v15 v16 w' => ∃ (x15_1 : Int) (x16_1 : Int), v15 = .int .u64 x15_1 ∧ v16 = .int .u64 x16_1 ∧ As0 (bits_Div64.l0 kq ji10 ji8 ((ji10) / 4294967296) (Go.bits .and .u64 (ji10) 4294967295) (Go.bits .or .u64 (ji12) (ji15)) ((ji17) / 4294967296) (Go.bits .and .u64 (ji17) 4294967295) x15_1 x16_1 = some (r1, r2)) ∧ As0 (kq ≤ k) ∧ Drawn0 w w')
        case atStart => exact ⟨(IntKind.u64.wrap (Int.tdiv (Go.bits .or .u64 (ji12) (ji15)) ((ji10) / 4294967296))), (IntKind.u64.wrap ((Go.bits .or .u64 (ji12) (ji15)) - (IntKind.u64.wrap ((IntKind.u64.wrap (Int.tdiv (Go.bits .or .u64 (ji12) (ji15)) ((ji10) / 4294967296))) * ((ji10) / 4294967296))))), (by first | rfl | (simp; done) | (simp only [← hji10, ← hji12, ← hji15] <;> (first | rfl | simp)) | (simp [*]; done)), (by first | rfl | (simp; done) | (simp only [← hji10, ← hji12, ← hji15] <;> (first | rfl | simp)) | (simp [*]; done)), H', ⟨Nat.le_refl _⟩, by repeat (first | exact Drawn0.refl _ | apply Drawn0.step)⟩
        case round =>
         clear H'
         try clear c1
         try clear p2
         try clear c4
         try clear c4b0
         try clear c4b1
         try clear c5
         try clear c5b0
         try clear c6
         try clear c6b0
         try clear c6b1
         try clear c9
         try clear c9b0
         try clear c9b1
         try clear c11
         try clear c11b0
         try clear c14
         try clear c14b0
         try clear c14b1
         try clear c16
         try clear c16b0
         try clear c18
         try clear c18b0
         try clear c18b1
         obtain ⟨x15_1, x16_1, rfl, rfl, HA, HK1, ⟨m1, rfl⟩⟩ := hrel
         cases gk with
         | zero => exact absurd HA.out (by simp [bits_Div64.l0])
         | succ k1 =>
          have H := HA.out
          clear HA
          simp only [bits_Div64.l0] at H
          have HC20 := As0.mk H
          clear H
          go_upto_region 17 with (fail)
          repeat (go_quiet (fail); go_upto_region 17 with (fail))
          go_cut [78] (fun v78 wc => ∃ (kq : Nat) (x78_19 : Bool), v78 = .bool x78_19 ∧ As0 (bits_Div64.j1 kq ji10 ji8 ((ji10) / 4294967296) (Go.bits .and .u64 (ji10) 4294967295) (Go.bits .or .u64 (ji12) (ji15)) ((ji17) / 4294967296) (Go.bits .and .u64 (ji17) 4294967295) x15_1 x16_1 x78_19 = some (r1, r2)) ∧ As0 (kq ≤ k1) ∧ Drawn0 w wc)
          case first =>
           have H := HC20.out
           clear HC20
           by_cases c21 : x15_1 ≥ 4294967296
           ·rw [if_pos c21] at H
            have c21b0 : decide (4294967296 ≤ x15_1) = true := decide_eq_true c21
            clear c21
            (first | rw [c21b0] | (simp only [i64_w, i32_w]; rw [c21b0]) | skip)
            have H' := As0.mk H
            clear H
            go_wp2
            repeat (go_quiet (fail); try go_wp2)
            go_meet
            case rel => exact ⟨_, (true), (by first | rfl | (simp; done) | (simp [*]; done)), H', ⟨by have := HK1.out; first | omega | exact Nat.le_refl _⟩, by repeat (first | exact Drawn0.refl _ | apply Drawn0.step)⟩
           ·rw [if_neg c21] at H
            have c21b0 : decide (4294967296 ≤ x15_1) = false := decide_eq_false c21
            clear c21
            (first | rw [c21b0] | (simp only [i64_w, i32_w]; rw [c21b0]) | skip)
            have H' := As0.mk H
            clear H
            go_wp2
            repeat (go_quiet (fail); try go_wp2)
            go_meet
            case rel => exact ⟨_, (decide ((IntKind.u64.wrap (x15_1 * (Go.bits .and .u64 (ji10) 4294967295))) > (IntKind.u64.wrap ((IntKind.u64.wrap (4294967296 * x16_1)) + ((ji17) / 4294967296))))), (by first | rfl | (simp; done) | (simp only [← hji10, ← hji17] <;> (first | rfl | simp)) | (simp [*]; done)), H', ⟨by have := HK1.out; first | omega | exact Nat.le_refl _⟩, by repeat (first | exact Drawn0.refl _ | apply Drawn0.step)⟩
          case rest =>
           clear HC20
           try clear c1
           try clear c2
           try clear p2
           try clear c4
           try clear c4b0
           try clear c4b1
           try clear c5
           try clear c5b0
           try clear c6
           try clear c6b0
           try clear c6b1
           try clear c9
           try clear c9b0
           try clear c9b1
           try clear c11
           try clear c11b0
           try clear c14
           try clear c14b0
           try clear c14b1
           try clear c16
           try clear c16b0
           try clear c18
           try clear c18b0
           try clear c18b1
           try clear c21
           try clear c21b0
           try clear p2
           obtain ⟨kq, x78_19, rfl, HA, HJ19, ⟨mc19, rfl⟩⟩ := hcut
           cases kq with
           | zero => exact absurd HA.out (by simp [bits_Div64.j1])
           | succ kj19 =>
            have H := HA.out
            clear HA
            simp only [bits_Div64.j1] at H
            by_cases c22 : x78_19 = true
            ·subst c22
             have H1 : (if (IntKind.u64.wrap (x16_1 + ((ji10) / 4294967296))) ≥ 4294967296 then (bits_Div64.j2 kj19 ji10 ji8 ((ji10) / 4294967296) (Go.bits .and .u64 (ji10) 4294967295) (Go.bits .or .u64 (ji12) (ji15)) ((ji17) / 4294967296) (Go.bits .and .u64 (ji17) 4294967295) (IntKind.u64.wrap (x15_1 - 1))) else (bits_Div64.l0 kj19 ji10 ji8 ((ji10) / 4294967296) (Go.bits .and .u64 (ji10) 4294967295) (Go.bits .or .u64 (ji12) (ji15)) ((ji17) / 4294967296) (Go.bits .and .u64 (ji17) 4294967295) (IntKind.u64.wrap (x15_1 - 1)) (IntKind.u64.wrap (x16_1 + ((ji10) / 4294967296))))) = some (r1, r2) := by rw [if_pos rfl] at H; exact H
             clear H
             have H := H1
             clear H1
             by_cases c23 : (IntKind.u64.wrap (x16_1 + ((ji10) / 4294967296))) ≥ 4294967296
             ·rw [if_pos c23] at H
              have c23b0 : decide (4294967296 ≤ (IntKind.u64.wrap (x16_1 + ((ji10) / 4294967296)))) = true := decide_eq_true c23
              clear c23
              have H' := As0.mk H
              clear H
              go_wp2
              repeat (go_quiet (fail); try go_wp2)
              go_meet
              case rel => exact ⟨_, (IntKind.u64.wrap (x15_1 - 1)), (by first | rfl | (simp; done) | (simp [*]; done)), H', ⟨by have := HK1.out; have := HJ19.out; first | omega | exact Nat.le_refl _⟩, by repeat (first | exact Drawn0.refl _ | apply Drawn0.step)⟩
             ·rw [if_neg c23] at H
              have c23b0 : decide (4294967296 ≤ (IntKind.u64.wrap (x16_1 + ((ji10) / 4294967296)))) = false := decide_eq_false c23
              clear c23
              have H' := As0.mk H
              clear H
              go_wp2
              repeat (go_quiet (fail); try go_wp2)
              go_roundg kj19
              case measure => have := HK1.out; have := HJ19.out; omega
              case rel => exact ⟨(IntKind.u64.wrap (x15_1 - 1)), (IntKind.u64.wrap (x16_1 + ((ji10) / 4294967296))), (by first | rfl | (simp; done) | (simp [*]; done)), (by first | rfl | (simp; done) | (simp only [← hji10] <;> (first | rfl | simp)) | (simp [*]; done)), H', ⟨by have := HK1.out; have := HJ19.out; omega⟩, by repeat (first | exact Drawn0.refl _ | apply Drawn0.step)⟩
            ·replace c22 := Bool.eq_false_iff.mpr c22
             subst c22
             have H1 : (bits_Div64.j2 kj19 ji10 ji8 ((ji10) / 4294967296) (Go.bits .and .u64 (ji10) 4294967295) (Go.bits .or .u64 (ji12) (ji15)) ((ji17) / 4294967296) (Go.bits .and .u64 (ji17) 4294967295) x15_1) = some (r1, r2) := by rw [if_neg (show ¬ (false = true) by decide)] at H; exact H
             clear H
             have H := H1
             clear H1
             have H' := As0.mk H
             clear H
             go_wp2
             repeat (go_quiet (fail); try go_wp2)
             go_meet
             case rel => exact ⟨_, (x15_1), (by first | rfl | (simp; done) | (simp [*]; done)), H', ⟨by have := HK1.out; have := HJ19.out; first | omega | exact Nat.le_refl _⟩, by repeat (first | exact Drawn0.refl _ | apply Drawn0.step)⟩
       case rest =>
        clear HC19
        try clear c1
        try clear c2
        try clear p2
        try clear c4
        try clear c4b0
        try clear c4b1
        try clear c5
        try clear c5b0
        try clear c6
        try clear c6b0
        try clear c6b1
        try clear c9
        try clear c9b0
        try clear c9b1
        try clear c11
        try clear c11b0
        try clear c14
        try clear c14b0
        try clear c14b1
        try clear c16
        try clear c16b0
        try clear c18
        try clear c18b0
        try clear c18b1
        try clear c19
        try clear c21
        try clear c21b0
        try clear c22
        try clear c23
        try clear c23b0
        try clear p2
        obtain ⟨kq, x15_18, rfl, HA, HJ18, ⟨mc18, rfl⟩⟩ := hcut
        cases kq with
        | zero => exact absurd HA.out (by simp [bits_Div64.j2])
        | succ kj18 =>
         have H := HA.out
         clear HA
         simp only [bits_Div64.j2] at H
         by_cases c24 : ((ji10) / 4294967296) = 0
         ·rw [if_pos c24] at H
          exact absurd H (by simp)
         ·rw [if_neg c24] at H
          have c24b0 : (((ji10) / 4294967296) == 0) = false := beq_eq_false_iff_ne.mpr c24
          have c24b1 : (((ji10) / 4294967296) != 0) = true := bne_iff_ne.mpr c24
          have H' := As0.mk H
          clear H
          go_wp2
          repeat (go_quiet (fail); try go_wp2)
          go_loopg [16, 18] kj18 (fun kq v16 v18 w' => ∃ (x16_2 : Int) (x18_2 : Int), v16 = .int .u64 x16_2 ∧ v18 = .int .u64 x18_2 ∧ As0 (bits_Div64.l1 kq ji10 ji8 ((ji10) / 4294967296) (Go.bits .and .u64 (ji10) 4294967295) (Go.bits .and .u64 (ji17) 4294967295) x15_18 x16_2 (IntKind.u64.wrap ((IntKind.u64.wrap ((IntKind.u64.wrap ((Go.bits .or .u64 (ji12) (ji15)) * 4294967296)) + ((ji17) / 4294967296))) - (IntKind.u64.wrap (x15_18 * ji10)))) x18_2 = some (r1, r2)) ∧ As0 (kq ≤ kj18) ∧ Drawn0 w w')
          case atStart => exact ⟨(IntKind.u64.wrap ((IntKind.u64.wrap ((IntKind.u64.wrap ((IntKind.u64.wrap ((Go.bits .or .u64 (ji12) (ji15)) * 4294967296)) + ((ji17) / 4294967296))) - (IntKind.u64.wrap (x15_18 * ji10)))) - (IntKind.u64.wrap ((IntKind.u64.wrap (Int.tdiv (IntKind.u64.wrap ((IntKind.u64.wrap ((IntKind.u64.wrap ((Go.bits .or .u64 (ji12) (ji15)) * 4294967296)) + ((ji17) / 4294967296))) - (IntKind.u64.wrap (x15_18 * ji10)))) ((ji10) / 4294967296))) * ((ji10) / 4294967296))))), (IntKind.u64.wrap (Int.tdiv (IntKind.u64.wrap ((IntKind.u64.wrap ((IntKind.u64.wrap ((Go.bits .or .u64 (ji12) (ji15)) * 4294967296)) + ((ji17) / 4294967296))) - (IntKind.u64.wrap (x15_18 * ji10)))) ((ji10) / 4294967296))), (by first | rfl | (simp; done) | (simp only [← hji10, ← hji12, ← hji15, ← hji17] <;> (first | rfl | simp)) | (simp [*]; done)), (by first | rfl | (simp; done) | (simp only [← hji10, ← hji12, ← hji15, ← hji17] <;> (first | rfl | simp)) | (simp [*]; done)), H', ⟨Nat.le_refl _⟩, by repeat (first | exact Drawn0.refl _ | apply Drawn0.step)⟩
          case round =>
           clear H'
           try clear c1
           try clear c2
           try clear p2
           try clear c4
           try clear c4b0
           try clear c4b1
           try clear c5
           try clear c5b0
           try clear c6
           try clear c6b0
           try clear c6b1
           try clear c9
           try clear c9b0
           try clear c9b1
           try clear c11
           try clear c11b0
           try clear c14
           try clear c14b0
           try clear c14b1
           try clear c16
           try clear c16b0
           try clear c18
           try clear c18b0
           try clear c18b1
           try clear c19
           try clear c21
           try clear c21b0
           try clear c22
           try clear c23
           try clear c23b0
           try clear c24
           try clear c24b0
           try clear c24b1
           try clear p2
           obtain ⟨x16_2, x18_2, rfl, rfl, HA, HK2, ⟨m2, rfl⟩⟩ := hrel
           cases gk with
           | zero => exact absurd HA.out (by simp [bits_Div64.l1])
           | succ k2 =>
            have H := HA.out
            clear HA
            simp only [bits_Div64.l1] at H
            have HC25 := As0.mk H
            clear H
            go_upto_region 24 with (fail)
            repeat (go_quiet (fail); go_upto_region 24 with (fail))
            go_cut [113] (fun v113 wc => ∃ (kq : Nat) (x113_24 : Bool), v113 = .bool x113_24 ∧ As0 (bits_Div64.j4 kq ji10 ji8 ((ji10) / 4294967296) (Go.bits .and .u64 (ji10) 4294967295) (Go.bits .and .u64 (ji17) 4294967295) x15_18 x16_2 (IntKind.u64.wrap ((IntKind.u64.wrap ((IntKind.u64.wrap ((Go.bits .or .u64 (ji12) (ji15)) * 4294967296)) + ((ji17) / 4294967296))) - (IntKind.u64.wrap (x15_18 * ji10)))) x18_2 x113_24 = some (r1, r2)) ∧ As0 (kq ≤ k2) ∧ Drawn0 w wc)
            case first =>
             have H := HC25.out
             clear HC25
             by_cases c26 : x18_2 ≥ 4294967296
             ·rw [if_pos c26] at H
              have c26b0 : decide (4294967296 ≤ x18_2) = true := decide_eq_true c26
              clear c26
              (first | rw [c26b0] | (simp only [i64_w, i32_w]; rw [c26b0]) | skip)
              have H' := As0.mk H
              clear H
              go_wp2
              repeat (go_quiet (fail); try go_wp2)
              go_meet
              case rel => exact ⟨_, (true), (by first | rfl | (simp; done) | (simp [*]; done)), H', ⟨by have := HJ18.out; have := HK2.out; first | omega | exact Nat.le_refl _⟩, by repeat (first | exact Drawn0.refl _ | apply Drawn0.step)⟩
             ·rw [if_neg c26] at H
              have c26b0 : decide (4294967296 ≤ x18_2) = false := decide_eq_false c26
              clear c26
              (first | rw [c26b0] | (simp only [i64_w, i32_w]; rw [c26b0]) | skip)
              have H' := As0.mk H
              clear H
              go_wp2
              repeat (go_quiet (fail); try go_wp2)
              go_meet
              case rel => exact ⟨_, (decide ((IntKind.u64.wrap (x18_2 * (Go.bits .and .u64 (ji10) 4294967295))) > (IntKind.u64.wrap ((IntKind.u64.wrap (4294967296 * x16_2)) + (Go.bits .and .u64 (ji17) 4294967295))))), (by first | rfl | (simp; done) | (simp only [← hji10, ← hji17] <;> (first | rfl | simp)) | (simp [*]; done)), H', ⟨by have := HJ18.out; have := HK2.out; first | omega | exact Nat.le_refl _⟩, by repeat (first | exact Drawn0.refl _ | apply Drawn0.step)⟩
            case rest =>
             clear HC25
             try clear c1
             try clear c2
             try clear p2
             try clear c4
             try clear c4b0
             try clear c4b1
             try clear c5
             try clear c5b0
             try clear c6
             try clear c6b0
             try clear c6b1
             try clear c9
             try clear c9b0
             try clear c9b1
             try clear c11
             try clear c11b0
             try clear c14
             try clear c14b0
             try clear c14b1
             try clear c16
             try clear c16b0
             try clear c18
             try clear c18b0
             try clear c18b1
             try clear c19
             try clear c21
             try clear c21b0
             try clear c22
             try clear c23
             try clear c23b0
             try clear c24
             try clear c24b0
             try clear c24b1
             try clear c26
             try clear c26b0
             try clear p2
             obtain ⟨kq, x113_24, rfl, HA, HJ24, ⟨mc24, rfl⟩⟩ := hcut
             cases kq with
             | zero => exact absurd HA.out (by simp [bits_Div64.j4])
             | succ kj24 =>
              have H := HA.out
              clear HA
              simp only [bits_Div64.j4] at H
              by_cases c27 : x113_24 = true
              ·subst c27
               have H1 : (if (IntKind.u64.wrap (x16_2 + ((ji10) / 4294967296))) ≥ 4294967296 then (if 0 ≤ ji8 then (some (IntKind.u64.wrap ((IntKind.u64.wrap (x15_18 * 4294967296)) + (IntKind.u64.wrap (x18_2 - 1))), shr .u64 (IntKind.u64.wrap ((IntKind.u64.wrap ((IntKind.u64.wrap ((IntKind.u64.wrap ((IntKind.u64.wrap ((IntKind.u64.wrap ((Go.bits .or .u64 (ji12) (ji15)) * 4294967296)) + ((ji17) / 4294967296))) - (IntKind.u64.wrap (x15_18 * ji10)))) * 4294967296)) + (Go.bits .and .u64 (ji17) 4294967295))) - (IntKind.u64.wrap ((IntKind.u64.wrap (x18_2 - 1)) * ji10)))) ji8)) else (none)) else (bits_Div64.l1 kj24 ji10 ji8 ((ji10) / 4294967296) (Go.bits .and .u64 (ji10) 4294967295) (Go.bits .and .u64 (ji17) 4294967295) x15_18 (IntKind.u64.wrap (x16_2 + ((ji10) / 4294967296))) (IntKind.u64.wrap ((IntKind.u64.wrap ((IntKind.u64.wrap ((Go.bits .or .u64 (ji12) (ji15)) * 4294967296)) + ((ji17) / 4294967296))) - (IntKind.u64.wrap (x15_18 * ji10)))) (IntKind.u64.wrap (x18_2 - 1)))) = some (r1, r2) := by rw [if_pos rfl] at H; exact H
               clear H
               have H := H1
               clear H1
               by_cases c28 : (IntKind.u64.wrap (x16_2 + ((ji10) / 4294967296))) ≥ 4294967296
               ·rw [if_pos c28] at H
                have c28b0 : decide (4294967296 ≤ (IntKind.u64.wrap (x16_2 + ((ji10) / 4294967296)))) = true := decide_eq_true c28
                clear c28
                by_cases c29 : 0 ≤ ji8
                ·rw [if_pos c29] at H
                 have c29b0 := eq_true c29
                 have c29b1 : decide (0 ≤ ji8) = true := decide_eq_true c29
                 clear c29
                 obtain ⟨ji30, hji30⟩ : ∃ j_ : Int, (shr .u64 (IntKind.u64.wrap ((IntKind.u64.wrap ((IntKind.u64.wrap ((IntKind.u64.wrap ((IntKind.u64.wrap ((IntKind.u64.wrap ((Go.bits .or .u64 (ji12) (ji15)) * 4294967296)) + ((ji17) / 4294967296))) - (IntKind.u64.wrap (x15_18 * ji10)))) * 4294967296)) + (Go.bits .and .u64 (ji17) 4294967295))) - (IntKind.u64.wrap ((IntKind.u64.wrap (x18_2 - 1)) * ji10)))) ji8) = j_ := ⟨_, rfl⟩
                 replace H : (some (IntKind.u64.wrap ((IntKind.u64.wrap (x15_18 * 4294967296)) + (IntKind.u64.wrap (x18_2 - 1))), ji30)) = some (r1, r2) := by first | (rw [hji30] at H; exact H) | (simp only [hji30] at H ⊢; exact H)
                 have hji30_ : ((IntKind.u64.wrap ((IntKind.u64.wrap ((IntKind.u64.wrap ((IntKind.u64.wrap ((IntKind.u64.wrap ((IntKind.u64.wrap ((Go.bits .or .u64 (ji12) (ji15)) * 4294967296)) + ((ji17) / 4294967296))) - (IntKind.u64.wrap (x15_18 * ji10)))) * 4294967296)) + (Go.bits .and .u64 (ji17) 4294967295))) - (IntKind.u64.wrap ((IntKind.u64.wrap (x18_2 - 1)) * ji10)))) / 2 ^ min ji8.toNat 64) = ji30 := hji30
                 have hji30z : ji8 ≤ 64 → ((IntKind.u64.wrap ((IntKind.u64.wrap ((IntKind.u64.wrap ((IntKind.u64.wrap ((IntKind.u64.wrap ((IntKind.u64.wrap ((Go.bits .or .u64 (ji12) (ji15)) * 4294967296)) + ((ji17) / 4294967296))) - (IntKind.u64.wrap (x15_18 * ji10)))) * 4294967296)) + (Go.bits .and .u64 (ji17) 4294967295))) - (IntKind.u64.wrap ((IntKind.u64.wrap (x18_2 - 1)) * ji10)))) / 2 ^ ji8.toNat) = ji30 := shr_small hji30
                 simp only [Option.some.injEq, Prod.mk.injEq] at H
                 obtain ⟨rfl, rfl⟩ := H
                 go_wp2
                 repeat (go_quiet (fail); try go_wp2)
                 go_ret2
                 exact ⟨by first | rfl | (simp; done) | (simp only [← hji8, ← hji10, ← hji12, ← hji13, ← hji15, ← hji17, ← hji30] <;> (first | rfl | simp)) | (simp [*]; done), by repeat (first | exact Drawn0.refl _ | apply Drawn0.step)⟩
                ·rw [if_neg c29] at H
                 exact absurd H (by simp)
               ·rw [if_neg c28] at H
                have c28b0 : decide (4294967296 ≤ (IntKind.u64.wrap (x16_2 + ((ji10) / 4294967296)))) = false := decide_eq_false c28
                clear c28
                have H' := As0.mk H
                clear H
                go_wp2
                repeat (go_quiet (fail); try go_wp2)
                go_roundg kj24
                case measure => have := HJ18.out; have := HK2.out; have := HJ24.out; omega
                case rel => exact ⟨(IntKind.u64.wrap (x16_2 + ((ji10) / 4294967296))), (IntKind.u64.wrap (x18_2 - 1)), (by first | rfl | (simp; done) | (simp only [← hji10] <;> (first | rfl | simp)) | (simp [*]; done)), (by first | rfl | (simp; done) | (simp [*]; done)), H', ⟨by have := HJ18.out; have := HK2.out; have := HJ24.out; omega⟩, by repeat (first | exact Drawn0.refl _ | apply Drawn0.step)⟩
              ·replace c27 := Bool.eq_false_iff.mpr c27
               subst c27
               have H1 : (if 0 ≤ ji8 then (some (IntKind.u64.wrap ((IntKind.u64.wrap (x15_18 * 4294967296)) + x18_2), shr .u64 (IntKind.u64.wrap ((IntKind.u64.wrap ((IntKind.u64.wrap ((IntKind.u64.wrap ((IntKind.u64.wrap ((IntKind.u64.wrap ((Go.bits .or .u64 (ji12) (ji15)) * 4294967296)) + ((ji17) / 4294967296))) - (IntKind.u64.wrap (x15_18 * ji10)))) * 4294967296)) + (Go.bits .and .u64 (ji17) 4294967295))) - (IntKind.u64.wrap (x18_2 * ji10)))) ji8)) else (none)) = some (r1, r2) := by rw [if_neg (show ¬ (false = true) by decide)] at H; exact H
               clear H
               have H := H1
               clear H1
               by_cases c31 : 0 ≤ ji8
               ·rw [if_pos c31] at H
                have c31b0 := eq_true c31
                have c31b1 : decide (0 ≤ ji8) = true := decide_eq_true c31
                clear c31
                obtain ⟨ji32, hji32⟩ : ∃ j_ : Int, (shr .u64 (IntKind.u64.wrap ((IntKind.u64.wrap ((IntKind.u64.wrap ((IntKind.u64.wrap ((IntKind.u64.wrap ((IntKind.u64.wrap ((Go.bits .or .u64 (ji12) (ji15)) * 4294967296)) + ((ji17) / 4294967296))) - (IntKind.u64.wrap (x15_18 * ji10)))) * 4294967296)) + (Go.bits .and .u64 (ji17) 4294967295))) - (IntKind.u64.wrap (x18_2 * ji10)))) ji8) = j_ := ⟨_, rfl⟩
                replace H : (some (IntKind.u64.wrap ((IntKind.u64.wrap (x15_18 * 4294967296)) + x18_2), ji32)) = some (r1, r2) := by first | (rw [hji32] at H; exact H) | (simp only [hji32] at H ⊢; exact H)
                have hji32_ : ((IntKind.u64.wrap ((IntKind.u64.wrap ((IntKind.u64.wrap ((IntKind.u64.wrap ((IntKind.u64.wrap ((IntKind.u64.wrap ((Go.bits .or .u64 (ji12) (ji15)) * 4294967296)) + ((ji17) / 4294967296))) - (IntKind.u64.wrap (x15_18 * ji10)))) * 4294967296)) + (Go.bits .and .u64 (ji17) 4294967295))) - (IntKind.u64.wrap (x18_2 * ji10)))) / 2 ^ min ji8.toNat 64) = ji32 := hji32
                have hji32z : ji8 ≤ 64 → ((IntKind.u64.wrap ((IntKind.u64.wrap ((IntKind.u64.wrap ((IntKind.u64.wrap ((IntKind.u64.wrap ((IntKind.u64.wrap ((Go.bits .or .u64 (ji12) (ji15)) * 4294967296)) + ((ji17) / 4294967296))) - (IntKind.u64.wrap (x15_18 * ji10)))) * 4294967296)) + (Go.bits .and .u64 (ji17) 4294967295))) - (IntKind.u64.wrap (x18_2 * ji10)))) / 2 ^ ji8.toNat) = ji32 := shr_small hji32
                simp only [Option.some.injEq, Prod.mk.injEq] at H
                obtain ⟨rfl, rfl⟩ := H
                go_wp2
                repeat (go_quiet (fail); try go_wp2)
                go_ret2
                exact ⟨by first | rfl | (simp; done) | (simp only [← hji8, ← hji10, ← hji12, ← hji13, ← hji15, ← hji17, ← hji32] <;> (first | rfl | simp)) | (simp [*]; done), by repeat (first | exact Drawn0.refl _ | apply Drawn0.step)⟩
               ·rw [if_neg c31] at H
                exact absurd H (by simp)
     ·rw [if_neg c14] at H
      exact absurd H (by simp)
    ·rw [if_neg c9] at H
     exact absurd H (by simp)
end Go.Proofs.Ytjfmomogidgbpaa.PFl
