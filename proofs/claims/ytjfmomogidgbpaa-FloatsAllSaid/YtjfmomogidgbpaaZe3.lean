/-
  Texts that the kit's print.py has written for this claim (called by this session's own script), put together, without what is not used.
-/
import Derived.Test.YtjfmomogidgbpaaZe0
import Derived.Test.YtjfmomogidgbpaaZe2
namespace Go.Proofs.Ytjfmomogidgbpaa.PFl
open Go.RowKit Go.Proofs.YtjfmomogidgbpaaW.PrintWords Go.Proofs.YtjfmomogidgbpaaW.PrintLast Go.Proofs.YtjfmomogidgbpaaW.PrintMore
attribute [local go_sem] max2_int min2_int max_two min_two max_three min_three max_four min_four
set_option linter.unusedVariables false
set_option linter.unusedSimpArgs false
def ff_less.f (a0_0 : Int) (a0_1 : Int) (a1 : Int) (a2 : Int) : Option (Bool) := (ff_size.f a0_0 a0_1 a1).bind fun t133 => ((ff_size.f a0_0 a0_1 a2).bind fun t134 => (if (Go.bits .or .u64 t133 t134) = 0 then (some false) else ((ff_neg.f a0_0 a0_1 a1).bind fun t135 => ((ff_neg.f a0_0 a0_1 a2).bind fun t136 => (if (t135 != t136) = true then ((ff_neg.f a0_0 a0_1 a1).bind fun t137 => (some t137)) else ((ff_neg.f a0_0 a0_1 a1).bind fun t138 => (if t138 = true then (some (decide (t133 > t134))) else (some (decide (t133 < t134))))))))))
def ff_less.T1 : Bool × List (List Nat × List Nat) := (true, [([], []), ([], []), ([0, 1], [0, 1]), ([], []), ([], []), ([3, 4, 2], [3, 4]), ([2, 5, 0, 1, 2], [2]), ([5, 6, 0, 1, 2, 3, 4, 5, 6], [5])])
def ff_less.B1 : List Nat := [0, 0, 3, 0, 0, 31, 63, 127]
theorem ff_less.tab1 : rtab .any (opsOf Try.f41 1) = ff_less.T1 := by kernel_rfl
theorem ff_less.bits1 : waitsOk ff_less.T1.2 ff_less.B1 = true := by kernel_rfl
def ff_less.T4 : Bool × List (List Nat × List Nat) := (true, [([], []), ([], []), ([0, 1], [0, 1]), ([], []), ([], []), ([3, 4, 2], [3, 4]), ([2, 5], [2, 5]), ([6, 5], [6])])
def ff_less.B4 : List Nat := [0, 0, 3, 0, 0, 31, 63, 127]
theorem ff_less.tab4 : rtab .any (opsOf Try.f41 4) = ff_less.T4 := by kernel_rfl
theorem ff_less.bits4 : waitsOk ff_less.T4.2 ff_less.B4 = true := by kernel_rfl
set_option maxHeartbeats 8000000 in
set_option maxRecDepth 100000 in
theorem ff_less.calls (a0_0 : Int) (a0_1 : Int) (a1 : Int) (a2 : Int) (r : Bool) (w : World) (h : ff_less.f a0_0 a0_1 a1 a2 = some r) :
  Calls Try.prog 41 #[.agg #[.int .i64 a0_0, .int .i64 a0_1], .int .u64 a1, .int .u64 a2] w fun e w' => e = .returned (.bool r) ∧ Below w.heap.size w w' := by
 have hu43 := Try.underlying43
 have HB := As0.mk (Below.refl w.heap.size w)
 have H : ((ff_size.f a0_0 a0_1 a1).bind fun t133 => ((ff_size.f a0_0 a0_1 a2).bind fun t134 => (if (Go.bits .or .u64 t133 t134) = 0 then (some false) else ((ff_neg.f a0_0 a0_1 a1).bind fun t135 => ((ff_neg.f a0_0 a0_1 a2).bind fun t136 => (if (t135 != t136) = true then ((ff_neg.f a0_0 a0_1 a1).bind fun t137 => (some t137)) else ((ff_neg.f a0_0 a0_1 a1).bind fun t138 => (if t138 = true then (some (decide (t133 > t134))) else (some (decide (t133 < t134))))))))))) = some r := h
 clear h
 replace H := zob H
 obtain ⟨t133, A40, H⟩ := H
 replace H : ((ff_size.f a0_0 a0_1 a2).bind fun t134 => (if (Go.bits .or .u64 t133 t134) = 0 then (some false) else ((ff_neg.f a0_0 a0_1 a1).bind fun t135 => ((ff_neg.f a0_0 a0_1 a2).bind fun t136 => (if (t135 != t136) = true then ((ff_neg.f a0_0 a0_1 a1).bind fun t137 => (some t137)) else ((ff_neg.f a0_0 a0_1 a1).bind fun t138 => (if t138 = true then (some (decide (t133 > t134))) else (some (decide (t133 < t134)))))))))) = some r := H
 have A4 := As0.mk A40
 clear A40
 replace H := zob H
 obtain ⟨t134, A50, H⟩ := H
 replace H : (if (Go.bits .or .u64 t133 t134) = 0 then (some false) else ((ff_neg.f a0_0 a0_1 a1).bind fun t135 => ((ff_neg.f a0_0 a0_1 a2).bind fun t136 => (if (t135 != t136) = true then ((ff_neg.f a0_0 a0_1 a1).bind fun t137 => (some t137)) else ((ff_neg.f a0_0 a0_1 a1).bind fun t138 => (if t138 = true then (some (decide (t133 > t134))) else (some (decide (t133 < t134))))))))) = some r := H
 have A5 := As0.mk A50
 clear A50
 by_cases c6 : (Go.bits .or .u64 t133 t134) = 0
 ·rw [if_pos c6] at H
  have c6b0 : ((Go.bits .or .u64 t133 t134) == 0) = true := beq_iff_eq.mpr c6
  have c6b1 : ((Go.bits .or .u64 t133 t134) != 0) = false := bne_eq_false_iff_eq.mpr c6
  clear c6
  obtain rfl := Option.some.inj H
  go_enter Try.func41, Try.ntmps41
  try go_wp2_with (first | ((with_reducible refine gate_dst (N := 3) rfl ?_); refine box_event ?hg (N := 3) ?hd (cs := #[.int .i64 a0_0, .int .i64 a0_1]) (t := 43) ?hr ?_; (case hd => rfl); (case hg => rfl); (case hr => first | (go_simp; done) | (go_simp; rfl)); intro gb132 hg w7 hbox hb; have n0_ := As0.mk (bst (by repeat (first | (with_reducible first | exact HB.out | apply bal | apply pwB_ | apply bd1) | exact HB.out)) hb); have n1_ := As0.mk (hbox); have n2_ := As0.mk ((by rw [hg]; exact (below_size (by repeat (first | (with_reducible first | exact HB.out | apply bal | apply pwB_ | apply bd1) | exact HB.out))) : w.heap.size ≤ gb132)); have n3_ := As0.mk ((by rw [hg]; exact (below_size (by repeat (first | (with_reducible first | exact HB.out | apply bal | apply pwB_ | apply bd1) | exact HB.out))) : w.heap.size ≤ gb132)); clear HB; have HB := n0_; have BK132 := n1_; have GW132 := n2_; have GE132 := n3_; clear n0_ n1_ n2_ n3_; clear hb hbox hg))
  have n0_ := As0.mk (bkd BK132.out)
  have n1_ := As0.mk (bd1 HB.out)
  clear BK132
  clear HB
  have BK132 := n0_
  have HB := n1_
  clear n0_ n1_
  refine start_ (n := 8) (S := fun w' => w'.cell? ⟨gb132, 0, none⟩ = some (.int .i64 a0_0) ∧ w'.cell? ⟨gb132, 1, none⟩ = some (.int .i64 a0_1)) (ds := []) #[false, false, false, false, false, false, false, false] (by kernel_rfl) rfl rfl ⟨(bce BK132.out 0).trans rfl, (bce BK132.out 1).trans rfl⟩ (fun hHeld => ?_); refine with_tabW ff_less.tab1 ff_less.bits1 (fun HT_ HW_ => ?_)
  generalize w7.drew = w8 at BK132 HB hHeld ⊢
  refine pure_ (i := 1) (N := some 10) (v := ?_) (a' := ?_) #[false, true, false, false, false, false, false, false] rfl rfl (any_of HT_.out (by kernel_rfl)) (fun _ _ _ h => h) (Or.inl ⟨by rfl, ?_⟩) ?_ ?_
  rotate_left
  ·intro w'
   go_simp
   with_reducible rfl
  rotate_left
  ·simp only [Act.put, zsi, zcz, zcs, i64_w, i32_w]
   rfl
  refine pure_ (i := 4) (N := some 13) (v := ?_) (a' := ?_) #[false, true, false, false, true, false, false, false] rfl rfl (any_of HT_.out (by kernel_rfl)) (fun _ _ _ h => h) (Or.inl ⟨by rfl, ?_⟩) ?_ ?_
  rotate_left
  ·intro w'
   go_simp
   with_reducible rfl
  rotate_left
  ·simp only [Act.put, zsi, zcz, zcs, i64_w, i32_w]
   rfl
  refine take_ (i := 0) (N := some 9) (v := ?_) (a' := ?_) #[true, true, false, false, true, false, false, false] rfl rfl (take_ofW HT_.out HW_.out (by kernel_rfl)) (fun _ _ _ h => h) (Or.inl ⟨by rfl, ?_⟩) hHeld ?_ ?_
  rotate_left
  ·rintro w' ⟨s0, s1⟩
   go_simp
   with_reducible rfl
  rotate_left
  ·simp only [Act.put, zsi, zcz, zcs, i64_w, i32_w]
   rfl
  refine take_ (i := 3) (N := some 12) (v := ?_) (a' := ?_) #[true, true, false, true, true, false, false, false] rfl rfl (take_ofW HT_.out HW_.out (by kernel_rfl)) (fun _ _ _ h => h) (Or.inl ⟨by rfl, ?_⟩) hHeld ?_ ?_
  rotate_left
  ·rintro w' ⟨s0, s1⟩
   go_simp
   with_reducible rfl
  rotate_left
  ·simp only [Act.put, zsi, zcz, zcs, i64_w, i32_w]
   rfl
  refine one_ (i := 2) (N := some 11) #[true, true, true, true, true, false, false, false] rfl rfl (one_of HT_.out (by kernel_rfl)) (by decide) (fun K hK => ?_)
  refine goes_ Try.func40 (by kernel_rfl) rfl #[.agg #[.int .i64 a0_0, .int .i64 a0_1], .int .u64 a1] (by rfl) rfl rfl (by (try simp only [zmt, zmc, zmn]); first | done | rfl) ?_
  with_reducible refine (ff_size.calls a0_0 a0_1 a1 t133 _ A4.out).mono ?_
  rintro e w9 ⟨rfl, hb⟩
  refine ⟨_, rfl, ?_⟩
  have n0_ := As0.mk (bkb (g := gb132) (o := .cells #[.int .i64 a0_0, .int .i64 a0_1] 43 (0, 0)) (by (with_reducible repeat (first | refine bkN ?_ _ | refine bkd ?_ | refine bka ?_ _)); exact BK132.out) hb)
  have n1_ := As0.mk (bst (by repeat (first | (with_reducible first | exact HB.out | apply bal | apply pwB_ | apply bd1 | refine bse ?_ GE132.out) | exact HB.out)) hb)
  clear BK132
  clear HB
  have BK132 := n0_
  have HB := n1_
  clear n0_ n1_
  (try clear hb)
  (try clear hb2)
  (try clear hk)
  (try clear hi)
  refine hK.out _ _ ⟨(bce BK132.out 0).trans rfl, (bce BK132.out 1).trans rfl⟩ (fun hHeld => ?_)
  clear hK K
  refine norm_ (a' := ?_) ?_ ?_
  rotate_left
  ·show Act.put _ (some 11) _ = _
   simp only [Act.put, zsi, zcz, zcs, i64_w, i32_w]
   rfl
  refine one_ (i := 5) (N := some 14) #[true, true, true, true, true, true, false, false] rfl rfl (one_of HT_.out (by kernel_rfl)) (by decide) (fun K hK => ?_)
  refine goes_ Try.func40 (by kernel_rfl) rfl #[.agg #[.int .i64 a0_0, .int .i64 a0_1], .int .u64 a2] (by rfl) rfl rfl (by (try simp only [zmt, zmc, zmn]); first | done | rfl) ?_
  with_reducible refine (ff_size.calls a0_0 a0_1 a2 t134 _ A5.out).mono ?_
  rintro e w10 ⟨rfl, hb⟩
  refine ⟨_, rfl, ?_⟩
  have n0_ := As0.mk (bkb (g := gb132) (o := .cells #[.int .i64 a0_0, .int .i64 a0_1] 43 (0, 0)) (by (with_reducible repeat (first | refine bkN ?_ _ | refine bkd ?_ | refine bka ?_ _)); exact BK132.out) hb)
  have n1_ := As0.mk (bst (by repeat (first | (with_reducible first | exact HB.out | apply bal | apply pwB_ | apply bd1 | refine bse ?_ GE132.out) | exact HB.out)) hb)
  clear BK132
  clear HB
  have BK132 := n0_
  have HB := n1_
  clear n0_ n1_
  (try clear hb)
  (try clear hb2)
  (try clear hk)
  (try clear hi)
  refine hK.out _ _ ⟨(bce BK132.out 0).trans rfl, (bce BK132.out 1).trans rfl⟩ (fun hHeld => ?_)
  clear hK K
  refine norm_ (a' := ?_) ?_ ?_
  rotate_left
  ·show Act.put _ (some 14) _ = _
   simp only [Act.put, zsi, zcz, zcs, i64_w, i32_w]
   rfl
  refine pure_ (i := 6) (N := some 7) (v := ?_) (a' := ?_) #[true, true, true, true, true, true, true, false] rfl rfl (any_of HT_.out (by kernel_rfl)) (fun _ _ _ h => h) (Or.inl ⟨by rfl, ?_⟩) ?_ ?_
  rotate_left
  ·intro w'
   go_simp
   with_reducible rfl
  rotate_left
  ·simp only [Act.put, zsi, zcz, zcs, i64_w, i32_w]
   rfl
  refine pure_ (i := 7) (N := some 8) (v := ?_) (a' := ?_) #[true, true, true, true, true, true, true, true] rfl rfl (any_of HT_.out (by kernel_rfl)) (fun _ _ _ h => h) (Or.inl ⟨by rfl, ?_⟩) ?_ ?_
  rotate_left
  ·intro w'
   go_simp
   with_reducible rfl
  rotate_left
  ·simp only [Act.put, zsi, zcz, zcs, i64_w, i32_w]
   rfl
  refine done_ (done_of HT_.out (by kernel_rfl)) ?_
  try go_wp2
  go_ret
  exact ⟨by first | rfl | (simp [*] <;> rfl), by repeat (first | (with_reducible first | exact HB.out | apply bal | apply pwB_ | apply bd1 | refine bse ?_ GE132.out) | exact HB.out)⟩
 ·rw [if_neg c6] at H
  have c6b0 : ((Go.bits .or .u64 t133 t134) == 0) = false := beq_eq_false_iff_ne.mpr c6
  have c6b1 : ((Go.bits .or .u64 t133 t134) != 0) = true := bne_iff_ne.mpr c6
  replace H := zob H
  obtain ⟨t135, A110, H⟩ := H
  replace H : ((ff_neg.f a0_0 a0_1 a2).bind fun t136 => (if (t135 != t136) = true then ((ff_neg.f a0_0 a0_1 a1).bind fun t137 => (some t137)) else ((ff_neg.f a0_0 a0_1 a1).bind fun t138 => (if t138 = true then (some (decide (t133 > t134))) else (some (decide (t133 < t134))))))) = some r := H
  have A11 := As0.mk A110
  clear A110
  replace H := zob H
  obtain ⟨t136, A120, H⟩ := H
  replace H : (if (t135 != t136) = true then ((ff_neg.f a0_0 a0_1 a1).bind fun t137 => (some t137)) else ((ff_neg.f a0_0 a0_1 a1).bind fun t138 => (if t138 = true then (some (decide (t133 > t134))) else (some (decide (t133 < t134)))))) = some r := H
  have A12 := As0.mk A120
  clear A120
  by_cases c13 : (t135 != t136) = true
  ·rw [if_pos c13] at H
   have c13b0 : (t135 != t136) = true := c13
   (try (have c13b1 : decide (t135 = t136) = false := by simpa using c13))
   (try (have c13b2 : (t135 == t136) = false := by simpa using c13))
   (try (have c13b3 : ¬ (t135 = t136) := by simpa using c13))
   clear c13
   replace H := zob H
   obtain ⟨t137, A140, H⟩ := H
   replace H : (some t137) = some r := H
   have A14 := As0.mk A140
   clear A140
   obtain rfl := Option.some.inj H
   go_enter Try.func41, Try.ntmps41
   try go_wp2_with (first | ((with_reducible refine gate_dst (N := 3) rfl ?_); refine box_event ?hg (N := 3) ?hd (cs := #[.int .i64 a0_0, .int .i64 a0_1]) (t := 43) ?hr ?_; (case hd => rfl); (case hg => rfl); (case hr => first | (go_simp; done) | (go_simp; rfl)); intro gb132 hg w15 hbox hb; have n0_ := As0.mk (bst (by repeat (first | (with_reducible first | exact HB.out | apply bal | apply pwB_ | apply bd1) | exact HB.out)) hb); have n1_ := As0.mk (hbox); have n2_ := As0.mk ((by rw [hg]; exact (below_size (by repeat (first | (with_reducible first | exact HB.out | apply bal | apply pwB_ | apply bd1) | exact HB.out))) : w.heap.size ≤ gb132)); have n3_ := As0.mk ((by rw [hg]; exact (below_size (by repeat (first | (with_reducible first | exact HB.out | apply bal | apply pwB_ | apply bd1) | exact HB.out))) : w.heap.size ≤ gb132)); clear HB; have HB := n0_; have BK132 := n1_; have GW132 := n2_; have GE132 := n3_; clear n0_ n1_ n2_ n3_; clear hb hbox hg))
   have n0_ := As0.mk (bkd BK132.out)
   have n1_ := As0.mk (bd1 HB.out)
   clear BK132
   clear HB
   have BK132 := n0_
   have HB := n1_
   clear n0_ n1_
   refine start_ (n := 8) (S := fun w' => w'.cell? ⟨gb132, 0, none⟩ = some (.int .i64 a0_0) ∧ w'.cell? ⟨gb132, 1, none⟩ = some (.int .i64 a0_1)) (ds := []) #[false, false, false, false, false, false, false, false] (by kernel_rfl) rfl rfl ⟨(bce BK132.out 0).trans rfl, (bce BK132.out 1).trans rfl⟩ (fun hHeld => ?_); refine with_tabW ff_less.tab1 ff_less.bits1 (fun HT_ HW_ => ?_)
   generalize w15.drew = w16 at BK132 HB hHeld ⊢
   refine pure_ (i := 1) (N := some 10) (v := ?_) (a' := ?_) #[false, true, false, false, false, false, false, false] rfl rfl (any_of HT_.out (by kernel_rfl)) (fun _ _ _ h => h) (Or.inl ⟨by rfl, ?_⟩) ?_ ?_
   rotate_left
   ·intro w'
    go_simp
    with_reducible rfl
   rotate_left
   ·simp only [Act.put, zsi, zcz, zcs, i64_w, i32_w]
    rfl
   refine pure_ (i := 4) (N := some 13) (v := ?_) (a' := ?_) #[false, true, false, false, true, false, false, false] rfl rfl (any_of HT_.out (by kernel_rfl)) (fun _ _ _ h => h) (Or.inl ⟨by rfl, ?_⟩) ?_ ?_
   rotate_left
   ·intro w'
    go_simp
    with_reducible rfl
   rotate_left
   ·simp only [Act.put, zsi, zcz, zcs, i64_w, i32_w]
    rfl
   refine take_ (i := 0) (N := some 9) (v := ?_) (a' := ?_) #[true, true, false, false, true, false, false, false] rfl rfl (take_ofW HT_.out HW_.out (by kernel_rfl)) (fun _ _ _ h => h) (Or.inl ⟨by rfl, ?_⟩) hHeld ?_ ?_
   rotate_left
   ·rintro w' ⟨s0, s1⟩
    go_simp
    with_reducible rfl
   rotate_left
   ·simp only [Act.put, zsi, zcz, zcs, i64_w, i32_w]
    rfl
   refine take_ (i := 3) (N := some 12) (v := ?_) (a' := ?_) #[true, true, false, true, true, false, false, false] rfl rfl (take_ofW HT_.out HW_.out (by kernel_rfl)) (fun _ _ _ h => h) (Or.inl ⟨by rfl, ?_⟩) hHeld ?_ ?_
   rotate_left
   ·rintro w' ⟨s0, s1⟩
    go_simp
    with_reducible rfl
   rotate_left
   ·simp only [Act.put, zsi, zcz, zcs, i64_w, i32_w]
    rfl
   refine one_ (i := 2) (N := some 11) #[true, true, true, true, true, false, false, false] rfl rfl (one_of HT_.out (by kernel_rfl)) (by decide) (fun K hK => ?_)
   refine goes_ Try.func40 (by kernel_rfl) rfl #[.agg #[.int .i64 a0_0, .int .i64 a0_1], .int .u64 a1] (by rfl) rfl rfl (by (try simp only [zmt, zmc, zmn]); first | done | rfl) ?_
   with_reducible refine (ff_size.calls a0_0 a0_1 a1 t133 _ A4.out).mono ?_
   rintro e w17 ⟨rfl, hb⟩
   refine ⟨_, rfl, ?_⟩
   have n0_ := As0.mk (bkb (g := gb132) (o := .cells #[.int .i64 a0_0, .int .i64 a0_1] 43 (0, 0)) (by (with_reducible repeat (first | refine bkN ?_ _ | refine bkd ?_ | refine bka ?_ _)); exact BK132.out) hb)
   have n1_ := As0.mk (bst (by repeat (first | (with_reducible first | exact HB.out | apply bal | apply pwB_ | apply bd1 | refine bse ?_ GE132.out) | exact HB.out)) hb)
   clear BK132
   clear HB
   have BK132 := n0_
   have HB := n1_
   clear n0_ n1_
   (try clear hb)
   (try clear hb2)
   (try clear hk)
   (try clear hi)
   refine hK.out _ _ ⟨(bce BK132.out 0).trans rfl, (bce BK132.out 1).trans rfl⟩ (fun hHeld => ?_)
   clear hK K
   refine norm_ (a' := ?_) ?_ ?_
   rotate_left
   ·show Act.put _ (some 11) _ = _
    simp only [Act.put, zsi, zcz, zcs, i64_w, i32_w]
    rfl
   refine one_ (i := 5) (N := some 14) #[true, true, true, true, true, true, false, false] rfl rfl (one_of HT_.out (by kernel_rfl)) (by decide) (fun K hK => ?_)
   refine goes_ Try.func40 (by kernel_rfl) rfl #[.agg #[.int .i64 a0_0, .int .i64 a0_1], .int .u64 a2] (by rfl) rfl rfl (by (try simp only [zmt, zmc, zmn]); first | done | rfl) ?_
   with_reducible refine (ff_size.calls a0_0 a0_1 a2 t134 _ A5.out).mono ?_
   rintro e w18 ⟨rfl, hb⟩
   refine ⟨_, rfl, ?_⟩
   have n0_ := As0.mk (bkb (g := gb132) (o := .cells #[.int .i64 a0_0, .int .i64 a0_1] 43 (0, 0)) (by (with_reducible repeat (first | refine bkN ?_ _ | refine bkd ?_ | refine bka ?_ _)); exact BK132.out) hb)
   have n1_ := As0.mk (bst (by repeat (first | (with_reducible first | exact HB.out | apply bal | apply pwB_ | apply bd1 | refine bse ?_ GE132.out) | exact HB.out)) hb)
   clear BK132
   clear HB
   have BK132 := n0_
   have HB := n1_
   clear n0_ n1_
   (try clear hb)
   (try clear hb2)
   (try clear hk)
   (try clear hi)
   refine hK.out _ _ ⟨(bce BK132.out 0).trans rfl, (bce BK132.out 1).trans rfl⟩ (fun hHeld => ?_)
   clear hK K
   refine norm_ (a' := ?_) ?_ ?_
   rotate_left
   ·show Act.put _ (some 14) _ = _
    simp only [Act.put, zsi, zcz, zcs, i64_w, i32_w]
    rfl
   refine pure_ (i := 6) (N := some 7) (v := ?_) (a' := ?_) #[true, true, true, true, true, true, true, false] rfl rfl (any_of HT_.out (by kernel_rfl)) (fun _ _ _ h => h) (Or.inl ⟨by rfl, ?_⟩) ?_ ?_
   rotate_left
   ·intro w'
    go_simp
    with_reducible rfl
   rotate_left
   ·simp only [Act.put, zsi, zcz, zcs, i64_w, i32_w]
    rfl
   refine pure_ (i := 7) (N := some 8) (v := ?_) (a' := ?_) #[true, true, true, true, true, true, true, true] rfl rfl (any_of HT_.out (by kernel_rfl)) (fun _ _ _ h => h) (Or.inl ⟨by rfl, ?_⟩) ?_ ?_
   rotate_left
   ·intro w'
    go_simp
    with_reducible rfl
   rotate_left
   ·simp only [Act.put, zsi, zcz, zcs, i64_w, i32_w]
    rfl
   refine done_ (done_of HT_.out (by kernel_rfl)) ?_
   try go_wp2
   have n0_ := As0.mk (bkd BK132.out)
   have n1_ := As0.mk (bd1 HB.out)
   clear BK132
   clear HB
   have BK132 := n0_
   have HB := n1_
   clear n0_ n1_
   refine start_ (n := 8) (S := fun w' => w'.cell? ⟨gb132, 0, none⟩ = some (.int .i64 a0_0) ∧ w'.cell? ⟨gb132, 1, none⟩ = some (.int .i64 a0_1)) (ds := []) #[false, false, false, false, false, false, false, false] (by kernel_rfl) rfl rfl ⟨(bce BK132.out 0).trans rfl, (bce BK132.out 1).trans rfl⟩ (fun hHeld => ?_); refine with_tabW ff_less.tab4 ff_less.bits4 (fun HT_ HW_ => ?_)
   generalize w18.drew = w19 at BK132 HB hHeld ⊢
   refine pure_ (i := 1) (N := some 22) (v := ?_) (a' := ?_) #[false, true, false, false, false, false, false, false] rfl rfl (any_of HT_.out (by kernel_rfl)) (fun _ _ _ h => h) (Or.inl ⟨by rfl, ?_⟩) ?_ ?_
   rotate_left
   ·intro w'
    go_simp
    with_reducible rfl
   rotate_left
   ·simp only [Act.put, zsi, zcz, zcs, i64_w, i32_w]
    rfl
   refine pure_ (i := 4) (N := some 25) (v := ?_) (a' := ?_) #[false, true, false, false, true, false, false, false] rfl rfl (any_of HT_.out (by kernel_rfl)) (fun _ _ _ h => h) (Or.inl ⟨by rfl, ?_⟩) ?_ ?_
   rotate_left
   ·intro w'
    go_simp
    with_reducible rfl
   rotate_left
   ·simp only [Act.put, zsi, zcz, zcs, i64_w, i32_w]
    rfl
   refine take_ (i := 0) (N := some 21) (v := ?_) (a' := ?_) #[true, true, false, false, true, false, false, false] rfl rfl (take_ofW HT_.out HW_.out (by kernel_rfl)) (fun _ _ _ h => h) (Or.inl ⟨by rfl, ?_⟩) hHeld ?_ ?_
   rotate_left
   ·rintro w' ⟨s0, s1⟩
    go_simp
    with_reducible rfl
   rotate_left
   ·simp only [Act.put, zsi, zcz, zcs, i64_w, i32_w]
    rfl
   refine take_ (i := 3) (N := some 24) (v := ?_) (a' := ?_) #[true, true, false, true, true, false, false, false] rfl rfl (take_ofW HT_.out HW_.out (by kernel_rfl)) (fun _ _ _ h => h) (Or.inl ⟨by rfl, ?_⟩) hHeld ?_ ?_
   rotate_left
   ·rintro w' ⟨s0, s1⟩
    go_simp
    with_reducible rfl
   rotate_left
   ·simp only [Act.put, zsi, zcz, zcs, i64_w, i32_w]
    rfl
   refine one_ (i := 2) (N := some 23) #[true, true, true, true, true, false, false, false] rfl rfl (one_of HT_.out (by kernel_rfl)) (by decide) (fun K hK => ?_)
   refine goes_ Try.func39 (by kernel_rfl) rfl #[.agg #[.int .i64 a0_0, .int .i64 a0_1], .int .u64 a1] (by rfl) rfl rfl (by (try simp only [zmt, zmc, zmn]); first | done | rfl) ?_
   with_reducible refine (ff_neg.calls a0_0 a0_1 a1 t135 _ A11.out).mono ?_
   rintro e w20 ⟨rfl, hb⟩
   refine ⟨_, rfl, ?_⟩
   have n0_ := As0.mk (bkb (g := gb132) (o := .cells #[.int .i64 a0_0, .int .i64 a0_1] 43 (0, 0)) (by (with_reducible repeat (first | refine bkN ?_ _ | refine bkd ?_ | refine bka ?_ _)); exact BK132.out) hb)
   have n1_ := As0.mk (bst (by repeat (first | (with_reducible first | exact HB.out | apply bal | apply pwB_ | apply bd1 | refine bse ?_ GE132.out) | exact HB.out)) hb)
   clear BK132
   clear HB
   have BK132 := n0_
   have HB := n1_
   clear n0_ n1_
   (try clear hb)
   (try clear hb2)
   (try clear hk)
   (try clear hi)
   refine hK.out _ _ ⟨(bce BK132.out 0).trans rfl, (bce BK132.out 1).trans rfl⟩ (fun hHeld => ?_)
   clear hK K
   refine norm_ (a' := ?_) ?_ ?_
   rotate_left
   ·show Act.put _ (some 23) _ = _
    simp only [Act.put, zsi, zcz, zcs, i64_w, i32_w]
    rfl
   refine one_ (i := 5) (N := some 26) #[true, true, true, true, true, true, false, false] rfl rfl (one_of HT_.out (by kernel_rfl)) (by decide) (fun K hK => ?_)
   refine goes_ Try.func39 (by kernel_rfl) rfl #[.agg #[.int .i64 a0_0, .int .i64 a0_1], .int .u64 a2] (by rfl) rfl rfl (by (try simp only [zmt, zmc, zmn]); first | done | rfl) ?_
   with_reducible refine (ff_neg.calls a0_0 a0_1 a2 t136 _ A12.out).mono ?_
   rintro e w21 ⟨rfl, hb⟩
   refine ⟨_, rfl, ?_⟩
   have n0_ := As0.mk (bkb (g := gb132) (o := .cells #[.int .i64 a0_0, .int .i64 a0_1] 43 (0, 0)) (by (with_reducible repeat (first | refine bkN ?_ _ | refine bkd ?_ | refine bka ?_ _)); exact BK132.out) hb)
   have n1_ := As0.mk (bst (by repeat (first | (with_reducible first | exact HB.out | apply bal | apply pwB_ | apply bd1 | refine bse ?_ GE132.out) | exact HB.out)) hb)
   clear BK132
   clear HB
   have BK132 := n0_
   have HB := n1_
   clear n0_ n1_
   (try clear hb)
   (try clear hb2)
   (try clear hk)
   (try clear hi)
   refine hK.out _ _ ⟨(bce BK132.out 0).trans rfl, (bce BK132.out 1).trans rfl⟩ (fun hHeld => ?_)
   clear hK K
   refine norm_ (a' := ?_) ?_ ?_
   rotate_left
   ·show Act.put _ (some 26) _ = _
    simp only [Act.put, zsi, zcz, zcs, i64_w, i32_w]
    rfl
   refine pure_ (i := 6) (N := some 27) (v := ?_) (a' := ?_) #[true, true, true, true, true, true, true, false] rfl rfl (any_of HT_.out (by kernel_rfl)) (fun _ _ _ h => h) (Or.inl ⟨by rfl, ?_⟩) ?_ ?_
   rotate_left
   ·intro w'
    go_simp
    with_reducible rfl
   rotate_left
   ·simp only [Act.put, zsi, zcz, zcs, i64_w, i32_w]
    rfl
   refine pure_ (i := 7) (N := some 20) (v := ?_) (a' := ?_) #[true, true, true, true, true, true, true, true] rfl rfl (any_of HT_.out (by kernel_rfl)) (fun _ _ _ h => h) (Or.inl ⟨by rfl, ?_⟩) ?_ ?_
   rotate_left
   ·intro w'
    go_simp
    with_reducible rfl
   rotate_left
   ·simp only [Act.put, zsi, zcz, zcs, i64_w, i32_w]
    rfl
   refine done_ (done_of HT_.out (by kernel_rfl)) ?_
   have hcz22_0 : w21.cell? ⟨gb132, 0, none⟩ = some (.int .i64 a0_0) := (bce BK132.out 0).trans rfl
   have hcz22_1 : w21.cell? ⟨gb132, 1, none⟩ = some (.int .i64 a0_1) := (bce BK132.out 1).trans rfl
   have hfz22_0 := bkf BK132.out 0
   have hfz22_1 := bkf BK132.out 1
   try go_wp2_with (first | ((with_reducible refine gcl (f := 39) rfl ?_); refine goesL_ (some 30) rfl rfl Try.func39 (by kernel_rfl) rfl #[.agg #[.int .i64 a0_0, .int .i64 a0_1], .int .u64 a1] rfl (by (try simp only [zmt, zmc, zmn]); first | done | rfl) ?_; (with_reducible refine (ff_neg.calls a0_0 a0_1 a1 t137 _ A14.out).mono ?_); rintro e w23 ⟨rfl, hb⟩; refine ⟨_, rfl, ?_⟩; have n0_ := As0.mk (bkb (g := gb132) (o := .cells #[.int .i64 a0_0, .int .i64 a0_1] 43 (0, 0)) (by (with_reducible repeat (first | refine bkN ?_ _ | refine bkd ?_ | refine bka ?_ _)); exact BK132.out) hb); have n1_ := As0.mk (bst (by repeat (first | (with_reducible first | exact HB.out | apply bal | apply pwB_ | apply bd1 | refine bse ?_ GE132.out) | exact HB.out)) hb); clear BK132; clear HB; have BK132 := n0_; have HB := n1_; clear n0_ n1_; (try clear hb); (try clear hb2); (try clear hk); (try clear hi)))
   go_ret
   exact ⟨by first | rfl | (simp [*] <;> rfl), by repeat (first | (with_reducible first | exact HB.out | apply bal | apply pwB_ | apply bd1 | refine bse ?_ GE132.out) | exact HB.out)⟩
  ·rw [if_neg c13] at H
   have c13b0 : (t135 != t136) = false := by simpa using c13
   (try (have c13b1 : decide (t135 = t136) = true := by simpa using c13))
   (try (have c13b2 : (t135 == t136) = true := by simpa using c13))
   clear c13
   replace H := zob H
   obtain ⟨t138, A240, H⟩ := H
   replace H : (if t138 = true then (some (decide (t133 > t134))) else (some (decide (t133 < t134)))) = some r := H
   have A24 := As0.mk A240
   clear A240
   by_cases c25 : t138 = true
   ·subst c25
    have H1 : (some (decide (t133 > t134))) = some r := by rw [if_pos rfl] at H; exact H
    clear H
    have H := H1
    clear H1
    obtain rfl := Option.some.inj H
    go_enter Try.func41, Try.ntmps41
    try go_wp2_with (first | ((with_reducible refine gate_dst (N := 3) rfl ?_); refine box_event ?hg (N := 3) ?hd (cs := #[.int .i64 a0_0, .int .i64 a0_1]) (t := 43) ?hr ?_; (case hd => rfl); (case hg => rfl); (case hr => first | (go_simp; done) | (go_simp; rfl)); intro gb132 hg w26 hbox hb; have n0_ := As0.mk (bst (by repeat (first | (with_reducible first | exact HB.out | apply bal | apply pwB_ | apply bd1) | exact HB.out)) hb); have n1_ := As0.mk (hbox); have n2_ := As0.mk ((by rw [hg]; exact (below_size (by repeat (first | (with_reducible first | exact HB.out | apply bal | apply pwB_ | apply bd1) | exact HB.out))) : w.heap.size ≤ gb132)); have n3_ := As0.mk ((by rw [hg]; exact (below_size (by repeat (first | (with_reducible first | exact HB.out | apply bal | apply pwB_ | apply bd1) | exact HB.out))) : w.heap.size ≤ gb132)); clear HB; have HB := n0_; have BK132 := n1_; have GW132 := n2_; have GE132 := n3_; clear n0_ n1_ n2_ n3_; clear hb hbox hg))
    have n0_ := As0.mk (bkd BK132.out)
    have n1_ := As0.mk (bd1 HB.out)
    clear BK132
    clear HB
    have BK132 := n0_
    have HB := n1_
    clear n0_ n1_
    refine start_ (n := 8) (S := fun w' => w'.cell? ⟨gb132, 0, none⟩ = some (.int .i64 a0_0) ∧ w'.cell? ⟨gb132, 1, none⟩ = some (.int .i64 a0_1)) (ds := []) #[false, false, false, false, false, false, false, false] (by kernel_rfl) rfl rfl ⟨(bce BK132.out 0).trans rfl, (bce BK132.out 1).trans rfl⟩ (fun hHeld => ?_); refine with_tabW ff_less.tab1 ff_less.bits1 (fun HT_ HW_ => ?_)
    generalize w26.drew = w27 at BK132 HB hHeld ⊢
    refine pure_ (i := 1) (N := some 10) (v := ?_) (a' := ?_) #[false, true, false, false, false, false, false, false] rfl rfl (any_of HT_.out (by kernel_rfl)) (fun _ _ _ h => h) (Or.inl ⟨by rfl, ?_⟩) ?_ ?_
    rotate_left
    ·intro w'
     go_simp
     with_reducible rfl
    rotate_left
    ·simp only [Act.put, zsi, zcz, zcs, i64_w, i32_w]
     rfl
    refine pure_ (i := 4) (N := some 13) (v := ?_) (a' := ?_) #[false, true, false, false, true, false, false, false] rfl rfl (any_of HT_.out (by kernel_rfl)) (fun _ _ _ h => h) (Or.inl ⟨by rfl, ?_⟩) ?_ ?_
    rotate_left
    ·intro w'
     go_simp
     with_reducible rfl
    rotate_left
    ·simp only [Act.put, zsi, zcz, zcs, i64_w, i32_w]
     rfl
    refine take_ (i := 0) (N := some 9) (v := ?_) (a' := ?_) #[true, true, false, false, true, false, false, false] rfl rfl (take_ofW HT_.out HW_.out (by kernel_rfl)) (fun _ _ _ h => h) (Or.inl ⟨by rfl, ?_⟩) hHeld ?_ ?_
    rotate_left
    ·rintro w' ⟨s0, s1⟩
     go_simp
     with_reducible rfl
    rotate_left
    ·simp only [Act.put, zsi, zcz, zcs, i64_w, i32_w]
     rfl
    refine take_ (i := 3) (N := some 12) (v := ?_) (a' := ?_) #[true, true, false, true, true, false, false, false] rfl rfl (take_ofW HT_.out HW_.out (by kernel_rfl)) (fun _ _ _ h => h) (Or.inl ⟨by rfl, ?_⟩) hHeld ?_ ?_
    rotate_left
    ·rintro w' ⟨s0, s1⟩
     go_simp
     with_reducible rfl
    rotate_left
    ·simp only [Act.put, zsi, zcz, zcs, i64_w, i32_w]
     rfl
    refine one_ (i := 2) (N := some 11) #[true, true, true, true, true, false, false, false] rfl rfl (one_of HT_.out (by kernel_rfl)) (by decide) (fun K hK => ?_)
    refine goes_ Try.func40 (by kernel_rfl) rfl #[.agg #[.int .i64 a0_0, .int .i64 a0_1], .int .u64 a1] (by rfl) rfl rfl (by (try simp only [zmt, zmc, zmn]); first | done | rfl) ?_
    with_reducible refine (ff_size.calls a0_0 a0_1 a1 t133 _ A4.out).mono ?_
    rintro e w28 ⟨rfl, hb⟩
    refine ⟨_, rfl, ?_⟩
    have n0_ := As0.mk (bkb (g := gb132) (o := .cells #[.int .i64 a0_0, .int .i64 a0_1] 43 (0, 0)) (by (with_reducible repeat (first | refine bkN ?_ _ | refine bkd ?_ | refine bka ?_ _)); exact BK132.out) hb)
    have n1_ := As0.mk (bst (by repeat (first | (with_reducible first | exact HB.out | apply bal | apply pwB_ | apply bd1 | refine bse ?_ GE132.out) | exact HB.out)) hb)
    clear BK132
    clear HB
    have BK132 := n0_
    have HB := n1_
    clear n0_ n1_
    (try clear hb)
    (try clear hb2)
    (try clear hk)
    (try clear hi)
    refine hK.out _ _ ⟨(bce BK132.out 0).trans rfl, (bce BK132.out 1).trans rfl⟩ (fun hHeld => ?_)
    clear hK K
    refine norm_ (a' := ?_) ?_ ?_
    rotate_left
    ·show Act.put _ (some 11) _ = _
     simp only [Act.put, zsi, zcz, zcs, i64_w, i32_w]
     rfl
    refine one_ (i := 5) (N := some 14) #[true, true, true, true, true, true, false, false] rfl rfl (one_of HT_.out (by kernel_rfl)) (by decide) (fun K hK => ?_)
    refine goes_ Try.func40 (by kernel_rfl) rfl #[.agg #[.int .i64 a0_0, .int .i64 a0_1], .int .u64 a2] (by rfl) rfl rfl (by (try simp only [zmt, zmc, zmn]); first | done | rfl) ?_
    with_reducible refine (ff_size.calls a0_0 a0_1 a2 t134 _ A5.out).mono ?_
    rintro e w29 ⟨rfl, hb⟩
    refine ⟨_, rfl, ?_⟩
    have n0_ := As0.mk (bkb (g := gb132) (o := .cells #[.int .i64 a0_0, .int .i64 a0_1] 43 (0, 0)) (by (with_reducible repeat (first | refine bkN ?_ _ | refine bkd ?_ | refine bka ?_ _)); exact BK132.out) hb)
    have n1_ := As0.mk (bst (by repeat (first | (with_reducible first | exact HB.out | apply bal | apply pwB_ | apply bd1 | refine bse ?_ GE132.out) | exact HB.out)) hb)
    clear BK132
    clear HB
    have BK132 := n0_
    have HB := n1_
    clear n0_ n1_
    (try clear hb)
    (try clear hb2)
    (try clear hk)
    (try clear hi)
    refine hK.out _ _ ⟨(bce BK132.out 0).trans rfl, (bce BK132.out 1).trans rfl⟩ (fun hHeld => ?_)
    clear hK K
    refine norm_ (a' := ?_) ?_ ?_
    rotate_left
    ·show Act.put _ (some 14) _ = _
     simp only [Act.put, zsi, zcz, zcs, i64_w, i32_w]
     rfl
    refine pure_ (i := 6) (N := some 7) (v := ?_) (a' := ?_) #[true, true, true, true, true, true, true, false] rfl rfl (any_of HT_.out (by kernel_rfl)) (fun _ _ _ h => h) (Or.inl ⟨by rfl, ?_⟩) ?_ ?_
    rotate_left
    ·intro w'
     go_simp
     with_reducible rfl
    rotate_left
    ·simp only [Act.put, zsi, zcz, zcs, i64_w, i32_w]
     rfl
    refine pure_ (i := 7) (N := some 8) (v := ?_) (a' := ?_) #[true, true, true, true, true, true, true, true] rfl rfl (any_of HT_.out (by kernel_rfl)) (fun _ _ _ h => h) (Or.inl ⟨by rfl, ?_⟩) ?_ ?_
    rotate_left
    ·intro w'
     go_simp
     with_reducible rfl
    rotate_left
    ·simp only [Act.put, zsi, zcz, zcs, i64_w, i32_w]
     rfl
    refine done_ (done_of HT_.out (by kernel_rfl)) ?_
    try go_wp2
    have n0_ := As0.mk (bkd BK132.out)
    have n1_ := As0.mk (bd1 HB.out)
    clear BK132
    clear HB
    have BK132 := n0_
    have HB := n1_
    clear n0_ n1_
    refine start_ (n := 8) (S := fun w' => w'.cell? ⟨gb132, 0, none⟩ = some (.int .i64 a0_0) ∧ w'.cell? ⟨gb132, 1, none⟩ = some (.int .i64 a0_1)) (ds := []) #[false, false, false, false, false, false, false, false] (by kernel_rfl) rfl rfl ⟨(bce BK132.out 0).trans rfl, (bce BK132.out 1).trans rfl⟩ (fun hHeld => ?_); refine with_tabW ff_less.tab4 ff_less.bits4 (fun HT_ HW_ => ?_)
    generalize w29.drew = w30 at BK132 HB hHeld ⊢
    refine pure_ (i := 1) (N := some 22) (v := ?_) (a' := ?_) #[false, true, false, false, false, false, false, false] rfl rfl (any_of HT_.out (by kernel_rfl)) (fun _ _ _ h => h) (Or.inl ⟨by rfl, ?_⟩) ?_ ?_
    rotate_left
    ·intro w'
     go_simp
     with_reducible rfl
    rotate_left
    ·simp only [Act.put, zsi, zcz, zcs, i64_w, i32_w]
     rfl
    refine pure_ (i := 4) (N := some 25) (v := ?_) (a' := ?_) #[false, true, false, false, true, false, false, false] rfl rfl (any_of HT_.out (by kernel_rfl)) (fun _ _ _ h => h) (Or.inl ⟨by rfl, ?_⟩) ?_ ?_
    rotate_left
    ·intro w'
     go_simp
     with_reducible rfl
    rotate_left
    ·simp only [Act.put, zsi, zcz, zcs, i64_w, i32_w]
     rfl
    refine take_ (i := 0) (N := some 21) (v := ?_) (a' := ?_) #[true, true, false, false, true, false, false, false] rfl rfl (take_ofW HT_.out HW_.out (by kernel_rfl)) (fun _ _ _ h => h) (Or.inl ⟨by rfl, ?_⟩) hHeld ?_ ?_
    rotate_left
    ·rintro w' ⟨s0, s1⟩
     go_simp
     with_reducible rfl
    rotate_left
    ·simp only [Act.put, zsi, zcz, zcs, i64_w, i32_w]
     rfl
    refine take_ (i := 3) (N := some 24) (v := ?_) (a' := ?_) #[true, true, false, true, true, false, false, false] rfl rfl (take_ofW HT_.out HW_.out (by kernel_rfl)) (fun _ _ _ h => h) (Or.inl ⟨by rfl, ?_⟩) hHeld ?_ ?_
    rotate_left
    ·rintro w' ⟨s0, s1⟩
     go_simp
     with_reducible rfl
    rotate_left
    ·simp only [Act.put, zsi, zcz, zcs, i64_w, i32_w]
     rfl
    refine one_ (i := 2) (N := some 23) #[true, true, true, true, true, false, false, false] rfl rfl (one_of HT_.out (by kernel_rfl)) (by decide) (fun K hK => ?_)
    refine goes_ Try.func39 (by kernel_rfl) rfl #[.agg #[.int .i64 a0_0, .int .i64 a0_1], .int .u64 a1] (by rfl) rfl rfl (by (try simp only [zmt, zmc, zmn]); first | done | rfl) ?_
    with_reducible refine (ff_neg.calls a0_0 a0_1 a1 t135 _ A11.out).mono ?_
    rintro e w31 ⟨rfl, hb⟩
    refine ⟨_, rfl, ?_⟩
    have n0_ := As0.mk (bkb (g := gb132) (o := .cells #[.int .i64 a0_0, .int .i64 a0_1] 43 (0, 0)) (by (with_reducible repeat (first | refine bkN ?_ _ | refine bkd ?_ | refine bka ?_ _)); exact BK132.out) hb)
    have n1_ := As0.mk (bst (by repeat (first | (with_reducible first | exact HB.out | apply bal | apply pwB_ | apply bd1 | refine bse ?_ GE132.out) | exact HB.out)) hb)
    clear BK132
    clear HB
    have BK132 := n0_
    have HB := n1_
    clear n0_ n1_
    (try clear hb)
    (try clear hb2)
    (try clear hk)
    (try clear hi)
    refine hK.out _ _ ⟨(bce BK132.out 0).trans rfl, (bce BK132.out 1).trans rfl⟩ (fun hHeld => ?_)
    clear hK K
    refine norm_ (a' := ?_) ?_ ?_
    rotate_left
    ·show Act.put _ (some 23) _ = _
     simp only [Act.put, zsi, zcz, zcs, i64_w, i32_w]
     rfl
    refine one_ (i := 5) (N := some 26) #[true, true, true, true, true, true, false, false] rfl rfl (one_of HT_.out (by kernel_rfl)) (by decide) (fun K hK => ?_)
    refine goes_ Try.func39 (by kernel_rfl) rfl #[.agg #[.int .i64 a0_0, .int .i64 a0_1], .int .u64 a2] (by rfl) rfl rfl (by (try simp only [zmt, zmc, zmn]); first | done | rfl) ?_
    with_reducible refine (ff_neg.calls a0_0 a0_1 a2 t136 _ A12.out).mono ?_
    rintro e w32 ⟨rfl, hb⟩
    refine ⟨_, rfl, ?_⟩
    have n0_ := As0.mk (bkb (g := gb132) (o := .cells #[.int .i64 a0_0, .int .i64 a0_1] 43 (0, 0)) (by (with_reducible repeat (first | refine bkN ?_ _ | refine bkd ?_ | refine bka ?_ _)); exact BK132.out) hb)
    have n1_ := As0.mk (bst (by repeat (first | (with_reducible first | exact HB.out | apply bal | apply pwB_ | apply bd1 | refine bse ?_ GE132.out) | exact HB.out)) hb)
    clear BK132
    clear HB
    have BK132 := n0_
    have HB := n1_
    clear n0_ n1_
    (try clear hb)
    (try clear hb2)
    (try clear hk)
    (try clear hi)
    refine hK.out _ _ ⟨(bce BK132.out 0).trans rfl, (bce BK132.out 1).trans rfl⟩ (fun hHeld => ?_)
    clear hK K
    refine norm_ (a' := ?_) ?_ ?_
    rotate_left
    ·show Act.put _ (some 26) _ = _
     simp only [Act.put, zsi, zcz, zcs, i64_w, i32_w]
     rfl
    refine pure_ (i := 6) (N := some 27) (v := ?_) (a' := ?_) #[true, true, true, true, true, true, true, false] rfl rfl (any_of HT_.out (by kernel_rfl)) (fun _ _ _ h => h) (Or.inl ⟨by rfl, ?_⟩) ?_ ?_
    rotate_left
    ·intro w'
     go_simp
     with_reducible rfl
    rotate_left
    ·simp only [Act.put, zsi, zcz, zcs, i64_w, i32_w]
     rfl
    refine pure_ (i := 7) (N := some 20) (v := ?_) (a' := ?_) #[true, true, true, true, true, true, true, true] rfl rfl (any_of HT_.out (by kernel_rfl)) (fun _ _ _ h => h) (Or.inl ⟨by rfl, ?_⟩) ?_ ?_
    rotate_left
    ·intro w'
     go_simp
     with_reducible rfl
    rotate_left
    ·simp only [Act.put, zsi, zcz, zcs, i64_w, i32_w]
     rfl
    refine done_ (done_of HT_.out (by kernel_rfl)) ?_
    have hcz33_0 : w32.cell? ⟨gb132, 0, none⟩ = some (.int .i64 a0_0) := (bce BK132.out 0).trans rfl
    have hcz33_1 : w32.cell? ⟨gb132, 1, none⟩ = some (.int .i64 a0_1) := (bce BK132.out 1).trans rfl
    have hfz33_0 := bkf BK132.out 0
    have hfz33_1 := bkf BK132.out 1
    try go_wp2_with (first | ((with_reducible refine gcl (f := 39) rfl ?_); refine goesL_ (some 34) rfl rfl Try.func39 (by kernel_rfl) rfl #[.agg #[.int .i64 a0_0, .int .i64 a0_1], .int .u64 a1] rfl (by (try simp only [zmt, zmc, zmn]); first | done | rfl) ?_; (with_reducible refine (ff_neg.calls a0_0 a0_1 a1 true _ A24.out).mono ?_); rintro e w34 ⟨rfl, hb⟩; refine ⟨_, rfl, ?_⟩; have n0_ := As0.mk (bkb (g := gb132) (o := .cells #[.int .i64 a0_0, .int .i64 a0_1] 43 (0, 0)) (by (with_reducible repeat (first | refine bkN ?_ _ | refine bkd ?_ | refine bka ?_ _)); exact BK132.out) hb); have n1_ := As0.mk (bst (by repeat (first | (with_reducible first | exact HB.out | apply bal | apply pwB_ | apply bd1 | refine bse ?_ GE132.out) | exact HB.out)) hb); clear BK132; clear HB; have BK132 := n0_; have HB := n1_; clear n0_ n1_; (try clear hb); (try clear hb2); (try clear hk); (try clear hi)))
    go_ret
    exact ⟨by first | rfl | (simp [*] <;> rfl), by repeat (first | (with_reducible first | exact HB.out | apply bal | apply pwB_ | apply bd1 | refine bse ?_ GE132.out) | exact HB.out)⟩
   ·replace c25 := Bool.eq_false_iff.mpr c25
    subst c25
    have H1 : (some (decide (t133 < t134))) = some r := by rw [if_neg (show ¬ (false = true) by decide)] at H; exact H
    clear H
    have H := H1
    clear H1
    obtain rfl := Option.some.inj H
    go_enter Try.func41, Try.ntmps41
    try go_wp2_with (first | ((with_reducible refine gate_dst (N := 3) rfl ?_); refine box_event ?hg (N := 3) ?hd (cs := #[.int .i64 a0_0, .int .i64 a0_1]) (t := 43) ?hr ?_; (case hd => rfl); (case hg => rfl); (case hr => first | (go_simp; done) | (go_simp; rfl)); intro gb132 hg w35 hbox hb; have n0_ := As0.mk (bst (by repeat (first | (with_reducible first | exact HB.out | apply bal | apply pwB_ | apply bd1) | exact HB.out)) hb); have n1_ := As0.mk (hbox); have n2_ := As0.mk ((by rw [hg]; exact (below_size (by repeat (first | (with_reducible first | exact HB.out | apply bal | apply pwB_ | apply bd1) | exact HB.out))) : w.heap.size ≤ gb132)); have n3_ := As0.mk ((by rw [hg]; exact (below_size (by repeat (first | (with_reducible first | exact HB.out | apply bal | apply pwB_ | apply bd1) | exact HB.out))) : w.heap.size ≤ gb132)); clear HB; have HB := n0_; have BK132 := n1_; have GW132 := n2_; have GE132 := n3_; clear n0_ n1_ n2_ n3_; clear hb hbox hg))
    have n0_ := As0.mk (bkd BK132.out)
    have n1_ := As0.mk (bd1 HB.out)
    clear BK132
    clear HB
    have BK132 := n0_
    have HB := n1_
    clear n0_ n1_
    refine start_ (n := 8) (S := fun w' => w'.cell? ⟨gb132, 0, none⟩ = some (.int .i64 a0_0) ∧ w'.cell? ⟨gb132, 1, none⟩ = some (.int .i64 a0_1)) (ds := []) #[false, false, false, false, false, false, false, false] (by kernel_rfl) rfl rfl ⟨(bce BK132.out 0).trans rfl, (bce BK132.out 1).trans rfl⟩ (fun hHeld => ?_); refine with_tabW ff_less.tab1 ff_less.bits1 (fun HT_ HW_ => ?_)
    generalize w35.drew = w36 at BK132 HB hHeld ⊢
    refine pure_ (i := 1) (N := some 10) (v := ?_) (a' := ?_) #[false, true, false, false, false, false, false, false] rfl rfl (any_of HT_.out (by kernel_rfl)) (fun _ _ _ h => h) (Or.inl ⟨by rfl, ?_⟩) ?_ ?_
    rotate_left
    ·intro w'
     go_simp
     with_reducible rfl
    rotate_left
    ·simp only [Act.put, zsi, zcz, zcs, i64_w, i32_w]
     rfl
    refine pure_ (i := 4) (N := some 13) (v := ?_) (a' := ?_) #[false, true, false, false, true, false, false, false] rfl rfl (any_of HT_.out (by kernel_rfl)) (fun _ _ _ h => h) (Or.inl ⟨by rfl, ?_⟩) ?_ ?_
    rotate_left
    ·intro w'
     go_simp
     with_reducible rfl
    rotate_left
    ·simp only [Act.put, zsi, zcz, zcs, i64_w, i32_w]
     rfl
    refine take_ (i := 0) (N := some 9) (v := ?_) (a' := ?_) #[true, true, false, false, true, false, false, false] rfl rfl (take_ofW HT_.out HW_.out (by kernel_rfl)) (fun _ _ _ h => h) (Or.inl ⟨by rfl, ?_⟩) hHeld ?_ ?_
    rotate_left
    ·rintro w' ⟨s0, s1⟩
     go_simp
     with_reducible rfl
    rotate_left
    ·simp only [Act.put, zsi, zcz, zcs, i64_w, i32_w]
     rfl
    refine take_ (i := 3) (N := some 12) (v := ?_) (a' := ?_) #[true, true, false, true, true, false, false, false] rfl rfl (take_ofW HT_.out HW_.out (by kernel_rfl)) (fun _ _ _ h => h) (Or.inl ⟨by rfl, ?_⟩) hHeld ?_ ?_
    rotate_left
    ·rintro w' ⟨s0, s1⟩
     go_simp
     with_reducible rfl
    rotate_left
    ·simp only [Act.put, zsi, zcz, zcs, i64_w, i32_w]
     rfl
    refine one_ (i := 2) (N := some 11) #[true, true, true, true, true, false, false, false] rfl rfl (one_of HT_.out (by kernel_rfl)) (by decide) (fun K hK => ?_)
    refine goes_ Try.func40 (by kernel_rfl) rfl #[.agg #[.int .i64 a0_0, .int .i64 a0_1], .int .u64 a1] (by rfl) rfl rfl (by (try simp only [zmt, zmc, zmn]); first | done | rfl) ?_
    with_reducible refine (ff_size.calls a0_0 a0_1 a1 t133 _ A4.out).mono ?_
    rintro e w37 ⟨rfl, hb⟩
    refine ⟨_, rfl, ?_⟩
    have n0_ := As0.mk (bkb (g := gb132) (o := .cells #[.int .i64 a0_0, .int .i64 a0_1] 43 (0, 0)) (by (with_reducible repeat (first | refine bkN ?_ _ | refine bkd ?_ | refine bka ?_ _)); exact BK132.out) hb)
    have n1_ := As0.mk (bst (by repeat (first | (with_reducible first | exact HB.out | apply bal | apply pwB_ | apply bd1 | refine bse ?_ GE132.out) | exact HB.out)) hb)
    clear BK132
    clear HB
    have BK132 := n0_
    have HB := n1_
    clear n0_ n1_
    (try clear hb)
    (try clear hb2)
    (try clear hk)
    (try clear hi)
    refine hK.out _ _ ⟨(bce BK132.out 0).trans rfl, (bce BK132.out 1).trans rfl⟩ (fun hHeld => ?_)
    clear hK K
    refine norm_ (a' := ?_) ?_ ?_
    rotate_left
    ·show Act.put _ (some 11) _ = _
     simp only [Act.put, zsi, zcz, zcs, i64_w, i32_w]
     rfl
    refine one_ (i := 5) (N := some 14) #[true, true, true, true, true, true, false, false] rfl rfl (one_of HT_.out (by kernel_rfl)) (by decide) (fun K hK => ?_)
    refine goes_ Try.func40 (by kernel_rfl) rfl #[.agg #[.int .i64 a0_0, .int .i64 a0_1], .int .u64 a2] (by rfl) rfl rfl (by (try simp only [zmt, zmc, zmn]); first | done | rfl) ?_
    with_reducible refine (ff_size.calls a0_0 a0_1 a2 t134 _ A5.out).mono ?_
    rintro e w38 ⟨rfl, hb⟩
    refine ⟨_, rfl, ?_⟩
    have n0_ := As0.mk (bkb (g := gb132) (o := .cells #[.int .i64 a0_0, .int .i64 a0_1] 43 (0, 0)) (by (with_reducible repeat (first | refine bkN ?_ _ | refine bkd ?_ | refine bka ?_ _)); exact BK132.out) hb)
    have n1_ := As0.mk (bst (by repeat (first | (with_reducible first | exact HB.out | apply bal | apply pwB_ | apply bd1 | refine bse ?_ GE132.out) | exact HB.out)) hb)
    clear BK132
    clear HB
    have BK132 := n0_
    have HB := n1_
    clear n0_ n1_
    (try clear hb)
    (try clear hb2)
    (try clear hk)
    (try clear hi)
    refine hK.out _ _ ⟨(bce BK132.out 0).trans rfl, (bce BK132.out 1).trans rfl⟩ (fun hHeld => ?_)
    clear hK K
    refine norm_ (a' := ?_) ?_ ?_
    rotate_left
    ·show Act.put _ (some 14) _ = _
     simp only [Act.put, zsi, zcz, zcs, i64_w, i32_w]
     rfl
    refine pure_ (i := 6) (N := some 7) (v := ?_) (a' := ?_) #[true, true, true, true, true, true, true, false] rfl rfl (any_of HT_.out (by kernel_rfl)) (fun _ _ _ h => h) (Or.inl ⟨by rfl, ?_⟩) ?_ ?_
    rotate_left
    ·intro w'
     go_simp
     with_reducible rfl
    rotate_left
    ·simp only [Act.put, zsi, zcz, zcs, i64_w, i32_w]
     rfl
    refine pure_ (i := 7) (N := some 8) (v := ?_) (a' := ?_) #[true, true, true, true, true, true, true, true] rfl rfl (any_of HT_.out (by kernel_rfl)) (fun _ _ _ h => h) (Or.inl ⟨by rfl, ?_⟩) ?_ ?_
    rotate_left
    ·intro w'
     go_simp
     with_reducible rfl
    rotate_left
    ·simp only [Act.put, zsi, zcz, zcs, i64_w, i32_w]
     rfl
    refine done_ (done_of HT_.out (by kernel_rfl)) ?_
    try go_wp2
    have n0_ := As0.mk (bkd BK132.out)
    have n1_ := As0.mk (bd1 HB.out)
    clear BK132
    clear HB
    have BK132 := n0_
    have HB := n1_
    clear n0_ n1_
    refine start_ (n := 8) (S := fun w' => w'.cell? ⟨gb132, 0, none⟩ = some (.int .i64 a0_0) ∧ w'.cell? ⟨gb132, 1, none⟩ = some (.int .i64 a0_1)) (ds := []) #[false, false, false, false, false, false, false, false] (by kernel_rfl) rfl rfl ⟨(bce BK132.out 0).trans rfl, (bce BK132.out 1).trans rfl⟩ (fun hHeld => ?_); refine with_tabW ff_less.tab4 ff_less.bits4 (fun HT_ HW_ => ?_)
    generalize w38.drew = w39 at BK132 HB hHeld ⊢
    refine pure_ (i := 1) (N := some 22) (v := ?_) (a' := ?_) #[false, true, false, false, false, false, false, false] rfl rfl (any_of HT_.out (by kernel_rfl)) (fun _ _ _ h => h) (Or.inl ⟨by rfl, ?_⟩) ?_ ?_
    rotate_left
    ·intro w'
     go_simp
     with_reducible rfl
    rotate_left
    ·simp only [Act.put, zsi, zcz, zcs, i64_w, i32_w]
     rfl
    refine pure_ (i := 4) (N := some 25) (v := ?_) (a' := ?_) #[false, true, false, false, true, false, false, false] rfl rfl (any_of HT_.out (by kernel_rfl)) (fun _ _ _ h => h) (Or.inl ⟨by rfl, ?_⟩) ?_ ?_
    rotate_left
    ·intro w'
     go_simp
     with_reducible rfl
    rotate_left
    ·simp only [Act.put, zsi, zcz, zcs, i64_w, i32_w]
     rfl
    refine take_ (i := 0) (N := some 21) (v := ?_) (a' := ?_) #[true, true, false, false, true, false, false, false] rfl rfl (take_ofW HT_.out HW_.out (by kernel_rfl)) (fun _ _ _ h => h) (Or.inl ⟨by rfl, ?_⟩) hHeld ?_ ?_
    rotate_left
    ·rintro w' ⟨s0, s1⟩
     go_simp
     with_reducible rfl
    rotate_left
    ·simp only [Act.put, zsi, zcz, zcs, i64_w, i32_w]
     rfl
    refine take_ (i := 3) (N := some 24) (v := ?_) (a' := ?_) #[true, true, false, true, true, false, false, false] rfl rfl (take_ofW HT_.out HW_.out (by kernel_rfl)) (fun _ _ _ h => h) (Or.inl ⟨by rfl, ?_⟩) hHeld ?_ ?_
    rotate_left
    ·rintro w' ⟨s0, s1⟩
     go_simp
     with_reducible rfl
    rotate_left
    ·simp only [Act.put, zsi, zcz, zcs, i64_w, i32_w]
     rfl
    refine one_ (i := 2) (N := some 23) #[true, true, true, true, true, false, false, false] rfl rfl (one_of HT_.out (by kernel_rfl)) (by decide) (fun K hK => ?_)
    refine goes_ Try.func39 (by kernel_rfl) rfl #[.agg #[.int .i64 a0_0, .int .i64 a0_1], .int .u64 a1] (by rfl) rfl rfl (by (try simp only [zmt, zmc, zmn]); first | done | rfl) ?_
    with_reducible refine (ff_neg.calls a0_0 a0_1 a1 t135 _ A11.out).mono ?_
    rintro e w40 ⟨rfl, hb⟩
    refine ⟨_, rfl, ?_⟩
    have n0_ := As0.mk (bkb (g := gb132) (o := .cells #[.int .i64 a0_0, .int .i64 a0_1] 43 (0, 0)) (by (with_reducible repeat (first | refine bkN ?_ _ | refine bkd ?_ | refine bka ?_ _)); exact BK132.out) hb)
    have n1_ := As0.mk (bst (by repeat (first | (with_reducible first | exact HB.out | apply bal | apply pwB_ | apply bd1 | refine bse ?_ GE132.out) | exact HB.out)) hb)
    clear BK132
    clear HB
    have BK132 := n0_
    have HB := n1_
    clear n0_ n1_
    (try clear hb)
    (try clear hb2)
    (try clear hk)
    (try clear hi)
    refine hK.out _ _ ⟨(bce BK132.out 0).trans rfl, (bce BK132.out 1).trans rfl⟩ (fun hHeld => ?_)
    clear hK K
    refine norm_ (a' := ?_) ?_ ?_
    rotate_left
    ·show Act.put _ (some 23) _ = _
     simp only [Act.put, zsi, zcz, zcs, i64_w, i32_w]
     rfl
    refine one_ (i := 5) (N := some 26) #[true, true, true, true, true, true, false, false] rfl rfl (one_of HT_.out (by kernel_rfl)) (by decide) (fun K hK => ?_)
    refine goes_ Try.func39 (by kernel_rfl) rfl #[.agg #[.int .i64 a0_0, .int .i64 a0_1], .int .u64 a2] (by rfl) rfl rfl (by (try simp only [zmt, zmc, zmn]); first | done | rfl) ?_
    with_reducible refine (ff_neg.calls a0_0 a0_1 a2 t136 _ A12.out).mono ?_
    rintro e w41 ⟨rfl, hb⟩
    refine ⟨_, rfl, ?_⟩
    have n0_ := As0.mk (bkb (g := gb132) (o := .cells #[.int .i64 a0_0, .int .i64 a0_1] 43 (0, 0)) (by (with_reducible repeat (first | refine bkN ?_ _ | refine bkd ?_ | refine bka ?_ _)); exact BK132.out) hb)
    have n1_ := As0.mk (bst (by repeat (first | (with_reducible first | exact HB.out | apply bal | apply pwB_ | apply bd1 | refine bse ?_ GE132.out) | exact HB.out)) hb)
    clear BK132
    clear HB
    have BK132 := n0_
    have HB := n1_
    clear n0_ n1_
    (try clear hb)
    (try clear hb2)
    (try clear hk)
    (try clear hi)
    refine hK.out _ _ ⟨(bce BK132.out 0).trans rfl, (bce BK132.out 1).trans rfl⟩ (fun hHeld => ?_)
    clear hK K
    refine norm_ (a' := ?_) ?_ ?_
    rotate_left
    ·show Act.put _ (some 26) _ = _
     simp only [Act.put, zsi, zcz, zcs, i64_w, i32_w]
     rfl
    refine pure_ (i := 6) (N := some 27) (v := ?_) (a' := ?_) #[true, true, true, true, true, true, true, false] rfl rfl (any_of HT_.out (by kernel_rfl)) (fun _ _ _ h => h) (Or.inl ⟨by rfl, ?_⟩) ?_ ?_
    rotate_left
    ·intro w'
     go_simp
     with_reducible rfl
    rotate_left
    ·simp only [Act.put, zsi, zcz, zcs, i64_w, i32_w]
     rfl
    refine pure_ (i := 7) (N := some 20) (v := ?_) (a' := ?_) #[true, true, true, true, true, true, true, true] rfl rfl (any_of HT_.out (by kernel_rfl)) (fun _ _ _ h => h) (Or.inl ⟨by rfl, ?_⟩) ?_ ?_
    rotate_left
    ·intro w'
     go_simp
     with_reducible rfl
    rotate_left
    ·simp only [Act.put, zsi, zcz, zcs, i64_w, i32_w]
     rfl
    refine done_ (done_of HT_.out (by kernel_rfl)) ?_
    have hcz42_0 : w41.cell? ⟨gb132, 0, none⟩ = some (.int .i64 a0_0) := (bce BK132.out 0).trans rfl
    have hcz42_1 : w41.cell? ⟨gb132, 1, none⟩ = some (.int .i64 a0_1) := (bce BK132.out 1).trans rfl
    have hfz42_0 := bkf BK132.out 0
    have hfz42_1 := bkf BK132.out 1
    try go_wp2_with (first | ((with_reducible refine gcl (f := 39) rfl ?_); refine goesL_ (some 34) rfl rfl Try.func39 (by kernel_rfl) rfl #[.agg #[.int .i64 a0_0, .int .i64 a0_1], .int .u64 a1] rfl (by (try simp only [zmt, zmc, zmn]); first | done | rfl) ?_; (with_reducible refine (ff_neg.calls a0_0 a0_1 a1 false _ A24.out).mono ?_); rintro e w43 ⟨rfl, hb⟩; refine ⟨_, rfl, ?_⟩; have n0_ := As0.mk (bkb (g := gb132) (o := .cells #[.int .i64 a0_0, .int .i64 a0_1] 43 (0, 0)) (by (with_reducible repeat (first | refine bkN ?_ _ | refine bkd ?_ | refine bka ?_ _)); exact BK132.out) hb); have n1_ := As0.mk (bst (by repeat (first | (with_reducible first | exact HB.out | apply bal | apply pwB_ | apply bd1 | refine bse ?_ GE132.out) | exact HB.out)) hb); clear BK132; clear HB; have BK132 := n0_; have HB := n1_; clear n0_ n1_; (try clear hb); (try clear hb2); (try clear hk); (try clear hi)))
    go_ret
    exact ⟨by first | rfl | (simp [*] <;> rfl), by repeat (first | (with_reducible first | exact HB.out | apply bal | apply pwB_ | apply bd1 | refine bse ?_ GE132.out) | exact HB.out)⟩
end Go.Proofs.Ytjfmomogidgbpaa.PFl
namespace Go.Proofs.Ytjfmomogidgbpaa.PFl
open Go.RowKit Go.Proofs.YtjfmomogidgbpaaW.PrintWords Go.Proofs.YtjfmomogidgbpaaW.PrintLast Go.Proofs.YtjfmomogidgbpaaW.PrintMore
attribute [local go_sem] max2_int min2_int max_two min_two max_three min_three max_four min_four
set_option linter.unusedVariables false
set_option linter.unusedSimpArgs false
def ff_nan.f (a0_0 : Int) (a0_1 : Int) : Option (Int) := (ff_infinity.f a0_0 a0_1).bind fun t140 => (if 0 ≤ (IntKind.u64.wrap (wrap64 (a0_0 - 1))) then (some (Go.bits .or .u64 t140 (shl .u64 1 (IntKind.u64.wrap (wrap64 (a0_0 - 1)))))) else (none))
def ff_nan.T1 : Bool × List (List Nat × List Nat) := (true, [([], []), ([0], [0]), ([], []), ([2], [2]), ([3], [3]), ([4], [4]), ([5], [5]), ([1, 6], [1, 6]), ([7, 1, 0, 1, 2, 3, 4, 5, 6, 7], [7])])
def ff_nan.B1 : List Nat := [0, 1, 0, 4, 12, 28, 60, 127, 255]
theorem ff_nan.tab1 : rtab .any (opsOf Try.f42 1) = ff_nan.T1 := by kernel_rfl
theorem ff_nan.bits1 : waitsOk ff_nan.T1.2 ff_nan.B1 = true := by kernel_rfl
set_option maxHeartbeats 8000000 in
set_option maxRecDepth 100000 in
theorem ff_nan.calls (a0_0 : Int) (a0_1 : Int) (r : Int) (w : World) (h : ff_nan.f a0_0 a0_1 = some r) :
  Calls Try.prog 42 #[.agg #[.int .i64 a0_0, .int .i64 a0_1]] w fun e w' => e = .returned (.int .u64 r) ∧ Below w.heap.size w w' := by
 have hu43 := Try.underlying43
 have HB := As0.mk (Below.refl w.heap.size w)
 have H : ((ff_infinity.f a0_0 a0_1).bind fun t140 => (if 0 ≤ (IntKind.u64.wrap (wrap64 (a0_0 - 1))) then (some (Go.bits .or .u64 t140 (shl .u64 1 (IntKind.u64.wrap (wrap64 (a0_0 - 1)))))) else (none))) = some r := h
 clear h
 replace H := zob H
 obtain ⟨t140, A20, H⟩ := H
 replace H : (if 0 ≤ (IntKind.u64.wrap (wrap64 (a0_0 - 1))) then (some (Go.bits .or .u64 t140 (shl .u64 1 (IntKind.u64.wrap (wrap64 (a0_0 - 1)))))) else (none)) = some r := H
 have A2 := As0.mk A20
 clear A20
 obtain ⟨ji3, hji3⟩ : ∃ j_ : Int, (IntKind.u64.wrap (wrap64 (a0_0 - 1))) = j_ := ⟨_, rfl⟩
 replace H : (if 0 ≤ (ji3) then (some (Go.bits .or .u64 t140 (shl .u64 1 (ji3)))) else (none)) = some r := by first | (rw [hji3] at H; exact H) | (simp only [hji3] at H ⊢; exact H)
 (try rw [hji3] at A2)
 by_cases c4 : 0 ≤ (ji3)
 ·rw [if_pos c4] at H
  have c4b0 := eq_true c4
  have c4b1 : decide (0 ≤ (ji3)) = true := decide_eq_true c4
  clear c4
  obtain ⟨ji5, hji5⟩ : ∃ j_ : Int, (shl .u64 1 (ji3)) = j_ := ⟨_, rfl⟩
  replace H : (some (Go.bits .or .u64 t140 (ji5))) = some r := by first | (rw [hji5] at H; exact H) | (simp only [hji5] at H ⊢; exact H)
  (try rw [hji5] at A2)
  have hji5_ : (IntKind.u64.wrap (1 * 2 ^ min (ji3).toNat 64)) = ji5 := hji5
  have hji5z : (ji3) ≤ 64 → (IntKind.u64.wrap (1 * 2 ^ (ji3).toNat)) = ji5 := shl_small hji5
  have hji5u : (IntKind.u64.wrap (2 ^ min (ji3).toNat 64)) = ji5 := by have h_ := hji5_; rw [Int.one_mul] at h_; exact h_
  have hji5v : (ji3) ≤ 64 → (IntKind.u64.wrap (2 ^ (ji3).toNat)) = ji5 := fun hle_ => by have h_ := hji5z hle_; rw [Int.one_mul] at h_; exact h_
  obtain rfl := Option.some.inj H
  go_enter Try.func42, Try.ntmps42
  try go_wp2_with (first | ((with_reducible refine gate_dst (N := 1) rfl ?_); refine box_event ?hg (N := 1) ?hd (cs := #[.int .i64 a0_0, .int .i64 a0_1]) (t := 43) ?hr ?_; (case hd => rfl); (case hg => rfl); (case hr => first | (go_simp; done) | (go_simp; rfl)); intro gb139 hg w6 hbox hb; have n0_ := As0.mk (bst (by repeat (first | (with_reducible first | exact HB.out | apply bal | apply pwB_ | apply bd1) | exact HB.out)) hb); have n1_ := As0.mk (hbox); have n2_ := As0.mk ((by rw [hg]; exact (below_size (by repeat (first | (with_reducible first | exact HB.out | apply bal | apply pwB_ | apply bd1) | exact HB.out))) : w.heap.size ≤ gb139)); have n3_ := As0.mk ((by rw [hg]; exact (below_size (by repeat (first | (with_reducible first | exact HB.out | apply bal | apply pwB_ | apply bd1) | exact HB.out))) : w.heap.size ≤ gb139)); clear HB; have HB := n0_; have BK139 := n1_; have GW139 := n2_; have GE139 := n3_; clear n0_ n1_ n2_ n3_; clear hb hbox hg))
  have n0_ := As0.mk (bkd BK139.out)
  have n1_ := As0.mk (bd1 HB.out)
  clear BK139
  clear HB
  have BK139 := n0_
  have HB := n1_
  clear n0_ n1_
  refine start_ (n := 9) (S := fun w' => w'.cell? ⟨gb139, 0, none⟩ = some (.int .i64 a0_0) ∧ w'.cell? ⟨gb139, 1, none⟩ = some (.int .i64 a0_1)) (ds := []) #[false, false, false, false, false, false, false, false, false] (by kernel_rfl) rfl rfl ⟨(bce BK139.out 0).trans rfl, (bce BK139.out 1).trans rfl⟩ (fun hHeld => ?_); refine with_tabW ff_nan.tab1 ff_nan.bits1 (fun HT_ HW_ => ?_)
  generalize w6.drew = w7 at BK139 HB hHeld ⊢
  refine pure_ (i := 2) (N := some 5) (v := ?_) (a' := ?_) #[false, false, true, false, false, false, false, false, false] rfl rfl (any_of HT_.out (by kernel_rfl)) (fun _ _ _ h => h) (Or.inl ⟨by rfl, ?_⟩) ?_ ?_
  rotate_left
  ·intro w'
   go_simp
   with_reducible rfl
  rotate_left
  ·simp only [Act.put, zsi, zcz, zcs, i64_w, i32_w]
   rfl
  refine take_ (i := 0) (N := some 3) (v := ?_) (a' := ?_) #[true, false, true, false, false, false, false, false, false] rfl rfl (take_ofW HT_.out HW_.out (by kernel_rfl)) (fun _ _ _ h => h) (Or.inl ⟨by rfl, ?_⟩) hHeld ?_ ?_
  rotate_left
  ·rintro w' ⟨s0, s1⟩
   go_simp
   with_reducible rfl
  rotate_left
  ·simp only [Act.put, zsi, zcz, zcs, i64_w, i32_w]
   rfl
  refine take_ (i := 3) (N := some 6) (v := ?_) (a' := ?_) #[true, false, true, true, false, false, false, false, false] rfl rfl (take_ofW HT_.out HW_.out (by kernel_rfl)) (fun _ _ _ h => h) (Or.inl ⟨by rfl, ?_⟩) hHeld ?_ ?_
  rotate_left
  ·rintro w' ⟨s0, s1⟩
   go_simp
   with_reducible rfl
  rotate_left
  ·simp only [Act.put, zsi, zcz, zcs, i64_w, i32_w]
   rfl
  refine pure_ (i := 4) (N := some 7) (v := ?_) (a' := ?_) #[true, false, true, true, true, false, false, false, false] rfl rfl (any_of HT_.out (by kernel_rfl)) (fun _ _ _ h => h) (Or.inl ⟨by rfl, ?_⟩) ?_ ?_
  rotate_left
  ·intro w'
   go_simp
   with_reducible rfl
  rotate_left
  ·simp only [Act.put, zsi, zcz, zcs, i64_w, i32_w]
   rfl
  refine pure_ (i := 5) (N := some 8) (v := ?_) (a' := ?_) #[true, false, true, true, true, true, false, false, false] rfl rfl (any_of HT_.out (by kernel_rfl)) (fun _ _ _ h => h) (Or.inl ⟨by rfl, ?_⟩) ?_ ?_
  rotate_left
  ·intro w'
   go_simp
   with_reducible rfl
  rotate_left
  ·simp only [Act.put, zsi, zcz, zcs, i64_w, i32_w]
   rfl
  refine pure_ (i := 6) (N := some 9) (v := ?_) (a' := ?_) #[true, false, true, true, true, true, true, false, false] rfl rfl (any_of HT_.out (by kernel_rfl)) (fun _ _ _ h => h) (Or.inl ⟨by rfl, ?_⟩) ?_ ?_
  rotate_left
  ·intro w'
   go_simp
   with_reducible rfl
  rotate_left
  ·simp only [Act.put, zsi, zcz, zcs, i64_w, i32_w]
   rfl
  refine one_ (i := 1) (N := some 4) #[true, true, true, true, true, true, true, false, false] rfl rfl (one_of HT_.out (by kernel_rfl)) (by decide) (fun K hK => ?_)
  refine goes_ Try.func50 (by kernel_rfl) rfl #[.agg #[.int .i64 a0_0, .int .i64 a0_1]] (by rfl) rfl rfl (by (try simp only [zmt, zmc, zmn]); first | done | rfl) ?_
  with_reducible refine (ff_infinity.calls a0_0 a0_1 t140 _ A2.out).mono ?_
  rintro e w8 ⟨rfl, hb⟩
  refine ⟨_, rfl, ?_⟩
  have n0_ := As0.mk (bkb (g := gb139) (o := .cells #[.int .i64 a0_0, .int .i64 a0_1] 43 (0, 0)) (by (with_reducible repeat (first | refine bkN ?_ _ | refine bkd ?_ | refine bka ?_ _)); exact BK139.out) hb)
  have n1_ := As0.mk (bst (by repeat (first | (with_reducible first | exact HB.out | apply bal | apply pwB_ | apply bd1 | refine bse ?_ GE139.out) | exact HB.out)) hb)
  clear BK139
  clear HB
  have BK139 := n0_
  have HB := n1_
  clear n0_ n1_
  (try clear hb)
  (try clear hb2)
  (try clear hk)
  (try clear hi)
  refine hK.out _ _ ⟨(bce BK139.out 0).trans rfl, (bce BK139.out 1).trans rfl⟩ (fun hHeld => ?_)
  clear hK K
  refine norm_ (a' := ?_) ?_ ?_
  rotate_left
  ·show Act.put _ (some 4) _ = _
   simp only [Act.put, zsi, zcz, zcs, i64_w, i32_w]
   rfl
  refine pure_ (i := 7) (N := some 10) (v := ?_) (a' := ?_) #[true, true, true, true, true, true, true, true, false] rfl rfl (any_of HT_.out (by kernel_rfl)) (fun _ _ _ h => h) (Or.inl ⟨by rfl, ?_⟩) ?_ ?_
  rotate_left
  ·intro w'
   go_simp
   with_reducible rfl
  rotate_left
  ·simp only [Act.put, zsi, zcz, zcs, i64_w, i32_w]
   rfl
  refine pure_ (i := 8) (N := some 2) (v := ?_) (a' := ?_) #[true, true, true, true, true, true, true, true, true] rfl rfl (any_of HT_.out (by kernel_rfl)) (fun _ _ _ h => h) (Or.inl ⟨by rfl, ?_⟩) ?_ ?_
  rotate_left
  ·intro w'
   go_simp
   with_reducible rfl
  rotate_left
  ·simp only [Act.put, zsi, zcz, zcs, i64_w, i32_w]
   rfl
  refine done_ (done_of HT_.out (by kernel_rfl)) ?_
  try go_wp2
  go_ret
  exact ⟨by first | rfl | (simp only [← hji3, ← hji5]; first | rfl) | (simp [*] <;> rfl), by repeat (first | (with_reducible first | exact HB.out | apply bal | apply pwB_ | apply bd1 | refine bse ?_ GE139.out) | exact HB.out)⟩
 ·rw [if_neg c4] at H
  exact absurd H (by simp)
def ff_parts.f (a0_0 : Int) (a0_1 : Int) (a1 : Int) : Option (Int × Int) := (ff_size.f a0_0 a0_1 a1).bind fun t142 => (if 0 ≤ (IntKind.u64.wrap (a0_0)) then (if (wrap64 (shr .u64 t142 (IntKind.u64.wrap (a0_0)))) = 0 then ((ff_least.f a0_0 a0_1).bind fun t143 => (some (Go.bits .and .u64 t142 (IntKind.u64.wrap ((shl .u64 1 (IntKind.u64.wrap (a0_0))) - 1)), t143))) else ((ff_least.f a0_0 a0_1).bind fun t144 => (some (Go.bits .or .u64 (Go.bits .and .u64 t142 (IntKind.u64.wrap ((shl .u64 1 (IntKind.u64.wrap (a0_0))) - 1))) (shl .u64 1 (IntKind.u64.wrap (a0_0))), wrap64 ((wrap64 (t144 + (wrap64 (shr .u64 t142 (IntKind.u64.wrap (a0_0)))))) - 1))))) else (none))
def ff_parts.T6 : Bool × List (List Nat × List Nat) := (true, [([], []), ([], []), ([1], [1]), ([2], [2]), ([3], [3]), ([0, 4], [0, 4]), ([], []), ([6], [6]), ([], []), ([7, 8], [7, 8]), ([9], [9]), ([5, 7, 0, 1, 2, 3, 4, 5], [5]), ([10, 11, 0, 1, 2, 3, 4, 5, 6, 7, 8, 9, 10, 11], [10])])
def ff_parts.B6 : List Nat := [0, 0, 2, 6, 14, 31, 0, 64, 0, 448, 960, 255, 4095]
theorem ff_parts.tab6 : rtab .any (opsOf Try.f57 6) = ff_parts.T6 := by kernel_rfl
theorem ff_parts.bits6 : waitsOk ff_parts.T6.2 ff_parts.B6 = true := by kernel_rfl
set_option maxHeartbeats 8000000 in
set_option maxRecDepth 100000 in
theorem ff_parts.calls (a0_0 : Int) (a0_1 : Int) (a1 : Int) (r1 : Int) (r2 : Int) (w : World) (h : ff_parts.f a0_0 a0_1 a1 = some (r1, r2)) :
  Calls Try.prog 57 #[.agg #[.int .i64 a0_0, .int .i64 a0_1], .int .u64 a1] w fun e w' => e = .returned (.tuple #[.int .u64 r1, .int .i64 r2]) ∧ Below w.heap.size w w' := by
 have hu43 := Try.underlying43
 have HB := As0.mk (Below.refl w.heap.size w)
 have H : ((ff_size.f a0_0 a0_1 a1).bind fun t142 => (if 0 ≤ (IntKind.u64.wrap (a0_0)) then (if (wrap64 (shr .u64 t142 (IntKind.u64.wrap (a0_0)))) = 0 then ((ff_least.f a0_0 a0_1).bind fun t143 => (some (Go.bits .and .u64 t142 (IntKind.u64.wrap ((shl .u64 1 (IntKind.u64.wrap (a0_0))) - 1)), t143))) else ((ff_least.f a0_0 a0_1).bind fun t144 => (some (Go.bits .or .u64 (Go.bits .and .u64 t142 (IntKind.u64.wrap ((shl .u64 1 (IntKind.u64.wrap (a0_0))) - 1))) (shl .u64 1 (IntKind.u64.wrap (a0_0))), wrap64 ((wrap64 (t144 + (wrap64 (shr .u64 t142 (IntKind.u64.wrap (a0_0)))))) - 1))))) else (none))) = some (r1, r2) := h
 clear h
 replace H := zob H
 obtain ⟨t142, A30, H⟩ := H
 replace H : (if 0 ≤ (IntKind.u64.wrap (a0_0)) then (if (wrap64 (shr .u64 t142 (IntKind.u64.wrap (a0_0)))) = 0 then ((ff_least.f a0_0 a0_1).bind fun t143 => (some (Go.bits .and .u64 t142 (IntKind.u64.wrap ((shl .u64 1 (IntKind.u64.wrap (a0_0))) - 1)), t143))) else ((ff_least.f a0_0 a0_1).bind fun t144 => (some (Go.bits .or .u64 (Go.bits .and .u64 t142 (IntKind.u64.wrap ((shl .u64 1 (IntKind.u64.wrap (a0_0))) - 1))) (shl .u64 1 (IntKind.u64.wrap (a0_0))), wrap64 ((wrap64 (t144 + (wrap64 (shr .u64 t142 (IntKind.u64.wrap (a0_0)))))) - 1))))) else (none)) = some (r1, r2) := H
 have A3 := As0.mk A30
 clear A30
 obtain ⟨ji4, hji4⟩ : ∃ j_ : Int, (IntKind.u64.wrap (a0_0)) = j_ := ⟨_, rfl⟩
 replace H : (if 0 ≤ (ji4) then (if (wrap64 (shr .u64 t142 (ji4))) = 0 then ((ff_least.f a0_0 a0_1).bind fun t143 => (some (Go.bits .and .u64 t142 (IntKind.u64.wrap ((shl .u64 1 (ji4)) - 1)), t143))) else ((ff_least.f a0_0 a0_1).bind fun t144 => (some (Go.bits .or .u64 (Go.bits .and .u64 t142 (IntKind.u64.wrap ((shl .u64 1 (ji4)) - 1))) (shl .u64 1 (ji4)), wrap64 ((wrap64 (t144 + (wrap64 (shr .u64 t142 (ji4))))) - 1))))) else (none)) = some (r1, r2) := by first | (rw [hji4] at H; exact H) | (simp only [hji4] at H ⊢; exact H)
 (try rw [hji4] at A3)
 by_cases c5 : 0 ≤ (ji4)
 ·rw [if_pos c5] at H
  have c5b0 := eq_true c5
  have c5b1 : decide (0 ≤ (ji4)) = true := decide_eq_true c5
  clear c5
  obtain ⟨ji6, hji6⟩ : ∃ j_ : Int, (shr .u64 t142 (ji4)) = j_ := ⟨_, rfl⟩
  replace H : (if (wrap64 (ji6)) = 0 then ((ff_least.f a0_0 a0_1).bind fun t143 => (some (Go.bits .and .u64 t142 (IntKind.u64.wrap ((shl .u64 1 (ji4)) - 1)), t143))) else ((ff_least.f a0_0 a0_1).bind fun t144 => (some (Go.bits .or .u64 (Go.bits .and .u64 t142 (IntKind.u64.wrap ((shl .u64 1 (ji4)) - 1))) (shl .u64 1 (ji4)), wrap64 ((wrap64 (t144 + (wrap64 (ji6)))) - 1))))) = some (r1, r2) := by first | (rw [hji6] at H; exact H) | (simp only [hji6] at H ⊢; exact H)
  (try rw [hji6] at A3)
  have hji6_ : (t142 / 2 ^ min (ji4).toNat 64) = ji6 := hji6
  have hji6z : (ji4) ≤ 64 → (t142 / 2 ^ (ji4).toNat) = ji6 := shr_small hji6
  have c7b0 := eq_true (of_decide_eq_true (by first | (with_reducible assumption) | assumption) : 0 ≤ (ji4))
  obtain ⟨ji8, hji8⟩ : ∃ j_ : Int, (shl .u64 1 (ji4)) = j_ := ⟨_, rfl⟩
  replace H : (if (wrap64 (ji6)) = 0 then ((ff_least.f a0_0 a0_1).bind fun t143 => (some (Go.bits .and .u64 t142 (IntKind.u64.wrap ((ji8) - 1)), t143))) else ((ff_least.f a0_0 a0_1).bind fun t144 => (some (Go.bits .or .u64 (Go.bits .and .u64 t142 (IntKind.u64.wrap ((ji8) - 1))) (ji8), wrap64 ((wrap64 (t144 + (wrap64 (ji6)))) - 1))))) = some (r1, r2) := by first | (rw [hji8] at H; exact H) | (simp only [hji8] at H ⊢; exact H)
  (try rw [hji8] at A3)
  have hji8_ : (IntKind.u64.wrap (1 * 2 ^ min (ji4).toNat 64)) = ji8 := hji8
  have hji8z : (ji4) ≤ 64 → (IntKind.u64.wrap (1 * 2 ^ (ji4).toNat)) = ji8 := shl_small hji8
  have hji8u : (IntKind.u64.wrap (2 ^ min (ji4).toNat 64)) = ji8 := by have h_ := hji8_; rw [Int.one_mul] at h_; exact h_
  have hji8v : (ji4) ≤ 64 → (IntKind.u64.wrap (2 ^ (ji4).toNat)) = ji8 := fun hle_ => by have h_ := hji8z hle_; rw [Int.one_mul] at h_; exact h_
  by_cases c9 : (wrap64 (ji6)) = 0
  ·rw [if_pos c9] at H
   have c9b0 : ((wrap64 (ji6)) == 0) = true := beq_iff_eq.mpr c9
   have c9b1 : ((wrap64 (ji6)) != 0) = false := bne_eq_false_iff_eq.mpr c9
   clear c9
   replace H := zob H
   obtain ⟨t143, A100, H⟩ := H
   replace H : (some (Go.bits .and .u64 t142 (IntKind.u64.wrap ((ji8) - 1)), t143)) = some (r1, r2) := H
   have A10 := As0.mk A100
   clear A100
   simp only [Option.some.injEq, Prod.mk.injEq] at H
   obtain ⟨rfl, rfl⟩ := H
   go_enter Try.func57, Try.ntmps57
   go_wp2_with (first | ((with_reducible refine gate_dst (N := 2) rfl ?_); refine box_event ?hg (N := 2) ?hd (cs := #[.int .i64 a0_0, .int .i64 a0_1]) (t := 43) ?hr ?_; (case hd => rfl); (case hg => rfl); (case hr => first | (go_simp; done) | (go_simp; rfl)); intro gb141 hg w11 hbox hb; have n0_ := As0.mk (bst (by repeat (first | (with_reducible first | exact HB.out | apply bal | apply pwB_ | apply bd1) | exact HB.out)) hb); have n1_ := As0.mk (hbox); have n2_ := As0.mk ((by rw [hg]; exact (below_size (by repeat (first | (with_reducible first | exact HB.out | apply bal | apply pwB_ | apply bd1) | exact HB.out))) : w.heap.size ≤ gb141)); have n3_ := As0.mk ((by rw [hg]; exact (below_size (by repeat (first | (with_reducible first | exact HB.out | apply bal | apply pwB_ | apply bd1) | exact HB.out))) : w.heap.size ≤ gb141)); clear HB; have HB := n0_; have BK141 := n1_; have GW141 := n2_; have GE141 := n3_; clear n0_ n1_ n2_ n3_; clear hb hbox hg; have hcz12_0 : w11.cell? ⟨gb141, 0, none⟩ = some (.int .i64 a0_0) := (bce BK141.out 0).trans rfl; have hcz12_1 : w11.cell? ⟨gb141, 1, none⟩ = some (.int .i64 a0_1) := (bce BK141.out 1).trans rfl; have hfz12_0 := bkf BK141.out 0; have hfz12_1 := bkf BK141.out 1) | ((with_reducible refine gcl (f := 40) rfl ?_); refine goesL_ (some 11) rfl rfl Try.func40 (by kernel_rfl) rfl #[.agg #[.int .i64 a0_0, .int .i64 a0_1], .int .u64 a1] rfl (by (try simp only [zmt, zmc, zmn]); first | done | rfl) ?_; (with_reducible refine (ff_size.calls a0_0 a0_1 a1 t142 _ A3.out).mono ?_); rintro e w13 ⟨rfl, hb⟩; refine ⟨_, rfl, ?_⟩; have n0_ := As0.mk (bkb (g := gb141) (o := .cells #[.int .i64 a0_0, .int .i64 a0_1] 43 (0, 0)) (by (with_reducible repeat (first | refine bkN ?_ _ | refine bkd ?_ | refine bka ?_ _)); exact BK141.out) hb); have n1_ := As0.mk (bst (by repeat (first | (with_reducible first | exact HB.out | apply bal | apply pwB_ | apply bd1 | refine bse ?_ GE141.out) | exact HB.out)) hb); clear BK141; clear HB; have BK141 := n0_; have HB := n1_; clear n0_ n1_; (try clear hb); (try clear hb2); (try clear hk); (try clear hi); have hcz14_0 : w13.cell? ⟨gb141, 0, none⟩ = some (.int .i64 a0_0) := (bce BK141.out 0).trans rfl; have hcz14_1 : w13.cell? ⟨gb141, 1, none⟩ = some (.int .i64 a0_1) := (bce BK141.out 1).trans rfl; have hfz14_0 := bkf BK141.out 0; have hfz14_1 := bkf BK141.out 1) | ((with_reducible refine gcl (f := 64) rfl ?_); refine goesL_ (some 29) rfl rfl Try.func64 (by kernel_rfl) rfl #[.agg #[.int .i64 a0_0, .int .i64 a0_1]] rfl (by (try simp only [zmt, zmc, zmn]); first | done | rfl) ?_; (with_reducible refine (ff_least.calls a0_0 a0_1 t143 _ A10.out).mono ?_); rintro e w15 ⟨rfl, hb⟩; refine ⟨_, rfl, ?_⟩; have n0_ := As0.mk (bkb (g := gb141) (o := .cells #[.int .i64 a0_0, .int .i64 a0_1] 43 (0, 0)) (by (with_reducible repeat (first | refine bkN ?_ _ | refine bkd ?_ | refine bka ?_ _)); exact BK141.out) hb); have n1_ := As0.mk (bst (by repeat (first | (with_reducible first | exact HB.out | apply bal | apply pwB_ | apply bd1 | refine bse ?_ GE141.out) | exact HB.out)) hb); clear BK141; clear HB; have BK141 := n0_; have HB := n1_; clear n0_ n1_; (try clear hb); (try clear hb2); (try clear hk); (try clear hi)))
   go_ret2
   exact ⟨by first | rfl | (simp only [← hji4, ← hji6, ← hji8]; first | rfl) | (simp [*] <;> rfl), by repeat (first | (with_reducible first | exact HB.out | apply bal | apply pwB_ | apply bd1 | refine bse ?_ GE141.out) | exact HB.out)⟩
  ·rw [if_neg c9] at H
   have c9b0 : ((wrap64 (ji6)) == 0) = false := beq_eq_false_iff_ne.mpr c9
   have c9b1 : ((wrap64 (ji6)) != 0) = true := bne_iff_ne.mpr c9
   have c16b0 := eq_true (of_decide_eq_true (by first | (with_reducible assumption) | assumption) : 0 ≤ (ji4))
   replace H := zob H
   obtain ⟨t144, A180, H⟩ := H
   replace H : (some (Go.bits .or .u64 (Go.bits .and .u64 t142 (IntKind.u64.wrap ((ji8) - 1))) (ji8), wrap64 ((wrap64 (t144 + (wrap64 (ji6)))) - 1))) = some (r1, r2) := H
   have A18 := As0.mk A180
   clear A180
   simp only [Option.some.injEq, Prod.mk.injEq] at H
   obtain ⟨rfl, rfl⟩ := H
   go_enter Try.func57, Try.ntmps57
   try go_wp2_with (first | ((with_reducible refine gate_dst (N := 2) rfl ?_); refine box_event ?hg (N := 2) ?hd (cs := #[.int .i64 a0_0, .int .i64 a0_1]) (t := 43) ?hr ?_; (case hd => rfl); (case hg => rfl); (case hr => first | (go_simp; done) | (go_simp; rfl)); intro gb141 hg w19 hbox hb; have n0_ := As0.mk (bst (by repeat (first | (with_reducible first | exact HB.out | apply bal | apply pwB_ | apply bd1) | exact HB.out)) hb); have n1_ := As0.mk (hbox); have n2_ := As0.mk ((by rw [hg]; exact (below_size (by repeat (first | (with_reducible first | exact HB.out | apply bal | apply pwB_ | apply bd1) | exact HB.out))) : w.heap.size ≤ gb141)); have n3_ := As0.mk ((by rw [hg]; exact (below_size (by repeat (first | (with_reducible first | exact HB.out | apply bal | apply pwB_ | apply bd1) | exact HB.out))) : w.heap.size ≤ gb141)); clear HB; have HB := n0_; have BK141 := n1_; have GW141 := n2_; have GE141 := n3_; clear n0_ n1_ n2_ n3_; clear hb hbox hg; have hcz20_0 : w19.cell? ⟨gb141, 0, none⟩ = some (.int .i64 a0_0) := (bce BK141.out 0).trans rfl; have hcz20_1 : w19.cell? ⟨gb141, 1, none⟩ = some (.int .i64 a0_1) := (bce BK141.out 1).trans rfl; have hfz20_0 := bkf BK141.out 0; have hfz20_1 := bkf BK141.out 1) | ((with_reducible refine gcl (f := 40) rfl ?_); refine goesL_ (some 11) rfl rfl Try.func40 (by kernel_rfl) rfl #[.agg #[.int .i64 a0_0, .int .i64 a0_1], .int .u64 a1] rfl (by (try simp only [zmt, zmc, zmn]); first | done | rfl) ?_; (with_reducible refine (ff_size.calls a0_0 a0_1 a1 t142 _ A3.out).mono ?_); rintro e w21 ⟨rfl, hb⟩; refine ⟨_, rfl, ?_⟩; have n0_ := As0.mk (bkb (g := gb141) (o := .cells #[.int .i64 a0_0, .int .i64 a0_1] 43 (0, 0)) (by (with_reducible repeat (first | refine bkN ?_ _ | refine bkd ?_ | refine bka ?_ _)); exact BK141.out) hb); have n1_ := As0.mk (bst (by repeat (first | (with_reducible first | exact HB.out | apply bal | apply pwB_ | apply bd1 | refine bse ?_ GE141.out) | exact HB.out)) hb); clear BK141; clear HB; have BK141 := n0_; have HB := n1_; clear n0_ n1_; (try clear hb); (try clear hb2); (try clear hk); (try clear hi); have hcz22_0 : w21.cell? ⟨gb141, 0, none⟩ = some (.int .i64 a0_0) := (bce BK141.out 0).trans rfl; have hcz22_1 : w21.cell? ⟨gb141, 1, none⟩ = some (.int .i64 a0_1) := (bce BK141.out 1).trans rfl; have hfz22_0 := bkf BK141.out 0; have hfz22_1 := bkf BK141.out 1))
   have n0_ := As0.mk (bkd BK141.out)
   have n1_ := As0.mk (bd1 HB.out)
   clear BK141
   clear HB
   have BK141 := n0_
   have HB := n1_
   clear n0_ n1_
   refine start_ (n := 13) (S := fun w' => w'.cell? ⟨gb141, 0, none⟩ = some (.int .i64 a0_0) ∧ w'.cell? ⟨gb141, 1, none⟩ = some (.int .i64 a0_1)) (ds := []) #[false, false, false, false, false, false, false, false, false, false, false, false, false] (by kernel_rfl) rfl rfl ⟨(bce BK141.out 0).trans rfl, (bce BK141.out 1).trans rfl⟩ (fun hHeld => ?_); refine with_tabW ff_parts.tab6 ff_parts.bits6 (fun HT_ HW_ => ?_)
   generalize w21.drew = w23 at BK141 HB hHeld ⊢
   refine pure_ (i := 0) (N := some 30) (v := ?_) (a' := ?_) #[true, false, false, false, false, false, false, false, false, false, false, false, false] rfl rfl (any_of HT_.out (by kernel_rfl)) (fun _ _ _ h => h) (Or.inl ⟨by rfl, ?_⟩) ?_ ?_
   rotate_left
   ·intro w'
    go_simp
    with_reducible rfl
   rotate_left
   ·simp only [Act.put, zsi, zcz, zcs, i64_w, i32_w]
    rfl
   refine pure_ (i := 1) (N := some 31) (v := ?_) (a' := ?_) #[true, true, false, false, false, false, false, false, false, false, false, false, false] rfl rfl (any_of HT_.out (by kernel_rfl)) (fun _ _ _ h => h) (Or.inl ⟨by rfl, ?_⟩) ?_ ?_
   rotate_left
   ·intro w'
    go_simp
    with_reducible rfl
   rotate_left
   ·simp only [Act.put, zsi, zcz, zcs, i64_w, i32_w]
    rfl
   refine pure_ (i := 8) (N := some 38) (v := ?_) (a' := ?_) #[true, true, false, false, false, false, false, false, true, false, false, false, false] rfl rfl (any_of HT_.out (by kernel_rfl)) (fun _ _ _ h => h) (Or.inl ⟨by rfl, ?_⟩) ?_ ?_
   rotate_left
   ·intro w'
    go_simp
    with_reducible rfl
   rotate_left
   ·simp only [Act.put, zsi, zcz, zcs, i64_w, i32_w]
    rfl
   refine take_ (i := 2) (N := some 32) (v := ?_) (a' := ?_) #[true, true, true, false, false, false, false, false, true, false, false, false, false] rfl rfl (take_ofW HT_.out HW_.out (by kernel_rfl)) (fun _ _ _ h => h) (Or.inl ⟨by rfl, ?_⟩) hHeld ?_ ?_
   rotate_left
   ·rintro w' ⟨s0, s1⟩
    go_simp
    with_reducible rfl
   rotate_left
   ·simp only [Act.put, zsi, zcz, zcs, i64_w, i32_w]
    rfl
   refine pure_ (i := 3) (N := some 33) (v := ?_) (a' := ?_) #[true, true, true, true, false, false, false, false, true, false, false, false, false] rfl rfl (any_of HT_.out (by kernel_rfl)) (fun _ _ _ h => h) (Or.inl ⟨by rfl, ?_⟩) ?_ ?_
   rotate_left
   ·intro w'
    go_simp
    with_reducible rfl
   rotate_left
   ·simp only [Act.put, zsi, zcz, zcs, i64_w, i32_w]
    rfl
   refine pure_ (i := 4) (N := some 34) (v := ?_) (a' := ?_) #[true, true, true, true, true, false, false, false, true, false, false, false, false] rfl rfl (any_of HT_.out (by kernel_rfl)) (fun _ _ _ h => h) (Or.inl ⟨by rfl, ?_⟩) ?_ ?_
   rotate_left
   ·intro w'
    go_simp
    with_reducible rfl
   rotate_left
   ·simp only [Act.put, zsi, zcz, zcs, i64_w, i32_w]
    rfl
   refine pure_ (i := 5) (N := some 35) (v := ?_) (a' := ?_) #[true, true, true, true, true, true, false, false, true, false, false, false, false] rfl rfl (any_of HT_.out (by kernel_rfl)) (fun _ _ _ h => h) (Or.inl ⟨by rfl, ?_⟩) ?_ ?_
   rotate_left
   ·intro w'
    go_simp
    with_reducible rfl
   rotate_left
   ·simp only [Act.put, zsi, zcz, zcs, i64_w, i32_w]
    rfl
   refine take_ (i := 6) (N := some 36) (v := ?_) (a' := ?_) #[true, true, true, true, true, true, true, false, true, false, false, false, false] rfl rfl (take_ofW HT_.out HW_.out (by kernel_rfl)) (fun _ _ _ h => h) (Or.inl ⟨by rfl, ?_⟩) hHeld ?_ ?_
   rotate_left
   ·rintro w' ⟨s0, s1⟩
    go_simp
    with_reducible rfl
   rotate_left
   ·simp only [Act.put, zsi, zcz, zcs, i64_w, i32_w]
    rfl
   refine one_ (i := 7) (N := some 37) #[true, true, true, true, true, true, true, true, true, false, false, false, false] rfl rfl (one_of HT_.out (by kernel_rfl)) (by decide) (fun K hK => ?_)
   refine goes_ Try.func64 (by kernel_rfl) rfl #[.agg #[.int .i64 a0_0, .int .i64 a0_1]] (by rfl) rfl rfl (by (try simp only [zmt, zmc, zmn]); first | done | rfl) ?_
   with_reducible refine (ff_least.calls a0_0 a0_1 t144 _ A18.out).mono ?_
   rintro e w24 ⟨rfl, hb⟩
   refine ⟨_, rfl, ?_⟩
   have n0_ := As0.mk (bkb (g := gb141) (o := .cells #[.int .i64 a0_0, .int .i64 a0_1] 43 (0, 0)) (by (with_reducible repeat (first | refine bkN ?_ _ | refine bkd ?_ | refine bka ?_ _)); exact BK141.out) hb)
   have n1_ := As0.mk (bst (by repeat (first | (with_reducible first | exact HB.out | apply bal | apply pwB_ | apply bd1 | refine bse ?_ GE141.out) | exact HB.out)) hb)
   clear BK141
   clear HB
   have BK141 := n0_
   have HB := n1_
   clear n0_ n1_
   (try clear hb)
   (try clear hb2)
   (try clear hk)
   (try clear hi)
   refine hK.out _ _ ⟨(bce BK141.out 0).trans rfl, (bce BK141.out 1).trans rfl⟩ (fun hHeld => ?_)
   clear hK K
   refine norm_ (a' := ?_) ?_ ?_
   rotate_left
   ·show Act.put _ (some 37) _ = _
    simp only [Act.put, zsi, zcz, zcs, i64_w, i32_w]
    rfl
   refine pure_ (i := 9) (N := some 39) (v := ?_) (a' := ?_) #[true, true, true, true, true, true, true, true, true, true, false, false, false] rfl rfl (any_of HT_.out (by kernel_rfl)) (fun _ _ _ h => h) (Or.inl ⟨by rfl, ?_⟩) ?_ ?_
   rotate_left
   ·intro w'
    go_simp
    with_reducible rfl
   rotate_left
   ·simp only [Act.put, zsi, zcz, zcs, i64_w, i32_w]
    rfl
   refine pure_ (i := 10) (N := some 40) (v := ?_) (a' := ?_) #[true, true, true, true, true, true, true, true, true, true, true, false, false] rfl rfl (any_of HT_.out (by kernel_rfl)) (fun _ _ _ h => h) (Or.inl ⟨by rfl, ?_⟩) ?_ ?_
   rotate_left
   ·intro w'
    go_simp
    with_reducible rfl
   rotate_left
   ·simp only [Act.put, zsi, zcz, zcs, i64_w, i32_w]
    rfl
   refine pure_ (i := 11) (N := some 4) (v := ?_) (a' := ?_) #[true, true, true, true, true, true, true, true, true, true, true, true, false] rfl rfl (any_of HT_.out (by kernel_rfl)) (fun _ _ _ h => h) (Or.inl ⟨by rfl, ?_⟩) ?_ ?_
   rotate_left
   ·intro w'
    go_simp
    with_reducible rfl
   rotate_left
   ·simp only [Act.put, zsi, zcz, zcs, i64_w, i32_w]
    rfl
   refine pure_ (i := 12) (N := some 5) (v := ?_) (a' := ?_) #[true, true, true, true, true, true, true, true, true, true, true, true, true] rfl rfl (any_of HT_.out (by kernel_rfl)) (fun _ _ _ h => h) (Or.inl ⟨by rfl, ?_⟩) ?_ ?_
   rotate_left
   ·intro w'
    go_simp
    with_reducible rfl
   rotate_left
   ·simp only [Act.put, zsi, zcz, zcs, i64_w, i32_w]
    rfl
   refine done_ (done_of HT_.out (by kernel_rfl)) ?_
   try go_wp2
   go_ret2
   exact ⟨by first | rfl | (simp only [← hji4, ← hji6, ← hji8]; first | rfl) | (simp [*] <;> rfl), by repeat (first | (with_reducible first | exact HB.out | apply bal | apply pwB_ | apply bd1 | refine bse ?_ GE141.out) | exact HB.out)⟩
 ·rw [if_neg c5] at H
  exact absurd H (by simp)
def floats_jam.f (a0 : Int) (a1 : Int) : Option (Int) := if a1 > 63 then (if (IntKind.u64.wrap ((a0 / 9223372036854775808) * 9223372036854775808)) = a0 then (some (a0 / 9223372036854775808)) else (some (Go.bits .or .u64 (a0 / 9223372036854775808) 1))) else (if 0 ≤ (IntKind.u64.wrap (a1)) then (if (shl .u64 (shr .u64 a0 (IntKind.u64.wrap (a1))) (IntKind.u64.wrap (a1))) = a0 then (some (shr .u64 a0 (IntKind.u64.wrap (a1)))) else (some (Go.bits .or .u64 (shr .u64 a0 (IntKind.u64.wrap (a1))) 1))) else (none))
set_option maxHeartbeats 8000000 in
set_option maxRecDepth 100000 in
theorem floats_jam.calls (a0 : Int) (a1 : Int) (r : Int) (w : World) (h : floats_jam.f a0 a1 = some r) :
  Calls Try.prog 65 #[.int .u64 a0, .int .i64 a1] w fun e w' => e = .returned (.int .u64 r) ∧ Drawn0 w w' := by
 have H : (if a1 > 63 then (if (IntKind.u64.wrap ((a0 / 9223372036854775808) * 9223372036854775808)) = a0 then (some (a0 / 9223372036854775808)) else (some (Go.bits .or .u64 (a0 / 9223372036854775808) 1))) else (if 0 ≤ (IntKind.u64.wrap (a1)) then (if (shl .u64 (shr .u64 a0 (IntKind.u64.wrap (a1))) (IntKind.u64.wrap (a1))) = a0 then (some (shr .u64 a0 (IntKind.u64.wrap (a1)))) else (some (Go.bits .or .u64 (shr .u64 a0 (IntKind.u64.wrap (a1))) 1))) else (none))) = some r := h
 clear h
 by_cases c3 : a1 > 63
 ·rw [if_pos c3] at H
  have c3b0 : decide (63 < a1) = true := decide_eq_true c3
  clear c3
  by_cases c4 : (IntKind.u64.wrap ((a0 / 9223372036854775808) * 9223372036854775808)) = a0
  ·rw [if_pos c4] at H
   have c4b0 : ((IntKind.u64.wrap ((a0 / 9223372036854775808) * 9223372036854775808)) == a0) = true := beq_iff_eq.mpr c4
   have c4b1 : ((IntKind.u64.wrap ((a0 / 9223372036854775808) * 9223372036854775808)) != a0) = false := bne_eq_false_iff_eq.mpr c4
   clear c4
   obtain rfl := Option.some.inj H
   go_enter Try.func65, Try.ntmps65
   go_wp2
   go_ret
   exact ⟨by first | rfl | (simp; done) | (simp [*]; done), by repeat (first | exact Drawn0.refl _ | apply Drawn0.step)⟩
  ·rw [if_neg c4] at H
   have c4b0 : ((IntKind.u64.wrap ((a0 / 9223372036854775808) * 9223372036854775808)) == a0) = false := beq_eq_false_iff_ne.mpr c4
   have c4b1 : ((IntKind.u64.wrap ((a0 / 9223372036854775808) * 9223372036854775808)) != a0) = true := bne_iff_ne.mpr c4
   obtain rfl := Option.some.inj H
   go_enter Try.func65, Try.ntmps65
   go_wp2
   go_ret
   exact ⟨by first | rfl | (simp; done) | (simp [*]; done), by repeat (first | exact Drawn0.refl _ | apply Drawn0.step)⟩
 ·rw [if_neg c3] at H
  have c3b0 : decide (63 < a1) = false := decide_eq_false c3
  clear c3
  obtain ⟨ji5, hji5⟩ : ∃ j_ : Int, (IntKind.u64.wrap (a1)) = j_ := ⟨_, rfl⟩
  replace H : (if 0 ≤ (ji5) then (if (shl .u64 (shr .u64 a0 (ji5)) (ji5)) = a0 then (some (shr .u64 a0 (ji5))) else (some (Go.bits .or .u64 (shr .u64 a0 (ji5)) 1))) else (none)) = some r := by first | (rw [hji5] at H; exact H) | (simp only [hji5] at H ⊢; exact H)
  by_cases c6 : 0 ≤ (ji5)
  ·rw [if_pos c6] at H
   have c6b0 := eq_true c6
   have c6b1 : decide (0 ≤ (ji5)) = true := decide_eq_true c6
   clear c6
   obtain ⟨ji7, hji7⟩ : ∃ j_ : Int, (shr .u64 a0 (ji5)) = j_ := ⟨_, rfl⟩
   replace H : (if (shl .u64 (ji7) (ji5)) = a0 then (some ji7) else (some (Go.bits .or .u64 (ji7) 1))) = some r := by first | (rw [hji7] at H; exact H) | (simp only [hji7] at H ⊢; exact H)
   have hji7_ : (a0 / 2 ^ min (ji5).toNat 64) = ji7 := hji7
   have hji7z : (ji5) ≤ 64 → (a0 / 2 ^ (ji5).toNat) = ji7 := shr_small hji7
   have c8b0 := eq_true (of_decide_eq_true (by first | (with_reducible assumption) | assumption) : 0 ≤ (ji5))
   obtain ⟨ji9, hji9⟩ : ∃ j_ : Int, (shl .u64 (ji7) (ji5)) = j_ := ⟨_, rfl⟩
   replace H : (if (ji9) = a0 then (some ji7) else (some (Go.bits .or .u64 (ji7) 1))) = some r := by first | (rw [hji9] at H; exact H) | (simp only [hji9] at H ⊢; exact H)
   have hji9_ : (IntKind.u64.wrap ((ji7) * 2 ^ min (ji5).toNat 64)) = ji9 := hji9
   have hji9z : (ji5) ≤ 64 → (IntKind.u64.wrap ((ji7) * 2 ^ (ji5).toNat)) = ji9 := shl_small hji9
   by_cases c10 : (ji9) = a0
   ·rw [if_pos c10] at H
    have c10b0 : ((ji9) == a0) = true := beq_iff_eq.mpr c10
    have c10b1 : ((ji9) != a0) = false := bne_eq_false_iff_eq.mpr c10
    clear c10
    obtain rfl := Option.some.inj H
    go_enter Try.func65, Try.ntmps65
    go_wp2
    go_ret
    exact ⟨by first | rfl | (simp; done) | (simp only [← hji5, ← hji7, ← hji9] <;> (first | rfl | simp)) | (simp [*]; done), by repeat (first | exact Drawn0.refl _ | apply Drawn0.step)⟩
   ·rw [if_neg c10] at H
    have c10b0 : ((ji9) == a0) = false := beq_eq_false_iff_ne.mpr c10
    have c10b1 : ((ji9) != a0) = true := bne_iff_ne.mpr c10
    obtain rfl := Option.some.inj H
    go_enter Try.func65, Try.ntmps65
    go_wp2
    go_ret
    exact ⟨by first | rfl | (simp; done) | (simp only [← hji5, ← hji7, ← hji9] <;> (first | rfl | simp)) | (simp [*]; done), by repeat (first | exact Drawn0.refl _ | apply Drawn0.step)⟩
  ·rw [if_neg c6] at H
   exact absurd H (by simp)
end Go.Proofs.Ytjfmomogidgbpaa.PFl
namespace Go.Proofs.Ytjfmomogidgbpaa.PFl
open Go.RowKit Go.Proofs.YtjfmomogidgbpaaW.PrintWords Go.Proofs.YtjfmomogidgbpaaW.PrintLast Go.Proofs.YtjfmomogidgbpaaW.PrintMore
attribute [local go_sem] max2_int min2_int max_two min_two max_three min_three max_four min_four
set_option linter.unusedVariables false
set_option linter.unusedSimpArgs false
mutual
def ff_add.j0 : Nat → Int → Int → Int → Int → Option (Int)
 | 0, _, _, _, _ => none
 | k + 1, x1, x2, x146000, x146001 => (ff_neg.f x146000 x146001 x1).bind fun t148 => ((ff_neg.f x146000 x146001 x2).bind fun t149 => ((ff_size.f x146000 x146001 x1).bind fun t150 => ((ff_infinity.f x146000 x146001).bind fun t151 => (if t150 = t151 then (if (t148 != t149) = true then ((ff_size.f x146000 x146001 x2).bind fun t152 => ((ff_infinity.f x146000 x146001).bind fun t153 => (if t152 = t153 then ((ff_nan.f x146000 x146001).bind fun t154 => (some t154)) else (some x1)))) else (some x1)) else ((ff_size.f x146000 x146001 x2).bind fun t155 => (if t155 = 0 then ((ff_size.f x146000 x146001 x1).bind fun t156 => (if t156 > 0 then (some x1) else (ff_add.j1 k x1 x2 (t148 != t149) x146000 x146001))) else (ff_add.j1 k x1 x2 (t148 != t149) x146000 x146001)))))))
def ff_add.j1 : Nat → Int → Int → Bool → Int → Int → Option (Int)
 | 0, _, _, _, _, _ => none
 | k + 1, x1, x2, x7, x146000, x146001 => (ff_parts.f x146000 x146001 x1).bind fun bt157 => ((ff_parts.f x146000 x146001 x2).bind fun bt159 => ((floats_jam.f (IntKind.u64.wrap (bt159.1 * 1024)) (wrap64 (bt157.2 - bt159.2))).bind fun t161 => (if x7 = true then ((ff_neg.f x146000 x146001 x1).bind fun t162 => (if t162 = true then ((ff_round.f k x146000 x146001 ((IntKind.u64.wrap (bt157.1 * 1024)) != t161) (IntKind.u64.wrap ((IntKind.u64.wrap (bt157.1 * 1024)) - t161)) (wrap64 (bt157.2 - 10)) false).bind fun t163 => (some t163)) else ((ff_round.f k x146000 x146001 false (IntKind.u64.wrap ((IntKind.u64.wrap (bt157.1 * 1024)) - t161)) (wrap64 (bt157.2 - 10)) false).bind fun t164 => (some t164)))) else ((ff_neg.f x146000 x146001 x1).bind fun t165 => ((ff_round.f k x146000 x146001 t165 (IntKind.u64.wrap ((IntKind.u64.wrap (bt157.1 * 1024)) + t161)) (wrap64 (bt157.2 - 10)) false).bind fun t166 => (some t166))))))
end
def ff_add.f (k : Nat) (a0_0 : Int) (a0_1 : Int) (a1 : Int) (a2 : Int) : Option (Int) := (ff_size.f a0_0 a0_1 a1).bind fun t146 => ((ff_size.f a0_0 a0_1 a2).bind fun t147 => (if t146 < t147 then (ff_add.j0 k a2 a1 a0_0 a0_1) else (ff_add.j0 k a1 a2 a0_0 a0_1)))
theorem ff_add.mono_l : ∀ k, (∀ y0 y1 y2 y3, LeO (ff_add.j0 k y0 y1 y2 y3) (ff_add.j0 (k + 1) y0 y1 y2 y3)) ∧ (∀ y0 y1 y2 y3 y4, LeO (ff_add.j1 k y0 y1 y2 y3 y4) (ff_add.j1 (k + 1) y0 y1 y2 y3 y4)) := by
 intro k
 induction k with
 | zero => exact ⟨fun _ _ _ _ r h => by simp [ff_add.j0] at h, fun _ _ _ _ _ r h => by simp [ff_add.j1] at h⟩
 | succ k ih =>
  obtain ⟨ih0, ih1⟩ := ih
  refine ⟨?_, ?_⟩
  ·intro y0 y1 y2 y3
   unfold ff_add.j0
   repeat' first
   | (with_reducible exact ih0 _ _ _ _)
   | (with_reducible exact ih1 _ _ _ _ _)
   | (with_reducible exact ff_round.mono _ _ _ _ _ _ _)
   | (with_reducible exact LeO.refl _)
   | (with_reducible exact LeO.none _)
   | (with_reducible refine LeO.ite ?_ ?_)
   | (with_reducible refine LeO.bind ?_ (fun _ => ?_))
   | exact ih0 _ _ _ _
   | exact ih1 _ _ _ _ _
   | exact ff_round.mono _ _ _ _ _ _ _
   | exact LeO.none _
   | refine LeO.ite ?_ ?_
   | refine LeO.bind ?_ (fun _ => ?_)
  ·intro y0 y1 y2 y3 y4
   unfold ff_add.j1
   repeat' first
   | (with_reducible exact ih0 _ _ _ _)
   | (with_reducible exact ih1 _ _ _ _ _)
   | (with_reducible exact ff_round.mono _ _ _ _ _ _ _)
   | (with_reducible exact LeO.refl _)
   | (with_reducible exact LeO.none _)
   | (with_reducible refine LeO.ite ?_ ?_)
   | (with_reducible refine LeO.bind ?_ (fun _ => ?_))
   | exact ih0 _ _ _ _
   | exact ih1 _ _ _ _ _
   | exact ff_round.mono _ _ _ _ _ _ _
   | exact LeO.none _
   | refine LeO.ite ?_ ?_
   | refine LeO.bind ?_ (fun _ => ?_)
theorem ff_add.mono : ∀ a0 a1 a2 a3 k, LeO (ff_add.f k a0 a1 a2 a3) (ff_add.f (k + 1) a0 a1 a2 a3) := by
 intro a0 a1 a2 a3 k
 obtain ⟨ih0, ih1⟩ := ff_add.mono_l k
 unfold ff_add.f
 repeat' first
   | (with_reducible exact ih0 _ _ _ _)
   | (with_reducible exact ih1 _ _ _ _ _)
   | (with_reducible exact ff_round.mono _ _ _ _ _ _ _)
   | (with_reducible exact LeO.refl _)
   | (with_reducible exact LeO.none _)
   | (with_reducible refine LeO.ite ?_ ?_)
   | (with_reducible refine LeO.bind ?_ (fun _ => ?_))
   | exact ih0 _ _ _ _
   | exact ih1 _ _ _ _ _
   | exact ff_round.mono _ _ _ _ _ _ _
   | exact LeO.none _
   | refine LeO.ite ?_ ?_
   | refine LeO.bind ?_ (fun _ => ?_)
def ff_add.T3 : Bool × List (List Nat × List Nat) := (true, [([], []), ([], []), ([0, 1], [0, 1]), ([], []), ([], []), ([3, 4, 2], [3, 4]), ([2, 5], [2, 5]), ([6, 5, 0, 1, 2, 3, 4, 5, 6], [6])])
def ff_add.B3 : List Nat := [0, 0, 3, 0, 0, 31, 63, 127]
theorem ff_add.tab3 : rtab .any (opsOf Try.f44 3) = ff_add.T3 := by kernel_rfl
theorem ff_add.bits3 : waitsOk ff_add.T3.2 ff_add.B3 = true := by kernel_rfl
def ff_add.T5 : Bool × List (List Nat × List Nat) := (true, [([], []), ([0], [0]), ([1], [1]), ([1], [1]), ([2, 3, 1, 1], [1, 2, 3]), ([1], [1]), ([5, 4, 1], [1, 5]), ([4, 6, 1], [1, 4, 6]), ([1, 7], [1, 7])])
def ff_add.B5 : List Nat := [0, 1, 3, 3, 15, 3, 63, 127, 255]
theorem ff_add.tab5 : rtab .any (opsOf Try.f44 5) = ff_add.T5 := by kernel_rfl
theorem ff_add.bits5 : waitsOk ff_add.T5.2 ff_add.B5 = true := by kernel_rfl
def ff_add.T14 : Bool × List (List Nat × List Nat) := (true, [([], []), ([], []), ([], []), ([1, 2], [1, 2]), ([], []), ([], []), ([4, 5], [4, 5]), ([], []), ([7], [7]), ([0, 3, 6, 8, 3], [0, 3, 6, 8]), ([9, 9, 0, 1, 2, 3, 4, 5, 6, 7, 8, 9], [9])])
def ff_add.B14 : List Nat := [0, 0, 0, 6, 0, 0, 48, 0, 128, 511, 1023]
theorem ff_add.tab14 : rtab .any (opsOf Try.f44 14) = ff_add.T14 := by kernel_rfl
theorem ff_add.bits14 : waitsOk ff_add.T14.2 ff_add.B14 = true := by kernel_rfl
def ff_add.T15 : Bool × List (List Nat × List Nat) := (true, [([], []), ([], []), ([], []), ([1, 2], [1, 2]), ([3, 3], [3]), ([4], [4]), ([4], [4]), ([5, 6, 4], [4, 5, 6]), ([4, 7], [4, 7]), ([], []), ([], []), ([9, 10], [9, 10]), ([], []), ([12], [12]), ([0, 8, 11, 13, 4], [0, 8, 11, 13]), ([14, 14, 0, 1, 2, 3, 4, 5, 6, 7, 8, 9, 10, 11, 12, 13, 14], [14])])
def ff_add.B15 : List Nat := [0, 0, 0, 6, 14, 30, 30, 126, 254, 0, 0, 1536, 0, 4096, 16383, 32767]
theorem ff_add.tab15 : rtab .any (opsOf Try.f44 15) = ff_add.T15 := by kernel_rfl
theorem ff_add.bits15 : waitsOk ff_add.T15.2 ff_add.B15 = true := by kernel_rfl
set_option maxHeartbeats 8000000 in
set_option maxRecDepth 100000 in
theorem ff_add.calls (k : Nat) (a0_0 : Int) (a0_1 : Int) (a1 : Int) (a2 : Int) (r : Int) (w : World) (h : ff_add.f k a0_0 a0_1 a1 a2 = some r) :
  Calls Try.prog 44 #[.agg #[.int .i64 a0_0, .int .i64 a0_1], .int .u64 a1, .int .u64 a2] w fun e w' => e = .returned (.int .u64 r) ∧ Below w.heap.size w w' := by
 have hu43 := Try.underlying43
 have HB := As0.mk (Below.refl w.heap.size w)
 have H : ((ff_size.f a0_0 a0_1 a1).bind fun t146 => ((ff_size.f a0_0 a0_1 a2).bind fun t147 => (if t146 < t147 then (ff_add.j0 k a2 a1 a0_0 a0_1) else (ff_add.j0 k a1 a2 a0_0 a0_1)))) = some r := h
 clear h
 replace H := zob H
 obtain ⟨t146, A40, H⟩ := H
 replace H : ((ff_size.f a0_0 a0_1 a2).bind fun t147 => (if t146 < t147 then (ff_add.j0 k a2 a1 a0_0 a0_1) else (ff_add.j0 k a1 a2 a0_0 a0_1))) = some r := H
 have A4 := As0.mk A40
 clear A40
 replace H := zob H
 obtain ⟨t147, A50, H⟩ := H
 replace H : (if t146 < t147 then (ff_add.j0 k a2 a1 a0_0 a0_1) else (ff_add.j0 k a1 a2 a0_0 a0_1)) = some r := H
 have A5 := As0.mk A50
 clear A50
 have HC6 := As0.mk H
 clear H
 go_enter Try.func44, Try.ntmps44
 try go_wp2_with (first | ((with_reducible refine gate_dst (N := 3) rfl ?_); refine box_event ?hg (N := 3) ?hd (cs := #[.int .i64 a0_0, .int .i64 a0_1]) (t := 43) ?hr ?_; (case hd => rfl); (case hg => rfl); (case hr => first | (go_simp; done) | (go_simp; rfl)); intro gb145 hg w7 hbox hb; have n0_ := As0.mk (bst (by repeat (first | (with_reducible first | exact HB.out | apply bal | apply pwB_ | apply bd1) | exact HB.out)) hb); have n1_ := As0.mk (hbox); have n2_ := As0.mk ((by rw [hg]; exact (below_size (by repeat (first | (with_reducible first | exact HB.out | apply bal | apply pwB_ | apply bd1) | exact HB.out))) : w.heap.size ≤ gb145)); have n3_ := As0.mk ((by rw [hg]; exact (below_size (by repeat (first | (with_reducible first | exact HB.out | apply bal | apply pwB_ | apply bd1) | exact HB.out))) : w.heap.size ≤ gb145)); clear HB; have HB := n0_; have BK145 := n1_; have GW145 := n2_; have GE145 := n3_; clear n0_ n1_ n2_ n3_; clear hb hbox hg))
 have n0_ := As0.mk (bkd BK145.out)
 have n1_ := As0.mk (bd1 HB.out)
 clear BK145
 clear HB
 have BK145 := n0_
 have HB := n1_
 clear n0_ n1_
 refine start_ (n := 7) (S := fun w' => w'.cell? ⟨gb145, 0, none⟩ = some (.int .i64 a0_0) ∧ w'.cell? ⟨gb145, 1, none⟩ = some (.int .i64 a0_1)) (ds := []) #[false, false, false, false, false, false, false] (by kernel_rfl) rfl rfl ⟨(bce BK145.out 0).trans rfl, (bce BK145.out 1).trans rfl⟩ (fun hHeld => ?_)
 generalize w7.drew = w8 at BK145 HB hHeld ⊢
 refine pure_ (i := 1) (N := some 13) (v := ?_) (a' := ?_) #[false, true, false, false, false, false, false] rfl rfl (by kernel_rfl) (fun _ _ _ h => h) (Or.inl ⟨by rfl, ?_⟩) ?_ ?_
 rotate_left
 ·intro w'
  go_simp
  with_reducible rfl
 rotate_left
 ·simp only [Act.put, zsi, zcz, zcs, i64_w, i32_w]
  rfl
 refine pure_ (i := 4) (N := some 16) (v := ?_) (a' := ?_) #[false, true, false, false, true, false, false] rfl rfl (by kernel_rfl) (fun _ _ _ h => h) (Or.inl ⟨by rfl, ?_⟩) ?_ ?_
 rotate_left
 ·intro w'
  go_simp
  with_reducible rfl
 rotate_left
 ·simp only [Act.put, zsi, zcz, zcs, i64_w, i32_w]
  rfl
 refine take_ (i := 0) (N := some 12) (v := ?_) (a' := ?_) #[true, true, false, false, true, false, false] rfl rfl (by kernel_rfl) (fun _ _ _ h => h) (Or.inl ⟨by rfl, ?_⟩) hHeld ?_ ?_
 rotate_left
 ·rintro w' ⟨s0, s1⟩
  go_simp
  with_reducible rfl
 rotate_left
 ·simp only [Act.put, zsi, zcz, zcs, i64_w, i32_w]
  rfl
 refine take_ (i := 3) (N := some 15) (v := ?_) (a' := ?_) #[true, true, false, true, true, false, false] rfl rfl (by kernel_rfl) (fun _ _ _ h => h) (Or.inl ⟨by rfl, ?_⟩) hHeld ?_ ?_
 rotate_left
 ·rintro w' ⟨s0, s1⟩
  go_simp
  with_reducible rfl
 rotate_left
 ·simp only [Act.put, zsi, zcz, zcs, i64_w, i32_w]
  rfl
 refine one_ (i := 2) (N := some 14) #[true, true, true, true, true, false, false] rfl rfl (by kernel_rfl) (by decide) (fun K hK => ?_)
 refine goes_ Try.func40 (by kernel_rfl) rfl #[.agg #[.int .i64 a0_0, .int .i64 a0_1], .int .u64 a1] (by rfl) rfl rfl (by (try simp only [zmt, zmc, zmn]); first | done | rfl) ?_
 with_reducible refine (ff_size.calls a0_0 a0_1 a1 t146 _ A4.out).mono ?_
 rintro e w9 ⟨rfl, hb⟩
 refine ⟨_, rfl, ?_⟩
 have n0_ := As0.mk (bkb (g := gb145) (o := .cells #[.int .i64 a0_0, .int .i64 a0_1] 43 (0, 0)) (by (with_reducible repeat (first | refine bkN ?_ _ | refine bkd ?_ | refine bka ?_ _)); exact BK145.out) hb)
 have n1_ := As0.mk (bst (by repeat (first | (with_reducible first | exact HB.out | apply bal | apply pwB_ | apply bd1 | refine bse ?_ GE145.out) | exact HB.out)) hb)
 clear BK145
 clear HB
 have BK145 := n0_
 have HB := n1_
 clear n0_ n1_
 (try clear hb)
 (try clear hb2)
 (try clear hk)
 (try clear hi)
 refine hK.out _ _ ⟨(bce BK145.out 0).trans rfl, (bce BK145.out 1).trans rfl⟩ (fun hHeld => ?_)
 clear hK K
 refine norm_ (a' := ?_) ?_ ?_
 rotate_left
 ·show Act.put _ (some 14) _ = _
  simp only [Act.put, zsi, zcz, zcs, i64_w, i32_w]
  rfl
 refine one_ (i := 5) (N := some 17) #[true, true, true, true, true, true, false] rfl rfl (by kernel_rfl) (by decide) (fun K hK => ?_)
 refine goes_ Try.func40 (by kernel_rfl) rfl #[.agg #[.int .i64 a0_0, .int .i64 a0_1], .int .u64 a2] (by rfl) rfl rfl (by (try simp only [zmt, zmc, zmn]); first | done | rfl) ?_
 with_reducible refine (ff_size.calls a0_0 a0_1 a2 t147 _ A5.out).mono ?_
 rintro e w10 ⟨rfl, hb⟩
 refine ⟨_, rfl, ?_⟩
 have n0_ := As0.mk (bkb (g := gb145) (o := .cells #[.int .i64 a0_0, .int .i64 a0_1] 43 (0, 0)) (by (with_reducible repeat (first | refine bkN ?_ _ | refine bkd ?_ | refine bka ?_ _)); exact BK145.out) hb)
 have n1_ := As0.mk (bst (by repeat (first | (with_reducible first | exact HB.out | apply bal | apply pwB_ | apply bd1 | refine bse ?_ GE145.out) | exact HB.out)) hb)
 clear BK145
 clear HB
 have BK145 := n0_
 have HB := n1_
 clear n0_ n1_
 (try clear hb)
 (try clear hb2)
 (try clear hk)
 (try clear hi)
 refine hK.out _ _ ⟨(bce BK145.out 0).trans rfl, (bce BK145.out 1).trans rfl⟩ (fun hHeld => ?_)
 clear hK K
 refine norm_ (a' := ?_) ?_ ?_
 rotate_left
 ·show Act.put _ (some 17) _ = _
  simp only [Act.put, zsi, zcz, zcs, i64_w, i32_w]
  rfl
 refine pure_ (i := 6) (N := some 18) (v := ?_) (a' := ?_) #[true, true, true, true, true, true, true] rfl rfl (by kernel_rfl) (fun _ _ _ h => h) (Or.inl ⟨by rfl, ?_⟩) ?_ ?_
 rotate_left
 ·intro w'
  go_simp
  with_reducible rfl
 rotate_left
 ·simp only [Act.put, zsi, zcz, zcs, i64_w, i32_w]
  rfl
 refine done_ (by kernel_rfl) ?_
 go_upto_if 18 with (fail)
 go_cut [1, 2] (fun v1 v2 wc => ∃ (kq : Nat) (x1_5 : Int) (x2_5 : Int), v1 = .int .u64 x1_5 ∧ v2 = .int .u64 x2_5 ∧ As0 (ff_add.j0 kq x1_5 x2_5 a0_0 a0_1 = some r) ∧ As0 (kq ≤ k) ∧ As0 (wc.heap[gb145]? = some (.cells #[.int .i64 a0_0, .int .i64 a0_1] 43 (0, 0))) ∧ As0 (Below w.heap.size w wc))
 case first =>
  have H := HC6.out
  clear HC6
  by_cases c11 : t146 < t147
  ·rw [if_pos c11] at H
   have c11b0 : decide (t146 < t147) = true := decide_eq_true c11
   clear c11
   (first | rw [c11b0] | (simp only [i64_w, i32_w]; rw [c11b0]) | skip)
   have H' := As0.mk H
   clear H
   go_wp2
   go_meet
   case rel => exact ⟨_, (a2), (a1), (by first | rfl | (simp; done) | (simp [*]; done)), (by first | rfl | (simp; done) | (simp [*]; done)), H', ⟨by first | omega | exact Nat.le_refl _⟩, ⟨by (with_reducible repeat (first | refine bkN ?_ _ | refine bkd ?_ | refine bka ?_ _)); exact BK145.out⟩, ⟨by repeat (first | (with_reducible first | exact HB.out | apply bal | apply pwB_ | apply bd1 | refine bse ?_ GE145.out) | exact HB.out)⟩⟩
  ·rw [if_neg c11] at H
   have c11b0 : decide (t146 < t147) = false := decide_eq_false c11
   clear c11
   (first | rw [c11b0] | (simp only [i64_w, i32_w]; rw [c11b0]) | skip)
   have H' := As0.mk H
   clear H
   go_wp2
   go_meet
   case rel => exact ⟨_, (a1), (a2), (by first | rfl | (simp; done) | (simp [*]; done)), (by first | rfl | (simp; done) | (simp [*]; done)), H', ⟨by first | omega | exact Nat.le_refl _⟩, ⟨by (with_reducible repeat (first | refine bkN ?_ _ | refine bkd ?_ | refine bka ?_ _)); exact BK145.out⟩, ⟨by repeat (first | (with_reducible first | exact HB.out | apply bal | apply pwB_ | apply bd1 | refine bse ?_ GE145.out) | exact HB.out)⟩⟩
 case rest =>
  clear HC6
  try clear c1
  try clear p2
  try clear c4
  try clear c11
  try clear c11b0
  obtain ⟨kq, x1_5, x2_5, rfl, rfl, HA, HJ5, BK145, HB⟩ := hcut
  cases kq with
  | zero => exact absurd HA.out (by simp [ff_add.j0])
  | succ kj5 =>
   have H := HA.out
   clear HA
   simp only [ff_add.j0] at H
   replace H := zob H
   obtain ⟨t148, A120, H⟩ := H
   replace H : ((ff_neg.f a0_0 a0_1 x2_5).bind fun t149 => ((ff_size.f a0_0 a0_1 x1_5).bind fun t150 => ((ff_infinity.f a0_0 a0_1).bind fun t151 => (if t150 = t151 then (if (t148 != t149) = true then ((ff_size.f a0_0 a0_1 x2_5).bind fun t152 => ((ff_infinity.f a0_0 a0_1).bind fun t153 => (if t152 = t153 then ((ff_nan.f a0_0 a0_1).bind fun t154 => (some t154)) else (some x1_5)))) else (some x1_5)) else ((ff_size.f a0_0 a0_1 x2_5).bind fun t155 => (if t155 = 0 then ((ff_size.f a0_0 a0_1 x1_5).bind fun t156 => (if t156 > 0 then (some x1_5) else (ff_add.j1 kj5 x1_5 x2_5 (t148 != t149) a0_0 a0_1))) else (ff_add.j1 kj5 x1_5 x2_5 (t148 != t149) a0_0 a0_1))))))) = some r := H
   have A12 := As0.mk A120
   clear A120
   replace H := zob H
   obtain ⟨t149, A130, H⟩ := H
   replace H : ((ff_size.f a0_0 a0_1 x1_5).bind fun t150 => ((ff_infinity.f a0_0 a0_1).bind fun t151 => (if t150 = t151 then (if (t148 != t149) = true then ((ff_size.f a0_0 a0_1 x2_5).bind fun t152 => ((ff_infinity.f a0_0 a0_1).bind fun t153 => (if t152 = t153 then ((ff_nan.f a0_0 a0_1).bind fun t154 => (some t154)) else (some x1_5)))) else (some x1_5)) else ((ff_size.f a0_0 a0_1 x2_5).bind fun t155 => (if t155 = 0 then ((ff_size.f a0_0 a0_1 x1_5).bind fun t156 => (if t156 > 0 then (some x1_5) else (ff_add.j1 kj5 x1_5 x2_5 (t148 != t149) a0_0 a0_1))) else (ff_add.j1 kj5 x1_5 x2_5 (t148 != t149) a0_0 a0_1)))))) = some r := H
   have A13 := As0.mk A130
   clear A130
   have HC14 := As0.mk H
   clear H
   try go_wp2
   have n0_ := As0.mk (bkd BK145.out)
   have n1_ := As0.mk (bd1 HB.out)
   clear BK145
   clear HB
   have BK145 := n0_
   have HB := n1_
   clear n0_ n1_
   refine start_ (n := 8) (S := fun w' => w'.cell? ⟨gb145, 0, none⟩ = some (.int .i64 a0_0) ∧ w'.cell? ⟨gb145, 1, none⟩ = some (.int .i64 a0_1)) (ds := []) #[false, false, false, false, false, false, false, false] (by kernel_rfl) rfl rfl ⟨(bce BK145.out 0).trans rfl, (bce BK145.out 1).trans rfl⟩ (fun hHeld => ?_); refine with_tabW ff_add.tab3 ff_add.bits3 (fun HT_ HW_ => ?_)
   generalize wc.drew = w15 at BK145 HB hHeld ⊢
   refine pure_ (i := 1) (N := some 22) (v := ?_) (a' := ?_) #[false, true, false, false, false, false, false, false] rfl rfl (any_of HT_.out (by kernel_rfl)) (fun _ _ _ h => h) (Or.inl ⟨by rfl, ?_⟩) ?_ ?_
   rotate_left
   ·intro w'
    go_simp
    with_reducible rfl
   rotate_left
   ·simp only [Act.put, zsi, zcz, zcs, i64_w, i32_w]
    rfl
   refine pure_ (i := 4) (N := some 25) (v := ?_) (a' := ?_) #[false, true, false, false, true, false, false, false] rfl rfl (any_of HT_.out (by kernel_rfl)) (fun _ _ _ h => h) (Or.inl ⟨by rfl, ?_⟩) ?_ ?_
   rotate_left
   ·intro w'
    go_simp
    with_reducible rfl
   rotate_left
   ·simp only [Act.put, zsi, zcz, zcs, i64_w, i32_w]
    rfl
   refine take_ (i := 0) (N := some 21) (v := ?_) (a' := ?_) #[true, true, false, false, true, false, false, false] rfl rfl (take_ofW HT_.out HW_.out (by kernel_rfl)) (fun _ _ _ h => h) (Or.inl ⟨by rfl, ?_⟩) hHeld ?_ ?_
   rotate_left
   ·rintro w' ⟨s0, s1⟩
    go_simp
    with_reducible rfl
   rotate_left
   ·simp only [Act.put, zsi, zcz, zcs, i64_w, i32_w]
    rfl
   refine take_ (i := 3) (N := some 24) (v := ?_) (a' := ?_) #[true, true, false, true, true, false, false, false] rfl rfl (take_ofW HT_.out HW_.out (by kernel_rfl)) (fun _ _ _ h => h) (Or.inl ⟨by rfl, ?_⟩) hHeld ?_ ?_
   rotate_left
   ·rintro w' ⟨s0, s1⟩
    go_simp
    with_reducible rfl
   rotate_left
   ·simp only [Act.put, zsi, zcz, zcs, i64_w, i32_w]
    rfl
   refine one_ (i := 2) (N := some 23) #[true, true, true, true, true, false, false, false] rfl rfl (one_of HT_.out (by kernel_rfl)) (by decide) (fun K hK => ?_)
   refine goes_ Try.func39 (by kernel_rfl) rfl #[.agg #[.int .i64 a0_0, .int .i64 a0_1], .int .u64 x1_5] (by rfl) rfl rfl (by (try simp only [zmt, zmc, zmn]); first | done | rfl) ?_
   with_reducible refine (ff_neg.calls a0_0 a0_1 x1_5 t148 _ A12.out).mono ?_
   rintro e w16 ⟨rfl, hb⟩
   refine ⟨_, rfl, ?_⟩
   have n0_ := As0.mk (bkb (g := gb145) (o := .cells #[.int .i64 a0_0, .int .i64 a0_1] 43 (0, 0)) (by (with_reducible repeat (first | refine bkN ?_ _ | refine bkd ?_ | refine bka ?_ _)); exact BK145.out) hb)
   have n1_ := As0.mk (bst (by repeat (first | (with_reducible first | exact HB.out | apply bal | apply pwB_ | apply bd1 | refine bse ?_ GE145.out) | exact HB.out)) hb)
   clear BK145
   clear HB
   have BK145 := n0_
   have HB := n1_
   clear n0_ n1_
   (try clear hb)
   (try clear hb2)
   (try clear hk)
   (try clear hi)
   refine hK.out _ _ ⟨(bce BK145.out 0).trans rfl, (bce BK145.out 1).trans rfl⟩ (fun hHeld => ?_)
   clear hK K
   refine norm_ (a' := ?_) ?_ ?_
   rotate_left
   ·show Act.put _ (some 23) _ = _
    simp only [Act.put, zsi, zcz, zcs, i64_w, i32_w]
    rfl
   refine one_ (i := 5) (N := some 26) #[true, true, true, true, true, true, false, false] rfl rfl (one_of HT_.out (by kernel_rfl)) (by decide) (fun K hK => ?_)
   refine goes_ Try.func39 (by kernel_rfl) rfl #[.agg #[.int .i64 a0_0, .int .i64 a0_1], .int .u64 x2_5] (by rfl) rfl rfl (by (try simp only [zmt, zmc, zmn]); first | done | rfl) ?_
   with_reducible refine (ff_neg.calls a0_0 a0_1 x2_5 t149 _ A13.out).mono ?_
   rintro e w17 ⟨rfl, hb⟩
   refine ⟨_, rfl, ?_⟩
   have n0_ := As0.mk (bkb (g := gb145) (o := .cells #[.int .i64 a0_0, .int .i64 a0_1] 43 (0, 0)) (by (with_reducible repeat (first | refine bkN ?_ _ | refine bkd ?_ | refine bka ?_ _)); exact BK145.out) hb)
   have n1_ := As0.mk (bst (by repeat (first | (with_reducible first | exact HB.out | apply bal | apply pwB_ | apply bd1 | refine bse ?_ GE145.out) | exact HB.out)) hb)
   clear BK145
   clear HB
   have BK145 := n0_
   have HB := n1_
   clear n0_ n1_
   (try clear hb)
   (try clear hb2)
   (try clear hk)
   (try clear hi)
   refine hK.out _ _ ⟨(bce BK145.out 0).trans rfl, (bce BK145.out 1).trans rfl⟩ (fun hHeld => ?_)
   clear hK K
   refine norm_ (a' := ?_) ?_ ?_
   rotate_left
   ·show Act.put _ (some 26) _ = _
    simp only [Act.put, zsi, zcz, zcs, i64_w, i32_w]
    rfl
   refine pure_ (i := 6) (N := some 27) (v := ?_) (a' := ?_) #[true, true, true, true, true, true, true, false] rfl rfl (any_of HT_.out (by kernel_rfl)) (fun _ _ _ h => h) (Or.inl ⟨by rfl, ?_⟩) ?_ ?_
   rotate_left
   ·intro w'
    go_simp
    with_reducible rfl
   rotate_left
   ·simp only [Act.put, zsi, zcz, zcs, i64_w, i32_w]
    rfl
   refine pure_ (i := 7) (N := some 7) (v := ?_) (a' := ?_) #[true, true, true, true, true, true, true, true] rfl rfl (any_of HT_.out (by kernel_rfl)) (fun _ _ _ h => h) (Or.inl ⟨by rfl, ?_⟩) ?_ ?_
   rotate_left
   ·intro w'
    go_simp
    with_reducible rfl
   rotate_left
   ·simp only [Act.put, zsi, zcz, zcs, i64_w, i32_w]
    rfl
   refine done_ (done_of HT_.out (by kernel_rfl)) ?_
   go_upto_block 0 with (fail)
   go_cut [] (fun wc => ∃ (kq : Nat), As0 (ff_add.j1 kq x1_5 x2_5 (t148 != t149) a0_0 a0_1 = some r) ∧ As0 (kq ≤ kj5) ∧ As0 (wc.heap[gb145]? = some (.cells #[.int .i64 a0_0, .int .i64 a0_1] 43 (0, 0))) ∧ As0 (Below w.heap.size w wc))
   case first =>
    have H := HC14.out
    clear HC14
    replace H := zob H
    obtain ⟨t150, A180, H⟩ := H
    replace H : ((ff_infinity.f a0_0 a0_1).bind fun t151 => (if t150 = t151 then (if (t148 != t149) = true then ((ff_size.f a0_0 a0_1 x2_5).bind fun t152 => ((ff_infinity.f a0_0 a0_1).bind fun t153 => (if t152 = t153 then ((ff_nan.f a0_0 a0_1).bind fun t154 => (some t154)) else (some x1_5)))) else (some x1_5)) else ((ff_size.f a0_0 a0_1 x2_5).bind fun t155 => (if t155 = 0 then ((ff_size.f a0_0 a0_1 x1_5).bind fun t156 => (if t156 > 0 then (some x1_5) else (ff_add.j1 kj5 x1_5 x2_5 (t148 != t149) a0_0 a0_1))) else (ff_add.j1 kj5 x1_5 x2_5 (t148 != t149) a0_0 a0_1))))) = some r := H
    have A18 := As0.mk A180
    clear A180
    replace H := zob H
    obtain ⟨t151, A190, H⟩ := H
    replace H : (if t150 = t151 then (if (t148 != t149) = true then ((ff_size.f a0_0 a0_1 x2_5).bind fun t152 => ((ff_infinity.f a0_0 a0_1).bind fun t153 => (if t152 = t153 then ((ff_nan.f a0_0 a0_1).bind fun t154 => (some t154)) else (some x1_5)))) else (some x1_5)) else ((ff_size.f a0_0 a0_1 x2_5).bind fun t155 => (if t155 = 0 then ((ff_size.f a0_0 a0_1 x1_5).bind fun t156 => (if t156 > 0 then (some x1_5) else (ff_add.j1 kj5 x1_5 x2_5 (t148 != t149) a0_0 a0_1))) else (ff_add.j1 kj5 x1_5 x2_5 (t148 != t149) a0_0 a0_1)))) = some r := H
    have A19 := As0.mk A190
    clear A190
    by_cases c20 : t150 = t151
    ·rw [if_pos c20] at H
     have c20b0 : (t150 == t151) = true := beq_iff_eq.mpr c20
     have c20b1 : (t150 != t151) = false := bne_eq_false_iff_eq.mpr c20
     clear c20
     (first | rw [c20b0] | (simp only [i64_w, i32_w]; rw [c20b0]) | skip)
     by_cases c21 : (t148 != t149) = true
     ·rw [if_pos c21] at H
      have c21b0 : (t148 != t149) = true := c21
      (try (have c21b1 : decide (t148 = t149) = false := by simpa using c21))
      (try (have c21b2 : (t148 == t149) = false := by simpa using c21))
      (try (have c21b3 : ¬ (t148 = t149) := by simpa using c21))
      clear c21
      replace H := zob H
      obtain ⟨t152, A220, H⟩ := H
      replace H : ((ff_infinity.f a0_0 a0_1).bind fun t153 => (if t152 = t153 then ((ff_nan.f a0_0 a0_1).bind fun t154 => (some t154)) else (some x1_5))) = some r := H
      have A22 := As0.mk A220
      clear A220
      replace H := zob H
      obtain ⟨t153, A230, H⟩ := H
      replace H : (if t152 = t153 then ((ff_nan.f a0_0 a0_1).bind fun t154 => (some t154)) else (some x1_5)) = some r := H
      have A23 := As0.mk A230
      clear A230
      by_cases c24 : t152 = t153
      ·rw [if_pos c24] at H
       have c24b0 : (t152 == t153) = true := beq_iff_eq.mpr c24
       have c24b1 : (t152 != t153) = false := bne_eq_false_iff_eq.mpr c24
       clear c24
       replace H := zob H
       obtain ⟨t154, A250, H⟩ := H
       replace H : (some t154) = some r := H
       have A25 := As0.mk A250
       clear A250
       obtain rfl := Option.some.inj H
       try go_wp2
       have n0_ := As0.mk (bkd BK145.out)
       have n1_ := As0.mk (bd1 HB.out)
       clear BK145
       clear HB
       have BK145 := n0_
       have HB := n1_
       clear n0_ n1_
       refine start_ (n := 7) (S := fun w' => w'.cell? ⟨gb145, 0, none⟩ = some (.int .i64 a0_0) ∧ w'.cell? ⟨gb145, 1, none⟩ = some (.int .i64 a0_1)) (ds := []) #[false, false, false, false, false, false, false] (by kernel_rfl) rfl rfl ⟨(bce BK145.out 0).trans rfl, (bce BK145.out 1).trans rfl⟩ (fun hHeld => ?_)
       generalize w17.drew = w26 at BK145 HB hHeld ⊢
       refine pure_ (i := 1) (N := some 30) (v := ?_) (a' := ?_) #[false, true, false, false, false, false, false] rfl rfl (by kernel_rfl) (fun _ _ _ h => h) (Or.inl ⟨by rfl, ?_⟩) ?_ ?_
       rotate_left
       ·intro w'
        go_simp
        with_reducible rfl
       rotate_left
       ·simp only [Act.put, zsi, zcz, zcs, i64_w, i32_w]
        rfl
       refine take_ (i := 0) (N := some 29) (v := ?_) (a' := ?_) #[true, true, false, false, false, false, false] rfl rfl (by kernel_rfl) (fun _ _ _ h => h) (Or.inl ⟨by rfl, ?_⟩) hHeld ?_ ?_
       rotate_left
       ·rintro w' ⟨s0, s1⟩
        go_simp
        with_reducible rfl
       rotate_left
       ·simp only [Act.put, zsi, zcz, zcs, i64_w, i32_w]
        rfl
       refine take_ (i := 3) (N := some 32) (v := ?_) (a' := ?_) #[true, true, false, true, false, false, false] rfl rfl (by kernel_rfl) (fun _ _ _ h => h) (Or.inl ⟨by rfl, ?_⟩) hHeld ?_ ?_
       rotate_left
       ·rintro w' ⟨s0, s1⟩
        go_simp
        with_reducible rfl
       rotate_left
       ·simp only [Act.put, zsi, zcz, zcs, i64_w, i32_w]
        rfl
       refine one_ (i := 2) (N := some 31) #[true, true, true, true, false, false, false] rfl rfl (by kernel_rfl) (by decide) (fun K hK => ?_)
       refine goes_ Try.func40 (by kernel_rfl) rfl #[.agg #[.int .i64 a0_0, .int .i64 a0_1], .int .u64 x1_5] (by rfl) rfl rfl (by (try simp only [zmt, zmc, zmn]); first | done | rfl) ?_
       with_reducible refine (ff_size.calls a0_0 a0_1 x1_5 t150 _ A18.out).mono ?_
       rintro e w27 ⟨rfl, hb⟩
       refine ⟨_, rfl, ?_⟩
       have n0_ := As0.mk (bkb (g := gb145) (o := .cells #[.int .i64 a0_0, .int .i64 a0_1] 43 (0, 0)) (by (with_reducible repeat (first | refine bkN ?_ _ | refine bkd ?_ | refine bka ?_ _)); exact BK145.out) hb)
       have n1_ := As0.mk (bst (by repeat (first | (with_reducible first | exact HB.out | apply bal | apply pwB_ | apply bd1 | refine bse ?_ GE145.out) | exact HB.out)) hb)
       clear BK145
       clear HB
       have BK145 := n0_
       have HB := n1_
       clear n0_ n1_
       (try clear hb)
       (try clear hb2)
       (try clear hk)
       (try clear hi)
       refine hK.out _ _ ⟨(bce BK145.out 0).trans rfl, (bce BK145.out 1).trans rfl⟩ (fun hHeld => ?_)
       clear hK K
       refine norm_ (a' := ?_) ?_ ?_
       rotate_left
       ·show Act.put _ (some 31) _ = _
        simp only [Act.put, zsi, zcz, zcs, i64_w, i32_w]
        rfl
       refine one_ (i := 4) (N := some 33) #[true, true, true, true, true, false, false] rfl rfl (by kernel_rfl) (by decide) (fun K hK => ?_)
       refine goes_ Try.func50 (by kernel_rfl) rfl #[.agg #[.int .i64 a0_0, .int .i64 a0_1]] (by rfl) rfl rfl (by (try simp only [zmt, zmc, zmn]); first | done | rfl) ?_
       with_reducible refine (ff_infinity.calls a0_0 a0_1 t151 _ A19.out).mono ?_
       rintro e w28 ⟨rfl, hb⟩
       refine ⟨_, rfl, ?_⟩
       have n0_ := As0.mk (bkb (g := gb145) (o := .cells #[.int .i64 a0_0, .int .i64 a0_1] 43 (0, 0)) (by (with_reducible repeat (first | refine bkN ?_ _ | refine bkd ?_ | refine bka ?_ _)); exact BK145.out) hb)
       have n1_ := As0.mk (bst (by repeat (first | (with_reducible first | exact HB.out | apply bal | apply pwB_ | apply bd1 | refine bse ?_ GE145.out) | exact HB.out)) hb)
       clear BK145
       clear HB
       have BK145 := n0_
       have HB := n1_
       clear n0_ n1_
       (try clear hb)
       (try clear hb2)
       (try clear hk)
       (try clear hi)
       refine hK.out _ _ ⟨(bce BK145.out 0).trans rfl, (bce BK145.out 1).trans rfl⟩ (fun hHeld => ?_)
       clear hK K
       refine norm_ (a' := ?_) ?_ ?_
       rotate_left
       ·show Act.put _ (some 33) _ = _
        simp only [Act.put, zsi, zcz, zcs, i64_w, i32_w]
        rfl
       refine pure_ (i := 5) (N := some 34) (v := ?_) (a' := ?_) #[true, true, true, true, true, true, false] rfl rfl (by kernel_rfl) (fun _ _ _ h => h) (Or.inl ⟨by rfl, ?_⟩) ?_ ?_
       rotate_left
       ·intro w'
        go_simp
        with_reducible rfl
       rotate_left
       ·simp only [Act.put, zsi, zcz, zcs, i64_w, i32_w]
        rfl
       refine pure_ (i := 6) (N := some 28) (v := ?_) (a' := ?_) #[true, true, true, true, true, true, true] rfl rfl (by kernel_rfl) (fun _ _ _ h => h) (Or.inl ⟨by rfl, ?_⟩) ?_ ?_
       rotate_left
       ·intro w'
        go_simp
        with_reducible rfl
       rotate_left
       ·simp only [Act.put, zsi, zcz, zcs, i64_w, i32_w]
        rfl
       refine done_ (by kernel_rfl) ?_
       try go_wp2
       have n0_ := As0.mk (bkd BK145.out)
       have n1_ := As0.mk (bd1 HB.out)
       clear BK145
       clear HB
       have BK145 := n0_
       have HB := n1_
       clear n0_ n1_
       refine start_ (n := 9) (S := fun w' => w'.cell? ⟨gb145, 0, none⟩ = some (.int .i64 a0_0) ∧ w'.cell? ⟨gb145, 1, none⟩ = some (.int .i64 a0_1)) (ds := []) #[false, false, false, false, false, false, false, false, false] (by kernel_rfl) rfl rfl ⟨(bce BK145.out 0).trans rfl, (bce BK145.out 1).trans rfl⟩ (fun hHeld => ?_); refine with_tabW ff_add.tab5 ff_add.bits5 (fun HT_ HW_ => ?_)
       generalize w28.drew = w29 at BK145 HB hHeld ⊢
       refine pure_ (i := 0) (N := some 35) (v := ?_) (a' := ?_) #[true, false, false, false, false, false, false, false, false] rfl rfl (any_of HT_.out (by kernel_rfl)) (fun _ _ _ h => h) (Or.inl ⟨by rfl, ?_⟩) ?_ ?_
       rotate_left
       ·intro w'
        go_simp
        with_reducible rfl
       rotate_left
       ·simp only [Act.put, zsi, zcz, zcs, i64_w, i32_w]
        rfl
       refine pure_ (i := 1) (N := some 36) (v := ?_) (a' := ?_) #[true, true, false, false, false, false, false, false, false] rfl rfl (any_of HT_.out (by kernel_rfl)) (fun _ _ _ h => h) (Or.inl ⟨by rfl, ?_⟩) ?_ ?_
       rotate_left
       ·intro w'
        go_simp
        with_reducible rfl
       rotate_left
       ·simp only [Act.put, zsi, zcz, zcs, i64_w, i32_w]
        rfl
       refine pure_ (i := 3) (N := some 38) (v := ?_) (a' := ?_) #[true, true, false, true, false, false, false, false, false] rfl rfl (any_of HT_.out (by kernel_rfl)) (fun _ _ _ h => h) (Or.inl ⟨by rfl, ?_⟩) ?_ ?_
       rotate_left
       ·intro w'
        go_simp
        with_reducible rfl
       rotate_left
       ·simp only [Act.put, zsi, zcz, zcs, i64_w, i32_w]
        rfl
       refine take_ (i := 2) (N := some 37) (v := ?_) (a' := ?_) #[true, true, true, true, false, false, false, false, false] rfl rfl (take_ofW HT_.out HW_.out (by kernel_rfl)) (fun _ _ _ h => h) (Or.inl ⟨by rfl, ?_⟩) hHeld ?_ ?_
       rotate_left
       ·rintro w' ⟨s0, s1⟩
        go_simp
        with_reducible rfl
       rotate_left
       ·simp only [Act.put, zsi, zcz, zcs, i64_w, i32_w]
        rfl
       refine take_ (i := 5) (N := some 40) (v := ?_) (a' := ?_) #[true, true, true, true, false, true, false, false, false] rfl rfl (take_ofW HT_.out HW_.out (by kernel_rfl)) (fun _ _ _ h => h) (Or.inl ⟨by rfl, ?_⟩) hHeld ?_ ?_
       rotate_left
       ·rintro w' ⟨s0, s1⟩
        go_simp
        with_reducible rfl
       rotate_left
       ·simp only [Act.put, zsi, zcz, zcs, i64_w, i32_w]
        rfl
       refine one_ (i := 4) (N := some 39) #[true, true, true, true, true, true, false, false, false] rfl rfl (one_of HT_.out (by kernel_rfl)) (by decide) (fun K hK => ?_)
       refine goes_ Try.func40 (by kernel_rfl) rfl #[.agg #[.int .i64 a0_0, .int .i64 a0_1], .int .u64 x2_5] (by rfl) rfl rfl (by (try simp only [zmt, zmc, zmn]); first | done | rfl) ?_
       with_reducible refine (ff_size.calls a0_0 a0_1 x2_5 t152 _ A22.out).mono ?_
       rintro e w30 ⟨rfl, hb⟩
       refine ⟨_, rfl, ?_⟩
       have n0_ := As0.mk (bkb (g := gb145) (o := .cells #[.int .i64 a0_0, .int .i64 a0_1] 43 (0, 0)) (by (with_reducible repeat (first | refine bkN ?_ _ | refine bkd ?_ | refine bka ?_ _)); exact BK145.out) hb)
       have n1_ := As0.mk (bst (by repeat (first | (with_reducible first | exact HB.out | apply bal | apply pwB_ | apply bd1 | refine bse ?_ GE145.out) | exact HB.out)) hb)
       clear BK145
       clear HB
       have BK145 := n0_
       have HB := n1_
       clear n0_ n1_
       (try clear hb)
       (try clear hb2)
       (try clear hk)
       (try clear hi)
       refine hK.out _ _ ⟨(bce BK145.out 0).trans rfl, (bce BK145.out 1).trans rfl⟩ (fun hHeld => ?_)
       clear hK K
       refine norm_ (a' := ?_) ?_ ?_
       rotate_left
       ·show Act.put _ (some 39) _ = _
        simp only [Act.put, zsi, zcz, zcs, i64_w, i32_w]
        rfl
       refine one_ (i := 6) (N := some 41) #[true, true, true, true, true, true, true, false, false] rfl rfl (one_of HT_.out (by kernel_rfl)) (by decide) (fun K hK => ?_)
       refine goes_ Try.func50 (by kernel_rfl) rfl #[.agg #[.int .i64 a0_0, .int .i64 a0_1]] (by rfl) rfl rfl (by (try simp only [zmt, zmc, zmn]); first | done | rfl) ?_
       with_reducible refine (ff_infinity.calls a0_0 a0_1 t153 _ A23.out).mono ?_
       rintro e w31 ⟨rfl, hb⟩
       refine ⟨_, rfl, ?_⟩
       have n0_ := As0.mk (bkb (g := gb145) (o := .cells #[.int .i64 a0_0, .int .i64 a0_1] 43 (0, 0)) (by (with_reducible repeat (first | refine bkN ?_ _ | refine bkd ?_ | refine bka ?_ _)); exact BK145.out) hb)
       have n1_ := As0.mk (bst (by repeat (first | (with_reducible first | exact HB.out | apply bal | apply pwB_ | apply bd1 | refine bse ?_ GE145.out) | exact HB.out)) hb)
       clear BK145
       clear HB
       have BK145 := n0_
       have HB := n1_
       clear n0_ n1_
       (try clear hb)
       (try clear hb2)
       (try clear hk)
       (try clear hi)
       refine hK.out _ _ ⟨(bce BK145.out 0).trans rfl, (bce BK145.out 1).trans rfl⟩ (fun hHeld => ?_)
       clear hK K
       refine norm_ (a' := ?_) ?_ ?_
       rotate_left
       ·show Act.put _ (some 41) _ = _
        simp only [Act.put, zsi, zcz, zcs, i64_w, i32_w]
        rfl
       refine pure_ (i := 7) (N := some 42) (v := ?_) (a' := ?_) #[true, true, true, true, true, true, true, true, false] rfl rfl (any_of HT_.out (by kernel_rfl)) (fun _ _ _ h => h) (Or.inl ⟨by rfl, ?_⟩) ?_ ?_
       rotate_left
       ·intro w'
        go_simp
        with_reducible rfl
       rotate_left
       ·simp only [Act.put, zsi, zcz, zcs, i64_w, i32_w]
        rfl
       refine pure_ (i := 8) (N := some 43) (v := ?_) (a' := ?_) #[true, true, true, true, true, true, true, true, true] rfl rfl (any_of HT_.out (by kernel_rfl)) (fun _ _ _ h => h) (Or.inl ⟨by rfl, ?_⟩) ?_ ?_
       rotate_left
       ·intro w'
        go_simp
        with_reducible rfl
       rotate_left
       ·simp only [Act.put, zsi, zcz, zcs, i64_w, i32_w]
        rfl
       refine done_ (done_of HT_.out (by kernel_rfl)) ?_
       have hcz32_0 : w31.cell? ⟨gb145, 0, none⟩ = some (.int .i64 a0_0) := (bce BK145.out 0).trans rfl
       have hcz32_1 : w31.cell? ⟨gb145, 1, none⟩ = some (.int .i64 a0_1) := (bce BK145.out 1).trans rfl
       have hfz32_0 := bkf BK145.out 0
       have hfz32_1 := bkf BK145.out 1
       try go_wp2_with (first | ((with_reducible refine gcl (f := 42) rfl ?_); refine goesL_ (some 45) rfl rfl Try.func42 (by kernel_rfl) rfl #[.agg #[.int .i64 a0_0, .int .i64 a0_1]] rfl (by (try simp only [zmt, zmc, zmn]); first | done | rfl) ?_; (with_reducible refine (ff_nan.calls a0_0 a0_1 t154 _ A25.out).mono ?_); rintro e w33 ⟨rfl, hb⟩; refine ⟨_, rfl, ?_⟩; have n0_ := As0.mk (bkb (g := gb145) (o := .cells #[.int .i64 a0_0, .int .i64 a0_1] 43 (0, 0)) (by (with_reducible repeat (first | refine bkN ?_ _ | refine bkd ?_ | refine bka ?_ _)); exact BK145.out) hb); have n1_ := As0.mk (bst (by repeat (first | (with_reducible first | exact HB.out | apply bal | apply pwB_ | apply bd1 | refine bse ?_ GE145.out) | exact HB.out)) hb); clear BK145; clear HB; have BK145 := n0_; have HB := n1_; clear n0_ n1_; (try clear hb); (try clear hb2); (try clear hk); (try clear hi)))
       go_ret
       exact ⟨by first | rfl | (simp [*] <;> rfl), by repeat (first | (with_reducible first | exact HB.out | apply bal | apply pwB_ | apply bd1 | refine bse ?_ GE145.out) | exact HB.out)⟩
      ·rw [if_neg c24] at H
       have c24b0 : (t152 == t153) = false := beq_eq_false_iff_ne.mpr c24
       have c24b1 : (t152 != t153) = true := bne_iff_ne.mpr c24
       obtain rfl := Option.some.inj H
       try go_wp2
       have n0_ := As0.mk (bkd BK145.out)
       have n1_ := As0.mk (bd1 HB.out)
       clear BK145
       clear HB
       have BK145 := n0_
       have HB := n1_
       clear n0_ n1_
       refine start_ (n := 7) (S := fun w' => w'.cell? ⟨gb145, 0, none⟩ = some (.int .i64 a0_0) ∧ w'.cell? ⟨gb145, 1, none⟩ = some (.int .i64 a0_1)) (ds := []) #[false, false, false, false, false, false, false] (by kernel_rfl) rfl rfl ⟨(bce BK145.out 0).trans rfl, (bce BK145.out 1).trans rfl⟩ (fun hHeld => ?_)
       generalize w17.drew = w34 at BK145 HB hHeld ⊢
       refine pure_ (i := 1) (N := some 30) (v := ?_) (a' := ?_) #[false, true, false, false, false, false, false] rfl rfl (by kernel_rfl) (fun _ _ _ h => h) (Or.inl ⟨by rfl, ?_⟩) ?_ ?_
       rotate_left
       ·intro w'
        go_simp
        with_reducible rfl
       rotate_left
       ·simp only [Act.put, zsi, zcz, zcs, i64_w, i32_w]
        rfl
       refine take_ (i := 0) (N := some 29) (v := ?_) (a' := ?_) #[true, true, false, false, false, false, false] rfl rfl (by kernel_rfl) (fun _ _ _ h => h) (Or.inl ⟨by rfl, ?_⟩) hHeld ?_ ?_
       rotate_left
       ·rintro w' ⟨s0, s1⟩
        go_simp
        with_reducible rfl
       rotate_left
       ·simp only [Act.put, zsi, zcz, zcs, i64_w, i32_w]
        rfl
       refine take_ (i := 3) (N := some 32) (v := ?_) (a' := ?_) #[true, true, false, true, false, false, false] rfl rfl (by kernel_rfl) (fun _ _ _ h => h) (Or.inl ⟨by rfl, ?_⟩) hHeld ?_ ?_
       rotate_left
       ·rintro w' ⟨s0, s1⟩
        go_simp
        with_reducible rfl
       rotate_left
       ·simp only [Act.put, zsi, zcz, zcs, i64_w, i32_w]
        rfl
       refine one_ (i := 2) (N := some 31) #[true, true, true, true, false, false, false] rfl rfl (by kernel_rfl) (by decide) (fun K hK => ?_)
       refine goes_ Try.func40 (by kernel_rfl) rfl #[.agg #[.int .i64 a0_0, .int .i64 a0_1], .int .u64 x1_5] (by rfl) rfl rfl (by (try simp only [zmt, zmc, zmn]); first | done | rfl) ?_
       with_reducible refine (ff_size.calls a0_0 a0_1 x1_5 t150 _ A18.out).mono ?_
       rintro e w35 ⟨rfl, hb⟩
       refine ⟨_, rfl, ?_⟩
       have n0_ := As0.mk (bkb (g := gb145) (o := .cells #[.int .i64 a0_0, .int .i64 a0_1] 43 (0, 0)) (by (with_reducible repeat (first | refine bkN ?_ _ | refine bkd ?_ | refine bka ?_ _)); exact BK145.out) hb)
       have n1_ := As0.mk (bst (by repeat (first | (with_reducible first | exact HB.out | apply bal | apply pwB_ | apply bd1 | refine bse ?_ GE145.out) | exact HB.out)) hb)
       clear BK145
       clear HB
       have BK145 := n0_
       have HB := n1_
       clear n0_ n1_
       (try clear hb)
       (try clear hb2)
       (try clear hk)
       (try clear hi)
       refine hK.out _ _ ⟨(bce BK145.out 0).trans rfl, (bce BK145.out 1).trans rfl⟩ (fun hHeld => ?_)
       clear hK K
       refine norm_ (a' := ?_) ?_ ?_
       rotate_left
       ·show Act.put _ (some 31) _ = _
        simp only [Act.put, zsi, zcz, zcs, i64_w, i32_w]
        rfl
       refine one_ (i := 4) (N := some 33) #[true, true, true, true, true, false, false] rfl rfl (by kernel_rfl) (by decide) (fun K hK => ?_)
       refine goes_ Try.func50 (by kernel_rfl) rfl #[.agg #[.int .i64 a0_0, .int .i64 a0_1]] (by rfl) rfl rfl (by (try simp only [zmt, zmc, zmn]); first | done | rfl) ?_
       with_reducible refine (ff_infinity.calls a0_0 a0_1 t151 _ A19.out).mono ?_
       rintro e w36 ⟨rfl, hb⟩
       refine ⟨_, rfl, ?_⟩
       have n0_ := As0.mk (bkb (g := gb145) (o := .cells #[.int .i64 a0_0, .int .i64 a0_1] 43 (0, 0)) (by (with_reducible repeat (first | refine bkN ?_ _ | refine bkd ?_ | refine bka ?_ _)); exact BK145.out) hb)
       have n1_ := As0.mk (bst (by repeat (first | (with_reducible first | exact HB.out | apply bal | apply pwB_ | apply bd1 | refine bse ?_ GE145.out) | exact HB.out)) hb)
       clear BK145
       clear HB
       have BK145 := n0_
       have HB := n1_
       clear n0_ n1_
       (try clear hb)
       (try clear hb2)
       (try clear hk)
       (try clear hi)
       refine hK.out _ _ ⟨(bce BK145.out 0).trans rfl, (bce BK145.out 1).trans rfl⟩ (fun hHeld => ?_)
       clear hK K
       refine norm_ (a' := ?_) ?_ ?_
       rotate_left
       ·show Act.put _ (some 33) _ = _
        simp only [Act.put, zsi, zcz, zcs, i64_w, i32_w]
        rfl
       refine pure_ (i := 5) (N := some 34) (v := ?_) (a' := ?_) #[true, true, true, true, true, true, false] rfl rfl (by kernel_rfl) (fun _ _ _ h => h) (Or.inl ⟨by rfl, ?_⟩) ?_ ?_
       rotate_left
       ·intro w'
        go_simp
        with_reducible rfl
       rotate_left
       ·simp only [Act.put, zsi, zcz, zcs, i64_w, i32_w]
        rfl
       refine pure_ (i := 6) (N := some 28) (v := ?_) (a' := ?_) #[true, true, true, true, true, true, true] rfl rfl (by kernel_rfl) (fun _ _ _ h => h) (Or.inl ⟨by rfl, ?_⟩) ?_ ?_
       rotate_left
       ·intro w'
        go_simp
        with_reducible rfl
       rotate_left
       ·simp only [Act.put, zsi, zcz, zcs, i64_w, i32_w]
        rfl
       refine done_ (by kernel_rfl) ?_
       try go_wp2
       have n0_ := As0.mk (bkd BK145.out)
       have n1_ := As0.mk (bd1 HB.out)
       clear BK145
       clear HB
       have BK145 := n0_
       have HB := n1_
       clear n0_ n1_
       refine start_ (n := 9) (S := fun w' => w'.cell? ⟨gb145, 0, none⟩ = some (.int .i64 a0_0) ∧ w'.cell? ⟨gb145, 1, none⟩ = some (.int .i64 a0_1)) (ds := []) #[false, false, false, false, false, false, false, false, false] (by kernel_rfl) rfl rfl ⟨(bce BK145.out 0).trans rfl, (bce BK145.out 1).trans rfl⟩ (fun hHeld => ?_); refine with_tabW ff_add.tab5 ff_add.bits5 (fun HT_ HW_ => ?_)
       generalize w36.drew = w37 at BK145 HB hHeld ⊢
       refine pure_ (i := 0) (N := some 35) (v := ?_) (a' := ?_) #[true, false, false, false, false, false, false, false, false] rfl rfl (any_of HT_.out (by kernel_rfl)) (fun _ _ _ h => h) (Or.inl ⟨by rfl, ?_⟩) ?_ ?_
       rotate_left
       ·intro w'
        go_simp
        with_reducible rfl
       rotate_left
       ·simp only [Act.put, zsi, zcz, zcs, i64_w, i32_w]
        rfl
       refine pure_ (i := 1) (N := some 36) (v := ?_) (a' := ?_) #[true, true, false, false, false, false, false, false, false] rfl rfl (any_of HT_.out (by kernel_rfl)) (fun _ _ _ h => h) (Or.inl ⟨by rfl, ?_⟩) ?_ ?_
       rotate_left
       ·intro w'
        go_simp
        with_reducible rfl
       rotate_left
       ·simp only [Act.put, zsi, zcz, zcs, i64_w, i32_w]
        rfl
       refine pure_ (i := 3) (N := some 38) (v := ?_) (a' := ?_) #[true, true, false, true, false, false, false, false, false] rfl rfl (any_of HT_.out (by kernel_rfl)) (fun _ _ _ h => h) (Or.inl ⟨by rfl, ?_⟩) ?_ ?_
       rotate_left
       ·intro w'
        go_simp
        with_reducible rfl
       rotate_left
       ·simp only [Act.put, zsi, zcz, zcs, i64_w, i32_w]
        rfl
       refine take_ (i := 2) (N := some 37) (v := ?_) (a' := ?_) #[true, true, true, true, false, false, false, false, false] rfl rfl (take_ofW HT_.out HW_.out (by kernel_rfl)) (fun _ _ _ h => h) (Or.inl ⟨by rfl, ?_⟩) hHeld ?_ ?_
       rotate_left
       ·rintro w' ⟨s0, s1⟩
        go_simp
        with_reducible rfl
       rotate_left
       ·simp only [Act.put, zsi, zcz, zcs, i64_w, i32_w]
        rfl
       refine take_ (i := 5) (N := some 40) (v := ?_) (a' := ?_) #[true, true, true, true, false, true, false, false, false] rfl rfl (take_ofW HT_.out HW_.out (by kernel_rfl)) (fun _ _ _ h => h) (Or.inl ⟨by rfl, ?_⟩) hHeld ?_ ?_
       rotate_left
       ·rintro w' ⟨s0, s1⟩
        go_simp
        with_reducible rfl
       rotate_left
       ·simp only [Act.put, zsi, zcz, zcs, i64_w, i32_w]
        rfl
       refine one_ (i := 4) (N := some 39) #[true, true, true, true, true, true, false, false, false] rfl rfl (one_of HT_.out (by kernel_rfl)) (by decide) (fun K hK => ?_)
       refine goes_ Try.func40 (by kernel_rfl) rfl #[.agg #[.int .i64 a0_0, .int .i64 a0_1], .int .u64 x2_5] (by rfl) rfl rfl (by (try simp only [zmt, zmc, zmn]); first | done | rfl) ?_
       with_reducible refine (ff_size.calls a0_0 a0_1 x2_5 t152 _ A22.out).mono ?_
       rintro e w38 ⟨rfl, hb⟩
       refine ⟨_, rfl, ?_⟩
       have n0_ := As0.mk (bkb (g := gb145) (o := .cells #[.int .i64 a0_0, .int .i64 a0_1] 43 (0, 0)) (by (with_reducible repeat (first | refine bkN ?_ _ | refine bkd ?_ | refine bka ?_ _)); exact BK145.out) hb)
       have n1_ := As0.mk (bst (by repeat (first | (with_reducible first | exact HB.out | apply bal | apply pwB_ | apply bd1 | refine bse ?_ GE145.out) | exact HB.out)) hb)
       clear BK145
       clear HB
       have BK145 := n0_
       have HB := n1_
       clear n0_ n1_
       (try clear hb)
       (try clear hb2)
       (try clear hk)
       (try clear hi)
       refine hK.out _ _ ⟨(bce BK145.out 0).trans rfl, (bce BK145.out 1).trans rfl⟩ (fun hHeld => ?_)
       clear hK K
       refine norm_ (a' := ?_) ?_ ?_
       rotate_left
       ·show Act.put _ (some 39) _ = _
        simp only [Act.put, zsi, zcz, zcs, i64_w, i32_w]
        rfl
       refine one_ (i := 6) (N := some 41) #[true, true, true, true, true, true, true, false, false] rfl rfl (one_of HT_.out (by kernel_rfl)) (by decide) (fun K hK => ?_)
       refine goes_ Try.func50 (by kernel_rfl) rfl #[.agg #[.int .i64 a0_0, .int .i64 a0_1]] (by rfl) rfl rfl (by (try simp only [zmt, zmc, zmn]); first | done | rfl) ?_
       with_reducible refine (ff_infinity.calls a0_0 a0_1 t153 _ A23.out).mono ?_
       rintro e w39 ⟨rfl, hb⟩
       refine ⟨_, rfl, ?_⟩
       have n0_ := As0.mk (bkb (g := gb145) (o := .cells #[.int .i64 a0_0, .int .i64 a0_1] 43 (0, 0)) (by (with_reducible repeat (first | refine bkN ?_ _ | refine bkd ?_ | refine bka ?_ _)); exact BK145.out) hb)
       have n1_ := As0.mk (bst (by repeat (first | (with_reducible first | exact HB.out | apply bal | apply pwB_ | apply bd1 | refine bse ?_ GE145.out) | exact HB.out)) hb)
       clear BK145
       clear HB
       have BK145 := n0_
       have HB := n1_
       clear n0_ n1_
       (try clear hb)
       (try clear hb2)
       (try clear hk)
       (try clear hi)
       refine hK.out _ _ ⟨(bce BK145.out 0).trans rfl, (bce BK145.out 1).trans rfl⟩ (fun hHeld => ?_)
       clear hK K
       refine norm_ (a' := ?_) ?_ ?_
       rotate_left
       ·show Act.put _ (some 41) _ = _
        simp only [Act.put, zsi, zcz, zcs, i64_w, i32_w]
        rfl
       refine pure_ (i := 7) (N := some 42) (v := ?_) (a' := ?_) #[true, true, true, true, true, true, true, true, false] rfl rfl (any_of HT_.out (by kernel_rfl)) (fun _ _ _ h => h) (Or.inl ⟨by rfl, ?_⟩) ?_ ?_
       rotate_left
       ·intro w'
        go_simp
        with_reducible rfl
       rotate_left
       ·simp only [Act.put, zsi, zcz, zcs, i64_w, i32_w]
        rfl
       refine pure_ (i := 8) (N := some 43) (v := ?_) (a' := ?_) #[true, true, true, true, true, true, true, true, true] rfl rfl (any_of HT_.out (by kernel_rfl)) (fun _ _ _ h => h) (Or.inl ⟨by rfl, ?_⟩) ?_ ?_
       rotate_left
       ·intro w'
        go_simp
        with_reducible rfl
       rotate_left
       ·simp only [Act.put, zsi, zcz, zcs, i64_w, i32_w]
        rfl
       refine done_ (done_of HT_.out (by kernel_rfl)) ?_
       try go_wp2
       go_ret
       exact ⟨by first | rfl | (simp [*] <;> rfl), by repeat (first | (with_reducible first | exact HB.out | apply bal | apply pwB_ | apply bd1 | refine bse ?_ GE145.out) | exact HB.out)⟩
     ·rw [if_neg c21] at H
      have c21b0 : (t148 != t149) = false := by simpa using c21
      (try (have c21b1 : decide (t148 = t149) = true := by simpa using c21))
      (try (have c21b2 : (t148 == t149) = true := by simpa using c21))
      clear c21
      obtain rfl := Option.some.inj H
      try go_wp2
      have n0_ := As0.mk (bkd BK145.out)
      have n1_ := As0.mk (bd1 HB.out)
      clear BK145
      clear HB
      have BK145 := n0_
      have HB := n1_
      clear n0_ n1_
      refine start_ (n := 7) (S := fun w' => w'.cell? ⟨gb145, 0, none⟩ = some (.int .i64 a0_0) ∧ w'.cell? ⟨gb145, 1, none⟩ = some (.int .i64 a0_1)) (ds := []) #[false, false, false, false, false, false, false] (by kernel_rfl) rfl rfl ⟨(bce BK145.out 0).trans rfl, (bce BK145.out 1).trans rfl⟩ (fun hHeld => ?_)
      generalize w17.drew = w40 at BK145 HB hHeld ⊢
      refine pure_ (i := 1) (N := some 30) (v := ?_) (a' := ?_) #[false, true, false, false, false, false, false] rfl rfl (by kernel_rfl) (fun _ _ _ h => h) (Or.inl ⟨by rfl, ?_⟩) ?_ ?_
      rotate_left
      ·intro w'
       go_simp
       with_reducible rfl
      rotate_left
      ·simp only [Act.put, zsi, zcz, zcs, i64_w, i32_w]
       rfl
      refine take_ (i := 0) (N := some 29) (v := ?_) (a' := ?_) #[true, true, false, false, false, false, false] rfl rfl (by kernel_rfl) (fun _ _ _ h => h) (Or.inl ⟨by rfl, ?_⟩) hHeld ?_ ?_
      rotate_left
      ·rintro w' ⟨s0, s1⟩
       go_simp
       with_reducible rfl
      rotate_left
      ·simp only [Act.put, zsi, zcz, zcs, i64_w, i32_w]
       rfl
      refine take_ (i := 3) (N := some 32) (v := ?_) (a' := ?_) #[true, true, false, true, false, false, false] rfl rfl (by kernel_rfl) (fun _ _ _ h => h) (Or.inl ⟨by rfl, ?_⟩) hHeld ?_ ?_
      rotate_left
      ·rintro w' ⟨s0, s1⟩
       go_simp
       with_reducible rfl
      rotate_left
      ·simp only [Act.put, zsi, zcz, zcs, i64_w, i32_w]
       rfl
      refine one_ (i := 2) (N := some 31) #[true, true, true, true, false, false, false] rfl rfl (by kernel_rfl) (by decide) (fun K hK => ?_)
      refine goes_ Try.func40 (by kernel_rfl) rfl #[.agg #[.int .i64 a0_0, .int .i64 a0_1], .int .u64 x1_5] (by rfl) rfl rfl (by (try simp only [zmt, zmc, zmn]); first | done | rfl) ?_
      with_reducible refine (ff_size.calls a0_0 a0_1 x1_5 t150 _ A18.out).mono ?_
      rintro e w41 ⟨rfl, hb⟩
      refine ⟨_, rfl, ?_⟩
      have n0_ := As0.mk (bkb (g := gb145) (o := .cells #[.int .i64 a0_0, .int .i64 a0_1] 43 (0, 0)) (by (with_reducible repeat (first | refine bkN ?_ _ | refine bkd ?_ | refine bka ?_ _)); exact BK145.out) hb)
      have n1_ := As0.mk (bst (by repeat (first | (with_reducible first | exact HB.out | apply bal | apply pwB_ | apply bd1 | refine bse ?_ GE145.out) | exact HB.out)) hb)
      clear BK145
      clear HB
      have BK145 := n0_
      have HB := n1_
      clear n0_ n1_
      (try clear hb)
      (try clear hb2)
      (try clear hk)
      (try clear hi)
      refine hK.out _ _ ⟨(bce BK145.out 0).trans rfl, (bce BK145.out 1).trans rfl⟩ (fun hHeld => ?_)
      clear hK K
      refine norm_ (a' := ?_) ?_ ?_
      rotate_left
      ·show Act.put _ (some 31) _ = _
       simp only [Act.put, zsi, zcz, zcs, i64_w, i32_w]
       rfl
      refine one_ (i := 4) (N := some 33) #[true, true, true, true, true, false, false] rfl rfl (by kernel_rfl) (by decide) (fun K hK => ?_)
      refine goes_ Try.func50 (by kernel_rfl) rfl #[.agg #[.int .i64 a0_0, .int .i64 a0_1]] (by rfl) rfl rfl (by (try simp only [zmt, zmc, zmn]); first | done | rfl) ?_
      with_reducible refine (ff_infinity.calls a0_0 a0_1 t151 _ A19.out).mono ?_
      rintro e w42 ⟨rfl, hb⟩
      refine ⟨_, rfl, ?_⟩
      have n0_ := As0.mk (bkb (g := gb145) (o := .cells #[.int .i64 a0_0, .int .i64 a0_1] 43 (0, 0)) (by (with_reducible repeat (first | refine bkN ?_ _ | refine bkd ?_ | refine bka ?_ _)); exact BK145.out) hb)
      have n1_ := As0.mk (bst (by repeat (first | (with_reducible first | exact HB.out | apply bal | apply pwB_ | apply bd1 | refine bse ?_ GE145.out) | exact HB.out)) hb)
      clear BK145
      clear HB
      have BK145 := n0_
      have HB := n1_
      clear n0_ n1_
      (try clear hb)
      (try clear hb2)
      (try clear hk)
      (try clear hi)
      refine hK.out _ _ ⟨(bce BK145.out 0).trans rfl, (bce BK145.out 1).trans rfl⟩ (fun hHeld => ?_)
      clear hK K
      refine norm_ (a' := ?_) ?_ ?_
      rotate_left
      ·show Act.put _ (some 33) _ = _
       simp only [Act.put, zsi, zcz, zcs, i64_w, i32_w]
       rfl
      refine pure_ (i := 5) (N := some 34) (v := ?_) (a' := ?_) #[true, true, true, true, true, true, false] rfl rfl (by kernel_rfl) (fun _ _ _ h => h) (Or.inl ⟨by rfl, ?_⟩) ?_ ?_
      rotate_left
      ·intro w'
       go_simp
       with_reducible rfl
      rotate_left
      ·simp only [Act.put, zsi, zcz, zcs, i64_w, i32_w]
       rfl
      refine pure_ (i := 6) (N := some 28) (v := ?_) (a' := ?_) #[true, true, true, true, true, true, true] rfl rfl (by kernel_rfl) (fun _ _ _ h => h) (Or.inl ⟨by rfl, ?_⟩) ?_ ?_
      rotate_left
      ·intro w'
       go_simp
       with_reducible rfl
      rotate_left
      ·simp only [Act.put, zsi, zcz, zcs, i64_w, i32_w]
       rfl
      refine done_ (by kernel_rfl) ?_
      try go_wp2
      have n0_ := As0.mk (bkd BK145.out)
      have n1_ := As0.mk (bd1 HB.out)
      clear BK145
      clear HB
      have BK145 := n0_
      have HB := n1_
      clear n0_ n1_
      refine start_ (n := 9) (S := fun w' => True) (ds := []) #[false, false, false, false, false, false, false, false, false] (by kernel_rfl) rfl rfl trivial (fun hHeld => ?_); refine with_tabW ff_add.tab5 ff_add.bits5 (fun HT_ HW_ => ?_)
      generalize w42.drew = w43 at BK145 HB hHeld ⊢
      refine pure_ (i := 0) (N := some 35) (v := ?_) (a' := ?_) #[true, false, false, false, false, false, false, false, false] rfl rfl (any_of HT_.out (by kernel_rfl)) (fun _ _ _ h => h) (Or.inl ⟨by rfl, ?_⟩) ?_ ?_
      rotate_left
      ·intro w'
       go_simp
       with_reducible rfl
      rotate_left
      ·simp only [Act.put, zsi, zcz, zcs, i64_w, i32_w]
       rfl
      refine pure_ (i := 1) (N := some 36) (v := ?_) (a' := ?_) #[true, true, false, false, false, false, false, false, false] rfl rfl (any_of HT_.out (by kernel_rfl)) (fun _ _ _ h => h) (Or.inl ⟨by rfl, ?_⟩) ?_ ?_
      rotate_left
      ·intro w'
       go_simp
       with_reducible rfl
      rotate_left
      ·simp only [Act.put, zsi, zcz, zcs, i64_w, i32_w]
       rfl
      refine pure_ (i := 2) (N := some 37) (v := undef) (a' := ?_) #[true, true, true, false, false, false, false, false, false] rfl rfl (any_of HT_.out (by kernel_rfl)) (fun _ _ _ h => h) (Or.inr ⟨by rfl, rfl⟩) ?_ ?_
      rotate_left
      ·simp only [Act.put, zsi, zcz, zcs, i64_w, i32_w]
       rfl
      refine pure_ (i := 3) (N := some 38) (v := undef) (a' := ?_) #[true, true, true, true, false, false, false, false, false] rfl rfl (any_of HT_.out (by kernel_rfl)) (fun _ _ _ h => h) (Or.inr ⟨by rfl, rfl⟩) ?_ ?_
      rotate_left
      ·simp only [Act.put, zsi, zcz, zcs, i64_w, i32_w]
       rfl
      refine pure_ (i := 4) (N := some 39) (v := undef) (a' := ?_) #[true, true, true, true, true, false, false, false, false] rfl rfl (any_of HT_.out (by kernel_rfl)) (fun _ _ _ h => h) (Or.inr ⟨by rfl, rfl⟩) ?_ ?_
      rotate_left
      ·simp only [Act.put, zsi, zcz, zcs, i64_w, i32_w]
       rfl
      refine pure_ (i := 5) (N := some 40) (v := undef) (a' := ?_) #[true, true, true, true, true, true, false, false, false] rfl rfl (any_of HT_.out (by kernel_rfl)) (fun _ _ _ h => h) (Or.inr ⟨by rfl, rfl⟩) ?_ ?_
      rotate_left
      ·simp only [Act.put, zsi, zcz, zcs, i64_w, i32_w]
       rfl
      refine pure_ (i := 6) (N := some 41) (v := undef) (a' := ?_) #[true, true, true, true, true, true, true, false, false] rfl rfl (any_of HT_.out (by kernel_rfl)) (fun _ _ _ h => h) (Or.inr ⟨by rfl, rfl⟩) ?_ ?_
      rotate_left
      ·simp only [Act.put, zsi, zcz, zcs, i64_w, i32_w]
       rfl
      refine pure_ (i := 7) (N := some 42) (v := undef) (a' := ?_) #[true, true, true, true, true, true, true, true, false] rfl rfl (any_of HT_.out (by kernel_rfl)) (fun _ _ _ h => h) (Or.inr ⟨by rfl, rfl⟩) ?_ ?_
      rotate_left
      ·simp only [Act.put, zsi, zcz, zcs, i64_w, i32_w]
       rfl
      refine pure_ (i := 8) (N := some 43) (v := ?_) (a' := ?_) #[true, true, true, true, true, true, true, true, true] rfl rfl (any_of HT_.out (by kernel_rfl)) (fun _ _ _ h => h) (Or.inl ⟨by rfl, ?_⟩) ?_ ?_
      rotate_left
      ·intro w'
       go_simp
       with_reducible rfl
      rotate_left
      ·simp only [Act.put, zsi, zcz, zcs, i64_w, i32_w]
       rfl
      refine done_ (done_of HT_.out (by kernel_rfl)) ?_
      try go_wp2
      go_ret
      exact ⟨by first | rfl | (simp [*] <;> rfl), by repeat (first | (with_reducible first | exact HB.out | apply bal | apply pwB_ | apply bd1 | refine bse ?_ GE145.out) | exact HB.out)⟩
    ·rw [if_neg c20] at H
     have c20b0 : (t150 == t151) = false := beq_eq_false_iff_ne.mpr c20
     have c20b1 : (t150 != t151) = true := bne_iff_ne.mpr c20
     (first | rw [c20b0] | (simp only [i64_w, i32_w]; rw [c20b0]) | skip)
     replace H := zob H
     obtain ⟨t155, A440, H⟩ := H
     replace H : (if t155 = 0 then ((ff_size.f a0_0 a0_1 x1_5).bind fun t156 => (if t156 > 0 then (some x1_5) else (ff_add.j1 kj5 x1_5 x2_5 (t148 != t149) a0_0 a0_1))) else (ff_add.j1 kj5 x1_5 x2_5 (t148 != t149) a0_0 a0_1)) = some r := H
     have A44 := As0.mk A440
     clear A440
     by_cases c45 : t155 = 0
     ·rw [if_pos c45] at H
      have c45b0 : (t155 == 0) = true := beq_iff_eq.mpr c45
      have c45b1 : (t155 != 0) = false := bne_eq_false_iff_eq.mpr c45
      clear c45
      replace H := zob H
      obtain ⟨t156, A460, H⟩ := H
      replace H : (if t156 > 0 then (some x1_5) else (ff_add.j1 kj5 x1_5 x2_5 (t148 != t149) a0_0 a0_1)) = some r := H
      have A46 := As0.mk A460
      clear A460
      by_cases c47 : t156 > 0
      ·rw [if_pos c47] at H
       have c47b0 : decide (0 < t156) = true := decide_eq_true c47
       clear c47
       obtain rfl := Option.some.inj H
       try go_wp2
       have n0_ := As0.mk (bkd BK145.out)
       have n1_ := As0.mk (bd1 HB.out)
       clear BK145
       clear HB
       have BK145 := n0_
       have HB := n1_
       clear n0_ n1_
       refine start_ (n := 7) (S := fun w' => w'.cell? ⟨gb145, 0, none⟩ = some (.int .i64 a0_0) ∧ w'.cell? ⟨gb145, 1, none⟩ = some (.int .i64 a0_1)) (ds := []) #[false, false, false, false, false, false, false] (by kernel_rfl) rfl rfl ⟨(bce BK145.out 0).trans rfl, (bce BK145.out 1).trans rfl⟩ (fun hHeld => ?_)
       generalize w17.drew = w48 at BK145 HB hHeld ⊢
       refine pure_ (i := 1) (N := some 30) (v := ?_) (a' := ?_) #[false, true, false, false, false, false, false] rfl rfl (by kernel_rfl) (fun _ _ _ h => h) (Or.inl ⟨by rfl, ?_⟩) ?_ ?_
       rotate_left
       ·intro w'
        go_simp
        with_reducible rfl
       rotate_left
       ·simp only [Act.put, zsi, zcz, zcs, i64_w, i32_w]
        rfl
       refine take_ (i := 0) (N := some 29) (v := ?_) (a' := ?_) #[true, true, false, false, false, false, false] rfl rfl (by kernel_rfl) (fun _ _ _ h => h) (Or.inl ⟨by rfl, ?_⟩) hHeld ?_ ?_
       rotate_left
       ·rintro w' ⟨s0, s1⟩
        go_simp
        with_reducible rfl
       rotate_left
       ·simp only [Act.put, zsi, zcz, zcs, i64_w, i32_w]
        rfl
       refine take_ (i := 3) (N := some 32) (v := ?_) (a' := ?_) #[true, true, false, true, false, false, false] rfl rfl (by kernel_rfl) (fun _ _ _ h => h) (Or.inl ⟨by rfl, ?_⟩) hHeld ?_ ?_
       rotate_left
       ·rintro w' ⟨s0, s1⟩
        go_simp
        with_reducible rfl
       rotate_left
       ·simp only [Act.put, zsi, zcz, zcs, i64_w, i32_w]
        rfl
       refine one_ (i := 2) (N := some 31) #[true, true, true, true, false, false, false] rfl rfl (by kernel_rfl) (by decide) (fun K hK => ?_)
       refine goes_ Try.func40 (by kernel_rfl) rfl #[.agg #[.int .i64 a0_0, .int .i64 a0_1], .int .u64 x1_5] (by rfl) rfl rfl (by (try simp only [zmt, zmc, zmn]); first | done | rfl) ?_
       with_reducible refine (ff_size.calls a0_0 a0_1 x1_5 t150 _ A18.out).mono ?_
       rintro e w49 ⟨rfl, hb⟩
       refine ⟨_, rfl, ?_⟩
       have n0_ := As0.mk (bkb (g := gb145) (o := .cells #[.int .i64 a0_0, .int .i64 a0_1] 43 (0, 0)) (by (with_reducible repeat (first | refine bkN ?_ _ | refine bkd ?_ | refine bka ?_ _)); exact BK145.out) hb)
       have n1_ := As0.mk (bst (by repeat (first | (with_reducible first | exact HB.out | apply bal | apply pwB_ | apply bd1 | refine bse ?_ GE145.out) | exact HB.out)) hb)
       clear BK145
       clear HB
       have BK145 := n0_
       have HB := n1_
       clear n0_ n1_
       (try clear hb)
       (try clear hb2)
       (try clear hk)
       (try clear hi)
       refine hK.out _ _ ⟨(bce BK145.out 0).trans rfl, (bce BK145.out 1).trans rfl⟩ (fun hHeld => ?_)
       clear hK K
       refine norm_ (a' := ?_) ?_ ?_
       rotate_left
       ·show Act.put _ (some 31) _ = _
        simp only [Act.put, zsi, zcz, zcs, i64_w, i32_w]
        rfl
       refine one_ (i := 4) (N := some 33) #[true, true, true, true, true, false, false] rfl rfl (by kernel_rfl) (by decide) (fun K hK => ?_)
       refine goes_ Try.func50 (by kernel_rfl) rfl #[.agg #[.int .i64 a0_0, .int .i64 a0_1]] (by rfl) rfl rfl (by (try simp only [zmt, zmc, zmn]); first | done | rfl) ?_
       with_reducible refine (ff_infinity.calls a0_0 a0_1 t151 _ A19.out).mono ?_
       rintro e w50 ⟨rfl, hb⟩
       refine ⟨_, rfl, ?_⟩
       have n0_ := As0.mk (bkb (g := gb145) (o := .cells #[.int .i64 a0_0, .int .i64 a0_1] 43 (0, 0)) (by (with_reducible repeat (first | refine bkN ?_ _ | refine bkd ?_ | refine bka ?_ _)); exact BK145.out) hb)
       have n1_ := As0.mk (bst (by repeat (first | (with_reducible first | exact HB.out | apply bal | apply pwB_ | apply bd1 | refine bse ?_ GE145.out) | exact HB.out)) hb)
       clear BK145
       clear HB
       have BK145 := n0_
       have HB := n1_
       clear n0_ n1_
       (try clear hb)
       (try clear hb2)
       (try clear hk)
       (try clear hi)
       refine hK.out _ _ ⟨(bce BK145.out 0).trans rfl, (bce BK145.out 1).trans rfl⟩ (fun hHeld => ?_)
       clear hK K
       refine norm_ (a' := ?_) ?_ ?_
       rotate_left
       ·show Act.put _ (some 33) _ = _
        simp only [Act.put, zsi, zcz, zcs, i64_w, i32_w]
        rfl
       refine pure_ (i := 5) (N := some 34) (v := ?_) (a' := ?_) #[true, true, true, true, true, true, false] rfl rfl (by kernel_rfl) (fun _ _ _ h => h) (Or.inl ⟨by rfl, ?_⟩) ?_ ?_
       rotate_left
       ·intro w'
        go_simp
        with_reducible rfl
       rotate_left
       ·simp only [Act.put, zsi, zcz, zcs, i64_w, i32_w]
        rfl
       refine pure_ (i := 6) (N := some 28) (v := ?_) (a' := ?_) #[true, true, true, true, true, true, true] rfl rfl (by kernel_rfl) (fun _ _ _ h => h) (Or.inl ⟨by rfl, ?_⟩) ?_ ?_
       rotate_left
       ·intro w'
        go_simp
        with_reducible rfl
       rotate_left
       ·simp only [Act.put, zsi, zcz, zcs, i64_w, i32_w]
        rfl
       refine done_ (by kernel_rfl) ?_
       have hcz51_0 : w50.cell? ⟨gb145, 0, none⟩ = some (.int .i64 a0_0) := (bce BK145.out 0).trans rfl
       have hcz51_1 : w50.cell? ⟨gb145, 1, none⟩ = some (.int .i64 a0_1) := (bce BK145.out 1).trans rfl
       have hfz51_0 := bkf BK145.out 0
       have hfz51_1 := bkf BK145.out 1
       try go_wp2_with (first | ((with_reducible refine gcl (f := 40) rfl ?_); refine goesL_ (some 50) rfl rfl Try.func40 (by kernel_rfl) rfl #[.agg #[.int .i64 a0_0, .int .i64 a0_1], .int .u64 x2_5] rfl (by (try simp only [zmt, zmc, zmn]); first | done | rfl) ?_; (with_reducible refine (ff_size.calls a0_0 a0_1 x2_5 t155 _ A44.out).mono ?_); rintro e w52 ⟨rfl, hb⟩; refine ⟨_, rfl, ?_⟩; have n0_ := As0.mk (bkb (g := gb145) (o := .cells #[.int .i64 a0_0, .int .i64 a0_1] 43 (0, 0)) (by (with_reducible repeat (first | refine bkN ?_ _ | refine bkd ?_ | refine bka ?_ _)); exact BK145.out) hb); have n1_ := As0.mk (bst (by repeat (first | (with_reducible first | exact HB.out | apply bal | apply pwB_ | apply bd1 | refine bse ?_ GE145.out) | exact HB.out)) hb); clear BK145; clear HB; have BK145 := n0_; have HB := n1_; clear n0_ n1_; (try clear hb); (try clear hb2); (try clear hk); (try clear hi); have hcz53_0 : w52.cell? ⟨gb145, 0, none⟩ = some (.int .i64 a0_0) := (bce BK145.out 0).trans rfl; have hcz53_1 : w52.cell? ⟨gb145, 1, none⟩ = some (.int .i64 a0_1) := (bce BK145.out 1).trans rfl; have hfz53_0 := bkf BK145.out 0; have hfz53_1 := bkf BK145.out 1) | (go_at_call 40; (with_reducible refine (ff_size.calls a0_0 a0_1 x1_5 t156 _ A46.out).mono ?_); rintro e w54 ⟨rfl, hb⟩; have n0_ := As0.mk (bkb (g := gb145) (o := .cells #[.int .i64 a0_0, .int .i64 a0_1] 43 (0, 0)) (by (with_reducible repeat (first | refine bkN ?_ _ | refine bkd ?_ | refine bka ?_ _)); exact BK145.out) hb); have n1_ := As0.mk (bst (by repeat (first | (with_reducible first | exact HB.out | apply bal | apply pwB_ | apply bd1 | refine bse ?_ GE145.out) | exact HB.out)) hb); clear BK145; clear HB; have BK145 := n0_; have HB := n1_; clear n0_ n1_; (try clear hb); (try clear hb2); (try clear hk); (try clear hi)))
       go_ret
       exact ⟨by first | rfl | (simp [*] <;> rfl), by repeat (first | (with_reducible first | exact HB.out | apply bal | apply pwB_ | apply bd1 | refine bse ?_ GE145.out) | exact HB.out)⟩
      ·rw [if_neg c47] at H
       have c47b0 : decide (0 < t156) = false := decide_eq_false c47
       clear c47
       have H' := As0.mk H
       clear H
       try go_wp2
       have n0_ := As0.mk (bkd BK145.out)
       have n1_ := As0.mk (bd1 HB.out)
       clear BK145
       clear HB
       have BK145 := n0_
       have HB := n1_
       clear n0_ n1_
       refine start_ (n := 7) (S := fun w' => w'.cell? ⟨gb145, 0, none⟩ = some (.int .i64 a0_0) ∧ w'.cell? ⟨gb145, 1, none⟩ = some (.int .i64 a0_1)) (ds := []) #[false, false, false, false, false, false, false] (by kernel_rfl) rfl rfl ⟨(bce BK145.out 0).trans rfl, (bce BK145.out 1).trans rfl⟩ (fun hHeld => ?_)
       generalize w17.drew = w55 at BK145 HB hHeld ⊢
       refine pure_ (i := 1) (N := some 30) (v := ?_) (a' := ?_) #[false, true, false, false, false, false, false] rfl rfl (by kernel_rfl) (fun _ _ _ h => h) (Or.inl ⟨by rfl, ?_⟩) ?_ ?_
       rotate_left
       ·intro w'
        go_simp
        with_reducible rfl
       rotate_left
       ·simp only [Act.put, zsi, zcz, zcs, i64_w, i32_w]
        rfl
       refine take_ (i := 0) (N := some 29) (v := ?_) (a' := ?_) #[true, true, false, false, false, false, false] rfl rfl (by kernel_rfl) (fun _ _ _ h => h) (Or.inl ⟨by rfl, ?_⟩) hHeld ?_ ?_
       rotate_left
       ·rintro w' ⟨s0, s1⟩
        go_simp
        with_reducible rfl
       rotate_left
       ·simp only [Act.put, zsi, zcz, zcs, i64_w, i32_w]
        rfl
       refine take_ (i := 3) (N := some 32) (v := ?_) (a' := ?_) #[true, true, false, true, false, false, false] rfl rfl (by kernel_rfl) (fun _ _ _ h => h) (Or.inl ⟨by rfl, ?_⟩) hHeld ?_ ?_
       rotate_left
       ·rintro w' ⟨s0, s1⟩
        go_simp
        with_reducible rfl
       rotate_left
       ·simp only [Act.put, zsi, zcz, zcs, i64_w, i32_w]
        rfl
       refine one_ (i := 2) (N := some 31) #[true, true, true, true, false, false, false] rfl rfl (by kernel_rfl) (by decide) (fun K hK => ?_)
       refine goes_ Try.func40 (by kernel_rfl) rfl #[.agg #[.int .i64 a0_0, .int .i64 a0_1], .int .u64 x1_5] (by rfl) rfl rfl (by (try simp only [zmt, zmc, zmn]); first | done | rfl) ?_
       with_reducible refine (ff_size.calls a0_0 a0_1 x1_5 t150 _ A18.out).mono ?_
       rintro e w56 ⟨rfl, hb⟩
       refine ⟨_, rfl, ?_⟩
       have n0_ := As0.mk (bkb (g := gb145) (o := .cells #[.int .i64 a0_0, .int .i64 a0_1] 43 (0, 0)) (by (with_reducible repeat (first | refine bkN ?_ _ | refine bkd ?_ | refine bka ?_ _)); exact BK145.out) hb)
       have n1_ := As0.mk (bst (by repeat (first | (with_reducible first | exact HB.out | apply bal | apply pwB_ | apply bd1 | refine bse ?_ GE145.out) | exact HB.out)) hb)
       clear BK145
       clear HB
       have BK145 := n0_
       have HB := n1_
       clear n0_ n1_
       (try clear hb)
       (try clear hb2)
       (try clear hk)
       (try clear hi)
       refine hK.out _ _ ⟨(bce BK145.out 0).trans rfl, (bce BK145.out 1).trans rfl⟩ (fun hHeld => ?_)
       clear hK K
       refine norm_ (a' := ?_) ?_ ?_
       rotate_left
       ·show Act.put _ (some 31) _ = _
        simp only [Act.put, zsi, zcz, zcs, i64_w, i32_w]
        rfl
       refine one_ (i := 4) (N := some 33) #[true, true, true, true, true, false, false] rfl rfl (by kernel_rfl) (by decide) (fun K hK => ?_)
       refine goes_ Try.func50 (by kernel_rfl) rfl #[.agg #[.int .i64 a0_0, .int .i64 a0_1]] (by rfl) rfl rfl (by (try simp only [zmt, zmc, zmn]); first | done | rfl) ?_
       with_reducible refine (ff_infinity.calls a0_0 a0_1 t151 _ A19.out).mono ?_
       rintro e w57 ⟨rfl, hb⟩
       refine ⟨_, rfl, ?_⟩
       have n0_ := As0.mk (bkb (g := gb145) (o := .cells #[.int .i64 a0_0, .int .i64 a0_1] 43 (0, 0)) (by (with_reducible repeat (first | refine bkN ?_ _ | refine bkd ?_ | refine bka ?_ _)); exact BK145.out) hb)
       have n1_ := As0.mk (bst (by repeat (first | (with_reducible first | exact HB.out | apply bal | apply pwB_ | apply bd1 | refine bse ?_ GE145.out) | exact HB.out)) hb)
       clear BK145
       clear HB
       have BK145 := n0_
       have HB := n1_
       clear n0_ n1_
       (try clear hb)
       (try clear hb2)
       (try clear hk)
       (try clear hi)
       refine hK.out _ _ ⟨(bce BK145.out 0).trans rfl, (bce BK145.out 1).trans rfl⟩ (fun hHeld => ?_)
       clear hK K
       refine norm_ (a' := ?_) ?_ ?_
       rotate_left
       ·show Act.put _ (some 33) _ = _
        simp only [Act.put, zsi, zcz, zcs, i64_w, i32_w]
        rfl
       refine pure_ (i := 5) (N := some 34) (v := ?_) (a' := ?_) #[true, true, true, true, true, true, false] rfl rfl (by kernel_rfl) (fun _ _ _ h => h) (Or.inl ⟨by rfl, ?_⟩) ?_ ?_
       rotate_left
       ·intro w'
        go_simp
        with_reducible rfl
       rotate_left
       ·simp only [Act.put, zsi, zcz, zcs, i64_w, i32_w]
        rfl
       refine pure_ (i := 6) (N := some 28) (v := ?_) (a' := ?_) #[true, true, true, true, true, true, true] rfl rfl (by kernel_rfl) (fun _ _ _ h => h) (Or.inl ⟨by rfl, ?_⟩) ?_ ?_
       rotate_left
       ·intro w'
        go_simp
        with_reducible rfl
       rotate_left
       ·simp only [Act.put, zsi, zcz, zcs, i64_w, i32_w]
        rfl
       refine done_ (by kernel_rfl) ?_
       have hcz58_0 : w57.cell? ⟨gb145, 0, none⟩ = some (.int .i64 a0_0) := (bce BK145.out 0).trans rfl
       have hcz58_1 : w57.cell? ⟨gb145, 1, none⟩ = some (.int .i64 a0_1) := (bce BK145.out 1).trans rfl
       have hfz58_0 := bkf BK145.out 0
       have hfz58_1 := bkf BK145.out 1
       try go_wp2_with (first | ((with_reducible refine gcl (f := 40) rfl ?_); refine goesL_ (some 50) rfl rfl Try.func40 (by kernel_rfl) rfl #[.agg #[.int .i64 a0_0, .int .i64 a0_1], .int .u64 x2_5] rfl (by (try simp only [zmt, zmc, zmn]); first | done | rfl) ?_; (with_reducible refine (ff_size.calls a0_0 a0_1 x2_5 t155 _ A44.out).mono ?_); rintro e w59 ⟨rfl, hb⟩; refine ⟨_, rfl, ?_⟩; have n0_ := As0.mk (bkb (g := gb145) (o := .cells #[.int .i64 a0_0, .int .i64 a0_1] 43 (0, 0)) (by (with_reducible repeat (first | refine bkN ?_ _ | refine bkd ?_ | refine bka ?_ _)); exact BK145.out) hb); have n1_ := As0.mk (bst (by repeat (first | (with_reducible first | exact HB.out | apply bal | apply pwB_ | apply bd1 | refine bse ?_ GE145.out) | exact HB.out)) hb); clear BK145; clear HB; have BK145 := n0_; have HB := n1_; clear n0_ n1_; (try clear hb); (try clear hb2); (try clear hk); (try clear hi); have hcz60_0 : w59.cell? ⟨gb145, 0, none⟩ = some (.int .i64 a0_0) := (bce BK145.out 0).trans rfl; have hcz60_1 : w59.cell? ⟨gb145, 1, none⟩ = some (.int .i64 a0_1) := (bce BK145.out 1).trans rfl; have hfz60_0 := bkf BK145.out 0; have hfz60_1 := bkf BK145.out 1) | (go_at_call 40; (with_reducible refine (ff_size.calls a0_0 a0_1 x1_5 t156 _ A46.out).mono ?_); rintro e w61 ⟨rfl, hb⟩; have n0_ := As0.mk (bkb (g := gb145) (o := .cells #[.int .i64 a0_0, .int .i64 a0_1] 43 (0, 0)) (by (with_reducible repeat (first | refine bkN ?_ _ | refine bkd ?_ | refine bka ?_ _)); exact BK145.out) hb); have n1_ := As0.mk (bst (by repeat (first | (with_reducible first | exact HB.out | apply bal | apply pwB_ | apply bd1 | refine bse ?_ GE145.out) | exact HB.out)) hb); clear BK145; clear HB; have BK145 := n0_; have HB := n1_; clear n0_ n1_; (try clear hb); (try clear hb2); (try clear hk); (try clear hi)))
       go_meet
       case rel => exact ⟨_, H', ⟨by have := HJ5.out; first | omega | exact Nat.le_refl _⟩, ⟨by (with_reducible repeat (first | refine bkN ?_ _ | refine bkd ?_ | refine bka ?_ _)); exact BK145.out⟩, ⟨by repeat (first | (with_reducible first | exact HB.out | apply bal | apply pwB_ | apply bd1 | refine bse ?_ GE145.out) | exact HB.out)⟩⟩
     ·rw [if_neg c45] at H
      have c45b0 : (t155 == 0) = false := beq_eq_false_iff_ne.mpr c45
      have c45b1 : (t155 != 0) = true := bne_iff_ne.mpr c45
      have H' := As0.mk H
      clear H
      try go_wp2
      have n0_ := As0.mk (bkd BK145.out)
      have n1_ := As0.mk (bd1 HB.out)
      clear BK145
      clear HB
      have BK145 := n0_
      have HB := n1_
      clear n0_ n1_
      refine start_ (n := 7) (S := fun w' => w'.cell? ⟨gb145, 0, none⟩ = some (.int .i64 a0_0) ∧ w'.cell? ⟨gb145, 1, none⟩ = some (.int .i64 a0_1)) (ds := []) #[false, false, false, false, false, false, false] (by kernel_rfl) rfl rfl ⟨(bce BK145.out 0).trans rfl, (bce BK145.out 1).trans rfl⟩ (fun hHeld => ?_)
      generalize w17.drew = w62 at BK145 HB hHeld ⊢
      refine pure_ (i := 1) (N := some 30) (v := ?_) (a' := ?_) #[false, true, false, false, false, false, false] rfl rfl (by kernel_rfl) (fun _ _ _ h => h) (Or.inl ⟨by rfl, ?_⟩) ?_ ?_
      rotate_left
      ·intro w'
       go_simp
       with_reducible rfl
      rotate_left
      ·simp only [Act.put, zsi, zcz, zcs, i64_w, i32_w]
       rfl
      refine take_ (i := 0) (N := some 29) (v := ?_) (a' := ?_) #[true, true, false, false, false, false, false] rfl rfl (by kernel_rfl) (fun _ _ _ h => h) (Or.inl ⟨by rfl, ?_⟩) hHeld ?_ ?_
      rotate_left
      ·rintro w' ⟨s0, s1⟩
       go_simp
       with_reducible rfl
      rotate_left
      ·simp only [Act.put, zsi, zcz, zcs, i64_w, i32_w]
       rfl
      refine take_ (i := 3) (N := some 32) (v := ?_) (a' := ?_) #[true, true, false, true, false, false, false] rfl rfl (by kernel_rfl) (fun _ _ _ h => h) (Or.inl ⟨by rfl, ?_⟩) hHeld ?_ ?_
      rotate_left
      ·rintro w' ⟨s0, s1⟩
       go_simp
       with_reducible rfl
      rotate_left
      ·simp only [Act.put, zsi, zcz, zcs, i64_w, i32_w]
       rfl
      refine one_ (i := 2) (N := some 31) #[true, true, true, true, false, false, false] rfl rfl (by kernel_rfl) (by decide) (fun K hK => ?_)
      refine goes_ Try.func40 (by kernel_rfl) rfl #[.agg #[.int .i64 a0_0, .int .i64 a0_1], .int .u64 x1_5] (by rfl) rfl rfl (by (try simp only [zmt, zmc, zmn]); first | done | rfl) ?_
      with_reducible refine (ff_size.calls a0_0 a0_1 x1_5 t150 _ A18.out).mono ?_
      rintro e w63 ⟨rfl, hb⟩
      refine ⟨_, rfl, ?_⟩
      have n0_ := As0.mk (bkb (g := gb145) (o := .cells #[.int .i64 a0_0, .int .i64 a0_1] 43 (0, 0)) (by (with_reducible repeat (first | refine bkN ?_ _ | refine bkd ?_ | refine bka ?_ _)); exact BK145.out) hb)
      have n1_ := As0.mk (bst (by repeat (first | (with_reducible first | exact HB.out | apply bal | apply pwB_ | apply bd1 | refine bse ?_ GE145.out) | exact HB.out)) hb)
      clear BK145
      clear HB
      have BK145 := n0_
      have HB := n1_
      clear n0_ n1_
      (try clear hb)
      (try clear hb2)
      (try clear hk)
      (try clear hi)
      refine hK.out _ _ ⟨(bce BK145.out 0).trans rfl, (bce BK145.out 1).trans rfl⟩ (fun hHeld => ?_)
      clear hK K
      refine norm_ (a' := ?_) ?_ ?_
      rotate_left
      ·show Act.put _ (some 31) _ = _
       simp only [Act.put, zsi, zcz, zcs, i64_w, i32_w]
       rfl
      refine one_ (i := 4) (N := some 33) #[true, true, true, true, true, false, false] rfl rfl (by kernel_rfl) (by decide) (fun K hK => ?_)
      refine goes_ Try.func50 (by kernel_rfl) rfl #[.agg #[.int .i64 a0_0, .int .i64 a0_1]] (by rfl) rfl rfl (by (try simp only [zmt, zmc, zmn]); first | done | rfl) ?_
      with_reducible refine (ff_infinity.calls a0_0 a0_1 t151 _ A19.out).mono ?_
      rintro e w64 ⟨rfl, hb⟩
      refine ⟨_, rfl, ?_⟩
      have n0_ := As0.mk (bkb (g := gb145) (o := .cells #[.int .i64 a0_0, .int .i64 a0_1] 43 (0, 0)) (by (with_reducible repeat (first | refine bkN ?_ _ | refine bkd ?_ | refine bka ?_ _)); exact BK145.out) hb)
      have n1_ := As0.mk (bst (by repeat (first | (with_reducible first | exact HB.out | apply bal | apply pwB_ | apply bd1 | refine bse ?_ GE145.out) | exact HB.out)) hb)
      clear BK145
      clear HB
      have BK145 := n0_
      have HB := n1_
      clear n0_ n1_
      (try clear hb)
      (try clear hb2)
      (try clear hk)
      (try clear hi)
      refine hK.out _ _ ⟨(bce BK145.out 0).trans rfl, (bce BK145.out 1).trans rfl⟩ (fun hHeld => ?_)
      clear hK K
      refine norm_ (a' := ?_) ?_ ?_
      rotate_left
      ·show Act.put _ (some 33) _ = _
       simp only [Act.put, zsi, zcz, zcs, i64_w, i32_w]
       rfl
      refine pure_ (i := 5) (N := some 34) (v := ?_) (a' := ?_) #[true, true, true, true, true, true, false] rfl rfl (by kernel_rfl) (fun _ _ _ h => h) (Or.inl ⟨by rfl, ?_⟩) ?_ ?_
      rotate_left
      ·intro w'
       go_simp
       with_reducible rfl
      rotate_left
      ·simp only [Act.put, zsi, zcz, zcs, i64_w, i32_w]
       rfl
      refine pure_ (i := 6) (N := some 28) (v := ?_) (a' := ?_) #[true, true, true, true, true, true, true] rfl rfl (by kernel_rfl) (fun _ _ _ h => h) (Or.inl ⟨by rfl, ?_⟩) ?_ ?_
      rotate_left
      ·intro w'
       go_simp
       with_reducible rfl
      rotate_left
      ·simp only [Act.put, zsi, zcz, zcs, i64_w, i32_w]
       rfl
      refine done_ (by kernel_rfl) ?_
      have hcz65_0 : w64.cell? ⟨gb145, 0, none⟩ = some (.int .i64 a0_0) := (bce BK145.out 0).trans rfl
      have hcz65_1 : w64.cell? ⟨gb145, 1, none⟩ = some (.int .i64 a0_1) := (bce BK145.out 1).trans rfl
      have hfz65_0 := bkf BK145.out 0
      have hfz65_1 := bkf BK145.out 1
      try go_wp2_with (first | ((with_reducible refine gcl (f := 40) rfl ?_); refine goesL_ (some 50) rfl rfl Try.func40 (by kernel_rfl) rfl #[.agg #[.int .i64 a0_0, .int .i64 a0_1], .int .u64 x2_5] rfl (by (try simp only [zmt, zmc, zmn]); first | done | rfl) ?_; (with_reducible refine (ff_size.calls a0_0 a0_1 x2_5 t155 _ A44.out).mono ?_); rintro e w66 ⟨rfl, hb⟩; refine ⟨_, rfl, ?_⟩; have n0_ := As0.mk (bkb (g := gb145) (o := .cells #[.int .i64 a0_0, .int .i64 a0_1] 43 (0, 0)) (by (with_reducible repeat (first | refine bkN ?_ _ | refine bkd ?_ | refine bka ?_ _)); exact BK145.out) hb); have n1_ := As0.mk (bst (by repeat (first | (with_reducible first | exact HB.out | apply bal | apply pwB_ | apply bd1 | refine bse ?_ GE145.out) | exact HB.out)) hb); clear BK145; clear HB; have BK145 := n0_; have HB := n1_; clear n0_ n1_; (try clear hb); (try clear hb2); (try clear hk); (try clear hi)))
      go_meet
      case rel => exact ⟨_, H', ⟨by have := HJ5.out; first | omega | exact Nat.le_refl _⟩, ⟨by (with_reducible repeat (first | refine bkN ?_ _ | refine bkd ?_ | refine bka ?_ _)); exact BK145.out⟩, ⟨by repeat (first | (with_reducible first | exact HB.out | apply bal | apply pwB_ | apply bd1 | refine bse ?_ GE145.out) | exact HB.out)⟩⟩
   case rest =>
    clear HC14
    try clear c2
    try clear p2
    try clear c4
    try clear c5
    try clear c20
    try clear c20b0
    try clear c20b1
    try clear c21
    try clear c21b0
    try clear c21b1
    try clear c21b2
    try clear c40
    try clear c45
    try clear c45b0
    try clear c45b1
    try clear c47
    try clear c47b0
    try clear c50
    try clear hcz51_0
    try clear hcz51_1
    try clear hcz53_0
    try clear hcz53_1
    try clear hcz58_0
    try clear hcz58_1
    try clear hcz60_0
    try clear hcz60_1
    try clear hcz65_0
    try clear hcz65_1
    try clear hfz51_0
    try clear hfz51_1
    try clear hfz53_0
    try clear hfz53_1
    try clear hfz58_0
    try clear hfz58_1
    try clear hfz60_0
    try clear hfz60_1
    try clear hfz65_0
    try clear hfz65_1
    obtain ⟨kq, HA, HJ13, BK145, HB⟩ := hcut
    cases kq with
    | zero => exact absurd HA.out (by simp [ff_add.j1])
    | succ kj13 =>
     have H := HA.out
     clear HA
     simp only [ff_add.j1] at H
     replace H := zob H
     obtain ⟨⟨t157, t158⟩, A670, H⟩ := H
     replace H : ((ff_parts.f a0_0 a0_1 x2_5).bind fun bt159 => ((floats_jam.f (IntKind.u64.wrap (bt159.1 * 1024)) (wrap64 (t158 - bt159.2))).bind fun t161 => (if (t148 != t149) = true then ((ff_neg.f a0_0 a0_1 x1_5).bind fun t162 => (if t162 = true then ((ff_round.f kj13 a0_0 a0_1 ((IntKind.u64.wrap (t157 * 1024)) != t161) (IntKind.u64.wrap ((IntKind.u64.wrap (t157 * 1024)) - t161)) (wrap64 (t158 - 10)) false).bind fun t163 => (some t163)) else ((ff_round.f kj13 a0_0 a0_1 false (IntKind.u64.wrap ((IntKind.u64.wrap (t157 * 1024)) - t161)) (wrap64 (t158 - 10)) false).bind fun t164 => (some t164)))) else ((ff_neg.f a0_0 a0_1 x1_5).bind fun t165 => ((ff_round.f kj13 a0_0 a0_1 t165 (IntKind.u64.wrap ((IntKind.u64.wrap (t157 * 1024)) + t161)) (wrap64 (t158 - 10)) false).bind fun t166 => (some t166)))))) = some r := H
     have A67 := As0.mk A670
     clear A670
     replace H := zob H
     obtain ⟨⟨t159, t160⟩, A680, H⟩ := H
     replace H : ((floats_jam.f (IntKind.u64.wrap (t159 * 1024)) (wrap64 (t158 - t160))).bind fun t161 => (if (t148 != t149) = true then ((ff_neg.f a0_0 a0_1 x1_5).bind fun t162 => (if t162 = true then ((ff_round.f kj13 a0_0 a0_1 ((IntKind.u64.wrap (t157 * 1024)) != t161) (IntKind.u64.wrap ((IntKind.u64.wrap (t157 * 1024)) - t161)) (wrap64 (t158 - 10)) false).bind fun t163 => (some t163)) else ((ff_round.f kj13 a0_0 a0_1 false (IntKind.u64.wrap ((IntKind.u64.wrap (t157 * 1024)) - t161)) (wrap64 (t158 - 10)) false).bind fun t164 => (some t164)))) else ((ff_neg.f a0_0 a0_1 x1_5).bind fun t165 => ((ff_round.f kj13 a0_0 a0_1 t165 (IntKind.u64.wrap ((IntKind.u64.wrap (t157 * 1024)) + t161)) (wrap64 (t158 - 10)) false).bind fun t166 => (some t166))))) = some r := H
     have A68 := As0.mk A680
     clear A680
     replace H := zob H
     obtain ⟨t161, A690, H⟩ := H
     replace H : (if (t148 != t149) = true then ((ff_neg.f a0_0 a0_1 x1_5).bind fun t162 => (if t162 = true then ((ff_round.f kj13 a0_0 a0_1 ((IntKind.u64.wrap (t157 * 1024)) != t161) (IntKind.u64.wrap ((IntKind.u64.wrap (t157 * 1024)) - t161)) (wrap64 (t158 - 10)) false).bind fun t163 => (some t163)) else ((ff_round.f kj13 a0_0 a0_1 false (IntKind.u64.wrap ((IntKind.u64.wrap (t157 * 1024)) - t161)) (wrap64 (t158 - 10)) false).bind fun t164 => (some t164)))) else ((ff_neg.f a0_0 a0_1 x1_5).bind fun t165 => ((ff_round.f kj13 a0_0 a0_1 t165 (IntKind.u64.wrap ((IntKind.u64.wrap (t157 * 1024)) + t161)) (wrap64 (t158 - 10)) false).bind fun t166 => (some t166)))) = some r := H
     have A69 := As0.mk A690
     clear A690
     by_cases c70 : (t148 != t149) = true
     ·rw [if_pos c70] at H
      have c70b0 : (t148 != t149) = true := c70
      (try (have c70b1 : decide (t148 = t149) = false := by simpa using c70))
      (try (have c70b2 : (t148 == t149) = false := by simpa using c70))
      (try (have c70b3 : ¬ (t148 = t149) := by simpa using c70))
      clear c70
      replace H := zob H
      obtain ⟨t162, A710, H⟩ := H
      replace H : (if t162 = true then ((ff_round.f kj13 a0_0 a0_1 ((IntKind.u64.wrap (t157 * 1024)) != t161) (IntKind.u64.wrap ((IntKind.u64.wrap (t157 * 1024)) - t161)) (wrap64 (t158 - 10)) false).bind fun t163 => (some t163)) else ((ff_round.f kj13 a0_0 a0_1 false (IntKind.u64.wrap ((IntKind.u64.wrap (t157 * 1024)) - t161)) (wrap64 (t158 - 10)) false).bind fun t164 => (some t164))) = some r := H
      have A71 := As0.mk A710
      clear A710
      by_cases c72 : t162 = true
      ·subst c72
       have H1 : ((ff_round.f kj13 a0_0 a0_1 ((IntKind.u64.wrap (t157 * 1024)) != t161) (IntKind.u64.wrap ((IntKind.u64.wrap (t157 * 1024)) - t161)) (wrap64 (t158 - 10)) false).bind fun t163 => (some t163)) = some r := by rw [if_pos rfl] at H; exact H
       clear H
       have H := H1
       clear H1
       replace H := zob H
       obtain ⟨t163, A730, H⟩ := H
       replace H : (some t163) = some r := H
       have A73 := As0.mk A730
       clear A730
       obtain rfl := Option.some.inj H
       have hcz74_0 : wc.cell? ⟨gb145, 0, none⟩ = some (.int .i64 a0_0) := (bce BK145.out 0).trans rfl
       have hcz74_1 : wc.cell? ⟨gb145, 1, none⟩ = some (.int .i64 a0_1) := (bce BK145.out 1).trans rfl
       have hfz74_0 := bkf BK145.out 0
       have hfz74_1 := bkf BK145.out 1
       try go_wp2_with (first | ((with_reducible refine gcl (f := 57) rfl ?_); refine goesL_ (some 62) rfl rfl Try.func57 (by kernel_rfl) rfl #[.agg #[.int .i64 a0_0, .int .i64 a0_1], .int .u64 x1_5] rfl (by (try simp only [zmt, zmc, zmn]); first | done | rfl) ?_; (with_reducible refine (ff_parts.calls a0_0 a0_1 x1_5 t157 t158 _ A67.out).mono ?_); rintro e w75 ⟨rfl, hb⟩; refine ⟨_, rfl, ?_⟩; have n0_ := As0.mk (bkb (g := gb145) (o := .cells #[.int .i64 a0_0, .int .i64 a0_1] 43 (0, 0)) (by (with_reducible repeat (first | refine bkN ?_ _ | refine bkd ?_ | refine bka ?_ _)); exact BK145.out) hb); have n1_ := As0.mk (bst (by repeat (first | (with_reducible first | exact HB.out | apply bal | apply pwB_ | apply bd1 | refine bse ?_ GE145.out) | exact HB.out)) hb); clear BK145; clear HB; have BK145 := n0_; have HB := n1_; clear n0_ n1_; (try clear hb); (try clear hb2); (try clear hk); (try clear hi); have hcz76_0 : w75.cell? ⟨gb145, 0, none⟩ = some (.int .i64 a0_0) := (bce BK145.out 0).trans rfl; have hcz76_1 : w75.cell? ⟨gb145, 1, none⟩ = some (.int .i64 a0_1) := (bce BK145.out 1).trans rfl; have hfz76_0 := bkf BK145.out 0; have hfz76_1 := bkf BK145.out 1) | ((with_reducible refine gcl (f := 57) rfl ?_); refine goesL_ (some 68) rfl rfl Try.func57 (by kernel_rfl) rfl #[.agg #[.int .i64 a0_0, .int .i64 a0_1], .int .u64 x2_5] rfl (by (try simp only [zmt, zmc, zmn]); first | done | rfl) ?_; (with_reducible refine (ff_parts.calls a0_0 a0_1 x2_5 t159 t160 _ A68.out).mono ?_); rintro e w77 ⟨rfl, hb⟩; refine ⟨_, rfl, ?_⟩; have n0_ := As0.mk (bkb (g := gb145) (o := .cells #[.int .i64 a0_0, .int .i64 a0_1] 43 (0, 0)) (by (with_reducible repeat (first | refine bkN ?_ _ | refine bkd ?_ | refine bka ?_ _)); exact BK145.out) hb); have n1_ := As0.mk (bst (by repeat (first | (with_reducible first | exact HB.out | apply bal | apply pwB_ | apply bd1 | refine bse ?_ GE145.out) | exact HB.out)) hb); clear BK145; clear HB; have BK145 := n0_; have HB := n1_; clear n0_ n1_; (try clear hb); (try clear hb2); (try clear hk); (try clear hi)) | ((with_reducible refine gcl (f := 65) rfl ?_); refine goesL_ (some 78) rfl rfl Try.func65 (by kernel_rfl) rfl #[.int .u64 (IntKind.u64.wrap (t159 * 1024)), .int .i64 (wrap64 (t158 - t160))] rfl (by (try simp only [zmt, zmc, zmn]); first | done | rfl) ?_; (with_reducible refine (floats_jam.calls (IntKind.u64.wrap (t159 * 1024)) (wrap64 (t158 - t160)) t161 _ A69.out).mono ?_); rintro e w' ⟨rfl, ⟨nd, rfl⟩⟩; refine ⟨_, rfl, ?_⟩))
       (try (rw [drewN_self w77]; generalize hq_ : World.drewN w77 _ = w77; have n0_ : As0 (w77.heap[gb145]? = some (.cells #[.int .i64 a0_0, .int .i64 a0_1] 43 (0, 0))) := ⟨by rw [← hq_]; exact (by (with_reducible repeat (first | refine bkN ?_ _ | refine bkd ?_ | refine bka ?_ _)); exact BK145.out)⟩; have n1_ : As0 (Below w.heap.size w w77) := ⟨by rw [← hq_]; exact (by repeat (first | (with_reducible first | exact HB.out | apply bal | apply pwB_ | apply bd1 | refine bse ?_ GE145.out) | exact HB.out))⟩; clear BK145 HB hq_; have BK145 := n0_; have HB := n1_; clear n0_ n1_))
       have n0_ := As0.mk (bkd BK145.out)
       have n1_ := As0.mk (bd1 HB.out)
       clear BK145
       clear HB
       have BK145 := n0_
       have HB := n1_
       clear n0_ n1_
       refine start_ (n := 16) (S := fun w' => w'.cell? ⟨gb145, 0, none⟩ = some (.int .i64 a0_0) ∧ w'.cell? ⟨gb145, 1, none⟩ = some (.int .i64 a0_1)) (ds := []) #[false, false, false, false, false, false, false, false, false, false, false, false, false, false, false, false] (by kernel_rfl) rfl rfl ⟨(bce BK145.out 0).trans rfl, (bce BK145.out 1).trans rfl⟩ (fun hHeld => ?_); refine with_tabW ff_add.tab15 ff_add.bits15 (fun HT_ HW_ => ?_)
       generalize w77.drew = w78 at BK145 HB hHeld ⊢
       refine pure_ (i := 2) (N := some 93) (v := ?_) (a' := ?_) #[false, false, true, false, false, false, false, false, false, false, false, false, false, false, false, false] rfl rfl (any_of HT_.out (by kernel_rfl)) (fun _ _ _ h => h) (Or.inl ⟨by rfl, ?_⟩) ?_ ?_
       rotate_left
       ·intro w'
        go_simp
        with_reducible rfl
       rotate_left
       ·simp only [Act.put, zsi, zcz, zcs, i64_w, i32_w]
        rfl
       refine pure_ (i := 9) (N := some 100) (v := ?_) (a' := ?_) #[false, false, true, false, false, false, false, false, false, true, false, false, false, false, false, false] rfl rfl (any_of HT_.out (by kernel_rfl)) (fun _ _ _ h => h) (Or.inl ⟨by rfl, ?_⟩) ?_ ?_
       rotate_left
       ·intro w'
        go_simp
        with_reducible rfl
       rotate_left
       ·simp only [Act.put, zsi, zcz, zcs, i64_w, i32_w]
        rfl
       refine pure_ (i := 10) (N := some 101) (v := ?_) (a' := ?_) #[false, false, true, false, false, false, false, false, false, true, true, false, false, false, false, false] rfl rfl (any_of HT_.out (by kernel_rfl)) (fun _ _ _ h => h) (Or.inl ⟨by rfl, ?_⟩) ?_ ?_
       rotate_left
       ·intro w'
        go_simp
        with_reducible rfl
       rotate_left
       ·simp only [Act.put, zsi, zcz, zcs, i64_w, i32_w]
        rfl
       refine pure_ (i := 11) (N := some 102) (v := ?_) (a' := ?_) #[false, false, true, false, false, false, false, false, false, true, true, true, false, false, false, false] rfl rfl (any_of HT_.out (by kernel_rfl)) (fun _ _ _ h => h) (Or.inl ⟨by rfl, ?_⟩) ?_ ?_
       rotate_left
       ·intro w'
        go_simp
        with_reducible rfl
       rotate_left
       ·simp only [Act.put, zsi, zcz, zcs, i64_w, i32_w]
        rfl
       refine pure_ (i := 12) (N := some 103) (v := ?_) (a' := ?_) #[false, false, true, false, false, false, false, false, false, true, true, true, true, false, false, false] rfl rfl (any_of HT_.out (by kernel_rfl)) (fun _ _ _ h => h) (Or.inl ⟨by rfl, ?_⟩) ?_ ?_
       rotate_left
       ·intro w'
        go_simp
        with_reducible rfl
       rotate_left
       ·simp only [Act.put, zsi, zcz, zcs, i64_w, i32_w]
        rfl
       refine pure_ (i := 13) (N := some 104) (v := ?_) (a' := ?_) #[false, false, true, false, false, false, false, false, false, true, true, true, true, true, false, false] rfl rfl (any_of HT_.out (by kernel_rfl)) (fun _ _ _ h => h) (Or.inl ⟨by rfl, ?_⟩) ?_ ?_
       rotate_left
       ·intro w'
        go_simp
        with_reducible rfl
       rotate_left
       ·simp only [Act.put, zsi, zcz, zcs, i64_w, i32_w]
        rfl
       refine take_ (i := 0) (N := some 91) (v := ?_) (a' := ?_) #[true, false, true, false, false, false, false, false, false, true, true, true, true, true, false, false] rfl rfl (take_ofW HT_.out HW_.out (by kernel_rfl)) (fun _ _ _ h => h) (Or.inl ⟨by rfl, ?_⟩) hHeld ?_ ?_
       rotate_left
       ·rintro w' ⟨s0, s1⟩
        go_simp
        with_reducible rfl
       rotate_left
       ·simp only [Act.put, zsi, zcz, zcs, i64_w, i32_w]
        rfl
       refine take_ (i := 1) (N := some 92) (v := ?_) (a' := ?_) #[true, true, true, false, false, false, false, false, false, true, true, true, true, true, false, false] rfl rfl (take_ofW HT_.out HW_.out (by kernel_rfl)) (fun _ _ _ h => h) (Or.inl ⟨by rfl, ?_⟩) hHeld ?_ ?_
       rotate_left
       ·rintro w' ⟨s0, s1⟩
        go_simp
        with_reducible rfl
       rotate_left
       ·simp only [Act.put, zsi, zcz, zcs, i64_w, i32_w]
        rfl
       refine one_ (i := 3) (N := some 94) #[true, true, true, true, false, false, false, false, false, true, true, true, true, true, false, false] rfl rfl (one_of HT_.out (by kernel_rfl)) (by decide) (fun K hK => ?_)
       refine goes_ Try.func39 (by kernel_rfl) rfl #[.agg #[.int .i64 a0_0, .int .i64 a0_1], .int .u64 x1_5] (by rfl) rfl rfl (by (try simp only [zmt, zmc, zmn]); first | done | rfl) ?_
       with_reducible refine (ff_neg.calls a0_0 a0_1 x1_5 true _ A71.out).mono ?_
       rintro e w79 ⟨rfl, hb⟩
       refine ⟨_, rfl, ?_⟩
       have n0_ := As0.mk (bkb (g := gb145) (o := .cells #[.int .i64 a0_0, .int .i64 a0_1] 43 (0, 0)) (by (with_reducible repeat (first | refine bkN ?_ _ | refine bkd ?_ | refine bka ?_ _)); exact BK145.out) hb)
       have n1_ := As0.mk (bst (by repeat (first | (with_reducible first | exact HB.out | apply bal | apply pwB_ | apply bd1 | refine bse ?_ GE145.out) | exact HB.out)) hb)
       clear BK145
       clear HB
       have BK145 := n0_
       have HB := n1_
       clear n0_ n1_
       (try clear hb)
       (try clear hb2)
       (try clear hk)
       (try clear hi)
       refine hK.out _ _ ⟨(bce BK145.out 0).trans rfl, (bce BK145.out 1).trans rfl⟩ (fun hHeld => ?_)
       clear hK K
       refine norm_ (a' := ?_) ?_ ?_
       rotate_left
       ·show Act.put _ (some 94) _ = _
        simp only [Act.put, zsi, zcz, zcs, i64_w, i32_w]
        rfl
       refine pure_ (i := 4) (N := some 95) (v := ?_) (a' := ?_) #[true, true, true, true, true, false, false, false, false, true, true, true, true, true, false, false] rfl rfl (any_of HT_.out (by kernel_rfl)) (fun _ _ _ h => h) (Or.inl ⟨by rfl, ?_⟩) ?_ ?_
       rotate_left
       ·intro w'
        go_simp
        with_reducible rfl
       rotate_left
       ·simp only [Act.put, zsi, zcz, zcs, i64_w, i32_w]
        rfl
       refine pure_ (i := 5) (N := some 96) (v := ?_) (a' := ?_) #[true, true, true, true, true, true, false, false, false, true, true, true, true, true, false, false] rfl rfl (any_of HT_.out (by kernel_rfl)) (fun _ _ _ h => h) (Or.inl ⟨by rfl, ?_⟩) ?_ ?_
       rotate_left
       ·intro w'
        go_simp
        with_reducible rfl
       rotate_left
       ·simp only [Act.put, zsi, zcz, zcs, i64_w, i32_w]
        rfl
       refine pure_ (i := 6) (N := some 97) (v := ?_) (a' := ?_) #[true, true, true, true, true, true, true, false, false, true, true, true, true, true, false, false] rfl rfl (any_of HT_.out (by kernel_rfl)) (fun _ _ _ h => h) (Or.inl ⟨by rfl, ?_⟩) ?_ ?_
       rotate_left
       ·intro w'
        go_simp
        with_reducible rfl
       rotate_left
       ·simp only [Act.put, zsi, zcz, zcs, i64_w, i32_w]
        rfl
       refine pure_ (i := 7) (N := some 98) (v := ?_) (a' := ?_) #[true, true, true, true, true, true, true, true, false, true, true, true, true, true, false, false] rfl rfl (any_of HT_.out (by kernel_rfl)) (fun _ _ _ h => h) (Or.inl ⟨by rfl, ?_⟩) ?_ ?_
       rotate_left
       ·intro w'
        go_simp
        with_reducible rfl
       rotate_left
       ·simp only [Act.put, zsi, zcz, zcs, i64_w, i32_w]
        rfl
       refine pure_ (i := 8) (N := some 99) (v := ?_) (a' := ?_) #[true, true, true, true, true, true, true, true, true, true, true, true, true, true, false, false] rfl rfl (any_of HT_.out (by kernel_rfl)) (fun _ _ _ h => h) (Or.inl ⟨by rfl, ?_⟩) ?_ ?_
       rotate_left
       ·intro w'
        go_simp
        with_reducible rfl
       rotate_left
       ·simp only [Act.put, zsi, zcz, zcs, i64_w, i32_w]
        rfl
       refine one_ (i := 14) (N := some 105) #[true, true, true, true, true, true, true, true, true, true, true, true, true, true, true, false] rfl rfl (one_of HT_.out (by kernel_rfl)) (by decide) (fun K hK => ?_)
       refine goes_ Try.func33 (by kernel_rfl) rfl #[.agg #[.int .i64 a0_0, .int .i64 a0_1], .bool ((IntKind.u64.wrap (t157 * 1024)) != t161), .int .u64 (IntKind.u64.wrap ((IntKind.u64.wrap (t157 * 1024)) - t161)), .int .i64 (wrap64 (t158 - 10)), .bool false] (by rfl) rfl rfl (by (try simp only [zmt, zmc, zmn]); first | done | rfl) ?_
       with_reducible refine (ff_round.calls kj13 a0_0 a0_1 ((IntKind.u64.wrap (t157 * 1024)) != t161) (IntKind.u64.wrap ((IntKind.u64.wrap (t157 * 1024)) - t161)) (wrap64 (t158 - 10)) false t163 _ A73.out).mono ?_
       rintro e w80 ⟨rfl, hb⟩
       refine ⟨_, rfl, ?_⟩
       have n0_ := As0.mk (bkb (g := gb145) (o := .cells #[.int .i64 a0_0, .int .i64 a0_1] 43 (0, 0)) (by (with_reducible repeat (first | refine bkN ?_ _ | refine bkd ?_ | refine bka ?_ _)); exact BK145.out) hb)
       have n1_ := As0.mk (bst (by repeat (first | (with_reducible first | exact HB.out | apply bal | apply pwB_ | apply bd1 | refine bse ?_ GE145.out) | exact HB.out)) hb)
       clear BK145
       clear HB
       have BK145 := n0_
       have HB := n1_
       clear n0_ n1_
       (try clear hb)
       (try clear hb2)
       (try clear hk)
       (try clear hi)
       refine hK.out _ _ ⟨(bce BK145.out 0).trans rfl, (bce BK145.out 1).trans rfl⟩ (fun hHeld => ?_)
       clear hK K
       refine norm_ (a' := ?_) ?_ ?_
       rotate_left
       ·show Act.put _ (some 105) _ = _
        simp only [Act.put, zsi, zcz, zcs, i64_w, i32_w]
        rfl
       refine pure_ (i := 15) (N := some 6) (v := ?_) (a' := ?_) #[true, true, true, true, true, true, true, true, true, true, true, true, true, true, true, true] rfl rfl (any_of HT_.out (by kernel_rfl)) (fun _ _ _ h => h) (Or.inl ⟨by rfl, ?_⟩) ?_ ?_
       rotate_left
       ·intro w'
        go_simp
        with_reducible rfl
       rotate_left
       ·simp only [Act.put, zsi, zcz, zcs, i64_w, i32_w]
        rfl
       refine done_ (done_of HT_.out (by kernel_rfl)) ?_
       try go_wp2
       go_ret
       exact ⟨by first | rfl | (simp [*] <;> rfl), by repeat (first | (with_reducible first | exact HB.out | apply bal | apply pwB_ | apply bd1 | refine bse ?_ GE145.out) | exact HB.out)⟩
      ·replace c72 := Bool.eq_false_iff.mpr c72
       subst c72
       have H1 : ((ff_round.f kj13 a0_0 a0_1 false (IntKind.u64.wrap ((IntKind.u64.wrap (t157 * 1024)) - t161)) (wrap64 (t158 - 10)) false).bind fun t164 => (some t164)) = some r := by rw [if_neg (show ¬ (false = true) by decide)] at H; exact H
       clear H
       have H := H1
       clear H1
       replace H := zob H
       obtain ⟨t164, A810, H⟩ := H
       replace H : (some t164) = some r := H
       have A81 := As0.mk A810
       clear A810
       obtain rfl := Option.some.inj H
       have hcz82_0 : wc.cell? ⟨gb145, 0, none⟩ = some (.int .i64 a0_0) := (bce BK145.out 0).trans rfl
       have hcz82_1 : wc.cell? ⟨gb145, 1, none⟩ = some (.int .i64 a0_1) := (bce BK145.out 1).trans rfl
       have hfz82_0 := bkf BK145.out 0
       have hfz82_1 := bkf BK145.out 1
       try go_wp2_with (first | ((with_reducible refine gcl (f := 57) rfl ?_); refine goesL_ (some 62) rfl rfl Try.func57 (by kernel_rfl) rfl #[.agg #[.int .i64 a0_0, .int .i64 a0_1], .int .u64 x1_5] rfl (by (try simp only [zmt, zmc, zmn]); first | done | rfl) ?_; (with_reducible refine (ff_parts.calls a0_0 a0_1 x1_5 t157 t158 _ A67.out).mono ?_); rintro e w83 ⟨rfl, hb⟩; refine ⟨_, rfl, ?_⟩; have n0_ := As0.mk (bkb (g := gb145) (o := .cells #[.int .i64 a0_0, .int .i64 a0_1] 43 (0, 0)) (by (with_reducible repeat (first | refine bkN ?_ _ | refine bkd ?_ | refine bka ?_ _)); exact BK145.out) hb); have n1_ := As0.mk (bst (by repeat (first | (with_reducible first | exact HB.out | apply bal | apply pwB_ | apply bd1 | refine bse ?_ GE145.out) | exact HB.out)) hb); clear BK145; clear HB; have BK145 := n0_; have HB := n1_; clear n0_ n1_; (try clear hb); (try clear hb2); (try clear hk); (try clear hi); have hcz84_0 : w83.cell? ⟨gb145, 0, none⟩ = some (.int .i64 a0_0) := (bce BK145.out 0).trans rfl; have hcz84_1 : w83.cell? ⟨gb145, 1, none⟩ = some (.int .i64 a0_1) := (bce BK145.out 1).trans rfl; have hfz84_0 := bkf BK145.out 0; have hfz84_1 := bkf BK145.out 1) | ((with_reducible refine gcl (f := 57) rfl ?_); refine goesL_ (some 68) rfl rfl Try.func57 (by kernel_rfl) rfl #[.agg #[.int .i64 a0_0, .int .i64 a0_1], .int .u64 x2_5] rfl (by (try simp only [zmt, zmc, zmn]); first | done | rfl) ?_; (with_reducible refine (ff_parts.calls a0_0 a0_1 x2_5 t159 t160 _ A68.out).mono ?_); rintro e w85 ⟨rfl, hb⟩; refine ⟨_, rfl, ?_⟩; have n0_ := As0.mk (bkb (g := gb145) (o := .cells #[.int .i64 a0_0, .int .i64 a0_1] 43 (0, 0)) (by (with_reducible repeat (first | refine bkN ?_ _ | refine bkd ?_ | refine bka ?_ _)); exact BK145.out) hb); have n1_ := As0.mk (bst (by repeat (first | (with_reducible first | exact HB.out | apply bal | apply pwB_ | apply bd1 | refine bse ?_ GE145.out) | exact HB.out)) hb); clear BK145; clear HB; have BK145 := n0_; have HB := n1_; clear n0_ n1_; (try clear hb); (try clear hb2); (try clear hk); (try clear hi)) | ((with_reducible refine gcl (f := 65) rfl ?_); refine goesL_ (some 78) rfl rfl Try.func65 (by kernel_rfl) rfl #[.int .u64 (IntKind.u64.wrap (t159 * 1024)), .int .i64 (wrap64 (t158 - t160))] rfl (by (try simp only [zmt, zmc, zmn]); first | done | rfl) ?_; (with_reducible refine (floats_jam.calls (IntKind.u64.wrap (t159 * 1024)) (wrap64 (t158 - t160)) t161 _ A69.out).mono ?_); rintro e w' ⟨rfl, ⟨nd, rfl⟩⟩; refine ⟨_, rfl, ?_⟩))
       (try (rw [drewN_self w85]; generalize hq_ : World.drewN w85 _ = w85; have n0_ : As0 (w85.heap[gb145]? = some (.cells #[.int .i64 a0_0, .int .i64 a0_1] 43 (0, 0))) := ⟨by rw [← hq_]; exact (by (with_reducible repeat (first | refine bkN ?_ _ | refine bkd ?_ | refine bka ?_ _)); exact BK145.out)⟩; have n1_ : As0 (Below w.heap.size w w85) := ⟨by rw [← hq_]; exact (by repeat (first | (with_reducible first | exact HB.out | apply bal | apply pwB_ | apply bd1 | refine bse ?_ GE145.out) | exact HB.out))⟩; clear BK145 HB hq_; have BK145 := n0_; have HB := n1_; clear n0_ n1_))
       have n0_ := As0.mk (bkd BK145.out)
       have n1_ := As0.mk (bd1 HB.out)
       clear BK145
       clear HB
       have BK145 := n0_
       have HB := n1_
       clear n0_ n1_
       refine start_ (n := 16) (S := fun w' => w'.cell? ⟨gb145, 0, none⟩ = some (.int .i64 a0_0) ∧ w'.cell? ⟨gb145, 1, none⟩ = some (.int .i64 a0_1)) (ds := []) #[false, false, false, false, false, false, false, false, false, false, false, false, false, false, false, false] (by kernel_rfl) rfl rfl ⟨(bce BK145.out 0).trans rfl, (bce BK145.out 1).trans rfl⟩ (fun hHeld => ?_); refine with_tabW ff_add.tab15 ff_add.bits15 (fun HT_ HW_ => ?_)
       generalize w85.drew = w86 at BK145 HB hHeld ⊢
       refine pure_ (i := 2) (N := some 93) (v := ?_) (a' := ?_) #[false, false, true, false, false, false, false, false, false, false, false, false, false, false, false, false] rfl rfl (any_of HT_.out (by kernel_rfl)) (fun _ _ _ h => h) (Or.inl ⟨by rfl, ?_⟩) ?_ ?_
       rotate_left
       ·intro w'
        go_simp
        with_reducible rfl
       rotate_left
       ·simp only [Act.put, zsi, zcz, zcs, i64_w, i32_w]
        rfl
       refine pure_ (i := 9) (N := some 100) (v := ?_) (a' := ?_) #[false, false, true, false, false, false, false, false, false, true, false, false, false, false, false, false] rfl rfl (any_of HT_.out (by kernel_rfl)) (fun _ _ _ h => h) (Or.inl ⟨by rfl, ?_⟩) ?_ ?_
       rotate_left
       ·intro w'
        go_simp
        with_reducible rfl
       rotate_left
       ·simp only [Act.put, zsi, zcz, zcs, i64_w, i32_w]
        rfl
       refine pure_ (i := 10) (N := some 101) (v := ?_) (a' := ?_) #[false, false, true, false, false, false, false, false, false, true, true, false, false, false, false, false] rfl rfl (any_of HT_.out (by kernel_rfl)) (fun _ _ _ h => h) (Or.inl ⟨by rfl, ?_⟩) ?_ ?_
       rotate_left
       ·intro w'
        go_simp
        with_reducible rfl
       rotate_left
       ·simp only [Act.put, zsi, zcz, zcs, i64_w, i32_w]
        rfl
       refine pure_ (i := 11) (N := some 102) (v := ?_) (a' := ?_) #[false, false, true, false, false, false, false, false, false, true, true, true, false, false, false, false] rfl rfl (any_of HT_.out (by kernel_rfl)) (fun _ _ _ h => h) (Or.inl ⟨by rfl, ?_⟩) ?_ ?_
       rotate_left
       ·intro w'
        go_simp
        with_reducible rfl
       rotate_left
       ·simp only [Act.put, zsi, zcz, zcs, i64_w, i32_w]
        rfl
       refine pure_ (i := 12) (N := some 103) (v := ?_) (a' := ?_) #[false, false, true, false, false, false, false, false, false, true, true, true, true, false, false, false] rfl rfl (any_of HT_.out (by kernel_rfl)) (fun _ _ _ h => h) (Or.inl ⟨by rfl, ?_⟩) ?_ ?_
       rotate_left
       ·intro w'
        go_simp
        with_reducible rfl
       rotate_left
       ·simp only [Act.put, zsi, zcz, zcs, i64_w, i32_w]
        rfl
       refine pure_ (i := 13) (N := some 104) (v := ?_) (a' := ?_) #[false, false, true, false, false, false, false, false, false, true, true, true, true, true, false, false] rfl rfl (any_of HT_.out (by kernel_rfl)) (fun _ _ _ h => h) (Or.inl ⟨by rfl, ?_⟩) ?_ ?_
       rotate_left
       ·intro w'
        go_simp
        with_reducible rfl
       rotate_left
       ·simp only [Act.put, zsi, zcz, zcs, i64_w, i32_w]
        rfl
       refine take_ (i := 0) (N := some 91) (v := ?_) (a' := ?_) #[true, false, true, false, false, false, false, false, false, true, true, true, true, true, false, false] rfl rfl (take_ofW HT_.out HW_.out (by kernel_rfl)) (fun _ _ _ h => h) (Or.inl ⟨by rfl, ?_⟩) hHeld ?_ ?_
       rotate_left
       ·rintro w' ⟨s0, s1⟩
        go_simp
        with_reducible rfl
       rotate_left
       ·simp only [Act.put, zsi, zcz, zcs, i64_w, i32_w]
        rfl
       refine take_ (i := 1) (N := some 92) (v := ?_) (a' := ?_) #[true, true, true, false, false, false, false, false, false, true, true, true, true, true, false, false] rfl rfl (take_ofW HT_.out HW_.out (by kernel_rfl)) (fun _ _ _ h => h) (Or.inl ⟨by rfl, ?_⟩) hHeld ?_ ?_
       rotate_left
       ·rintro w' ⟨s0, s1⟩
        go_simp
        with_reducible rfl
       rotate_left
       ·simp only [Act.put, zsi, zcz, zcs, i64_w, i32_w]
        rfl
       refine one_ (i := 3) (N := some 94) #[true, true, true, true, false, false, false, false, false, true, true, true, true, true, false, false] rfl rfl (one_of HT_.out (by kernel_rfl)) (by decide) (fun K hK => ?_)
       refine goes_ Try.func39 (by kernel_rfl) rfl #[.agg #[.int .i64 a0_0, .int .i64 a0_1], .int .u64 x1_5] (by rfl) rfl rfl (by (try simp only [zmt, zmc, zmn]); first | done | rfl) ?_
       with_reducible refine (ff_neg.calls a0_0 a0_1 x1_5 false _ A71.out).mono ?_
       rintro e w87 ⟨rfl, hb⟩
       refine ⟨_, rfl, ?_⟩
       have n0_ := As0.mk (bkb (g := gb145) (o := .cells #[.int .i64 a0_0, .int .i64 a0_1] 43 (0, 0)) (by (with_reducible repeat (first | refine bkN ?_ _ | refine bkd ?_ | refine bka ?_ _)); exact BK145.out) hb)
       have n1_ := As0.mk (bst (by repeat (first | (with_reducible first | exact HB.out | apply bal | apply pwB_ | apply bd1 | refine bse ?_ GE145.out) | exact HB.out)) hb)
       clear BK145
       clear HB
       have BK145 := n0_
       have HB := n1_
       clear n0_ n1_
       (try clear hb)
       (try clear hb2)
       (try clear hk)
       (try clear hi)
       refine hK.out _ _ ⟨(bce BK145.out 0).trans rfl, (bce BK145.out 1).trans rfl⟩ (fun hHeld => ?_)
       clear hK K
       refine norm_ (a' := ?_) ?_ ?_
       rotate_left
       ·show Act.put _ (some 94) _ = _
        simp only [Act.put, zsi, zcz, zcs, i64_w, i32_w]
        rfl
       refine pure_ (i := 4) (N := some 95) (v := ?_) (a' := ?_) #[true, true, true, true, true, false, false, false, false, true, true, true, true, true, false, false] rfl rfl (any_of HT_.out (by kernel_rfl)) (fun _ _ _ h => h) (Or.inl ⟨by rfl, ?_⟩) ?_ ?_
       rotate_left
       ·intro w'
        go_simp
        with_reducible rfl
       rotate_left
       ·simp only [Act.put, zsi, zcz, zcs, i64_w, i32_w]
        rfl
       refine pure_ (i := 5) (N := some 96) (v := undef) (a' := ?_) #[true, true, true, true, true, true, false, false, false, true, true, true, true, true, false, false] rfl rfl (any_of HT_.out (by kernel_rfl)) (fun _ _ _ h => h) (Or.inr ⟨by rfl, rfl⟩) ?_ ?_
       rotate_left
       ·simp only [Act.put, zsi, zcz, zcs, i64_w, i32_w]
        rfl
       refine pure_ (i := 6) (N := some 97) (v := undef) (a' := ?_) #[true, true, true, true, true, true, true, false, false, true, true, true, true, true, false, false] rfl rfl (any_of HT_.out (by kernel_rfl)) (fun _ _ _ h => h) (Or.inr ⟨by rfl, rfl⟩) ?_ ?_
       rotate_left
       ·simp only [Act.put, zsi, zcz, zcs, i64_w, i32_w]
        rfl
       refine pure_ (i := 7) (N := some 98) (v := undef) (a' := ?_) #[true, true, true, true, true, true, true, true, false, true, true, true, true, true, false, false] rfl rfl (any_of HT_.out (by kernel_rfl)) (fun _ _ _ h => h) (Or.inr ⟨by rfl, rfl⟩) ?_ ?_
       rotate_left
       ·simp only [Act.put, zsi, zcz, zcs, i64_w, i32_w]
        rfl
       refine pure_ (i := 8) (N := some 99) (v := ?_) (a' := ?_) #[true, true, true, true, true, true, true, true, true, true, true, true, true, true, false, false] rfl rfl (any_of HT_.out (by kernel_rfl)) (fun _ _ _ h => h) (Or.inl ⟨by rfl, ?_⟩) ?_ ?_
       rotate_left
       ·intro w'
        go_simp
        with_reducible rfl
       rotate_left
       ·simp only [Act.put, zsi, zcz, zcs, i64_w, i32_w]
        rfl
       refine one_ (i := 14) (N := some 105) #[true, true, true, true, true, true, true, true, true, true, true, true, true, true, true, false] rfl rfl (one_of HT_.out (by kernel_rfl)) (by decide) (fun K hK => ?_)
       refine goes_ Try.func33 (by kernel_rfl) rfl #[.agg #[.int .i64 a0_0, .int .i64 a0_1], .bool false, .int .u64 (IntKind.u64.wrap ((IntKind.u64.wrap (t157 * 1024)) - t161)), .int .i64 (wrap64 (t158 - 10)), .bool false] (by rfl) rfl rfl (by (try simp only [zmt, zmc, zmn]); first | done | rfl) ?_
       with_reducible refine (ff_round.calls kj13 a0_0 a0_1 false (IntKind.u64.wrap ((IntKind.u64.wrap (t157 * 1024)) - t161)) (wrap64 (t158 - 10)) false t164 _ A81.out).mono ?_
       rintro e w88 ⟨rfl, hb⟩
       refine ⟨_, rfl, ?_⟩
       have n0_ := As0.mk (bkb (g := gb145) (o := .cells #[.int .i64 a0_0, .int .i64 a0_1] 43 (0, 0)) (by (with_reducible repeat (first | refine bkN ?_ _ | refine bkd ?_ | refine bka ?_ _)); exact BK145.out) hb)
       have n1_ := As0.mk (bst (by repeat (first | (with_reducible first | exact HB.out | apply bal | apply pwB_ | apply bd1 | refine bse ?_ GE145.out) | exact HB.out)) hb)
       clear BK145
       clear HB
       have BK145 := n0_
       have HB := n1_
       clear n0_ n1_
       (try clear hb)
       (try clear hb2)
       (try clear hk)
       (try clear hi)
       refine hK.out _ _ ⟨(bce BK145.out 0).trans rfl, (bce BK145.out 1).trans rfl⟩ (fun hHeld => ?_)
       clear hK K
       refine norm_ (a' := ?_) ?_ ?_
       rotate_left
       ·show Act.put _ (some 105) _ = _
        simp only [Act.put, zsi, zcz, zcs, i64_w, i32_w]
        rfl
       refine pure_ (i := 15) (N := some 6) (v := ?_) (a' := ?_) #[true, true, true, true, true, true, true, true, true, true, true, true, true, true, true, true] rfl rfl (any_of HT_.out (by kernel_rfl)) (fun _ _ _ h => h) (Or.inl ⟨by rfl, ?_⟩) ?_ ?_
       rotate_left
       ·intro w'
        go_simp
        with_reducible rfl
       rotate_left
       ·simp only [Act.put, zsi, zcz, zcs, i64_w, i32_w]
        rfl
       refine done_ (done_of HT_.out (by kernel_rfl)) ?_
       try go_wp2
       go_ret
       exact ⟨by first | rfl | (simp [*] <;> rfl), by repeat (first | (with_reducible first | exact HB.out | apply bal | apply pwB_ | apply bd1 | refine bse ?_ GE145.out) | exact HB.out)⟩
     ·rw [if_neg c70] at H
      have c70b0 : (t148 != t149) = false := by simpa using c70
      (try (have c70b1 : decide (t148 = t149) = true := by simpa using c70))
      (try (have c70b2 : (t148 == t149) = true := by simpa using c70))
      clear c70
      replace H := zob H
      obtain ⟨t165, A890, H⟩ := H
      replace H : ((ff_round.f kj13 a0_0 a0_1 t165 (IntKind.u64.wrap ((IntKind.u64.wrap (t157 * 1024)) + t161)) (wrap64 (t158 - 10)) false).bind fun t166 => (some t166)) = some r := H
      have A89 := As0.mk A890
      clear A890
      replace H := zob H
      obtain ⟨t166, A900, H⟩ := H
      replace H : (some t166) = some r := H
      have A90 := As0.mk A900
      clear A900
      obtain rfl := Option.some.inj H
      have hcz91_0 : wc.cell? ⟨gb145, 0, none⟩ = some (.int .i64 a0_0) := (bce BK145.out 0).trans rfl
      have hcz91_1 : wc.cell? ⟨gb145, 1, none⟩ = some (.int .i64 a0_1) := (bce BK145.out 1).trans rfl
      have hfz91_0 := bkf BK145.out 0
      have hfz91_1 := bkf BK145.out 1
      try go_wp2_with (first | ((with_reducible refine gcl (f := 57) rfl ?_); refine goesL_ (some 62) rfl rfl Try.func57 (by kernel_rfl) rfl #[.agg #[.int .i64 a0_0, .int .i64 a0_1], .int .u64 x1_5] rfl (by (try simp only [zmt, zmc, zmn]); first | done | rfl) ?_; (with_reducible refine (ff_parts.calls a0_0 a0_1 x1_5 t157 t158 _ A67.out).mono ?_); rintro e w92 ⟨rfl, hb⟩; refine ⟨_, rfl, ?_⟩; have n0_ := As0.mk (bkb (g := gb145) (o := .cells #[.int .i64 a0_0, .int .i64 a0_1] 43 (0, 0)) (by (with_reducible repeat (first | refine bkN ?_ _ | refine bkd ?_ | refine bka ?_ _)); exact BK145.out) hb); have n1_ := As0.mk (bst (by repeat (first | (with_reducible first | exact HB.out | apply bal | apply pwB_ | apply bd1 | refine bse ?_ GE145.out) | exact HB.out)) hb); clear BK145; clear HB; have BK145 := n0_; have HB := n1_; clear n0_ n1_; (try clear hb); (try clear hb2); (try clear hk); (try clear hi); have hcz93_0 : w92.cell? ⟨gb145, 0, none⟩ = some (.int .i64 a0_0) := (bce BK145.out 0).trans rfl; have hcz93_1 : w92.cell? ⟨gb145, 1, none⟩ = some (.int .i64 a0_1) := (bce BK145.out 1).trans rfl; have hfz93_0 := bkf BK145.out 0; have hfz93_1 := bkf BK145.out 1) | ((with_reducible refine gcl (f := 57) rfl ?_); refine goesL_ (some 68) rfl rfl Try.func57 (by kernel_rfl) rfl #[.agg #[.int .i64 a0_0, .int .i64 a0_1], .int .u64 x2_5] rfl (by (try simp only [zmt, zmc, zmn]); first | done | rfl) ?_; (with_reducible refine (ff_parts.calls a0_0 a0_1 x2_5 t159 t160 _ A68.out).mono ?_); rintro e w94 ⟨rfl, hb⟩; refine ⟨_, rfl, ?_⟩; have n0_ := As0.mk (bkb (g := gb145) (o := .cells #[.int .i64 a0_0, .int .i64 a0_1] 43 (0, 0)) (by (with_reducible repeat (first | refine bkN ?_ _ | refine bkd ?_ | refine bka ?_ _)); exact BK145.out) hb); have n1_ := As0.mk (bst (by repeat (first | (with_reducible first | exact HB.out | apply bal | apply pwB_ | apply bd1 | refine bse ?_ GE145.out) | exact HB.out)) hb); clear BK145; clear HB; have BK145 := n0_; have HB := n1_; clear n0_ n1_; (try clear hb); (try clear hb2); (try clear hk); (try clear hi)) | ((with_reducible refine gcl (f := 65) rfl ?_); refine goesL_ (some 78) rfl rfl Try.func65 (by kernel_rfl) rfl #[.int .u64 (IntKind.u64.wrap (t159 * 1024)), .int .i64 (wrap64 (t158 - t160))] rfl (by (try simp only [zmt, zmc, zmn]); first | done | rfl) ?_; (with_reducible refine (floats_jam.calls (IntKind.u64.wrap (t159 * 1024)) (wrap64 (t158 - t160)) t161 _ A69.out).mono ?_); rintro e w' ⟨rfl, ⟨nd, rfl⟩⟩; refine ⟨_, rfl, ?_⟩))
      (try (rw [drewN_self w94]; generalize hq_ : World.drewN w94 _ = w94; have n0_ : As0 (w94.heap[gb145]? = some (.cells #[.int .i64 a0_0, .int .i64 a0_1] 43 (0, 0))) := ⟨by rw [← hq_]; exact (by (with_reducible repeat (first | refine bkN ?_ _ | refine bkd ?_ | refine bka ?_ _)); exact BK145.out)⟩; have n1_ : As0 (Below w.heap.size w w94) := ⟨by rw [← hq_]; exact (by repeat (first | (with_reducible first | exact HB.out | apply bal | apply pwB_ | apply bd1 | refine bse ?_ GE145.out) | exact HB.out))⟩; clear BK145 HB hq_; have BK145 := n0_; have HB := n1_; clear n0_ n1_))
      have n0_ := As0.mk (bkd BK145.out)
      have n1_ := As0.mk (bd1 HB.out)
      clear BK145
      clear HB
      have BK145 := n0_
      have HB := n1_
      clear n0_ n1_
      refine start_ (n := 11) (S := fun w' => w'.cell? ⟨gb145, 0, none⟩ = some (.int .i64 a0_0) ∧ w'.cell? ⟨gb145, 1, none⟩ = some (.int .i64 a0_1)) (ds := []) #[false, false, false, false, false, false, false, false, false, false, false] (by kernel_rfl) rfl rfl ⟨(bce BK145.out 0).trans rfl, (bce BK145.out 1).trans rfl⟩ (fun hHeld => ?_); refine with_tabW ff_add.tab14 ff_add.bits14 (fun HT_ HW_ => ?_)
      generalize w94.drew = w95 at BK145 HB hHeld ⊢
      refine pure_ (i := 2) (N := some 83) (v := ?_) (a' := ?_) #[false, false, true, false, false, false, false, false, false, false, false] rfl rfl (any_of HT_.out (by kernel_rfl)) (fun _ _ _ h => h) (Or.inl ⟨by rfl, ?_⟩) ?_ ?_
      rotate_left
      ·intro w'
       go_simp
       with_reducible rfl
      rotate_left
      ·simp only [Act.put, zsi, zcz, zcs, i64_w, i32_w]
       rfl
      refine pure_ (i := 4) (N := some 85) (v := ?_) (a' := ?_) #[false, false, true, false, true, false, false, false, false, false, false] rfl rfl (any_of HT_.out (by kernel_rfl)) (fun _ _ _ h => h) (Or.inl ⟨by rfl, ?_⟩) ?_ ?_
      rotate_left
      ·intro w'
       go_simp
       with_reducible rfl
      rotate_left
      ·simp only [Act.put, zsi, zcz, zcs, i64_w, i32_w]
       rfl
      refine pure_ (i := 5) (N := some 86) (v := ?_) (a' := ?_) #[false, false, true, false, true, true, false, false, false, false, false] rfl rfl (any_of HT_.out (by kernel_rfl)) (fun _ _ _ h => h) (Or.inl ⟨by rfl, ?_⟩) ?_ ?_
      rotate_left
      ·intro w'
       go_simp
       with_reducible rfl
      rotate_left
      ·simp only [Act.put, zsi, zcz, zcs, i64_w, i32_w]
       rfl
      refine pure_ (i := 6) (N := some 87) (v := ?_) (a' := ?_) #[false, false, true, false, true, true, true, false, false, false, false] rfl rfl (any_of HT_.out (by kernel_rfl)) (fun _ _ _ h => h) (Or.inl ⟨by rfl, ?_⟩) ?_ ?_
      rotate_left
      ·intro w'
       go_simp
       with_reducible rfl
      rotate_left
      ·simp only [Act.put, zsi, zcz, zcs, i64_w, i32_w]
       rfl
      refine pure_ (i := 7) (N := some 88) (v := ?_) (a' := ?_) #[false, false, true, false, true, true, true, true, false, false, false] rfl rfl (any_of HT_.out (by kernel_rfl)) (fun _ _ _ h => h) (Or.inl ⟨by rfl, ?_⟩) ?_ ?_
      rotate_left
      ·intro w'
       go_simp
       with_reducible rfl
      rotate_left
      ·simp only [Act.put, zsi, zcz, zcs, i64_w, i32_w]
       rfl
      refine pure_ (i := 8) (N := some 89) (v := ?_) (a' := ?_) #[false, false, true, false, true, true, true, true, true, false, false] rfl rfl (any_of HT_.out (by kernel_rfl)) (fun _ _ _ h => h) (Or.inl ⟨by rfl, ?_⟩) ?_ ?_
      rotate_left
      ·intro w'
       go_simp
       with_reducible rfl
      rotate_left
      ·simp only [Act.put, zsi, zcz, zcs, i64_w, i32_w]
       rfl
      refine take_ (i := 0) (N := some 81) (v := ?_) (a' := ?_) #[true, false, true, false, true, true, true, true, true, false, false] rfl rfl (take_ofW HT_.out HW_.out (by kernel_rfl)) (fun _ _ _ h => h) (Or.inl ⟨by rfl, ?_⟩) hHeld ?_ ?_
      rotate_left
      ·rintro w' ⟨s0, s1⟩
       go_simp
       with_reducible rfl
      rotate_left
      ·simp only [Act.put, zsi, zcz, zcs, i64_w, i32_w]
       rfl
      refine take_ (i := 1) (N := some 82) (v := ?_) (a' := ?_) #[true, true, true, false, true, true, true, true, true, false, false] rfl rfl (take_ofW HT_.out HW_.out (by kernel_rfl)) (fun _ _ _ h => h) (Or.inl ⟨by rfl, ?_⟩) hHeld ?_ ?_
      rotate_left
      ·rintro w' ⟨s0, s1⟩
       go_simp
       with_reducible rfl
      rotate_left
      ·simp only [Act.put, zsi, zcz, zcs, i64_w, i32_w]
       rfl
      refine one_ (i := 3) (N := some 84) #[true, true, true, true, true, true, true, true, true, false, false] rfl rfl (one_of HT_.out (by kernel_rfl)) (by decide) (fun K hK => ?_)
      refine goes_ Try.func39 (by kernel_rfl) rfl #[.agg #[.int .i64 a0_0, .int .i64 a0_1], .int .u64 x1_5] (by rfl) rfl rfl (by (try simp only [zmt, zmc, zmn]); first | done | rfl) ?_
      with_reducible refine (ff_neg.calls a0_0 a0_1 x1_5 t165 _ A89.out).mono ?_
      rintro e w96 ⟨rfl, hb⟩
      refine ⟨_, rfl, ?_⟩
      have n0_ := As0.mk (bkb (g := gb145) (o := .cells #[.int .i64 a0_0, .int .i64 a0_1] 43 (0, 0)) (by (with_reducible repeat (first | refine bkN ?_ _ | refine bkd ?_ | refine bka ?_ _)); exact BK145.out) hb)
      have n1_ := As0.mk (bst (by repeat (first | (with_reducible first | exact HB.out | apply bal | apply pwB_ | apply bd1 | refine bse ?_ GE145.out) | exact HB.out)) hb)
      clear BK145
      clear HB
      have BK145 := n0_
      have HB := n1_
      clear n0_ n1_
      (try clear hb)
      (try clear hb2)
      (try clear hk)
      (try clear hi)
      refine hK.out _ _ ⟨(bce BK145.out 0).trans rfl, (bce BK145.out 1).trans rfl⟩ (fun hHeld => ?_)
      clear hK K
      refine norm_ (a' := ?_) ?_ ?_
      rotate_left
      ·show Act.put _ (some 84) _ = _
       simp only [Act.put, zsi, zcz, zcs, i64_w, i32_w]
       rfl
      refine one_ (i := 9) (N := some 90) #[true, true, true, true, true, true, true, true, true, true, false] rfl rfl (one_of HT_.out (by kernel_rfl)) (by decide) (fun K hK => ?_)
      refine goes_ Try.func33 (by kernel_rfl) rfl #[.agg #[.int .i64 a0_0, .int .i64 a0_1], .bool t165, .int .u64 (IntKind.u64.wrap ((IntKind.u64.wrap (t157 * 1024)) + t161)), .int .i64 (wrap64 (t158 - 10)), .bool false] (by rfl) rfl rfl (by (try simp only [zmt, zmc, zmn]); first | done | rfl) ?_
      with_reducible refine (ff_round.calls kj13 a0_0 a0_1 t165 (IntKind.u64.wrap ((IntKind.u64.wrap (t157 * 1024)) + t161)) (wrap64 (t158 - 10)) false t166 _ A90.out).mono ?_
      rintro e w97 ⟨rfl, hb⟩
      refine ⟨_, rfl, ?_⟩
      have n0_ := As0.mk (bkb (g := gb145) (o := .cells #[.int .i64 a0_0, .int .i64 a0_1] 43 (0, 0)) (by (with_reducible repeat (first | refine bkN ?_ _ | refine bkd ?_ | refine bka ?_ _)); exact BK145.out) hb)
      have n1_ := As0.mk (bst (by repeat (first | (with_reducible first | exact HB.out | apply bal | apply pwB_ | apply bd1 | refine bse ?_ GE145.out) | exact HB.out)) hb)
      clear BK145
      clear HB
      have BK145 := n0_
      have HB := n1_
      clear n0_ n1_
      (try clear hb)
      (try clear hb2)
      (try clear hk)
      (try clear hi)
      refine hK.out _ _ ⟨(bce BK145.out 0).trans rfl, (bce BK145.out 1).trans rfl⟩ (fun hHeld => ?_)
      clear hK K
      refine norm_ (a' := ?_) ?_ ?_
      rotate_left
      ·show Act.put _ (some 90) _ = _
       simp only [Act.put, zsi, zcz, zcs, i64_w, i32_w]
       rfl
      refine pure_ (i := 10) (N := some 6) (v := ?_) (a' := ?_) #[true, true, true, true, true, true, true, true, true, true, true] rfl rfl (any_of HT_.out (by kernel_rfl)) (fun _ _ _ h => h) (Or.inl ⟨by rfl, ?_⟩) ?_ ?_
      rotate_left
      ·intro w'
       go_simp
       with_reducible rfl
      rotate_left
      ·simp only [Act.put, zsi, zcz, zcs, i64_w, i32_w]
       rfl
      refine done_ (done_of HT_.out (by kernel_rfl)) ?_
      try go_wp2
      go_ret
      exact ⟨by first | rfl | (simp [*] <;> rfl), by repeat (first | (with_reducible first | exact HB.out | apply bal | apply pwB_ | apply bd1 | refine bse ?_ GE145.out) | exact HB.out)⟩
end Go.Proofs.Ytjfmomogidgbpaa.PFl
namespace Go.Proofs.Ytjfmomogidgbpaa.PFl
open Go.RowKit Go.Proofs.YtjfmomogidgbpaaW.PrintWords Go.Proofs.YtjfmomogidgbpaaW.PrintLast Go.Proofs.YtjfmomogidgbpaaW.PrintMore
attribute [local go_sem] max2_int min2_int max_two min_two max_three min_three max_four min_four
set_option linter.unusedVariables false
set_option linter.unusedSimpArgs false
def bits_Mul64.f (a0 : Int) (a1 : Int) : Option (Int × Int) := some (IntKind.u64.wrap ((IntKind.u64.wrap ((IntKind.u64.wrap ((a0 / 4294967296) * (a1 / 4294967296))) + ((IntKind.u64.wrap ((IntKind.u64.wrap ((a0 / 4294967296) * (Go.bits .and .u64 a1 4294967295))) + ((IntKind.u64.wrap ((Go.bits .and .u64 a0 4294967295) * (Go.bits .and .u64 a1 4294967295))) / 4294967296))) / 4294967296))) + ((IntKind.u64.wrap ((Go.bits .and .u64 (IntKind.u64.wrap ((IntKind.u64.wrap ((a0 / 4294967296) * (Go.bits .and .u64 a1 4294967295))) + ((IntKind.u64.wrap ((Go.bits .and .u64 a0 4294967295) * (Go.bits .and .u64 a1 4294967295))) / 4294967296))) 4294967295) + (IntKind.u64.wrap ((Go.bits .and .u64 a0 4294967295) * (a1 / 4294967296))))) / 4294967296)), IntKind.u64.wrap (a0 * a1))
set_option maxHeartbeats 8000000 in
set_option maxRecDepth 100000 in
theorem bits_Mul64.calls (a0 : Int) (a1 : Int) (r1 : Int) (r2 : Int) (w : World) (h : bits_Mul64.f a0 a1 = some (r1, r2)) :
  Calls Try.prog 66 #[.int .u64 a0, .int .u64 a1] w fun e w' => e = .returned (.tuple #[.int .u64 r1, .int .u64 r2]) ∧ Drawn0 w w' := by
 have H : (some (IntKind.u64.wrap ((IntKind.u64.wrap ((IntKind.u64.wrap ((a0 / 4294967296) * (a1 / 4294967296))) + ((IntKind.u64.wrap ((IntKind.u64.wrap ((a0 / 4294967296) * (Go.bits .and .u64 a1 4294967295))) + ((IntKind.u64.wrap ((Go.bits .and .u64 a0 4294967295) * (Go.bits .and .u64 a1 4294967295))) / 4294967296))) / 4294967296))) + ((IntKind.u64.wrap ((Go.bits .and .u64 (IntKind.u64.wrap ((IntKind.u64.wrap ((a0 / 4294967296) * (Go.bits .and .u64 a1 4294967295))) + ((IntKind.u64.wrap ((Go.bits .and .u64 a0 4294967295) * (Go.bits .and .u64 a1 4294967295))) / 4294967296))) 4294967295) + (IntKind.u64.wrap ((Go.bits .and .u64 a0 4294967295) * (a1 / 4294967296))))) / 4294967296)), IntKind.u64.wrap (a0 * a1))) = some (r1, r2) := h
 clear h
 simp only [Option.some.injEq, Prod.mk.injEq] at H
 obtain ⟨rfl, rfl⟩ := H
 go_enter Try.func66, Try.ntmps66
 go_wp2
 go_ret2
 exact ⟨by first | rfl | (simp; done) | (simp [*]; done), by repeat (first | exact Drawn0.refl _ | apply Drawn0.step)⟩
mutual
def ff_mul.j0 : Nat → Int → Int → Bool → Int → Int → Bool → Int → Int → Option (Int)
 | 0, _, _, _, _, _, _, _, _ => none
 | k + 1, x1, x2, x7, x8, x9, x40, x168000, x168001 => if x40 = true then (if x8 = 0 then (ff_mul.j1 k x7 true x168000 x168001) else (ff_mul.j1 k x7 (x9 == 0) x168000 x168001)) else ((ff_parts.f x168000 x168001 x1).bind fun bt177 => ((ff_parts.f x168000 x168001 x2).bind fun bt179 => ((bits_Mul64.f bt177.1 bt179.1).bind fun bt181 => ((bits_Len64.f bt181.1).bind fun t183 => (if t183 > 0 then ((floats_jam.f bt181.2 t183).bind fun t184 => (if 0 ≤ (IntKind.u64.wrap (wrap64 (64 - t183))) then ((ff_round.f k x168000 x168001 x7 (Go.bits .or .u64 t184 (shl .u64 bt181.1 (IntKind.u64.wrap (wrap64 (64 - t183))))) (wrap64 ((wrap64 (bt177.2 + bt179.2)) + t183)) false).bind fun t185 => (some t185)) else (none))) else ((ff_round.f k x168000 x168001 x7 bt181.2 (wrap64 ((wrap64 (bt177.2 + bt179.2)) + t183)) false).bind fun t186 => (some t186)))))))
def ff_mul.j1 : Nat → Bool → Bool → Int → Int → Option (Int)
 | 0, _, _, _, _ => none
 | k + 1, x7, x46, x168000, x168001 => if x46 = true then ((ff_nan.f x168000 x168001).bind fun t174 => (some t174)) else ((ff_infinity.f x168000 x168001).bind fun t175 => ((ff_signed.f x168000 x168001 x7 t175).bind fun t176 => (some t176)))
end
def ff_mul.f (k : Nat) (a0_0 : Int) (a0_1 : Int) (a1 : Int) (a2 : Int) : Option (Int) := (ff_neg.f a0_0 a0_1 a1).bind fun t168 => ((ff_neg.f a0_0 a0_1 a2).bind fun t169 => ((ff_size.f a0_0 a0_1 a1).bind fun t170 => ((ff_size.f a0_0 a0_1 a2).bind fun t171 => ((ff_infinity.f a0_0 a0_1).bind fun t172 => (if t170 = t172 then (ff_mul.j0 k a1 a2 (t168 != t169) t170 t171 true a0_0 a0_1) else ((ff_infinity.f a0_0 a0_1).bind fun t173 => (ff_mul.j0 k a1 a2 (t168 != t169) t170 t171 (t171 == t173) a0_0 a0_1)))))))
theorem ff_mul.mono_l : ∀ k, (∀ y0 y1 y2 y3 y4 y5 y6 y7, LeO (ff_mul.j0 k y0 y1 y2 y3 y4 y5 y6 y7) (ff_mul.j0 (k + 1) y0 y1 y2 y3 y4 y5 y6 y7)) ∧ (∀ y0 y1 y2 y3, LeO (ff_mul.j1 k y0 y1 y2 y3) (ff_mul.j1 (k + 1) y0 y1 y2 y3)) := by
 intro k
 induction k with
 | zero => exact ⟨fun _ _ _ _ _ _ _ _ r h => by simp [ff_mul.j0] at h, fun _ _ _ _ r h => by simp [ff_mul.j1] at h⟩
 | succ k ih =>
  obtain ⟨ih0, ih1⟩ := ih
  refine ⟨?_, ?_⟩
  ·intro y0 y1 y2 y3 y4 y5 y6 y7
   unfold ff_mul.j0
   repeat' first
   | (with_reducible exact ih0 _ _ _ _ _ _ _ _)
   | (with_reducible exact ih1 _ _ _ _)
   | (with_reducible exact ff_round.mono _ _ _ _ _ _ _)
   | (with_reducible exact LeO.refl _)
   | (with_reducible exact LeO.none _)
   | (with_reducible refine LeO.ite ?_ ?_)
   | (with_reducible refine LeO.bind ?_ (fun _ => ?_))
   | exact ih0 _ _ _ _ _ _ _ _
   | exact ih1 _ _ _ _
   | exact ff_round.mono _ _ _ _ _ _ _
   | exact LeO.none _
   | refine LeO.ite ?_ ?_
   | refine LeO.bind ?_ (fun _ => ?_)
  ·intro y0 y1 y2 y3
   unfold ff_mul.j1
   repeat' first
   | (with_reducible exact ih0 _ _ _ _ _ _ _ _)
   | (with_reducible exact ih1 _ _ _ _)
   | (with_reducible exact ff_round.mono _ _ _ _ _ _ _)
   | (with_reducible exact LeO.refl _)
   | (with_reducible exact LeO.none _)
   | (with_reducible refine LeO.ite ?_ ?_)
   | (with_reducible refine LeO.bind ?_ (fun _ => ?_))
   | exact ih0 _ _ _ _ _ _ _ _
   | exact ih1 _ _ _ _
   | exact ff_round.mono _ _ _ _ _ _ _
   | exact LeO.none _
   | refine LeO.ite ?_ ?_
   | refine LeO.bind ?_ (fun _ => ?_)
theorem ff_mul.mono : ∀ a0 a1 a2 a3 k, LeO (ff_mul.f k a0 a1 a2 a3) (ff_mul.f (k + 1) a0 a1 a2 a3) := by
 intro a0 a1 a2 a3 k
 obtain ⟨ih0, ih1⟩ := ff_mul.mono_l k
 unfold ff_mul.f
 repeat' first
   | (with_reducible exact ih0 _ _ _ _ _ _ _ _)
   | (with_reducible exact ih1 _ _ _ _)
   | (with_reducible exact ff_round.mono _ _ _ _ _ _ _)
   | (with_reducible exact LeO.refl _)
   | (with_reducible exact LeO.none _)
   | (with_reducible refine LeO.ite ?_ ?_)
   | (with_reducible refine LeO.bind ?_ (fun _ => ?_))
   | exact ih0 _ _ _ _ _ _ _ _
   | exact ih1 _ _ _ _
   | exact ff_round.mono _ _ _ _ _ _ _
   | exact LeO.none _
   | refine LeO.ite ?_ ?_
   | refine LeO.bind ?_ (fun _ => ?_)
def ff_mul.T1 : Bool × List (List Nat × List Nat) := (true, [([], []), ([], []), ([0, 1], [0, 1]), ([], []), ([], []), ([3, 4, 2], [3, 4]), ([2, 5], [2, 5]), ([6, 5, 0, 1, 2, 3, 4, 5, 6], [6])])
def ff_mul.B1 : List Nat := [0, 0, 3, 0, 0, 31, 63, 127]
theorem ff_mul.tab1 : rtab .any (opsOf Try.f45 1) = ff_mul.T1 := by kernel_rfl
theorem ff_mul.bits1 : waitsOk ff_mul.T1.2 ff_mul.B1 = true := by kernel_rfl
def ff_mul.T2 : Bool × List (List Nat × List Nat) := (true, [([], []), ([], []), ([0, 1], [0, 1]), ([], []), ([], []), ([3, 4, 2], [3, 4]), ([2, 5, 0, 1, 2], [2]), ([5, 6, 0, 1, 2, 3, 4, 5, 6], [5])])
def ff_mul.B2 : List Nat := [0, 0, 3, 0, 0, 31, 63, 127]
theorem ff_mul.tab2 : rtab .any (opsOf Try.f45 2) = ff_mul.T2 := by kernel_rfl
theorem ff_mul.bits2 : waitsOk ff_mul.T2.2 ff_mul.B2 = true := by kernel_rfl
set_option maxHeartbeats 8000000 in
set_option maxRecDepth 100000 in
theorem ff_mul.calls (k : Nat) (a0_0 : Int) (a0_1 : Int) (a1 : Int) (a2 : Int) (r : Int) (w : World) (h : ff_mul.f k a0_0 a0_1 a1 a2 = some r) :
  Calls Try.prog 45 #[.agg #[.int .i64 a0_0, .int .i64 a0_1], .int .u64 a1, .int .u64 a2] w fun e w' => e = .returned (.int .u64 r) ∧ Below w.heap.size w w' := by
 have hu43 := Try.underlying43
 have HB := As0.mk (Below.refl w.heap.size w)
 have H : ((ff_neg.f a0_0 a0_1 a1).bind fun t168 => ((ff_neg.f a0_0 a0_1 a2).bind fun t169 => ((ff_size.f a0_0 a0_1 a1).bind fun t170 => ((ff_size.f a0_0 a0_1 a2).bind fun t171 => ((ff_infinity.f a0_0 a0_1).bind fun t172 => (if t170 = t172 then (ff_mul.j0 k a1 a2 (t168 != t169) t170 t171 true a0_0 a0_1) else ((ff_infinity.f a0_0 a0_1).bind fun t173 => (ff_mul.j0 k a1 a2 (t168 != t169) t170 t171 (t171 == t173) a0_0 a0_1)))))))) = some r := h
 clear h
 replace H := zob H
 obtain ⟨t168, A40, H⟩ := H
 replace H : ((ff_neg.f a0_0 a0_1 a2).bind fun t169 => ((ff_size.f a0_0 a0_1 a1).bind fun t170 => ((ff_size.f a0_0 a0_1 a2).bind fun t171 => ((ff_infinity.f a0_0 a0_1).bind fun t172 => (if t170 = t172 then (ff_mul.j0 k a1 a2 (t168 != t169) t170 t171 true a0_0 a0_1) else ((ff_infinity.f a0_0 a0_1).bind fun t173 => (ff_mul.j0 k a1 a2 (t168 != t169) t170 t171 (t171 == t173) a0_0 a0_1))))))) = some r := H
 have A4 := As0.mk A40
 clear A40
 replace H := zob H
 obtain ⟨t169, A50, H⟩ := H
 replace H : ((ff_size.f a0_0 a0_1 a1).bind fun t170 => ((ff_size.f a0_0 a0_1 a2).bind fun t171 => ((ff_infinity.f a0_0 a0_1).bind fun t172 => (if t170 = t172 then (ff_mul.j0 k a1 a2 (t168 != t169) t170 t171 true a0_0 a0_1) else ((ff_infinity.f a0_0 a0_1).bind fun t173 => (ff_mul.j0 k a1 a2 (t168 != t169) t170 t171 (t171 == t173) a0_0 a0_1)))))) = some r := H
 have A5 := As0.mk A50
 clear A50
 replace H := zob H
 obtain ⟨t170, A60, H⟩ := H
 replace H : ((ff_size.f a0_0 a0_1 a2).bind fun t171 => ((ff_infinity.f a0_0 a0_1).bind fun t172 => (if t170 = t172 then (ff_mul.j0 k a1 a2 (t168 != t169) t170 t171 true a0_0 a0_1) else ((ff_infinity.f a0_0 a0_1).bind fun t173 => (ff_mul.j0 k a1 a2 (t168 != t169) t170 t171 (t171 == t173) a0_0 a0_1))))) = some r := H
 have A6 := As0.mk A60
 clear A60
 replace H := zob H
 obtain ⟨t171, A70, H⟩ := H
 replace H : ((ff_infinity.f a0_0 a0_1).bind fun t172 => (if t170 = t172 then (ff_mul.j0 k a1 a2 (t168 != t169) t170 t171 true a0_0 a0_1) else ((ff_infinity.f a0_0 a0_1).bind fun t173 => (ff_mul.j0 k a1 a2 (t168 != t169) t170 t171 (t171 == t173) a0_0 a0_1)))) = some r := H
 have A7 := As0.mk A70
 clear A70
 have HC8 := As0.mk H
 clear H
 go_enter Try.func45, Try.ntmps45
 try go_wp2_with (first | ((with_reducible refine gate_dst (N := 3) rfl ?_); refine box_event ?hg (N := 3) ?hd (cs := #[.int .i64 a0_0, .int .i64 a0_1]) (t := 43) ?hr ?_; (case hd => rfl); (case hg => rfl); (case hr => first | (go_simp; done) | (go_simp; rfl)); intro gb167 hg w9 hbox hb; have n0_ := As0.mk (bst (by repeat (first | (with_reducible first | exact HB.out | apply bal | apply pwB_ | apply bd1) | exact HB.out)) hb); have n1_ := As0.mk (hbox); have n2_ := As0.mk ((by rw [hg]; exact (below_size (by repeat (first | (with_reducible first | exact HB.out | apply bal | apply pwB_ | apply bd1) | exact HB.out))) : w.heap.size ≤ gb167)); have n3_ := As0.mk ((by rw [hg]; exact (below_size (by repeat (first | (with_reducible first | exact HB.out | apply bal | apply pwB_ | apply bd1) | exact HB.out))) : w.heap.size ≤ gb167)); clear HB; have HB := n0_; have BK167 := n1_; have GW167 := n2_; have GE167 := n3_; clear n0_ n1_ n2_ n3_; clear hb hbox hg))
 have n0_ := As0.mk (bkd BK167.out)
 have n1_ := As0.mk (bd1 HB.out)
 clear BK167
 clear HB
 have BK167 := n0_
 have HB := n1_
 clear n0_ n1_
 refine start_ (n := 8) (S := fun w' => w'.cell? ⟨gb167, 0, none⟩ = some (.int .i64 a0_0) ∧ w'.cell? ⟨gb167, 1, none⟩ = some (.int .i64 a0_1)) (ds := []) #[false, false, false, false, false, false, false, false] (by kernel_rfl) rfl rfl ⟨(bce BK167.out 0).trans rfl, (bce BK167.out 1).trans rfl⟩ (fun hHeld => ?_); refine with_tabW ff_mul.tab1 ff_mul.bits1 (fun HT_ HW_ => ?_)
 generalize w9.drew = w10 at BK167 HB hHeld ⊢
 refine pure_ (i := 1) (N := some 19) (v := ?_) (a' := ?_) #[false, true, false, false, false, false, false, false] rfl rfl (any_of HT_.out (by kernel_rfl)) (fun _ _ _ h => h) (Or.inl ⟨by rfl, ?_⟩) ?_ ?_
 rotate_left
 ·intro w'
  go_simp
  with_reducible rfl
 rotate_left
 ·simp only [Act.put, zsi, zcz, zcs, i64_w, i32_w]
  rfl
 refine pure_ (i := 4) (N := some 22) (v := ?_) (a' := ?_) #[false, true, false, false, true, false, false, false] rfl rfl (any_of HT_.out (by kernel_rfl)) (fun _ _ _ h => h) (Or.inl ⟨by rfl, ?_⟩) ?_ ?_
 rotate_left
 ·intro w'
  go_simp
  with_reducible rfl
 rotate_left
 ·simp only [Act.put, zsi, zcz, zcs, i64_w, i32_w]
  rfl
 refine take_ (i := 0) (N := some 18) (v := ?_) (a' := ?_) #[true, true, false, false, true, false, false, false] rfl rfl (take_ofW HT_.out HW_.out (by kernel_rfl)) (fun _ _ _ h => h) (Or.inl ⟨by rfl, ?_⟩) hHeld ?_ ?_
 rotate_left
 ·rintro w' ⟨s0, s1⟩
  go_simp
  with_reducible rfl
 rotate_left
 ·simp only [Act.put, zsi, zcz, zcs, i64_w, i32_w]
  rfl
 refine take_ (i := 3) (N := some 21) (v := ?_) (a' := ?_) #[true, true, false, true, true, false, false, false] rfl rfl (take_ofW HT_.out HW_.out (by kernel_rfl)) (fun _ _ _ h => h) (Or.inl ⟨by rfl, ?_⟩) hHeld ?_ ?_
 rotate_left
 ·rintro w' ⟨s0, s1⟩
  go_simp
  with_reducible rfl
 rotate_left
 ·simp only [Act.put, zsi, zcz, zcs, i64_w, i32_w]
  rfl
 refine one_ (i := 2) (N := some 20) #[true, true, true, true, true, false, false, false] rfl rfl (one_of HT_.out (by kernel_rfl)) (by decide) (fun K hK => ?_)
 refine goes_ Try.func39 (by kernel_rfl) rfl #[.agg #[.int .i64 a0_0, .int .i64 a0_1], .int .u64 a1] (by rfl) rfl rfl (by (try simp only [zmt, zmc, zmn]); first | done | rfl) ?_
 with_reducible refine (ff_neg.calls a0_0 a0_1 a1 t168 _ A4.out).mono ?_
 rintro e w11 ⟨rfl, hb⟩
 refine ⟨_, rfl, ?_⟩
 have n0_ := As0.mk (bkb (g := gb167) (o := .cells #[.int .i64 a0_0, .int .i64 a0_1] 43 (0, 0)) (by (with_reducible repeat (first | refine bkN ?_ _ | refine bkd ?_ | refine bka ?_ _)); exact BK167.out) hb)
 have n1_ := As0.mk (bst (by repeat (first | (with_reducible first | exact HB.out | apply bal | apply pwB_ | apply bd1 | refine bse ?_ GE167.out) | exact HB.out)) hb)
 clear BK167
 clear HB
 have BK167 := n0_
 have HB := n1_
 clear n0_ n1_
 (try clear hb)
 (try clear hb2)
 (try clear hk)
 (try clear hi)
 refine hK.out _ _ ⟨(bce BK167.out 0).trans rfl, (bce BK167.out 1).trans rfl⟩ (fun hHeld => ?_)
 clear hK K
 refine norm_ (a' := ?_) ?_ ?_
 rotate_left
 ·show Act.put _ (some 20) _ = _
  simp only [Act.put, zsi, zcz, zcs, i64_w, i32_w]
  rfl
 refine one_ (i := 5) (N := some 23) #[true, true, true, true, true, true, false, false] rfl rfl (one_of HT_.out (by kernel_rfl)) (by decide) (fun K hK => ?_)
 refine goes_ Try.func39 (by kernel_rfl) rfl #[.agg #[.int .i64 a0_0, .int .i64 a0_1], .int .u64 a2] (by rfl) rfl rfl (by (try simp only [zmt, zmc, zmn]); first | done | rfl) ?_
 with_reducible refine (ff_neg.calls a0_0 a0_1 a2 t169 _ A5.out).mono ?_
 rintro e w12 ⟨rfl, hb⟩
 refine ⟨_, rfl, ?_⟩
 have n0_ := As0.mk (bkb (g := gb167) (o := .cells #[.int .i64 a0_0, .int .i64 a0_1] 43 (0, 0)) (by (with_reducible repeat (first | refine bkN ?_ _ | refine bkd ?_ | refine bka ?_ _)); exact BK167.out) hb)
 have n1_ := As0.mk (bst (by repeat (first | (with_reducible first | exact HB.out | apply bal | apply pwB_ | apply bd1 | refine bse ?_ GE167.out) | exact HB.out)) hb)
 clear BK167
 clear HB
 have BK167 := n0_
 have HB := n1_
 clear n0_ n1_
 (try clear hb)
 (try clear hb2)
 (try clear hk)
 (try clear hi)
 refine hK.out _ _ ⟨(bce BK167.out 0).trans rfl, (bce BK167.out 1).trans rfl⟩ (fun hHeld => ?_)
 clear hK K
 refine norm_ (a' := ?_) ?_ ?_
 rotate_left
 ·show Act.put _ (some 23) _ = _
  simp only [Act.put, zsi, zcz, zcs, i64_w, i32_w]
  rfl
 refine pure_ (i := 6) (N := some 24) (v := ?_) (a' := ?_) #[true, true, true, true, true, true, true, false] rfl rfl (any_of HT_.out (by kernel_rfl)) (fun _ _ _ h => h) (Or.inl ⟨by rfl, ?_⟩) ?_ ?_
 rotate_left
 ·intro w'
  go_simp
  with_reducible rfl
 rotate_left
 ·simp only [Act.put, zsi, zcz, zcs, i64_w, i32_w]
  rfl
 refine pure_ (i := 7) (N := some 7) (v := ?_) (a' := ?_) #[true, true, true, true, true, true, true, true] rfl rfl (any_of HT_.out (by kernel_rfl)) (fun _ _ _ h => h) (Or.inl ⟨by rfl, ?_⟩) ?_ ?_
 rotate_left
 ·intro w'
  go_simp
  with_reducible rfl
 rotate_left
 ·simp only [Act.put, zsi, zcz, zcs, i64_w, i32_w]
  rfl
 refine done_ (done_of HT_.out (by kernel_rfl)) ?_
 try go_wp2
 have n0_ := As0.mk (bkd BK167.out)
 have n1_ := As0.mk (bd1 HB.out)
 clear BK167
 clear HB
 have BK167 := n0_
 have HB := n1_
 clear n0_ n1_
 refine start_ (n := 8) (S := fun w' => w'.cell? ⟨gb167, 0, none⟩ = some (.int .i64 a0_0) ∧ w'.cell? ⟨gb167, 1, none⟩ = some (.int .i64 a0_1)) (ds := []) #[false, false, false, false, false, false, false, false] (by kernel_rfl) rfl rfl ⟨(bce BK167.out 0).trans rfl, (bce BK167.out 1).trans rfl⟩ (fun hHeld => ?_); refine with_tabW ff_mul.tab2 ff_mul.bits2 (fun HT_ HW_ => ?_)
 generalize w12.drew = w13 at BK167 HB hHeld ⊢
 refine pure_ (i := 1) (N := some 26) (v := ?_) (a' := ?_) #[false, true, false, false, false, false, false, false] rfl rfl (any_of HT_.out (by kernel_rfl)) (fun _ _ _ h => h) (Or.inl ⟨by rfl, ?_⟩) ?_ ?_
 rotate_left
 ·intro w'
  go_simp
  with_reducible rfl
 rotate_left
 ·simp only [Act.put, zsi, zcz, zcs, i64_w, i32_w]
  rfl
 refine pure_ (i := 4) (N := some 29) (v := ?_) (a' := ?_) #[false, true, false, false, true, false, false, false] rfl rfl (any_of HT_.out (by kernel_rfl)) (fun _ _ _ h => h) (Or.inl ⟨by rfl, ?_⟩) ?_ ?_
 rotate_left
 ·intro w'
  go_simp
  with_reducible rfl
 rotate_left
 ·simp only [Act.put, zsi, zcz, zcs, i64_w, i32_w]
  rfl
 refine take_ (i := 0) (N := some 25) (v := ?_) (a' := ?_) #[true, true, false, false, true, false, false, false] rfl rfl (take_ofW HT_.out HW_.out (by kernel_rfl)) (fun _ _ _ h => h) (Or.inl ⟨by rfl, ?_⟩) hHeld ?_ ?_
 rotate_left
 ·rintro w' ⟨s0, s1⟩
  go_simp
  with_reducible rfl
 rotate_left
 ·simp only [Act.put, zsi, zcz, zcs, i64_w, i32_w]
  rfl
 refine take_ (i := 3) (N := some 28) (v := ?_) (a' := ?_) #[true, true, false, true, true, false, false, false] rfl rfl (take_ofW HT_.out HW_.out (by kernel_rfl)) (fun _ _ _ h => h) (Or.inl ⟨by rfl, ?_⟩) hHeld ?_ ?_
 rotate_left
 ·rintro w' ⟨s0, s1⟩
  go_simp
  with_reducible rfl
 rotate_left
 ·simp only [Act.put, zsi, zcz, zcs, i64_w, i32_w]
  rfl
 refine one_ (i := 2) (N := some 27) #[true, true, true, true, true, false, false, false] rfl rfl (one_of HT_.out (by kernel_rfl)) (by decide) (fun K hK => ?_)
 refine goes_ Try.func40 (by kernel_rfl) rfl #[.agg #[.int .i64 a0_0, .int .i64 a0_1], .int .u64 a1] (by rfl) rfl rfl (by (try simp only [zmt, zmc, zmn]); first | done | rfl) ?_
 with_reducible refine (ff_size.calls a0_0 a0_1 a1 t170 _ A6.out).mono ?_
 rintro e w14 ⟨rfl, hb⟩
 refine ⟨_, rfl, ?_⟩
 have n0_ := As0.mk (bkb (g := gb167) (o := .cells #[.int .i64 a0_0, .int .i64 a0_1] 43 (0, 0)) (by (with_reducible repeat (first | refine bkN ?_ _ | refine bkd ?_ | refine bka ?_ _)); exact BK167.out) hb)
 have n1_ := As0.mk (bst (by repeat (first | (with_reducible first | exact HB.out | apply bal | apply pwB_ | apply bd1 | refine bse ?_ GE167.out) | exact HB.out)) hb)
 clear BK167
 clear HB
 have BK167 := n0_
 have HB := n1_
 clear n0_ n1_
 (try clear hb)
 (try clear hb2)
 (try clear hk)
 (try clear hi)
 refine hK.out _ _ ⟨(bce BK167.out 0).trans rfl, (bce BK167.out 1).trans rfl⟩ (fun hHeld => ?_)
 clear hK K
 refine norm_ (a' := ?_) ?_ ?_
 rotate_left
 ·show Act.put _ (some 27) _ = _
  simp only [Act.put, zsi, zcz, zcs, i64_w, i32_w]
  rfl
 refine one_ (i := 5) (N := some 30) #[true, true, true, true, true, true, false, false] rfl rfl (one_of HT_.out (by kernel_rfl)) (by decide) (fun K hK => ?_)
 refine goes_ Try.func40 (by kernel_rfl) rfl #[.agg #[.int .i64 a0_0, .int .i64 a0_1], .int .u64 a2] (by rfl) rfl rfl (by (try simp only [zmt, zmc, zmn]); first | done | rfl) ?_
 with_reducible refine (ff_size.calls a0_0 a0_1 a2 t171 _ A7.out).mono ?_
 rintro e w15 ⟨rfl, hb⟩
 refine ⟨_, rfl, ?_⟩
 have n0_ := As0.mk (bkb (g := gb167) (o := .cells #[.int .i64 a0_0, .int .i64 a0_1] 43 (0, 0)) (by (with_reducible repeat (first | refine bkN ?_ _ | refine bkd ?_ | refine bka ?_ _)); exact BK167.out) hb)
 have n1_ := As0.mk (bst (by repeat (first | (with_reducible first | exact HB.out | apply bal | apply pwB_ | apply bd1 | refine bse ?_ GE167.out) | exact HB.out)) hb)
 clear BK167
 clear HB
 have BK167 := n0_
 have HB := n1_
 clear n0_ n1_
 (try clear hb)
 (try clear hb2)
 (try clear hk)
 (try clear hi)
 refine hK.out _ _ ⟨(bce BK167.out 0).trans rfl, (bce BK167.out 1).trans rfl⟩ (fun hHeld => ?_)
 clear hK K
 refine norm_ (a' := ?_) ?_ ?_
 rotate_left
 ·show Act.put _ (some 30) _ = _
  simp only [Act.put, zsi, zcz, zcs, i64_w, i32_w]
  rfl
 refine pure_ (i := 6) (N := some 8) (v := ?_) (a' := ?_) #[true, true, true, true, true, true, true, false] rfl rfl (any_of HT_.out (by kernel_rfl)) (fun _ _ _ h => h) (Or.inl ⟨by rfl, ?_⟩) ?_ ?_
 rotate_left
 ·intro w'
  go_simp
  with_reducible rfl
 rotate_left
 ·simp only [Act.put, zsi, zcz, zcs, i64_w, i32_w]
  rfl
 refine pure_ (i := 7) (N := some 9) (v := ?_) (a' := ?_) #[true, true, true, true, true, true, true, true] rfl rfl (any_of HT_.out (by kernel_rfl)) (fun _ _ _ h => h) (Or.inl ⟨by rfl, ?_⟩) ?_ ?_
 rotate_left
 ·intro w'
  go_simp
  with_reducible rfl
 rotate_left
 ·simp only [Act.put, zsi, zcz, zcs, i64_w, i32_w]
  rfl
 refine done_ (done_of HT_.out (by kernel_rfl)) ?_
 go_upto_region 3 with (fail)
 go_cut [40] (fun v40 wc => ∃ (kq : Nat) (x40_7 : Bool), v40 = .bool x40_7 ∧ As0 (ff_mul.j0 kq a1 a2 (t168 != t169) t170 t171 x40_7 a0_0 a0_1 = some r) ∧ As0 (kq ≤ k) ∧ As0 (wc.heap[gb167]? = some (.cells #[.int .i64 a0_0, .int .i64 a0_1] 43 (0, 0))) ∧ As0 (Below w.heap.size w wc))
 case first =>
  have H := HC8.out
  clear HC8
  replace H := zob H
  obtain ⟨t172, A160, H⟩ := H
  replace H : (if t170 = t172 then (ff_mul.j0 k a1 a2 (t168 != t169) t170 t171 true a0_0 a0_1) else ((ff_infinity.f a0_0 a0_1).bind fun t173 => (ff_mul.j0 k a1 a2 (t168 != t169) t170 t171 (t171 == t173) a0_0 a0_1))) = some r := H
  have A16 := As0.mk A160
  clear A160
  by_cases c17 : t170 = t172
  ·rw [if_pos c17] at H
   have c17b0 : (t170 == t172) = true := beq_iff_eq.mpr c17
   have c17b1 : (t170 != t172) = false := bne_eq_false_iff_eq.mpr c17
   clear c17
   (first | rw [c17b0] | (simp only [i64_w, i32_w]; rw [c17b0]) | skip)
   have H' := As0.mk H
   clear H
   have hcz18_0 : w15.cell? ⟨gb167, 0, none⟩ = some (.int .i64 a0_0) := (bce BK167.out 0).trans rfl
   have hcz18_1 : w15.cell? ⟨gb167, 1, none⟩ = some (.int .i64 a0_1) := (bce BK167.out 1).trans rfl
   have hfz18_0 := bkf BK167.out 0
   have hfz18_1 := bkf BK167.out 1
   go_wp2_with (first | ((with_reducible refine gcl (f := 50) rfl ?_); refine goesL_ (some 33) rfl rfl Try.func50 (by kernel_rfl) rfl #[.agg #[.int .i64 a0_0, .int .i64 a0_1]] rfl (by (try simp only [zmt, zmc, zmn]); first | done | rfl) ?_; (with_reducible refine (ff_infinity.calls a0_0 a0_1 t172 _ A16.out).mono ?_); rintro e w19 ⟨rfl, hb⟩; refine ⟨_, rfl, ?_⟩; have n0_ := As0.mk (bkb (g := gb167) (o := .cells #[.int .i64 a0_0, .int .i64 a0_1] 43 (0, 0)) (by (with_reducible repeat (first | refine bkN ?_ _ | refine bkd ?_ | refine bka ?_ _)); exact BK167.out) hb); have n1_ := As0.mk (bst (by repeat (first | (with_reducible first | exact HB.out | apply bal | apply pwB_ | apply bd1 | refine bse ?_ GE167.out) | exact HB.out)) hb); clear BK167; clear HB; have BK167 := n0_; have HB := n1_; clear n0_ n1_; (try clear hb); (try clear hb2); (try clear hk); (try clear hi)))
   go_meet
   case rel => exact ⟨_, (true), (by first | rfl | (simp; done) | (simp [*]; done)), H', ⟨by first | omega | exact Nat.le_refl _⟩, ⟨by (with_reducible repeat (first | refine bkN ?_ _ | refine bkd ?_ | refine bka ?_ _)); exact BK167.out⟩, ⟨by repeat (first | (with_reducible first | exact HB.out | apply bal | apply pwB_ | apply bd1 | refine bse ?_ GE167.out) | exact HB.out)⟩⟩
  ·rw [if_neg c17] at H
   have c17b0 : (t170 == t172) = false := beq_eq_false_iff_ne.mpr c17
   have c17b1 : (t170 != t172) = true := bne_iff_ne.mpr c17
   (first | rw [c17b0] | (simp only [i64_w, i32_w]; rw [c17b0]) | skip)
   replace H := zob H
   obtain ⟨t173, A200, H⟩ := H
   replace H : (ff_mul.j0 k a1 a2 (t168 != t169) t170 t171 (t171 == t173) a0_0 a0_1) = some r := H
   have A20 := As0.mk A200
   clear A200
   have H' := As0.mk H
   clear H
   have hcz21_0 : w15.cell? ⟨gb167, 0, none⟩ = some (.int .i64 a0_0) := (bce BK167.out 0).trans rfl
   have hcz21_1 : w15.cell? ⟨gb167, 1, none⟩ = some (.int .i64 a0_1) := (bce BK167.out 1).trans rfl
   have hfz21_0 := bkf BK167.out 0
   have hfz21_1 := bkf BK167.out 1
   go_wp2_with (first | ((with_reducible refine gcl (f := 50) rfl ?_); refine goesL_ (some 33) rfl rfl Try.func50 (by kernel_rfl) rfl #[.agg #[.int .i64 a0_0, .int .i64 a0_1]] rfl (by (try simp only [zmt, zmc, zmn]); first | done | rfl) ?_; (with_reducible refine (ff_infinity.calls a0_0 a0_1 t172 _ A16.out).mono ?_); rintro e w22 ⟨rfl, hb⟩; refine ⟨_, rfl, ?_⟩; have n0_ := As0.mk (bkb (g := gb167) (o := .cells #[.int .i64 a0_0, .int .i64 a0_1] 43 (0, 0)) (by (with_reducible repeat (first | refine bkN ?_ _ | refine bkd ?_ | refine bka ?_ _)); exact BK167.out) hb); have n1_ := As0.mk (bst (by repeat (first | (with_reducible first | exact HB.out | apply bal | apply pwB_ | apply bd1 | refine bse ?_ GE167.out) | exact HB.out)) hb); clear BK167; clear HB; have BK167 := n0_; have HB := n1_; clear n0_ n1_; (try clear hb); (try clear hb2); (try clear hk); (try clear hi); have hcz23_0 : w22.cell? ⟨gb167, 0, none⟩ = some (.int .i64 a0_0) := (bce BK167.out 0).trans rfl; have hcz23_1 : w22.cell? ⟨gb167, 1, none⟩ = some (.int .i64 a0_1) := (bce BK167.out 1).trans rfl; have hfz23_0 := bkf BK167.out 0; have hfz23_1 := bkf BK167.out 1) | (go_at_call 50; (with_reducible refine (ff_infinity.calls a0_0 a0_1 t173 _ A20.out).mono ?_); rintro e w24 ⟨rfl, hb⟩; have n0_ := As0.mk (bkb (g := gb167) (o := .cells #[.int .i64 a0_0, .int .i64 a0_1] 43 (0, 0)) (by (with_reducible repeat (first | refine bkN ?_ _ | refine bkd ?_ | refine bka ?_ _)); exact BK167.out) hb); have n1_ := As0.mk (bst (by repeat (first | (with_reducible first | exact HB.out | apply bal | apply pwB_ | apply bd1 | refine bse ?_ GE167.out) | exact HB.out)) hb); clear BK167; clear HB; have BK167 := n0_; have HB := n1_; clear n0_ n1_; (try clear hb); (try clear hb2); (try clear hk); (try clear hi)))
   go_meet
   case rel => exact ⟨_, ((t171 == t173)), (by first | rfl | (simp; done) | (simp [*]; done)), H', ⟨by first | omega | exact Nat.le_refl _⟩, ⟨by (with_reducible repeat (first | refine bkN ?_ _ | refine bkd ?_ | refine bka ?_ _)); exact BK167.out⟩, ⟨by repeat (first | (with_reducible first | exact HB.out | apply bal | apply pwB_ | apply bd1 | refine bse ?_ GE167.out) | exact HB.out)⟩⟩
 case rest =>
  clear HC8
  try clear c1
  try clear p2
  try clear c3
  try clear c4
  try clear c5
  try clear c17
  try clear c17b0
  try clear c17b1
  try clear hcz18_0
  try clear hcz18_1
  try clear hcz21_0
  try clear hcz21_1
  try clear hcz23_0
  try clear hcz23_1
  try clear hfz18_0
  try clear hfz18_1
  try clear hfz21_0
  try clear hfz21_1
  try clear hfz23_0
  try clear hfz23_1
  obtain ⟨kq, x40_7, rfl, HA, HJ7, BK167, HB⟩ := hcut
  cases kq with
  | zero => exact absurd HA.out (by simp [ff_mul.j0])
  | succ kj7 =>
   have H := HA.out
   clear HA
   simp only [ff_mul.j0] at H
   by_cases c25 : x40_7 = true
   ·subst c25
    have H1 : (if t170 = 0 then (ff_mul.j1 kj7 (t168 != t169) true a0_0 a0_1) else (ff_mul.j1 kj7 (t168 != t169) (t171 == 0) a0_0 a0_1)) = some r := by rw [if_pos rfl] at H; exact H
    clear H
    have H := H1
    clear H1
    have HC26 := As0.mk H
    clear H
    go_upto_region 4 with (fail)
    go_cut [46] (fun v46 wc => ∃ (kq : Nat) (x46_25 : Bool), v46 = .bool x46_25 ∧ As0 (ff_mul.j1 kq (t168 != t169) x46_25 a0_0 a0_1 = some r) ∧ As0 (kq ≤ kj7) ∧ As0 (wc.heap[gb167]? = some (.cells #[.int .i64 a0_0, .int .i64 a0_1] 43 (0, 0))) ∧ As0 (Below w.heap.size w wc))
    case first =>
     have H := HC26.out
     clear HC26
     by_cases c27 : t170 = 0
     ·rw [if_pos c27] at H
      have c27b0 : (t170 == 0) = true := beq_iff_eq.mpr c27
      have c27b1 : (t170 != 0) = false := bne_eq_false_iff_eq.mpr c27
      clear c27
      (first | rw [c27b0] | (simp only [i64_w, i32_w]; rw [c27b0]) | skip)
      have H' := As0.mk H
      clear H
      go_wp2
      go_meet
      case rel => exact ⟨_, (true), (by first | rfl | (simp; done) | (simp [*]; done)), H', ⟨by have := HJ7.out; first | omega | exact Nat.le_refl _⟩, ⟨by (with_reducible repeat (first | refine bkN ?_ _ | refine bkd ?_ | refine bka ?_ _)); exact BK167.out⟩, ⟨by repeat (first | (with_reducible first | exact HB.out | apply bal | apply pwB_ | apply bd1 | refine bse ?_ GE167.out) | exact HB.out)⟩⟩
     ·rw [if_neg c27] at H
      have c27b0 : (t170 == 0) = false := beq_eq_false_iff_ne.mpr c27
      have c27b1 : (t170 != 0) = true := bne_iff_ne.mpr c27
      (first | rw [c27b0] | (simp only [i64_w, i32_w]; rw [c27b0]) | skip)
      have H' := As0.mk H
      clear H
      go_wp2
      go_meet
      case rel => exact ⟨_, ((t171 == 0)), (by first | rfl | (simp; done) | (simp [*]; done)), H', ⟨by have := HJ7.out; first | omega | exact Nat.le_refl _⟩, ⟨by (with_reducible repeat (first | refine bkN ?_ _ | refine bkd ?_ | refine bka ?_ _)); exact BK167.out⟩, ⟨by repeat (first | (with_reducible first | exact HB.out | apply bal | apply pwB_ | apply bd1 | refine bse ?_ GE167.out) | exact HB.out)⟩⟩
    case rest =>
     clear HC26
     try clear c1
     try clear c2
     try clear p2
     try clear c3
     try clear c4
     try clear c5
     try clear c17
     try clear c17b0
     try clear c17b1
     try clear c25
     try clear c27
     try clear c27b0
     try clear c27b1
     try clear hcz18_0
     try clear hcz18_1
     try clear hcz21_0
     try clear hcz21_1
     try clear hcz23_0
     try clear hcz23_1
     try clear hfz18_0
     try clear hfz18_1
     try clear hfz21_0
     try clear hfz21_1
     try clear hfz23_0
     try clear hfz23_1
     try clear p2
     obtain ⟨kq, x46_25, rfl, HA, HJ25, BK167, HB⟩ := hcut
     cases kq with
     | zero => exact absurd HA.out (by simp [ff_mul.j1])
     | succ kj25 =>
      have H := HA.out
      clear HA
      simp only [ff_mul.j1] at H
      by_cases c28 : x46_25 = true
      ·subst c28
       have H1 : ((ff_nan.f a0_0 a0_1).bind fun t174 => (some t174)) = some r := by rw [if_pos rfl] at H; exact H
       clear H
       have H := H1
       clear H1
       replace H := zob H
       obtain ⟨t174, A290, H⟩ := H
       replace H : (some t174) = some r := H
       have A29 := As0.mk A290
       clear A290
       obtain rfl := Option.some.inj H
       have hcz30_0 : wc.cell? ⟨gb167, 0, none⟩ = some (.int .i64 a0_0) := (bce BK167.out 0).trans rfl
       have hcz30_1 : wc.cell? ⟨gb167, 1, none⟩ = some (.int .i64 a0_1) := (bce BK167.out 1).trans rfl
       have hfz30_0 := bkf BK167.out 0
       have hfz30_1 := bkf BK167.out 1
       go_wp2_with (first | ((with_reducible refine gcl (f := 42) rfl ?_); refine goesL_ (some 48) rfl rfl Try.func42 (by kernel_rfl) rfl #[.agg #[.int .i64 a0_0, .int .i64 a0_1]] rfl (by (try simp only [zmt, zmc, zmn]); first | done | rfl) ?_; (with_reducible refine (ff_nan.calls a0_0 a0_1 t174 _ A29.out).mono ?_); rintro e w31 ⟨rfl, hb⟩; refine ⟨_, rfl, ?_⟩; have n0_ := As0.mk (bkb (g := gb167) (o := .cells #[.int .i64 a0_0, .int .i64 a0_1] 43 (0, 0)) (by (with_reducible repeat (first | refine bkN ?_ _ | refine bkd ?_ | refine bka ?_ _)); exact BK167.out) hb); have n1_ := As0.mk (bst (by repeat (first | (with_reducible first | exact HB.out | apply bal | apply pwB_ | apply bd1 | refine bse ?_ GE167.out) | exact HB.out)) hb); clear BK167; clear HB; have BK167 := n0_; have HB := n1_; clear n0_ n1_; (try clear hb); (try clear hb2); (try clear hk); (try clear hi)))
       go_ret
       exact ⟨by first | rfl | (simp [*] <;> rfl), by repeat (first | (with_reducible first | exact HB.out | apply bal | apply pwB_ | apply bd1 | refine bse ?_ GE167.out) | exact HB.out)⟩
      ·replace c28 := Bool.eq_false_iff.mpr c28
       subst c28
       have H1 : ((ff_infinity.f a0_0 a0_1).bind fun t175 => ((ff_signed.f a0_0 a0_1 (t168 != t169) t175).bind fun t176 => (some t176))) = some r := by rw [if_neg (show ¬ (false = true) by decide)] at H; exact H
       clear H
       have H := H1
       clear H1
       replace H := zob H
       obtain ⟨t175, A320, H⟩ := H
       replace H : ((ff_signed.f a0_0 a0_1 (t168 != t169) t175).bind fun t176 => (some t176)) = some r := H
       have A32 := As0.mk A320
       clear A320
       replace H := zob H
       obtain ⟨t176, A330, H⟩ := H
       replace H : (some t176) = some r := H
       have A33 := As0.mk A330
       clear A330
       obtain rfl := Option.some.inj H
       try go_wp2
       have n0_ := As0.mk (bkd BK167.out)
       have n1_ := As0.mk (bd1 HB.out)
       clear BK167
       clear HB
       have BK167 := n0_
       have HB := n1_
       clear n0_ n1_
       refine start_ (n := 6) (S := fun w' => w'.cell? ⟨gb167, 0, none⟩ = some (.int .i64 a0_0) ∧ w'.cell? ⟨gb167, 1, none⟩ = some (.int .i64 a0_1)) (ds := []) #[false, false, false, false, false, false] (by kernel_rfl) rfl rfl ⟨(bce BK167.out 0).trans rfl, (bce BK167.out 1).trans rfl⟩ (fun hHeld => ?_)
       generalize wc.drew = w34 at BK167 HB hHeld ⊢
       refine pure_ (i := 1) (N := some 50) (v := ?_) (a' := ?_) #[false, true, false, false, false, false] rfl rfl (by kernel_rfl) (fun _ _ _ h => h) (Or.inl ⟨by rfl, ?_⟩) ?_ ?_
       rotate_left
       ·intro w'
        go_simp
        with_reducible rfl
       rotate_left
       ·simp only [Act.put, zsi, zcz, zcs, i64_w, i32_w]
        rfl
       refine take_ (i := 0) (N := some 49) (v := ?_) (a' := ?_) #[true, true, false, false, false, false] rfl rfl (by kernel_rfl) (fun _ _ _ h => h) (Or.inl ⟨by rfl, ?_⟩) hHeld ?_ ?_
       rotate_left
       ·rintro w' ⟨s0, s1⟩
        go_simp
        with_reducible rfl
       rotate_left
       ·simp only [Act.put, zsi, zcz, zcs, i64_w, i32_w]
        rfl
       refine take_ (i := 2) (N := some 51) (v := ?_) (a' := ?_) #[true, true, true, false, false, false] rfl rfl (by kernel_rfl) (fun _ _ _ h => h) (Or.inl ⟨by rfl, ?_⟩) hHeld ?_ ?_
       rotate_left
       ·rintro w' ⟨s0, s1⟩
        go_simp
        with_reducible rfl
       rotate_left
       ·simp only [Act.put, zsi, zcz, zcs, i64_w, i32_w]
        rfl
       refine one_ (i := 3) (N := some 52) #[true, true, true, true, false, false] rfl rfl (by kernel_rfl) (by decide) (fun K hK => ?_)
       refine goes_ Try.func50 (by kernel_rfl) rfl #[.agg #[.int .i64 a0_0, .int .i64 a0_1]] (by rfl) rfl rfl (by (try simp only [zmt, zmc, zmn]); first | done | rfl) ?_
       with_reducible refine (ff_infinity.calls a0_0 a0_1 t175 _ A32.out).mono ?_
       rintro e w35 ⟨rfl, hb⟩
       refine ⟨_, rfl, ?_⟩
       have n0_ := As0.mk (bkb (g := gb167) (o := .cells #[.int .i64 a0_0, .int .i64 a0_1] 43 (0, 0)) (by (with_reducible repeat (first | refine bkN ?_ _ | refine bkd ?_ | refine bka ?_ _)); exact BK167.out) hb)
       have n1_ := As0.mk (bst (by repeat (first | (with_reducible first | exact HB.out | apply bal | apply pwB_ | apply bd1 | refine bse ?_ GE167.out) | exact HB.out)) hb)
       clear BK167
       clear HB
       have BK167 := n0_
       have HB := n1_
       clear n0_ n1_
       (try clear hb)
       (try clear hb2)
       (try clear hk)
       (try clear hi)
       refine hK.out _ _ ⟨(bce BK167.out 0).trans rfl, (bce BK167.out 1).trans rfl⟩ (fun hHeld => ?_)
       clear hK K
       refine norm_ (a' := ?_) ?_ ?_
       rotate_left
       ·show Act.put _ (some 52) _ = _
        simp only [Act.put, zsi, zcz, zcs, i64_w, i32_w]
        rfl
       refine one_ (i := 4) (N := some 53) #[true, true, true, true, true, false] rfl rfl (by kernel_rfl) (by decide) (fun K hK => ?_)
       refine goes_ Try.func38 (by kernel_rfl) rfl #[.agg #[.int .i64 a0_0, .int .i64 a0_1], .bool (t168 != t169), .int .u64 t175] (by rfl) rfl rfl (by (try simp only [zmt, zmc, zmn]); first | done | rfl) ?_
       with_reducible refine (ff_signed.calls a0_0 a0_1 (t168 != t169) t175 t176 _ A33.out).mono ?_
       rintro e w36 ⟨rfl, hb⟩
       refine ⟨_, rfl, ?_⟩
       have n0_ := As0.mk (bkb (g := gb167) (o := .cells #[.int .i64 a0_0, .int .i64 a0_1] 43 (0, 0)) (by (with_reducible repeat (first | refine bkN ?_ _ | refine bkd ?_ | refine bka ?_ _)); exact BK167.out) hb)
       have n1_ := As0.mk (bst (by repeat (first | (with_reducible first | exact HB.out | apply bal | apply pwB_ | apply bd1 | refine bse ?_ GE167.out) | exact HB.out)) hb)
       clear BK167
       clear HB
       have BK167 := n0_
       have HB := n1_
       clear n0_ n1_
       (try clear hb)
       (try clear hb2)
       (try clear hk)
       (try clear hi)
       refine hK.out _ _ ⟨(bce BK167.out 0).trans rfl, (bce BK167.out 1).trans rfl⟩ (fun hHeld => ?_)
       clear hK K
       refine norm_ (a' := ?_) ?_ ?_
       rotate_left
       ·show Act.put _ (some 53) _ = _
        simp only [Act.put, zsi, zcz, zcs, i64_w, i32_w]
        rfl
       refine pure_ (i := 5) (N := some 6) (v := ?_) (a' := ?_) #[true, true, true, true, true, true] rfl rfl (by kernel_rfl) (fun _ _ _ h => h) (Or.inl ⟨by rfl, ?_⟩) ?_ ?_
       rotate_left
       ·intro w'
        go_simp
        with_reducible rfl
       rotate_left
       ·simp only [Act.put, zsi, zcz, zcs, i64_w, i32_w]
        rfl
       refine done_ (by kernel_rfl) ?_
       try go_wp2
       go_ret
       exact ⟨by first | rfl | (simp [*] <;> rfl), by repeat (first | (with_reducible first | exact HB.out | apply bal | apply pwB_ | apply bd1 | refine bse ?_ GE167.out) | exact HB.out)⟩
   ·replace c25 := Bool.eq_false_iff.mpr c25
    subst c25
    have H1 : ((ff_parts.f a0_0 a0_1 a1).bind fun bt177 => ((ff_parts.f a0_0 a0_1 a2).bind fun bt179 => ((bits_Mul64.f bt177.1 bt179.1).bind fun bt181 => ((bits_Len64.f bt181.1).bind fun t183 => (if t183 > 0 then ((floats_jam.f bt181.2 t183).bind fun t184 => (if 0 ≤ (IntKind.u64.wrap (wrap64 (64 - t183))) then ((ff_round.f kj7 a0_0 a0_1 (t168 != t169) (Go.bits .or .u64 t184 (shl .u64 bt181.1 (IntKind.u64.wrap (wrap64 (64 - t183))))) (wrap64 ((wrap64 (bt177.2 + bt179.2)) + t183)) false).bind fun t185 => (some t185)) else (none))) else ((ff_round.f kj7 a0_0 a0_1 (t168 != t169) bt181.2 (wrap64 ((wrap64 (bt177.2 + bt179.2)) + t183)) false).bind fun t186 => (some t186))))))) = some r := by rw [if_neg (show ¬ (false = true) by decide)] at H; exact H
    clear H
    have H := H1
    clear H1
    replace H := zob H
    obtain ⟨⟨t177, t178⟩, A370, H⟩ := H
    replace H : ((ff_parts.f a0_0 a0_1 a2).bind fun bt179 => ((bits_Mul64.f t177 bt179.1).bind fun bt181 => ((bits_Len64.f bt181.1).bind fun t183 => (if t183 > 0 then ((floats_jam.f bt181.2 t183).bind fun t184 => (if 0 ≤ (IntKind.u64.wrap (wrap64 (64 - t183))) then ((ff_round.f kj7 a0_0 a0_1 (t168 != t169) (Go.bits .or .u64 t184 (shl .u64 bt181.1 (IntKind.u64.wrap (wrap64 (64 - t183))))) (wrap64 ((wrap64 (t178 + bt179.2)) + t183)) false).bind fun t185 => (some t185)) else (none))) else ((ff_round.f kj7 a0_0 a0_1 (t168 != t169) bt181.2 (wrap64 ((wrap64 (t178 + bt179.2)) + t183)) false).bind fun t186 => (some t186)))))) = some r := H
    have A37 := As0.mk A370
    clear A370
    replace H := zob H
    obtain ⟨⟨t179, t180⟩, A380, H⟩ := H
    replace H : ((bits_Mul64.f t177 t179).bind fun bt181 => ((bits_Len64.f bt181.1).bind fun t183 => (if t183 > 0 then ((floats_jam.f bt181.2 t183).bind fun t184 => (if 0 ≤ (IntKind.u64.wrap (wrap64 (64 - t183))) then ((ff_round.f kj7 a0_0 a0_1 (t168 != t169) (Go.bits .or .u64 t184 (shl .u64 bt181.1 (IntKind.u64.wrap (wrap64 (64 - t183))))) (wrap64 ((wrap64 (t178 + t180)) + t183)) false).bind fun t185 => (some t185)) else (none))) else ((ff_round.f kj7 a0_0 a0_1 (t168 != t169) bt181.2 (wrap64 ((wrap64 (t178 + t180)) + t183)) false).bind fun t186 => (some t186))))) = some r := H
    have A38 := As0.mk A380
    clear A380
    replace H := zob H
    obtain ⟨⟨t181, t182⟩, A390, H⟩ := H
    replace H : ((bits_Len64.f t181).bind fun t183 => (if t183 > 0 then ((floats_jam.f t182 t183).bind fun t184 => (if 0 ≤ (IntKind.u64.wrap (wrap64 (64 - t183))) then ((ff_round.f kj7 a0_0 a0_1 (t168 != t169) (Go.bits .or .u64 t184 (shl .u64 t181 (IntKind.u64.wrap (wrap64 (64 - t183))))) (wrap64 ((wrap64 (t178 + t180)) + t183)) false).bind fun t185 => (some t185)) else (none))) else ((ff_round.f kj7 a0_0 a0_1 (t168 != t169) t182 (wrap64 ((wrap64 (t178 + t180)) + t183)) false).bind fun t186 => (some t186)))) = some r := H
    have A39 := As0.mk A390
    clear A390
    replace H := zob H
    obtain ⟨t183, A400, H⟩ := H
    replace H : (if t183 > 0 then ((floats_jam.f t182 t183).bind fun t184 => (if 0 ≤ (IntKind.u64.wrap (wrap64 (64 - t183))) then ((ff_round.f kj7 a0_0 a0_1 (t168 != t169) (Go.bits .or .u64 t184 (shl .u64 t181 (IntKind.u64.wrap (wrap64 (64 - t183))))) (wrap64 ((wrap64 (t178 + t180)) + t183)) false).bind fun t185 => (some t185)) else (none))) else ((ff_round.f kj7 a0_0 a0_1 (t168 != t169) t182 (wrap64 ((wrap64 (t178 + t180)) + t183)) false).bind fun t186 => (some t186))) = some r := H
    have A40 := As0.mk A400
    clear A400
    by_cases c41 : t183 > 0
    ·rw [if_pos c41] at H
     have c41b0 : decide (0 < t183) = true := decide_eq_true c41
     clear c41
     replace H := zob H
     obtain ⟨t184, A420, H⟩ := H
     replace H : (if 0 ≤ (IntKind.u64.wrap (wrap64 (64 - t183))) then ((ff_round.f kj7 a0_0 a0_1 (t168 != t169) (Go.bits .or .u64 t184 (shl .u64 t181 (IntKind.u64.wrap (wrap64 (64 - t183))))) (wrap64 ((wrap64 (t178 + t180)) + t183)) false).bind fun t185 => (some t185)) else (none)) = some r := H
     have A42 := As0.mk A420
     clear A420
     obtain ⟨ji43, hji43⟩ : ∃ j_ : Int, (IntKind.u64.wrap (wrap64 (64 - t183))) = j_ := ⟨_, rfl⟩
     replace H : (if 0 ≤ (ji43) then ((ff_round.f kj7 a0_0 a0_1 (t168 != t169) (Go.bits .or .u64 t184 (shl .u64 t181 (ji43))) (wrap64 ((wrap64 (t178 + t180)) + t183)) false).bind fun t185 => (some t185)) else (none)) = some r := by first | (rw [hji43] at H; exact H) | (simp only [hji43] at H ⊢; exact H)
     (try rw [hji43] at A37)
     (try rw [hji43] at A38)
     (try rw [hji43] at A39)
     (try rw [hji43] at A40)
     (try rw [hji43] at A42)
     by_cases c44 : 0 ≤ (ji43)
     ·rw [if_pos c44] at H
      have c44b0 := eq_true c44
      have c44b1 : decide (0 ≤ (ji43)) = true := decide_eq_true c44
      clear c44
      obtain ⟨ji45, hji45⟩ : ∃ j_ : Int, (shl .u64 t181 (ji43)) = j_ := ⟨_, rfl⟩
      replace H : ((ff_round.f kj7 a0_0 a0_1 (t168 != t169) (Go.bits .or .u64 t184 (ji45)) (wrap64 ((wrap64 (t178 + t180)) + t183)) false).bind fun t185 => (some t185)) = some r := by first | (rw [hji45] at H; exact H) | (simp only [hji45] at H ⊢; exact H)
      (try rw [hji45] at A37)
      (try rw [hji45] at A38)
      (try rw [hji45] at A39)
      (try rw [hji45] at A40)
      (try rw [hji45] at A42)
      have hji45_ : (IntKind.u64.wrap (t181 * 2 ^ min (ji43).toNat 64)) = ji45 := hji45
      have hji45z : (ji43) ≤ 64 → (IntKind.u64.wrap (t181 * 2 ^ (ji43).toNat)) = ji45 := shl_small hji45
      replace H := zob H
      obtain ⟨t185, A460, H⟩ := H
      replace H : (some t185) = some r := H
      have A46 := As0.mk A460
      clear A460
      obtain rfl := Option.some.inj H
      have hcz47_0 : wc.cell? ⟨gb167, 0, none⟩ = some (.int .i64 a0_0) := (bce BK167.out 0).trans rfl
      have hcz47_1 : wc.cell? ⟨gb167, 1, none⟩ = some (.int .i64 a0_1) := (bce BK167.out 1).trans rfl
      have hfz47_0 := bkf BK167.out 0
      have hfz47_1 := bkf BK167.out 1
      go_wp2_with (first | ((with_reducible refine gcl (f := 57) rfl ?_); refine goesL_ (some 57) rfl rfl Try.func57 (by kernel_rfl) rfl #[.agg #[.int .i64 a0_0, .int .i64 a0_1], .int .u64 a1] rfl (by (try simp only [zmt, zmc, zmn]); first | done | rfl) ?_; (with_reducible refine (ff_parts.calls a0_0 a0_1 a1 t177 t178 _ A37.out).mono ?_); rintro e w48 ⟨rfl, hb⟩; refine ⟨_, rfl, ?_⟩; have n0_ := As0.mk (bkb (g := gb167) (o := .cells #[.int .i64 a0_0, .int .i64 a0_1] 43 (0, 0)) (by (with_reducible repeat (first | refine bkN ?_ _ | refine bkd ?_ | refine bka ?_ _)); exact BK167.out) hb); have n1_ := As0.mk (bst (by repeat (first | (with_reducible first | exact HB.out | apply bal | apply pwB_ | apply bd1 | refine bse ?_ GE167.out) | exact HB.out)) hb); clear BK167; clear HB; have BK167 := n0_; have HB := n1_; clear n0_ n1_; (try clear hb); (try clear hb2); (try clear hk); (try clear hi); have hcz49_0 : w48.cell? ⟨gb167, 0, none⟩ = some (.int .i64 a0_0) := (bce BK167.out 0).trans rfl; have hcz49_1 : w48.cell? ⟨gb167, 1, none⟩ = some (.int .i64 a0_1) := (bce BK167.out 1).trans rfl; have hfz49_0 := bkf BK167.out 0; have hfz49_1 := bkf BK167.out 1) | ((with_reducible refine gcl (f := 57) rfl ?_); refine goesL_ (some 63) rfl rfl Try.func57 (by kernel_rfl) rfl #[.agg #[.int .i64 a0_0, .int .i64 a0_1], .int .u64 a2] rfl (by (try simp only [zmt, zmc, zmn]); first | done | rfl) ?_; (with_reducible refine (ff_parts.calls a0_0 a0_1 a2 t179 t180 _ A38.out).mono ?_); rintro e w50 ⟨rfl, hb⟩; refine ⟨_, rfl, ?_⟩; have n0_ := As0.mk (bkb (g := gb167) (o := .cells #[.int .i64 a0_0, .int .i64 a0_1] 43 (0, 0)) (by (with_reducible repeat (first | refine bkN ?_ _ | refine bkd ?_ | refine bka ?_ _)); exact BK167.out) hb); have n1_ := As0.mk (bst (by repeat (first | (with_reducible first | exact HB.out | apply bal | apply pwB_ | apply bd1 | refine bse ?_ GE167.out) | exact HB.out)) hb); clear BK167; clear HB; have BK167 := n0_; have HB := n1_; clear n0_ n1_; (try clear hb); (try clear hb2); (try clear hk); (try clear hi)) | ((with_reducible refine gcl (f := 66) rfl ?_); refine goesL_ (some 69) rfl rfl Try.func66 (by kernel_rfl) rfl #[.int .u64 t177, .int .u64 t179] rfl (by (try simp only [zmt, zmc, zmn]); first | done | rfl) ?_; (with_reducible refine (bits_Mul64.calls t177 t179 t181 t182 _ A39.out).mono ?_); rintro e w' ⟨rfl, ⟨nd, rfl⟩⟩; refine ⟨_, rfl, ?_⟩) | ((with_reducible refine gcl (f := 63) rfl ?_); refine goesL_ (some 73) rfl rfl Try.func63 (by kernel_rfl) rfl #[.int .u64 t181] rfl (by (try simp only [zmt, zmc, zmn]); first | done | rfl) ?_; (with_reducible refine (bits_Len64.calls t181 t183 _ A40.out).mono ?_); rintro e w' ⟨rfl, ⟨nd, rfl⟩⟩; refine ⟨_, rfl, ?_⟩) | ((with_reducible refine gcl (f := 65) rfl ?_); refine goesL_ (some 79) rfl rfl Try.func65 (by kernel_rfl) rfl #[.int .u64 t182, .int .i64 t183] rfl (by (try simp only [zmt, zmc, zmn]); first | done | rfl) ?_; (with_reducible refine (floats_jam.calls t182 t183 t184 _ A42.out).mono ?_); rintro e w' ⟨rfl, ⟨nd, rfl⟩⟩; refine ⟨_, rfl, ?_⟩; have hcz51_0 : w50.cell? ⟨gb167, 0, none⟩ = some (.int .i64 a0_0) := (bce BK167.out 0).trans rfl; have hcz51_1 : w50.cell? ⟨gb167, 1, none⟩ = some (.int .i64 a0_1) := (bce BK167.out 1).trans rfl; have hfz51_0 := bkf BK167.out 0; have hfz51_1 := bkf BK167.out 1) | ((with_reducible refine gcl (f := 33) rfl ?_); refine goesL_ (some 94) rfl rfl Try.func33 (by kernel_rfl) rfl #[.agg #[.int .i64 a0_0, .int .i64 a0_1], .bool (t168 != t169), .int .u64 (Go.bits .or .u64 t184 (ji45)), .int .i64 (wrap64 ((wrap64 (t178 + t180)) + t183)), .bool false] rfl (by (try simp only [zmt, zmc, zmn]); first | done | (simp only [hji45]; rfl) | rfl) ?_; (with_reducible refine (ff_round.calls kj7 a0_0 a0_1 (t168 != t169) (Go.bits .or .u64 t184 (ji45)) (wrap64 ((wrap64 (t178 + t180)) + t183)) false t185 _ A46.out).mono ?_); rintro e w52 ⟨rfl, hb⟩; refine ⟨_, rfl, ?_⟩; have n0_ := As0.mk (bkb (g := gb167) (o := .cells #[.int .i64 a0_0, .int .i64 a0_1] 43 (0, 0)) (by (with_reducible repeat (first | refine bkN ?_ _ | refine bkd ?_ | refine bka ?_ _)); exact BK167.out) hb); have n1_ := As0.mk (bst (by repeat (first | (with_reducible first | exact HB.out | apply bal | apply pwB_ | apply bd1 | refine bse ?_ GE167.out) | exact HB.out)) hb); clear BK167; clear HB; have BK167 := n0_; have HB := n1_; clear n0_ n1_; (try clear hb); (try clear hb2); (try clear hk); (try clear hi)))
      go_ret
      exact ⟨by first | rfl | (simp only [← hji43, ← hji45]; first | rfl) | (simp [*] <;> rfl), by repeat (first | (with_reducible first | exact HB.out | apply bal | apply pwB_ | apply bd1 | refine bse ?_ GE167.out) | exact HB.out)⟩
     ·rw [if_neg c44] at H
      exact absurd H (by simp)
    ·rw [if_neg c41] at H
     have c41b0 : decide (0 < t183) = false := decide_eq_false c41
     clear c41
     replace H := zob H
     obtain ⟨t186, A530, H⟩ := H
     replace H : (some t186) = some r := H
     have A53 := As0.mk A530
     clear A530
     obtain rfl := Option.some.inj H
     have hcz54_0 : wc.cell? ⟨gb167, 0, none⟩ = some (.int .i64 a0_0) := (bce BK167.out 0).trans rfl
     have hcz54_1 : wc.cell? ⟨gb167, 1, none⟩ = some (.int .i64 a0_1) := (bce BK167.out 1).trans rfl
     have hfz54_0 := bkf BK167.out 0
     have hfz54_1 := bkf BK167.out 1
     go_wp2_with (first | ((with_reducible refine gcl (f := 57) rfl ?_); refine goesL_ (some 57) rfl rfl Try.func57 (by kernel_rfl) rfl #[.agg #[.int .i64 a0_0, .int .i64 a0_1], .int .u64 a1] rfl (by (try simp only [zmt, zmc, zmn]); first | done | rfl) ?_; (with_reducible refine (ff_parts.calls a0_0 a0_1 a1 t177 t178 _ A37.out).mono ?_); rintro e w55 ⟨rfl, hb⟩; refine ⟨_, rfl, ?_⟩; have n0_ := As0.mk (bkb (g := gb167) (o := .cells #[.int .i64 a0_0, .int .i64 a0_1] 43 (0, 0)) (by (with_reducible repeat (first | refine bkN ?_ _ | refine bkd ?_ | refine bka ?_ _)); exact BK167.out) hb); have n1_ := As0.mk (bst (by repeat (first | (with_reducible first | exact HB.out | apply bal | apply pwB_ | apply bd1 | refine bse ?_ GE167.out) | exact HB.out)) hb); clear BK167; clear HB; have BK167 := n0_; have HB := n1_; clear n0_ n1_; (try clear hb); (try clear hb2); (try clear hk); (try clear hi); have hcz56_0 : w55.cell? ⟨gb167, 0, none⟩ = some (.int .i64 a0_0) := (bce BK167.out 0).trans rfl; have hcz56_1 : w55.cell? ⟨gb167, 1, none⟩ = some (.int .i64 a0_1) := (bce BK167.out 1).trans rfl; have hfz56_0 := bkf BK167.out 0; have hfz56_1 := bkf BK167.out 1) | ((with_reducible refine gcl (f := 57) rfl ?_); refine goesL_ (some 63) rfl rfl Try.func57 (by kernel_rfl) rfl #[.agg #[.int .i64 a0_0, .int .i64 a0_1], .int .u64 a2] rfl (by (try simp only [zmt, zmc, zmn]); first | done | rfl) ?_; (with_reducible refine (ff_parts.calls a0_0 a0_1 a2 t179 t180 _ A38.out).mono ?_); rintro e w57 ⟨rfl, hb⟩; refine ⟨_, rfl, ?_⟩; have n0_ := As0.mk (bkb (g := gb167) (o := .cells #[.int .i64 a0_0, .int .i64 a0_1] 43 (0, 0)) (by (with_reducible repeat (first | refine bkN ?_ _ | refine bkd ?_ | refine bka ?_ _)); exact BK167.out) hb); have n1_ := As0.mk (bst (by repeat (first | (with_reducible first | exact HB.out | apply bal | apply pwB_ | apply bd1 | refine bse ?_ GE167.out) | exact HB.out)) hb); clear BK167; clear HB; have BK167 := n0_; have HB := n1_; clear n0_ n1_; (try clear hb); (try clear hb2); (try clear hk); (try clear hi)) | ((with_reducible refine gcl (f := 66) rfl ?_); refine goesL_ (some 69) rfl rfl Try.func66 (by kernel_rfl) rfl #[.int .u64 t177, .int .u64 t179] rfl (by (try simp only [zmt, zmc, zmn]); first | done | rfl) ?_; (with_reducible refine (bits_Mul64.calls t177 t179 t181 t182 _ A39.out).mono ?_); rintro e w' ⟨rfl, ⟨nd, rfl⟩⟩; refine ⟨_, rfl, ?_⟩) | ((with_reducible refine gcl (f := 63) rfl ?_); refine goesL_ (some 73) rfl rfl Try.func63 (by kernel_rfl) rfl #[.int .u64 t181] rfl (by (try simp only [zmt, zmc, zmn]); first | done | rfl) ?_; (with_reducible refine (bits_Len64.calls t181 t183 _ A40.out).mono ?_); rintro e w' ⟨rfl, ⟨nd, rfl⟩⟩; refine ⟨_, rfl, ?_⟩; have hcz58_0 : w57.cell? ⟨gb167, 0, none⟩ = some (.int .i64 a0_0) := (bce BK167.out 0).trans rfl; have hcz58_1 : w57.cell? ⟨gb167, 1, none⟩ = some (.int .i64 a0_1) := (bce BK167.out 1).trans rfl; have hfz58_0 := bkf BK167.out 0; have hfz58_1 := bkf BK167.out 1) | ((with_reducible refine gcl (f := 33) rfl ?_); refine goesL_ (some 94) rfl rfl Try.func33 (by kernel_rfl) rfl #[.agg #[.int .i64 a0_0, .int .i64 a0_1], .bool (t168 != t169), .int .u64 t182, .int .i64 (wrap64 ((wrap64 (t178 + t180)) + t183)), .bool false] rfl (by (try simp only [zmt, zmc, zmn]); first | done | rfl) ?_; (with_reducible refine (ff_round.calls kj7 a0_0 a0_1 (t168 != t169) t182 (wrap64 ((wrap64 (t178 + t180)) + t183)) false t186 _ A53.out).mono ?_); rintro e w59 ⟨rfl, hb⟩; refine ⟨_, rfl, ?_⟩; have n0_ := As0.mk (bkb (g := gb167) (o := .cells #[.int .i64 a0_0, .int .i64 a0_1] 43 (0, 0)) (by (with_reducible repeat (first | refine bkN ?_ _ | refine bkd ?_ | refine bka ?_ _)); exact BK167.out) hb); have n1_ := As0.mk (bst (by repeat (first | (with_reducible first | exact HB.out | apply bal | apply pwB_ | apply bd1 | refine bse ?_ GE167.out) | exact HB.out)) hb); clear BK167; clear HB; have BK167 := n0_; have HB := n1_; clear n0_ n1_; (try clear hb); (try clear hb2); (try clear hk); (try clear hi)))
     go_ret
     exact ⟨by first | rfl | (simp [*] <;> rfl), by repeat (first | (with_reducible first | exact HB.out | apply bal | apply pwB_ | apply bd1 | refine bse ?_ GE167.out) | exact HB.out)⟩
def bits_LeadingZeros64.f (a0 : Int) : Option (Int) := (bits_Len64.f a0).bind fun t187 => (some (wrap64 (64 - t187)))
set_option maxHeartbeats 8000000 in
set_option maxRecDepth 100000 in
theorem bits_LeadingZeros64.calls (a0 : Int) (r : Int) (w : World) (h : bits_LeadingZeros64.f a0 = some r) :
  Calls Try.prog 67 #[.int .u64 a0] w fun e w' => e = .returned (.int .i64 r) ∧ Drawn0 w w' := by
 have H : ((bits_Len64.f a0).bind fun t187 => (some (wrap64 (64 - t187)))) = some r := h
 clear h
 replace H := zob H
 obtain ⟨t187, A20, H⟩ := H
 replace H : (some (wrap64 (64 - t187))) = some r := H
 have A2 := As0.mk A20
 clear A20
 obtain rfl := Option.some.inj H
 go_enter Try.func67, Try.ntmps67
 go_wp2_with (first | ((with_reducible refine gcl (f := 63) rfl ?_); refine goesL_ (some 4) rfl rfl Try.func63 (by kernel_rfl) rfl #[.int .u64 a0] rfl (by (try simp only [zmt, zmc, zmn]); first | done | rfl) ?_; (with_reducible refine (bits_Len64.calls a0 t187 _ A2.out).mono ?_); rintro e w' ⟨rfl, ⟨nd, rfl⟩⟩; refine ⟨_, rfl, ?_⟩))
 go_ret
 exact ⟨by first | rfl | (simp; done) | (simp [*]; done), by repeat (first | exact Drawn0.refl _ | apply Drawn0.step)⟩
end Go.Proofs.Ytjfmomogidgbpaa.PFl
